/- FoldRuns: the pairs of any events from any book on, and the book behind them, or the error, are those of the document. For every input; no condition. -/
import Derived.Test.YtajogedbacpohaaGreatDoorR00
import Derived.Test.YtajogedbacpohaaGreatDoorR14
import Derived.Test.YtajogedbacpohaaGreatDoorR22
import Derived.Test.YtajogedbacpohaaGreatDoorCards
import Derived.Test.YtajogedbacpohaaGreatDoorTie
set_option linter.unusedVariables false
set_option linter.unusedSimpArgs false
set_option maxRecDepth 1000000
set_option maxHeartbeats 32000000
namespace Go.Proofs.YtajogedbacpohaaGreatDoor.foldRuns
section
open Go.ChangeShapes Go.WideShapes Go.ChangeAt Go.RowKit
open Go.ChangeMaps (open_string shut_string)
theorem own : ownKnob Tryz.prog.godebug = none := by kernel_rfl
theorem contract (H : Type) (enc : TypeId × Value → H) (W : World) (base : Nat) (args : Array Value) (ds gs : List (DataW H)) (before : List MemPlace)
  (hval : ∀ (j : Nat) t v, Tryz.f4.params[j]? = some t → args[j]? = some v → Value.okWide Tryz.prog W .any base t v)
  (hW : DataW.Whole enc Tryz.prog Tryz.f4.params.toList Rows.foldRunsSpec.vars false W args.toList ds gs before) (hsz : (DataW.weightsEach Tryz.prog (Tryz.f4.params.toList ++ (OpenSpec.ofChange Rows.foldRunsSpec).bare.plain.varTypes Tryz.prog) (ds ++ gs)).all (· ≤ reachBytes) = true) (hL : laidMetH Tryz.prog Rows.foldRunsRow.laid W) :
  Calls Tryz.prog 4 args W fun e W' => ∃ v, e = .returned v ∧ Rows.foldRunsSpec.post enc Tryz.prog Tryz.f4 false true false false W args v W' := by
 have hW' := hW;obtain ⟨p, q, hA0, hV, rfl, hfz, hnd⟩ := hW;have hA : DataW.TrodAll enc Tryz.prog W 0 (fun _ => true) true Tryz.f4.params.toList args.toList ds p := hA0
 rw [Tryz.params4] at hA hval hsz;obtain ⟨v0, vs0, d0, ds0, p0, q0, hargs, rfl, rfl, h0, r0⟩ := trodAll_cons hA;obtain ⟨v1, vs1, d1, ds1, p1, q1, rfl, rfl, rfl, h1, r1⟩ := trodAll_cons r0;obtain ⟨v2, vs2, d2, ds2, p2, q2, rfl, rfl, rfl, h2, r2⟩ := trodAll_cons r1;obtain ⟨rfl, rfl, rfl⟩ := trodAll_nil r2;obtain rfl : args = #[v0, v1, v2] := by cases args; simp_all
 obtain ⟨rfl, rfl⟩ := trodVars_none hV;obtain ⟨b0, hb0, hi0⟩ := open_book (hval 0 27 v0 rfl rfl) h0;obtain ⟨A1, c1, L1, rfl, hv1, hn1, he1, hd1⟩ := open_evs (hval 1 44 v1 rfl rfl) h1;obtain ⟨a2, rfl, rfl, rfl, w2⟩ := open_int Tryz.underlying3 (hval 2 3 v2 rfl rfl) h2;refine (zz7b v0 b0 A1 c1 L1 a2 W (law16_of hL) (zH hb0) (zH ⟨hi0.1, hi0.2.1, hi0.2.2.1, hi0.2.2.2.1⟩) (zH hv1) (zH he1) (evs_len hsz (j := 1) rfl rfl hd1)).mono fun e W' ⟨he, hg⟩ => ?_
 exact ⟨_, he, law_post zk zk rfl Tryz.underlying4 rfl rfl hW' hg⟩
theorem laid_met (os : Os) : laidMetH Tryz.prog Rows.foldRunsRow.laid ((gateWorld os).forCall (fun _ _ => 0) ⟨#[], #[.agg BZ, .slice none 0 0, .int .i64 0], []⟩).memory :=
 laidMetH_of_parts3 (fuel := 8) (laidMet_of_run' 8 zk zk) zk zk
theorem reads (os : Os) {H : Type} (enc : TypeId × Value → H) : ∃ places, DataW.whole enc Tryz.prog ((gateWorld os).forCall (fun _ _ => 0) ⟨#[], #[.agg BZ, .slice none 0 0, .int .i64 0], []⟩).memory Tryz.f4.params.toList Rows.foldRunsSpec.vars false (#[.agg BZ, .slice none 0 0, .int .i64 0] : Array Value).toList 8 = some ([.agg [.nil, .nil, .nil, .nil, .lit (.int .i64 0)], .nil, .lit (.int .i64 0)], [], places) :=
 ⟨[], by kernel_rfl⟩
theorem lifted (os : Os) (started : os.Started) (H : Type) (enc : TypeId × Value → H) (F : Stop.Interp) :
  ReturnsInHanded {} Tryz.checked os 4 .any ((OpenSpec.ofChange Rows.foldRunsSpec).preRow enc Tryz.prog Tryz.f4 Rows.foldRunsRow.domain false Rows.foldRunsRow.laid) (((OpenSpec.ofChange Rows.foldRunsSpec).at F).post enc Tryz.prog Tryz.f4 false true false false) := by
 obtain ⟨places, hx⟩ := reads os enc;refine returnsInHanded_of_row (C := Tryz.checked) (s := OpenSpec.ofChange Rows.foldRunsSpec) own started zk Tryz.func4
  (witness_row_at (enc := enc) (C := Tryz.checked) false (gateWorld os) #[.agg BZ, .slice none 0 0, .int .i64 0] rfl zk zk zk
   (OpenSpec.preRow_of_cond 8 hx zk (fun k hk => by cases hk) zk (laid_met os))) ?_
 intro W base args ds gs before hval hW _ _ hsz hL _ _;exact contract H enc W base args ds gs before hval hW hsz hL
theorem said : Rows.FoldRunsSaid :=
 OpenClaim.holds_of_cond 4 Tryz.f4 rfl rfl rfl rfl rfl rfl rfl ⟨rfl, rfl, rfl, rfl, rfl⟩ rfl rfl rfl rfl rfl zk Tryz.func4 zk
  (of_decide_eq_true zk) (by unfold Func.isWrapper; first | (rw [if_pos (by decide +kernel)]; kernel_rfl) | (rw [if_neg (by decide +kernel)]; exact ⟨rfl, rfl⟩))
  (fun os started H enc _ F => by rw [OpenClaim.pre_eq_preRow]; exact lifted os started H enc F)
theorem plain (f : FuncId) (fn : Func) (hf : Tryz.pinned.checked.prog.funcNamed "engross/engrosslaw18.FoldRuns" = some f) (hfn : Tryz.pinned.checked.prog.funcs[f]? = some fn) :
  false = Tryz.pinned.checked.prog.looks [] ∧ ∀ (j : Nat) t, fn.params[j]? = some t → Tryz.pinned.checked.prog.wantsStandIn t = false := by
 obtain rfl : f = 4 := Option.some.inj ((show Tryz.prog.funcNamed "engross/engrosslaw18.FoldRuns" = some 4 by kernel_rfl).symm.trans hf) |>.symm
 obtain rfl : fn = Tryz.f4 := (Option.some.inj (Tryz.func4.symm.trans hfn)).symm;refine ⟨by kernel_rfl, fun j t ht => ?_⟩
 rw [Tryz.params4] at ht;have hm := Array.mem_of_getElem? ht;have hall : (#[27, 44, 3] : Array TypeId).toList.all (fun t => ! Tryz.prog.wantsStandIn t) = true := by kernel_rfl
 have := List.all_eq_true.1 hall t (by simpa using hm)
 exact (show Tryz.prog.wantsStandIn t = false by simpa using this)
theorem proved : Rows.FoldRunsCardSaid :=
 Claim7.holds_tied_plain_at .later [] _ _ _ _ said (fun _ h => by cases h) zk (fun _ h => by cases h) foldRuns_row_tie rfl ⟨rfl, rfl⟩ zk rfl plain zk
#print axioms proved
end
end Go.Proofs.YtajogedbacpohaaGreatDoor.foldRuns
