/- GateExplains: what explains any event, or the error, is that of the document. For every input; no condition. -/
import Derived.Test.YtajogedbacpohaaGreatDoorE00
import Derived.Test.YtajogedbacpohaaGreatDoorE13
import Derived.Test.YtajogedbacpohaaGreatDoorE22
import Derived.Test.YtajogedbacpohaaGreatDoorCards
import Derived.Test.YtajogedbacpohaaGreatDoorTie
set_option linter.unusedVariables false
set_option linter.unusedSimpArgs false
set_option maxRecDepth 1000000
set_option maxHeartbeats 32000000
namespace Go.Proofs.YtajogedbacpohaaGreatDoor.gateExplains
section
open Go.ChangeShapes Go.WideShapes Go.ChangeAt Go.RowKit
open Go.ChangeMaps (open_string shut_string)
theorem own : ownKnob Tryz.prog.godebug = none := by kernel_rfl
theorem contract (H : Type) (enc : TypeId × Value → H) (W : World) (base : Nat) (args : Array Value) (ds gs : List (DataW H)) (before : List MemPlace)
  (hval : ∀ (j : Nat) t v, Tryz.f7.params[j]? = some t → args[j]? = some v → Value.okWide Tryz.prog W .any base t v)
  (hW : DataW.Whole enc Tryz.prog Tryz.f7.params.toList Rows.gateExplainsSpec.vars false W args.toList ds gs before) (hsz : (DataW.weightsEach Tryz.prog (Tryz.f7.params.toList ++ (OpenSpec.ofChange Rows.gateExplainsSpec).bare.plain.varTypes Tryz.prog) (ds ++ gs)).all (· ≤ reachBytes) = true) (hL : laidMetH Tryz.prog Rows.gateExplainsRow.laid W) :
  Calls Tryz.prog 7 args W fun e W' => ∃ v, e = .returned v ∧ Rows.gateExplainsSpec.post enc Tryz.prog Tryz.f7 false true false false W args v W' := by
 have hW' := hW;obtain ⟨p, q, hA0, hV, rfl, hfz, hnd⟩ := hW;have hA : DataW.TrodAll enc Tryz.prog W 0 (fun _ => true) true Tryz.f7.params.toList args.toList ds p := hA0
 rw [Tryz.params7] at hA hval hsz;obtain ⟨v0, vs0, d0, ds0, p0, q0, hargs, rfl, rfl, h0, r0⟩ := trodAll_cons hA;obtain ⟨v1, vs1, d1, ds1, p1, q1, rfl, rfl, rfl, h1, r1⟩ := trodAll_cons r0;obtain ⟨v2, vs2, d2, ds2, p2, q2, rfl, rfl, rfl, h2, r2⟩ := trodAll_cons r1;obtain ⟨rfl, rfl, rfl⟩ := trodAll_nil r2;obtain rfl : args = #[v0, v1, v2] := by cases args; simp_all
 obtain ⟨rfl, rfl⟩ := trodVars_none hV;obtain ⟨b0, hb0, hi0⟩ := open_book (hval 0 27 v0 rfl rfl) h0;obtain ⟨e1, rfl, he1⟩ := open_ev (hval 1 29 v1 rfl rfl) h1;obtain ⟨a2, rfl, rfl, rfl, w2⟩ := open_int Tryz.underlying3 (hval 2 3 v2 rfl rfl) h2;refine (zz3p v0 b0 e1 a2 W (zz8q hL).1 (zz8q hL).2 (zH hb0) (zH ⟨hi0.1, hi0.2.1, hi0.2.2.1, hi0.2.2.2.1⟩) (zH he1) (zz4z w2)).mono fun e W' ⟨he, hg⟩ => ?_
 exact ⟨_, he, law_post zk zk rfl Tryz.underlying4 rfl rfl hW' hg⟩
theorem laid_met (os : Os) : laidMetH Tryz.prog Rows.gateExplainsRow.laid ((exWorld os).forCall (fun _ _ => 0) ⟨#[], #[.agg BZ, .agg #[.int .i64 0, .int .i64 0, .int .i64 0, .int .i64 0, .int .i64 0, .int .i64 0, .int .i64 0], .int .i64 0], []⟩).memory :=
 laidMetH_of_parts3 (fuel := 8) (laidMet_of_run' 8 zk zk) zk zk
theorem reads (os : Os) {H : Type} (enc : TypeId × Value → H) : ∃ places, DataW.whole enc Tryz.prog ((exWorld os).forCall (fun _ _ => 0) ⟨#[], #[.agg BZ, .agg #[.int .i64 0, .int .i64 0, .int .i64 0, .int .i64 0, .int .i64 0, .int .i64 0, .int .i64 0], .int .i64 0], []⟩).memory Tryz.f7.params.toList Rows.gateExplainsSpec.vars false (#[.agg BZ, .agg #[.int .i64 0, .int .i64 0, .int .i64 0, .int .i64 0, .int .i64 0, .int .i64 0, .int .i64 0], .int .i64 0] : Array Value).toList 8 = some ([.agg [.nil, .nil, .nil, .nil, .lit (.int .i64 0)], .agg [.lit (.int .i64 0), .lit (.int .i64 0), .lit (.int .i64 0), .lit (.int .i64 0), .lit (.int .i64 0), .lit (.int .i64 0), .lit (.int .i64 0)], .lit (.int .i64 0)], [], places) :=
 ⟨[], by kernel_rfl⟩
theorem lifted (os : Os) (started : os.Started) (H : Type) (enc : TypeId × Value → H) (F : Stop.Interp) :
  ReturnsInHanded {} Tryz.checked os 7 .any ((OpenSpec.ofChange Rows.gateExplainsSpec).preRow enc Tryz.prog Tryz.f7 Rows.gateExplainsRow.domain false Rows.gateExplainsRow.laid) (((OpenSpec.ofChange Rows.gateExplainsSpec).at F).post enc Tryz.prog Tryz.f7 false true false false) := by
 obtain ⟨places, hx⟩ := reads os enc;refine returnsInHanded_of_row (C := Tryz.checked) (s := OpenSpec.ofChange Rows.gateExplainsSpec) own started zk Tryz.func7
  (witness_row_at (enc := enc) (C := Tryz.checked) false (exWorld os) #[.agg BZ, .agg #[.int .i64 0, .int .i64 0, .int .i64 0, .int .i64 0, .int .i64 0, .int .i64 0, .int .i64 0], .int .i64 0] rfl zk zk zk
   (OpenSpec.preRow_of_cond 8 hx zk (fun k hk => by cases hk) zk (laid_met os))) ?_
 intro W base args ds gs before hval hW _ _ hsz hL _ _;exact contract H enc W base args ds gs before hval hW hsz hL
theorem said : Rows.GateExplainsSaid :=
 OpenClaim.holds_of_cond 7 Tryz.f7 rfl rfl rfl rfl rfl rfl rfl ⟨rfl, rfl, rfl, rfl, rfl⟩ rfl rfl rfl rfl rfl zk Tryz.func7 zk
  (of_decide_eq_true zk) (by unfold Func.isWrapper; first | (rw [if_pos (by decide +kernel)]; kernel_rfl) | (rw [if_neg (by decide +kernel)]; exact ⟨rfl, rfl⟩))
  (fun os started H enc _ F => by rw [OpenClaim.pre_eq_preRow]; exact lifted os started H enc F)
theorem plain (f : FuncId) (fn : Func) (hf : Tryz.pinned.checked.prog.funcNamed "engross/engrosslaw17.GateExplains" = some f) (hfn : Tryz.pinned.checked.prog.funcs[f]? = some fn) :
  false = Tryz.pinned.checked.prog.looks [] ∧ ∀ (j : Nat) t, fn.params[j]? = some t → Tryz.pinned.checked.prog.wantsStandIn t = false := by
 obtain rfl : f = 7 := Option.some.inj ((show Tryz.prog.funcNamed "engross/engrosslaw17.GateExplains" = some 7 by kernel_rfl).symm.trans hf) |>.symm
 obtain rfl : fn = Tryz.f7 := (Option.some.inj (Tryz.func7.symm.trans hfn)).symm;refine ⟨by kernel_rfl, fun j t ht => ?_⟩
 rw [Tryz.params7] at ht;have hm := Array.mem_of_getElem? ht;have hall : (#[27, 29, 3] : Array TypeId).toList.all (fun t => ! Tryz.prog.wantsStandIn t) = true := by kernel_rfl
 have := List.all_eq_true.1 hall t (by simpa using hm)
 exact (show Tryz.prog.wantsStandIn t = false by simpa using this)
theorem proved : Rows.GateExplainsCardSaid :=
 Claim7.holds_tied_plain_at .later [] _ _ _ _ said (fun _ h => by cases h) zk (fun _ h => by cases h) gateExplains_row_tie rfl ⟨rfl, rfl⟩ zk rfl plain zk
#print axioms proved
end
end Go.Proofs.YtajogedbacpohaaGreatDoor.gateExplains
