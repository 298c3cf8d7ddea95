/- HeadChains: the last hash of any headers, or that they do not chain, is the document's. For every input; no condition. -/
import Derived.Test.YtgjehokkmdbknaaDoorShaLaid
import Derived.Test.YtgjehokkmdbknaaDoorHeadH
import Derived.Test.YtgjehokkmdbknaaDoorLeaf
namespace Go.Proofs.YtgjehokkmdbknaaDoor.headChains
open Go.ChangeShapes Go.WideShapes Go.ChangeAt Go.RowKit
open Go.ChangeMaps (open_string shut_string)
set_option linter.unusedVariables false

theorem own : ownKnob Tryd.prog.godebug = none := by kernel_rfl

set_option maxRecDepth 100000 in
theorem contract (H : Type) (enc : TypeId × Value → H) (W : World) (base : Nat) (args : Array Value) (ds gs : List (DataW H)) (before : List MemPlace)
    (hval : ∀ (j : Nat) t v, Tryd.f9.params[j]? = some t → args[j]? = some v → Value.okWide Tryd.prog W .any base t v)
    (hW : DataW.Whole enc Tryd.prog Tryd.f9.params.toList Rows.headChainsSpec.vars false W args.toList ds gs before) (hL : laidMetH Tryd.prog Rows.headChainsRow.laid W) :
    Calls Tryd.prog 9 args W fun e W' => ∃ v, e = .returned v ∧ Rows.headChainsSpec.post enc Tryd.prog Tryd.f9 false true false false W args v W' := by
  have hW' := hW
  obtain ⟨p, q, hA0, hV, rfl, hfz, hnd⟩ := hW
  have hA : DataW.TrodAll enc Tryd.prog W 0 (fun _ => true) true Tryd.f9.params.toList args.toList ds p := hA0
  rw [Tryd.params9] at hA hval
  obtain ⟨v0, vs0, d0, ds0, p0, q0, hargs, rfl, rfl, h0, r0⟩ := trodAll_cons hA
  obtain ⟨v1, vs1, d1, ds1, p1, q1, rfl, rfl, rfl, h1, r1⟩ := trodAll_cons r0
  obtain ⟨rfl, rfl, rfl⟩ := trodAll_nil r1
  obtain rfl : args = #[v0, v1] := by cases args; simp_all
  obtain ⟨rfl, rfl⟩ := trodVars_none hV
  obtain ⟨A, n, c, hv0, hn, hQ⟩ := open_rows Tryd.underlying57 Tryd.underlying60 (by kernel_rfl) (by kernel_rfl) (by decide) (hval 0 57 v0 rfl rfl) h0
  subst hv0
  have hA2 : ∀ i, ∃ h : Hd, i < n → ∃ b o, A = some ⟨b, o, none⟩ ∧ b < W.heap.size ∧ ∀ j v, h.cells[j]? = some v → W.cell? ⟨b, o + i * 6 + j, none⟩ = some v := by
    intro i
    by_cases hi : i < n
    · obtain ⟨b, o, ha, hb, hF⟩ := hQ i hi
      obtain ⟨u0, y0, m0, k0, t0⟩ := hF 0 _ rfl
      obtain ⟨u1, y1, m1, k1, t1⟩ := hF 1 _ rfl
      obtain ⟨u2, y2, m2, k2, t2⟩ := hF 2 _ rfl
      obtain ⟨u3, y3, m3, k3, t3⟩ := hF 3 _ rfl
      obtain ⟨u4, y4, m4, k4, t4⟩ := hF 4 _ rfl
      obtain ⟨u5, y5, m5, k5, t5⟩ := hF 5 _ rfl
      obtain ⟨z0, rfl, _⟩ := leaf_int Tryd.underlying3 t0
      obtain ⟨z1, rfl, _⟩ := leaf_int Tryd.underlying3 t1
      obtain ⟨z2, rfl, _⟩ := leaf_int Tryd.underlying3 t2
      obtain ⟨z3, rfl, _⟩ := leaf_int Tryd.underlying3 t3
      obtain ⟨z4, rfl, _⟩ := leaf_string Tryd.underlying9 t4
      obtain ⟨z5, rfl, _⟩ := leaf_string Tryd.underlying9 t5
      refine ⟨⟨z0, z1, z2, z3, z4, z5⟩, fun _ => ⟨b, o, ha, hb, fun j v hj => ?_⟩⟩
      match j, hj with
      | 0, hj => obtain rfl := Option.some.inj hj; exact k0
      | 1, hj => obtain rfl := Option.some.inj hj; exact k1
      | 2, hj => obtain rfl := Option.some.inj hj; exact k2
      | 3, hj => obtain rfl := Option.some.inj hj; exact k3
      | 4, hj => obtain rfl := Option.some.inj hj; exact k4
      | 5, hj => obtain rfl := Option.some.inj hj; exact k5
      | j + 6, hj => cases hj
    · exact ⟨⟨0, 0, 0, 0, ⟨#[]⟩, ⟨#[]⟩⟩, fun h => absurd h hi⟩
  obtain ⟨g, hg⟩ := Classical.axiomOfChoice hA2
  obtain ⟨a1, rfl, rfl, rfl, w1⟩ := open_int Tryd.underlying3 (hval 1 3 v1 rfl rfl) h1
  refine (HeadChains_walk A n c g a1 W (sha_of hL) (Lib.hid hg) (by unfold maxLen at hn; exact hn) (wf_i64 w1)).mono fun e W' ⟨he, hg⟩ => ?_
  exact ⟨_, he, law_post (by kernel_rfl) (by kernel_rfl) rfl Tryd.underlying4 rfl rfl hW' hg⟩

theorem laid_met (os : Os) : laidMet Tryd.prog Rows.headChainsRow.laid ((shaWorld os).forCall (fun _ _ => 0) ⟨#[], #[.slice none 0 0, .int .i64 0], []⟩).memory :=
  laidMet_of_run' 8 (by kernel_rfl) (by kernel_rfl)
theorem reads (os : Os) {H : Type} (enc : TypeId × Value → H) : ∃ places, DataW.whole enc Tryd.prog ((shaWorld os).forCall (fun _ _ => 0) ⟨#[], #[.slice none 0 0, .int .i64 0], []⟩).memory Tryd.f9.params.toList Rows.headChainsSpec.vars false (#[.slice none 0 0, .int .i64 0] : Array Value).toList 8 = some ([.nil, .lit (.int .i64 0)], [], places) :=
  ⟨[], by kernel_rfl⟩

set_option maxRecDepth 100000 in
theorem lifted (os : Os) (started : os.Started) (H : Type) (enc : TypeId × Value → H) (F : Stop.Interp) :
    ReturnsInHanded {} Tryd.checked os 9 .any ((OpenSpec.ofChange Rows.headChainsSpec).preRow enc Tryd.prog Tryd.f9 Rows.headChainsRow.domain false Rows.headChainsRow.laid) (((OpenSpec.ofChange Rows.headChainsSpec).at F).post enc Tryd.prog Tryd.f9 false true false false) := by
  obtain ⟨places, hx⟩ := reads os enc
  refine returnsInHanded_of_row (C := Tryd.checked) (s := OpenSpec.ofChange Rows.headChainsSpec) own started (by kernel_rfl) Tryd.func9
    (witness_row_at (enc := enc) (C := Tryd.checked) false (shaWorld os) #[.slice none 0 0, .int .i64 0] rfl (by kernel_rfl) (by kernel_rfl) (by kernel_rfl)
      (OpenSpec.preRow_of_cond 8 hx (by kernel_rfl) (fun k hk => by cases hk) (by kernel_rfl) (laid_met os))) ?_
  intro W base args ds gs before hval hW _ _ _ hL _ _
  exact contract H enc W base args ds gs before hval hW hL

theorem said : Rows.HeadChainsSaid :=
  OpenClaim.holds_of_cond 9 Tryd.f9 rfl rfl rfl rfl rfl rfl rfl ⟨rfl, rfl, rfl, rfl, rfl⟩ rfl rfl rfl rfl rfl (by kernel_rfl) Tryd.func9 (by kernel_rfl)
    (of_decide_eq_true (by kernel_rfl)) (by unfold Func.isWrapper; first | (rw [if_pos (by decide +kernel)]; kernel_rfl) | (rw [if_neg (by decide +kernel)]; exact ⟨rfl, rfl⟩))
    (fun os started H enc _ F => by rw [OpenClaim.pre_eq_preRow]; exact lifted os started H enc F)

theorem plain (f : FuncId) (fn : Func) (hf : Tryd.pinned.checked.prog.funcNamed "engross/engrosslaw08.HeadChains" = some f) (hfn : Tryd.pinned.checked.prog.funcs[f]? = some fn) :
    false = Tryd.pinned.checked.prog.looks [] ∧ ∀ (j : Nat) t, fn.params[j]? = some t → Tryd.pinned.checked.prog.wantsStandIn t = false := by
  obtain rfl : f = 9 := Option.some.inj ((show Tryd.prog.funcNamed "engross/engrosslaw08.HeadChains" = some 9 by kernel_rfl).symm.trans hf) |>.symm
  obtain rfl : fn = Tryd.f9 := (Option.some.inj (Tryd.func9.symm.trans hfn)).symm
  refine ⟨by kernel_rfl, fun j t ht => ?_⟩
  rw [Tryd.params9] at ht
  have hm := Array.mem_of_getElem? ht
  have hall : (#[57, 3] : Array TypeId).toList.all (fun t => ! Tryd.prog.wantsStandIn t) = true := by kernel_rfl
  have := List.all_eq_true.1 hall t (by simpa using hm)
  exact (show Tryd.prog.wantsStandIn t = false by simpa using this)

theorem proved : Rows.HeadChainsCardSaid :=
  Claim7.holds_tied_plain_at .later [] _ _ _ _ said (fun _ h => by cases h) (by kernel_rfl) (fun _ h => by cases h) headChains_row_tie rfl ⟨rfl, rfl⟩ (by kernel_rfl) rfl plain (by kernel_rfl)
#print axioms proved
end Go.Proofs.YtgjehokkmdbknaaDoor.headChains
