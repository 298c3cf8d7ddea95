/- MoneySums: the sum of any products, behind each, and any share of it, are told exactly, or not at all. For every input; no condition. -/
import Derived.Test.YteeemoknbnlopaaOpen
import Derived.Test.YteeemoknbnlopaaLeaf
import Derived.Test.YteeemoknbnlopaaRows
import Derived.Test.YteeemoknbnlopaaBigK
import Derived.Test.YteeemoknbnlopaaPost
namespace Go.Proofs.Yteeemoknbnlopaa.moneySums
open Go.ChangeShapes Go.WideShapes Go.ChangeAt Go.RowKit
open Go.ChangeMaps (open_string shut_string)
set_option linter.unusedVariables false

theorem own : ownKnob Try.prog.godebug = none := by kernel_rfl

set_option maxRecDepth 100000 in
theorem lifted (os : Os) (started : os.Started) (H : Type) (enc : TypeId × Value → H) :
    ReturnsInHanded {} Try.checked os 3 .any (Rows.moneySumsSpec.pre6 enc Try.prog Try.f3 Rows.moneySumsRow.domain false) (Rows.moneySumsSpec.post enc Try.prog Try.f3 false true false false) := by
  refine returnsInHanded_of_change (C := Try.checked) own started (by kernel_rfl) Try.func3
    (ChangeSpec.witness6 (enc := enc) (C := Try.checked) false ⟨#[], #[.slice none 0 0, .int .i64 0], []⟩ 8 (by kernel_rfl) (by kernel_rfl) (by kernel_rfl) (by kernel_rfl)) ?_
  intro W base args ds gs before hval0 hW hcnd _
  have hval : ∀ (j : Nat) t v, Try.f3.params[j]? = some t → args[j]? = some v → Value.okWide Try.prog W .any base t v := hval0
  have hW' := hW
  obtain ⟨p, q, hA0, hV, rfl, hfz, hnd⟩ := hW
  have hA : DataW.TrodAll enc Try.prog W 0 (fun _ => true) true Try.f3.params.toList args.toList ds p := hA0
  rw [Try.params3] at hA hval
  obtain ⟨v0, vs0, d0, ds0, p0, q0, hargs, rfl, rfl, h0, r0⟩ := trodAll_cons hA
  obtain ⟨v1, vs1, d1, ds1, p1, q1, rfl, rfl, rfl, h1, r1⟩ := trodAll_cons r0
  obtain ⟨rfl, rfl, rfl⟩ := trodAll_nil r1
  obtain rfl : args = #[v0, v1] := by cases args; simp_all
  obtain ⟨rfl, rfl⟩ := trodVars_none hV
  obtain ⟨a1, rfl, rfl, rfl, w1⟩ := open_int Try.underlying3 (hval 1 3 v1 rfl rfl) h1
  obtain ⟨A, n, c, hv0, hn, hQ⟩ := open_rows Try.underlying22 Try.underlying32 (by kernel_rfl) (by kernel_rfl) (by decide) (hval 0 22 v0 rfl rfl) h0
  subst hv0
  have hA2 : ∀ i, ∃ h : Int × Int, i < n → ∃ b o, A = some ⟨b, o, none⟩ ∧ b < W.heap.size ∧ W.cell? ⟨b, o + i * 2, none⟩ = some (.int .i64 h.1) ∧ W.cell? ⟨b, o + i * 2 + 1, none⟩ = some (.int .i64 h.2) ∧ I64 h.1 ∧ I64 h.2 := by
    intro i
    by_cases hi : i < n
    · obtain ⟨b, o, ha, hb, hF⟩ := hQ i hi
      obtain ⟨u0, y0, m0, k0, t0⟩ := hF 0 _ rfl
      obtain ⟨u1, y1, m1, k1, t1⟩ := hF 1 _ rfl
      obtain ⟨z0, rfl, f0⟩ := leaf_int Try.underlying2 t0
      obtain ⟨z1, rfl, f1⟩ := leaf_int Try.underlying2 t1
      exact ⟨(z0, z1), fun _ => ⟨b, o, ha, hb, k0, k1, (wf_i64 f0).out, (wf_i64 f1).out⟩⟩
    · exact ⟨(0, 0), fun h => absurd h hi⟩
  obtain ⟨g, hg⟩ := Classical.axiomOfChoice hA2
  refine (MoneySums_walk A n c g a1 W (Lib.hid fun i hi => hg i hi) (wf_i64 w1) (by unfold maxLen at hn; omega)).mono fun e W' ⟨he, hg⟩ => ?_
  exact ⟨_, he, law_post (by kernel_rfl) (by kernel_rfl) rfl Try.underlying4 rfl rfl hW' hg⟩

theorem proved : Rows.MoneySumsSaid :=
  OpenClaim.holds_of_wide 3 Try.f3 rfl rfl rfl rfl rfl rfl rfl ⟨rfl, rfl, rfl, rfl, rfl⟩ rfl rfl rfl rfl rfl (by kernel_rfl) Try.func3 (by kernel_rfl)
    (of_decide_eq_true (by kernel_rfl)) (by unfold Func.isWrapper; first | (rw [if_pos (by decide +kernel)]; kernel_rfl) | (rw [if_neg (by decide +kernel)]; exact ⟨rfl, rfl⟩))
    (fun os started H enc _ => lifted os started H enc)
#print axioms proved
end Go.Proofs.Yteeemoknbnlopaa.moneySums
