/- NumsReads: whatever is done with a reader of any bytes: each answer, each fault, and how much is left, are the document's. For every input; no condition. -/
import Derived.Test.YtgjehokkmdbknaaOpen
import Derived.Test.YtgjehokkmdbknaaRows
import Derived.Test.YtgjehokkmdbknaaNumsReadsA
import Derived.Test.YtgjehokkmdbknaaPost
namespace Go.Proofs.Ytgjehokkmdbknaa.numsReads
open Go.ChangeShapes Go.WideShapes Go.ChangeAt Go.RowKit
open Go.ChangeMaps (open_string shut_string)
set_option linter.unusedVariables false

theorem own : ownKnob Try.prog.godebug = none := by kernel_rfl

set_option maxRecDepth 100000 in
theorem lifted (os : Os) (started : os.Started) (H : Type) (enc : TypeId × Value → H) :
    ReturnsInHanded {} Try.checked os 6 .any (Rows.numsReadsSpec.pre6 enc Try.prog Try.f6 Rows.numsReadsRow.domain false) (Rows.numsReadsSpec.post enc Try.prog Try.f6 false true false false) := by
  refine returnsInHanded_of_change (C := Try.checked) own started (by kernel_rfl) Try.func6
    (ChangeSpec.witness6 (enc := enc) (C := Try.checked) false ⟨#[], #[.string ByteArray.empty, .slice none 0 0], []⟩ 8 (by kernel_rfl) (by kernel_rfl) (by kernel_rfl) (by kernel_rfl)) ?_
  intro W base args ds gs before hval0 hW hcnd _
  have hval : ∀ (j : Nat) t v, Try.f6.params[j]? = some t → args[j]? = some v → Value.okWide Try.prog W .any base t v := hval0
  have hW' := hW
  obtain ⟨p, q, hA0, hV, rfl, hfz, hnd⟩ := hW
  have hA : DataW.TrodAll enc Try.prog W 0 (fun _ => true) true Try.f6.params.toList args.toList ds p := hA0
  rw [Try.params6] at hA hval
  obtain ⟨v0, vs0, d0, ds0, p0, q0, hargs, rfl, rfl, h0, r0⟩ := trodAll_cons hA
  obtain ⟨v1, vs1, d1, ds1, p1, q1, rfl, rfl, rfl, h1, r1⟩ := trodAll_cons r0
  obtain ⟨rfl, rfl, rfl⟩ := trodAll_nil r1
  obtain rfl : args = #[v0, v1] := by cases args; simp_all
  obtain ⟨rfl, rfl⟩ := trodVars_none hV
  obtain ⟨a0, rfl, rfl, rfl, w0⟩ := open_string Try.underlying9 (hval 0 9 v0 rfl rfl) h0
  obtain ⟨A, n, c, rfl, hn, hA⟩ := open_rows Try.underlying40 Try.underlying44 (by kernel_rfl) (by kernel_rfl) (by decide) (hval 1 40 v1 rfl rfl) h1
  have w0' : a0.size ≤ 9223372036854775807 := by unfold maxLen at w0; exact w0
  have hn' : n ≤ 9223372036854775807 := by unfold maxLen at hn; exact hn
  have main : Calls Try.prog 6 #[.string a0, .slice A n c] W fun e w' => e = .returned (.bool true) ∧ Below W.heap.size W w' := by
    by_cases hg : 2000 < a0.size ∨ 40 < n
    · exact NumsReads_great a0 W A n c w0' hn' hg
    · have each : ∀ i, ∃ q : Int × Int, i < n → ∃ b o, A = some ⟨b, o, none⟩ ∧ b < W.heap.size ∧ W.cell? ⟨b, o + i * 2, none⟩ = some (.int .u8 q.1) ∧ W.cell? ⟨b, o + i * 2 + 1, none⟩ = some (.int .i64 q.2) ∧ 0 ≤ q.1 ∧ q.1 ≤ 255 ∧ I64 q.2 := by
        intro i
        by_cases hi : i < n
        · obtain ⟨b, o, hAe, hb, hf⟩ := hA i hi
          obtain ⟨u0, y0, m0, hc0, ht0⟩ := hf 0 _ rfl
          obtain ⟨u1, y1, m1, hc1, ht1⟩ := hf 1 _ rfl
          obtain ⟨k, e0, _, wk⟩ := DataW.trod_int Try.underlying5 ht0
          obtain ⟨x, e1, _, wx⟩ := DataW.trod_int Try.underlying3 ht1
          simp at e0 e1
          subst e0 e1
          have hk := (wf_u8 wk).out
          exact ⟨(k, x), fun _ => ⟨b, o, hAe, hb, hc0, hc1, hk.1, hk.2, (wf_i64 wx).out⟩⟩
        · exact ⟨(0, 0), fun h => absurd h hi⟩
      obtain ⟨q, hq⟩ := Classical.axiomOfChoice each
      exact NumsReads_loop a0 W A n c (fun i => (q i).1) (fun i => (q i).2) (by omega) (by omega) hq
  refine main.mono fun e W' ⟨he, hg⟩ => ?_
  exact ⟨_, he, law_post (by kernel_rfl) (by kernel_rfl) rfl Try.underlying4 rfl rfl hW' hg⟩

theorem proved : Rows.NumsReadsSaid :=
  OpenClaim.holds_of_wide 6 Try.f6 rfl rfl rfl rfl rfl rfl rfl ⟨rfl, rfl, rfl, rfl, rfl⟩ rfl rfl rfl rfl rfl (by kernel_rfl) Try.func6 (by kernel_rfl)
    (of_decide_eq_true (by kernel_rfl)) (by unfold Func.isWrapper; first | (rw [if_pos (by decide +kernel)]; kernel_rfl) | (rw [if_neg (by decide +kernel)]; exact ⟨rfl, rfl⟩))
    (fun os started H enc _ => lifted os started H enc)
#print axioms proved
end Go.Proofs.Ytgjehokkmdbknaa.numsReads
