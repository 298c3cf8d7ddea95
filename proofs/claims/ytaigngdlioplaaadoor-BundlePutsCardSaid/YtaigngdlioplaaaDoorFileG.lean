/- The bundle's laws: alive29, BundleGets. -/
import Derived.Test.YtaigngdlioplaaaDoorFileF
import Derived.Test.YtaigngdlioplaaaDoorPost
namespace Go.Proofs.YtaigngdlioplaaaDoor
open Go Go.RowKit
set_option linter.unusedVariables false
set_option linter.unusedSimpArgs false

theorem putFrom_snoc (s0 : ByteArray) (l : List Fil) (f : Fil) : putFrom s0 (l ++ [f]) = (putFrom s0 l ++ rowStr f.1) ++ rowStr f.2 := by
  unfold putFrom; rw [List.foldl_append]; rfl
/-- What is read well is put as it was. -/
theorem getR_well (s : ByteArray) (s0 : ByteArray) : ∀ (n p : Nat) (acc : List Fil), p ≤ s.size → putFrom s0 acc = s.extract 0 p → (getR s n p 0 acc).2.2 = 0 →
    putFrom s0 (getR s n p 0 acc).1 = s.extract 0 (getR s n p 0 acc).2.1 ∧ (getR s n p 0 acc).1.length = acc.length + n ∧ (getR s n p 0 acc).2.1 ≤ s.size
  | 0, p, acc, hp, h, _ => ⟨h, rfl, hp⟩
  | n + 1, p, acc, hp, h, hz => by
    rw [getR] at hz ⊢
    by_cases hb : (btR s p 0).2.2 = 0
    · rw [if_pos hb] at hz ⊢
      have hp1 : (nmR s p 0).2.1 ≤ s.size := rRow_p_le s p 0 16 hp
      have w2 := rRow_well s (nmR s p 0).2.1 (nmR s p 0).2.2 1048576 hp1 hb
      have w1 := rRow_well s p 0 16 hp w2.1
      have e1 : rowStr (nmR s p 0).1 = s.extract p (nmR s p 0).2.1 := w1.2.2.2.2
      have e2 : rowStr (btR s p 0).1 = s.extract (nmR s p 0).2.1 (btR s p 0).2.1 := w2.2.2.2.2
      have l1 : p ≤ (nmR s p 0).2.1 := w1.2.2.1
      have l2 : (nmR s p 0).2.1 ≤ (btR s p 0).2.1 := w2.2.2.1
      have l3 : (btR s p 0).2.1 ≤ s.size := w2.2.2.2.1
      have ih := getR_well s s0 n (btR s p 0).2.1 (acc ++ [((nmR s p 0).1, (btR s p 0).1)]) l3 (by
        rw [putFrom_snoc, h]
        simp only []
        rw [e1, e2, ext_join s 0 p _ (Nat.zero_le _) l1, ext_join s 0 _ _ (Nat.zero_le _) l2]) hz
      refine ⟨ih.1, ?_, ih.2.2⟩
      rw [ih.2.1, List.length_append]
      simp; omega
    · rw [if_neg hb] at hz
      exact absurd hz hb
theorem getE_zero {s : ByteArray} (h : getE s = 0) : (allR s).2.2 = 0 ∧ ¬ (allR s).2.1 < s.size ∧ mayF (allR s).1 = true ∧ usedF (allR s).1 ≤ 1048576 := by
  unfold getE at h
  generalize allR s = r at *
  obtain ⟨l, p, f⟩ := r
  show f = 0 ∧ ¬ p < s.size ∧ mayF l = true ∧ usedF l ≤ 1048576
  by_cases hf : f = 0
  · subst hf
    by_cases h1 : p < s.size ∨ mayF l = false
    · rw [endE_form h1] at h; exact absurd h (by decide)
    · by_cases h2 : 1048576 < usedF l
      · rw [endE_much h1 h2] at h; exact absurd h (by decide)
      · refine ⟨rfl, fun h => h1 (.inl h), ?_, by omega⟩
        cases hm : mayF l
        · exact absurd (Or.inr hm) h1
        · rfl
  · rw [endE_bad hf] at h; exact absurd h hf
theorem getL_ok (s : ByteArray) : (getL s).length ≤ 4096 ∧ Short (getL s) ∧ usedF (getL s) ≤ 1048576 := by
  unfold getL
  by_cases h : getE s = 0
  · rw [if_pos h]
    have z := getE_zero h
    have m := mayF_short z.2.2.1
    exact ⟨m.2, m.1, z.2.2.2⟩
  · rw [if_neg h]
    exact ⟨by simp, fun i f hf => by simp at hf, by simp [usedF]⟩
theorem got_put {s : ByteArray} (h : getE s = 0) : putE (getL s) = 0 ∧ putV (getL s) = s := by
  have z := getE_zero h
  have hL : getL s = (allR s).1 := if_pos h
  have hE : putE (getL s) = 0 := by unfold putE; rw [hL, z.2.2.1, if_pos rfl, if_pos z.2.2.2]
  refine ⟨hE, ?_⟩
  unfold putV
  rw [if_pos hE, hL]
  have hb : (rNum s 0 0 4096).2.2 = 0 := by
    by_cases hb : (rNum s 0 0 4096).2.2 = 0
    · exact hb
    · have z1 := z.1
      unfold allR at z1
      rw [rNum_bad2 s hb] at z1
      exact absurd z1 hb
  have w0 := rNum_well s 0 0 4096 (Nat.zero_le _) hb
  have hz : (getR s (cntR s) (rNum s 0 0 4096).2.1 0 []).2.2 = 0 := by have := z.1; unfold allR at this; rw [hb] at this; exact this
  have g := getR_well s (numStr (cntR s)) (cntR s) (rNum s 0 0 4096).2.1 [] w0.2.2.2.2.1 (by unfold cntR; exact w0.2.2.2.2.2) hz
  have ha : allR s = getR s (cntR s) (rNum s 0 0 4096).2.1 0 [] := by unfold allR; rw [hb]
  rw [← ha] at g
  unfold putF
  rw [g.2.1, List.length_nil, Nat.zero_add, g.1, show (allR s).2.1 = s.size by have := g.2.2; have := z.2.1; omega, extract_all]

def nmA : ByteArray := ⟨#[97]⟩
def btA : ByteArray := ⟨#[120, 121]⟩
theorem putE_nil : putE [] = 0 := rfl
theorem putV_nil : putV [] = ⟨#[0]⟩ := by
  unfold putV; rw [if_pos putE_nil]; decide +kernel
theorem putE_one : putE [(nmA, btA)] = 0 := by
  have hm : mayF [(nmA, btA)] = true := by
    unfold mayF
    rw [Bool.and_eq_true]
    exact ⟨by decide, mayK_step (k := 0) (f := (nmA, btA)) rfl rfl (okF_first (by decide +kernel) (by decide))⟩
  unfold putE
  rw [hm, if_pos rfl, if_pos (by decide)]
theorem putV_one : putV [(nmA, btA)] = ⟨#[1, 1, 97, 2, 120, 121]⟩ := by
  unfold putV; rw [if_pos putE_one]; decide +kernel

set_option maxRecDepth 100000 in
set_option maxHeartbeats 1000000 in
theorem alive29 (w : World) : Calls Tryd.prog 47 #[] w fun e w' => e = .returned (.bool true) ∧ Below w.heap.size w w' := by
  have q1 := Lib.hid (PutF_any (.slice none 0 0) [] w (FilesAt.nil w) (by decide) (fun i f hf => by simp at hf) (by decide))
  rw [putV_nil, putE_nil] at q1
  have q2 := Lib.hid (fun (w : World) (v : Value) (hv : Hid (FilesAt w v [(nmA, btA)])) => PutF_any v [(nmA, btA)] w hv (by decide) (fun i f hf => by
    match i, hf with
    | 0, hf => simp at hf; subst hf; decide
    | i + 1, hf => simp at hf) (by decide))
  rw [putV_one, putE_one] at q2
  go_enter Tryd.func47, Tryd.ntmps47
  go_wp2_with fail
  with_reducible refine q1.out.mono ?_
  rintro e w1 ⟨rfl, hb⟩
  have HB1 := Lib.hid hb
  clear hb
  have hF : Hid (FilesAt (w1.alloc (.cells #[.string ⟨#[97]⟩, .string ⟨#[120, 121]⟩] 113)) (.slice (some ⟨w1.heap.size, 0, none⟩) 1 1) [(nmA, btA)]) := by
    refine ⟨some ⟨w1.heap.size, 0, none⟩, 1, rfl, fun i f hf => ?_⟩
    match i, hf with
    | 0, hf =>
      simp at hf; subst hf
      exact ⟨w1.heap.size, 0, rfl, by simp, cells_of_blk (heap_new _ _) 0 _ rfl, cells_of_blk (heap_new _ _) 1 _ rfl⟩
    | i + 1, hf => simp at hf
  have HB2 := Lib.hid (below_alloc HB1.out HB1.out.size (.cells #[.string ⟨#[97]⟩, .string ⟨#[120, 121]⟩] 113))
  go_wp2_with fail
  with_reducible refine (q2.out _ _ hF).mono ?_
  rintro e w3 ⟨rfl, hb⟩
  have HB3 := Lib.hid (HB2.out.trans (hb.mono HB2.out.size))
  clear hb
  go_wp2_with fail
  go_ret
  exact ⟨rfl, HB3.out⟩

end Go.Proofs.YtaigngdlioplaaaDoor
