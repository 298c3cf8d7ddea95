/- The reference's numbers: trim. -/
import Derived.Test.YtfkfpppiikgjbaaBigA
namespace Go.Proofs.Ytfkfpppiikgjbaa
open Go Go.RowKit Bg
set_option linter.unusedVariables false

def sgn (s : Bool) (n : Nat) : Int := if s then -(n : Int) else n
def sliceLen : Option Value → Nat
  | some (.slice _ m _) => m
  | _ => 0

theorem big_of {w : World} {A : Option Addr} {m c n : Nat} {f : Nat → Nat} {s t : Bool} (hf : Dg f n) (hm : m ≤ n) (hz : ∀ i, m ≤ i → f i = 0) (htop : m = 0 ∨ f (m - 1) ≠ 0) (hd : DigAt w A n f) (hc : m ≤ c)
    (ht : t = if m = 0 then false else s) : BigAt w (.agg #[.bool t, .slice A m c]) (sgn s (pv f n)) := by
  have hcan : Canon (cut f m) m := ⟨dg_cut hf, by
    rcases htop with h | h
    · exact .inl h
    · refine .inr ?_
      unfold cut
      by_cases e : m = 0
      · subst e; simp at h; exact absurd (hz 0 (Nat.le_refl _)) h
      · rw [if_pos (by omega)]; exact h⟩
  have hv : pv f n = pv (cut f m) m := by rw [pv_cut, pv_more hz n hm]
  refine ⟨A, m, c, cut f m, ?_, hcan, ?_, fun i hi => ?_, hc⟩
  · have e : decide (sgn s (pv f n) < 0) = t := by
      rw [ht]
      by_cases h0 : m = 0
      · rw [if_pos h0]
        have : pv f n = 0 := by rw [hv, h0]; rfl
        rw [this]; unfold sgn; cases s <;> rfl
      · rw [if_neg h0]
        have h1 : ¬ pv (cut f m) m = 0 := fun h => h0 ((canon_pos hcan).1 h)
        rw [← hv] at h1
        unfold sgn
        cases s
        · simp
        · simp; omega
    rw [e]
  · rw [← hv]; unfold sgn; cases s <;> simp
  · have := hd i (by omega)
    unfold cut
    rw [if_pos hi]; exact this

set_option maxRecDepth 100000 in
set_option maxHeartbeats 1000000 in
theorem trim_any (s : Bool) (A : Option Addr) (n c : Nat) (f : Nat → Nat) (w : World) (hA : Hid (DigAt w A n f)) (hf : Hid (Dg f n)) (hn : n ≤ 1000000) (hc : n ≤ c) :
    Calls Try.prog 133 #[.agg #[.bool s, .slice A n c]] w fun e w' => (∃ v, e = .returned v ∧ BigAt w' v (sgn s (pv f n))) ∧ Below w.heap.size w w' := by
  go_enter Try.func133, Try.ntmps133
  go_wp2_with fail
  go_loopw [] (fun wr => ∃ m : Nat, m ≤ n ∧ Hid (wr.heap[w.heap.size]? = some (.cells #[.bool s, .slice A m c] 118 (0, 0))) ∧ Hid (wr.heap[w.heap.size + 1]? = some (.cells #[.bool false, .slice none 0 0] 118 (0, 0))) ∧
    Hid (∀ i, m ≤ i → f i = 0) ∧ Hid (Below w.heap.size w wr)) (fun wr => sliceLen (wr.cell? ⟨w.heap.size, 1, none⟩))
  case atStart =>
    refine ⟨n, Nat.le_refl _, blk_old (heap_new _ _) _, ?_, hf.out.zero, below_alloc (below_alloc (Below.refl _ _) (Nat.le_refl _) _) (by rw [World.size_alloc]; omega) _⟩
    have := heap_new (w.alloc (.cells #[.bool s, .slice A n c] 118)) (.cells #[.bool false, .slice none 0 0] 118)
    rw [World.size_alloc] at this
    exact this
  case round =>
    obtain ⟨m, hm, H0, H1, HZ, HB⟩ := hrel
    have c1 : wr.cell? ⟨w.heap.size, 1, none⟩ = some (.slice A m c) := cells_of_blk H0.out 1 _ rfl
    have f1 := free_of_blk H0.out 1
    have c0 : wr.cell? ⟨w.heap.size, 0, none⟩ = some (.bool s) := cells_of_blk H0.out 0 _ rfl
    have f0 := free_of_blk H0.out 0
    have d0 : wr.cell? ⟨w.heap.size + 1, 0, none⟩ = some (.bool false) := cells_of_blk H1.out 0 _ rfl
    have d1 : wr.cell? ⟨w.heap.size + 1, 1, none⟩ = some (.slice none 0 0) := cells_of_blk H1.out 1 _ rfl
    have g0 := free_of_blk H1.out 0
    have g1 := free_of_blk H1.out 1
    by_cases hm0 : m = 0
    · subst hm0
      go_wp2_with fail
      refine bodyPost_ret (v := .agg #[.bool false, .slice A 0 c]) ?_ rfl ⟨⟨_, rfl, ?_⟩, ?_⟩
      · simp [results, Try.results133, go_sem, d0, d1]
      · have hb2 : Below w.heap.size w (((wr.setCell ⟨w.heap.size, 0, none⟩ (.bool false)).setCell ⟨w.heap.size + 1, 0, none⟩ (.bool false)).setCell ⟨w.heap.size + 1, 1, none⟩ (.slice A 0 c)) := ((HB.out.setCell (Nat.le_refl _) _).setCell (Nat.le_succ _) _).setCell (Nat.le_succ _) _
        exact big_of hf.out (Nat.zero_le _) HZ.out (.inl rfl) (hA.out.call hb2) (Nat.zero_le _) rfl
      · exact ((HB.out.setCell (Nat.le_refl _) _).setCell (Nat.le_succ _) _).setCell (Nat.le_succ _) _
    · obtain ⟨k, rfl⟩ : ∃ k, m = k + 1 := ⟨m - 1, by omega⟩
      obtain ⟨b, o, rfl, hlt, hck⟩ := hA.out k (by omega)
      have ck := (HB.out.cell (p := ⟨b, o + k, none⟩) hlt).trans hck
      have hbr : b < wr.heap.size := Nat.lt_of_lt_of_le hlt HB.out.size
      have ek : ((k + 1 : Nat) : Int) - 1 = (k : Int) := by omega
      by_cases hfk : f k = 0
      · have t1 : (((f k : Nat) : Int) == 0) = true := by simp [hfk]
        have HZ2 : Hid (∀ i, k ≤ i → f i = 0) := fun i hi => by
          by_cases e : i = k
          · rw [e]; exact hfk
          · exact HZ.out i (by omega)
        go_wp2_with fail
        go_roundw
        case rel => exact ⟨k, by omega, set_blk H0.out _ _, set_oth H1.out _ _ (by omega), HZ2.out, HB.out.setCell (Nat.le_refl _) _⟩
        case measure => rw [World.cell?_setCell_same _ _ _ c1, c1]; exact Nat.lt_succ_self k
      · have t1 : (((f k : Nat) : Int) == 0) = false := by simp; omega
        go_wp2_with fail
        refine bodyPost_ret (v := .agg #[.bool s, .slice (some ⟨b, o, none⟩) (k + 1) c]) ?_ rfl ⟨⟨_, rfl, ?_⟩, ?_⟩
        · simp [results, Try.results133, go_sem, d0, d1]
        · have hb2 : Below w.heap.size w ((wr.setCell ⟨w.heap.size + 1, 0, none⟩ (.bool s)).setCell ⟨w.heap.size + 1, 1, none⟩ (.slice (some ⟨b, o, none⟩) (k + 1) c)) := (HB.out.setCell (Nat.le_succ _) _).setCell (Nat.le_succ _) _
          exact big_of hf.out hm HZ.out (.inr hfk) (hA.out.call hb2) (by omega) (by rw [if_neg (by omega)])
        · exact (HB.out.setCell (Nat.le_succ _) _).setCell (Nat.le_succ _) _
end Go.Proofs.Ytfkfpppiikgjbaa
