/- The head: Hash, great; the reference's Cut, Hash. -/
import Derived.Test.YtgjehokkmdbknaaDoorHeadB
namespace Go.Proofs.YtgjehokkmdbknaaDoor
open Go Go.RowKit

def hashS (K : Nat → Int) (H : St) (h : Hd) (n : Int) : ByteArray := cutS K H (putH h) n
set_option maxRecDepth 100000 in
theorem HHash_any (K : Nat → Int) (H : St) (h : Hd) (n : Int) (w : World) (hT : Hid (ShaT w K H)) (hn : Hid (I64 n)) (hk : Hid (HdOk h)) :
    Calls Tryd.prog 54 #[.agg h.cells, .int .i64 n] w fun e w' => e = .returned (.string (hashS K H h n)) ∧ Below w.heap.size w w' := by
  have hsz := putH_size h hk.out
  have q1 := Lib.hid (fun w => HPut_any h w hk)
  have q2 := Lib.hid (fun w hT => Cut_any K H (putH h) n w hT (by show _ ≤ _; omega) hn)
  unfold hashS
  generalize cutS K H (putH h) n = S at *
  generalize (if n < 1 ∨ 32 < n then (1 : Int) else 0) = er at *
  generalize putH h = X at *
  unfold Hd.cells at *
  have HB : Hid (∀ o, Below w.heap.size w (w.alloc o)) := fun o => below_alloc (Below.refl _ _) (Nat.le_refl _) o
  clear hsz
  go_enter Tryd.func54, Tryd.ntmps54
  go_wp2_with fail
  refine (q1.out _).mono ?_
  rintro e w1 ⟨rfl, hb⟩
  have HB1 := Lib.hid ((HB.out _).trans (hb.mono (HB.out _).size))
  have hT1 := Lib.hid (hT.out.call HB1.out)
  clear hb
  go_wp2_with fail
  refine (q2.out _ hT1).mono ?_
  rintro e w2 ⟨rfl, hb⟩
  have HB2 := Lib.hid (HB1.out.trans (hb.mono HB1.out.size))
  clear hb
  go_wp2_with fail
  go_ret
  exact ⟨rfl, HB2.out⟩

set_option maxRecDepth 100000 in
theorem great_any (h : Hd) (w : World) : Calls Tryd.prog 38 #[.agg h.cells] w fun e w' => e = .returned (.bool (decide (100 < h.p.size ∨ 100 < h.r.size))) ∧ Below w.heap.size w w' := by
  obtain ⟨i, f, c, b, p, r⟩ := h
  unfold Hd.cells
  simp only []
  have HB : Hid (∀ o, Below w.heap.size w (w.alloc o)) := fun o => below_alloc (Below.refl _ _) (Nat.le_refl _) o
  by_cases h1 : 100 < p.size
  · rw [show decide (100 < p.size ∨ 100 < r.size) = true by simp [h1]]
    go_enter Tryd.func38, Tryd.ntmps38
    go_wp2_with fail
    go_ret
    exact ⟨rfl, HB.out _⟩
  · by_cases h2 : 100 < r.size
    · rw [show decide (100 < p.size ∨ 100 < r.size) = true by simp [h2]]
      go_enter Tryd.func38, Tryd.ntmps38
      go_wp2_with fail
      go_ret
      exact ⟨ret_bool (by simp; omega), HB.out _⟩
    · rw [show decide (100 < p.size ∨ 100 < r.size) = false by simp [h1, h2]]
      go_enter Tryd.func38, Tryd.ntmps38
      go_wp2_with fail
      go_ret
      exact ⟨ret_bool (by simp; omega), HB.out _⟩

set_option maxRecDepth 100000 in
theorem rCut_any (s : ByteArray) (m : Nat) (w : World) (hs : Hid (s.size ≤ 1099511000000)) (hm : Hid (1 ≤ m ∧ m ≤ 32)) :
    Calls Tryd.prog 55 #[.agg key72, .string s, .int .i64 m] w fun e w' => e = .returned (.string (cutS (nth kList) hSt s m)) ∧ Below w.heap.size w w' := by
  have q := Lib.hid (fun w => Digest_any s w hs)
  have hsz := sumS_size (nth kList) hSt (bytesL s)
  have hks := Lib.hid key72_size
  rw [cut_in _ _ _ _ hm.out]
  generalize key72 = A at *
  generalize sumS (nth kList) hSt (bytesL s) = S at *
  obtain ⟨hm1, hm2⟩ := hm.out
  have hm3 : m ≤ S.size := by omega
  have HSZ := Lib.hid hsz
  obtain ⟨w1, hw1⟩ : ∃ w1, w.alloc (.cells A 68) = w1 := ⟨_, rfl⟩
  have HW1 := Lib.hid hw1
  have HA : Hid (w1.heap[w.heap.size]? = some (.cells A 68 (0, 0))) := by rw [← hw1]; exact blk_new _ _ _ rfl
  have HL : Hid (Below w.heap.size w w1) := by rw [← hw1]; exact below_alloc (Below.refl _ _) (Nat.le_refl _) _
  clear hw1 hsz
  go_enter Tryd.func55, Tryd.ntmps55
  go_wp2_with (rw [HW1.out]; refine wpList_load_row rfl 68 (.tmp 3) rfl w.heap.size rfl 68 A (0, 0) _ HA.out Tryd.underlying68 rfl (by rw [hks.out]; kernel_rfl) ?_)
  refine (q.out _).mono ?_
  rintro e w2 ⟨rfl, hb⟩
  have HB2 := Lib.hid (HL.out.trans (hb.mono HL.out.size))
  clear hb
  go_wp2_with fail
  go_ret
  exact ⟨rfl, HB2.out⟩
end Go.Proofs.YtgjehokkmdbknaaDoor
