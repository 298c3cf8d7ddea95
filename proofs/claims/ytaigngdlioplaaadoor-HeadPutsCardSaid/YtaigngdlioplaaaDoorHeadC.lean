/- The head: Hash, great; the reference's Cut, Hash. -/
import Derived.Test.YtaigngdlioplaaaDoorHeadB
import Derived.Test.YtaigngdlioplaaaDoorCutR
namespace Go.Proofs.YtaigngdlioplaaaDoor
open Go Go.RowKit

def hashS (K : Nat → Int) (H : St) (h : Hd) (n : Int) : ByteArray := cutS K H (putH h) n
set_option maxRecDepth 100000 in
theorem HHash_any (K : Nat → Int) (H : St) (h : Hd) (n : Int) (w : World) (hT : Hid (ShaT w K H)) (hn : Hid (I64 n)) (hk : Hid (HdFit h)) :
    Calls Tryd.prog 18 #[.agg h.cells, .int .i64 n] w fun e w' => e = .returned (.string (hashS K H h n)) ∧ Below w.heap.size w w' := by
  have hsz := putH_size h hk.out
  have q1 := Lib.hid (fun w => HPut_any h w hk)
  have q2 := Lib.hid (fun w hT => Cut_any K H (putH h) n w hT (by show _ ≤ _; omega) hn)
  unfold hashS
  generalize cutS K H (putH h) n = S at *
  generalize (if n < 1 ∨ 32 < n then (1 : Int) else 0) = er at *
  generalize putH h = X at *
  unfold Hd.cells at *
  have HB : Hid (∀ o, Below w.heap.size w (w.alloc o)) := fun o => below_alloc (Below.refl _ _) (Nat.le_refl _) o
  clear hsz
  go_enter Tryd.func18, Tryd.ntmps18
  go_wp2_with fail
  refine (q1.out _).mono ?_
  rintro e w1 ⟨rfl, hb⟩
  have HB1 := Lib.hid ((HB.out _).trans (hb.mono (HB.out _).size))
  have hT1 := Lib.hid (hT.out.call HB1.out)
  clear hb
  go_wp2_with fail
  refine (q2.out _ hT1).mono ?_
  rintro e w2 ⟨rfl, hb⟩
  have HB2 := Lib.hid (HB1.out.trans (hb.mono HB1.out.size))
  clear hb
  go_wp2_with fail
  go_ret
  exact ⟨rfl, HB2.out⟩

set_option maxRecDepth 100000 in
theorem great_any (h : Hd) (w : World) : Calls Tryd.prog 14 #[.agg h.cells] w fun e w' => e = .returned (.bool (decide (100 < h.p.size ∨ 100 < h.r.size))) ∧ Below w.heap.size w w' := by
  obtain ⟨i, f, c, b, p, r⟩ := h
  unfold Hd.cells
  simp only []
  have HB : Hid (∀ o, Below w.heap.size w (w.alloc o)) := fun o => below_alloc (Below.refl _ _) (Nat.le_refl _) o
  by_cases h1 : 100 < p.size
  · rw [show decide (100 < p.size ∨ 100 < r.size) = true by simp [h1]]
    go_enter Tryd.func14, Tryd.ntmps14
    go_wp2_with fail
    go_ret
    exact ⟨rfl, HB.out _⟩
  · by_cases h2 : 100 < r.size
    · rw [show decide (100 < p.size ∨ 100 < r.size) = true by simp [h2]]
      go_enter Tryd.func14, Tryd.ntmps14
      go_wp2_with fail
      go_ret
      exact ⟨ret_bool (by simp; omega), HB.out _⟩
    · rw [show decide (100 < p.size ∨ 100 < r.size) = false by simp [h1, h2]]
      go_enter Tryd.func14, Tryd.ntmps14
      go_wp2_with fail
      go_ret
      exact ⟨ret_bool (by simp; omega), HB.out _⟩

end Go.Proofs.YtaigngdlioplaaaDoor
