/- Blocks of memory, across stores, growth and calls. Over any program. -/
import Derived.Test.YtjcdpmianmgiaaaLib
namespace Go.Proofs.Ytjcdpmianmgiaaa
open Go Go.RowKit

theorem cells_of_blk {w : World} {g : Nat} {cs : Array Value} {t : TypeId} (h : w.heap[g]? = some (.cells cs t (0, 0))) (i : Nat) (v : Value) (hi : cs[i]? = some v) : w.cell? ⟨g, i, none⟩ = some v := by
  rw [cell_of_row w g i cs t (0, 0) h, hi]
theorem free_of_blk {w : World} {g : Nat} {cs : Array Value} {t : TypeId} (h : w.heap[g]? = some (.cells cs t (0, 0))) (i : Nat) : w.frozen? ⟨g, i, none⟩ = false := by simp [World.frozen?, h]
theorem grown_drewN {w wr : World} {row : Option Nat} (h : w.grownBy wr row) (m : Nat) : w.grownBy (wr.drewN m) row := ⟨h.os, h.tape, h.output, h.size, h.block⟩
theorem grown_set {w wr : World} {g : Nat} (h : w.grownBy wr (some g)) (m o : Nat) (v : Value) : w.grownBy ((wr.drewN m).setCell ⟨g, o, none⟩ v) (some g) :=
  ⟨h.os, h.tape, h.output, by simpa [World.setCell] using h.size, fun k hk hne => by
    have : k ≠ g := fun e => hne (by rw [e])
    rw [Below.heap_setCell _ _ _ _ this]
    exact h.block k hk hne⟩
theorem below_drewN {B : Nat} {a w : World} (h : Below B a w) (n : Nat) : Below B a (w.drewN n) := ⟨h.os, h.tape, h.output, h.size, h.block⟩
theorem grown_set0 {w wr : World} {g : Nat} (h : w.grownBy wr (some g)) (o : Nat) (v : Value) : w.grownBy (wr.setCell ⟨g, o, none⟩ v) (some g) := grown_set h 0 o v
theorem grown_trans {a b c : World} {g : Nat} (h : a.grownBy b (some g)) (k : b.grownBy c (some g)) : a.grownBy c (some g) :=
  ⟨k.os.trans h.os, k.tape.trans h.tape, k.output.trans h.output, Nat.le_trans h.size k.size, fun i hi hne => (k.block i (Nat.lt_of_lt_of_le hi h.size) hne).trans (h.block i hi hne)⟩
theorem set_blk {w : World} {b : Nat} {cs : Array Value} {t : TypeId} {fr : Nat × Nat} (h : w.heap[b]? = some (.cells cs t fr)) (i : Nat) (v : Value) : (w.setCell ⟨b, i, none⟩ v).heap[b]? = some (.cells (cs.setIfInBounds i v) t fr) := by
  obtain ⟨hlt, hk⟩ := Array.getElem?_eq_some_iff.1 h
  show (w.heap.modify b _)[b]? = _
  rw [Array.getElem?_eq_getElem (by rw [Array.size_modify]; exact hlt), Array.getElem_modify_self, hk]
  rfl
theorem set_oth {w : World} {b c : Nat} {o : Option Obj} (h : w.heap[b]? = o) (i : Nat) (v : Value) (hne : b ≠ c) : (w.setCell ⟨c, i, none⟩ v).heap[b]? = o := (Below.heap_setCell _ _ _ b hne).trans h
theorem blk_new (w : World) (o : Obj) (k : Nat) (h : k = w.heap.size) : (w.alloc o).heap[k]? = some o := by subst h; exact heap_alloc_new w o
theorem blk_old {w : World} {k : Nat} {x : Obj} (h : w.heap[k]? = some x) (o : Obj) : (w.alloc o).heap[k]? = some x := (Below.heap_alloc w o k (Array.getElem?_eq_some_iff.1 h).1).trans h
theorem below_alloc {n : Nat} {a b : World} (h : Below n a b) (hn : n ≤ b.heap.size) (o : Obj) : Below n a (b.alloc o) := h.alloc hn o
theorem heap_new (w : World) (o : Obj) : (w.alloc o).heap[w.heap.size]? = some o := heap_alloc_new w o
theorem blk_call {w w' : World} {p : Nat} {o : Obj} (h : w.heap[p]? = some o) (hb : Below w.heap.size w w') : w'.heap[p]? = some o := (hb.block p (Array.getElem?_eq_some_iff.1 h).1).trans h
end Go.Proofs.Ytjcdpmianmgiaaa
