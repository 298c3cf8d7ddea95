/- The reference's bundle.Get (printed by genFileF.py). -/
import Derived.Test.YtaigngdlioplaaaDoorFileE
import Derived.Test.YtaigngdlioplaaaDoorNumsH
import Derived.BigQuiet
namespace Go.Proofs.YtaigngdlioplaaaDoor
open Go Go.RowKit
set_option linter.unusedVariables false
set_option linter.unusedSimpArgs false

theorem rFail_ne {f x : Int} (h : ¬ f = 0) : rFail f x = f := if_neg h
theorem endE_bad {s : ByteArray} {l : List Fil} {p : Nat} {f : Int} (h : ¬ f = 0) : endE s (l, p, f) = f := by
  unfold endE
  simp only [rFail_ne h]
  split <;> split <;> first | rfl | exact rFail_ne h
theorem endE_form {s : ByteArray} {l : List Fil} {p : Nat} (h : p < s.size ∨ mayF l = false) : endE s (l, p, 0) = 3 := by
  unfold endE
  simp only []
  rw [if_pos h]
  simp only [rFail]
  split <;> simp
theorem endE_much {s : ByteArray} {l : List Fil} {p : Nat} (h : ¬ (p < s.size ∨ mayF l = false)) (hu : 1048576 < usedF l) : endE s (l, p, 0) = 4 := by
  unfold endE
  simp only []
  rw [if_neg h, if_pos hu]
  rfl
theorem endE_ok {s : ByteArray} {l : List Fil} {p : Nat} (h : ¬ (p < s.size ∨ mayF l = false)) (hu : ¬ 1048576 < usedF l) : endE s (l, p, 0) = 0 := by
  unfold endE
  simp only []
  rw [if_neg h, if_neg hu]

/-- Where the reading stands. -/
structure RefW (w wr : World) (s : ByteArray) (p : Nat) (f : Int) (v : Value) (acc : List Fil) : Prop where
  r : Ref wr w.heap.size s p f
  o : wr.ownsRow (w.heap.size + 1) 113 2 v acc.length (filesC acc)
  b : Below w.heap.size w wr
  z : w.heap.size + 1 ≤ wr.heap.size
section
variable {w wr w' : World} {s : ByteArray} {p : Nat} {f : Int} {v : Value} {acc : List Fil}
theorem RefW.ne (h : RefW w wr s p f v acc) : v.ownBlock = none ∨ v.ownBlock ≠ some w.heap.size := by
  cases hv : v.ownBlock with
  | none => exact .inl rfl
  | some k => exact .inr (fun e => by have := (h.o.lt k hv).1; injection e with e; omega)
theorem RefW.call (h : RefW w wr s p f v acc) (hb : Below wr.heap.size wr w') : RefW w w' s p f v acc :=
  ⟨(hb.block _ h.r.lt).trans h.r, h.o.kept (grown_none hb) (none_ne v), h.b.trans (hb.mono h.b.size), Nat.le_trans h.z hb.size⟩
theorem RefW.step {p' : Nat} {f' : Int} (h : RefW w wr s p f v acc) (hG : wr.grownBy w' (some w.heap.size)) (hR : Ref w' w.heap.size s p' f') : RefW w w' s p' f' v acc :=
  ⟨hR, h.o.kept hG h.ne, h.b.grown hG h.b.size (fun k hk => by injection hk with hk; omega), Nat.le_trans h.z hG.size⟩
theorem RefW.files (h : RefW w wr s p f v acc) : FilesAt wr v acc := own_files h.o
theorem RefW.set (h : RefW w wr s p f v acc) {k : Nat} (i : Nat) (u : Value) (hk : w.heap.size < k) (hv : v.ownBlock ≠ some k) : RefW w (wr.setCell ⟨k, i, none⟩ u) s p f v acc := by
  have hg : wr.grownBy (wr.setCell ⟨k, i, none⟩ u) (some k) := grown_set0 (World.grownBy.refl wr (some k)) i u
  refine ⟨(Below.heap_setCell _ _ _ _ (by show w.heap.size ≠ k; omega)).trans h.r, h.o.kept hg (.inr hv), h.b.setCell (by show w.heap.size ≤ k; omega) _, Nat.le_trans h.z hg.size⟩
theorem RefW.app {o : Obj} {v' : Value} {fl : Fil} (h : RefW w wr s p f v acc) (ho : w'.ownsRow (w.heap.size + 1) 113 2 v' (acc.length + 1) (filesC acc ++ [.string fl.1, .string fl.2])) (hG : (wr.alloc o).grownBy w' v.ownBlock) : RefW w w' s p f v' (acc ++ [fl]) := by
  have h1 := h.call (below_alloc (Below.refl _ wr) (Nat.le_refl _) o)
  refine ⟨(hG.block _ h1.r.lt (fun e => ?_)).trans h1.r, by rw [List.length_append, filesC_snoc]; exact ho, h1.b.grown hG h1.b.size (fun k hk => ?_), Nat.le_trans h1.z hG.size⟩
  · rcases h.ne with h2 | h2
    · rw [h2] at e; cases e
    · exact h2 e.symm
  · have := (h.o.lt k hk).1; omega
end


end Go.Proofs.YtaigngdlioplaaaDoor
