/- The reference's numbers: Neg; laws of storing a number. -/
import Derived.Test.YtfkfpppiikgjbaaBigC
namespace Go.Proofs.Ytfkfpppiikgjbaa
open Go Go.RowKit Bg
set_option linter.unusedVariables false

theorem quiet_same1 {P : Program} {f : FuncId} {args : Array Value} {w : World} {n : Nat} {v : Value}
    (h : Calls P f args (w.drewN n) fun e w' => e = .returned v ∧ w.drewN n = w') : Calls P f args (w.drewN n) fun e w'' => e = .returned v ∧ ∃ m, w'' = w.drewN m :=
  h.mono fun _ _ ⟨he, hb⟩ => ⟨he, n, hb.symm⟩

/-- A number's block. -/
def BigBlk (w : World) (p : Nat) (s : Bool) (v : Value) : Prop := w.heap[p]? = some (.cells #[.bool s, v] 118 (0, 0))
theorem BigBlk.lt {w : World} {p : Nat} {s : Bool} {v : Value} (h : BigBlk w p s v) : p < w.heap.size := (Array.getElem?_eq_some_iff.1 h).1
theorem BigBlk.c0 {w : World} {p : Nat} {s : Bool} {v : Value} (h : BigBlk w p s v) : w.cell? ⟨p, 0, none⟩ = some (.bool s) := cells_of_blk h 0 _ rfl
theorem BigBlk.c1 {w : World} {p : Nat} {s : Bool} {v : Value} (h : BigBlk w p s v) : w.cell? ⟨p, 1, none⟩ = some v := cells_of_blk h 1 _ rfl
theorem BigBlk.z {w : World} {p : Nat} {s : Bool} {v : Value} (h : BigBlk w p s v) (i : Nat) : w.frozen? ⟨p, i, none⟩ = false := free_of_blk h i
theorem BigBlk.set0 {w : World} {p : Nat} {s : Bool} {v : Value} (h : BigBlk w p s v) (t : Bool) : BigBlk (w.setCell ⟨p, 0, none⟩ (.bool t)) p t v := set_blk h 0 _
theorem BigBlk.set1 {w : World} {p : Nat} {s : Bool} {v : Value} (h : BigBlk w p s v) (u : Value) : BigBlk (w.setCell ⟨p, 1, none⟩ u) p s u := set_blk h 1 _
theorem BigBlk.oth {w : World} {p : Nat} {s : Bool} {v : Value} (h : BigBlk w p s v) {q : Nat} (i : Nat) (u : Value) (hne : p ≠ q) : BigBlk (w.setCell ⟨q, i, none⟩ u) p s v := set_oth h i u hne
theorem BigBlk.alloc {w : World} {p : Nat} {s : Bool} {v : Value} (h : BigBlk w p s v) (o : Obj) : BigBlk (w.alloc o) p s v := blk_old h o
theorem BigBlk.call {w w' : World} {p : Nat} {s : Bool} {v : Value} (h : BigBlk w p s v) (hb : Below w.heap.size w w') : BigBlk w' p s v := blk_call h hb
theorem BigBlk.below {w w' : World} {p B : Nat} {s : Bool} {v : Value} (h : BigBlk w p s v) (hb : Below B w w') (hp : p < B) : BigBlk w' p s v := (hb.block p hp).trans h
theorem BigBlk.mk (w : World) (p : Nat) (s : Bool) (v : Value) (hp : w.heap.size = p) : BigBlk (w.alloc (.cells #[.bool s, v] 118)) p s v := by subst hp; exact heap_new _ _

/-- Digits stand where a number's block is written. -/
theorem DigAt.set {w : World} {A a : Option Addr} {n p l c : Nat} {f : Nat → Nat} {s : Bool} (h : DigAt w A n f) (hp : BigBlk w p s (.slice a l c)) (j : Nat) (u : Value) : DigAt (w.setCell ⟨p, j, none⟩ u) A n f := fun i hi => by
  obtain ⟨b, o, e, hlt, hc⟩ := h i hi
  have hne : b ≠ p := fun hbp => by
    subst hbp
    rw [cell_of_row w b (o + i) _ _ _ hp] at hc
    match o + i, hc with
    | 0, hc => cases hc
    | 1, hc => cases hc
    | k + 2, hc => cases hc
  refine ⟨b, o, e, by simpa [World.setCell] using hlt, ?_⟩
  rw [World.cell?_setCell_other _ _ _ _ (by intro h; simp only [Addr.mk.injEq] at h; exact hne h.1.symm), hc]

theorem BigAt.form {w : World} {v : Value} {z : Int} (h : BigAt w v z) : ∃ t A n c, v = .agg #[.bool t, .slice A n c] := by
  obtain ⟨A, n, c, f, e, _⟩ := h
  exact ⟨_, A, n, c, e⟩
theorem BigAt.set {w : World} {v : Value} {z : Int} {a : Option Addr} {p l c : Nat} {s : Bool} (h : BigAt w v z) (hp : BigBlk w p s (.slice a l c)) (j : Nat) (u : Value) : BigAt (w.setCell ⟨p, j, none⟩ u) v z := by
  obtain ⟨A, n, c', f, e, hc, hv, hd, hn⟩ := h
  exact ⟨A, n, c', f, e, hc, hv, hd.set hp j u, hn⟩
/-- A number is laid into a block. -/
theorem BigAt.store {w : World} {z : Int} {a A : Option Addr} {p l c n m : Nat} {s t : Bool} (h : BigAt w (.agg #[.bool t, .slice A n m]) z) (hp : BigBlk w p s (.slice a l c)) :
    BigAt ((w.setCell ⟨p, 0, none⟩ (.bool t)).setCell ⟨p, 1, none⟩ (.slice A n m)) (.agg #[.bool t, .slice A n m]) z := (h.set hp 0 _).set (hp.set0 t) 1 _

theorem Neg_any (x : Value) (X : Int) (w : World) (hx : Hid (BigAt w x X)) (bX : X.natAbs < 10000 ^ 40) :
    Calls Try.prog 90 #[x] w fun e w' => (∃ v, e = .returned v ∧ BigAt w' v (-X)) ∧ Below w.heap.size w w' := by
  obtain ⟨A, n, c, f, rfl, hc, hv, hd, hn⟩ := hx.out
  have hn40 := canon_len (k := 40) hc (by rw [hv]; exact bX)
  obtain ⟨s, hs⟩ : ∃ s, decide (X < 0) = s := ⟨_, rfl⟩
  rw [hs]
  have hz : sgn (!s) (pv f n) = -X := by
    rw [hv, ← hs]; unfold sgn
    by_cases h : X < 0
    · simp [h]; omega
    · simp [h]; omega
  have HZ := Lib.hid hz
  have qT := Lib.hid (fun w' (h : Hid (DigAt w' A n f)) => trim_any (!s) A n c f w' h hc.toDg (by omega) hn)
  have h1 := BigBlk.mk (w.alloc (.cells #[.bool (!s), .slice A n c] 118)) (w.heap.size + 1) false (.slice none 0 0) (by rw [World.size_alloc])
  have hb1 := below_alloc (below_alloc (Below.refl w.heap.size w) (Nat.le_refl _) (.cells #[.bool (!s), .slice A n c] 118)) (by rw [World.size_alloc]; omega) (.cells #[.bool false, .slice none 0 0] 118)
  have HD := Lib.hid hd
  clear hz hv hc hs hd hx bX
  go_enter Try.func90, Try.ntmps90
  go_wp2_with fail
  generalize (w.alloc (.cells #[.bool (!s), .slice A n c] 118)).alloc (.cells #[.bool false, .slice none 0 0] 118) = w1 at *
  have hd1 := Lib.hid (HD.out.call hb1)
  have H1 := Lib.hid h1
  have HB1 := Lib.hid hb1
  clear h1 hb1
  with_reducible refine (qT.out w1 hd1).mono ?_
  rintro e w5 ⟨⟨v5, rfl, hv5⟩, hb5⟩
  obtain ⟨t5, A5, n5, c5, rfl⟩ := hv5.form
  have H5 := Lib.hid (H1.out.call hb5)
  have HV := Lib.hid hv5
  have HB5 := Lib.hid (HB1.out.trans (hb5.mono HB1.out.size))
  have d0 := H5.out.c0
  have d1 := H5.out.c1
  have f0 := H5.out.z 0
  have f1 := H5.out.z 1
  clear hv5 hb5 H1 HB1
  go_wp2_with fail
  refine bodyPost_ret (v := .agg #[.bool t5, .slice A5 n5 c5]) ?_ rfl ⟨⟨_, rfl, ?_⟩, ?_⟩
  · simp [results, Try.results90, go_sem, d0, d1]
  · rw [← HZ.out]; exact HV.out.store H5.out
  · exact (HB5.out.setCell (Nat.le_succ _) _).setCell (Nat.le_succ _) _
end Go.Proofs.Ytfkfpppiikgjbaa
