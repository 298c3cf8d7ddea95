/- event: GetVerdict, Get, GetPair. -/
import Derived.Test.YtgjehokkmdbknaaDoorEventD
import Derived.Laws.ResultCell
namespace Go.Proofs.YtgjehokkmdbknaaDoor
open Go.RowKit

/-- A number of what was got, or nought. -/
def evV (s : ByteArray) (k i : Nat) : Int := if getE s k = 0 then getV s i else 0
theorem set_blk {w : World} {b : Nat} {cs : Array Value} {t : TypeId} {fr : Nat × Nat} (h : w.heap[b]? = some (.cells cs t fr)) (i : Nat) (v : Value) : (w.setCell ⟨b, i, none⟩ v).heap[b]? = some (.cells (cs.setIfInBounds i v) t fr) := by
  obtain ⟨hlt, hk⟩ := Array.getElem?_eq_some_iff.1 h
  show (w.heap.modify b _)[b]? = _
  rw [Array.getElem?_eq_getElem (by rw [Array.size_modify]; exact hlt), Array.getElem_modify_self, hk]
  rfl
theorem set_oth {w : World} {b c : Nat} {o : Option Obj} (h : w.heap[b]? = o) (i : Nat) (v : Value) (hne : b ≠ c) : (w.setCell ⟨c, i, none⟩ v).heap[b]? = o := (Below.heap_setCell _ _ _ b hne).trans h
theorem there_blk {w : World} {b : Nat} {cs : Array Value} {t : TypeId} (h : w.heap[b]? = some (.cells cs t (0, 0))) (i : Nat) (hi : i < cs.size) : There w b i :=
  ⟨cs[i], cells_of_blk h i _ (by simp [hi]), free_of_blk h i⟩
theorem blk_new (w : World) (o : Obj) (k : Nat) (h : k = w.heap.size) : (w.alloc o).heap[k]? = some o := by subst h; exact heap_alloc_new w o
theorem blk_old {w : World} {k : Nat} {x : Obj} (h : w.heap[k]? = some x) (o : Obj) : (w.alloc o).heap[k]? = some x := (Below.heap_alloc w o k (Array.getElem?_eq_some_iff.1 h).1).trans h
theorem below_alloc {n : Nat} {a b : World} (h : Below n a b) (hn : n ≤ b.heap.size) (o : Obj) : Below n a (b.alloc o) := h.alloc hn o

set_option maxRecDepth 100000 in
set_option maxHeartbeats 4000000 in
theorem GetVerdict_any (s : ByteArray) (w : World) (hs : Hid (s.size ≤ 1099511627776)) :
    Calls Tryd.prog 29 #[.string s] w fun e w' => e = .returned (.tuple #[.agg #[.int .i64 (evV s 2 0), .int .i64 (evV s 2 1)], .int .i64 (getE s 2)]) ∧ Below w.heap.size w w' := by
  by_cases he : getE s 2 = 0
  · rw [show evV s 2 0 = getV s 0 from if_pos he, show evV s 2 1 = getV s 1 from if_pos he, he]
    go_enter Tryd.func29, Tryd.ntmps29
    go_wp2_with fail
    obtain ⟨w4, hw4⟩ : ∃ w4, ((((w.alloc (.cells #[.int .i64 0, .int .i64 0] 43)).alloc (.cells #[.int .i64 0, .int .i64 0] 43)).alloc (.cells #[.int .i64 0] 2)).alloc (.cells #[.pointer (some ⟨w.heap.size + 1 + 1, 0, none⟩), .pointer (some ⟨w.heap.size + 1, 1, none⟩)] 80)) = w4 := ⟨_, rfl⟩
    have hsz : w4.heap.size = w.heap.size + 1 + 1 + 1 + 1 := by rw [← hw4]; simp
    have B0 : w4.heap[w.heap.size]? = some (.cells #[.int .i64 0, .int .i64 0] 43) := by rw [← hw4]; exact blk_old (blk_old (blk_old (blk_new _ _ _ (by simp)) _) _) _
    have B1 : w4.heap[w.heap.size + 1]? = some (.cells #[.int .i64 0, .int .i64 0] 43) := by rw [← hw4]; exact blk_old (blk_old (blk_new _ _ _ (by simp)) _) _
    have B2 : w4.heap[w.heap.size + 1 + 1]? = some (.cells #[.int .i64 0] 2) := by rw [← hw4]; exact blk_old (blk_new _ _ _ (by simp)) _
    have B3 : w4.heap[w.heap.size + 1 + 1 + 1]? = some (.cells #[.pointer (some ⟨w.heap.size + 1 + 1, 0, none⟩), .pointer (some ⟨w.heap.size + 1, 1, none⟩)] 80) := by rw [← hw4]; exact blk_new _ _ _ (by simp)
    have HB0 : Hid (Below w.heap.size w w4) := by
      rw [← hw4]
      refine below_alloc (below_alloc (below_alloc (below_alloc (Below.refl _ w) (by simp) _) (by simp; try omega) _) (by simp; try omega) _) (by simp; try omega) _
    rw [hw4]
    clear hw4
    obtain ⟨adr, hadr⟩ : ∃ adr : Nat → Nat × Nat, adr = fun i => match i with
      | 0 => (w.heap.size + 1 + 1, 0)
      | 1 => (w.heap.size + 1, 1)
      | _ => (0, 0) := ⟨_, rfl⟩
    have a0 : adr 0 = (w.heap.size + 1 + 1, 0) := by rw [hadr]; rfl
    have a1 : adr 1 = (w.heap.size + 1, 1) := by rw [hadr]; rfl
    have hl : Hid (∀ i, i < 2 → w4.cell? ⟨w.heap.size + 1 + 1 + 1, 0 + i, none⟩ = some (.pointer (some ⟨(adr i).1, (adr i).2, none⟩)) ∧ There w4 (adr i).1 (adr i).2 ∧ (adr i).1 ≠ w.heap.size + 1 + 1 + 1) := by
      intro i hi
      match i, hi with
      | 0, _ => rw [a0]; exact ⟨cells_of_blk B3 0 _ rfl, there_blk B2 0 (by simp), by simp only []; omega⟩
      | 1, _ => rw [a1]; exact ⟨cells_of_blk B3 1 _ rfl, there_blk B1 1 (by simp), by simp only []; omega⟩
    have hq := get_any s (w.heap.size + 1 + 1 + 1) 0 2 2 adr w4 hs (by show (2 : Nat) ≤ 20; omega) (by show _ < _; omega) hl
    have hwr : wrote w4 adr (getV s) 2 = ((w4.setCell ⟨w.heap.size + 1 + 1, 0, none⟩ (.int .i64 (getV s 0))).setCell ⟨w.heap.size + 1, 1, none⟩ (.int .i64 (getV s 1))) := by simp only [wrote, a0, a1]
    rw [hwr] at hq
    clear hwr hl a0 a1 hadr
    generalize hv0 : getV s 0 = v0 at *
    have HV0 := Lib.hid hv0; clear hv0
    generalize hv1 : getV s 1 = v1 at *
    have HV1 := Lib.hid hv1; clear hv1
    rw [he] at hq
    have D0 : ((w4.setCell ⟨w.heap.size + 1 + 1, 0, none⟩ (.int .i64 v0)).setCell ⟨w.heap.size + 1, 1, none⟩ (.int .i64 v1)).heap[w.heap.size]? = some (.cells #[.int .i64 0, .int .i64 0] 43 (0, 0)) := set_oth (set_oth (B0) _ _ (by omega)) _ _ (by omega)
    have D1 : ((w4.setCell ⟨w.heap.size + 1 + 1, 0, none⟩ (.int .i64 v0)).setCell ⟨w.heap.size + 1, 1, none⟩ (.int .i64 v1)).heap[w.heap.size + 1]? = some (.cells #[.int .i64 0, .int .i64 v1] 43 (0, 0)) := set_blk (set_oth (B1) _ _ (by omega)) _ _
    have D2 : ((w4.setCell ⟨w.heap.size + 1 + 1, 0, none⟩ (.int .i64 v0)).setCell ⟨w.heap.size + 1, 1, none⟩ (.int .i64 v1)).heap[w.heap.size + 1 + 1]? = some (.cells #[.int .i64 v0] 2 (0, 0)) := set_oth (set_blk (B2) _ _) _ _ (by omega)
    have HQ := Lib.hid hq; clear hq
    have HB1 : Hid (Below w.heap.size w ((w4.setCell ⟨w.heap.size + 1 + 1, 0, none⟩ (.int .i64 v0)).setCell ⟨w.heap.size + 1, 1, none⟩ (.int .i64 v1))) := by
      refine Below.setCell (Below.setCell (HB0.out) (by simp only []; omega) _) (by simp only []; omega) _
    have hsz2 : ((w4.setCell ⟨w.heap.size + 1 + 1, 0, none⟩ (.int .i64 v0)).setCell ⟨w.heap.size + 1, 1, none⟩ (.int .i64 v1)).heap.size = w4.heap.size := by simp only [World.size_setCell]
    generalize ((w4.setCell ⟨w.heap.size + 1 + 1, 0, none⟩ (.int .i64 v0)).setCell ⟨w.heap.size + 1, 1, none⟩ (.int .i64 v1)) = w5 at *
    clear B0 B1 B2 B3
    refine HQ.out.mono ?_
    rintro e w6 ⟨rfl, hb⟩
    have E0 := (hb.block (w.heap.size) (by omega)).trans D0
    have c0_0 := cells_of_blk E0 0 _ rfl
    have f0_0 := free_of_blk E0 0
    have c0_1 := cells_of_blk E0 1 _ rfl
    have f0_1 := free_of_blk E0 1
    have E1 := (hb.block (w.heap.size + 1) (by omega)).trans D1
    have c1_0 := cells_of_blk E1 0 _ rfl
    have f1_0 := free_of_blk E1 0
    have c1_1 := cells_of_blk E1 1 _ rfl
    have f1_1 := free_of_blk E1 1
    have E2 := (hb.block (w.heap.size + 1 + 1) (by omega)).trans D2
    have c2_0 := cells_of_blk E2 0 _ rfl
    have HB6 := Lib.hid (HB1.out.trans (hb.mono (show w.heap.size ≤ w4.heap.size by omega)))
    clear hb HQ HB0 HB1 D0 D1 D2 E0 E1 E2
    go_wp2_with fail
    refine bodyPost_ret (v := .tuple #[.agg #[.int .i64 v0, .int .i64 v1], .int .i64 0]) ?_ rfl ⟨by rw [HV0.out, HV1.out], ?_⟩
    · rw [results_cell_tmp rfl]; go_simp
    · refine Below.setCell (Below.setCell (Below.setCell (HB6.out) (by simp only []; omega) _) (by simp only []; omega) _) (by simp only []; omega) _
  · rw [show evV s 2 0 = 0 from if_neg he, show evV s 2 1 = 0 from if_neg he]
    go_enter Tryd.func29, Tryd.ntmps29
    go_wp2_with fail
    obtain ⟨w4, hw4⟩ : ∃ w4, ((((w.alloc (.cells #[.int .i64 0, .int .i64 0] 43)).alloc (.cells #[.int .i64 0, .int .i64 0] 43)).alloc (.cells #[.int .i64 0] 2)).alloc (.cells #[.pointer (some ⟨w.heap.size + 1 + 1, 0, none⟩), .pointer (some ⟨w.heap.size + 1, 1, none⟩)] 80)) = w4 := ⟨_, rfl⟩
    have hsz : w4.heap.size = w.heap.size + 1 + 1 + 1 + 1 := by rw [← hw4]; simp
    have B0 : w4.heap[w.heap.size]? = some (.cells #[.int .i64 0, .int .i64 0] 43) := by rw [← hw4]; exact blk_old (blk_old (blk_old (blk_new _ _ _ (by simp)) _) _) _
    have B1 : w4.heap[w.heap.size + 1]? = some (.cells #[.int .i64 0, .int .i64 0] 43) := by rw [← hw4]; exact blk_old (blk_old (blk_new _ _ _ (by simp)) _) _
    have B2 : w4.heap[w.heap.size + 1 + 1]? = some (.cells #[.int .i64 0] 2) := by rw [← hw4]; exact blk_old (blk_new _ _ _ (by simp)) _
    have B3 : w4.heap[w.heap.size + 1 + 1 + 1]? = some (.cells #[.pointer (some ⟨w.heap.size + 1 + 1, 0, none⟩), .pointer (some ⟨w.heap.size + 1, 1, none⟩)] 80) := by rw [← hw4]; exact blk_new _ _ _ (by simp)
    have HB0 : Hid (Below w.heap.size w w4) := by
      rw [← hw4]
      refine below_alloc (below_alloc (below_alloc (below_alloc (Below.refl _ w) (by simp) _) (by simp; try omega) _) (by simp; try omega) _) (by simp; try omega) _
    rw [hw4]
    clear hw4
    obtain ⟨adr, hadr⟩ : ∃ adr : Nat → Nat × Nat, adr = fun i => match i with
      | 0 => (w.heap.size + 1 + 1, 0)
      | 1 => (w.heap.size + 1, 1)
      | _ => (0, 0) := ⟨_, rfl⟩
    have a0 : adr 0 = (w.heap.size + 1 + 1, 0) := by rw [hadr]; rfl
    have a1 : adr 1 = (w.heap.size + 1, 1) := by rw [hadr]; rfl
    have hl : Hid (∀ i, i < 2 → w4.cell? ⟨w.heap.size + 1 + 1 + 1, 0 + i, none⟩ = some (.pointer (some ⟨(adr i).1, (adr i).2, none⟩)) ∧ There w4 (adr i).1 (adr i).2 ∧ (adr i).1 ≠ w.heap.size + 1 + 1 + 1) := by
      intro i hi
      match i, hi with
      | 0, _ => rw [a0]; exact ⟨cells_of_blk B3 0 _ rfl, there_blk B2 0 (by simp), by simp only []; omega⟩
      | 1, _ => rw [a1]; exact ⟨cells_of_blk B3 1 _ rfl, there_blk B1 1 (by simp), by simp only []; omega⟩
    have hq := get_any s (w.heap.size + 1 + 1 + 1) 0 2 2 adr w4 hs (by show (2 : Nat) ≤ 20; omega) (by show _ < _; omega) hl
    have hwr : wrote w4 adr (getV s) 2 = ((w4.setCell ⟨w.heap.size + 1 + 1, 0, none⟩ (.int .i64 (getV s 0))).setCell ⟨w.heap.size + 1, 1, none⟩ (.int .i64 (getV s 1))) := by simp only [wrote, a0, a1]
    rw [hwr] at hq
    clear hwr hl a0 a1 hadr
    generalize hv0 : getV s 0 = v0 at *
    have HV0 := Lib.hid hv0; clear hv0
    generalize hv1 : getV s 1 = v1 at *
    have HV1 := Lib.hid hv1; clear hv1
    generalize her : getE s 2 = er at *
    have HER := Lib.hid her; clear her
    have he' : (er != 0) = true := by simpa using he
    have D0 : ((w4.setCell ⟨w.heap.size + 1 + 1, 0, none⟩ (.int .i64 v0)).setCell ⟨w.heap.size + 1, 1, none⟩ (.int .i64 v1)).heap[w.heap.size]? = some (.cells #[.int .i64 0, .int .i64 0] 43 (0, 0)) := set_oth (set_oth (B0) _ _ (by omega)) _ _ (by omega)
    have D1 : ((w4.setCell ⟨w.heap.size + 1 + 1, 0, none⟩ (.int .i64 v0)).setCell ⟨w.heap.size + 1, 1, none⟩ (.int .i64 v1)).heap[w.heap.size + 1]? = some (.cells #[.int .i64 0, .int .i64 v1] 43 (0, 0)) := set_blk (set_oth (B1) _ _ (by omega)) _ _
    have D2 : ((w4.setCell ⟨w.heap.size + 1 + 1, 0, none⟩ (.int .i64 v0)).setCell ⟨w.heap.size + 1, 1, none⟩ (.int .i64 v1)).heap[w.heap.size + 1 + 1]? = some (.cells #[.int .i64 v0] 2 (0, 0)) := set_oth (set_blk (B2) _ _) _ _ (by omega)
    have HQ := Lib.hid hq; clear hq
    have HB1 : Hid (Below w.heap.size w ((w4.setCell ⟨w.heap.size + 1 + 1, 0, none⟩ (.int .i64 v0)).setCell ⟨w.heap.size + 1, 1, none⟩ (.int .i64 v1))) := by
      refine Below.setCell (Below.setCell (HB0.out) (by simp only []; omega) _) (by simp only []; omega) _
    have hsz2 : ((w4.setCell ⟨w.heap.size + 1 + 1, 0, none⟩ (.int .i64 v0)).setCell ⟨w.heap.size + 1, 1, none⟩ (.int .i64 v1)).heap.size = w4.heap.size := by simp only [World.size_setCell]
    generalize ((w4.setCell ⟨w.heap.size + 1 + 1, 0, none⟩ (.int .i64 v0)).setCell ⟨w.heap.size + 1, 1, none⟩ (.int .i64 v1)) = w5 at *
    clear B0 B1 B2 B3
    refine HQ.out.mono ?_
    rintro e w6 ⟨rfl, hb⟩
    have E0 := (hb.block (w.heap.size) (by omega)).trans D0
    have c0_0 := cells_of_blk E0 0 _ rfl
    have f0_0 := free_of_blk E0 0
    have c0_1 := cells_of_blk E0 1 _ rfl
    have f0_1 := free_of_blk E0 1
    have E1 := (hb.block (w.heap.size + 1) (by omega)).trans D1
    have c1_0 := cells_of_blk E1 0 _ rfl
    have f1_0 := free_of_blk E1 0
    have c1_1 := cells_of_blk E1 1 _ rfl
    have f1_1 := free_of_blk E1 1
    have E2 := (hb.block (w.heap.size + 1 + 1) (by omega)).trans D2
    have c2_0 := cells_of_blk E2 0 _ rfl
    have HB6 := Lib.hid (HB1.out.trans (hb.mono (show w.heap.size ≤ w4.heap.size by omega)))
    clear hb HQ HB0 HB1 D0 D1 D2 E0 E1 E2
    go_wp2_with fail
    refine bodyPost_ret (v := .tuple #[.agg #[.int .i64 0, .int .i64 0], .int .i64 er]) ?_ rfl ⟨by rw [HER.out], ?_⟩
    · rw [results_cell_tmp rfl]; go_simp
    · refine Below.setCell (Below.setCell (HB6.out) (by simp only []; omega) _) (by simp only []; omega) _

set_option maxRecDepth 100000 in
set_option maxHeartbeats 4000000 in
theorem Get_any (s : ByteArray) (w : World) (hs : Hid (s.size ≤ 1099511627776)) :
    Calls Tryd.prog 28 #[.string s] w fun e w' => e = .returned (.tuple #[.agg #[.int .i64 (evV s 7 0), .int .i64 (evV s 7 1), .int .i64 (evV s 7 2), .int .i64 (evV s 7 3), .int .i64 (evV s 7 4), .int .i64 (evV s 7 5), .int .i64 (evV s 7 6)], .int .i64 (getE s 7)]) ∧ Below w.heap.size w w' := by
  by_cases he : getE s 7 = 0
  · rw [show evV s 7 0 = getV s 0 from if_pos he, show evV s 7 1 = getV s 1 from if_pos he, show evV s 7 2 = getV s 2 from if_pos he, show evV s 7 3 = getV s 3 from if_pos he, show evV s 7 4 = getV s 4 from if_pos he, show evV s 7 5 = getV s 5 from if_pos he, show evV s 7 6 = getV s 6 from if_pos he, he]
    go_enter Tryd.func28, Tryd.ntmps28
    go_wp2_with fail
    obtain ⟨w4, hw4⟩ : ∃ w4, (((((w.alloc (.cells #[.int .i64 0, .int .i64 0, .int .i64 0, .int .i64 0, .int .i64 0, .int .i64 0, .int .i64 0] 41)).alloc (.cells #[.int .i64 0, .int .i64 0, .int .i64 0, .int .i64 0, .int .i64 0, .int .i64 0, .int .i64 0] 41)).alloc (.cells #[.int .i64 0] 2)).alloc (.cells #[.int .i64 0] 2)).alloc (.cells #[.pointer (some ⟨w.heap.size + 1 + 1, 0, none⟩), .pointer (some ⟨w.heap.size + 1, 1, none⟩), .pointer (some ⟨w.heap.size + 1, 2, none⟩), .pointer (some ⟨w.heap.size + 1, 3, none⟩), .pointer (some ⟨w.heap.size + 1 + 1 + 1, 0, none⟩), .pointer (some ⟨w.heap.size + 1, 5, none⟩), .pointer (some ⟨w.heap.size + 1, 6, none⟩)] 80)) = w4 := ⟨_, rfl⟩
    have hsz : w4.heap.size = w.heap.size + 1 + 1 + 1 + 1 + 1 := by rw [← hw4]; simp
    have B0 : w4.heap[w.heap.size]? = some (.cells #[.int .i64 0, .int .i64 0, .int .i64 0, .int .i64 0, .int .i64 0, .int .i64 0, .int .i64 0] 41) := by rw [← hw4]; exact blk_old (blk_old (blk_old (blk_old (blk_new _ _ _ (by simp)) _) _) _) _
    have B1 : w4.heap[w.heap.size + 1]? = some (.cells #[.int .i64 0, .int .i64 0, .int .i64 0, .int .i64 0, .int .i64 0, .int .i64 0, .int .i64 0] 41) := by rw [← hw4]; exact blk_old (blk_old (blk_old (blk_new _ _ _ (by simp)) _) _) _
    have B2 : w4.heap[w.heap.size + 1 + 1]? = some (.cells #[.int .i64 0] 2) := by rw [← hw4]; exact blk_old (blk_old (blk_new _ _ _ (by simp)) _) _
    have B3 : w4.heap[w.heap.size + 1 + 1 + 1]? = some (.cells #[.int .i64 0] 2) := by rw [← hw4]; exact blk_old (blk_new _ _ _ (by simp)) _
    have B4 : w4.heap[w.heap.size + 1 + 1 + 1 + 1]? = some (.cells #[.pointer (some ⟨w.heap.size + 1 + 1, 0, none⟩), .pointer (some ⟨w.heap.size + 1, 1, none⟩), .pointer (some ⟨w.heap.size + 1, 2, none⟩), .pointer (some ⟨w.heap.size + 1, 3, none⟩), .pointer (some ⟨w.heap.size + 1 + 1 + 1, 0, none⟩), .pointer (some ⟨w.heap.size + 1, 5, none⟩), .pointer (some ⟨w.heap.size + 1, 6, none⟩)] 80) := by rw [← hw4]; exact blk_new _ _ _ (by simp)
    have HB0 : Hid (Below w.heap.size w w4) := by
      rw [← hw4]
      refine below_alloc (below_alloc (below_alloc (below_alloc (below_alloc (Below.refl _ w) (by simp) _) (by simp; try omega) _) (by simp; try omega) _) (by simp; try omega) _) (by simp; try omega) _
    rw [hw4]
    clear hw4
    obtain ⟨adr, hadr⟩ : ∃ adr : Nat → Nat × Nat, adr = fun i => match i with
      | 0 => (w.heap.size + 1 + 1, 0)
      | 1 => (w.heap.size + 1, 1)
      | 2 => (w.heap.size + 1, 2)
      | 3 => (w.heap.size + 1, 3)
      | 4 => (w.heap.size + 1 + 1 + 1, 0)
      | 5 => (w.heap.size + 1, 5)
      | 6 => (w.heap.size + 1, 6)
      | _ => (0, 0) := ⟨_, rfl⟩
    have a0 : adr 0 = (w.heap.size + 1 + 1, 0) := by rw [hadr]; rfl
    have a1 : adr 1 = (w.heap.size + 1, 1) := by rw [hadr]; rfl
    have a2 : adr 2 = (w.heap.size + 1, 2) := by rw [hadr]; rfl
    have a3 : adr 3 = (w.heap.size + 1, 3) := by rw [hadr]; rfl
    have a4 : adr 4 = (w.heap.size + 1 + 1 + 1, 0) := by rw [hadr]; rfl
    have a5 : adr 5 = (w.heap.size + 1, 5) := by rw [hadr]; rfl
    have a6 : adr 6 = (w.heap.size + 1, 6) := by rw [hadr]; rfl
    have hl : Hid (∀ i, i < 7 → w4.cell? ⟨w.heap.size + 1 + 1 + 1 + 1, 0 + i, none⟩ = some (.pointer (some ⟨(adr i).1, (adr i).2, none⟩)) ∧ There w4 (adr i).1 (adr i).2 ∧ (adr i).1 ≠ w.heap.size + 1 + 1 + 1 + 1) := by
      intro i hi
      match i, hi with
      | 0, _ => rw [a0]; exact ⟨cells_of_blk B4 0 _ rfl, there_blk B2 0 (by simp), by simp only []; omega⟩
      | 1, _ => rw [a1]; exact ⟨cells_of_blk B4 1 _ rfl, there_blk B1 1 (by simp), by simp only []; omega⟩
      | 2, _ => rw [a2]; exact ⟨cells_of_blk B4 2 _ rfl, there_blk B1 2 (by simp), by simp only []; omega⟩
      | 3, _ => rw [a3]; exact ⟨cells_of_blk B4 3 _ rfl, there_blk B1 3 (by simp), by simp only []; omega⟩
      | 4, _ => rw [a4]; exact ⟨cells_of_blk B4 4 _ rfl, there_blk B3 0 (by simp), by simp only []; omega⟩
      | 5, _ => rw [a5]; exact ⟨cells_of_blk B4 5 _ rfl, there_blk B1 5 (by simp), by simp only []; omega⟩
      | 6, _ => rw [a6]; exact ⟨cells_of_blk B4 6 _ rfl, there_blk B1 6 (by simp), by simp only []; omega⟩
    have hq := get_any s (w.heap.size + 1 + 1 + 1 + 1) 0 7 7 adr w4 hs (by show (7 : Nat) ≤ 20; omega) (by show _ < _; omega) hl
    have hwr : wrote w4 adr (getV s) 7 = (((((((w4.setCell ⟨w.heap.size + 1 + 1, 0, none⟩ (.int .i64 (getV s 0))).setCell ⟨w.heap.size + 1, 1, none⟩ (.int .i64 (getV s 1))).setCell ⟨w.heap.size + 1, 2, none⟩ (.int .i64 (getV s 2))).setCell ⟨w.heap.size + 1, 3, none⟩ (.int .i64 (getV s 3))).setCell ⟨w.heap.size + 1 + 1 + 1, 0, none⟩ (.int .i64 (getV s 4))).setCell ⟨w.heap.size + 1, 5, none⟩ (.int .i64 (getV s 5))).setCell ⟨w.heap.size + 1, 6, none⟩ (.int .i64 (getV s 6))) := by simp only [wrote, a0, a1, a2, a3, a4, a5, a6]
    rw [hwr] at hq
    clear hwr hl a0 a1 a2 a3 a4 a5 a6 hadr
    generalize hv0 : getV s 0 = v0 at *
    have HV0 := Lib.hid hv0; clear hv0
    generalize hv1 : getV s 1 = v1 at *
    have HV1 := Lib.hid hv1; clear hv1
    generalize hv2 : getV s 2 = v2 at *
    have HV2 := Lib.hid hv2; clear hv2
    generalize hv3 : getV s 3 = v3 at *
    have HV3 := Lib.hid hv3; clear hv3
    generalize hv4 : getV s 4 = v4 at *
    have HV4 := Lib.hid hv4; clear hv4
    generalize hv5 : getV s 5 = v5 at *
    have HV5 := Lib.hid hv5; clear hv5
    generalize hv6 : getV s 6 = v6 at *
    have HV6 := Lib.hid hv6; clear hv6
    rw [he] at hq
    have D0 : (((((((w4.setCell ⟨w.heap.size + 1 + 1, 0, none⟩ (.int .i64 v0)).setCell ⟨w.heap.size + 1, 1, none⟩ (.int .i64 v1)).setCell ⟨w.heap.size + 1, 2, none⟩ (.int .i64 v2)).setCell ⟨w.heap.size + 1, 3, none⟩ (.int .i64 v3)).setCell ⟨w.heap.size + 1 + 1 + 1, 0, none⟩ (.int .i64 v4)).setCell ⟨w.heap.size + 1, 5, none⟩ (.int .i64 v5)).setCell ⟨w.heap.size + 1, 6, none⟩ (.int .i64 v6)).heap[w.heap.size]? = some (.cells #[.int .i64 0, .int .i64 0, .int .i64 0, .int .i64 0, .int .i64 0, .int .i64 0, .int .i64 0] 41 (0, 0)) := set_oth (set_oth (set_oth (set_oth (set_oth (set_oth (set_oth (B0) _ _ (by omega)) _ _ (by omega)) _ _ (by omega)) _ _ (by omega)) _ _ (by omega)) _ _ (by omega)) _ _ (by omega)
    have D1 : (((((((w4.setCell ⟨w.heap.size + 1 + 1, 0, none⟩ (.int .i64 v0)).setCell ⟨w.heap.size + 1, 1, none⟩ (.int .i64 v1)).setCell ⟨w.heap.size + 1, 2, none⟩ (.int .i64 v2)).setCell ⟨w.heap.size + 1, 3, none⟩ (.int .i64 v3)).setCell ⟨w.heap.size + 1 + 1 + 1, 0, none⟩ (.int .i64 v4)).setCell ⟨w.heap.size + 1, 5, none⟩ (.int .i64 v5)).setCell ⟨w.heap.size + 1, 6, none⟩ (.int .i64 v6)).heap[w.heap.size + 1]? = some (.cells #[.int .i64 0, .int .i64 v1, .int .i64 v2, .int .i64 v3, .int .i64 0, .int .i64 v5, .int .i64 v6] 41 (0, 0)) := set_blk (set_blk (set_oth (set_blk (set_blk (set_blk (set_oth (B1) _ _ (by omega)) _ _) _ _) _ _) _ _ (by omega)) _ _) _ _
    have D2 : (((((((w4.setCell ⟨w.heap.size + 1 + 1, 0, none⟩ (.int .i64 v0)).setCell ⟨w.heap.size + 1, 1, none⟩ (.int .i64 v1)).setCell ⟨w.heap.size + 1, 2, none⟩ (.int .i64 v2)).setCell ⟨w.heap.size + 1, 3, none⟩ (.int .i64 v3)).setCell ⟨w.heap.size + 1 + 1 + 1, 0, none⟩ (.int .i64 v4)).setCell ⟨w.heap.size + 1, 5, none⟩ (.int .i64 v5)).setCell ⟨w.heap.size + 1, 6, none⟩ (.int .i64 v6)).heap[w.heap.size + 1 + 1]? = some (.cells #[.int .i64 v0] 2 (0, 0)) := set_oth (set_oth (set_oth (set_oth (set_oth (set_oth (set_blk (B2) _ _) _ _ (by omega)) _ _ (by omega)) _ _ (by omega)) _ _ (by omega)) _ _ (by omega)) _ _ (by omega)
    have D3 : (((((((w4.setCell ⟨w.heap.size + 1 + 1, 0, none⟩ (.int .i64 v0)).setCell ⟨w.heap.size + 1, 1, none⟩ (.int .i64 v1)).setCell ⟨w.heap.size + 1, 2, none⟩ (.int .i64 v2)).setCell ⟨w.heap.size + 1, 3, none⟩ (.int .i64 v3)).setCell ⟨w.heap.size + 1 + 1 + 1, 0, none⟩ (.int .i64 v4)).setCell ⟨w.heap.size + 1, 5, none⟩ (.int .i64 v5)).setCell ⟨w.heap.size + 1, 6, none⟩ (.int .i64 v6)).heap[w.heap.size + 1 + 1 + 1]? = some (.cells #[.int .i64 v4] 2 (0, 0)) := set_oth (set_oth (set_blk (set_oth (set_oth (set_oth (set_oth (B3) _ _ (by omega)) _ _ (by omega)) _ _ (by omega)) _ _ (by omega)) _ _) _ _ (by omega)) _ _ (by omega)
    have HQ := Lib.hid hq; clear hq
    have HB1 : Hid (Below w.heap.size w (((((((w4.setCell ⟨w.heap.size + 1 + 1, 0, none⟩ (.int .i64 v0)).setCell ⟨w.heap.size + 1, 1, none⟩ (.int .i64 v1)).setCell ⟨w.heap.size + 1, 2, none⟩ (.int .i64 v2)).setCell ⟨w.heap.size + 1, 3, none⟩ (.int .i64 v3)).setCell ⟨w.heap.size + 1 + 1 + 1, 0, none⟩ (.int .i64 v4)).setCell ⟨w.heap.size + 1, 5, none⟩ (.int .i64 v5)).setCell ⟨w.heap.size + 1, 6, none⟩ (.int .i64 v6))) := by
      refine Below.setCell (Below.setCell (Below.setCell (Below.setCell (Below.setCell (Below.setCell (Below.setCell (HB0.out) (by simp only []; omega) _) (by simp only []; omega) _) (by simp only []; omega) _) (by simp only []; omega) _) (by simp only []; omega) _) (by simp only []; omega) _) (by simp only []; omega) _
    have hsz2 : (((((((w4.setCell ⟨w.heap.size + 1 + 1, 0, none⟩ (.int .i64 v0)).setCell ⟨w.heap.size + 1, 1, none⟩ (.int .i64 v1)).setCell ⟨w.heap.size + 1, 2, none⟩ (.int .i64 v2)).setCell ⟨w.heap.size + 1, 3, none⟩ (.int .i64 v3)).setCell ⟨w.heap.size + 1 + 1 + 1, 0, none⟩ (.int .i64 v4)).setCell ⟨w.heap.size + 1, 5, none⟩ (.int .i64 v5)).setCell ⟨w.heap.size + 1, 6, none⟩ (.int .i64 v6)).heap.size = w4.heap.size := by simp only [World.size_setCell]
    generalize (((((((w4.setCell ⟨w.heap.size + 1 + 1, 0, none⟩ (.int .i64 v0)).setCell ⟨w.heap.size + 1, 1, none⟩ (.int .i64 v1)).setCell ⟨w.heap.size + 1, 2, none⟩ (.int .i64 v2)).setCell ⟨w.heap.size + 1, 3, none⟩ (.int .i64 v3)).setCell ⟨w.heap.size + 1 + 1 + 1, 0, none⟩ (.int .i64 v4)).setCell ⟨w.heap.size + 1, 5, none⟩ (.int .i64 v5)).setCell ⟨w.heap.size + 1, 6, none⟩ (.int .i64 v6)) = w5 at *
    clear B0 B1 B2 B3 B4
    refine HQ.out.mono ?_
    rintro e w6 ⟨rfl, hb⟩
    have E0 := (hb.block (w.heap.size) (by omega)).trans D0
    have c0_0 := cells_of_blk E0 0 _ rfl
    have f0_0 := free_of_blk E0 0
    have c0_1 := cells_of_blk E0 1 _ rfl
    have f0_1 := free_of_blk E0 1
    have c0_2 := cells_of_blk E0 2 _ rfl
    have f0_2 := free_of_blk E0 2
    have c0_3 := cells_of_blk E0 3 _ rfl
    have f0_3 := free_of_blk E0 3
    have c0_4 := cells_of_blk E0 4 _ rfl
    have f0_4 := free_of_blk E0 4
    have c0_5 := cells_of_blk E0 5 _ rfl
    have f0_5 := free_of_blk E0 5
    have c0_6 := cells_of_blk E0 6 _ rfl
    have f0_6 := free_of_blk E0 6
    have E1 := (hb.block (w.heap.size + 1) (by omega)).trans D1
    have c1_0 := cells_of_blk E1 0 _ rfl
    have f1_0 := free_of_blk E1 0
    have c1_1 := cells_of_blk E1 1 _ rfl
    have f1_1 := free_of_blk E1 1
    have c1_2 := cells_of_blk E1 2 _ rfl
    have f1_2 := free_of_blk E1 2
    have c1_3 := cells_of_blk E1 3 _ rfl
    have f1_3 := free_of_blk E1 3
    have c1_4 := cells_of_blk E1 4 _ rfl
    have f1_4 := free_of_blk E1 4
    have c1_5 := cells_of_blk E1 5 _ rfl
    have f1_5 := free_of_blk E1 5
    have c1_6 := cells_of_blk E1 6 _ rfl
    have f1_6 := free_of_blk E1 6
    have E2 := (hb.block (w.heap.size + 1 + 1) (by omega)).trans D2
    have c2_0 := cells_of_blk E2 0 _ rfl
    have E3 := (hb.block (w.heap.size + 1 + 1 + 1) (by omega)).trans D3
    have c3_0 := cells_of_blk E3 0 _ rfl
    have HB6 := Lib.hid (HB1.out.trans (hb.mono (show w.heap.size ≤ w4.heap.size by omega)))
    clear hb HQ HB0 HB1 D0 D1 D2 D3 E0 E1 E2 E3
    go_wp2_with fail
    refine bodyPost_ret (v := .tuple #[.agg #[.int .i64 v0, .int .i64 v1, .int .i64 v2, .int .i64 v3, .int .i64 v4, .int .i64 v5, .int .i64 v6], .int .i64 0]) ?_ rfl ⟨by rw [HV0.out, HV1.out, HV2.out, HV3.out, HV4.out, HV5.out, HV6.out], ?_⟩
    · rw [results_cell_tmp rfl]; go_simp
    · refine Below.setCell (Below.setCell (Below.setCell (Below.setCell (Below.setCell (Below.setCell (Below.setCell (Below.setCell (Below.setCell (HB6.out) (by simp only []; omega) _) (by simp only []; omega) _) (by simp only []; omega) _) (by simp only []; omega) _) (by simp only []; omega) _) (by simp only []; omega) _) (by simp only []; omega) _) (by simp only []; omega) _) (by simp only []; omega) _
  · rw [show evV s 7 0 = 0 from if_neg he, show evV s 7 1 = 0 from if_neg he, show evV s 7 2 = 0 from if_neg he, show evV s 7 3 = 0 from if_neg he, show evV s 7 4 = 0 from if_neg he, show evV s 7 5 = 0 from if_neg he, show evV s 7 6 = 0 from if_neg he]
    go_enter Tryd.func28, Tryd.ntmps28
    go_wp2_with fail
    obtain ⟨w4, hw4⟩ : ∃ w4, (((((w.alloc (.cells #[.int .i64 0, .int .i64 0, .int .i64 0, .int .i64 0, .int .i64 0, .int .i64 0, .int .i64 0] 41)).alloc (.cells #[.int .i64 0, .int .i64 0, .int .i64 0, .int .i64 0, .int .i64 0, .int .i64 0, .int .i64 0] 41)).alloc (.cells #[.int .i64 0] 2)).alloc (.cells #[.int .i64 0] 2)).alloc (.cells #[.pointer (some ⟨w.heap.size + 1 + 1, 0, none⟩), .pointer (some ⟨w.heap.size + 1, 1, none⟩), .pointer (some ⟨w.heap.size + 1, 2, none⟩), .pointer (some ⟨w.heap.size + 1, 3, none⟩), .pointer (some ⟨w.heap.size + 1 + 1 + 1, 0, none⟩), .pointer (some ⟨w.heap.size + 1, 5, none⟩), .pointer (some ⟨w.heap.size + 1, 6, none⟩)] 80)) = w4 := ⟨_, rfl⟩
    have hsz : w4.heap.size = w.heap.size + 1 + 1 + 1 + 1 + 1 := by rw [← hw4]; simp
    have B0 : w4.heap[w.heap.size]? = some (.cells #[.int .i64 0, .int .i64 0, .int .i64 0, .int .i64 0, .int .i64 0, .int .i64 0, .int .i64 0] 41) := by rw [← hw4]; exact blk_old (blk_old (blk_old (blk_old (blk_new _ _ _ (by simp)) _) _) _) _
    have B1 : w4.heap[w.heap.size + 1]? = some (.cells #[.int .i64 0, .int .i64 0, .int .i64 0, .int .i64 0, .int .i64 0, .int .i64 0, .int .i64 0] 41) := by rw [← hw4]; exact blk_old (blk_old (blk_old (blk_new _ _ _ (by simp)) _) _) _
    have B2 : w4.heap[w.heap.size + 1 + 1]? = some (.cells #[.int .i64 0] 2) := by rw [← hw4]; exact blk_old (blk_old (blk_new _ _ _ (by simp)) _) _
    have B3 : w4.heap[w.heap.size + 1 + 1 + 1]? = some (.cells #[.int .i64 0] 2) := by rw [← hw4]; exact blk_old (blk_new _ _ _ (by simp)) _
    have B4 : w4.heap[w.heap.size + 1 + 1 + 1 + 1]? = some (.cells #[.pointer (some ⟨w.heap.size + 1 + 1, 0, none⟩), .pointer (some ⟨w.heap.size + 1, 1, none⟩), .pointer (some ⟨w.heap.size + 1, 2, none⟩), .pointer (some ⟨w.heap.size + 1, 3, none⟩), .pointer (some ⟨w.heap.size + 1 + 1 + 1, 0, none⟩), .pointer (some ⟨w.heap.size + 1, 5, none⟩), .pointer (some ⟨w.heap.size + 1, 6, none⟩)] 80) := by rw [← hw4]; exact blk_new _ _ _ (by simp)
    have HB0 : Hid (Below w.heap.size w w4) := by
      rw [← hw4]
      refine below_alloc (below_alloc (below_alloc (below_alloc (below_alloc (Below.refl _ w) (by simp) _) (by simp; try omega) _) (by simp; try omega) _) (by simp; try omega) _) (by simp; try omega) _
    rw [hw4]
    clear hw4
    obtain ⟨adr, hadr⟩ : ∃ adr : Nat → Nat × Nat, adr = fun i => match i with
      | 0 => (w.heap.size + 1 + 1, 0)
      | 1 => (w.heap.size + 1, 1)
      | 2 => (w.heap.size + 1, 2)
      | 3 => (w.heap.size + 1, 3)
      | 4 => (w.heap.size + 1 + 1 + 1, 0)
      | 5 => (w.heap.size + 1, 5)
      | 6 => (w.heap.size + 1, 6)
      | _ => (0, 0) := ⟨_, rfl⟩
    have a0 : adr 0 = (w.heap.size + 1 + 1, 0) := by rw [hadr]; rfl
    have a1 : adr 1 = (w.heap.size + 1, 1) := by rw [hadr]; rfl
    have a2 : adr 2 = (w.heap.size + 1, 2) := by rw [hadr]; rfl
    have a3 : adr 3 = (w.heap.size + 1, 3) := by rw [hadr]; rfl
    have a4 : adr 4 = (w.heap.size + 1 + 1 + 1, 0) := by rw [hadr]; rfl
    have a5 : adr 5 = (w.heap.size + 1, 5) := by rw [hadr]; rfl
    have a6 : adr 6 = (w.heap.size + 1, 6) := by rw [hadr]; rfl
    have hl : Hid (∀ i, i < 7 → w4.cell? ⟨w.heap.size + 1 + 1 + 1 + 1, 0 + i, none⟩ = some (.pointer (some ⟨(adr i).1, (adr i).2, none⟩)) ∧ There w4 (adr i).1 (adr i).2 ∧ (adr i).1 ≠ w.heap.size + 1 + 1 + 1 + 1) := by
      intro i hi
      match i, hi with
      | 0, _ => rw [a0]; exact ⟨cells_of_blk B4 0 _ rfl, there_blk B2 0 (by simp), by simp only []; omega⟩
      | 1, _ => rw [a1]; exact ⟨cells_of_blk B4 1 _ rfl, there_blk B1 1 (by simp), by simp only []; omega⟩
      | 2, _ => rw [a2]; exact ⟨cells_of_blk B4 2 _ rfl, there_blk B1 2 (by simp), by simp only []; omega⟩
      | 3, _ => rw [a3]; exact ⟨cells_of_blk B4 3 _ rfl, there_blk B1 3 (by simp), by simp only []; omega⟩
      | 4, _ => rw [a4]; exact ⟨cells_of_blk B4 4 _ rfl, there_blk B3 0 (by simp), by simp only []; omega⟩
      | 5, _ => rw [a5]; exact ⟨cells_of_blk B4 5 _ rfl, there_blk B1 5 (by simp), by simp only []; omega⟩
      | 6, _ => rw [a6]; exact ⟨cells_of_blk B4 6 _ rfl, there_blk B1 6 (by simp), by simp only []; omega⟩
    have hq := get_any s (w.heap.size + 1 + 1 + 1 + 1) 0 7 7 adr w4 hs (by show (7 : Nat) ≤ 20; omega) (by show _ < _; omega) hl
    have hwr : wrote w4 adr (getV s) 7 = (((((((w4.setCell ⟨w.heap.size + 1 + 1, 0, none⟩ (.int .i64 (getV s 0))).setCell ⟨w.heap.size + 1, 1, none⟩ (.int .i64 (getV s 1))).setCell ⟨w.heap.size + 1, 2, none⟩ (.int .i64 (getV s 2))).setCell ⟨w.heap.size + 1, 3, none⟩ (.int .i64 (getV s 3))).setCell ⟨w.heap.size + 1 + 1 + 1, 0, none⟩ (.int .i64 (getV s 4))).setCell ⟨w.heap.size + 1, 5, none⟩ (.int .i64 (getV s 5))).setCell ⟨w.heap.size + 1, 6, none⟩ (.int .i64 (getV s 6))) := by simp only [wrote, a0, a1, a2, a3, a4, a5, a6]
    rw [hwr] at hq
    clear hwr hl a0 a1 a2 a3 a4 a5 a6 hadr
    generalize hv0 : getV s 0 = v0 at *
    have HV0 := Lib.hid hv0; clear hv0
    generalize hv1 : getV s 1 = v1 at *
    have HV1 := Lib.hid hv1; clear hv1
    generalize hv2 : getV s 2 = v2 at *
    have HV2 := Lib.hid hv2; clear hv2
    generalize hv3 : getV s 3 = v3 at *
    have HV3 := Lib.hid hv3; clear hv3
    generalize hv4 : getV s 4 = v4 at *
    have HV4 := Lib.hid hv4; clear hv4
    generalize hv5 : getV s 5 = v5 at *
    have HV5 := Lib.hid hv5; clear hv5
    generalize hv6 : getV s 6 = v6 at *
    have HV6 := Lib.hid hv6; clear hv6
    generalize her : getE s 7 = er at *
    have HER := Lib.hid her; clear her
    have he' : (er != 0) = true := by simpa using he
    have D0 : (((((((w4.setCell ⟨w.heap.size + 1 + 1, 0, none⟩ (.int .i64 v0)).setCell ⟨w.heap.size + 1, 1, none⟩ (.int .i64 v1)).setCell ⟨w.heap.size + 1, 2, none⟩ (.int .i64 v2)).setCell ⟨w.heap.size + 1, 3, none⟩ (.int .i64 v3)).setCell ⟨w.heap.size + 1 + 1 + 1, 0, none⟩ (.int .i64 v4)).setCell ⟨w.heap.size + 1, 5, none⟩ (.int .i64 v5)).setCell ⟨w.heap.size + 1, 6, none⟩ (.int .i64 v6)).heap[w.heap.size]? = some (.cells #[.int .i64 0, .int .i64 0, .int .i64 0, .int .i64 0, .int .i64 0, .int .i64 0, .int .i64 0] 41 (0, 0)) := set_oth (set_oth (set_oth (set_oth (set_oth (set_oth (set_oth (B0) _ _ (by omega)) _ _ (by omega)) _ _ (by omega)) _ _ (by omega)) _ _ (by omega)) _ _ (by omega)) _ _ (by omega)
    have D1 : (((((((w4.setCell ⟨w.heap.size + 1 + 1, 0, none⟩ (.int .i64 v0)).setCell ⟨w.heap.size + 1, 1, none⟩ (.int .i64 v1)).setCell ⟨w.heap.size + 1, 2, none⟩ (.int .i64 v2)).setCell ⟨w.heap.size + 1, 3, none⟩ (.int .i64 v3)).setCell ⟨w.heap.size + 1 + 1 + 1, 0, none⟩ (.int .i64 v4)).setCell ⟨w.heap.size + 1, 5, none⟩ (.int .i64 v5)).setCell ⟨w.heap.size + 1, 6, none⟩ (.int .i64 v6)).heap[w.heap.size + 1]? = some (.cells #[.int .i64 0, .int .i64 v1, .int .i64 v2, .int .i64 v3, .int .i64 0, .int .i64 v5, .int .i64 v6] 41 (0, 0)) := set_blk (set_blk (set_oth (set_blk (set_blk (set_blk (set_oth (B1) _ _ (by omega)) _ _) _ _) _ _) _ _ (by omega)) _ _) _ _
    have D2 : (((((((w4.setCell ⟨w.heap.size + 1 + 1, 0, none⟩ (.int .i64 v0)).setCell ⟨w.heap.size + 1, 1, none⟩ (.int .i64 v1)).setCell ⟨w.heap.size + 1, 2, none⟩ (.int .i64 v2)).setCell ⟨w.heap.size + 1, 3, none⟩ (.int .i64 v3)).setCell ⟨w.heap.size + 1 + 1 + 1, 0, none⟩ (.int .i64 v4)).setCell ⟨w.heap.size + 1, 5, none⟩ (.int .i64 v5)).setCell ⟨w.heap.size + 1, 6, none⟩ (.int .i64 v6)).heap[w.heap.size + 1 + 1]? = some (.cells #[.int .i64 v0] 2 (0, 0)) := set_oth (set_oth (set_oth (set_oth (set_oth (set_oth (set_blk (B2) _ _) _ _ (by omega)) _ _ (by omega)) _ _ (by omega)) _ _ (by omega)) _ _ (by omega)) _ _ (by omega)
    have D3 : (((((((w4.setCell ⟨w.heap.size + 1 + 1, 0, none⟩ (.int .i64 v0)).setCell ⟨w.heap.size + 1, 1, none⟩ (.int .i64 v1)).setCell ⟨w.heap.size + 1, 2, none⟩ (.int .i64 v2)).setCell ⟨w.heap.size + 1, 3, none⟩ (.int .i64 v3)).setCell ⟨w.heap.size + 1 + 1 + 1, 0, none⟩ (.int .i64 v4)).setCell ⟨w.heap.size + 1, 5, none⟩ (.int .i64 v5)).setCell ⟨w.heap.size + 1, 6, none⟩ (.int .i64 v6)).heap[w.heap.size + 1 + 1 + 1]? = some (.cells #[.int .i64 v4] 2 (0, 0)) := set_oth (set_oth (set_blk (set_oth (set_oth (set_oth (set_oth (B3) _ _ (by omega)) _ _ (by omega)) _ _ (by omega)) _ _ (by omega)) _ _) _ _ (by omega)) _ _ (by omega)
    have HQ := Lib.hid hq; clear hq
    have HB1 : Hid (Below w.heap.size w (((((((w4.setCell ⟨w.heap.size + 1 + 1, 0, none⟩ (.int .i64 v0)).setCell ⟨w.heap.size + 1, 1, none⟩ (.int .i64 v1)).setCell ⟨w.heap.size + 1, 2, none⟩ (.int .i64 v2)).setCell ⟨w.heap.size + 1, 3, none⟩ (.int .i64 v3)).setCell ⟨w.heap.size + 1 + 1 + 1, 0, none⟩ (.int .i64 v4)).setCell ⟨w.heap.size + 1, 5, none⟩ (.int .i64 v5)).setCell ⟨w.heap.size + 1, 6, none⟩ (.int .i64 v6))) := by
      refine Below.setCell (Below.setCell (Below.setCell (Below.setCell (Below.setCell (Below.setCell (Below.setCell (HB0.out) (by simp only []; omega) _) (by simp only []; omega) _) (by simp only []; omega) _) (by simp only []; omega) _) (by simp only []; omega) _) (by simp only []; omega) _) (by simp only []; omega) _
    have hsz2 : (((((((w4.setCell ⟨w.heap.size + 1 + 1, 0, none⟩ (.int .i64 v0)).setCell ⟨w.heap.size + 1, 1, none⟩ (.int .i64 v1)).setCell ⟨w.heap.size + 1, 2, none⟩ (.int .i64 v2)).setCell ⟨w.heap.size + 1, 3, none⟩ (.int .i64 v3)).setCell ⟨w.heap.size + 1 + 1 + 1, 0, none⟩ (.int .i64 v4)).setCell ⟨w.heap.size + 1, 5, none⟩ (.int .i64 v5)).setCell ⟨w.heap.size + 1, 6, none⟩ (.int .i64 v6)).heap.size = w4.heap.size := by simp only [World.size_setCell]
    generalize (((((((w4.setCell ⟨w.heap.size + 1 + 1, 0, none⟩ (.int .i64 v0)).setCell ⟨w.heap.size + 1, 1, none⟩ (.int .i64 v1)).setCell ⟨w.heap.size + 1, 2, none⟩ (.int .i64 v2)).setCell ⟨w.heap.size + 1, 3, none⟩ (.int .i64 v3)).setCell ⟨w.heap.size + 1 + 1 + 1, 0, none⟩ (.int .i64 v4)).setCell ⟨w.heap.size + 1, 5, none⟩ (.int .i64 v5)).setCell ⟨w.heap.size + 1, 6, none⟩ (.int .i64 v6)) = w5 at *
    clear B0 B1 B2 B3 B4
    refine HQ.out.mono ?_
    rintro e w6 ⟨rfl, hb⟩
    have E0 := (hb.block (w.heap.size) (by omega)).trans D0
    have c0_0 := cells_of_blk E0 0 _ rfl
    have f0_0 := free_of_blk E0 0
    have c0_1 := cells_of_blk E0 1 _ rfl
    have f0_1 := free_of_blk E0 1
    have c0_2 := cells_of_blk E0 2 _ rfl
    have f0_2 := free_of_blk E0 2
    have c0_3 := cells_of_blk E0 3 _ rfl
    have f0_3 := free_of_blk E0 3
    have c0_4 := cells_of_blk E0 4 _ rfl
    have f0_4 := free_of_blk E0 4
    have c0_5 := cells_of_blk E0 5 _ rfl
    have f0_5 := free_of_blk E0 5
    have c0_6 := cells_of_blk E0 6 _ rfl
    have f0_6 := free_of_blk E0 6
    have E1 := (hb.block (w.heap.size + 1) (by omega)).trans D1
    have c1_0 := cells_of_blk E1 0 _ rfl
    have f1_0 := free_of_blk E1 0
    have c1_1 := cells_of_blk E1 1 _ rfl
    have f1_1 := free_of_blk E1 1
    have c1_2 := cells_of_blk E1 2 _ rfl
    have f1_2 := free_of_blk E1 2
    have c1_3 := cells_of_blk E1 3 _ rfl
    have f1_3 := free_of_blk E1 3
    have c1_4 := cells_of_blk E1 4 _ rfl
    have f1_4 := free_of_blk E1 4
    have c1_5 := cells_of_blk E1 5 _ rfl
    have f1_5 := free_of_blk E1 5
    have c1_6 := cells_of_blk E1 6 _ rfl
    have f1_6 := free_of_blk E1 6
    have E2 := (hb.block (w.heap.size + 1 + 1) (by omega)).trans D2
    have c2_0 := cells_of_blk E2 0 _ rfl
    have E3 := (hb.block (w.heap.size + 1 + 1 + 1) (by omega)).trans D3
    have c3_0 := cells_of_blk E3 0 _ rfl
    have HB6 := Lib.hid (HB1.out.trans (hb.mono (show w.heap.size ≤ w4.heap.size by omega)))
    clear hb HQ HB0 HB1 D0 D1 D2 D3 E0 E1 E2 E3
    go_wp2_with fail
    refine bodyPost_ret (v := .tuple #[.agg #[.int .i64 0, .int .i64 0, .int .i64 0, .int .i64 0, .int .i64 0, .int .i64 0, .int .i64 0], .int .i64 er]) ?_ rfl ⟨by rw [HER.out], ?_⟩
    · rw [results_cell_tmp rfl]; go_simp
    · refine Below.setCell (Below.setCell (Below.setCell (Below.setCell (Below.setCell (Below.setCell (Below.setCell (HB6.out) (by simp only []; omega) _) (by simp only []; omega) _) (by simp only []; omega) _) (by simp only []; omega) _) (by simp only []; omega) _) (by simp only []; omega) _) (by simp only []; omega) _

set_option maxRecDepth 100000 in
set_option maxHeartbeats 4000000 in
theorem GetPair_any (s : ByteArray) (w : World) (hs : Hid (s.size ≤ 1099511627776)) :
    Calls Tryd.prog 30 #[.string s] w fun e w' => e = .returned (.tuple #[.agg #[.int .i64 (evV s 9 0), .int .i64 (evV s 9 1), .int .i64 (evV s 9 2), .int .i64 (evV s 9 3), .int .i64 (evV s 9 4), .int .i64 (evV s 9 5), .int .i64 (evV s 9 6), .int .i64 (evV s 9 7), .int .i64 (evV s 9 8)], .int .i64 (getE s 9)]) ∧ Below w.heap.size w w' := by
  by_cases he : getE s 9 = 0
  · rw [show evV s 9 0 = getV s 0 from if_pos he, show evV s 9 1 = getV s 1 from if_pos he, show evV s 9 2 = getV s 2 from if_pos he, show evV s 9 3 = getV s 3 from if_pos he, show evV s 9 4 = getV s 4 from if_pos he, show evV s 9 5 = getV s 5 from if_pos he, show evV s 9 6 = getV s 6 from if_pos he, show evV s 9 7 = getV s 7 from if_pos he, show evV s 9 8 = getV s 8 from if_pos he, he]
    go_enter Tryd.func30, Tryd.ntmps30
    go_wp2_with fail
    obtain ⟨w4, hw4⟩ : ∃ w4, ((((((w.alloc (.cells #[.int .i64 0, .int .i64 0, .int .i64 0, .int .i64 0, .int .i64 0, .int .i64 0, .int .i64 0, .int .i64 0, .int .i64 0] 45)).alloc (.cells #[.int .i64 0, .int .i64 0, .int .i64 0, .int .i64 0, .int .i64 0, .int .i64 0, .int .i64 0, .int .i64 0, .int .i64 0] 45)).alloc (.cells #[.int .i64 0] 2)).alloc (.cells #[.int .i64 0] 2)).alloc (.cells #[.int .i64 0] 2)).alloc (.cells #[.pointer (some ⟨w.heap.size + 1 + 1, 0, none⟩), .pointer (some ⟨w.heap.size + 1, 1, none⟩), .pointer (some ⟨w.heap.size + 1, 2, none⟩), .pointer (some ⟨w.heap.size + 1, 3, none⟩), .pointer (some ⟨w.heap.size + 1 + 1 + 1, 0, none⟩), .pointer (some ⟨w.heap.size + 1, 5, none⟩), .pointer (some ⟨w.heap.size + 1, 6, none⟩), .pointer (some ⟨w.heap.size + 1 + 1 + 1 + 1, 0, none⟩), .pointer (some ⟨w.heap.size + 1, 8, none⟩)] 80)) = w4 := ⟨_, rfl⟩
    have hsz : w4.heap.size = w.heap.size + 1 + 1 + 1 + 1 + 1 + 1 := by rw [← hw4]; simp
    have B0 : w4.heap[w.heap.size]? = some (.cells #[.int .i64 0, .int .i64 0, .int .i64 0, .int .i64 0, .int .i64 0, .int .i64 0, .int .i64 0, .int .i64 0, .int .i64 0] 45) := by rw [← hw4]; exact blk_old (blk_old (blk_old (blk_old (blk_old (blk_new _ _ _ (by simp)) _) _) _) _) _
    have B1 : w4.heap[w.heap.size + 1]? = some (.cells #[.int .i64 0, .int .i64 0, .int .i64 0, .int .i64 0, .int .i64 0, .int .i64 0, .int .i64 0, .int .i64 0, .int .i64 0] 45) := by rw [← hw4]; exact blk_old (blk_old (blk_old (blk_old (blk_new _ _ _ (by simp)) _) _) _) _
    have B2 : w4.heap[w.heap.size + 1 + 1]? = some (.cells #[.int .i64 0] 2) := by rw [← hw4]; exact blk_old (blk_old (blk_old (blk_new _ _ _ (by simp)) _) _) _
    have B3 : w4.heap[w.heap.size + 1 + 1 + 1]? = some (.cells #[.int .i64 0] 2) := by rw [← hw4]; exact blk_old (blk_old (blk_new _ _ _ (by simp)) _) _
    have B4 : w4.heap[w.heap.size + 1 + 1 + 1 + 1]? = some (.cells #[.int .i64 0] 2) := by rw [← hw4]; exact blk_old (blk_new _ _ _ (by simp)) _
    have B5 : w4.heap[w.heap.size + 1 + 1 + 1 + 1 + 1]? = some (.cells #[.pointer (some ⟨w.heap.size + 1 + 1, 0, none⟩), .pointer (some ⟨w.heap.size + 1, 1, none⟩), .pointer (some ⟨w.heap.size + 1, 2, none⟩), .pointer (some ⟨w.heap.size + 1, 3, none⟩), .pointer (some ⟨w.heap.size + 1 + 1 + 1, 0, none⟩), .pointer (some ⟨w.heap.size + 1, 5, none⟩), .pointer (some ⟨w.heap.size + 1, 6, none⟩), .pointer (some ⟨w.heap.size + 1 + 1 + 1 + 1, 0, none⟩), .pointer (some ⟨w.heap.size + 1, 8, none⟩)] 80) := by rw [← hw4]; exact blk_new _ _ _ (by simp)
    have HB0 : Hid (Below w.heap.size w w4) := by
      rw [← hw4]
      refine below_alloc (below_alloc (below_alloc (below_alloc (below_alloc (below_alloc (Below.refl _ w) (by simp) _) (by simp; try omega) _) (by simp; try omega) _) (by simp; try omega) _) (by simp; try omega) _) (by simp; try omega) _
    rw [hw4]
    clear hw4
    obtain ⟨adr, hadr⟩ : ∃ adr : Nat → Nat × Nat, adr = fun i => match i with
      | 0 => (w.heap.size + 1 + 1, 0)
      | 1 => (w.heap.size + 1, 1)
      | 2 => (w.heap.size + 1, 2)
      | 3 => (w.heap.size + 1, 3)
      | 4 => (w.heap.size + 1 + 1 + 1, 0)
      | 5 => (w.heap.size + 1, 5)
      | 6 => (w.heap.size + 1, 6)
      | 7 => (w.heap.size + 1 + 1 + 1 + 1, 0)
      | 8 => (w.heap.size + 1, 8)
      | _ => (0, 0) := ⟨_, rfl⟩
    have a0 : adr 0 = (w.heap.size + 1 + 1, 0) := by rw [hadr]; rfl
    have a1 : adr 1 = (w.heap.size + 1, 1) := by rw [hadr]; rfl
    have a2 : adr 2 = (w.heap.size + 1, 2) := by rw [hadr]; rfl
    have a3 : adr 3 = (w.heap.size + 1, 3) := by rw [hadr]; rfl
    have a4 : adr 4 = (w.heap.size + 1 + 1 + 1, 0) := by rw [hadr]; rfl
    have a5 : adr 5 = (w.heap.size + 1, 5) := by rw [hadr]; rfl
    have a6 : adr 6 = (w.heap.size + 1, 6) := by rw [hadr]; rfl
    have a7 : adr 7 = (w.heap.size + 1 + 1 + 1 + 1, 0) := by rw [hadr]; rfl
    have a8 : adr 8 = (w.heap.size + 1, 8) := by rw [hadr]; rfl
    have hl : Hid (∀ i, i < 9 → w4.cell? ⟨w.heap.size + 1 + 1 + 1 + 1 + 1, 0 + i, none⟩ = some (.pointer (some ⟨(adr i).1, (adr i).2, none⟩)) ∧ There w4 (adr i).1 (adr i).2 ∧ (adr i).1 ≠ w.heap.size + 1 + 1 + 1 + 1 + 1) := by
      intro i hi
      match i, hi with
      | 0, _ => rw [a0]; exact ⟨cells_of_blk B5 0 _ rfl, there_blk B2 0 (by simp), by simp only []; omega⟩
      | 1, _ => rw [a1]; exact ⟨cells_of_blk B5 1 _ rfl, there_blk B1 1 (by simp), by simp only []; omega⟩
      | 2, _ => rw [a2]; exact ⟨cells_of_blk B5 2 _ rfl, there_blk B1 2 (by simp), by simp only []; omega⟩
      | 3, _ => rw [a3]; exact ⟨cells_of_blk B5 3 _ rfl, there_blk B1 3 (by simp), by simp only []; omega⟩
      | 4, _ => rw [a4]; exact ⟨cells_of_blk B5 4 _ rfl, there_blk B3 0 (by simp), by simp only []; omega⟩
      | 5, _ => rw [a5]; exact ⟨cells_of_blk B5 5 _ rfl, there_blk B1 5 (by simp), by simp only []; omega⟩
      | 6, _ => rw [a6]; exact ⟨cells_of_blk B5 6 _ rfl, there_blk B1 6 (by simp), by simp only []; omega⟩
      | 7, _ => rw [a7]; exact ⟨cells_of_blk B5 7 _ rfl, there_blk B4 0 (by simp), by simp only []; omega⟩
      | 8, _ => rw [a8]; exact ⟨cells_of_blk B5 8 _ rfl, there_blk B1 8 (by simp), by simp only []; omega⟩
    have hq := get_any s (w.heap.size + 1 + 1 + 1 + 1 + 1) 0 9 9 adr w4 hs (by show (9 : Nat) ≤ 20; omega) (by show _ < _; omega) hl
    have hwr : wrote w4 adr (getV s) 9 = (((((((((w4.setCell ⟨w.heap.size + 1 + 1, 0, none⟩ (.int .i64 (getV s 0))).setCell ⟨w.heap.size + 1, 1, none⟩ (.int .i64 (getV s 1))).setCell ⟨w.heap.size + 1, 2, none⟩ (.int .i64 (getV s 2))).setCell ⟨w.heap.size + 1, 3, none⟩ (.int .i64 (getV s 3))).setCell ⟨w.heap.size + 1 + 1 + 1, 0, none⟩ (.int .i64 (getV s 4))).setCell ⟨w.heap.size + 1, 5, none⟩ (.int .i64 (getV s 5))).setCell ⟨w.heap.size + 1, 6, none⟩ (.int .i64 (getV s 6))).setCell ⟨w.heap.size + 1 + 1 + 1 + 1, 0, none⟩ (.int .i64 (getV s 7))).setCell ⟨w.heap.size + 1, 8, none⟩ (.int .i64 (getV s 8))) := by simp only [wrote, a0, a1, a2, a3, a4, a5, a6, a7, a8]
    rw [hwr] at hq
    clear hwr hl a0 a1 a2 a3 a4 a5 a6 a7 a8 hadr
    generalize hv0 : getV s 0 = v0 at *
    have HV0 := Lib.hid hv0; clear hv0
    generalize hv1 : getV s 1 = v1 at *
    have HV1 := Lib.hid hv1; clear hv1
    generalize hv2 : getV s 2 = v2 at *
    have HV2 := Lib.hid hv2; clear hv2
    generalize hv3 : getV s 3 = v3 at *
    have HV3 := Lib.hid hv3; clear hv3
    generalize hv4 : getV s 4 = v4 at *
    have HV4 := Lib.hid hv4; clear hv4
    generalize hv5 : getV s 5 = v5 at *
    have HV5 := Lib.hid hv5; clear hv5
    generalize hv6 : getV s 6 = v6 at *
    have HV6 := Lib.hid hv6; clear hv6
    generalize hv7 : getV s 7 = v7 at *
    have HV7 := Lib.hid hv7; clear hv7
    generalize hv8 : getV s 8 = v8 at *
    have HV8 := Lib.hid hv8; clear hv8
    rw [he] at hq
    have D0 : (((((((((w4.setCell ⟨w.heap.size + 1 + 1, 0, none⟩ (.int .i64 v0)).setCell ⟨w.heap.size + 1, 1, none⟩ (.int .i64 v1)).setCell ⟨w.heap.size + 1, 2, none⟩ (.int .i64 v2)).setCell ⟨w.heap.size + 1, 3, none⟩ (.int .i64 v3)).setCell ⟨w.heap.size + 1 + 1 + 1, 0, none⟩ (.int .i64 v4)).setCell ⟨w.heap.size + 1, 5, none⟩ (.int .i64 v5)).setCell ⟨w.heap.size + 1, 6, none⟩ (.int .i64 v6)).setCell ⟨w.heap.size + 1 + 1 + 1 + 1, 0, none⟩ (.int .i64 v7)).setCell ⟨w.heap.size + 1, 8, none⟩ (.int .i64 v8)).heap[w.heap.size]? = some (.cells #[.int .i64 0, .int .i64 0, .int .i64 0, .int .i64 0, .int .i64 0, .int .i64 0, .int .i64 0, .int .i64 0, .int .i64 0] 45 (0, 0)) := set_oth (set_oth (set_oth (set_oth (set_oth (set_oth (set_oth (set_oth (set_oth (B0) _ _ (by omega)) _ _ (by omega)) _ _ (by omega)) _ _ (by omega)) _ _ (by omega)) _ _ (by omega)) _ _ (by omega)) _ _ (by omega)) _ _ (by omega)
    have D1 : (((((((((w4.setCell ⟨w.heap.size + 1 + 1, 0, none⟩ (.int .i64 v0)).setCell ⟨w.heap.size + 1, 1, none⟩ (.int .i64 v1)).setCell ⟨w.heap.size + 1, 2, none⟩ (.int .i64 v2)).setCell ⟨w.heap.size + 1, 3, none⟩ (.int .i64 v3)).setCell ⟨w.heap.size + 1 + 1 + 1, 0, none⟩ (.int .i64 v4)).setCell ⟨w.heap.size + 1, 5, none⟩ (.int .i64 v5)).setCell ⟨w.heap.size + 1, 6, none⟩ (.int .i64 v6)).setCell ⟨w.heap.size + 1 + 1 + 1 + 1, 0, none⟩ (.int .i64 v7)).setCell ⟨w.heap.size + 1, 8, none⟩ (.int .i64 v8)).heap[w.heap.size + 1]? = some (.cells #[.int .i64 0, .int .i64 v1, .int .i64 v2, .int .i64 v3, .int .i64 0, .int .i64 v5, .int .i64 v6, .int .i64 0, .int .i64 v8] 45 (0, 0)) := set_blk (set_oth (set_blk (set_blk (set_oth (set_blk (set_blk (set_blk (set_oth (B1) _ _ (by omega)) _ _) _ _) _ _) _ _ (by omega)) _ _) _ _) _ _ (by omega)) _ _
    have D2 : (((((((((w4.setCell ⟨w.heap.size + 1 + 1, 0, none⟩ (.int .i64 v0)).setCell ⟨w.heap.size + 1, 1, none⟩ (.int .i64 v1)).setCell ⟨w.heap.size + 1, 2, none⟩ (.int .i64 v2)).setCell ⟨w.heap.size + 1, 3, none⟩ (.int .i64 v3)).setCell ⟨w.heap.size + 1 + 1 + 1, 0, none⟩ (.int .i64 v4)).setCell ⟨w.heap.size + 1, 5, none⟩ (.int .i64 v5)).setCell ⟨w.heap.size + 1, 6, none⟩ (.int .i64 v6)).setCell ⟨w.heap.size + 1 + 1 + 1 + 1, 0, none⟩ (.int .i64 v7)).setCell ⟨w.heap.size + 1, 8, none⟩ (.int .i64 v8)).heap[w.heap.size + 1 + 1]? = some (.cells #[.int .i64 v0] 2 (0, 0)) := set_oth (set_oth (set_oth (set_oth (set_oth (set_oth (set_oth (set_oth (set_blk (B2) _ _) _ _ (by omega)) _ _ (by omega)) _ _ (by omega)) _ _ (by omega)) _ _ (by omega)) _ _ (by omega)) _ _ (by omega)) _ _ (by omega)
    have D3 : (((((((((w4.setCell ⟨w.heap.size + 1 + 1, 0, none⟩ (.int .i64 v0)).setCell ⟨w.heap.size + 1, 1, none⟩ (.int .i64 v1)).setCell ⟨w.heap.size + 1, 2, none⟩ (.int .i64 v2)).setCell ⟨w.heap.size + 1, 3, none⟩ (.int .i64 v3)).setCell ⟨w.heap.size + 1 + 1 + 1, 0, none⟩ (.int .i64 v4)).setCell ⟨w.heap.size + 1, 5, none⟩ (.int .i64 v5)).setCell ⟨w.heap.size + 1, 6, none⟩ (.int .i64 v6)).setCell ⟨w.heap.size + 1 + 1 + 1 + 1, 0, none⟩ (.int .i64 v7)).setCell ⟨w.heap.size + 1, 8, none⟩ (.int .i64 v8)).heap[w.heap.size + 1 + 1 + 1]? = some (.cells #[.int .i64 v4] 2 (0, 0)) := set_oth (set_oth (set_oth (set_oth (set_blk (set_oth (set_oth (set_oth (set_oth (B3) _ _ (by omega)) _ _ (by omega)) _ _ (by omega)) _ _ (by omega)) _ _) _ _ (by omega)) _ _ (by omega)) _ _ (by omega)) _ _ (by omega)
    have D4 : (((((((((w4.setCell ⟨w.heap.size + 1 + 1, 0, none⟩ (.int .i64 v0)).setCell ⟨w.heap.size + 1, 1, none⟩ (.int .i64 v1)).setCell ⟨w.heap.size + 1, 2, none⟩ (.int .i64 v2)).setCell ⟨w.heap.size + 1, 3, none⟩ (.int .i64 v3)).setCell ⟨w.heap.size + 1 + 1 + 1, 0, none⟩ (.int .i64 v4)).setCell ⟨w.heap.size + 1, 5, none⟩ (.int .i64 v5)).setCell ⟨w.heap.size + 1, 6, none⟩ (.int .i64 v6)).setCell ⟨w.heap.size + 1 + 1 + 1 + 1, 0, none⟩ (.int .i64 v7)).setCell ⟨w.heap.size + 1, 8, none⟩ (.int .i64 v8)).heap[w.heap.size + 1 + 1 + 1 + 1]? = some (.cells #[.int .i64 v7] 2 (0, 0)) := set_oth (set_blk (set_oth (set_oth (set_oth (set_oth (set_oth (set_oth (set_oth (B4) _ _ (by omega)) _ _ (by omega)) _ _ (by omega)) _ _ (by omega)) _ _ (by omega)) _ _ (by omega)) _ _ (by omega)) _ _) _ _ (by omega)
    have HQ := Lib.hid hq; clear hq
    have HB1 : Hid (Below w.heap.size w (((((((((w4.setCell ⟨w.heap.size + 1 + 1, 0, none⟩ (.int .i64 v0)).setCell ⟨w.heap.size + 1, 1, none⟩ (.int .i64 v1)).setCell ⟨w.heap.size + 1, 2, none⟩ (.int .i64 v2)).setCell ⟨w.heap.size + 1, 3, none⟩ (.int .i64 v3)).setCell ⟨w.heap.size + 1 + 1 + 1, 0, none⟩ (.int .i64 v4)).setCell ⟨w.heap.size + 1, 5, none⟩ (.int .i64 v5)).setCell ⟨w.heap.size + 1, 6, none⟩ (.int .i64 v6)).setCell ⟨w.heap.size + 1 + 1 + 1 + 1, 0, none⟩ (.int .i64 v7)).setCell ⟨w.heap.size + 1, 8, none⟩ (.int .i64 v8))) := by
      refine Below.setCell (Below.setCell (Below.setCell (Below.setCell (Below.setCell (Below.setCell (Below.setCell (Below.setCell (Below.setCell (HB0.out) (by simp only []; omega) _) (by simp only []; omega) _) (by simp only []; omega) _) (by simp only []; omega) _) (by simp only []; omega) _) (by simp only []; omega) _) (by simp only []; omega) _) (by simp only []; omega) _) (by simp only []; omega) _
    have hsz2 : (((((((((w4.setCell ⟨w.heap.size + 1 + 1, 0, none⟩ (.int .i64 v0)).setCell ⟨w.heap.size + 1, 1, none⟩ (.int .i64 v1)).setCell ⟨w.heap.size + 1, 2, none⟩ (.int .i64 v2)).setCell ⟨w.heap.size + 1, 3, none⟩ (.int .i64 v3)).setCell ⟨w.heap.size + 1 + 1 + 1, 0, none⟩ (.int .i64 v4)).setCell ⟨w.heap.size + 1, 5, none⟩ (.int .i64 v5)).setCell ⟨w.heap.size + 1, 6, none⟩ (.int .i64 v6)).setCell ⟨w.heap.size + 1 + 1 + 1 + 1, 0, none⟩ (.int .i64 v7)).setCell ⟨w.heap.size + 1, 8, none⟩ (.int .i64 v8)).heap.size = w4.heap.size := by simp only [World.size_setCell]
    generalize (((((((((w4.setCell ⟨w.heap.size + 1 + 1, 0, none⟩ (.int .i64 v0)).setCell ⟨w.heap.size + 1, 1, none⟩ (.int .i64 v1)).setCell ⟨w.heap.size + 1, 2, none⟩ (.int .i64 v2)).setCell ⟨w.heap.size + 1, 3, none⟩ (.int .i64 v3)).setCell ⟨w.heap.size + 1 + 1 + 1, 0, none⟩ (.int .i64 v4)).setCell ⟨w.heap.size + 1, 5, none⟩ (.int .i64 v5)).setCell ⟨w.heap.size + 1, 6, none⟩ (.int .i64 v6)).setCell ⟨w.heap.size + 1 + 1 + 1 + 1, 0, none⟩ (.int .i64 v7)).setCell ⟨w.heap.size + 1, 8, none⟩ (.int .i64 v8)) = w5 at *
    clear B0 B1 B2 B3 B4 B5
    refine HQ.out.mono ?_
    rintro e w6 ⟨rfl, hb⟩
    have E0 := (hb.block (w.heap.size) (by omega)).trans D0
    have c0_0 := cells_of_blk E0 0 _ rfl
    have f0_0 := free_of_blk E0 0
    have c0_1 := cells_of_blk E0 1 _ rfl
    have f0_1 := free_of_blk E0 1
    have c0_2 := cells_of_blk E0 2 _ rfl
    have f0_2 := free_of_blk E0 2
    have c0_3 := cells_of_blk E0 3 _ rfl
    have f0_3 := free_of_blk E0 3
    have c0_4 := cells_of_blk E0 4 _ rfl
    have f0_4 := free_of_blk E0 4
    have c0_5 := cells_of_blk E0 5 _ rfl
    have f0_5 := free_of_blk E0 5
    have c0_6 := cells_of_blk E0 6 _ rfl
    have f0_6 := free_of_blk E0 6
    have c0_7 := cells_of_blk E0 7 _ rfl
    have f0_7 := free_of_blk E0 7
    have c0_8 := cells_of_blk E0 8 _ rfl
    have f0_8 := free_of_blk E0 8
    have E1 := (hb.block (w.heap.size + 1) (by omega)).trans D1
    have c1_0 := cells_of_blk E1 0 _ rfl
    have f1_0 := free_of_blk E1 0
    have c1_1 := cells_of_blk E1 1 _ rfl
    have f1_1 := free_of_blk E1 1
    have c1_2 := cells_of_blk E1 2 _ rfl
    have f1_2 := free_of_blk E1 2
    have c1_3 := cells_of_blk E1 3 _ rfl
    have f1_3 := free_of_blk E1 3
    have c1_4 := cells_of_blk E1 4 _ rfl
    have f1_4 := free_of_blk E1 4
    have c1_5 := cells_of_blk E1 5 _ rfl
    have f1_5 := free_of_blk E1 5
    have c1_6 := cells_of_blk E1 6 _ rfl
    have f1_6 := free_of_blk E1 6
    have c1_7 := cells_of_blk E1 7 _ rfl
    have f1_7 := free_of_blk E1 7
    have c1_8 := cells_of_blk E1 8 _ rfl
    have f1_8 := free_of_blk E1 8
    have E2 := (hb.block (w.heap.size + 1 + 1) (by omega)).trans D2
    have c2_0 := cells_of_blk E2 0 _ rfl
    have E3 := (hb.block (w.heap.size + 1 + 1 + 1) (by omega)).trans D3
    have c3_0 := cells_of_blk E3 0 _ rfl
    have E4 := (hb.block (w.heap.size + 1 + 1 + 1 + 1) (by omega)).trans D4
    have c4_0 := cells_of_blk E4 0 _ rfl
    have HB6 := Lib.hid (HB1.out.trans (hb.mono (show w.heap.size ≤ w4.heap.size by omega)))
    clear hb HQ HB0 HB1 D0 D1 D2 D3 D4 E0 E1 E2 E3 E4
    go_wp2_with fail
    refine bodyPost_ret (v := .tuple #[.agg #[.int .i64 v0, .int .i64 v1, .int .i64 v2, .int .i64 v3, .int .i64 v4, .int .i64 v5, .int .i64 v6, .int .i64 v7, .int .i64 v8], .int .i64 0]) ?_ rfl ⟨by rw [HV0.out, HV1.out, HV2.out, HV3.out, HV4.out, HV5.out, HV6.out, HV7.out, HV8.out], ?_⟩
    · rw [results_cell_tmp rfl]; go_simp
    · refine Below.setCell (Below.setCell (Below.setCell (Below.setCell (Below.setCell (Below.setCell (Below.setCell (Below.setCell (Below.setCell (Below.setCell (Below.setCell (Below.setCell (HB6.out) (by simp only []; omega) _) (by simp only []; omega) _) (by simp only []; omega) _) (by simp only []; omega) _) (by simp only []; omega) _) (by simp only []; omega) _) (by simp only []; omega) _) (by simp only []; omega) _) (by simp only []; omega) _) (by simp only []; omega) _) (by simp only []; omega) _) (by simp only []; omega) _
  · rw [show evV s 9 0 = 0 from if_neg he, show evV s 9 1 = 0 from if_neg he, show evV s 9 2 = 0 from if_neg he, show evV s 9 3 = 0 from if_neg he, show evV s 9 4 = 0 from if_neg he, show evV s 9 5 = 0 from if_neg he, show evV s 9 6 = 0 from if_neg he, show evV s 9 7 = 0 from if_neg he, show evV s 9 8 = 0 from if_neg he]
    go_enter Tryd.func30, Tryd.ntmps30
    go_wp2_with fail
    obtain ⟨w4, hw4⟩ : ∃ w4, ((((((w.alloc (.cells #[.int .i64 0, .int .i64 0, .int .i64 0, .int .i64 0, .int .i64 0, .int .i64 0, .int .i64 0, .int .i64 0, .int .i64 0] 45)).alloc (.cells #[.int .i64 0, .int .i64 0, .int .i64 0, .int .i64 0, .int .i64 0, .int .i64 0, .int .i64 0, .int .i64 0, .int .i64 0] 45)).alloc (.cells #[.int .i64 0] 2)).alloc (.cells #[.int .i64 0] 2)).alloc (.cells #[.int .i64 0] 2)).alloc (.cells #[.pointer (some ⟨w.heap.size + 1 + 1, 0, none⟩), .pointer (some ⟨w.heap.size + 1, 1, none⟩), .pointer (some ⟨w.heap.size + 1, 2, none⟩), .pointer (some ⟨w.heap.size + 1, 3, none⟩), .pointer (some ⟨w.heap.size + 1 + 1 + 1, 0, none⟩), .pointer (some ⟨w.heap.size + 1, 5, none⟩), .pointer (some ⟨w.heap.size + 1, 6, none⟩), .pointer (some ⟨w.heap.size + 1 + 1 + 1 + 1, 0, none⟩), .pointer (some ⟨w.heap.size + 1, 8, none⟩)] 80)) = w4 := ⟨_, rfl⟩
    have hsz : w4.heap.size = w.heap.size + 1 + 1 + 1 + 1 + 1 + 1 := by rw [← hw4]; simp
    have B0 : w4.heap[w.heap.size]? = some (.cells #[.int .i64 0, .int .i64 0, .int .i64 0, .int .i64 0, .int .i64 0, .int .i64 0, .int .i64 0, .int .i64 0, .int .i64 0] 45) := by rw [← hw4]; exact blk_old (blk_old (blk_old (blk_old (blk_old (blk_new _ _ _ (by simp)) _) _) _) _) _
    have B1 : w4.heap[w.heap.size + 1]? = some (.cells #[.int .i64 0, .int .i64 0, .int .i64 0, .int .i64 0, .int .i64 0, .int .i64 0, .int .i64 0, .int .i64 0, .int .i64 0] 45) := by rw [← hw4]; exact blk_old (blk_old (blk_old (blk_old (blk_new _ _ _ (by simp)) _) _) _) _
    have B2 : w4.heap[w.heap.size + 1 + 1]? = some (.cells #[.int .i64 0] 2) := by rw [← hw4]; exact blk_old (blk_old (blk_old (blk_new _ _ _ (by simp)) _) _) _
    have B3 : w4.heap[w.heap.size + 1 + 1 + 1]? = some (.cells #[.int .i64 0] 2) := by rw [← hw4]; exact blk_old (blk_old (blk_new _ _ _ (by simp)) _) _
    have B4 : w4.heap[w.heap.size + 1 + 1 + 1 + 1]? = some (.cells #[.int .i64 0] 2) := by rw [← hw4]; exact blk_old (blk_new _ _ _ (by simp)) _
    have B5 : w4.heap[w.heap.size + 1 + 1 + 1 + 1 + 1]? = some (.cells #[.pointer (some ⟨w.heap.size + 1 + 1, 0, none⟩), .pointer (some ⟨w.heap.size + 1, 1, none⟩), .pointer (some ⟨w.heap.size + 1, 2, none⟩), .pointer (some ⟨w.heap.size + 1, 3, none⟩), .pointer (some ⟨w.heap.size + 1 + 1 + 1, 0, none⟩), .pointer (some ⟨w.heap.size + 1, 5, none⟩), .pointer (some ⟨w.heap.size + 1, 6, none⟩), .pointer (some ⟨w.heap.size + 1 + 1 + 1 + 1, 0, none⟩), .pointer (some ⟨w.heap.size + 1, 8, none⟩)] 80) := by rw [← hw4]; exact blk_new _ _ _ (by simp)
    have HB0 : Hid (Below w.heap.size w w4) := by
      rw [← hw4]
      refine below_alloc (below_alloc (below_alloc (below_alloc (below_alloc (below_alloc (Below.refl _ w) (by simp) _) (by simp; try omega) _) (by simp; try omega) _) (by simp; try omega) _) (by simp; try omega) _) (by simp; try omega) _
    rw [hw4]
    clear hw4
    obtain ⟨adr, hadr⟩ : ∃ adr : Nat → Nat × Nat, adr = fun i => match i with
      | 0 => (w.heap.size + 1 + 1, 0)
      | 1 => (w.heap.size + 1, 1)
      | 2 => (w.heap.size + 1, 2)
      | 3 => (w.heap.size + 1, 3)
      | 4 => (w.heap.size + 1 + 1 + 1, 0)
      | 5 => (w.heap.size + 1, 5)
      | 6 => (w.heap.size + 1, 6)
      | 7 => (w.heap.size + 1 + 1 + 1 + 1, 0)
      | 8 => (w.heap.size + 1, 8)
      | _ => (0, 0) := ⟨_, rfl⟩
    have a0 : adr 0 = (w.heap.size + 1 + 1, 0) := by rw [hadr]; rfl
    have a1 : adr 1 = (w.heap.size + 1, 1) := by rw [hadr]; rfl
    have a2 : adr 2 = (w.heap.size + 1, 2) := by rw [hadr]; rfl
    have a3 : adr 3 = (w.heap.size + 1, 3) := by rw [hadr]; rfl
    have a4 : adr 4 = (w.heap.size + 1 + 1 + 1, 0) := by rw [hadr]; rfl
    have a5 : adr 5 = (w.heap.size + 1, 5) := by rw [hadr]; rfl
    have a6 : adr 6 = (w.heap.size + 1, 6) := by rw [hadr]; rfl
    have a7 : adr 7 = (w.heap.size + 1 + 1 + 1 + 1, 0) := by rw [hadr]; rfl
    have a8 : adr 8 = (w.heap.size + 1, 8) := by rw [hadr]; rfl
    have hl : Hid (∀ i, i < 9 → w4.cell? ⟨w.heap.size + 1 + 1 + 1 + 1 + 1, 0 + i, none⟩ = some (.pointer (some ⟨(adr i).1, (adr i).2, none⟩)) ∧ There w4 (adr i).1 (adr i).2 ∧ (adr i).1 ≠ w.heap.size + 1 + 1 + 1 + 1 + 1) := by
      intro i hi
      match i, hi with
      | 0, _ => rw [a0]; exact ⟨cells_of_blk B5 0 _ rfl, there_blk B2 0 (by simp), by simp only []; omega⟩
      | 1, _ => rw [a1]; exact ⟨cells_of_blk B5 1 _ rfl, there_blk B1 1 (by simp), by simp only []; omega⟩
      | 2, _ => rw [a2]; exact ⟨cells_of_blk B5 2 _ rfl, there_blk B1 2 (by simp), by simp only []; omega⟩
      | 3, _ => rw [a3]; exact ⟨cells_of_blk B5 3 _ rfl, there_blk B1 3 (by simp), by simp only []; omega⟩
      | 4, _ => rw [a4]; exact ⟨cells_of_blk B5 4 _ rfl, there_blk B3 0 (by simp), by simp only []; omega⟩
      | 5, _ => rw [a5]; exact ⟨cells_of_blk B5 5 _ rfl, there_blk B1 5 (by simp), by simp only []; omega⟩
      | 6, _ => rw [a6]; exact ⟨cells_of_blk B5 6 _ rfl, there_blk B1 6 (by simp), by simp only []; omega⟩
      | 7, _ => rw [a7]; exact ⟨cells_of_blk B5 7 _ rfl, there_blk B4 0 (by simp), by simp only []; omega⟩
      | 8, _ => rw [a8]; exact ⟨cells_of_blk B5 8 _ rfl, there_blk B1 8 (by simp), by simp only []; omega⟩
    have hq := get_any s (w.heap.size + 1 + 1 + 1 + 1 + 1) 0 9 9 adr w4 hs (by show (9 : Nat) ≤ 20; omega) (by show _ < _; omega) hl
    have hwr : wrote w4 adr (getV s) 9 = (((((((((w4.setCell ⟨w.heap.size + 1 + 1, 0, none⟩ (.int .i64 (getV s 0))).setCell ⟨w.heap.size + 1, 1, none⟩ (.int .i64 (getV s 1))).setCell ⟨w.heap.size + 1, 2, none⟩ (.int .i64 (getV s 2))).setCell ⟨w.heap.size + 1, 3, none⟩ (.int .i64 (getV s 3))).setCell ⟨w.heap.size + 1 + 1 + 1, 0, none⟩ (.int .i64 (getV s 4))).setCell ⟨w.heap.size + 1, 5, none⟩ (.int .i64 (getV s 5))).setCell ⟨w.heap.size + 1, 6, none⟩ (.int .i64 (getV s 6))).setCell ⟨w.heap.size + 1 + 1 + 1 + 1, 0, none⟩ (.int .i64 (getV s 7))).setCell ⟨w.heap.size + 1, 8, none⟩ (.int .i64 (getV s 8))) := by simp only [wrote, a0, a1, a2, a3, a4, a5, a6, a7, a8]
    rw [hwr] at hq
    clear hwr hl a0 a1 a2 a3 a4 a5 a6 a7 a8 hadr
    generalize hv0 : getV s 0 = v0 at *
    have HV0 := Lib.hid hv0; clear hv0
    generalize hv1 : getV s 1 = v1 at *
    have HV1 := Lib.hid hv1; clear hv1
    generalize hv2 : getV s 2 = v2 at *
    have HV2 := Lib.hid hv2; clear hv2
    generalize hv3 : getV s 3 = v3 at *
    have HV3 := Lib.hid hv3; clear hv3
    generalize hv4 : getV s 4 = v4 at *
    have HV4 := Lib.hid hv4; clear hv4
    generalize hv5 : getV s 5 = v5 at *
    have HV5 := Lib.hid hv5; clear hv5
    generalize hv6 : getV s 6 = v6 at *
    have HV6 := Lib.hid hv6; clear hv6
    generalize hv7 : getV s 7 = v7 at *
    have HV7 := Lib.hid hv7; clear hv7
    generalize hv8 : getV s 8 = v8 at *
    have HV8 := Lib.hid hv8; clear hv8
    generalize her : getE s 9 = er at *
    have HER := Lib.hid her; clear her
    have he' : (er != 0) = true := by simpa using he
    have D0 : (((((((((w4.setCell ⟨w.heap.size + 1 + 1, 0, none⟩ (.int .i64 v0)).setCell ⟨w.heap.size + 1, 1, none⟩ (.int .i64 v1)).setCell ⟨w.heap.size + 1, 2, none⟩ (.int .i64 v2)).setCell ⟨w.heap.size + 1, 3, none⟩ (.int .i64 v3)).setCell ⟨w.heap.size + 1 + 1 + 1, 0, none⟩ (.int .i64 v4)).setCell ⟨w.heap.size + 1, 5, none⟩ (.int .i64 v5)).setCell ⟨w.heap.size + 1, 6, none⟩ (.int .i64 v6)).setCell ⟨w.heap.size + 1 + 1 + 1 + 1, 0, none⟩ (.int .i64 v7)).setCell ⟨w.heap.size + 1, 8, none⟩ (.int .i64 v8)).heap[w.heap.size]? = some (.cells #[.int .i64 0, .int .i64 0, .int .i64 0, .int .i64 0, .int .i64 0, .int .i64 0, .int .i64 0, .int .i64 0, .int .i64 0] 45 (0, 0)) := set_oth (set_oth (set_oth (set_oth (set_oth (set_oth (set_oth (set_oth (set_oth (B0) _ _ (by omega)) _ _ (by omega)) _ _ (by omega)) _ _ (by omega)) _ _ (by omega)) _ _ (by omega)) _ _ (by omega)) _ _ (by omega)) _ _ (by omega)
    have D1 : (((((((((w4.setCell ⟨w.heap.size + 1 + 1, 0, none⟩ (.int .i64 v0)).setCell ⟨w.heap.size + 1, 1, none⟩ (.int .i64 v1)).setCell ⟨w.heap.size + 1, 2, none⟩ (.int .i64 v2)).setCell ⟨w.heap.size + 1, 3, none⟩ (.int .i64 v3)).setCell ⟨w.heap.size + 1 + 1 + 1, 0, none⟩ (.int .i64 v4)).setCell ⟨w.heap.size + 1, 5, none⟩ (.int .i64 v5)).setCell ⟨w.heap.size + 1, 6, none⟩ (.int .i64 v6)).setCell ⟨w.heap.size + 1 + 1 + 1 + 1, 0, none⟩ (.int .i64 v7)).setCell ⟨w.heap.size + 1, 8, none⟩ (.int .i64 v8)).heap[w.heap.size + 1]? = some (.cells #[.int .i64 0, .int .i64 v1, .int .i64 v2, .int .i64 v3, .int .i64 0, .int .i64 v5, .int .i64 v6, .int .i64 0, .int .i64 v8] 45 (0, 0)) := set_blk (set_oth (set_blk (set_blk (set_oth (set_blk (set_blk (set_blk (set_oth (B1) _ _ (by omega)) _ _) _ _) _ _) _ _ (by omega)) _ _) _ _) _ _ (by omega)) _ _
    have D2 : (((((((((w4.setCell ⟨w.heap.size + 1 + 1, 0, none⟩ (.int .i64 v0)).setCell ⟨w.heap.size + 1, 1, none⟩ (.int .i64 v1)).setCell ⟨w.heap.size + 1, 2, none⟩ (.int .i64 v2)).setCell ⟨w.heap.size + 1, 3, none⟩ (.int .i64 v3)).setCell ⟨w.heap.size + 1 + 1 + 1, 0, none⟩ (.int .i64 v4)).setCell ⟨w.heap.size + 1, 5, none⟩ (.int .i64 v5)).setCell ⟨w.heap.size + 1, 6, none⟩ (.int .i64 v6)).setCell ⟨w.heap.size + 1 + 1 + 1 + 1, 0, none⟩ (.int .i64 v7)).setCell ⟨w.heap.size + 1, 8, none⟩ (.int .i64 v8)).heap[w.heap.size + 1 + 1]? = some (.cells #[.int .i64 v0] 2 (0, 0)) := set_oth (set_oth (set_oth (set_oth (set_oth (set_oth (set_oth (set_oth (set_blk (B2) _ _) _ _ (by omega)) _ _ (by omega)) _ _ (by omega)) _ _ (by omega)) _ _ (by omega)) _ _ (by omega)) _ _ (by omega)) _ _ (by omega)
    have D3 : (((((((((w4.setCell ⟨w.heap.size + 1 + 1, 0, none⟩ (.int .i64 v0)).setCell ⟨w.heap.size + 1, 1, none⟩ (.int .i64 v1)).setCell ⟨w.heap.size + 1, 2, none⟩ (.int .i64 v2)).setCell ⟨w.heap.size + 1, 3, none⟩ (.int .i64 v3)).setCell ⟨w.heap.size + 1 + 1 + 1, 0, none⟩ (.int .i64 v4)).setCell ⟨w.heap.size + 1, 5, none⟩ (.int .i64 v5)).setCell ⟨w.heap.size + 1, 6, none⟩ (.int .i64 v6)).setCell ⟨w.heap.size + 1 + 1 + 1 + 1, 0, none⟩ (.int .i64 v7)).setCell ⟨w.heap.size + 1, 8, none⟩ (.int .i64 v8)).heap[w.heap.size + 1 + 1 + 1]? = some (.cells #[.int .i64 v4] 2 (0, 0)) := set_oth (set_oth (set_oth (set_oth (set_blk (set_oth (set_oth (set_oth (set_oth (B3) _ _ (by omega)) _ _ (by omega)) _ _ (by omega)) _ _ (by omega)) _ _) _ _ (by omega)) _ _ (by omega)) _ _ (by omega)) _ _ (by omega)
    have D4 : (((((((((w4.setCell ⟨w.heap.size + 1 + 1, 0, none⟩ (.int .i64 v0)).setCell ⟨w.heap.size + 1, 1, none⟩ (.int .i64 v1)).setCell ⟨w.heap.size + 1, 2, none⟩ (.int .i64 v2)).setCell ⟨w.heap.size + 1, 3, none⟩ (.int .i64 v3)).setCell ⟨w.heap.size + 1 + 1 + 1, 0, none⟩ (.int .i64 v4)).setCell ⟨w.heap.size + 1, 5, none⟩ (.int .i64 v5)).setCell ⟨w.heap.size + 1, 6, none⟩ (.int .i64 v6)).setCell ⟨w.heap.size + 1 + 1 + 1 + 1, 0, none⟩ (.int .i64 v7)).setCell ⟨w.heap.size + 1, 8, none⟩ (.int .i64 v8)).heap[w.heap.size + 1 + 1 + 1 + 1]? = some (.cells #[.int .i64 v7] 2 (0, 0)) := set_oth (set_blk (set_oth (set_oth (set_oth (set_oth (set_oth (set_oth (set_oth (B4) _ _ (by omega)) _ _ (by omega)) _ _ (by omega)) _ _ (by omega)) _ _ (by omega)) _ _ (by omega)) _ _ (by omega)) _ _) _ _ (by omega)
    have HQ := Lib.hid hq; clear hq
    have HB1 : Hid (Below w.heap.size w (((((((((w4.setCell ⟨w.heap.size + 1 + 1, 0, none⟩ (.int .i64 v0)).setCell ⟨w.heap.size + 1, 1, none⟩ (.int .i64 v1)).setCell ⟨w.heap.size + 1, 2, none⟩ (.int .i64 v2)).setCell ⟨w.heap.size + 1, 3, none⟩ (.int .i64 v3)).setCell ⟨w.heap.size + 1 + 1 + 1, 0, none⟩ (.int .i64 v4)).setCell ⟨w.heap.size + 1, 5, none⟩ (.int .i64 v5)).setCell ⟨w.heap.size + 1, 6, none⟩ (.int .i64 v6)).setCell ⟨w.heap.size + 1 + 1 + 1 + 1, 0, none⟩ (.int .i64 v7)).setCell ⟨w.heap.size + 1, 8, none⟩ (.int .i64 v8))) := by
      refine Below.setCell (Below.setCell (Below.setCell (Below.setCell (Below.setCell (Below.setCell (Below.setCell (Below.setCell (Below.setCell (HB0.out) (by simp only []; omega) _) (by simp only []; omega) _) (by simp only []; omega) _) (by simp only []; omega) _) (by simp only []; omega) _) (by simp only []; omega) _) (by simp only []; omega) _) (by simp only []; omega) _) (by simp only []; omega) _
    have hsz2 : (((((((((w4.setCell ⟨w.heap.size + 1 + 1, 0, none⟩ (.int .i64 v0)).setCell ⟨w.heap.size + 1, 1, none⟩ (.int .i64 v1)).setCell ⟨w.heap.size + 1, 2, none⟩ (.int .i64 v2)).setCell ⟨w.heap.size + 1, 3, none⟩ (.int .i64 v3)).setCell ⟨w.heap.size + 1 + 1 + 1, 0, none⟩ (.int .i64 v4)).setCell ⟨w.heap.size + 1, 5, none⟩ (.int .i64 v5)).setCell ⟨w.heap.size + 1, 6, none⟩ (.int .i64 v6)).setCell ⟨w.heap.size + 1 + 1 + 1 + 1, 0, none⟩ (.int .i64 v7)).setCell ⟨w.heap.size + 1, 8, none⟩ (.int .i64 v8)).heap.size = w4.heap.size := by simp only [World.size_setCell]
    generalize (((((((((w4.setCell ⟨w.heap.size + 1 + 1, 0, none⟩ (.int .i64 v0)).setCell ⟨w.heap.size + 1, 1, none⟩ (.int .i64 v1)).setCell ⟨w.heap.size + 1, 2, none⟩ (.int .i64 v2)).setCell ⟨w.heap.size + 1, 3, none⟩ (.int .i64 v3)).setCell ⟨w.heap.size + 1 + 1 + 1, 0, none⟩ (.int .i64 v4)).setCell ⟨w.heap.size + 1, 5, none⟩ (.int .i64 v5)).setCell ⟨w.heap.size + 1, 6, none⟩ (.int .i64 v6)).setCell ⟨w.heap.size + 1 + 1 + 1 + 1, 0, none⟩ (.int .i64 v7)).setCell ⟨w.heap.size + 1, 8, none⟩ (.int .i64 v8)) = w5 at *
    clear B0 B1 B2 B3 B4 B5
    refine HQ.out.mono ?_
    rintro e w6 ⟨rfl, hb⟩
    have E0 := (hb.block (w.heap.size) (by omega)).trans D0
    have c0_0 := cells_of_blk E0 0 _ rfl
    have f0_0 := free_of_blk E0 0
    have c0_1 := cells_of_blk E0 1 _ rfl
    have f0_1 := free_of_blk E0 1
    have c0_2 := cells_of_blk E0 2 _ rfl
    have f0_2 := free_of_blk E0 2
    have c0_3 := cells_of_blk E0 3 _ rfl
    have f0_3 := free_of_blk E0 3
    have c0_4 := cells_of_blk E0 4 _ rfl
    have f0_4 := free_of_blk E0 4
    have c0_5 := cells_of_blk E0 5 _ rfl
    have f0_5 := free_of_blk E0 5
    have c0_6 := cells_of_blk E0 6 _ rfl
    have f0_6 := free_of_blk E0 6
    have c0_7 := cells_of_blk E0 7 _ rfl
    have f0_7 := free_of_blk E0 7
    have c0_8 := cells_of_blk E0 8 _ rfl
    have f0_8 := free_of_blk E0 8
    have E1 := (hb.block (w.heap.size + 1) (by omega)).trans D1
    have c1_0 := cells_of_blk E1 0 _ rfl
    have f1_0 := free_of_blk E1 0
    have c1_1 := cells_of_blk E1 1 _ rfl
    have f1_1 := free_of_blk E1 1
    have c1_2 := cells_of_blk E1 2 _ rfl
    have f1_2 := free_of_blk E1 2
    have c1_3 := cells_of_blk E1 3 _ rfl
    have f1_3 := free_of_blk E1 3
    have c1_4 := cells_of_blk E1 4 _ rfl
    have f1_4 := free_of_blk E1 4
    have c1_5 := cells_of_blk E1 5 _ rfl
    have f1_5 := free_of_blk E1 5
    have c1_6 := cells_of_blk E1 6 _ rfl
    have f1_6 := free_of_blk E1 6
    have c1_7 := cells_of_blk E1 7 _ rfl
    have f1_7 := free_of_blk E1 7
    have c1_8 := cells_of_blk E1 8 _ rfl
    have f1_8 := free_of_blk E1 8
    have E2 := (hb.block (w.heap.size + 1 + 1) (by omega)).trans D2
    have c2_0 := cells_of_blk E2 0 _ rfl
    have E3 := (hb.block (w.heap.size + 1 + 1 + 1) (by omega)).trans D3
    have c3_0 := cells_of_blk E3 0 _ rfl
    have E4 := (hb.block (w.heap.size + 1 + 1 + 1 + 1) (by omega)).trans D4
    have c4_0 := cells_of_blk E4 0 _ rfl
    have HB6 := Lib.hid (HB1.out.trans (hb.mono (show w.heap.size ≤ w4.heap.size by omega)))
    clear hb HQ HB0 HB1 D0 D1 D2 D3 D4 E0 E1 E2 E3 E4
    go_wp2_with fail
    refine bodyPost_ret (v := .tuple #[.agg #[.int .i64 0, .int .i64 0, .int .i64 0, .int .i64 0, .int .i64 0, .int .i64 0, .int .i64 0, .int .i64 0, .int .i64 0], .int .i64 er]) ?_ rfl ⟨by rw [HER.out], ?_⟩
    · rw [results_cell_tmp rfl]; go_simp
    · refine Below.setCell (Below.setCell (Below.setCell (Below.setCell (Below.setCell (Below.setCell (Below.setCell (Below.setCell (Below.setCell (HB6.out) (by simp only []; omega) _) (by simp only []; omega) _) (by simp only []; omega) _) (by simp only []; omega) _) (by simp only []; omega) _) (by simp only []; omega) _) (by simp only []; omega) _) (by simp only []; omega) _) (by simp only []; omega) _

end Go.Proofs.YtgjehokkmdbknaaDoor
