/- BookApart: the walk. PRINTED BY genBookQ.py. -/
import Derived.Test.YteeemoknbnlopaaBookM
import Derived.Test.YteeemoknbnlopaaBookN
import Derived.Test.YteeemoknbnlopaaBookP
import Derived.Test.YteeemoknbnlopaaRegF
import Derived.Deep.DeepCutAuto
namespace Go.Proofs.Yteeemoknbnlopaa
open Go Go.RowKit
set_option linter.unusedVariables false
set_option linter.unusedSimpArgs false

/-- A row of whole numbers that the call may write. -/
def Wr (w : World) (B : Nat) (v : Value) (k n : Nat) : Prop := ∃ A c, v = .slice A n c ∧ ∀ j, j < n * k → ∃ g, A = some ⟨g, 0, none⟩ ∧ B ≤ g ∧ w.frozen? ⟨g, j, none⟩ = false ∧ ∃ x, w.cell? ⟨g, j, none⟩ = some (.int .i64 x)
theorem RowOwn.wr {w : World} {B : Nat} {e : TypeId} {v : Value} {k : Nat} {l : List (List Int)} (h : RowOwn w B e v k l) : Wr w B v k l.length := by
  obtain ⟨ho, hk⟩ := h
  rcases ho.2 with ⟨rfl, h0⟩ | ⟨g, cap, cur, rfl, hB, hg, hn, hm, hs, ht⟩
  · exact ⟨none, 0, by rw [h0], fun j hj => by rw [h0] at hj; simp at hj⟩
  · refine ⟨_, _, rfl, fun j hj => ⟨g, rfl, hB, free_of_blk hg j, ?_⟩⟩
    have hl : j < (flatC l).length := by rw [flatC_len hk]; exact hj
    have h1 : (flatC l)[j]? = some ((flatC l)[j]) := List.getElem?_eq_getElem hl
    obtain ⟨x, _, hx⟩ := List.mem_map.1 (List.getElem_mem hl)
    rw [← hx] at h1
    have := ho.cells (g := g) rfl j _ h1
    rw [Addr.add_lit, Nat.zero_add] at this
    exact ⟨x, this⟩
theorem Wr.kept {w w' : World} {B : Nat} {v : Value} {k n : Nat} (h : Wr w B v k n) (hb : Below w.heap.size w w') : Wr w' B v k n := by
  obtain ⟨A, c, rfl, h⟩ := h
  refine ⟨A, c, rfl, fun j hj => ?_⟩
  obtain ⟨g, rfl, hB, hf, x, hx⟩ := h j hj
  have hl := World.block_lt_of_cell? w _ hx
  exact ⟨g, rfl, hB, (hb.frozen (p := ⟨g, j, none⟩) hl).trans hf, x, (hb.cell (p := ⟨g, j, none⟩) hl).trans hx⟩
theorem Wr.mono {w : World} {B B' : Nat} {v : Value} {k n : Nat} (h : Wr w B v k n) (hB : B' ≤ B) : Wr w B' v k n := by
  obtain ⟨A, c, rfl, h⟩ := h
  refine ⟨A, c, rfl, fun j hj => ?_⟩
  obtain ⟨g, e, h1, h2⟩ := h j hj
  exact ⟨g, e, Nat.le_trans hB h1, h2⟩
theorem Wr.set {w : World} {B : Nat} {v : Value} {k n : Nat} (h : Wr w B v k n) (a : Addr) (y : Int) : Wr (w.setCell a (.int .i64 y)) B v k n := by
  obtain ⟨A, c, rfl, h⟩ := h
  refine ⟨A, c, rfl, fun j hj => ?_⟩
  obtain ⟨g, e, hB, hf, x, hx⟩ := h j hj
  refine ⟨g, e, hB, by rw [World.frozen?_setCell]; exact hf, ?_⟩
  by_cases ha : a = ⟨g, j, none⟩
  · subst ha
    exact ⟨y, World.cell?_setCell_same _ _ _ hx⟩
  · exact ⟨x, by rw [World.cell?_setCell_other _ _ _ _ ha]; exact hx⟩
/-- What holds while rows of the call's own are written. -/
def Inv (B : Nat) (w4 wr : World) (rows : List (Value × Nat × Nat)) (boxes : List (Nat × Array Value)) : Prop :=
  Below B w4 wr ∧ (∀ p ∈ rows, Wr wr B p.1 p.2.1 p.2.2) ∧ ∀ q ∈ boxes, (∃ A n c, q.2[0]? = some (.slice A n c)) ∧ wr.heap[q.1]? = some (.cells q.2 55 (0, 0))
theorem Inv.drawn {B : Nat} {w4 wr : World} {rows : List (Value × Nat × Nat)} {boxes : List (Nat × Array Value)} (h : Inv B w4 wr rows boxes) (A : Option Addr) (n c k : Nat) (hm : (.slice A n c, k, n) ∈ rows) (i : Nat) (hi : i < n) (hk : 0 < k) :
    ∃ g, A = some ⟨g, 0, none⟩ ∧ ∀ j, j < k → wr.frozen? ⟨g, i * k + j, none⟩ = false ∧ (∃ x, wr.cell? ⟨g, i * k + j, none⟩ = some (.int .i64 x)) ∧ ∀ y, Inv B w4 (wr.setCell ⟨g, i * k + j, none⟩ (.int .i64 y)) rows boxes := by
  obtain ⟨h1, h2, h3⟩ := h
  obtain ⟨A', c', hv, hc⟩ := h2 _ hm
  injection hv with e1 _ e2
  subst e1
  have hle : i * k + k ≤ n * k := by rw [← Nat.succ_mul]; exact Nat.mul_le_mul_right _ hi
  obtain ⟨g, rfl, hB, _, x0, hx0⟩ := hc 0 (by show 0 < n * k; omega)
  refine ⟨g, rfl, fun j hj => ?_⟩
  obtain ⟨g', he, _, hf, hx⟩ := hc (i * k + j) (by show i * k + j < n * k; omega)
  injection he with he
  injection he with he
  subst he
  refine ⟨hf, hx, fun y => ⟨h1.setCell hB _, fun p hp => (h2 p hp).set _ _, fun q hq => ?_⟩⟩
  obtain ⟨⟨A1, n1, c1, q2⟩, q3⟩ := h3 q hq
  refine ⟨⟨A1, n1, c1, q2⟩, ?_⟩
  have hne : q.1 ≠ g := fun e => by
    have := cells_of_blk q3 0 _ q2
    rw [e] at this
    rw [hx0] at this
    cases this
  exact set_oth q3 _ _ hne
theorem RowOwn.setOther {w : World} {B : Nat} {e : TypeId} {v : Value} {k : Nat} {l : List (List Int)} (h : RowOwn w B e v k l) {g : Nat} {cs : Array Value} {t : TypeId} {fr : Nat × Nat} (hg : w.heap[g]? = some (.cells cs t fr)) (hne : e ≠ t) (i : Nat) (u : Value) : RowOwn (w.setCell ⟨g, i, none⟩ u) B e v k l := by
  obtain ⟨⟨hl, ho⟩, hk⟩ := h
  refine ⟨⟨hl, ?_⟩, hk⟩
  rcases ho with h | ⟨g', cap, cur, h1, h2, h3, h4⟩
  · exact .inl h
  · refine .inr ⟨g', cap, cur, h1, h2, set_oth h3 i u (fun e' => ?_), h4⟩
    subst e'
    rw [hg] at h3
    injection h3 with h3
    injection h3 with _ h3 _
    exact hne h3.symm
theorem BkOwn.setOther {w : World} {B : Nat} {v : Value} {b : Bk} (h : BkOwn w B v b) {g : Nat} {cs : Array Value} {fr : Nat × Nat} (hg : w.heap[g]? = some (.cells cs 55 fr)) (i : Nat) (u : Value) : BkOwn (w.setCell ⟨g, i, none⟩ u) B v b := by
  obtain ⟨vh, vs, vo, vr, rfl, h1, h2, h3, h4⟩ := h
  exact ⟨vh, vs, vo, vr, rfl, h1.setOther hg (by decide) i u, h2.setOther hg (by decide) i u, h3.setOther hg (by decide) i u, h4.setOther hg (by decide) i u⟩
def set5 (w : World) (g : Nat) (a0 a1 a2 a3 a4 : Value) : World := ((((w.setCell ⟨g, 0, none⟩ a0).setCell ⟨g, 1, none⟩ a1).setCell ⟨g, 2, none⟩ a2).setCell ⟨g, 3, none⟩ a3).setCell ⟨g, 4, none⟩ a4
theorem set5_blk {w : World} {g : Nat} {x0 x1 x2 x3 x4 : Value} {t : TypeId} {fr : Nat × Nat} (h : w.heap[g]? = some (.cells #[x0, x1, x2, x3, x4] t fr)) (a0 a1 a2 a3 a4 : Value) : (set5 w g a0 a1 a2 a3 a4).heap[g]? = some (.cells #[a0, a1, a2, a3, a4] t fr) :=
  set_blk (set_blk (set_blk (set_blk (set_blk h 0 a0) 1 a1) 2 a2) 3 a3) 4 a4
theorem set5_oth {w : World} {g c : Nat} {o : Option Obj} (h : w.heap[g]? = o) (hne : g ≠ c) (a0 a1 a2 a3 a4 : Value) : (set5 w c a0 a1 a2 a3 a4).heap[g]? = o :=
  set_oth (set_oth (set_oth (set_oth (set_oth h 0 a0 hne) 1 a1 hne) 2 a2 hne) 3 a3 hne) 4 a4 hne
theorem set5_below {B : Nat} {a w : World} {g : Nat} (h : Below B a w) (hg : B ≤ g) (a0 a1 a2 a3 a4 : Value) : Below B a (set5 w g a0 a1 a2 a3 a4) :=
  ((((h.setCell (p := ⟨g, 0, none⟩) hg a0).setCell (p := ⟨g, 1, none⟩) hg a1).setCell (p := ⟨g, 2, none⟩) hg a2).setCell (p := ⟨g, 3, none⟩) hg a3).setCell (p := ⟨g, 4, none⟩) hg a4
theorem BkOwn.set5 {w : World} {B : Nat} {v : Value} {b : Bk} (h : BkOwn w B v b) {g : Nat} {cs : Array Value} {fr : Nat × Nat} (hg : w.heap[g]? = some (.cells cs 55 fr)) (a0 a1 a2 a3 a4 : Value) : BkOwn (set5 w g a0 a1 a2 a3 a4) B v b := by
  have g1 := set_blk hg 0 a0
  have g2 := set_blk g1 1 a1
  have g3 := set_blk g2 2 a2
  have g4 := set_blk g3 3 a3
  exact ((((h.setOther hg 0 a0).setOther g1 1 a1).setOther g2 2 a2).setOther g3 3 a3).setOther g4 4 a4
def BkLoose (w : World) (B : Nat) (v : Value) : Prop := ∃ b : Bk, BkOwn w B v b ∧ (b.h.length ≤ 1000000 ∧ b.s.length ≤ 1000000 ∧ b.o.length ≤ 1000000 ∧ b.r.length ≤ 1000000)
theorem BkLoose.kept {w w' : World} {B : Nat} {v : Value} (h : BkLoose w B v) (hb : Below w.heap.size w w') : BkLoose w' B v := by obtain ⟨b, h1, h2⟩ := h; exact ⟨b, h1.kept hb, h2⟩
theorem BkLoose.form {w : World} {B : Nat} {v : Value} (h : BkLoose w B v) : ∃ (A1 : Option Addr) (n1 c1 : Nat) (A2 : Option Addr) (n2 c2 : Nat) (A3 : Option Addr) (n3 c3 : Nat) (A4 : Option Addr) (n4 c4 : Nat) (m : Int), v = .agg #[.slice A1 n1 c1, .slice A2 n2 c2, .slice A3 n3 c3, .slice A4 n4 c4, .int .i64 m] := by
  obtain ⟨b, h, _⟩ := h
  obtain ⟨A1, c1, A2, c2, A3, c3, A4, c4, rfl⟩ := h.form
  exact ⟨_, _, _, _, _, _, _, _, _, _, _, _, _, rfl⟩
theorem BkLoose.set5 {w : World} {B : Nat} {v : Value} (h : BkLoose w B v) {g : Nat} {cs : Array Value} {fr : Nat × Nat} (hg : w.heap[g]? = some (.cells cs 55 fr)) (a0 a1 a2 a3 a4 : Value) : BkLoose (set5 w g a0 a1 a2 a3 a4) B v := by obtain ⟨b, h1, h2⟩ := h; exact ⟨b, h1.set5 hg _ _ _ _ _, h2⟩
theorem BkLoose.wr {w : World} {B : Nat} {A1 : Option Addr} {n1 c1 : Nat} {A2 : Option Addr} {n2 c2 : Nat} {A3 : Option Addr} {n3 c3 : Nat} {A4 : Option Addr} {n4 c4 : Nat} {m : Int} (h : BkLoose w B (.agg #[.slice A1 n1 c1, .slice A2 n2 c2, .slice A3 n3 c3, .slice A4 n4 c4, .int .i64 m])) :
    Wr w B (.slice A1 n1 c1) 4 n1 ∧ Wr w B (.slice A2 n2 c2) 3 n2 ∧ Wr w B (.slice A3 n3 c3) 6 n3 ∧ Wr w B (.slice A4 n4 c4) 2 n4 ∧ (n1 ≤ 1000000 ∧ n2 ≤ 1000000 ∧ n3 ≤ 1000000 ∧ n4 ≤ 1000000) := by
  obtain ⟨b, h, hl⟩ := h
  obtain ⟨_, _, _, _, eh, q1, q2, q3, q4⟩ := h
  obtain ⟨_, _, e1⟩ := q1.form
  obtain ⟨_, _, e2⟩ := q2.form
  obtain ⟨_, _, e3⟩ := q3.form
  obtain ⟨_, _, e4⟩ := q4.form
  subst e1 e2 e3 e4
  injection eh with eh
  simp only [Array.mk.injEq, List.cons.injEq, Value.slice.injEq] at eh
  obtain ⟨⟨rfl, rfl, rfl⟩, ⟨rfl, rfl, rfl⟩, ⟨rfl, rfl, rfl⟩, ⟨rfl, rfl, rfl⟩, _⟩ := eh
  exact ⟨q1.wr, q2.wr, q3.wr, q4.wr, hl⟩
def BkLt (v : Value) (hi : Nat) : Prop := ∀ vh vs vo vr n, v = .agg #[vh, vs, vo, vr, n] → ∀ x ∈ [vh, vs, vo, vr], ∀ q, x.ownBlock = some q → q < hi
theorem BkOwn.lt {w : World} {B : Nat} {v : Value} {b : Bk} (h : BkOwn w B v b) : BkLt v w.heap.size := by
  obtain ⟨vh, vs, vo, vr, rfl, h1, h2, h3, h4⟩ := h
  intro _ _ _ _ _ e x hx q hq
  injection e with e
  simp only [Array.mk.injEq, List.cons.injEq] at e
  obtain ⟨rfl, rfl, rfl, rfl, _⟩ := e
  simp only [List.mem_cons, List.not_mem_nil, or_false] at hx
  rcases hx with rfl | rfl | rfl | rfl
  · exact (h1.1.lt q hq).2
  · exact (h2.1.lt q hq).2
  · exact (h3.1.lt q hq).2
  · exact (h4.1.lt q hq).2
theorem BkOwn.upto {w w' : World} {B B1 : Nat} {v : Value} {b : Bk} (h : BkOwn w B v b) (hl : BkLt v B1) (hb : Below B1 w w') : BkAt w' v b := by
  obtain ⟨vh, vs, vo, vr, rfl, h1, h2, h3, h4⟩ := h
  have hl' := hl _ _ _ _ _ rfl
  exact ⟨vh, vs, vo, vr, rfl, h1.row.upto (hl' vh (by simp)) hb.size hb.block, h2.row.upto (hl' vs (by simp)) hb.size hb.block, h3.row.upto (hl' vo (by simp)) hb.size hb.block, h4.row.upto (hl' vr (by simp)) hb.size hb.block⟩

theorem setK_len {ge ne : List Int → Bool} {x : List Int} : ∀ (d : Bool) (l : List (List Int)), (setK ge ne x d l).length ≤ l.length + 1
  | d, [] => by cases d <;> simp [setK]
  | d, r :: t => by
    rw [setK]
    have h1 := setK_len (ge := ge) (ne := ne) (x := x) (d || ge r) t
    cases hd : (!d && ge r)
    · cases ne r <;> simp <;> omega
    · simp only [Bool.and_eq_true, Bool.not_eq_true'] at hd
      obtain ⟨rfl, hg⟩ := hd
      have h2 : (setK ge ne x true t).length ≤ t.length := by
        clear h1 hg
        induction t with
        | nil => simp [setK]
        | cons r t ih => rw [setK]; simp only [Bool.not_true, Bool.false_and, Bool.false_eq_true, if_false, List.nil_append, Bool.true_or]; cases ne r <;> simp <;> omega
      rw [Bool.false_or, hg] 
      cases ne r <;> simp <;> omega

set_option maxRecDepth 100000 in
set_option maxHeartbeats 16000000 in
theorem BookApart_walk (v : Value) (b : Bk) (x0 x1 x2 x3 z0 z1 : Int) (w : World) (hb : Hid (BkAt w v b)) :
    Calls Try.prog 6 #[v, .agg #[.int .i64 x0, .int .i64 x1, .int .i64 x2, .int .i64 x3], .agg #[.int .i64 z0, .int .i64 z1]] w fun e w' => e = .returned (.bool true) ∧ Below w.heap.size w w' := by
  obtain ⟨vh, vs, vo, vr, rfl, r1, r2, r3, r4⟩ := hb.out
  have BX : Hid (BkAt w (.agg #[vh, vs, vo, vr, .int .i64 b.n]) b) := ⟨_, _, _, _, rfl, r1, r2, r3, r4⟩
  clear hb r1 r2 r3 r4
  obtain ⟨w0, hw0⟩ : ∃ w0, ((w.alloc (.cells #[vh, vs, vo, vr, .int .i64 b.n] 55)).alloc (.cells #[.int .i64 x0, .int .i64 x1, .int .i64 x2, .int .i64 x3] 57)).alloc (.cells #[.int .i64 z0, .int .i64 z1] 59) = w0 := ⟨_, rfl⟩
  have K0 : Hid (w0.heap[w.heap.size]? = some (.cells #[vh, vs, vo, vr, .int .i64 b.n] 55 (0, 0))) := by rw [← hw0]; exact blk_old (blk_old (heap_new _ _) _) _
  have H0 : Hid (w0.heap[w.heap.size + 1]? = some (.cells #[.int .i64 x0, .int .i64 x1, .int .i64 x2, .int .i64 x3] 57 (0, 0))) := by rw [← hw0]; exact blk_old (blk_new _ _ _ (by simp)) _
  have R0 : Hid (w0.heap[w.heap.size + 2]? = some (.cells #[.int .i64 z0, .int .i64 z1] 59 (0, 0))) := by rw [← hw0]; exact blk_new _ _ _ (by simp)
  have HB0 : Hid (Below w.heap.size w w0) := by rw [← hw0]; exact below_alloc (below_alloc (below_alloc (Below.refl _ _) (Nat.le_refl _) _) (by simp) _) (by first | (simp; done) | (simp; omega)) _
  have B0 := Lib.hid (BX.out.call HB0.out)
  replace hw0 := Lib.hid hw0
  go_enter Try.func6, Try.ntmps6
  go_wp2_with fail
  rw [hw0.out]
  with_reducible refine (alive12 _).mono ?_
  rintro e w1 ⟨rfl, hb⟩
  have K1 := Lib.hid (blk_call K0.out hb)
  have H1 := Lib.hid (blk_call H0.out hb)
  have R1 := Lib.hid (blk_call R0.out hb)
  have B1 := Lib.hid (B0.out.call hb)
  have HB1 := Lib.hid (HB0.out.trans (hb.mono HB0.out.size))
  clear hb
  have a0 := cells_of_blk K1.out 0 _ rfl
  have a1 := cells_of_blk K1.out 1 _ rfl
  have a2 := cells_of_blk K1.out 2 _ rfl
  have a3 := cells_of_blk K1.out 3 _ rfl
  have a4 := cells_of_blk K1.out 4 _ rfl
  go_wp2_with fail
  with_reducible refine (Great_any _ b _ B1).mono ?_
  rintro e w2 ⟨g, rfl, hg, hb⟩
  have K2 := Lib.hid (blk_call K1.out hb)
  have H2 := Lib.hid (blk_call H1.out hb)
  have R2 := Lib.hid (blk_call R1.out hb)
  have B2 := Lib.hid (B1.out.call hb)
  have HB2 := Lib.hid (HB1.out.trans (hb.mono HB1.out.size))
  clear hb
  cases g with
  | true =>
    clear hg
    go_wp2_with fail
    go_ret
    exact ⟨rfl, HB2.out⟩
  | false =>
  have hfit := hg rfl
  have hsm := Lib.hid hfit.small
  have HFIT := Lib.hid hfit
  clear hg hfit
  clear a0 a1 a2 a3 a4
  have a0 := cells_of_blk K2.out 0 _ rfl
  have a1 := cells_of_blk K2.out 1 _ rfl
  have a2 := cells_of_blk K2.out 2 _ rfl
  have a3 := cells_of_blk K2.out 3 _ rfl
  have a4 := cells_of_blk K2.out 4 _ rfl
  go_wp2_with fail
  with_reducible refine (rRise_any _ b _ B2 hsm).mono ?_
  rintro e w3 ⟨rfl, hb⟩
  have K3 := Lib.hid (blk_call K2.out hb)
  have H3 := Lib.hid (blk_call H2.out hb)
  have R3 := Lib.hid (blk_call R2.out hb)
  have B3 := Lib.hid (B2.out.call hb)
  have HB3 := Lib.hid (HB2.out.trans (hb.mono HB2.out.size))
  clear hb
  cases hr : b.riseB with
  | false =>
    clear hr
    go_wp2_with fail
    go_ret
    exact ⟨rfl, HB3.out⟩
  | true =>
  have HR := Lib.hid ((Bk.riseB_iff b).1 hr)
  clear hr
  clear a0 a1 a2 a3 a4
  have a0 := cells_of_blk K3.out 0 _ rfl
  have a1 := cells_of_blk K3.out 1 _ rfl
  have a2 := cells_of_blk K3.out 2 _ rfl
  have a3 := cells_of_blk K3.out 3 _ rfl
  have a4 := cells_of_blk K3.out 4 _ rfl
  go_wp2_with fail
  have hs3 := (Array.getElem?_eq_some_iff.1 K3.out).1
  have hs3h := (Array.getElem?_eq_some_iff.1 H3.out).1
  have hs3r := (Array.getElem?_eq_some_iff.1 R3.out).1
  have HC : Hid (Below w3.heap.size w3 w3.drew) := (Below.refl _ _).drew
--MARK
  have qc := Lib.hid (fun wz hv => Copy_any (.agg #[vh, vs, vo, vr, .int .i64 b.n]) b wz hv hsm)
  refine wp_region_D [] (fun wz => Hid (Below w3.heap.size w3 wz)) 8 #[false, false, false, false, false, false, false, false] (by kernel_rfl) (by kernel_rfl) (by kernel_rfl) ?_
  refine pure_moreD [0, 2] 6 (L' := #[true, false, true, false, false, false, false, false]) (by kernel_rfl) (by kernel_rfl) HC ?_
  simp only [opsAt, List.getElem?_toArray, List.getElem?_cons_zero, List.getElem?_cons_succ]
  refine pure_atG (.agg #[vh, vs, vo, vr, .int .i64 b.n]) rfl (fun wz hC => by have h0 := ((Hid.out hC).cell (p := ⟨w.heap.size, 0, none⟩) hs3).trans a0; have h1 := ((Hid.out hC).cell (p := ⟨w.heap.size, 1, none⟩) hs3).trans a1; have h2 := ((Hid.out hC).cell (p := ⟨w.heap.size, 2, none⟩) hs3).trans a2; have h3 := ((Hid.out hC).cell (p := ⟨w.heap.size, 3, none⟩) hs3).trans a3; have h4 := ((Hid.out hC).cell (p := ⟨w.heap.size, 4, none⟩) hs3).trans a4; unfold execOp; go_simp) ?_
  refine pure_atG (.agg #[vh, vs, vo, vr, .int .i64 b.n]) rfl (fun wz hC => by have h0 := ((Hid.out hC).cell (p := ⟨w.heap.size, 0, none⟩) hs3).trans a0; have h1 := ((Hid.out hC).cell (p := ⟨w.heap.size, 1, none⟩) hs3).trans a1; have h2 := ((Hid.out hC).cell (p := ⟨w.heap.size, 2, none⟩) hs3).trans a2; have h3 := ((Hid.out hC).cell (p := ⟨w.heap.size, 3, none⟩) hs3).trans a3; have h4 := ((Hid.out hC).cell (p := ⟨w.heap.size, 4, none⟩) hs3).trans a4; unfold execOp; go_simp) ?_
  unfold wpPure
  go_simp
  refine free_ops (W0 := w3) 2 #[true, true, true, true, true, true, false, false] (fun i j => i == 1 && j == 3) (fun wz hz => hz) [26, 28, 7, 8] 4
    [⟨1, 26, fun lo hi v wz => BkOwn wz lo v b ∧ BkLt v hi ∧ lo ≤ wz.heap.size⟩, ⟨3, 28, fun lo hi v wz => BkOwn wz lo v b ∧ BkLt v hi ∧ lo ≤ wz.heap.size⟩,
     ⟨4, 7, fun lo hi v wz => v = .pointer (some ⟨lo, 0, none⟩) ∧ lo < hi ∧ wz.heap[lo]? = some (.cells #[.slice none 0 0, .slice none 0 0, .slice none 0 0, .slice none 0 0, .int .i64 0] 55 (0, 0))⟩,
     ⟨5, 8, fun lo hi v wz => v = .pointer (some ⟨lo, 0, none⟩) ∧ lo < hi ∧ wz.heap[lo]? = some (.cells #[.slice none 0 0, .slice none 0 0, .slice none 0 0, .slice none 0 0, .int .i64 0] 55 (0, 0))⟩] _ _ _ rfl HC.out (by kernel_rfl) (by simp) (by simp) ?_ ?_ ?_
  · intro e he
    simp only [List.mem_cons, List.not_mem_nil, or_false] at he
    rcases he with rfl | rfl | rfl | rfl
    · exact ⟨can_call 28 #[.agg #[vh, vs, vo, vr, .int .i64 b.n]] ⟨_, _, _, rfl, rfl, rfl, rfl, by simp [Act.eval, Act.put], by simp⟩ (fun w => enters_of Try.func28 (by kernel_rfl) rfl _ w) (fun wz hz => (qc.out wz (B3.out.call hz)).mono fun x w' ⟨v, h1, h2, h3⟩ => ⟨v, h1, ⟨h2, h2.lt, h3.size⟩, h3⟩), by simp⟩
    · exact ⟨can_call 28 #[.agg #[vh, vs, vo, vr, .int .i64 b.n]] ⟨_, _, _, rfl, rfl, rfl, rfl, by simp [Act.eval, Act.put], by simp⟩ (fun w => enters_of Try.func28 (by kernel_rfl) rfl _ w) (fun wz hz => (qc.out wz (B3.out.call hz)).mono fun x w' ⟨v, h1, h2, h3⟩ => ⟨v, h1, ⟨h2, h2.lt, h3.size⟩, h3⟩), by simp⟩
    · exact ⟨can_alloc _ rfl rfl rfl #[.slice none 0 0, .slice none 0 0, .slice none 0 0, .slice none 0 0, .int .i64 0] 55 (fun ev wz => by unfold execOp; go_simp) (fun wz hz => ⟨rfl, by simp, heap_new wz _⟩), by simp⟩
    · exact ⟨can_alloc _ rfl rfl rfl #[.slice none 0 0, .slice none 0 0, .slice none 0 0, .slice none 0 0, .int .i64 0] 55 (fun ev wz => by unfold execOp; go_simp) (fun wz hz => ⟨rfl, by simp, heap_new wz _⟩), by simp⟩
  · intro e he lo hi v w1 w2 hv hb
    simp only [List.mem_cons, List.not_mem_nil, or_false] at he
    rcases he with rfl | rfl | rfl | rfl
    · exact ⟨hv.1.kept hb, hv.2.1, Nat.le_trans hv.2.2 hb.size⟩
    · exact ⟨hv.1.kept hb, hv.2.1, Nat.le_trans hv.2.2 hb.size⟩
    · exact ⟨hv.1, hv.2.1, blk_call hv.2.2 hb⟩
    · exact ⟨hv.1, hv.2.1, blk_call hv.2.2 hb⟩
  intro us w4 hus hap hb4
  match us, hus, hap with
  | [t1, t3, t4, t5], ⟨⟨⟨o1, l1, s1⟩, _⟩, ⟨⟨o3, l3, s3⟩, m3⟩, ⟨⟨e4, n4, g4⟩, m4⟩, ⟨⟨e5, n5, g5⟩, m5⟩, _⟩, ⟨ap1, _, ap4, _⟩ =>
  have c13 : t1.hi ≤ t3.lo := (ap1 0 _ _ rfl rfl).2.1 rfl
  have c45 : t4.lo ≠ t5.lo := by have := (ap4 0 _ _ rfl rfl).1; omega
  simp only [putsE]
  obtain ⟨lo1, hi1, v1⟩ := t1
  obtain ⟨B1, hi3, v3⟩ := t3
  obtain ⟨g7, hi4, v4⟩ := t4
  obtain ⟨g8, hi5, v5⟩ := t5
  simp only at o1 l1 s1 o3 l3 s3 m3 e4 n4 g4 m4 e5 n5 g5 m5 c13 c45 ⊢
  subst e4 e5
  obtain ⟨P1, p1, P2, p2, P3, p3, P4, p4, rfl⟩ := o1.form
  obtain ⟨Q1, q1, Q2, q2, Q3, q3, Q4, q4, rfl⟩ := o3.form
  have m4' : w3.heap.size ≤ g7 := m4
  have m5' : w3.heap.size ≤ g8 := m5
  have l1' : BkLt (.agg #[.slice P1 b.h.length p1, .slice P2 b.s.length p2, .slice P3 b.o.length p3, .slice P4 b.r.length p4, .int .i64 b.n]) B1 := fun vh vs vo vr n e x hx q hq => Nat.lt_of_lt_of_le (l1 vh vs vo vr n e x hx q hq) c13
  have c7_0 := cells_of_blk g4 0 _ rfl
  have f7_0 := free_of_blk g4 0
  have c8_0 := cells_of_blk g5 0 _ rfl
  have f8_0 := free_of_blk g5 0
  have c7_1 := cells_of_blk g4 1 _ rfl
  have f7_1 := free_of_blk g4 1
  have c8_1 := cells_of_blk g5 1 _ rfl
  have f8_1 := free_of_blk g5 1
  have c7_2 := cells_of_blk g4 2 _ rfl
  have f7_2 := free_of_blk g4 2
  have c8_2 := cells_of_blk g5 2 _ rfl
  have f8_2 := free_of_blk g5 2
  have c7_3 := cells_of_blk g4 3 _ rfl
  have f7_3 := free_of_blk g4 3
  have c8_3 := cells_of_blk g5 3 _ rfl
  have f8_3 := free_of_blk g5 3
  have c7_4 := cells_of_blk g4 4 _ rfl
  have f7_4 := free_of_blk g4 4
  have c8_4 := cells_of_blk g5 4 _ rfl
  have f8_4 := free_of_blk g5 4
  have HB4' : Below w3.heap.size w3 w4 := HC.out.trans (hb4.mono HC.out.size)
  have n87 : ¬ g8 = g7 := fun h => c45 h.symm
  have n78 : ¬ g7 = g8 := c45
  have P7 : Hid ((set5 (set5 w4 g7 (.slice P1 b.h.length p1) (.slice P2 b.s.length p2) (.slice P3 b.o.length p3) (.slice P4 b.r.length p4) (.int .i64 b.n)) g8 (.slice Q1 b.h.length q1) (.slice Q2 b.s.length q2) (.slice Q3 b.o.length q3) (.slice Q4 b.r.length q4) (.int .i64 b.n)).heap[g7]? = some (.cells #[.slice P1 b.h.length p1, .slice P2 b.s.length p2, .slice P3 b.o.length p3, .slice P4 b.r.length p4, .int .i64 b.n] 55 (0, 0))) := set5_oth (set5_blk g4 _ _ _ _ _) c45 _ _ _ _ _
  have P8 : Hid ((set5 (set5 w4 g7 (.slice P1 b.h.length p1) (.slice P2 b.s.length p2) (.slice P3 b.o.length p3) (.slice P4 b.r.length p4) (.int .i64 b.n)) g8 (.slice Q1 b.h.length q1) (.slice Q2 b.s.length q2) (.slice Q3 b.o.length q3) (.slice Q4 b.r.length q4) (.int .i64 b.n)).heap[g8]? = some (.cells #[.slice Q1 b.h.length q1, .slice Q2 b.s.length q2, .slice Q3 b.o.length q3, .slice Q4 b.r.length q4, .int .i64 b.n] 55 (0, 0))) := set5_blk (set5_oth g5 n87 _ _ _ _ _) _ _ _ _ _
  have O1 : Hid (BkOwn (set5 (set5 w4 g7 (.slice P1 b.h.length p1) (.slice P2 b.s.length p2) (.slice P3 b.o.length p3) (.slice P4 b.r.length p4) (.int .i64 b.n)) g8 (.slice Q1 b.h.length q1) (.slice Q2 b.s.length q2) (.slice Q3 b.o.length q3) (.slice Q4 b.r.length q4) (.int .i64 b.n)) lo1 (.agg #[.slice P1 b.h.length p1, .slice P2 b.s.length p2, .slice P3 b.o.length p3, .slice P4 b.r.length p4, .int .i64 b.n]) b) := (o1.set5 g4 _ _ _ _ _).set5 (set5_oth g5 n87 _ _ _ _ _) _ _ _ _ _
  have O3 : Hid (BkOwn (set5 (set5 w4 g7 (.slice P1 b.h.length p1) (.slice P2 b.s.length p2) (.slice P3 b.o.length p3) (.slice P4 b.r.length p4) (.int .i64 b.n)) g8 (.slice Q1 b.h.length q1) (.slice Q2 b.s.length q2) (.slice Q3 b.o.length q3) (.slice Q4 b.r.length q4) (.int .i64 b.n)) B1 (.agg #[.slice Q1 b.h.length q1, .slice Q2 b.s.length q2, .slice Q3 b.o.length q3, .slice Q4 b.r.length q4, .int .i64 b.n]) b) := (o3.set5 g4 _ _ _ _ _).set5 (set5_oth g5 n87 _ _ _ _ _) _ _ _ _ _
  have HB5 : Hid (Below w3.heap.size w3 (set5 (set5 w4 g7 (.slice P1 b.h.length p1) (.slice P2 b.s.length p2) (.slice P3 b.o.length p3) (.slice P4 b.r.length p4) (.int .i64 b.n)) g8 (.slice Q1 b.h.length q1) (.slice Q2 b.s.length q2) (.slice Q3 b.o.length q3) (.slice Q4 b.r.length q4) (.int .i64 b.n))) := set5_below (set5_below HB4' m4' _ _ _ _ _) m5' _ _ _ _ _
  have L1 := Lib.hid l1'
  have HM3 : Hid (w3.heap.size ≤ B1) := m3
  have HC6 : Hid (Below w3.heap.size w3 (set5 w4 g7 (.slice P1 b.h.length p1) (.slice P2 b.s.length p2) (.slice P3 b.o.length p3) (.slice P4 b.r.length p4) (.int .i64 b.n))) := set5_below HB4' m4' _ _ _ _ _
  have HC7 := HB5
  have HB1s : Hid (B1 ≤ (set5 (set5 w4 g7 (.slice P1 b.h.length p1) (.slice P2 b.s.length p2) (.slice P3 b.o.length p3) (.slice P4 b.r.length p4) (.int .i64 b.n)) g8 (.slice Q1 b.h.length q1) (.slice Q2 b.s.length q2) (.slice Q3 b.o.length q3) (.slice Q4 b.r.length q4) (.int .i64 b.n)).heap.size) := (show _ ≤ _ from by simpa [set5] using s3)
  clear o1 l1 s1 o3 l3 s3 m3 n4 g4 m4 n5 g5 m5 c13 c45 hb4 ap1 ap4 hus hap l1' HB4' hs3 hs3h hs3r m4' m5'
  refine wpAnyD_one 6 (f := 1) (L' := #[true, true, true, true, true, true, true, false]) (by kernel_rfl) (by kernel_rfl) rfl rfl ?_
  go_wp2_with fail
  rw [StepQ_normal]
  refine ⟨fun _ => HC6, ?_⟩
  refine wpAnyD_one 7 (f := 0) (L' := #[true, true, true, true, true, true, true, true]) (by kernel_rfl) (by kernel_rfl) rfl rfl ?_
  go_wp2_with fail
  rw [StepQ_normal]
  refine ⟨fun _ => HC7, ?_⟩
  refine ⟨by kernel_rfl, ?_⟩
  rw [OnlyN_normal]
  clear HC6 HC7
  obtain ⟨w5, hw5⟩ : ∃ w5, set5 (set5 w4 g7 (.slice P1 b.h.length p1) (.slice P2 b.s.length p2) (.slice P3 b.o.length p3) (.slice P4 b.r.length p4) (.int .i64 b.n)) g8 (.slice Q1 b.h.length q1) (.slice Q2 b.s.length q2) (.slice Q3 b.o.length q3) (.slice Q4 b.r.length q4) (.int .i64 b.n) = w5 := ⟨_, rfl⟩
  rw [hw5] at P7 P8 O1 O3 HB5 HB1s
  have hw5' := Lib.hid hw5
  unfold set5 at hw5
  rw [hw5]
  clear hw5 hw5' n87 n78 c7_0 f7_0 c8_0 f8_0 c7_1 f7_1 c8_1 f8_1 c7_2 f7_2 c8_2 f8_2 c7_3 f7_3 c8_3 f8_3 c7_4 f7_4 c8_4 f8_4
  clear a0 a1 a2 a3 a4
  have K5 := Lib.hid (blk_call K3.out HB5.out)
  have H5 := Lib.hid (blk_call H3.out HB5.out)
  have R5 := Lib.hid (blk_call R3.out HB5.out)
  have B5 := Lib.hid (B3.out.call HB5.out)
  have HBw5 := Lib.hid (HB3.out.trans (HB5.out.mono HB3.out.size))
  have hsm2 : Hid (Bk.Small { b with h := (setH x0 [x0, x1, x2, x3] false b.h) }) := (by
    have hf := HFIT.out
    have := setK_len (ge := fun r => !decide (r.headD 0 < x0)) (ne := fun r => !isId x0 r) (x := [x0, x1, x2, x3]) false b.h
    unfold Bk.Fit at hf
    show Bk.Small _
    unfold Bk.Small
    unfold setH
    simp only
    omega)
  have qh := Lib.hid (fun wz hv => SetHolder_any (.agg #[vh, vs, vo, vr, .int .i64 b.n]) b x0 x1 x2 x3 wz hv hsm HR.out.1)
  have LEN : Hid ((setH x0 [x0, x1, x2, x3] false b.h).length ≤ 1000000 ∧ b.s.length ≤ 1000000 ∧ b.o.length ≤ 1000000 ∧ (setH z0 [z0, z1] false b.r).length ≤ 1000000) := (by
    have hf := HFIT.out
    have h1 := setK_len (ge := fun r => !decide (r.headD 0 < x0)) (ne := fun r => !isId x0 r) (x := [x0, x1, x2, x3]) false b.h
    have h2 := setK_len (ge := fun r => !decide (r.headD 0 < z0)) (ne := fun r => !isId z0 r) (x := [z0, z1]) false b.r
    unfold Bk.Fit at hf
    show _ ∧ _
    unfold setH
    omega)
  have qr : Hid (∀ v wz, Hid (BkAt wz v { b with h := (setH x0 [x0, x1, x2, x3] false b.h) }) → Calls _ _ _ wz fun e w' => ∃ v', e = .returned v' ∧ BkLoose w' wz.heap.size v' ∧ Below wz.heap.size wz w') := fun v wz hv => (SetRate_any v { b with h := (setH x0 [x0, x1, x2, x3] false b.h) } z0 z1 wz hv hsm2 HR.out.2.2.1).mono fun e w' ⟨v', h1, h2, h3⟩ => ⟨v', h1, ⟨_, h2, LEN.out⟩, h3⟩
  clear LEN
  go_upto_region 6 with fail
  go_cut [9] (fun s9 wx => ∃ (g9 : Nat) (m9 : Int) (D1 : Option Addr) (n1 d1 : Nat) (D2 : Option Addr) (n2 d2 : Nat) (D3 : Option Addr) (n3 d3 : Nat) (D4 : Option Addr) (n4 d4 : Nat), s9 = .pointer (some ⟨g9, 0, none⟩) ∧ Hid (wx.heap[g9]? = some (.cells #[.slice D1 n1 d1, .slice D2 n2 d2, .slice D3 n3 d3, .slice D4 n4 d4, .int .i64 m9] 55 (0, 0))) ∧ Hid (Wr wx B1 (.slice D1 n1 d1) 4 n1) ∧ Hid (Wr wx B1 (.slice D2 n2 d2) 3 n2) ∧ Hid (Wr wx B1 (.slice D3 n3 d3) 6 n3) ∧ Hid (Wr wx B1 (.slice D4 n4 d4) 2 n4) ∧ Hid (n1 ≤ 1000000 ∧ n2 ≤ 1000000 ∧ n3 ≤ 1000000 ∧ n4 ≤ 1000000) ∧ Hid (Below w5.heap.size w5 wx))
  case first =>
    have BXD : Hid (BkAt w5.drew (.agg #[vh, vs, vo, vr, .int .i64 b.n]) b) := B5.out.call (Below.refl _ _).drew
    have a0 := cells_of_blk K5.out 0 _ rfl
    have a1 := cells_of_blk K5.out 1 _ rfl
    have a2 := cells_of_blk K5.out 2 _ rfl
    have a3 := cells_of_blk K5.out 3 _ rfl
    have a4 := cells_of_blk K5.out 4 _ rfl
    have b0 := cells_of_blk H5.out 0 _ rfl
    have b1 := cells_of_blk H5.out 1 _ rfl
    have b2 := cells_of_blk H5.out 2 _ rfl
    have b3 := cells_of_blk H5.out 3 _ rfl
    have e0 := cells_of_blk R5.out 0 _ rfl
    have e1 := cells_of_blk R5.out 1 _ rfl
    have hk := (Array.getElem?_eq_some_iff.1 K5.out).1
    have hh := (Array.getElem?_eq_some_iff.1 H5.out).1
    have hr := (Array.getElem?_eq_some_iff.1 R5.out).1
    have HC : Hid (Below w5.heap.size w5 w5.drew) := (Below.refl _ _).drew
    refine wp_region_D [] (fun wz => Hid (Below w5.heap.size w5 wz)) 7 #[false, false, false, false, false, false, false] (by kernel_rfl) (by kernel_rfl) (by kernel_rfl) ?_
    refine pure_moreD [0, 1, 3] 4 (L' := #[true, true, false, true, false, false, false]) (by kernel_rfl) (by kernel_rfl) HC ?_
    simp only [opsAt, List.getElem?_toArray, List.getElem?_cons_zero, List.getElem?_cons_succ]
    refine pure_atG (.agg #[vh, vs, vo, vr, .int .i64 b.n]) rfl (fun wz hC => by have h0 := ((Hid.out hC).cell (p := ⟨w.heap.size, 0, none⟩) hk).trans a0; have h1 := ((Hid.out hC).cell (p := ⟨w.heap.size, 1, none⟩) hk).trans a1; have h2 := ((Hid.out hC).cell (p := ⟨w.heap.size, 2, none⟩) hk).trans a2; have h3 := ((Hid.out hC).cell (p := ⟨w.heap.size, 3, none⟩) hk).trans a3; have h4 := ((Hid.out hC).cell (p := ⟨w.heap.size, 4, none⟩) hk).trans a4; unfold execOp; go_simp) ?_
    refine pure_atG (.agg #[.int .i64 x0, .int .i64 x1, .int .i64 x2, .int .i64 x3]) rfl (fun wz hC => by have h0 := ((Hid.out hC).cell (p := ⟨w.heap.size + 1, 0, none⟩) hh).trans b0; have h1 := ((Hid.out hC).cell (p := ⟨w.heap.size + 1, 1, none⟩) hh).trans b1; have h2 := ((Hid.out hC).cell (p := ⟨w.heap.size + 1, 2, none⟩) hh).trans b2; have h3 := ((Hid.out hC).cell (p := ⟨w.heap.size + 1, 3, none⟩) hh).trans b3; unfold execOp; go_simp) ?_
    refine pure_atG (.agg #[.int .i64 z0, .int .i64 z1]) rfl (fun wz hC => by have h0 := ((Hid.out hC).cell (p := ⟨w.heap.size + 2, 0, none⟩) hr).trans e0; have h1 := ((Hid.out hC).cell (p := ⟨w.heap.size + 2, 1, none⟩) hr).trans e1; unfold execOp; go_simp) ?_
    unfold wpPure
    go_simp
    clear a0 a1 a2 a3 a4 b0 b1 b2 b3 e0 e1 hk hh hr
    refine wpAnyD_two 2 5 (f := 3) (Li := #[true, true, true, true, false, false, false]) (Lj := #[true, true, false, true, false, true, false]) (by kernel_rfl) (by kernel_rfl) (by kernel_rfl) rfl rfl rfl rfl ?_ ?_
    · skip
      go_wp2_with fail
      with_reducible refine (qh.out _ BXD).mono ?_
      rintro e x1 ⟨vm1, rfl, om, hb⟩
      have HC1 : Hid (Below w5.heap.size w5 x1) := HC.out.trans (hb.mono HC.out.size)
      have BX1 := Lib.hid (BXD.out.call hb)
      have VM1 := Lib.hid om.at
      clear hb om
      go_wp2_with fail
      rw [StepQ_normal]
      refine ⟨fun _ => HC1, ?_⟩
      refine wpAnyD_two 4 5 (f := 2) (Li := #[true, true, true, true, true, false, false]) (Lj := #[true, true, true, true, false, true, false]) (by kernel_rfl) (by kernel_rfl) (by kernel_rfl) rfl rfl rfl rfl ?_ ?_
      · skip
        go_wp2_with fail
        with_reducible refine (qr.out _ _ VM1).mono ?_
        rintro e x2 ⟨vd, rfl, od, hb⟩
        obtain ⟨E1, k1, e1, E2, k2, e2, E3, k3, e3, E4, k4, e4, m9, rfl⟩ := od.form
        have HC2 : Hid (Below w5.heap.size w5 x2) := HC1.out.trans (hb.mono HC1.out.size)
        have BX2 := Lib.hid (BX1.out.call hb)
        have OD2 := Lib.hid od
        have OB : B1 ≤ x1.heap.size := Nat.le_trans HB1s.out HC1.out.size
        clear hb od
        go_wp2_with fail
        rw [StepQ_normal]
        refine ⟨fun _ => HC2, ?_⟩
        refine wpAnyD_one 5 (f := 1) (L' := #[true, true, true, true, true, true, false]) (by kernel_rfl) (by kernel_rfl) rfl rfl ?_
        have hb := below_alloc (Below.refl x2.heap.size x2) (Nat.le_refl _) (.cells #[.slice none 0 0, .slice none 0 0, .slice none 0 0, .slice none 0 0, .int .i64 0] 55)
        have HC3 : Hid (Below w5.heap.size w5 (x2.alloc (.cells #[.slice none 0 0, .slice none 0 0, .slice none 0 0, .slice none 0 0, .int .i64 0] 55))) := HC2.out.trans (hb.mono HC2.out.size)
        have BX3 := Lib.hid (BX2.out.call hb)
        have OD3 := Lib.hid (OD2.out.kept hb)
        have AL3 : Hid ((x2.alloc (.cells #[.slice none 0 0, .slice none 0 0, .slice none 0 0, .slice none 0 0, .int .i64 0] 55)).heap[x2.heap.size]? = some (.cells #[.slice none 0 0, .slice none 0 0, .slice none 0 0, .slice none 0 0, .int .i64 0] 55 (0, 0))) := heap_new _ _
        have AG : w5.heap.size ≤ x2.heap.size := HC2.out.size
        clear hb
        go_wp2_with fail
        rw [StepQ_normal]
        refine ⟨fun _ => HC3, ?_⟩
        obtain ⟨x3, hw3⟩ : ∃ x3, (x2.alloc (.cells #[.slice none 0 0, .slice none 0 0, .slice none 0 0, .slice none 0 0, .int .i64 0] 55)) = x3 := ⟨_, rfl⟩
        rw [hw3] at HC3 BX3 AL3 OD3
        rw [hw3]
        clear hw3
        have gz := AL3.out
        have c0 := cells_of_blk gz 0 _ rfl
        have f0 := free_of_blk gz 0
        have c1 := cells_of_blk gz 1 _ rfl
        have f1 := free_of_blk gz 1
        have c2 := cells_of_blk gz 2 _ rfl
        have f2 := free_of_blk gz 2
        have c3 := cells_of_blk gz 3 _ rfl
        have f3 := free_of_blk gz 3
        have c4 := cells_of_blk gz 4 _ rfl
        have f4 := free_of_blk gz 4
        have hgm : w5.heap.size ≤ x2.heap.size := AG
        have FB : Hid (Below w5.heap.size w5 (set5 x3 x2.heap.size (.slice E1 k1 e1) (.slice E2 k2 e2) (.slice E3 k3 e3) (.slice E4 k4 e4) (.int .i64 m9))) := set5_below HC3.out hgm _ _ _ _ _
        have FP := set5_blk gz (.slice E1 k1 e1) (.slice E2 k2 e2) (.slice E3 k3 e3) (.slice E4 k4 e4) (.int .i64 m9)
        have FO := (OD3.out.set5 gz (.slice E1 k1 e1) (.slice E2 k2 e2) (.slice E3 k3 e3) (.slice E4 k4 e4) (.int .i64 m9))
        have FP' := Lib.hid FP
        have FO' := Lib.hid FO
        clear FP FO gz hgm
        refine wpAnyD_one 6 (f := 0) (L' := #[true, true, true, true, true, true, true]) (by kernel_rfl) (by kernel_rfl) rfl rfl ?_
        go_wp2_with fail
        rw [StepQ_normal]
        refine ⟨fun _ => FB, ?_⟩
        refine ⟨by kernel_rfl, ?_⟩
        rw [OnlyN_normal]
        go_wp2_with fail
        go_meet
        obtain ⟨q1, q2, q3, q4, q5⟩ := FO'.out.wr
        exact ⟨_, _, _, _, _, _, _, _, _, _, _, _, _, _, rfl, FP'.out, q1.mono OB, q2.mono OB, q3.mono OB, q4.mono OB, q5, FB.out⟩
      · skip
        have hb : Below x1.heap.size x1 (x1.alloc (.cells #[.slice none 0 0, .slice none 0 0, .slice none 0 0, .slice none 0 0, .int .i64 0] 55)) := below_alloc (Below.refl x1.heap.size x1) (Nat.le_refl _) (.cells #[.slice none 0 0, .slice none 0 0, .slice none 0 0, .slice none 0 0, .int .i64 0] 55)
        have HC4 : Hid (Below w5.heap.size w5 (x1.alloc (.cells #[.slice none 0 0, .slice none 0 0, .slice none 0 0, .slice none 0 0, .int .i64 0] 55))) := HC1.out.trans (hb.mono HC1.out.size)
        have BX4 := Lib.hid (BX1.out.call hb)
        have VM4 := Lib.hid (VM1.out.call hb)
        have AL4 : Hid ((x1.alloc (.cells #[.slice none 0 0, .slice none 0 0, .slice none 0 0, .slice none 0 0, .int .i64 0] 55)).heap[x1.heap.size]? = some (.cells #[.slice none 0 0, .slice none 0 0, .slice none 0 0, .slice none 0 0, .int .i64 0] 55 (0, 0))) := heap_new _ _
        have AG : w5.heap.size ≤ x1.heap.size := HC1.out.size
        clear hb
        go_wp2_with fail
        rw [StepQ_normal]
        refine ⟨fun _ => HC4, ?_⟩
        obtain ⟨x4, hw4⟩ : ∃ x4, x1.alloc (.cells #[.slice none 0 0, .slice none 0 0, .slice none 0 0, .slice none 0 0, .int .i64 0] 55) = x4 := ⟨_, rfl⟩
        rw [hw4] at HC4 BX4 AL4 VM4
        rw [hw4]
        clear hw4
        refine wpAnyD_one 4 (f := 1) (L' := #[true, true, true, true, true, true, false]) (by kernel_rfl) (by kernel_rfl) rfl rfl ?_
        go_wp2_with fail
        with_reducible refine (qr.out _ _ VM4).mono ?_
        rintro e x5 ⟨vd, rfl, od, hb⟩
        obtain ⟨E1, k1, e1, E2, k2, e2, E3, k3, e3, E4, k4, e4, m9, rfl⟩ := od.form
        have HC5 : Hid (Below w5.heap.size w5 x5) := HC4.out.trans (hb.mono HC4.out.size)
        have BX5 := Lib.hid (BX4.out.call hb)
        have OD5 := Lib.hid od
        have OB : B1 ≤ x4.heap.size := Nat.le_trans HB1s.out HC4.out.size
        have AL5 := Lib.hid (blk_call AL4.out hb)
        clear hb od
        go_wp2_with fail
        rw [StepQ_normal]
        refine ⟨fun _ => HC5, ?_⟩
        have gz := AL5.out
        have c0 := cells_of_blk gz 0 _ rfl
        have f0 := free_of_blk gz 0
        have c1 := cells_of_blk gz 1 _ rfl
        have f1 := free_of_blk gz 1
        have c2 := cells_of_blk gz 2 _ rfl
        have f2 := free_of_blk gz 2
        have c3 := cells_of_blk gz 3 _ rfl
        have f3 := free_of_blk gz 3
        have c4 := cells_of_blk gz 4 _ rfl
        have f4 := free_of_blk gz 4
        have hgm : w5.heap.size ≤ x1.heap.size := AG
        have FB : Hid (Below w5.heap.size w5 (set5 x5 x1.heap.size (.slice E1 k1 e1) (.slice E2 k2 e2) (.slice E3 k3 e3) (.slice E4 k4 e4) (.int .i64 m9))) := set5_below HC5.out hgm _ _ _ _ _
        have FP := set5_blk gz (.slice E1 k1 e1) (.slice E2 k2 e2) (.slice E3 k3 e3) (.slice E4 k4 e4) (.int .i64 m9)
        have FO := (OD5.out.set5 gz (.slice E1 k1 e1) (.slice E2 k2 e2) (.slice E3 k3 e3) (.slice E4 k4 e4) (.int .i64 m9))
        have FP' := Lib.hid FP
        have FO' := Lib.hid FO
        clear FP FO gz hgm
        refine wpAnyD_one 6 (f := 0) (L' := #[true, true, true, true, true, true, true]) (by kernel_rfl) (by kernel_rfl) rfl rfl ?_
        go_wp2_with fail
        rw [StepQ_normal]
        refine ⟨fun _ => FB, ?_⟩
        refine ⟨by kernel_rfl, ?_⟩
        rw [OnlyN_normal]
        go_wp2_with fail
        go_meet
        obtain ⟨q1, q2, q3, q4, q5⟩ := FO'.out.wr
        exact ⟨_, _, _, _, _, _, _, _, _, _, _, _, _, _, rfl, FP'.out, q1.mono OB, q2.mono OB, q3.mono OB, q4.mono OB, q5, FB.out⟩
    · skip
      have hb : Below w5.drew.heap.size w5.drew ((w5.alloc (.cells #[.slice none 0 0, .slice none 0 0, .slice none 0 0, .slice none 0 0, .int .i64 0] 55)).drew) := below_alloc (Below.refl w5.drew.heap.size w5.drew) (Nat.le_refl _) (.cells #[.slice none 0 0, .slice none 0 0, .slice none 0 0, .slice none 0 0, .int .i64 0] 55)
      have HC6 : Hid (Below w5.heap.size w5 ((w5.alloc (.cells #[.slice none 0 0, .slice none 0 0, .slice none 0 0, .slice none 0 0, .int .i64 0] 55)).drew)) := HC.out.trans (hb.mono HC.out.size)
      have BX6 := Lib.hid (BXD.out.call hb)
      have AL6 : Hid (((w5.alloc (.cells #[.slice none 0 0, .slice none 0 0, .slice none 0 0, .slice none 0 0, .int .i64 0] 55)).drew).heap[w5.heap.size]? = some (.cells #[.slice none 0 0, .slice none 0 0, .slice none 0 0, .slice none 0 0, .int .i64 0] 55 (0, 0))) := heap_new _ _
      have AG : w5.heap.size ≤ w5.heap.size := Nat.le_refl _
      clear hb
      go_wp2_with fail
      rw [StepQ_normal]
      refine ⟨fun _ => HC6, ?_⟩
      obtain ⟨x6, hw6⟩ : ∃ x6, (w5.alloc (.cells #[.slice none 0 0, .slice none 0 0, .slice none 0 0, .slice none 0 0, .int .i64 0] 55)).drew = x6 := ⟨_, rfl⟩
      rw [hw6] at HC6 BX6 AL6
      rw [hw6]
      clear hw6
      refine wpAnyD_one 2 (f := 2) (L' := #[true, true, true, true, false, true, false]) (by kernel_rfl) (by kernel_rfl) rfl rfl ?_
      go_wp2_with fail
      with_reducible refine (qh.out _ BX6).mono ?_
      rintro e x7 ⟨vm7, rfl, om, hb⟩
      have HC7 : Hid (Below w5.heap.size w5 x7) := HC6.out.trans (hb.mono HC6.out.size)
      have BX7 := Lib.hid (BX6.out.call hb)
      have VM7 := Lib.hid om.at
      have AL7 := Lib.hid (blk_call AL6.out hb)
      clear hb om
      go_wp2_with fail
      rw [StepQ_normal]
      refine ⟨fun _ => HC7, ?_⟩
      refine wpAnyD_one 4 (f := 1) (L' := #[true, true, true, true, true, true, false]) (by kernel_rfl) (by kernel_rfl) rfl rfl ?_
      go_wp2_with fail
      with_reducible refine (qr.out _ _ VM7).mono ?_
      rintro e x8 ⟨vd, rfl, od, hb⟩
      obtain ⟨E1, k1, e1, E2, k2, e2, E3, k3, e3, E4, k4, e4, m9, rfl⟩ := od.form
      have HC8 : Hid (Below w5.heap.size w5 x8) := HC7.out.trans (hb.mono HC7.out.size)
      have BX8 := Lib.hid (BX7.out.call hb)
      have OD8 := Lib.hid od
      have OB : B1 ≤ x7.heap.size := Nat.le_trans HB1s.out HC7.out.size
      have AL8 := Lib.hid (blk_call AL7.out hb)
      clear hb od
      go_wp2_with fail
      rw [StepQ_normal]
      refine ⟨fun _ => HC8, ?_⟩
      have gz := AL8.out
      have c0 := cells_of_blk gz 0 _ rfl
      have f0 := free_of_blk gz 0
      have c1 := cells_of_blk gz 1 _ rfl
      have f1 := free_of_blk gz 1
      have c2 := cells_of_blk gz 2 _ rfl
      have f2 := free_of_blk gz 2
      have c3 := cells_of_blk gz 3 _ rfl
      have f3 := free_of_blk gz 3
      have c4 := cells_of_blk gz 4 _ rfl
      have f4 := free_of_blk gz 4
      have hgm : w5.heap.size ≤ w5.heap.size := AG
      have FB : Hid (Below w5.heap.size w5 (set5 x8 w5.heap.size (.slice E1 k1 e1) (.slice E2 k2 e2) (.slice E3 k3 e3) (.slice E4 k4 e4) (.int .i64 m9))) := set5_below HC8.out hgm _ _ _ _ _
      have FP := set5_blk gz (.slice E1 k1 e1) (.slice E2 k2 e2) (.slice E3 k3 e3) (.slice E4 k4 e4) (.int .i64 m9)
      have FO := (OD8.out.set5 gz (.slice E1 k1 e1) (.slice E2 k2 e2) (.slice E3 k3 e3) (.slice E4 k4 e4) (.int .i64 m9))
      have FP' := Lib.hid FP
      have FO' := Lib.hid FO
      clear FP FO gz hgm
      refine wpAnyD_one 6 (f := 0) (L' := #[true, true, true, true, true, true, true]) (by kernel_rfl) (by kernel_rfl) rfl rfl ?_
      go_wp2_with fail
      rw [StepQ_normal]
      refine ⟨fun _ => FB, ?_⟩
      refine ⟨by kernel_rfl, ?_⟩
      rw [OnlyN_normal]
      go_wp2_with fail
      go_meet
      obtain ⟨q1, q2, q3, q4, q5⟩ := FO'.out.wr
      exact ⟨_, _, _, _, _, _, _, _, _, _, _, _, _, _, rfl, FP'.out, q1.mono OB, q2.mono OB, q3.mono OB, q4.mono OB, q5, FB.out⟩
  case rest =>
    obtain ⟨g9, m9, D1, n1, d1, D2, n2, d2, D3, n3, d3, D4, n4, d4, rfl, P9, WD1, WD2, WD3, WD4, LN, HB6⟩ := hcut
    have INV : Hid (Inv B1 w5 wc ([(.slice Q1 b.h.length q1, 4, b.h.length), (.slice Q2 b.s.length q2, 3, b.s.length), (.slice D1 n1 d1, 4, n1), (.slice D2 n2 d2, 3, n2), (.slice D3 n3 d3, 6, n3), (.slice D4 n4 d4, 2, n4)]) ([(g7, #[.slice P1 b.h.length p1, .slice P2 b.s.length p2, .slice P3 b.o.length p3, .slice P4 b.r.length p4, .int .i64 b.n]), (g8, #[.slice Q1 b.h.length q1, .slice Q2 b.s.length q2, .slice Q3 b.o.length q3, .slice Q4 b.r.length q4, .int .i64 b.n]), (g9, #[.slice D1 n1 d1, .slice D2 n2 d2, .slice D3 n3 d3, .slice D4 n4 d4, .int .i64 m9])])) := (by
      obtain ⟨_, _, _, _, eh, o1, o2, o3, o4⟩ := O3.out
      injection eh with eh
      simp only [Array.mk.injEq, List.cons.injEq] at eh
      obtain ⟨rfl, rfl, rfl, rfl, _⟩ := eh
      refine ⟨HB6.out.mono HB1s.out, fun p hp => ?_, fun q hq => ?_⟩
      · simp only [List.mem_cons, List.not_mem_nil, or_false] at hp
        rcases hp with rfl | rfl | rfl | rfl | rfl | rfl
        · exact o1.wr.kept HB6.out
        · exact o2.wr.kept HB6.out
        · exact WD1.out
        · exact WD2.out
        · exact WD3.out
        · exact WD4.out
      · simp only [List.mem_cons, List.not_mem_nil, or_false] at hq
        rcases hq with rfl | rfl | rfl
        · exact ⟨⟨_, _, _, rfl⟩, blk_call P7.out HB6.out⟩
        · exact ⟨⟨_, _, _, rfl⟩, blk_call P8.out HB6.out⟩
        · exact ⟨⟨_, _, _, rfl⟩, P9.out⟩)
    have NB : b.h.length ≤ 1000000 ∧ b.s.length ≤ 1000000 ∧ n1 ≤ 1000000 ∧ n2 ≤ 1000000 ∧ n3 ≤ 1000000 ∧ n4 ≤ 1000000 := by
      have := HFIT.out
      have := LN.out
      unfold Bk.Fit at *
      omega
    obtain ⟨nb1, nb2, nb3, nb4, nb5, nb6⟩ := NB
    clear P9 WD1 WD2 WD3 WD4 LN
    go_wp2_with fail
    go_loopw [10] (fun s6 wr => ∃ i : Nat, s6 = .int .i64 i ∧ Hid (i ≤ b.h.length) ∧ Hid (Inv B1 w5 wr ([(.slice Q1 b.h.length q1, 4, b.h.length), (.slice Q2 b.s.length q2, 3, b.s.length), (.slice D1 n1 d1, 4, n1), (.slice D2 n2 d2, 3, n2), (.slice D3 n3 d3, 6, n3), (.slice D4 n4 d4, 2, n4)]) ([(g7, #[.slice P1 b.h.length p1, .slice P2 b.s.length p2, .slice P3 b.o.length p3, .slice P4 b.r.length p4, .int .i64 b.n]), (g8, #[.slice Q1 b.h.length q1, .slice Q2 b.s.length q2, .slice Q3 b.o.length q3, .slice Q4 b.r.length q4, .int .i64 b.n]), (g9, #[.slice D1 n1 d1, .slice D2 n2 d2, .slice D3 n3 d3, .slice D4 n4 d4, .int .i64 m9])]))) (fun s6 _ => b.h.length - (intOf s6).toNat)
    case atStart => exact ⟨0, rfl, Nat.zero_le _, INV.out⟩
    case round =>
      obtain ⟨i, rfl, hil, hI⟩ := hrel
      replace hil := hil.out
      have cb := cells_of_blk (hI.out.2.2 (g8, #[.slice Q1 b.h.length q1, .slice Q2 b.s.length q2, .slice Q3 b.o.length q3, .slice Q4 b.r.length q4, .int .i64 b.n]) (by simp)).2 0 _ rfl
      by_cases hin : i < b.h.length
      · have tn : decide ((i : Int) < (b.h.length : Int)) = true := decide_eq_true (by omega)
        obtain ⟨g, hA, hj⟩ := hI.out.drawn Q1 b.h.length q1 4 (by simp) i hin (by decide)
        subst hA
        obtain ⟨hf, ⟨x, hx⟩, hS⟩ := hj 1 (by decide)
        have HS := Lib.hid hS
        clear hj hS
        go_wp2_with fail
        go_roundw
        case rel => exact ⟨i + 1, by go_num, by show _ ≤ _; omega, HS.out _⟩
        case measure => simp [intOf]; omega
      · have tn : decide ((i : Int) < (b.h.length : Int)) = false := decide_eq_false (by omega)
        have I0 := hI
        clear hil
        clear hI
        go_wp2_with fail
        go_loopw [11] (fun s6 wr => ∃ i : Nat, s6 = .int .i64 i ∧ Hid (i ≤ b.s.length) ∧ Hid (Inv B1 w5 wr ([(.slice Q1 b.h.length q1, 4, b.h.length), (.slice Q2 b.s.length q2, 3, b.s.length), (.slice D1 n1 d1, 4, n1), (.slice D2 n2 d2, 3, n2), (.slice D3 n3 d3, 6, n3), (.slice D4 n4 d4, 2, n4)]) ([(g7, #[.slice P1 b.h.length p1, .slice P2 b.s.length p2, .slice P3 b.o.length p3, .slice P4 b.r.length p4, .int .i64 b.n]), (g8, #[.slice Q1 b.h.length q1, .slice Q2 b.s.length q2, .slice Q3 b.o.length q3, .slice Q4 b.r.length q4, .int .i64 b.n]), (g9, #[.slice D1 n1 d1, .slice D2 n2 d2, .slice D3 n3 d3, .slice D4 n4 d4, .int .i64 m9])]))) (fun s6 _ => b.s.length - (intOf s6).toNat)
        case atStart => exact ⟨0, rfl, Nat.zero_le _, I0.out⟩
        case round =>
          obtain ⟨i, rfl, hil, hI⟩ := hrel
          replace hil := hil.out
          have cb := cells_of_blk (hI.out.2.2 (g8, #[.slice Q1 b.h.length q1, .slice Q2 b.s.length q2, .slice Q3 b.o.length q3, .slice Q4 b.r.length q4, .int .i64 b.n]) (by simp)).2 1 _ rfl
          by_cases hin : i < b.s.length
          · have tn : decide ((i : Int) < (b.s.length : Int)) = true := decide_eq_true (by omega)
            obtain ⟨g, hA, hj⟩ := hI.out.drawn Q2 b.s.length q2 3 (by simp) i hin (by decide)
            subst hA
            obtain ⟨hf, ⟨x, hx⟩, hS⟩ := hj 2 (by decide)
            have HS := Lib.hid hS
            clear hj hS
            go_wp2_with fail
            go_roundw
            case rel => exact ⟨i + 1, by go_num, by show _ ≤ _; omega, HS.out _⟩
            case measure => simp [intOf]; omega
          · have tn : decide ((i : Int) < (b.s.length : Int)) = false := decide_eq_false (by omega)
            have I1 := hI
            clear hil
            clear hI
            go_wp2_with fail
            go_loopw [12] (fun s6 wr => ∃ i : Nat, s6 = .int .i64 i ∧ Hid (i ≤ n3) ∧ Hid (Inv B1 w5 wr ([(.slice Q1 b.h.length q1, 4, b.h.length), (.slice Q2 b.s.length q2, 3, b.s.length), (.slice D1 n1 d1, 4, n1), (.slice D2 n2 d2, 3, n2), (.slice D3 n3 d3, 6, n3), (.slice D4 n4 d4, 2, n4)]) ([(g7, #[.slice P1 b.h.length p1, .slice P2 b.s.length p2, .slice P3 b.o.length p3, .slice P4 b.r.length p4, .int .i64 b.n]), (g8, #[.slice Q1 b.h.length q1, .slice Q2 b.s.length q2, .slice Q3 b.o.length q3, .slice Q4 b.r.length q4, .int .i64 b.n]), (g9, #[.slice D1 n1 d1, .slice D2 n2 d2, .slice D3 n3 d3, .slice D4 n4 d4, .int .i64 m9])]))) (fun s6 _ => n3 - (intOf s6).toNat)
            case atStart => exact ⟨0, rfl, Nat.zero_le _, I1.out⟩
            case round =>
              obtain ⟨i, rfl, hil, hI⟩ := hrel
              replace hil := hil.out
              have cb := cells_of_blk (hI.out.2.2 (g9, #[.slice D1 n1 d1, .slice D2 n2 d2, .slice D3 n3 d3, .slice D4 n4 d4, .int .i64 m9]) (by simp)).2 2 _ rfl
              by_cases hin : i < n3
              · have tn : decide ((i : Int) < (n3 : Int)) = true := decide_eq_true (by omega)
                obtain ⟨g, hA, hj⟩ := hI.out.drawn D3 n3 d3 6 (by simp) i hin (by decide)
                subst hA
                obtain ⟨hf, ⟨x, hx⟩, hS⟩ := hj 4 (by decide)
                have HS := Lib.hid hS
                clear hj hS
                go_wp2_with fail
                go_roundw
                case rel => exact ⟨i + 1, by go_num, by show _ ≤ _; omega, HS.out _⟩
                case measure => simp [intOf]; omega
              · have tn : decide ((i : Int) < (n3 : Int)) = false := decide_eq_false (by omega)
                have I2 := hI
                clear hil
                clear hI
                go_wp2_with fail
                go_loopw [13] (fun s6 wr => ∃ i : Nat, s6 = .int .i64 i ∧ Hid (i ≤ n4) ∧ Hid (Inv B1 w5 wr ([(.slice Q1 b.h.length q1, 4, b.h.length), (.slice Q2 b.s.length q2, 3, b.s.length), (.slice D1 n1 d1, 4, n1), (.slice D2 n2 d2, 3, n2), (.slice D3 n3 d3, 6, n3), (.slice D4 n4 d4, 2, n4)]) ([(g7, #[.slice P1 b.h.length p1, .slice P2 b.s.length p2, .slice P3 b.o.length p3, .slice P4 b.r.length p4, .int .i64 b.n]), (g8, #[.slice Q1 b.h.length q1, .slice Q2 b.s.length q2, .slice Q3 b.o.length q3, .slice Q4 b.r.length q4, .int .i64 b.n]), (g9, #[.slice D1 n1 d1, .slice D2 n2 d2, .slice D3 n3 d3, .slice D4 n4 d4, .int .i64 m9])]))) (fun s6 _ => n4 - (intOf s6).toNat)
                case atStart => exact ⟨0, rfl, Nat.zero_le _, I2.out⟩
                case round =>
                  obtain ⟨i, rfl, hil, hI⟩ := hrel
                  replace hil := hil.out
                  have cb := cells_of_blk (hI.out.2.2 (g9, #[.slice D1 n1 d1, .slice D2 n2 d2, .slice D3 n3 d3, .slice D4 n4 d4, .int .i64 m9]) (by simp)).2 3 _ rfl
                  by_cases hin : i < n4
                  · have tn : decide ((i : Int) < (n4 : Int)) = true := decide_eq_true (by omega)
                    obtain ⟨g, hA, hj⟩ := hI.out.drawn D4 n4 d4 2 (by simp) i hin (by decide)
                    subst hA
                    obtain ⟨hf, ⟨x, hx⟩, hS⟩ := hj 1 (by decide)
                    have HS := Lib.hid hS
                    clear hj hS
                    go_wp2_with fail
                    go_roundw
                    case rel => exact ⟨i + 1, by go_num, by show _ ≤ _; omega, HS.out _⟩
                    case measure => simp [intOf]; omega
                  · have tn : decide ((i : Int) < (n4 : Int)) = false := decide_eq_false (by omega)
                    have I3 := hI
                    clear hil
                    clear hI
                    go_wp2_with fail
                    go_loopw [14] (fun s6 wr => ∃ i : Nat, s6 = .int .i64 i ∧ Hid (i ≤ n1) ∧ Hid (Inv B1 w5 wr ([(.slice Q1 b.h.length q1, 4, b.h.length), (.slice Q2 b.s.length q2, 3, b.s.length), (.slice D1 n1 d1, 4, n1), (.slice D2 n2 d2, 3, n2), (.slice D3 n3 d3, 6, n3), (.slice D4 n4 d4, 2, n4)]) ([(g7, #[.slice P1 b.h.length p1, .slice P2 b.s.length p2, .slice P3 b.o.length p3, .slice P4 b.r.length p4, .int .i64 b.n]), (g8, #[.slice Q1 b.h.length q1, .slice Q2 b.s.length q2, .slice Q3 b.o.length q3, .slice Q4 b.r.length q4, .int .i64 b.n]), (g9, #[.slice D1 n1 d1, .slice D2 n2 d2, .slice D3 n3 d3, .slice D4 n4 d4, .int .i64 m9])]))) (fun s6 _ => n1 - (intOf s6).toNat)
                    case atStart => exact ⟨0, rfl, Nat.zero_le _, I3.out⟩
                    case round =>
                      obtain ⟨i, rfl, hil, hI⟩ := hrel
                      replace hil := hil.out
                      have cb := cells_of_blk (hI.out.2.2 (g9, #[.slice D1 n1 d1, .slice D2 n2 d2, .slice D3 n3 d3, .slice D4 n4 d4, .int .i64 m9]) (by simp)).2 0 _ rfl
                      by_cases hin : i < n1
                      · have tn : decide ((i : Int) < (n1 : Int)) = true := decide_eq_true (by omega)
                        obtain ⟨g, hA, hj⟩ := hI.out.drawn D1 n1 d1 4 (by simp) i hin (by decide)
                        subst hA
                        obtain ⟨hf, ⟨x, hx⟩, hS⟩ := hj 1 (by decide)
                        have HS := Lib.hid hS
                        clear hj hS
                        go_wp2_with fail
                        go_roundw
                        case rel => exact ⟨i + 1, by go_num, by show _ ≤ _; omega, HS.out _⟩
                        case measure => simp [intOf]; omega
                      · have tn : decide ((i : Int) < (n1 : Int)) = false := decide_eq_false (by omega)
                        have I4 := hI
                        clear hil
                        clear hI
                        go_wp2_with fail
                        go_loopw [15] (fun s6 wr => ∃ i : Nat, s6 = .int .i64 i ∧ Hid (i ≤ n2) ∧ Hid (Inv B1 w5 wr ([(.slice Q1 b.h.length q1, 4, b.h.length), (.slice Q2 b.s.length q2, 3, b.s.length), (.slice D1 n1 d1, 4, n1), (.slice D2 n2 d2, 3, n2), (.slice D3 n3 d3, 6, n3), (.slice D4 n4 d4, 2, n4)]) ([(g7, #[.slice P1 b.h.length p1, .slice P2 b.s.length p2, .slice P3 b.o.length p3, .slice P4 b.r.length p4, .int .i64 b.n]), (g8, #[.slice Q1 b.h.length q1, .slice Q2 b.s.length q2, .slice Q3 b.o.length q3, .slice Q4 b.r.length q4, .int .i64 b.n]), (g9, #[.slice D1 n1 d1, .slice D2 n2 d2, .slice D3 n3 d3, .slice D4 n4 d4, .int .i64 m9])]))) (fun s6 _ => n2 - (intOf s6).toNat)
                        case atStart => exact ⟨0, rfl, Nat.zero_le _, I4.out⟩
                        case round =>
                          obtain ⟨i, rfl, hil, hI⟩ := hrel
                          replace hil := hil.out
                          have cb := cells_of_blk (hI.out.2.2 (g9, #[.slice D1 n1 d1, .slice D2 n2 d2, .slice D3 n3 d3, .slice D4 n4 d4, .int .i64 m9]) (by simp)).2 1 _ rfl
                          by_cases hin : i < n2
                          · have tn : decide ((i : Int) < (n2 : Int)) = true := decide_eq_true (by omega)
                            obtain ⟨g, hA, hj⟩ := hI.out.drawn D2 n2 d2 3 (by simp) i hin (by decide)
                            subst hA
                            obtain ⟨hf, ⟨x, hx⟩, hS⟩ := hj 2 (by decide)
                            have HS := Lib.hid hS
                            clear hj hS
                            go_wp2_with fail
                            go_roundw
                            case rel => exact ⟨i + 1, by go_num, by show _ ≤ _; omega, HS.out _⟩
                            case measure => simp [intOf]; omega
                          · have tn : decide ((i : Int) < (n2 : Int)) = false := decide_eq_false (by omega)
                            have I5 := hI
                            clear hil
                            have hwB : w.heap.size < B1 := Nat.lt_of_lt_of_le (Array.getElem?_eq_some_iff.1 K3.out).1 HM3.out
                            have k6 := (hI.out.1.block _ hwB).trans K5.out
                            have k7 := (hI.out.2.2 (g7, #[.slice P1 b.h.length p1, .slice P2 b.s.length p2, .slice P3 b.o.length p3, .slice P4 b.r.length p4, .int .i64 b.n]) (by simp)).2
                            have a0 := cells_of_blk k6 0 _ rfl
                            have e0 := cells_of_blk k7 0 _ rfl
                            have a1 := cells_of_blk k6 1 _ rfl
                            have e1 := cells_of_blk k7 1 _ rfl
                            have a2 := cells_of_blk k6 2 _ rfl
                            have e2 := cells_of_blk k7 2 _ rfl
                            have a3 := cells_of_blk k6 3 _ rfl
                            have e3 := cells_of_blk k7 3 _ rfl
                            have a4 := cells_of_blk k6 4 _ rfl
                            have e4 := cells_of_blk k7 4 _ rfl
                            have BA : Hid (BkAt wr (.agg #[vh, vs, vo, vr, .int .i64 b.n]) b) := B3.out.call (HB5.out.trans (hI.out.1.mono HM3.out))
                            have BW : Hid (BkAt wr (.agg #[.slice P1 b.h.length p1, .slice P2 b.s.length p2, .slice P3 b.o.length p3, .slice P4 b.r.length p4, .int .i64 b.n]) b) := O1.out.upto L1.out hI.out.1
                            have HBF : Hid (Below w.heap.size w wr) := HBw5.out.trans (hI.out.1.mono (Nat.le_of_lt hwB))
                            clear k6 k7 hwB hI
                            go_wp2_with fail
                            with_reducible refine (rSame_any _ _ b b _ BA BW hsm).mono ?_
                            rintro e wz ⟨rfl, hb⟩
                            have HBz := Lib.hid (HBF.out.trans (hb.mono HBF.out.size))
                            have hsame : sameB b b = true := (sameB_iff b b).2 rfl
                            rw [hsame]
                            clear hb hsame
                            go_wp2_with fail
                            go_ret
                            exact ⟨rfl, HBz.out⟩
end Go.Proofs.Yteeemoknbnlopaa
