/- BookApart: the walk. PRINTED BY genBookQ.py. -/
import Derived.Test.YtfkfpppiikgjbaaBookM
import Derived.Test.YtfkfpppiikgjbaaBookN
import Derived.Test.YtfkfpppiikgjbaaBookP
import Derived.Test.YtfkfpppiikgjbaaRegF
import Derived.Deep.DeepCutAuto
namespace Go.Proofs.Ytfkfpppiikgjbaa
open Go Go.RowKit
set_option linter.unusedVariables false
set_option linter.unusedSimpArgs false

/-- A row of whole numbers that the call may write. -/
def Wr (w : World) (B : Nat) (v : Value) (k n : Nat) : Prop := ∃ A c, v = .slice A n c ∧ ∀ j, j < n * k → ∃ g, A = some ⟨g, 0, none⟩ ∧ B ≤ g ∧ w.frozen? ⟨g, j, none⟩ = false ∧ ∃ x, w.cell? ⟨g, j, none⟩ = some (.int .i64 x)
theorem RowOwn.wr {w : World} {B : Nat} {e : TypeId} {v : Value} {k : Nat} {l : List (List Int)} (h : RowOwn w B e v k l) : Wr w B v k l.length := by
  obtain ⟨ho, hk⟩ := h
  rcases ho.2 with ⟨rfl, h0⟩ | ⟨g, cap, cur, rfl, hB, hg, hn, hm, hs, ht⟩
  · exact ⟨none, 0, by rw [h0], fun j hj => by rw [h0] at hj; simp at hj⟩
  · refine ⟨_, _, rfl, fun j hj => ⟨g, rfl, hB, free_of_blk hg j, ?_⟩⟩
    have hl : j < (flatC l).length := by rw [flatC_len hk]; exact hj
    have h1 : (flatC l)[j]? = some ((flatC l)[j]) := List.getElem?_eq_getElem hl
    obtain ⟨x, _, hx⟩ := List.mem_map.1 (List.getElem_mem hl)
    rw [← hx] at h1
    have := ho.cells (g := g) rfl j _ h1
    rw [Addr.add_lit, Nat.zero_add] at this
    exact ⟨x, this⟩
theorem Wr.kept {w w' : World} {B : Nat} {v : Value} {k n : Nat} (h : Wr w B v k n) (hb : Below w.heap.size w w') : Wr w' B v k n := by
  obtain ⟨A, c, rfl, h⟩ := h
  refine ⟨A, c, rfl, fun j hj => ?_⟩
  obtain ⟨g, rfl, hB, hf, x, hx⟩ := h j hj
  have hl := World.block_lt_of_cell? w _ hx
  exact ⟨g, rfl, hB, (hb.frozen (p := ⟨g, j, none⟩) hl).trans hf, x, (hb.cell (p := ⟨g, j, none⟩) hl).trans hx⟩
theorem Wr.mono {w : World} {B B' : Nat} {v : Value} {k n : Nat} (h : Wr w B v k n) (hB : B' ≤ B) : Wr w B' v k n := by
  obtain ⟨A, c, rfl, h⟩ := h
  refine ⟨A, c, rfl, fun j hj => ?_⟩
  obtain ⟨g, e, h1, h2⟩ := h j hj
  exact ⟨g, e, Nat.le_trans hB h1, h2⟩
theorem Wr.set {w : World} {B : Nat} {v : Value} {k n : Nat} (h : Wr w B v k n) (a : Addr) (y : Int) : Wr (w.setCell a (.int .i64 y)) B v k n := by
  obtain ⟨A, c, rfl, h⟩ := h
  refine ⟨A, c, rfl, fun j hj => ?_⟩
  obtain ⟨g, e, hB, hf, x, hx⟩ := h j hj
  refine ⟨g, e, hB, by rw [World.frozen?_setCell]; exact hf, ?_⟩
  by_cases ha : a = ⟨g, j, none⟩
  · subst ha
    exact ⟨y, World.cell?_setCell_same _ _ _ hx⟩
  · exact ⟨x, by rw [World.cell?_setCell_other _ _ _ _ ha]; exact hx⟩
/-- What holds while rows of the call's own are written. -/
def Inv (B : Nat) (w4 wr : World) (rows : List (Value × Nat × Nat)) (boxes : List (Nat × Array Value)) : Prop :=
  Below B w4 wr ∧ (∀ p ∈ rows, Wr wr B p.1 p.2.1 p.2.2) ∧ ∀ q ∈ boxes, (∃ A n c, q.2[0]? = some (.slice A n c)) ∧ wr.heap[q.1]? = some (.cells q.2 37 (0, 0))
theorem Inv.drawn {B : Nat} {w4 wr : World} {rows : List (Value × Nat × Nat)} {boxes : List (Nat × Array Value)} (h : Inv B w4 wr rows boxes) (A : Option Addr) (n c k : Nat) (hm : (.slice A n c, k, n) ∈ rows) (i : Nat) (hi : i < n) (hk : 0 < k) :
    ∃ g, A = some ⟨g, 0, none⟩ ∧ ∀ j, j < k → wr.frozen? ⟨g, i * k + j, none⟩ = false ∧ (∃ x, wr.cell? ⟨g, i * k + j, none⟩ = some (.int .i64 x)) ∧ ∀ y, Inv B w4 (wr.setCell ⟨g, i * k + j, none⟩ (.int .i64 y)) rows boxes := by
  obtain ⟨h1, h2, h3⟩ := h
  obtain ⟨A', c', hv, hc⟩ := h2 _ hm
  injection hv with e1 _ e2
  subst e1
  have hle : i * k + k ≤ n * k := by rw [← Nat.succ_mul]; exact Nat.mul_le_mul_right _ hi
  obtain ⟨g, rfl, hB, _, x0, hx0⟩ := hc 0 (by show 0 < n * k; omega)
  refine ⟨g, rfl, fun j hj => ?_⟩
  obtain ⟨g', he, _, hf, hx⟩ := hc (i * k + j) (by show i * k + j < n * k; omega)
  injection he with he
  injection he with he
  subst he
  refine ⟨hf, hx, fun y => ⟨h1.setCell hB _, fun p hp => (h2 p hp).set _ _, fun q hq => ?_⟩⟩
  obtain ⟨⟨A1, n1, c1, q2⟩, q3⟩ := h3 q hq
  refine ⟨⟨A1, n1, c1, q2⟩, ?_⟩
  have hne : q.1 ≠ g := fun e => by
    have := cells_of_blk q3 0 _ q2
    rw [e] at this
    rw [hx0] at this
    cases this
  exact set_oth q3 _ _ hne
theorem RowOwn.setOther {w : World} {B : Nat} {e : TypeId} {v : Value} {k : Nat} {l : List (List Int)} (h : RowOwn w B e v k l) {g : Nat} {cs : Array Value} {t : TypeId} {fr : Nat × Nat} (hg : w.heap[g]? = some (.cells cs t fr)) (hne : e ≠ t) (i : Nat) (u : Value) : RowOwn (w.setCell ⟨g, i, none⟩ u) B e v k l := by
  obtain ⟨⟨hl, ho⟩, hk⟩ := h
  refine ⟨⟨hl, ?_⟩, hk⟩
  rcases ho with h | ⟨g', cap, cur, h1, h2, h3, h4⟩
  · exact .inl h
  · refine .inr ⟨g', cap, cur, h1, h2, set_oth h3 i u (fun e' => ?_), h4⟩
    subst e'
    rw [hg] at h3
    injection h3 with h3
    injection h3 with _ h3 _
    exact hne h3.symm
theorem BkOwn.setOther {w : World} {B : Nat} {v : Value} {b : Bk} (h : BkOwn w B v b) {g : Nat} {cs : Array Value} {fr : Nat × Nat} (hg : w.heap[g]? = some (.cells cs 37 fr)) (i : Nat) (u : Value) : BkOwn (w.setCell ⟨g, i, none⟩ u) B v b := by
  obtain ⟨vh, vs, vo, vr, rfl, h1, h2, h3, h4⟩ := h
  exact ⟨vh, vs, vo, vr, rfl, h1.setOther hg (by decide) i u, h2.setOther hg (by decide) i u, h3.setOther hg (by decide) i u, h4.setOther hg (by decide) i u⟩
def set5 (w : World) (g : Nat) (a0 a1 a2 a3 a4 : Value) : World := ((((w.setCell ⟨g, 0, none⟩ a0).setCell ⟨g, 1, none⟩ a1).setCell ⟨g, 2, none⟩ a2).setCell ⟨g, 3, none⟩ a3).setCell ⟨g, 4, none⟩ a4
theorem set5_blk {w : World} {g : Nat} {x0 x1 x2 x3 x4 : Value} {t : TypeId} {fr : Nat × Nat} (h : w.heap[g]? = some (.cells #[x0, x1, x2, x3, x4] t fr)) (a0 a1 a2 a3 a4 : Value) : (set5 w g a0 a1 a2 a3 a4).heap[g]? = some (.cells #[a0, a1, a2, a3, a4] t fr) :=
  set_blk (set_blk (set_blk (set_blk (set_blk h 0 a0) 1 a1) 2 a2) 3 a3) 4 a4
theorem set5_oth {w : World} {g c : Nat} {o : Option Obj} (h : w.heap[g]? = o) (hne : g ≠ c) (a0 a1 a2 a3 a4 : Value) : (set5 w c a0 a1 a2 a3 a4).heap[g]? = o :=
  set_oth (set_oth (set_oth (set_oth (set_oth h 0 a0 hne) 1 a1 hne) 2 a2 hne) 3 a3 hne) 4 a4 hne
theorem set5_below {B : Nat} {a w : World} {g : Nat} (h : Below B a w) (hg : B ≤ g) (a0 a1 a2 a3 a4 : Value) : Below B a (set5 w g a0 a1 a2 a3 a4) :=
  ((((h.setCell (p := ⟨g, 0, none⟩) hg a0).setCell (p := ⟨g, 1, none⟩) hg a1).setCell (p := ⟨g, 2, none⟩) hg a2).setCell (p := ⟨g, 3, none⟩) hg a3).setCell (p := ⟨g, 4, none⟩) hg a4
theorem BkOwn.set5 {w : World} {B : Nat} {v : Value} {b : Bk} (h : BkOwn w B v b) {g : Nat} {cs : Array Value} {fr : Nat × Nat} (hg : w.heap[g]? = some (.cells cs 37 fr)) (a0 a1 a2 a3 a4 : Value) : BkOwn (set5 w g a0 a1 a2 a3 a4) B v b := by
  have g1 := set_blk hg 0 a0
  have g2 := set_blk g1 1 a1
  have g3 := set_blk g2 2 a2
  have g4 := set_blk g3 3 a3
  exact ((((h.setOther hg 0 a0).setOther g1 1 a1).setOther g2 2 a2).setOther g3 3 a3).setOther g4 4 a4
def BkLoose (w : World) (B : Nat) (v : Value) : Prop := ∃ b : Bk, BkOwn w B v b ∧ (b.h.length ≤ 1000000 ∧ b.s.length ≤ 1000000 ∧ b.o.length ≤ 1000000 ∧ b.r.length ≤ 1000000)
theorem BkLoose.kept {w w' : World} {B : Nat} {v : Value} (h : BkLoose w B v) (hb : Below w.heap.size w w') : BkLoose w' B v := by obtain ⟨b, h1, h2⟩ := h; exact ⟨b, h1.kept hb, h2⟩
theorem BkLoose.form {w : World} {B : Nat} {v : Value} (h : BkLoose w B v) : ∃ (A1 : Option Addr) (n1 c1 : Nat) (A2 : Option Addr) (n2 c2 : Nat) (A3 : Option Addr) (n3 c3 : Nat) (A4 : Option Addr) (n4 c4 : Nat) (m : Int), v = .agg #[.slice A1 n1 c1, .slice A2 n2 c2, .slice A3 n3 c3, .slice A4 n4 c4, .int .i64 m] := by
  obtain ⟨b, h, _⟩ := h
  obtain ⟨A1, c1, A2, c2, A3, c3, A4, c4, rfl⟩ := h.form
  exact ⟨_, _, _, _, _, _, _, _, _, _, _, _, _, rfl⟩
theorem BkLoose.set5 {w : World} {B : Nat} {v : Value} (h : BkLoose w B v) {g : Nat} {cs : Array Value} {fr : Nat × Nat} (hg : w.heap[g]? = some (.cells cs 37 fr)) (a0 a1 a2 a3 a4 : Value) : BkLoose (set5 w g a0 a1 a2 a3 a4) B v := by obtain ⟨b, h1, h2⟩ := h; exact ⟨b, h1.set5 hg _ _ _ _ _, h2⟩
theorem BkLoose.wr {w : World} {B : Nat} {A1 : Option Addr} {n1 c1 : Nat} {A2 : Option Addr} {n2 c2 : Nat} {A3 : Option Addr} {n3 c3 : Nat} {A4 : Option Addr} {n4 c4 : Nat} {m : Int} (h : BkLoose w B (.agg #[.slice A1 n1 c1, .slice A2 n2 c2, .slice A3 n3 c3, .slice A4 n4 c4, .int .i64 m])) :
    Wr w B (.slice A1 n1 c1) 4 n1 ∧ Wr w B (.slice A2 n2 c2) 3 n2 ∧ Wr w B (.slice A3 n3 c3) 6 n3 ∧ Wr w B (.slice A4 n4 c4) 2 n4 ∧ (n1 ≤ 1000000 ∧ n2 ≤ 1000000 ∧ n3 ≤ 1000000 ∧ n4 ≤ 1000000) := by
  obtain ⟨b, h, hl⟩ := h
  obtain ⟨_, _, _, _, eh, q1, q2, q3, q4⟩ := h
  obtain ⟨_, _, e1⟩ := q1.form
  obtain ⟨_, _, e2⟩ := q2.form
  obtain ⟨_, _, e3⟩ := q3.form
  obtain ⟨_, _, e4⟩ := q4.form
  subst e1 e2 e3 e4
  injection eh with eh
  simp only [Array.mk.injEq, List.cons.injEq, Value.slice.injEq] at eh
  obtain ⟨⟨rfl, rfl, rfl⟩, ⟨rfl, rfl, rfl⟩, ⟨rfl, rfl, rfl⟩, ⟨rfl, rfl, rfl⟩, _⟩ := eh
  exact ⟨q1.wr, q2.wr, q3.wr, q4.wr, hl⟩
def BkLt (v : Value) (hi : Nat) : Prop := ∀ vh vs vo vr n, v = .agg #[vh, vs, vo, vr, n] → ∀ x ∈ [vh, vs, vo, vr], ∀ q, x.ownBlock = some q → q < hi
theorem BkOwn.lt {w : World} {B : Nat} {v : Value} {b : Bk} (h : BkOwn w B v b) : BkLt v w.heap.size := by
  obtain ⟨vh, vs, vo, vr, rfl, h1, h2, h3, h4⟩ := h
  intro _ _ _ _ _ e x hx q hq
  injection e with e
  simp only [Array.mk.injEq, List.cons.injEq] at e
  obtain ⟨rfl, rfl, rfl, rfl, _⟩ := e
  simp only [List.mem_cons, List.not_mem_nil, or_false] at hx
  rcases hx with rfl | rfl | rfl | rfl
  · exact (h1.1.lt q hq).2
  · exact (h2.1.lt q hq).2
  · exact (h3.1.lt q hq).2
  · exact (h4.1.lt q hq).2
theorem BkOwn.upto {w w' : World} {B B1 : Nat} {v : Value} {b : Bk} (h : BkOwn w B v b) (hl : BkLt v B1) (hb : Below B1 w w') : BkAt w' v b := by
  obtain ⟨vh, vs, vo, vr, rfl, h1, h2, h3, h4⟩ := h
  have hl' := hl _ _ _ _ _ rfl
  exact ⟨vh, vs, vo, vr, rfl, h1.row.upto (hl' vh (by simp)) hb.size hb.block, h2.row.upto (hl' vs (by simp)) hb.size hb.block, h3.row.upto (hl' vo (by simp)) hb.size hb.block, h4.row.upto (hl' vr (by simp)) hb.size hb.block⟩

theorem setK_len {ge ne : List Int → Bool} {x : List Int} : ∀ (d : Bool) (l : List (List Int)), (setK ge ne x d l).length ≤ l.length + 1
  | d, [] => by cases d <;> simp [setK]
  | d, r :: t => by
    rw [setK]
    have h1 := setK_len (ge := ge) (ne := ne) (x := x) (d || ge r) t
    cases hd : (!d && ge r)
    · cases ne r <;> simp <;> omega
    · simp only [Bool.and_eq_true, Bool.not_eq_true'] at hd
      obtain ⟨rfl, hg⟩ := hd
      have h2 : (setK ge ne x true t).length ≤ t.length := by
        clear h1 hg
        induction t with
        | nil => simp [setK]
        | cons r t ih => rw [setK]; simp only [Bool.not_true, Bool.false_and, Bool.false_eq_true, if_false, List.nil_append, Bool.true_or]; cases ne r <;> simp <;> omega
      rw [Bool.false_or, hg] 
      cases ne r <;> simp <;> omega

end Go.Proofs.Ytfkfpppiikgjbaa
