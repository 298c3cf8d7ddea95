/- Books, plainly; book.Holder, Stake, Open, Rate. PRINTED BY genBookI.py. -/
import Derived.Test.YtfkfpppiikgjbaaBookH
namespace Go.Proofs.Ytfkfpppiikgjbaa
open Go Go.RowKit
set_option linter.unusedVariables false
set_option linter.unusedSimpArgs false

theorem place_find {α : Type} {B E : α → Bool} : ∀ {l : List α}, l.Pairwise (fun a b => (B b = true → B a = true) ∧ (E b = true → B a = true)) → (∀ r ∈ l, E r = true → B r = false) →
    ∃ p, p ≤ l.length ∧ (∀ (h : Nat) (r : α), l[h]? = some r → (B r = true ↔ h < p)) ∧ l.find? E = (l[p]?).filter E
  | [], _, _ => ⟨0, Nat.le_refl _, fun h r hr => by simp at hr, by simp⟩
  | a :: t, hp, hE => by
    rw [List.pairwise_cons] at hp
    cases hB : B a with
    | true =>
      obtain ⟨p, h1, h2, h3⟩ := place_find hp.2 (fun r hr => hE r (by simp [hr]))
      refine ⟨p + 1, by simp; omega, fun h r hr => ?_, ?_⟩
      · cases h with
        | zero => obtain rfl : a = r := by simpa using hr
                  simp [hB]
        | succ h => rw [h2 h r (by simpa using hr)]; omega
      · have hEa : E a = false := by
          cases he : E a with
          | false => rfl
          | true => have := hE a (by simp) he; rw [hB] at this; cases this
        rw [List.find?_cons_of_neg (by simp [hEa]), h3]; simp
    | false =>
      refine ⟨0, Nat.zero_le _, fun h r hr => ?_, ?_⟩
      · constructor
        · intro hb
          exfalso
          cases h with
          | zero => obtain rfl : a = r := by simpa using hr
                    rw [hB] at hb; cases hb
          | succ h => have := (hp.1 r (List.mem_of_getElem? (by simpa using hr))).1 hb; rw [hB] at this; cases this
        · intro h; omega
      · cases he : E a with
        | true => rw [List.find?_cons_of_pos he]; simp [Option.filter, he]
        | false =>
          rw [List.find?_cons_of_neg (by simp [he]), List.find?_eq_none.2 ?_]
          · simp [Option.filter, he]
          · intro b hb hEb
            have := (hp.1 b hb).2 hEb
            rw [hB] at this; cases this
def riseH (l : List (List Int)) : Prop := l.Pairwise (fun a b => a.headD 0 < b.headD 0)
def riseS (l : List (List Int)) : Prop := l.Pairwise (fun a b => stLt a (b.headD 0) (b.tail.headD 0))
def isId (id : Int) (r : List Int) : Bool := decide (r.headD 0 = id)
def isKey (kx ky : Int) (r : List Int) : Bool := decide (r.headD 0 = kx ∧ r.tail.headD 0 = ky)
theorem placeH (id : Int) {l : List (List Int)} (h : riseH l) : ∃ p, p ≤ l.length ∧ (∀ (h : Nat) (r : List Int), l[h]? = some r → (r.headD 0 < id ↔ h < p)) ∧ l.find? (isId id) = (l[p]?).filter (isId id) := by
  obtain ⟨p, h1, h2, h3⟩ := place_find (B := fun r : List Int => decide (r.headD 0 < id)) (E := isId id) (l := l)
    (h.imp fun {a b} hab => by simp only [isId, decide_eq_true_eq]; constructor <;> intro _ <;> omega) (fun r _ hr => by simp only [isId, decide_eq_true_eq] at hr; simp only [decide_eq_false_iff_not]; omega)
  exact ⟨p, h1, fun h r hr => by have := h2 h r hr; simpa using this, h3⟩
theorem placeS (kx ky : Int) {l : List (List Int)} (h : riseS l) : ∃ p, p ≤ l.length ∧ (∀ (h : Nat) (r : List Int), l[h]? = some r → (stLt r kx ky ↔ h < p)) ∧ l.find? (isKey kx ky) = (l[p]?).filter (isKey kx ky) := by
  obtain ⟨p, h1, h2, h3⟩ := place_find (B := fun r : List Int => decide (r.headD 0 < kx ∨ r.headD 0 = kx ∧ r.tail.headD 0 < ky)) (E := isKey kx ky) (l := l)
    (h.imp fun {a b} hab => by unfold stLt at hab; simp only [isKey, decide_eq_true_eq]; constructor <;> intro _ <;> omega) (fun r _ hr => by simp only [isKey, decide_eq_true_eq] at hr; simp only [decide_eq_false_iff_not]; omega)
  exact ⟨p, h1, fun h r hr => by have := h2 h r hr; unfold stLt; simpa using this, h3⟩
/-- A book. -/
structure Bk where
  h : List (List Int)
  s : List (List Int)
  o : List (List Int)
  r : List (List Int)
  n : Int
def BkAt (w : World) (v : Value) (b : Bk) : Prop := ∃ vh vs vo vr, v = .agg #[vh, vs, vo, vr, .int .i64 b.n] ∧ RowAt w vh 4 b.h ∧ RowAt w vs 3 b.s ∧ RowAt w vo 6 b.o ∧ RowAt w vr 2 b.r
theorem BkAt.call {w w' : World} {v : Value} {b : Bk} (h : BkAt w v b) (hb : Below w.heap.size w w') : BkAt w' v b := by
  obtain ⟨vh, vs, vo, vr, rfl, h1, h2, h3, h4⟩ := h
  exact ⟨vh, vs, vo, vr, rfl, h1.call hb, h2.call hb, h3.call hb, h4.call hb⟩
def Bk.Rise (b : Bk) : Prop := riseH b.h ∧ riseH b.o ∧ riseH b.r ∧ riseS b.s
def recOf (k : Nat) (o : Option (List Int)) : List Int × Bool := match o with | some r => (r, true) | none => (List.replicate k 0, false)

theorem FindHolder (v : Value) (l : List (List Int)) (id x0 x1 x2 x3 : Int) (F : Bool) (w : World) (hv : Hid (RowAt w v 4 l)) (hl : l.length ≤ 1000000) (hr : Hid (riseH l)) (hx : Hid (recOf 4 (l.find? (isId id)) = ([x0, x1, x2, x3], F))) :
    Calls Try.prog 96 #[v, .int .i64 id, .func (.func 50) #[] #[]] w fun e w' => e = .returned (.tuple #[.agg #[.int .i64 x0, .int .i64 x1, .int .i64 x2, .int .i64 x3], .bool F]) ∧ Below w.heap.size w w' := by
  obtain ⟨p, hp, hlt, hf⟩ := placeH id hr.out
  have hx := hx.out
  have hv' := Lib.hid hv.out.rec'
  rw [hf] at hx
  cases hlp : l[p]? with
  | none =>
    rw [hlp] at hx
    simp only [Option.filter, recOf, List.replicate] at hx
    injection hx with h1 h2
    injection h1 with g0 t0
    injection t0 with g1 t1
    injection t1 with g2 t2
    injection t2 with g3 t3
    subst h2 g0 g1 g2 g3
    exact FindHolder_any v l id p w hv' hl hp hlt (by show _ = _; rw [hlp])
  | some r =>
    rw [hlp] at hx
    by_cases hk : r.headD 0 = id
    · have hi : (Option.some r).filter (isId id) = some r := by simp only [Option.filter, isId, decide_eq_true hk]; rfl
      rw [hi] at hx
      simp only [recOf] at hx
      injection hx with h1 h2
      subst h2 h1
      exact FindHolder_hit v l id x0 x1 x2 x3 p w hv' hl (List.getElem?_eq_some_iff.1 hlp).1 hlt (by show _ = _; rw [hlp]; exact (decide_eq_true hk).symm) hlp
    · have hi : (Option.some r).filter (isId id) = none := by simp only [Option.filter, isId, decide_eq_false hk]; rfl
      rw [hi] at hx
      simp only [recOf, List.replicate] at hx
      injection hx with h1 h2
      injection h1 with g0 t0
      injection t0 with g1 t1
      injection t1 with g2 t2
      injection t2 with g3 t3
      subst h2 g0 g1 g2 g3
      exact FindHolder_any v l id p w hv' hl hp hlt (by show _ = _; rw [hlp]; exact (decide_eq_false hk).symm)

set_option maxRecDepth 100000 in
set_option maxHeartbeats 2000000 in
theorem Holder_any (v : Value) (b : Bk) (id x0 x1 x2 x3 : Int) (F : Bool) (w : World) (hb : Hid (BkAt w v b)) (hl : b.h.length ≤ 1000000) (hr : Hid (riseH b.h)) (hx : Hid (recOf 4 (b.h.find? (isId id)) = ([x0, x1, x2, x3], F))) :
    Calls Try.prog 44 #[v, .int .i64 id] w fun e w' => e = .returned (.tuple #[.agg #[.int .i64 x0, .int .i64 x1, .int .i64 x2, .int .i64 x3], .bool F]) ∧ Below w.heap.size w w' := by
  obtain ⟨vh, vs, vo, vr, rfl, h1, h2, h3, h4⟩ := hb.out
  have HB0 : Hid (Below w.heap.size w ((w.alloc (.cells #[vh, vs, vo, vr, .int .i64 b.n] 37)).alloc (.cells #[.int .i64 0, .int .i64 0, .int .i64 0, .int .i64 0] 39))) := below_alloc (below_alloc (Below.refl _ _) (Nat.le_refl _) _) (by first | (simp; done) | (simp; omega)) _
  have q := Lib.hid (FindHolder vh b.h id x0 x1 x2 x3 F ((w.alloc (.cells #[vh, vs, vo, vr, .int .i64 b.n] 37)).alloc (.cells #[.int .i64 0, .int .i64 0, .int .i64 0, .int .i64 0] 39)) (h1.call HB0.out) hl hr hx)
  clear hb h1 h2 h3 h4 hx
  have HN := Lib.hid (heap_new (w.alloc (.cells #[vh, vs, vo, vr, .int .i64 b.n] 37)) (.cells #[.int .i64 0, .int .i64 0, .int .i64 0, .int .i64 0] 39))
  have c := cells_of_blk (blk_old (heap_new w (.cells #[vh, vs, vo, vr, .int .i64 b.n] 37)) (.cells #[.int .i64 0, .int .i64 0, .int .i64 0, .int .i64 0] 39)) 0 _ rfl
  go_enter Try.func44, Try.ntmps44
  go_wp2_with fail
  with_reducible refine q.out.mono ?_
  rintro e w2 ⟨rfl, hb⟩
  have k1 : w2.heap[w.heap.size + 1]? = some (.cells #[.int .i64 0, .int .i64 0, .int .i64 0, .int .i64 0] 39 (0, 0)) := by have := blk_call HN.out hb; simpa using this
  have HB : Hid (Below w.heap.size w w2) := HB0.out.trans (hb.mono (by first | (simp; done) | (simp; omega)))
  have d0 := cells_of_blk k1 0 _ rfl
  have d1 := cells_of_blk k1 1 _ rfl
  have d2 := cells_of_blk k1 2 _ rfl
  have d3 := cells_of_blk k1 3 _ rfl
  have f0 := free_of_blk k1 0
  have f1 := free_of_blk k1 1
  have f2 := free_of_blk k1 2
  have f3 := free_of_blk k1 3
  clear k1 hb
  go_wp2_with fail
  refine bodyPost_ret (v := .tuple #[.agg #[.int .i64 x0, .int .i64 x1, .int .i64 x2, .int .i64 x3], .bool F]) ?_ rfl ⟨rfl, ?_⟩
  · rw [results_cell_tmp rfl]; go_simp
  · exact Below.setCell (Below.setCell (Below.setCell (Below.setCell (HB.out) (by first | exact Nat.le_refl _ | (simp; done) | omega) _) (by first | exact Nat.le_refl _ | (simp; done) | omega) _) (by first | exact Nat.le_refl _ | (simp; done) | omega) _) (by first | exact Nat.le_refl _ | (simp; done) | omega) _

set_option maxRecDepth 100000 in
set_option maxHeartbeats 2000000 in
theorem FindStake_any (v : Value) (l : List (List Int)) (kx ky : Int) (p : Nat) (w : World) (hv : Hid (RecAt w v 3 l)) (hl : l.length ≤ 1000000) (hp : p ≤ l.length) (hlt : Hid (∀ (h : Nat) (r : List Int), l[h]? = some r → (stLt r kx ky ↔ h < p))) (hF : Hid (false = match l[p]? with | some r => decide (r.headD 0 = kx ∧ r.tail.headD 0 = ky) | none => false)) :
    Calls Try.prog 135 #[v, .agg #[.int .i64 kx, .int .i64 ky], .func (.func 53) #[] #[]] w fun e w' => e = .returned (.tuple #[.agg #[.int .i64 0, .int .i64 0, .int .i64 0], .bool false]) ∧ Below w.heap.size w w' := by
  have q := Lib.hid (fun w hv => SearchStake_any v l kx ky p false w hv hl hp hlt hF)
  have HB0 : Hid (Below w.heap.size w ((w.alloc (.cells #[.int .i64 kx, .int .i64 ky] 80)).alloc (.cells #[.int .i64 0, .int .i64 0, .int .i64 0] 41))) := below_alloc (below_alloc (Below.refl _ _) (Nat.le_refl _) _) (by first | (simp; done) | (simp; omega)) _
  have hv1 := Lib.hid (hv.out.call HB0.out)
  have HN := Lib.hid (heap_new (w.alloc (.cells #[.int .i64 kx, .int .i64 ky] 80)) (.cells #[.int .i64 0, .int .i64 0, .int .i64 0] 41))
  have kc0 := cells_of_blk (blk_old (heap_new w (.cells #[.int .i64 kx, .int .i64 ky] 80)) (.cells #[.int .i64 0, .int .i64 0, .int .i64 0] 41)) 0 _ rfl
  have kc1 := cells_of_blk (blk_old (heap_new w (.cells #[.int .i64 kx, .int .i64 ky] 80)) (.cells #[.int .i64 0, .int .i64 0, .int .i64 0] 41)) 1 _ rfl
  go_enter Try.func135, Try.ntmps135
  go_wp2_with fail
  with_reducible refine (q.out _ hv1).mono ?_
  rintro e w2 ⟨rfl, hb⟩
  have k0 : w2.heap[w.heap.size + 1]? = some (.cells #[.int .i64 0, .int .i64 0, .int .i64 0] 41 (0, 0)) := by have := blk_call HN.out hb; simpa using this
  have hs : w.heap.size + 2 ≤ w2.heap.size := by have := hb.size; simpa using this
  have k1 : (w2.alloc (.cells #[.int .i64 0, .int .i64 0, .int .i64 0] 41)).heap[w.heap.size + 1]? = some (.cells #[.int .i64 0, .int .i64 0, .int .i64 0] 41 (0, 0)) := blk_old k0 _
  have k2 : (w2.alloc (.cells #[.int .i64 0, .int .i64 0, .int .i64 0] 41)).heap[w2.heap.size]? = some (.cells #[.int .i64 0, .int .i64 0, .int .i64 0] 41 (0, 0)) := heap_new w2 _
  have hB3 : Hid (Below w.heap.size w (w2.alloc (.cells #[.int .i64 0, .int .i64 0, .int .i64 0] 41))) := below_alloc (HB0.out.trans (hb.mono (by first | (simp; done) | (simp; omega)))) (by omega) _
  have c0 := cells_of_blk k2 0 _ rfl
  have c1 := cells_of_blk k2 1 _ rfl
  have c2 := cells_of_blk k2 2 _ rfl
  have d0 := cells_of_blk k1 0 _ rfl
  have d1 := cells_of_blk k1 1 _ rfl
  have d2 := cells_of_blk k1 2 _ rfl
  have f0 := free_of_blk k1 0
  have f1 := free_of_blk k1 1
  have f2 := free_of_blk k1 2
  clear k0 k1 k2 hb
  go_wp2_with fail
  refine bodyPost_ret (v := .tuple #[.agg #[.int .i64 0, .int .i64 0, .int .i64 0], .bool false]) ?_ rfl ⟨rfl, ?_⟩
  · rw [results_cell_tmp rfl]; go_simp
  · exact Below.setCell (Below.setCell (Below.setCell (hB3.out) (by first | exact Nat.le_refl _ | (simp; done) | omega) _) (by first | exact Nat.le_refl _ | (simp; done) | omega) _) (by first | exact Nat.le_refl _ | (simp; done) | omega) _

set_option maxRecDepth 100000 in
set_option maxHeartbeats 2000000 in
theorem FindStake_hit (v : Value) (l : List (List Int)) (kx ky x0 x1 x2 : Int) (p : Nat) (w : World) (hv : Hid (RecAt w v 3 l)) (hl : l.length ≤ 1000000) (hp : p < l.length) (hlt : Hid (∀ (h : Nat) (r : List Int), l[h]? = some r → (stLt r kx ky ↔ h < p))) (hF : Hid (true = match l[p]? with | some r => decide (r.headD 0 = kx ∧ r.tail.headD 0 = ky) | none => false)) (hr : Hid (l[p]? = some [x0, x1, x2])) :
    Calls Try.prog 135 #[v, .agg #[.int .i64 kx, .int .i64 ky], .func (.func 53) #[] #[]] w fun e w' => e = .returned (.tuple #[.agg #[.int .i64 x0, .int .i64 x1, .int .i64 x2], .bool true]) ∧ Below w.heap.size w w' := by
  have q := Lib.hid (fun w hv => SearchStake_any v l kx ky p true w hv hl (by omega) hlt hF)
  have HB0 : Hid (Below w.heap.size w ((w.alloc (.cells #[.int .i64 kx, .int .i64 ky] 80)).alloc (.cells #[.int .i64 0, .int .i64 0, .int .i64 0] 41))) := below_alloc (below_alloc (Below.refl _ _) (Nat.le_refl _) _) (by first | (simp; done) | (simp; omega)) _
  have hv1 := Lib.hid (hv.out.call HB0.out)
  have HN := Lib.hid (heap_new (w.alloc (.cells #[.int .i64 kx, .int .i64 ky] 80)) (.cells #[.int .i64 0, .int .i64 0, .int .i64 0] 41))
  have kc0 := cells_of_blk (blk_old (heap_new w (.cells #[.int .i64 kx, .int .i64 ky] 80)) (.cells #[.int .i64 0, .int .i64 0, .int .i64 0] 41)) 0 _ rfl
  have kc1 := cells_of_blk (blk_old (heap_new w (.cells #[.int .i64 kx, .int .i64 ky] 80)) (.cells #[.int .i64 0, .int .i64 0, .int .i64 0] 41)) 1 _ rfl
  obtain ⟨A, c, rfl, hci⟩ := hv.out
  obtain ⟨_, b0, o0, rfl, hbl, hc⟩ := hci p _ hr.out
  have e0 := Lib.hid (hc 0 _ rfl)
  have e1 := Lib.hid (hc 1 _ rfl)
  have e2 := Lib.hid (hc 2 _ rfl)
  clear hci hc
  go_enter Try.func135, Try.ntmps135
  go_wp2_with fail
  with_reducible refine (q.out _ hv1).mono ?_
  rintro e w2 ⟨rfl, hb⟩
  have k1 : w2.heap[w.heap.size + 1]? = some (.cells #[.int .i64 0, .int .i64 0, .int .i64 0] 41 (0, 0)) := by have := blk_call HN.out hb; simpa using this
  have hB : Below w.heap.size w w2 := HB0.out.trans (hb.mono (by first | (simp; done) | (simp; omega)))
  have HB := Lib.hid hB
  have c0 := (hB.cell (p := ⟨b0, o0 + p * 3, none⟩) hbl).trans e0.out
  have c1 := (hB.cell (p := ⟨b0, o0 + p * 3 + 1, none⟩) hbl).trans e1.out
  have c2 := (hB.cell (p := ⟨b0, o0 + p * 3 + 2, none⟩) hbl).trans e2.out
  have d0 := cells_of_blk k1 0 _ rfl
  have d1 := cells_of_blk k1 1 _ rfl
  have d2 := cells_of_blk k1 2 _ rfl
  have f0 := free_of_blk k1 0
  have f1 := free_of_blk k1 1
  have f2 := free_of_blk k1 2
  clear k1 hb hB
  go_wp2_with fail
  refine bodyPost_ret (v := .tuple #[.agg #[.int .i64 x0, .int .i64 x1, .int .i64 x2], .bool true]) ?_ rfl ⟨rfl, ?_⟩
  · rw [results_cell_tmp rfl]; go_simp
  · exact Below.setCell (Below.setCell (Below.setCell (HB.out) (by first | exact Nat.le_refl _ | (simp; done) | omega) _) (by first | exact Nat.le_refl _ | (simp; done) | omega) _) (by first | exact Nat.le_refl _ | (simp; done) | omega) _

theorem FindStake (v : Value) (l : List (List Int)) (kx ky x0 x1 x2 : Int) (F : Bool) (w : World) (hv : Hid (RowAt w v 3 l)) (hl : l.length ≤ 1000000) (hr : Hid (riseS l)) (hx : Hid (recOf 3 (l.find? (isKey kx ky)) = ([x0, x1, x2], F))) :
    Calls Try.prog 135 #[v, .agg #[.int .i64 kx, .int .i64 ky], .func (.func 53) #[] #[]] w fun e w' => e = .returned (.tuple #[.agg #[.int .i64 x0, .int .i64 x1, .int .i64 x2], .bool F]) ∧ Below w.heap.size w w' := by
  obtain ⟨p, hp, hlt, hf⟩ := placeS kx ky hr.out
  have hx := hx.out
  have hv' := Lib.hid hv.out.rec'
  rw [hf] at hx
  cases hlp : l[p]? with
  | none =>
    rw [hlp] at hx
    simp only [Option.filter, recOf, List.replicate] at hx
    injection hx with h1 h2
    injection h1 with g0 t0
    injection t0 with g1 t1
    injection t1 with g2 t2
    subst h2 g0 g1 g2
    exact FindStake_any v l kx ky p w hv' hl hp hlt (by show _ = _; rw [hlp])
  | some r =>
    rw [hlp] at hx
    by_cases hk : r.headD 0 = kx ∧ r.tail.headD 0 = ky
    · have hi : (Option.some r).filter (isKey kx ky) = some r := by simp only [Option.filter, isKey, decide_eq_true hk]; rfl
      rw [hi] at hx
      simp only [recOf] at hx
      injection hx with h1 h2
      subst h2 h1
      exact FindStake_hit v l kx ky x0 x1 x2 p w hv' hl (List.getElem?_eq_some_iff.1 hlp).1 hlt (by show _ = _; rw [hlp]; exact (decide_eq_true hk).symm) hlp
    · have hi : (Option.some r).filter (isKey kx ky) = none := by simp only [Option.filter, isKey, decide_eq_false hk]; rfl
      rw [hi] at hx
      simp only [recOf, List.replicate] at hx
      injection hx with h1 h2
      injection h1 with g0 t0
      injection t0 with g1 t1
      injection t1 with g2 t2
      subst h2 g0 g1 g2
      exact FindStake_any v l kx ky p w hv' hl hp hlt (by show _ = _; rw [hlp]; exact (decide_eq_false hk).symm)

set_option maxRecDepth 100000 in
set_option maxHeartbeats 2000000 in
theorem Stake_any (v : Value) (b : Bk) (kx ky x0 x1 x2 : Int) (F : Bool) (w : World) (hb : Hid (BkAt w v b)) (hl : b.s.length ≤ 1000000) (hr : Hid (riseS b.s)) (hx : Hid (recOf 3 (b.s.find? (isKey kx ky)) = ([x0, x1, x2], F))) :
    Calls Try.prog 88 #[v, .int .i64 kx, .int .i64 ky] w fun e w' => e = .returned (.int .i64 x2) ∧ Below w.heap.size w w' := by
  obtain ⟨vh, vs, vo, vr, rfl, h1, h2, h3, h4⟩ := hb.out
  have HB0 : Hid (Below w.heap.size w (w.alloc (.cells #[vh, vs, vo, vr, .int .i64 b.n] 37))) := below_alloc (Below.refl _ _) (Nat.le_refl _) _
  have q := Lib.hid (FindStake vs b.s kx ky x0 x1 x2 F (w.alloc (.cells #[vh, vs, vo, vr, .int .i64 b.n] 37)) (h2.call HB0.out) hl hr hx)
  clear hb h1 h2 h3 h4 hx
  have c := cells_of_blk (heap_new w (.cells #[vh, vs, vo, vr, .int .i64 b.n] 37)) 1 _ rfl
  go_enter Try.func88, Try.ntmps88
  go_wp2_with fail
  with_reducible refine q.out.mono ?_
  rintro e w2 ⟨rfl, hb⟩
  have k1 := heap_new w2 (.cells #[.int .i64 x0, .int .i64 x1, .int .i64 x2] 41)
  have HB : Hid (Below w.heap.size w (w2.alloc (.cells #[.int .i64 x0, .int .i64 x1, .int .i64 x2] 41))) := below_alloc (HB0.out.trans (hb.mono (by first | (simp; done) | (simp; omega)))) (by have := hb.size; simp at this; omega) _
  have c2 := cells_of_blk k1 2 _ rfl
  clear k1 hb
  go_wp2_with fail
  go_ret
  exact ⟨rfl, HB.out⟩

set_option maxRecDepth 100000 in
set_option maxHeartbeats 2000000 in
theorem FindRate_any (v : Value) (l : List (List Int)) (id : Int) (p : Nat) (w : World) (hv : Hid (RecAt w v 2 l)) (hl : l.length ≤ 1000000) (hp : p ≤ l.length) (hlt : Hid (∀ (h : Nat) (r : List Int), l[h]? = some r → (r.headD 0 < id ↔ h < p))) (hF : Hid (false = match l[p]? with | some r => decide (r.headD 0 = id) | none => false)) :
    Calls Try.prog 118 #[v, .int .i64 id, .func (.func 57) #[] #[]] w fun e w' => e = .returned (.tuple #[.agg #[.int .i64 0, .int .i64 0], .bool false]) ∧ Below w.heap.size w w' := by
  have q := Lib.hid (fun w hv => SearchRate_any v l id p false w hv hl hp hlt hF)
  have HB0 : Hid (Below w.heap.size w (w.alloc (.cells #[.int .i64 0, .int .i64 0] 45))) := below_alloc (Below.refl _ _) (Nat.le_refl _) _
  have hv1 := Lib.hid (hv.out.call HB0.out)
  have HN := Lib.hid (heap_new w (.cells #[.int .i64 0, .int .i64 0] 45))
  go_enter Try.func118, Try.ntmps118
  go_wp2_with fail
  with_reducible refine (q.out _ hv1).mono ?_
  rintro e w2 ⟨rfl, hb⟩
  have k0 : w2.heap[w.heap.size]? = some (.cells #[.int .i64 0, .int .i64 0] 45 (0, 0)) := by have := blk_call HN.out hb; simpa using this
  have hs : w.heap.size + 1 ≤ w2.heap.size := by have := hb.size; simpa using this
  have k1 : (w2.alloc (.cells #[.int .i64 0, .int .i64 0] 45)).heap[w.heap.size]? = some (.cells #[.int .i64 0, .int .i64 0] 45 (0, 0)) := blk_old k0 _
  have k2 : (w2.alloc (.cells #[.int .i64 0, .int .i64 0] 45)).heap[w2.heap.size]? = some (.cells #[.int .i64 0, .int .i64 0] 45 (0, 0)) := heap_new w2 _
  have hB3 : Hid (Below w.heap.size w (w2.alloc (.cells #[.int .i64 0, .int .i64 0] 45))) := below_alloc (HB0.out.trans (hb.mono (by first | (simp; done) | (simp; omega)))) (by omega) _
  have c0 := cells_of_blk k2 0 _ rfl
  have c1 := cells_of_blk k2 1 _ rfl
  have d0 := cells_of_blk k1 0 _ rfl
  have d1 := cells_of_blk k1 1 _ rfl
  have f0 := free_of_blk k1 0
  have f1 := free_of_blk k1 1
  clear k0 k1 k2 hb
  go_wp2_with fail
  refine bodyPost_ret (v := .tuple #[.agg #[.int .i64 0, .int .i64 0], .bool false]) ?_ rfl ⟨rfl, ?_⟩
  · rw [results_cell_tmp rfl]; go_simp
  · exact Below.setCell (Below.setCell (hB3.out) (by first | exact Nat.le_refl _ | (simp; done) | omega) _) (by first | exact Nat.le_refl _ | (simp; done) | omega) _

set_option maxRecDepth 100000 in
set_option maxHeartbeats 2000000 in
theorem FindRate_hit (v : Value) (l : List (List Int)) (id x0 x1 : Int) (p : Nat) (w : World) (hv : Hid (RecAt w v 2 l)) (hl : l.length ≤ 1000000) (hp : p < l.length) (hlt : Hid (∀ (h : Nat) (r : List Int), l[h]? = some r → (r.headD 0 < id ↔ h < p))) (hF : Hid (true = match l[p]? with | some r => decide (r.headD 0 = id) | none => false)) (hr : Hid (l[p]? = some [x0, x1])) :
    Calls Try.prog 118 #[v, .int .i64 id, .func (.func 57) #[] #[]] w fun e w' => e = .returned (.tuple #[.agg #[.int .i64 x0, .int .i64 x1], .bool true]) ∧ Below w.heap.size w w' := by
  have q := Lib.hid (fun w hv => SearchRate_any v l id p true w hv hl (by omega) hlt hF)
  have HB0 : Hid (Below w.heap.size w (w.alloc (.cells #[.int .i64 0, .int .i64 0] 45))) := below_alloc (Below.refl _ _) (Nat.le_refl _) _
  have hv1 := Lib.hid (hv.out.call HB0.out)
  have HN := Lib.hid (heap_new w (.cells #[.int .i64 0, .int .i64 0] 45))
  obtain ⟨A, c, rfl, hci⟩ := hv.out
  obtain ⟨_, b0, o0, rfl, hbl, hc⟩ := hci p _ hr.out
  have e0 := Lib.hid (hc 0 _ rfl)
  have e1 := Lib.hid (hc 1 _ rfl)
  clear hci hc
  go_enter Try.func118, Try.ntmps118
  go_wp2_with fail
  with_reducible refine (q.out _ hv1).mono ?_
  rintro e w2 ⟨rfl, hb⟩
  have k1 : w2.heap[w.heap.size]? = some (.cells #[.int .i64 0, .int .i64 0] 45 (0, 0)) := by have := blk_call HN.out hb; simpa using this
  have hB : Below w.heap.size w w2 := HB0.out.trans (hb.mono (by first | (simp; done) | (simp; omega)))
  have HB := Lib.hid hB
  have c0 := (hB.cell (p := ⟨b0, o0 + p * 2, none⟩) hbl).trans e0.out
  have c1 := (hB.cell (p := ⟨b0, o0 + p * 2 + 1, none⟩) hbl).trans e1.out
  have d0 := cells_of_blk k1 0 _ rfl
  have d1 := cells_of_blk k1 1 _ rfl
  have f0 := free_of_blk k1 0
  have f1 := free_of_blk k1 1
  clear k1 hb hB
  go_wp2_with fail
  refine bodyPost_ret (v := .tuple #[.agg #[.int .i64 x0, .int .i64 x1], .bool true]) ?_ rfl ⟨rfl, ?_⟩
  · rw [results_cell_tmp rfl]; go_simp
  · exact Below.setCell (Below.setCell (HB.out) (by first | exact Nat.le_refl _ | (simp; done) | omega) _) (by first | exact Nat.le_refl _ | (simp; done) | omega) _

theorem FindRate (v : Value) (l : List (List Int)) (id x0 x1 : Int) (F : Bool) (w : World) (hv : Hid (RowAt w v 2 l)) (hl : l.length ≤ 1000000) (hr : Hid (riseH l)) (hx : Hid (recOf 2 (l.find? (isId id)) = ([x0, x1], F))) :
    Calls Try.prog 118 #[v, .int .i64 id, .func (.func 57) #[] #[]] w fun e w' => e = .returned (.tuple #[.agg #[.int .i64 x0, .int .i64 x1], .bool F]) ∧ Below w.heap.size w w' := by
  obtain ⟨p, hp, hlt, hf⟩ := placeH id hr.out
  have hx := hx.out
  have hv' := Lib.hid hv.out.rec'
  rw [hf] at hx
  cases hlp : l[p]? with
  | none =>
    rw [hlp] at hx
    simp only [Option.filter, recOf, List.replicate] at hx
    injection hx with h1 h2
    injection h1 with g0 t0
    injection t0 with g1 t1
    subst h2 g0 g1
    exact FindRate_any v l id p w hv' hl hp hlt (by show _ = _; rw [hlp])
  | some r =>
    rw [hlp] at hx
    by_cases hk : r.headD 0 = id
    · have hi : (Option.some r).filter (isId id) = some r := by simp only [Option.filter, isId, decide_eq_true hk]; rfl
      rw [hi] at hx
      simp only [recOf] at hx
      injection hx with h1 h2
      subst h2 h1
      exact FindRate_hit v l id x0 x1 p w hv' hl (List.getElem?_eq_some_iff.1 hlp).1 hlt (by show _ = _; rw [hlp]; exact (decide_eq_true hk).symm) hlp
    · have hi : (Option.some r).filter (isId id) = none := by simp only [Option.filter, isId, decide_eq_false hk]; rfl
      rw [hi] at hx
      simp only [recOf, List.replicate] at hx
      injection hx with h1 h2
      injection h1 with g0 t0
      injection t0 with g1 t1
      subst h2 g0 g1
      exact FindRate_any v l id p w hv' hl hp hlt (by show _ = _; rw [hlp]; exact (decide_eq_false hk).symm)

set_option maxRecDepth 100000 in
set_option maxHeartbeats 2000000 in
theorem Rate_any (v : Value) (b : Bk) (id x0 x1 : Int) (F : Bool) (w : World) (hb : Hid (BkAt w v b)) (hl : b.r.length ≤ 1000000) (hr : Hid (riseH b.r)) (hx : Hid (recOf 2 (b.r.find? (isId id)) = ([x0, x1], F))) :
    Calls Try.prog 60 #[v, .int .i64 id] w fun e w' => e = .returned (.tuple #[.int .i64 x1, .bool F]) ∧ Below w.heap.size w w' := by
  obtain ⟨vh, vs, vo, vr, rfl, h1, h2, h3, h4⟩ := hb.out
  have HB0 : Hid (Below w.heap.size w (w.alloc (.cells #[vh, vs, vo, vr, .int .i64 b.n] 37))) := below_alloc (Below.refl _ _) (Nat.le_refl _) _
  have q := Lib.hid (FindRate vr b.r id x0 x1 F (w.alloc (.cells #[vh, vs, vo, vr, .int .i64 b.n] 37)) (h4.call HB0.out) hl hr hx)
  clear hb h1 h2 h3 h4 hx
  have c := cells_of_blk (heap_new w (.cells #[vh, vs, vo, vr, .int .i64 b.n] 37)) 3 _ rfl
  go_enter Try.func60, Try.ntmps60
  go_wp2_with fail
  with_reducible refine q.out.mono ?_
  rintro e w2 ⟨rfl, hb⟩
  have k1 := heap_new w2 (.cells #[.int .i64 x0, .int .i64 x1] 45)
  have HB : Hid (Below w.heap.size w (w2.alloc (.cells #[.int .i64 x0, .int .i64 x1] 45))) := below_alloc (HB0.out.trans (hb.mono (by first | (simp; done) | (simp; omega)))) (by have := hb.size; simp at this; omega) _
  have c2 := cells_of_blk k1 1 _ rfl
  clear k1 hb
  go_wp2_with fail
  go_ret2
  exact ⟨rfl, HB.out⟩

end Go.Proofs.Ytfkfpppiikgjbaa
