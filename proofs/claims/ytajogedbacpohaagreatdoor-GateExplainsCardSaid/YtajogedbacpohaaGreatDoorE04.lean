/- Part 5 of what the claim rests on. -/
import Derived.Test.YtajogedbacpohaaGreatDoorE00
import Derived.Test.YtajogedbacpohaaGreatDoorE03
set_option linter.unusedVariables false
set_option linter.unusedSimpArgs false
set_option maxRecDepth 1000000
set_option maxHeartbeats 32000000
namespace Go.Proofs.YtajogedbacpohaaGreatDoor
section
open Go Go.RowKit
theorem zz4g {α : Type} {B E : α → Bool} : ∀ {l : List α}, l.Pairwise (fun a b => (B b = true → B a = true) ∧ (E b = true → B a = true)) → (∀ r ∈ l, E r = true → B r = false) →
  ∃ p, p ≤ l.length ∧ (∀ (h : Nat) (r : α), l[h]? = some r → (B r = true ↔ h < p)) ∧ l.find? E = (l[p]?).filter E
 | [], _, _ => ⟨0, Nat.le_refl _, fun h r hr => by simp at hr, by simp⟩
 | a :: t, hp, hE => by
  rw [List.pairwise_cons] at hp;cases hB : B a with
  | true =>
   obtain ⟨p, h1, h2, h3⟩ := zz4g hp.2 (fun r hr => hE r (by simp [hr]))
   refine ⟨p + 1, by simp; omega, fun h r hr => ?_, ?_⟩
   ·cases h with
    | zero => obtain rfl : a = r := by simpa using hr
              simp [hB]
    | succ h => rw [h2 h r (by simpa using hr)]; omega
   ·have hEa : E a = false := by
     cases he : E a with
     | false => rfl
     | true => have := hE a (by simp) he; rw [hB] at this; cases this
    rw [List.find?_cons_of_neg (by simp [hEa]), h3]; simp
  | false =>
   refine ⟨0, Nat.zero_le _, fun h r hr => ?_, ?_⟩
   ·constructor
    ·intro hb
     exfalso
     cases h with
     | zero => obtain rfl : a = r := by simpa using hr
               rw [hB] at hb; cases hb
     | succ h => have := (hp.1 r (List.mem_of_getElem? (by simpa using hr))).1 hb; rw [hB] at this; cases this
    ·intro h; omega
   ·cases he : E a with
    | true => rw [List.find?_cons_of_pos he]; simp [Option.filter, he]
    | false =>
     rw [List.find?_cons_of_neg (by simp [he]), List.find?_eq_none.2 ?_]
     ·simp [Option.filter, he]
     ·intro b hb hEb
      have := (hp.1 b hb).2 hEb;rw [hB] at this; cases this
def riseH (l : List (List Int)) : Prop := l.Pairwise (fun a b => a.headD 0 < b.headD 0)
def riseS (l : List (List Int)) : Prop := l.Pairwise (fun a b => stLt a (b.headD 0) (b.tail.headD 0))
def isId (id : Int) (r : List Int) : Bool := decide (r.headD 0 = id)
def isKey (kx ky : Int) (r : List Int) : Bool := decide (r.headD 0 = kx ∧ r.tail.headD 0 = ky)
theorem placeH (id : Int) {l : List (List Int)} (h : riseH l) : ∃ p, p ≤ l.length ∧ (∀ (h : Nat) (r : List Int), l[h]? = some r → (r.headD 0 < id ↔ h < p)) ∧ l.find? (isId id) = (l[p]?).filter (isId id) := by
 obtain ⟨p, h1, h2, h3⟩ := zz4g (B := fun r : List Int => decide (r.headD 0 < id)) (E := isId id) (l := l)
  (h.imp fun {a b} hab => by simp only [isId, decide_eq_true_eq]; constructor <;> intro _ <;> omega) (fun r _ hr => by simp only [isId, decide_eq_true_eq] at hr; simp only [decide_eq_false_iff_not]; omega)
 exact ⟨p, h1, fun h r hr => by have := h2 h r hr; simpa using this, h3⟩
theorem placeS (kx ky : Int) {l : List (List Int)} (h : riseS l) : ∃ p, p ≤ l.length ∧ (∀ (h : Nat) (r : List Int), l[h]? = some r → (stLt r kx ky ↔ h < p)) ∧ l.find? (isKey kx ky) = (l[p]?).filter (isKey kx ky) := by
 obtain ⟨p, h1, h2, h3⟩ := zz4g (B := fun r : List Int => decide (r.headD 0 < kx ∨ r.headD 0 = kx ∧ r.tail.headD 0 < ky)) (E := isKey kx ky) (l := l)
  (h.imp fun {a b} hab => by unfold stLt at hab; simp only [isKey, decide_eq_true_eq]; constructor <;> intro _ <;> omega) (fun r _ hr => by simp only [isKey, decide_eq_true_eq] at hr; simp only [decide_eq_false_iff_not]; omega)
 exact ⟨p, h1, fun h r hr => by have := h2 h r hr; unfold stLt; simpa using this, h3⟩
structure Bk where
 h : List (List Int)
 s : List (List Int)
 o : List (List Int)
 r : List (List Int)
 n : Int
def BF (_ : Option Addr) (_ : Nat) (_ : Option Addr) (_ : Nat) (_ : Option Addr) (_ : Nat) (_ : Option Addr) (_ : Nat) (_ : Bk) (_ : Int) : Unit := ()
instance (A : Option Addr) (a : Nat) (B : Option Addr) (b : Nat) (C : Option Addr) (c : Nat) (D : Option Addr) (d : Nat) (k : Bk) (n : Int) : CoeDep Unit (BF A a B b C c D d k n) (List Value) := ⟨[.slice A k.h.length a, .slice B k.s.length b, .slice C k.o.length c, .slice D k.r.length d, .int .i64 n]⟩
instance (A : Option Addr) (a : Nat) (B : Option Addr) (b : Nat) (C : Option Addr) (c : Nat) (D : Option Addr) (d : Nat) (k : Bk) (n : Int) : CoeDep Unit (BF A a B b C c D d k n) (Array Value) := ⟨#[.slice A k.h.length a, .slice B k.s.length b, .slice C k.o.length c, .slice D k.r.length d, .int .i64 n]⟩
def BkAt (w : World) (v : Value) (b : Bk) : Prop := ∃ vh vs vo vr, v = .agg #[vh, vs, vo, vr, b.n] ∧ RowAt w vh 4 b.h ∧ RowAt w vs 3 b.s ∧ RowAt w vo 6 b.o ∧ RowAt w vr 2 b.r
theorem BkAt.call {w w' : World} {v : Value} {b : Bk} (h : BkAt w v b) (hb : Below w.heap.size w w') : BkAt w' v b := by
 obtain ⟨vh, vs, vo, vr, rfl, h1, h2, h3, h4⟩ := h;exact ⟨vh, vs, vo, vr, rfl, h1.call hb, h2.call hb, h3.call hb, h4.call hb⟩
def Bk.Rise (b : Bk) : Prop := riseH b.h ∧ riseH b.o ∧ riseH b.r ∧ riseS b.s
def recOf (k : Nat) (o : Option (List Int)) : List Int × Bool := match o with | some r => (r, true) | none => (List.replicate k 0, false)
theorem FindHolder (v : Value) (l : List (List Int)) (id x0 x1 x2 x3 : Int) (F : Bool) (w : World) (hv : Hid (RowAt w v 4 l)) (hl : l.length ≤ 1000000) (hr : Hid (riseH l)) (hx : Hid (recOf 4 (l.find? (isId id)) = ([x0, x1, x2, x3], F))) :
  Calls Tryz.prog 135 #[v, .int .i64 id, .func (.func 125) #[] #[]] w fun e w' => e = .returned (.tuple #[.agg #[x0, x1, x2, x3], .bool F]) ∧ Below w.heap.size w w' := by
 obtain ⟨p, hp, hlt, hf⟩ := placeH id hr.out;have hx := hx.out;have hv' := zH hv.out.rec';rw [hf] at hx;cases hlp : l[p]? with
 | none =>
  rw [hlp] at hx;simp only [Option.filter, recOf, List.replicate] at hx;injection hx with h1 h2
  injection h1 with g0 t0
  injection t0 with g1 t1
  injection t1 with g2 t2
  injection t2 with g3 t3
  subst h2 g0 g1 g2 g3;exact zz34 v l id p w hv' hl hp hlt (by show _ = _; rw [hlp])
 | some r =>
  rw [hlp] at hx;by_cases hk : r.headD 0 = id
  ·have hi : (Option.some r).filter (isId id) = some r := by simp only [Option.filter, isId, decide_eq_true hk]; rfl
   rw [hi] at hx;simp only [recOf] at hx;injection hx with h1 h2
   subst h2 h1;exact zz6b v l id x0 x1 x2 x3 p w hv' hl (List.getElem?_eq_some_iff.1 hlp).1 hlt (by show _ = _; rw [hlp]; exact (decide_eq_true hk).symm) hlp
  ·have hi : (Option.some r).filter (isId id) = none := by simp only [Option.filter, isId, decide_eq_false hk]; rfl
   rw [hi] at hx;simp only [recOf, List.replicate] at hx;injection hx with h1 h2
   injection h1 with g0 t0
   injection t0 with g1 t1
   injection t1 with g2 t2
   injection t2 with g3 t3
   subst h2 g0 g1 g2 g3;exact zz34 v l id p w hv' hl hp hlt (by show _ = _; rw [hlp]; exact (decide_eq_false hk).symm)
theorem zz2e (v : Value) (b : Bk) (id x0 x1 x2 x3 : Int) (F : Bool) (w : World) (hb : Hid (BkAt w v b)) (hl : b.h.length ≤ 1000000) (hr : Hid (riseH b.h)) (hx : Hid (recOf 4 (b.h.find? (isId id)) = ([x0, x1, x2, x3], F))) :
  Calls Tryz.prog 63 #[v, .int .i64 id] w fun e w' => e = .returned (.tuple #[.agg #[x0, x1, x2, x3], .bool F]) ∧ Below w.heap.size w w' := by
 obtain ⟨vh, vs, vo, vr, rfl, h1, h2, h3, h4⟩ := hb.out;have HB0 : Hid (Below w.heap.size w ((w.alloc (.cells #[vh, vs, vo, vr, b.n] 27)).alloc (.cells #[.int .i64 0, .int .i64 0, .int .i64 0, .int .i64 0] 78))) := zz01 zBa zo _;have q := zH (FindHolder vh b.h id x0 x1 x2 x3 F ((w.alloc (.cells #[vh, vs, vo, vr, b.n] 27)).alloc (.cells #[.int .i64 0, .int .i64 0, .int .i64 0, .int .i64 0] 78)) (h1.call HB0.out) hl hr hx);clear hb h1 h2 h3 h4 hx;have HN := zH (zz02 (w.alloc (.cells #[vh, vs, vo, vr, b.n] 27)) (.cells #[.int .i64 0, .int .i64 0, .int .i64 0, .int .i64 0] 78));have c := zz00 (zz04 (zz02 w (.cells #[vh, vs, vo, vr, b.n] 27)) (.cells #[.int .i64 0, .int .i64 0, .int .i64 0, .int .i64 0] 78)) 0 _ rfl;go_in;go_wp2_with fail;(with_reducible refine q.out.mono ?_);rintro e w2 ⟨rfl, hb⟩;have k1 : w2.heap[w.heap.size + 1]? = some (.cells #[.int .i64 0, .int .i64 0, .int .i64 0, .int .i64 0] 78 (0, 0)) := by have := zz06 HN.out hb; simpa using this
 have HB : Hid (Below w.heap.size w w2) := HB0.out.trans (hb.mono zo);have d0 := zC k1;have f0 := zF k1;clear k1 hb;go_wp2_with fail;refine bodyPost_ret (v := .tuple #[.agg #[x0, x1, x2, x3], .bool F]) ?_ rfl ⟨rfl, ?_⟩
 ·rw [results_cell_tmp rfl]; go_simp
 ·exact Below.setCell (Below.setCell (Below.setCell (Below.setCell (HB.out) zle _) zle _) zle _) zle _
theorem zz3m (v : Value) (l : List (List Int)) (kx ky : Int) (p : Nat) (w : World) (hv : Hid (RecAt w v 3 l)) (hl : l.length ≤ 1000000) (hp : p ≤ l.length) (hlt : Hid (∀ (h : Nat) (r : List Int), l[h]? = some r → (stLt r kx ky ↔ h < p))) (hF : Hid (false = match l[p]? with | some r => decide (r.headD 0 = kx ∧ r.tail.headD 0 = ky) | none => false)) :
  Calls Tryz.prog 180 #[v, .agg #[kx, ky], .func (.func 134) #[] #[]] w fun e w' => e = .returned (.tuple #[.agg #[.int .i64 0, .int .i64 0, .int .i64 0], .bool false]) ∧ Below w.heap.size w w' := by
 have q := zH (fun w hv => zz0y v l kx ky p false w hv hl hp hlt hF)
 have HB0 : Hid (Below w.heap.size w ((w.alloc (.cells #[kx, ky] 179)).alloc (.cells #[.int .i64 0, .int .i64 0, .int .i64 0] 80))) := zz01 zBa zo _;have hv1 := zH (hv.out.call HB0.out);have HN := zH (zz02 (w.alloc (.cells #[kx, ky] 179)) (.cells #[.int .i64 0, .int .i64 0, .int .i64 0] 80));have kc0 := zz00 (zz04 (zz02 w (.cells #[kx, ky] 179)) (.cells #[.int .i64 0, .int .i64 0, .int .i64 0] 80)) 0 _ rfl;have kc1 := zz00 (zz04 (zz02 w (.cells #[kx, ky] 179)) (.cells #[.int .i64 0, .int .i64 0, .int .i64 0] 80)) 1 _ rfl;go_in;go_wp2_with fail;(with_reducible refine (q.out _ hv1).mono ?_);rintro e w2 ⟨rfl, hb⟩;have k0 : w2.heap[w.heap.size + 1]? = some (.cells #[.int .i64 0, .int .i64 0, .int .i64 0] 80 (0, 0)) := by have := zz06 HN.out hb; simpa using this
 have hs : w.heap.size + 2 ≤ w2.heap.size := by have := hb.size; simpa using this
 have k1 : (w2.alloc (.cells #[.int .i64 0, .int .i64 0, .int .i64 0] 80)).heap[w.heap.size + 1]? = some (.cells #[.int .i64 0, .int .i64 0, .int .i64 0] 80 (0, 0)) := zz04 k0 _;have k2 : (w2.alloc (.cells #[.int .i64 0, .int .i64 0, .int .i64 0] 80)).heap[w2.heap.size]? = some (.cells #[.int .i64 0, .int .i64 0, .int .i64 0] 80 (0, 0)) := zz02 w2 _;have hB3 : Hid (Below w.heap.size w (w2.alloc (.cells #[.int .i64 0, .int .i64 0, .int .i64 0] 80))) := zz01 (HB0.out.trans (hb.mono zo)) zw _;have c0 := zC k2;have d0 := zC k1;have f0 := zF k1;clear k0 k1 k2 hb;go_wp2_with fail;refine bodyPost_ret (v := .tuple #[.agg #[.int .i64 0, .int .i64 0, .int .i64 0], .bool false]) ?_ rfl ⟨rfl, ?_⟩
 ·rw [results_cell_tmp rfl]; go_simp
 ·exact Below.setCell (Below.setCell (Below.setCell (hB3.out) zle _) zle _) zle _
theorem zz7e (v : Value) (l : List (List Int)) (kx ky x0 x1 x2 : Int) (p : Nat) (w : World) (hv : Hid (RecAt w v 3 l)) (hl : l.length ≤ 1000000) (hp : p < l.length) (hlt : Hid (∀ (h : Nat) (r : List Int), l[h]? = some r → (stLt r kx ky ↔ h < p))) (hF : Hid (true = match l[p]? with | some r => decide (r.headD 0 = kx ∧ r.tail.headD 0 = ky) | none => false)) (hr : Hid (l[p]? = some [x0, x1, x2])) :
  Calls Tryz.prog 180 #[v, .agg #[kx, ky], .func (.func 134) #[] #[]] w fun e w' => e = .returned (.tuple #[.agg #[x0, x1, x2], .bool true]) ∧ Below w.heap.size w w' := by
 have q := zH (fun w hv => zz0y v l kx ky p true w hv hl zw hlt hF)
 have HB0 : Hid (Below w.heap.size w ((w.alloc (.cells #[kx, ky] 179)).alloc (.cells #[.int .i64 0, .int .i64 0, .int .i64 0] 80))) := zz01 zBa zo _;have hv1 := zH (hv.out.call HB0.out);have HN := zH (zz02 (w.alloc (.cells #[kx, ky] 179)) (.cells #[.int .i64 0, .int .i64 0, .int .i64 0] 80));have kc0 := zz00 (zz04 (zz02 w (.cells #[kx, ky] 179)) (.cells #[.int .i64 0, .int .i64 0, .int .i64 0] 80)) 0 _ rfl;have kc1 := zz00 (zz04 (zz02 w (.cells #[kx, ky] 179)) (.cells #[.int .i64 0, .int .i64 0, .int .i64 0] 80)) 1 _ rfl;obtain ⟨A, c, rfl, hci⟩ := hv.out;obtain ⟨_, b0, o0, rfl, hbl, hc⟩ := hci p _ hr.out;have e0 := zH (hc 0 _ rfl);have e1 := zH (hc 1 _ rfl);have e2 := zH (hc 2 _ rfl);clear hci hc;go_in;go_wp2_with fail;(with_reducible refine (q.out _ hv1).mono ?_);rintro e w2 ⟨rfl, hb⟩;have k1 : w2.heap[w.heap.size + 1]? = some (.cells #[.int .i64 0, .int .i64 0, .int .i64 0] 80 (0, 0)) := by have := zz06 HN.out hb; simpa using this
 have hB : Below w.heap.size w w2 := HB0.out.trans (hb.mono zo);have HB := zH hB;have c0 := (hB.cell (p := ⟨b0, o0 + p * 3, none⟩) hbl).trans e0.out;have c1 := (hB.cell (p := ⟨b0, o0 + p * 3 + 1, none⟩) hbl).trans e1.out;have c2 := (hB.cell (p := ⟨b0, o0 + p * 3 + 2, none⟩) hbl).trans e2.out;have d0 := zC k1;have f0 := zF k1;clear k1 hb hB;go_wp2_with fail;refine bodyPost_ret (v := .tuple #[.agg #[x0, x1, x2], .bool true]) ?_ rfl ⟨rfl, ?_⟩
 ·rw [results_cell_tmp rfl]; go_simp
 ·exact Below.setCell (Below.setCell (Below.setCell (HB.out) zle _) zle _) zle _
theorem FindStake (v : Value) (l : List (List Int)) (kx ky x0 x1 x2 : Int) (F : Bool) (w : World) (hv : Hid (RowAt w v 3 l)) (hl : l.length ≤ 1000000) (hr : Hid (riseS l)) (hx : Hid (recOf 3 (l.find? (isKey kx ky)) = ([x0, x1, x2], F))) :
  Calls Tryz.prog 180 #[v, .agg #[kx, ky], .func (.func 134) #[] #[]] w fun e w' => e = .returned (.tuple #[.agg #[x0, x1, x2], .bool F]) ∧ Below w.heap.size w w' := by
 obtain ⟨p, hp, hlt, hf⟩ := placeS kx ky hr.out;have hx := hx.out;have hv' := zH hv.out.rec';rw [hf] at hx;cases hlp : l[p]? with
 | none =>
  rw [hlp] at hx;simp only [Option.filter, recOf, List.replicate] at hx;injection hx with h1 h2
  injection h1 with g0 t0
  injection t0 with g1 t1
  injection t1 with g2 t2
  subst h2 g0 g1 g2;exact zz3m v l kx ky p w hv' hl hp hlt (by show _ = _; rw [hlp])
 | some r =>
  rw [hlp] at hx;by_cases hk : r.headD 0 = kx ∧ r.tail.headD 0 = ky
  ·have hi : (Option.some r).filter (isKey kx ky) = some r := by simp only [Option.filter, isKey, decide_eq_true hk]; rfl
   rw [hi] at hx;simp only [recOf] at hx;injection hx with h1 h2
   subst h2 h1;exact zz7e v l kx ky x0 x1 x2 p w hv' hl (List.getElem?_eq_some_iff.1 hlp).1 hlt (by show _ = _; rw [hlp]; exact (decide_eq_true hk).symm) hlp
  ·have hi : (Option.some r).filter (isKey kx ky) = none := by simp only [Option.filter, isKey, decide_eq_false hk]; rfl
   rw [hi] at hx;simp only [recOf, List.replicate] at hx;injection hx with h1 h2
   injection h1 with g0 t0
   injection t0 with g1 t1
   injection t1 with g2 t2
   subst h2 g0 g1 g2;exact zz3m v l kx ky p w hv' hl hp hlt (by show _ = _; rw [hlp]; exact (decide_eq_false hk).symm)
theorem zz97 (v : Value) (b : Bk) (kx ky x0 x1 x2 : Int) (F : Bool) (w : World) (hb : Hid (BkAt w v b)) (hl : b.s.length ≤ 1000000) (hr : Hid (riseS b.s)) (hx : Hid (recOf 3 (b.s.find? (isKey kx ky)) = ([x0, x1, x2], F))) :
  Calls Tryz.prog 147 #[v, .int .i64 kx, .int .i64 ky] w fun e w' => e = .returned (.int .i64 x2) ∧ Below w.heap.size w w' := by
 obtain ⟨vh, vs, vo, vr, rfl, h1, h2, h3, h4⟩ := hb.out;have HB0 : Hid (Below w.heap.size w (w.alloc (.cells #[vh, vs, vo, vr, b.n] 27))) := zBa;have q := zH (FindStake vs b.s kx ky x0 x1 x2 F (w.alloc (.cells #[vh, vs, vo, vr, b.n] 27)) (h2.call HB0.out) hl hr hx);clear hb h1 h2 h3 h4 hx;have c := zz00 (zz02 w (.cells #[vh, vs, vo, vr, b.n] 27)) 1 _ rfl;go_in;go_wp2_with fail;(with_reducible refine q.out.mono ?_);rintro e w2 ⟨rfl, hb⟩;have k1 := zz02 w2 (.cells #[x0, x1, x2] 80);have HB : Hid (Below w.heap.size w (w2.alloc (.cells #[x0, x1, x2] 80))) := zz01 (HB0.out.trans (hb.mono zo)) (by have := hb.size; simp at this; omega) _
 have c2 := zz00 k1 2 _ rfl;clear k1 hb;go_wp2_with fail;go_ret;exact ⟨rfl, HB.out⟩
theorem zz4w (v : Value) (l : List (List Int)) (id : Int) (p : Nat) (w : World) (hv : Hid (RecAt w v 6 l)) (hl : l.length ≤ 1000000) (hp : p ≤ l.length) (hlt : Hid (∀ (h : Nat) (r : List Int), l[h]? = some r → (r.headD 0 < id ↔ h < p))) (hF : Hid (false = match l[p]? with | some r => decide (r.headD 0 = id) | none => false)) :
  Calls Tryz.prog 143 #[v, .int .i64 id, .func (.func 128) #[] #[]] w fun e w' => e = .returned (.tuple #[.agg #[.int .i64 0, .int .i64 0, .int .i64 0, .int .i64 0, .int .i64 0, .int .i64 0], .bool false]) ∧ Below w.heap.size w w' := by
 have q := zH (fun w hv => zz13 v l id p false w hv hl hp hlt hF)
 have HB0 : Hid (Below w.heap.size w (w.alloc (.cells #[.int .i64 0, .int .i64 0, .int .i64 0, .int .i64 0, .int .i64 0, .int .i64 0] 82))) := zBa;have hv1 := zH (hv.out.call HB0.out);have HN := zH (zz02 w (.cells #[.int .i64 0, .int .i64 0, .int .i64 0, .int .i64 0, .int .i64 0, .int .i64 0] 82));go_in;go_wp2_with fail;(with_reducible refine (q.out _ hv1).mono ?_);rintro e w2 ⟨rfl, hb⟩;have k0 : w2.heap[w.heap.size]? = some (.cells #[.int .i64 0, .int .i64 0, .int .i64 0, .int .i64 0, .int .i64 0, .int .i64 0] 82 (0, 0)) := by have := zz06 HN.out hb; simpa using this
 have hs : w.heap.size + 1 ≤ w2.heap.size := by have := hb.size; simpa using this
 have k1 : (w2.alloc (.cells #[.int .i64 0, .int .i64 0, .int .i64 0, .int .i64 0, .int .i64 0, .int .i64 0] 82)).heap[w.heap.size]? = some (.cells #[.int .i64 0, .int .i64 0, .int .i64 0, .int .i64 0, .int .i64 0, .int .i64 0] 82 (0, 0)) := zz04 k0 _;have k2 : (w2.alloc (.cells #[.int .i64 0, .int .i64 0, .int .i64 0, .int .i64 0, .int .i64 0, .int .i64 0] 82)).heap[w2.heap.size]? = some (.cells #[.int .i64 0, .int .i64 0, .int .i64 0, .int .i64 0, .int .i64 0, .int .i64 0] 82 (0, 0)) := zz02 w2 _;have hB3 : Hid (Below w.heap.size w (w2.alloc (.cells #[.int .i64 0, .int .i64 0, .int .i64 0, .int .i64 0, .int .i64 0, .int .i64 0] 82))) := zz01 (HB0.out.trans (hb.mono zo)) zw _;have c0 := zC k2;have d0 := zC k1;have f0 := zF k1;clear k0 k1 k2 hb;go_wp2_with fail;refine bodyPost_ret (v := .tuple #[.agg #[.int .i64 0, .int .i64 0, .int .i64 0, .int .i64 0, .int .i64 0, .int .i64 0], .bool false]) ?_ rfl ⟨rfl, ?_⟩
 ·rw [results_cell_tmp rfl]; go_simp
 ·exact Below.setCell (Below.setCell (Below.setCell (Below.setCell (Below.setCell (Below.setCell (hB3.out) zle _) zle _) zle _) zle _) zle _) zle _
theorem zt101 {p : Prop} (h : p := by
 exact Below.setCell (Below.setCell (Below.setCell (Below.setCell (Below.setCell (Below.setCell (HB.out) zle _) zle _) zle _) zle _) zle _) zle _) : p := h
theorem zz8b (v : Value) (l : List (List Int)) (id x0 x1 x2 x3 x4 x5 : Int) (p : Nat) (w : World) (hv : Hid (RecAt w v 6 l)) (hl : l.length ≤ 1000000) (hp : p < l.length) (hlt : Hid (∀ (h : Nat) (r : List Int), l[h]? = some r → (r.headD 0 < id ↔ h < p))) (hF : Hid (true = match l[p]? with | some r => decide (r.headD 0 = id) | none => false)) (hr : Hid (l[p]? = some [x0, x1, x2, x3, x4, x5])) :
  Calls Tryz.prog 143 #[v, .int .i64 id, .func (.func 128) #[] #[]] w fun e w' => e = .returned (.tuple #[.agg #[x0, x1, x2, x3, x4, x5], .bool true]) ∧ Below w.heap.size w w' := by
 have q := zH (fun w hv => zz13 v l id p true w hv hl zw hlt hF)
 have HB0 : Hid (Below w.heap.size w (w.alloc (.cells #[.int .i64 0, .int .i64 0, .int .i64 0, .int .i64 0, .int .i64 0, .int .i64 0] 82))) := zBa;have hv1 := zH (hv.out.call HB0.out);have HN := zH (zz02 w (.cells #[.int .i64 0, .int .i64 0, .int .i64 0, .int .i64 0, .int .i64 0, .int .i64 0] 82));obtain ⟨A, c, rfl, hci⟩ := hv.out;obtain ⟨_, b0, o0, rfl, hbl, hc⟩ := hci p _ hr.out;have e0 := zH (hc 0 _ rfl);have e1 := zH (hc 1 _ rfl);have e2 := zH (hc 2 _ rfl);have e3 := zH (hc 3 _ rfl);have e4 := zH (hc 4 _ rfl);have e5 := zH (hc 5 _ rfl);clear hci hc;go_in;go_wp2_with fail;(with_reducible refine (q.out _ hv1).mono ?_);rintro e w2 ⟨rfl, hb⟩;have k1 : w2.heap[w.heap.size]? = some (.cells #[.int .i64 0, .int .i64 0, .int .i64 0, .int .i64 0, .int .i64 0, .int .i64 0] 82 (0, 0)) := by have := zz06 HN.out hb; simpa using this
 have hB : Below w.heap.size w w2 := HB0.out.trans (hb.mono zo);have HB := zH hB;have c0 := (hB.cell (p := ⟨b0, o0 + p * 6, none⟩) hbl).trans e0.out;have c1 := (hB.cell (p := ⟨b0, o0 + p * 6 + 1, none⟩) hbl).trans e1.out;have c2 := (hB.cell (p := ⟨b0, o0 + p * 6 + 2, none⟩) hbl).trans e2.out;have c3 := (hB.cell (p := ⟨b0, o0 + p * 6 + 3, none⟩) hbl).trans e3.out;have c4 := (hB.cell (p := ⟨b0, o0 + p * 6 + 4, none⟩) hbl).trans e4.out;have c5 := (hB.cell (p := ⟨b0, o0 + p * 6 + 5, none⟩) hbl).trans e5.out;have d0 := zC k1;have f0 := zF k1;clear k1 hb hB;go_wp2_with fail;refine bodyPost_ret (v := .tuple #[.agg #[x0, x1, x2, x3, x4, x5], .bool true]) ?_ rfl ⟨rfl, ?_⟩
 ·rw [results_cell_tmp rfl]; go_simp
 ·exact zt101
theorem FindOpen (v : Value) (l : List (List Int)) (id x0 x1 x2 x3 x4 x5 : Int) (F : Bool) (w : World) (hv : Hid (RowAt w v 6 l)) (hl : l.length ≤ 1000000) (hr : Hid (riseH l)) (hx : Hid (recOf 6 (l.find? (isId id)) = ([x0, x1, x2, x3, x4, x5], F))) :
  Calls Tryz.prog 143 #[v, .int .i64 id, .func (.func 128) #[] #[]] w fun e w' => e = .returned (.tuple #[.agg #[x0, x1, x2, x3, x4, x5], .bool F]) ∧ Below w.heap.size w w' := by
 obtain ⟨p, hp, hlt, hf⟩ := placeH id hr.out;have hx := hx.out;have hv' := zH hv.out.rec';rw [hf] at hx;cases hlp : l[p]? with
 | none =>
  rw [hlp] at hx;simp only [Option.filter, recOf, List.replicate] at hx;injection hx with h1 h2
  injection h1 with g0 t0
  injection t0 with g1 t1
  injection t1 with g2 t2
  injection t2 with g3 t3
  injection t3 with g4 t4
  injection t4 with g5 t5
  subst h2 g0 g1 g2 g3 g4 g5;exact zz4w v l id p w hv' hl hp hlt (by show _ = _; rw [hlp])
 | some r =>
  rw [hlp] at hx;by_cases hk : r.headD 0 = id
  ·have hi : (Option.some r).filter (isId id) = some r := by simp only [Option.filter, isId, decide_eq_true hk]; rfl
   rw [hi] at hx;simp only [recOf] at hx;injection hx with h1 h2
   subst h2 h1;exact zz8b v l id x0 x1 x2 x3 x4 x5 p w hv' hl (List.getElem?_eq_some_iff.1 hlp).1 hlt (by show _ = _; rw [hlp]; exact (decide_eq_true hk).symm) hlp
  ·have hi : (Option.some r).filter (isId id) = none := by simp only [Option.filter, isId, decide_eq_false hk]; rfl
   rw [hi] at hx;simp only [recOf, List.replicate] at hx;injection hx with h1 h2
   injection h1 with g0 t0
   injection t0 with g1 t1
   injection t1 with g2 t2
   injection t2 with g3 t3
   injection t3 with g4 t4
   injection t4 with g5 t5
   subst h2 g0 g1 g2 g3 g4 g5;exact zz4w v l id p w hv' hl hp hlt (by show _ = _; rw [hlp]; exact (decide_eq_false hk).symm)
theorem Open_any (v : Value) (b : Bk) (id x0 x1 x2 x3 x4 x5 : Int) (F : Bool) (w : World) (hb : Hid (BkAt w v b)) (hl : b.o.length ≤ 1000000) (hr : Hid (riseH b.o)) (hx : Hid (recOf 6 (b.o.find? (isId id)) = ([x0, x1, x2, x3, x4, x5], F))) :
  Calls Tryz.prog 76 #[v, .int .i64 id] w fun e w' => e = .returned (.tuple #[.agg #[x0, x1, x2, x3, x4, x5], .bool F]) ∧ Below w.heap.size w w' := by
 obtain ⟨vh, vs, vo, vr, rfl, h1, h2, h3, h4⟩ := hb.out;have HB0 : Hid (Below w.heap.size w ((w.alloc (.cells #[vh, vs, vo, vr, b.n] 27)).alloc (.cells #[.int .i64 0, .int .i64 0, .int .i64 0, .int .i64 0, .int .i64 0, .int .i64 0] 82))) := zz01 zBa zo _;have q := zH (FindOpen vo b.o id x0 x1 x2 x3 x4 x5 F ((w.alloc (.cells #[vh, vs, vo, vr, b.n] 27)).alloc (.cells #[.int .i64 0, .int .i64 0, .int .i64 0, .int .i64 0, .int .i64 0, .int .i64 0] 82)) (h3.call HB0.out) hl hr hx);clear hb h1 h2 h3 h4 hx;have HN := zH (zz02 (w.alloc (.cells #[vh, vs, vo, vr, b.n] 27)) (.cells #[.int .i64 0, .int .i64 0, .int .i64 0, .int .i64 0, .int .i64 0, .int .i64 0] 82));have c := zz00 (zz04 (zz02 w (.cells #[vh, vs, vo, vr, b.n] 27)) (.cells #[.int .i64 0, .int .i64 0, .int .i64 0, .int .i64 0, .int .i64 0, .int .i64 0] 82)) 2 _ rfl;go_in;go_wp2_with fail;(with_reducible refine q.out.mono ?_);rintro e w2 ⟨rfl, hb⟩;have k1 : w2.heap[w.heap.size + 1]? = some (.cells #[.int .i64 0, .int .i64 0, .int .i64 0, .int .i64 0, .int .i64 0, .int .i64 0] 82 (0, 0)) := by have := zz06 HN.out hb; simpa using this
 have HB : Hid (Below w.heap.size w w2) := HB0.out.trans (hb.mono zo);have d0 := zC k1;have f0 := zF k1;clear k1 hb;go_wp2_with fail;refine bodyPost_ret (v := .tuple #[.agg #[x0, x1, x2, x3, x4, x5], .bool F]) ?_ rfl ⟨rfl, ?_⟩
 ·rw [results_cell_tmp rfl]; go_simp
 ·exact zt101
theorem zz4v (v : Value) (l : List (List Int)) (id : Int) (p : Nat) (w : World) (hv : Hid (RecAt w v 2 l)) (hl : l.length ≤ 1000000) (hp : p ≤ l.length) (hlt : Hid (∀ (h : Nat) (r : List Int), l[h]? = some r → (r.headD 0 < id ↔ h < p))) (hF : Hid (false = match l[p]? with | some r => decide (r.headD 0 = id) | none => false)) :
  Calls Tryz.prog 136 #[v, .int .i64 id, .func (.func 131) #[] #[]] w fun e w' => e = .returned (.tuple #[.agg #[.int .i64 0, .int .i64 0], .bool false]) ∧ Below w.heap.size w w' := by
 have q := zH (fun w hv => zz1h v l id p false w hv hl hp hlt hF)
 have HB0 : Hid (Below w.heap.size w (w.alloc (.cells #[.int .i64 0, .int .i64 0] 84))) := zBa;have hv1 := zH (hv.out.call HB0.out);have HN := zH (zz02 w (.cells #[.int .i64 0, .int .i64 0] 84));go_in;go_wp2_with fail;(with_reducible refine (q.out _ hv1).mono ?_);rintro e w2 ⟨rfl, hb⟩;have k0 : w2.heap[w.heap.size]? = some (.cells #[.int .i64 0, .int .i64 0] 84 (0, 0)) := by have := zz06 HN.out hb; simpa using this
 have hs : w.heap.size + 1 ≤ w2.heap.size := by have := hb.size; simpa using this
 have k1 : (w2.alloc (.cells #[.int .i64 0, .int .i64 0] 84)).heap[w.heap.size]? = some (.cells #[.int .i64 0, .int .i64 0] 84 (0, 0)) := zz04 k0 _;have k2 : (w2.alloc (.cells #[.int .i64 0, .int .i64 0] 84)).heap[w2.heap.size]? = some (.cells #[.int .i64 0, .int .i64 0] 84 (0, 0)) := zz02 w2 _;have hB3 : Hid (Below w.heap.size w (w2.alloc (.cells #[.int .i64 0, .int .i64 0] 84))) := zz01 (HB0.out.trans (hb.mono zo)) zw _;have c0 := zC k2;have d0 := zC k1;have f0 := zF k1;clear k0 k1 k2 hb;go_wp2_with fail;refine bodyPost_ret (v := .tuple #[.agg #[.int .i64 0, .int .i64 0], .bool false]) ?_ rfl ⟨rfl, ?_⟩
 ·rw [results_cell_tmp rfl]; go_simp
 ·exact Below.setCell (Below.setCell (hB3.out) zle _) zle _
theorem zz8a (v : Value) (l : List (List Int)) (id x0 x1 : Int) (p : Nat) (w : World) (hv : Hid (RecAt w v 2 l)) (hl : l.length ≤ 1000000) (hp : p < l.length) (hlt : Hid (∀ (h : Nat) (r : List Int), l[h]? = some r → (r.headD 0 < id ↔ h < p))) (hF : Hid (true = match l[p]? with | some r => decide (r.headD 0 = id) | none => false)) (hr : Hid (l[p]? = some [x0, x1])) :
  Calls Tryz.prog 136 #[v, .int .i64 id, .func (.func 131) #[] #[]] w fun e w' => e = .returned (.tuple #[.agg #[x0, x1], .bool true]) ∧ Below w.heap.size w w' := by
 have q := zH (fun w hv => zz1h v l id p true w hv hl zw hlt hF)
 have HB0 : Hid (Below w.heap.size w (w.alloc (.cells #[.int .i64 0, .int .i64 0] 84))) := zBa;have hv1 := zH (hv.out.call HB0.out);have HN := zH (zz02 w (.cells #[.int .i64 0, .int .i64 0] 84));obtain ⟨A, c, rfl, hci⟩ := hv.out;obtain ⟨_, b0, o0, rfl, hbl, hc⟩ := hci p _ hr.out;have e0 := zH (hc 0 _ rfl);have e1 := zH (hc 1 _ rfl);clear hci hc;go_in;go_wp2_with fail;(with_reducible refine (q.out _ hv1).mono ?_);rintro e w2 ⟨rfl, hb⟩;have k1 : w2.heap[w.heap.size]? = some (.cells #[.int .i64 0, .int .i64 0] 84 (0, 0)) := by have := zz06 HN.out hb; simpa using this
 have hB : Below w.heap.size w w2 := HB0.out.trans (hb.mono zo);have HB := zH hB;have c0 := (hB.cell (p := ⟨b0, o0 + p * 2, none⟩) hbl).trans e0.out;have c1 := (hB.cell (p := ⟨b0, o0 + p * 2 + 1, none⟩) hbl).trans e1.out;have d0 := zC k1;have f0 := zF k1;clear k1 hb hB;go_wp2_with fail;refine bodyPost_ret (v := .tuple #[.agg #[x0, x1], .bool true]) ?_ rfl ⟨rfl, ?_⟩
 ·rw [results_cell_tmp rfl]; go_simp
 ·exact Below.setCell (Below.setCell (HB.out) zle _) zle _
theorem FindRate (v : Value) (l : List (List Int)) (id x0 x1 : Int) (F : Bool) (w : World) (hv : Hid (RowAt w v 2 l)) (hl : l.length ≤ 1000000) (hr : Hid (riseH l)) (hx : Hid (recOf 2 (l.find? (isId id)) = ([x0, x1], F))) :
  Calls Tryz.prog 136 #[v, .int .i64 id, .func (.func 131) #[] #[]] w fun e w' => e = .returned (.tuple #[.agg #[x0, x1], .bool F]) ∧ Below w.heap.size w w' := by
 obtain ⟨p, hp, hlt, hf⟩ := placeH id hr.out;have hx := hx.out;have hv' := zH hv.out.rec';rw [hf] at hx;cases hlp : l[p]? with
 | none =>
  rw [hlp] at hx;simp only [Option.filter, recOf, List.replicate] at hx;injection hx with h1 h2
  injection h1 with g0 t0
  injection t0 with g1 t1
  subst h2 g0 g1;exact zz4v v l id p w hv' hl hp hlt (by show _ = _; rw [hlp])
 | some r =>
  rw [hlp] at hx;by_cases hk : r.headD 0 = id
  ·have hi : (Option.some r).filter (isId id) = some r := by simp only [Option.filter, isId, decide_eq_true hk]; rfl
   rw [hi] at hx;simp only [recOf] at hx;injection hx with h1 h2
   subst h2 h1;exact zz8a v l id x0 x1 p w hv' hl (List.getElem?_eq_some_iff.1 hlp).1 hlt (by show _ = _; rw [hlp]; exact (decide_eq_true hk).symm) hlp
  ·have hi : (Option.some r).filter (isId id) = none := by simp only [Option.filter, isId, decide_eq_false hk]; rfl
   rw [hi] at hx;simp only [recOf, List.replicate] at hx;injection hx with h1 h2
   injection h1 with g0 t0
   injection t0 with g1 t1
   subst h2 g0 g1;exact zz4v v l id p w hv' hl hp hlt (by show _ = _; rw [hlp]; exact (decide_eq_false hk).symm)
theorem zz4t (v : Value) (b : Bk) (id x0 x1 : Int) (F : Bool) (w : World) (hb : Hid (BkAt w v b)) (hl : b.r.length ≤ 1000000) (hr : Hid (riseH b.r)) (hx : Hid (recOf 2 (b.r.find? (isId id)) = ([x0, x1], F))) :
  Calls Tryz.prog 64 #[v, .int .i64 id] w fun e w' => e = .returned (.tuple #[.int .i64 x1, .bool F]) ∧ Below w.heap.size w w' := by
 obtain ⟨vh, vs, vo, vr, rfl, h1, h2, h3, h4⟩ := hb.out;have HB0 : Hid (Below w.heap.size w (w.alloc (.cells #[vh, vs, vo, vr, b.n] 27))) := zBa;have q := zH (FindRate vr b.r id x0 x1 F (w.alloc (.cells #[vh, vs, vo, vr, b.n] 27)) (h4.call HB0.out) hl hr hx);clear hb h1 h2 h3 h4 hx;have c := zz00 (zz02 w (.cells #[vh, vs, vo, vr, b.n] 27)) 3 _ rfl;go_in;go_wp2_with fail;(with_reducible refine q.out.mono ?_);rintro e w2 ⟨rfl, hb⟩;have k1 := zz02 w2 (.cells #[x0, x1] 84);have HB : Hid (Below w.heap.size w (w2.alloc (.cells #[x0, x1] 84))) := zz01 (HB0.out.trans (hb.mono zo)) (by have := hb.size; simp at this; omega) _
 have c2 := zz00 k1 1 _ rfl;clear k1 hb;go_wp2_with fail;go_ret2;exact ⟨rfl, HB.out⟩
theorem zz1g {α : Type} {E : α → Bool} {l : List α} {i : Nat} {r : α} (h : l[i]? = some r) : (l.drop i).find? E = if E r then some r else (l.drop (i + 1)).find? E := by
 obtain ⟨hi, rfl⟩ := List.getElem?_eq_some_iff.1 h;rw [List.drop_eq_getElem_cons hi];cases he : E l[i] with
 | true => rw [List.find?_cons_of_pos he]; rfl
 | false => rw [List.find?_cons_of_neg (by simp [he])]; rfl
theorem zt40 {p : Prop} (h : p := by
 go_wp2_with fail;go_roundw
 case rel => exact ⟨i + 1, by go_num, by first | rfl | trivial, by show _ ≤ _; omega, by simpa using hrest⟩
 case measure => simp [intOf]; omega) : p := h
theorem zz1j (v : Value) (b : Bk) (id x0 x1 x2 x3 : Int) (F : Bool) (w : World) (hb : Hid (BkAt w v b)) (hl : b.h.length ≤ 1000000) (hx : Hid (recOf 4 (b.h.find? (isId id)) = ([x0, x1, x2, x3], F))) :
  Calls Tryz.prog 41 #[v, .int .i64 id] w fun e w' => e = .returned (.tuple #[.agg #[x0, x1, x2, x3], .bool F]) ∧ Below w.heap.size w w' := by
 obtain ⟨vh, vs, vo, vr, rfl, h1, h2, h3, h4⟩ := hb.out;obtain ⟨A, c, rfl, hi⟩ := h1.rec';clear hi;have HB0 : Hid (Below w.heap.size w ((w.alloc (.cells #[.slice A b.h.length c, vs, vo, vr, b.n] 27)).alloc (.cells #[.int .i64 0, .int .i64 0, .int .i64 0, .int .i64 0] 78))) := zz01 zBa zo _;obtain ⟨A', c', hA', hi⟩ := (h1.call HB0.out).rec';injection hA' with hA1 _ hA3
 subst hA1 hA3;have HI := zH hi;clear hb h1 h2 h3 h4 hi;have cb := zz00 (zz04 (zz02 w (.cells #[.slice A b.h.length c, vs, vo, vr, b.n] 27)) (.cells #[.int .i64 0, .int .i64 0, .int .i64 0, .int .i64 0] 78)) 0 _ rfl;have k1 : ((w.alloc (.cells #[.slice A b.h.length c, vs, vo, vr, b.n] 27)).alloc (.cells #[.int .i64 0, .int .i64 0, .int .i64 0, .int .i64 0] 78)).heap[w.heap.size + 1]? = some (.cells #[.int .i64 0, .int .i64 0, .int .i64 0, .int .i64 0] 78 (0, 0)) := by have := zz02 (w.alloc (.cells #[.slice A b.h.length c, vs, vo, vr, b.n] 27)) (.cells #[.int .i64 0, .int .i64 0, .int .i64 0, .int .i64 0] 78); simpa using this
 have d0 := zC k1;have f0 := zF k1;clear k1;go_in;go_wp2_with fail;go_loopw [6] (fun s6 wr => ∃ i : Nat, s6 = .int .i64 i ∧ wr = (w.alloc (.cells #[.slice A b.h.length c, vs, vo, vr, b.n] 27)).alloc (.cells #[.int .i64 0, .int .i64 0, .int .i64 0, .int .i64 0] 78) ∧ Hid (i ≤ b.h.length) ∧ Hid (recOf 4 ((b.h.drop i).find? (isId id)) = ([x0, x1, x2, x3], F))) (fun s6 _ => b.h.length - (intOf s6).toNat)
 case atStart => exact ⟨0, rfl, rfl, Nat.zero_le _, by simpa using hx⟩
 case round =>
  obtain ⟨i, rfl, rfl, hil, hrest⟩ := hrel;have hil := hil.out;by_cases hin : i < b.h.length
  ·have tn : decide ((i : Int) < (b.h.length : Int)) = true := decide_eq_true zw
   have hge : b.h[i]? = some b.h[i] := List.getElem?_eq_getElem hin;obtain ⟨hk, b0, o0, hA0, hbl, hc⟩ := HI.out i _ hge;subst hA0;have HGE := zH hge;clear hge;generalize b.h[i] = r at *;obtain ⟨y0, y1, y2, y3, rfl⟩ : ∃ y0 y1 y2 y3, r = [y0, y1, y2, y3] := by
    match r, hk with
    | [y0, y1, y2, y3], _ => exact ⟨y0, y1, y2, y3, rfl⟩
   have c0 := hc 0 _ rfl;have c1 := hc 1 _ rfl;have c2 := hc 2 _ rfl;have c3 := hc 3 _ rfl;simp only [Nat.add_zero] at c0;clear hc hk;by_cases hq : y0 = id
   ·have t0' : (y0 == id) = true := by simp [hq]
    have he : isId id [y0, y1, y2, y3] = true := decide_eq_true hq;rw [zz1g HGE.out, he] at hrest;have hx := hrest.out;simp only [if_true, recOf] at hx;injection hx with h1 h2
    injection h1 with g0 t0
    injection t0 with g1 t1
    injection t1 with g2 t2
    injection t2 with g3 t3
    subst h2 g0 g1 g2 g3;clear hrest he HGE hq t3;go_wp2_with fail;refine bodyPost_ret (v := .tuple #[.agg #[y0, y1, y2, y3], .bool true]) ?_ rfl ⟨rfl, ?_⟩
    ·rw [results_cell_tmp rfl]; go_simp
    ·exact zz01 zBa zo _
   ·have t0' : (y0 == id) = false := by simp [hq]
    have he : isId id [y0, y1, y2, y3] = false := decide_eq_false hq;rw [zz1g HGE.out, he] at hrest;clear he HGE hq;exact zt40
  ·have tn : decide ((i : Int) < (b.h.length : Int)) = false := decide_eq_false zw
   have hx := hrest.out;rw [List.drop_eq_nil_of_le zw] at hx;simp only [List.find?_nil, recOf, List.replicate] at hx;injection hx with h1 h2
   injection h1 with g0 t0
   injection t0 with g1 t1
   injection t1 with g2 t2
   injection t2 with g3 t3
   subst h2 g0 g1 g2 g3;clear hrest hx t3;go_wp2_with fail;refine bodyPost_ret (v := .tuple #[.agg #[.int .i64 0, .int .i64 0, .int .i64 0, .int .i64 0], .bool false]) ?_ rfl ⟨rfl, ?_⟩
   ·rw [results_cell_tmp rfl]; go_simp
   ·exact zz01 zBa zo _
theorem zz6t (v : Value) (b : Bk) (kx ky x0 x1 x2 : Int) (F : Bool) (w : World) (hb : Hid (BkAt w v b)) (hl : b.s.length ≤ 1000000) (hx : Hid (recOf 3 (b.s.find? (isKey kx ky)) = ([x0, x1, x2], F))) :
  Calls Tryz.prog 113 #[v, .int .i64 kx, .int .i64 ky] w fun e w' => e = .returned (.int .i64 x2) ∧ Below w.heap.size w w' := by
 obtain ⟨vh, vs, vo, vr, rfl, h1, h2, h3, h4⟩ := hb.out;obtain ⟨A, c, rfl, hi⟩ := h2.rec';clear hi;have HB0 : Hid (Below w.heap.size w (w.alloc (.cells #[vh, .slice A b.s.length c, vo, vr, b.n] 27))) := zBa;obtain ⟨A', c', hA', hi⟩ := (h2.call HB0.out).rec';injection hA' with hA1 _ hA3
 subst hA1 hA3;have HI := zH hi;clear hb h1 h2 h3 h4 hi;have cb := zz00 (zz02 w (.cells #[vh, .slice A b.s.length c, vo, vr, b.n] 27)) 1 _ rfl;go_in;go_wp2_with fail;go_loopw [7] (fun s6 wr => ∃ i : Nat, s6 = .int .i64 i ∧ wr = w.alloc (.cells #[vh, .slice A b.s.length c, vo, vr, b.n] 27) ∧ Hid (i ≤ b.s.length) ∧ Hid (recOf 3 ((b.s.drop i).find? (isKey kx ky)) = ([x0, x1, x2], F))) (fun s6 _ => b.s.length - (intOf s6).toNat)
 case atStart => exact ⟨0, rfl, rfl, Nat.zero_le _, by simpa using hx⟩
 case round =>
  obtain ⟨i, rfl, rfl, hil, hrest⟩ := hrel;have hil := hil.out;by_cases hin : i < b.s.length
  ·have tn : decide ((i : Int) < (b.s.length : Int)) = true := decide_eq_true zw
   have hge : b.s[i]? = some b.s[i] := List.getElem?_eq_getElem hin;obtain ⟨hk, b0, o0, hA0, hbl, hc⟩ := HI.out i _ hge;subst hA0;have HGE := zH hge;clear hge;generalize b.s[i] = r at *;obtain ⟨y0, y1, y2, rfl⟩ : ∃ y0 y1 y2, r = [y0, y1, y2] := by
    match r, hk with
    | [y0, y1, y2], _ => exact ⟨y0, y1, y2, rfl⟩
   have c0 := hc 0 _ rfl;have c1 := hc 1 _ rfl;have c2 := hc 2 _ rfl;simp only [Nat.add_zero] at c0;clear hc hk;by_cases hq0 : y0 = kx
   ·have t0' : (y0 == kx) = true := by simp [hq0]
    by_cases hq : y1 = ky
    ·have t1' : (y1 == ky) = true := by simp [hq]
     have he : isKey kx ky [y0, y1, y2] = true := decide_eq_true ⟨hq0, hq⟩;rw [zz1g HGE.out, he] at hrest;have hx := hrest.out;simp only [if_true, recOf] at hx;injection hx with h1 h2
     injection h1 with g0 t0
     injection t0 with g1 t1
     injection t1 with g2 t2
     subst h2 g0 g1 g2;clear hrest he HGE hq hq0 t2;go_wp2_with fail;go_ret;exact ⟨rfl, HB0.out⟩
    ·have t1' : (y1 == ky) = false := by simp [hq]
     have he : isKey kx ky [y0, y1, y2] = false := decide_eq_false (fun h => hq h.2)
     rw [zz1g HGE.out, he] at hrest;clear he HGE hq hq0;exact zt40
   ·have t0' : (y0 == kx) = false := by simp [hq0]
    have he : isKey kx ky [y0, y1, y2] = false := decide_eq_false (fun h => hq0 h.1)
    rw [zz1g HGE.out, he] at hrest;clear he HGE hq0;exact zt40
  ·have tn : decide ((i : Int) < (b.s.length : Int)) = false := decide_eq_false zw
   have hx := hrest.out;rw [List.drop_eq_nil_of_le zw] at hx;simp only [List.find?_nil, recOf, List.replicate] at hx;injection hx with h1 h2
   injection h1 with g0 t0
   injection t0 with g1 t1
   injection t1 with g2 t2
   subst h2 g0 g1 g2;clear hrest hx t2;go_wp2_with fail;go_ret;exact ⟨rfl, HB0.out⟩
theorem zz8i (v : Value) (b : Bk) (id x0 x1 x2 x3 x4 x5 : Int) (F : Bool) (w : World) (hb : Hid (BkAt w v b)) (hl : b.o.length ≤ 1000000) (hx : Hid (recOf 6 (b.o.find? (isId id)) = ([x0, x1, x2, x3, x4, x5], F))) :
  Calls Tryz.prog 42 #[v, .int .i64 id] w fun e w' => e = .returned (.tuple #[.agg #[x0, x1, x2, x3, x4, x5], .bool F]) ∧ Below w.heap.size w w' := by
 obtain ⟨vh, vs, vo, vr, rfl, h1, h2, h3, h4⟩ := hb.out;obtain ⟨A, c, rfl, hi⟩ := h3.rec';clear hi;have HB0 : Hid (Below w.heap.size w ((w.alloc (.cells #[vh, vs, .slice A b.o.length c, vr, b.n] 27)).alloc (.cells #[.int .i64 0, .int .i64 0, .int .i64 0, .int .i64 0, .int .i64 0, .int .i64 0] 82))) := zz01 zBa zo _;obtain ⟨A', c', hA', hi⟩ := (h3.call HB0.out).rec';injection hA' with hA1 _ hA3
 subst hA1 hA3;have HI := zH hi;clear hb h1 h2 h3 h4 hi;have cb := zz00 (zz04 (zz02 w (.cells #[vh, vs, .slice A b.o.length c, vr, b.n] 27)) (.cells #[.int .i64 0, .int .i64 0, .int .i64 0, .int .i64 0, .int .i64 0, .int .i64 0] 82)) 2 _ rfl;have k1 : ((w.alloc (.cells #[vh, vs, .slice A b.o.length c, vr, b.n] 27)).alloc (.cells #[.int .i64 0, .int .i64 0, .int .i64 0, .int .i64 0, .int .i64 0, .int .i64 0] 82)).heap[w.heap.size + 1]? = some (.cells #[.int .i64 0, .int .i64 0, .int .i64 0, .int .i64 0, .int .i64 0, .int .i64 0] 82 (0, 0)) := by have := zz02 (w.alloc (.cells #[vh, vs, .slice A b.o.length c, vr, b.n] 27)) (.cells #[.int .i64 0, .int .i64 0, .int .i64 0, .int .i64 0, .int .i64 0, .int .i64 0] 82); simpa using this
 have d0 := zC k1;have f0 := zF k1;clear k1;go_in;go_wp2_with fail;go_loopw [6] (fun s6 wr => ∃ i : Nat, s6 = .int .i64 i ∧ wr = (w.alloc (.cells #[vh, vs, .slice A b.o.length c, vr, b.n] 27)).alloc (.cells #[.int .i64 0, .int .i64 0, .int .i64 0, .int .i64 0, .int .i64 0, .int .i64 0] 82) ∧ Hid (i ≤ b.o.length) ∧ Hid (recOf 6 ((b.o.drop i).find? (isId id)) = ([x0, x1, x2, x3, x4, x5], F))) (fun s6 _ => b.o.length - (intOf s6).toNat)
 case atStart => exact ⟨0, rfl, rfl, Nat.zero_le _, by simpa using hx⟩
 case round =>
  obtain ⟨i, rfl, rfl, hil, hrest⟩ := hrel;have hil := hil.out;by_cases hin : i < b.o.length
  ·have tn : decide ((i : Int) < (b.o.length : Int)) = true := decide_eq_true zw
   have hge : b.o[i]? = some b.o[i] := List.getElem?_eq_getElem hin;obtain ⟨hk, b0, o0, hA0, hbl, hc⟩ := HI.out i _ hge;subst hA0;have HGE := zH hge;clear hge;generalize b.o[i] = r at *;obtain ⟨y0, y1, y2, y3, y4, y5, rfl⟩ : ∃ y0 y1 y2 y3 y4 y5, r = [y0, y1, y2, y3, y4, y5] := by
    match r, hk with
    | [y0, y1, y2, y3, y4, y5], _ => exact ⟨y0, y1, y2, y3, y4, y5, rfl⟩
   have c0 := hc 0 _ rfl;have c1 := hc 1 _ rfl;have c2 := hc 2 _ rfl;have c3 := hc 3 _ rfl;have c4 := hc 4 _ rfl;have c5 := hc 5 _ rfl;simp only [Nat.add_zero] at c0;clear hc hk;by_cases hq : y0 = id
   ·have t0' : (y0 == id) = true := by simp [hq]
    have he : isId id [y0, y1, y2, y3, y4, y5] = true := decide_eq_true hq;rw [zz1g HGE.out, he] at hrest;have hx := hrest.out;simp only [if_true, recOf] at hx;injection hx with h1 h2
    injection h1 with g0 t0
    injection t0 with g1 t1
    injection t1 with g2 t2
    injection t2 with g3 t3
    injection t3 with g4 t4
    injection t4 with g5 t5
    subst h2 g0 g1 g2 g3 g4 g5;clear hrest he HGE hq t5;go_wp2_with fail;refine bodyPost_ret (v := .tuple #[.agg #[y0, y1, y2, y3, y4, y5], .bool true]) ?_ rfl ⟨rfl, ?_⟩
    ·rw [results_cell_tmp rfl]; go_simp
    ·exact zz01 zBa zo _
   ·have t0' : (y0 == id) = false := by simp [hq]
    have he : isId id [y0, y1, y2, y3, y4, y5] = false := decide_eq_false hq;rw [zz1g HGE.out, he] at hrest;clear he HGE hq;exact zt40
  ·have tn : decide ((i : Int) < (b.o.length : Int)) = false := decide_eq_false zw
   have hx := hrest.out;rw [List.drop_eq_nil_of_le zw] at hx;simp only [List.find?_nil, recOf, List.replicate] at hx;injection hx with h1 h2
   injection h1 with g0 t0
   injection t0 with g1 t1
   injection t1 with g2 t2
   injection t2 with g3 t3
   injection t3 with g4 t4
   injection t4 with g5 t5
   subst h2 g0 g1 g2 g3 g4 g5;clear hrest hx t5;go_wp2_with fail;refine bodyPost_ret (v := .tuple #[.agg #[.int .i64 0, .int .i64 0, .int .i64 0, .int .i64 0, .int .i64 0, .int .i64 0], .bool false]) ?_ rfl ⟨rfl, ?_⟩
   ·rw [results_cell_tmp rfl]; go_simp
   ·exact zz01 zBa zo _
theorem zz3s (v : Value) (b : Bk) (id x0 x1 : Int) (F : Bool) (w : World) (hb : Hid (BkAt w v b)) (hl : b.r.length ≤ 1000000) (hx : Hid (recOf 2 (b.r.find? (isId id)) = ([x0, x1], F))) :
  Calls Tryz.prog 98 #[v, .int .i64 id] w fun e w' => e = .returned (.tuple #[.int .i64 x1, .bool F]) ∧ Below w.heap.size w w' := by
 obtain ⟨vh, vs, vo, vr, rfl, h1, h2, h3, h4⟩ := hb.out;obtain ⟨A, c, rfl, hi⟩ := h4.rec';clear hi;have HB0 : Hid (Below w.heap.size w (w.alloc (.cells #[vh, vs, vo, .slice A b.r.length c, b.n] 27))) := zBa;obtain ⟨A', c', hA', hi⟩ := (h4.call HB0.out).rec';injection hA' with hA1 _ hA3
 subst hA1 hA3;have HI := zH hi;clear hb h1 h2 h3 h4 hi;have cb := zz00 (zz02 w (.cells #[vh, vs, vo, .slice A b.r.length c, b.n] 27)) 3 _ rfl;go_in;go_wp2_with fail;go_loopw [6] (fun s6 wr => ∃ i : Nat, s6 = .int .i64 i ∧ wr = w.alloc (.cells #[vh, vs, vo, .slice A b.r.length c, b.n] 27) ∧ Hid (i ≤ b.r.length) ∧ Hid (recOf 2 ((b.r.drop i).find? (isId id)) = ([x0, x1], F))) (fun s6 _ => b.r.length - (intOf s6).toNat)
 case atStart => exact ⟨0, rfl, rfl, Nat.zero_le _, by simpa using hx⟩
 case round =>
  obtain ⟨i, rfl, rfl, hil, hrest⟩ := hrel;have hil := hil.out;by_cases hin : i < b.r.length
  ·have tn : decide ((i : Int) < (b.r.length : Int)) = true := decide_eq_true zw
   have hge : b.r[i]? = some b.r[i] := List.getElem?_eq_getElem hin;obtain ⟨hk, b0, o0, hA0, hbl, hc⟩ := HI.out i _ hge;subst hA0;have HGE := zH hge;clear hge;generalize b.r[i] = r at *;obtain ⟨y0, y1, rfl⟩ : ∃ y0 y1, r = [y0, y1] := by
    match r, hk with
    | [y0, y1], _ => exact ⟨y0, y1, rfl⟩
   have c0 := hc 0 _ rfl;have c1 := hc 1 _ rfl;simp only [Nat.add_zero] at c0;clear hc hk;by_cases hq : y0 = id
   ·have t0' : (y0 == id) = true := by simp [hq]
    have he : isId id [y0, y1] = true := decide_eq_true hq;rw [zz1g HGE.out, he] at hrest;have hx := hrest.out;simp only [if_true, recOf] at hx;injection hx with h1 h2
    injection h1 with g0 t0
    injection t0 with g1 t1
    subst h2 g0 g1;clear hrest he HGE hq t1;go_wp2_with fail;go_ret2;exact ⟨rfl, HB0.out⟩
   ·have t0' : (y0 == id) = false := by simp [hq]
    have he : isId id [y0, y1] = false := decide_eq_false hq;rw [zz1g HGE.out, he] at hrest;clear he HGE hq;exact zt40
  ·have tn : decide ((i : Int) < (b.r.length : Int)) = false := decide_eq_false zw
   have hx := hrest.out;rw [List.drop_eq_nil_of_le zw] at hx;simp only [List.find?_nil, recOf, List.replicate] at hx;injection hx with h1 h2
   injection h1 with g0 t0
   injection t0 with g1 t1
   subst h2 g0 g1;clear hrest hx t1;go_wp2_with fail;go_ret2;exact ⟨rfl, HB0.out⟩
def BkOwn (w : World) (B : Nat) (v : Value) (b : Bk) : Prop := ∃ vh vs vo vr, v = .agg #[vh, vs, vo, vr, b.n] ∧ RowOwn w B 78 vh 4 b.h ∧ RowOwn w B 80 vs 3 b.s ∧ RowOwn w B 82 vo 6 b.o ∧ RowOwn w B 84 vr 2 b.r
theorem BkOwn.at {w : World} {B : Nat} {v : Value} {b : Bk} (h : BkOwn w B v b) : BkAt w v b := by
 obtain ⟨vh, vs, vo, vr, rfl, h1, h2, h3, h4⟩ := h;exact ⟨vh, vs, vo, vr, rfl, h1.row, h2.row, h3.row, h4.row⟩
theorem BkOwn.kept {w w' : World} {B : Nat} {v : Value} {b : Bk} (h : BkOwn w B v b) (hb : Below w.heap.size w w') : BkOwn w' B v b := by
 obtain ⟨vh, vs, vo, vr, rfl, h1, h2, h3, h4⟩ := h;exact ⟨vh, vs, vo, vr, rfl, h1.kept hb, h2.kept hb, h3.kept hb, h4.kept hb⟩
theorem BkOwn.mono {w : World} {B B' : Nat} {v : Value} {b : Bk} (h : BkOwn w B v b) (hb : B' ≤ B) : BkOwn w B' v b := by
 obtain ⟨vh, vs, vo, vr, rfl, h1, h2, h3, h4⟩ := h;exact ⟨vh, vs, vo, vr, rfl, h1.mono hb, h2.mono hb, h3.mono hb, h4.mono hb⟩
theorem RowOwn.setBelow {w : World} {B : Nat} {e : TypeId} {v : Value} {k : Nat} {l : List (List Int)} (h : RowOwn w B e v k l) {a : Addr} (ha : a.block < B) (u : Value) : RowOwn (w.setCell a u) B e v k l := ⟨ownsRow_setCell_below h.1 ha u, h.2⟩
theorem BkOwn.setBelow {w : World} {B : Nat} {v : Value} {b : Bk} (h : BkOwn w B v b) {a : Addr} (ha : a.block < B) (u : Value) : BkOwn (w.setCell a u) B v b := by
 obtain ⟨vh, vs, vo, vr, rfl, h1, h2, h3, h4⟩ := h;exact ⟨vh, vs, vo, vr, rfl, h1.setBelow ha u, h2.setBelow ha u, h3.setBelow ha u, h4.setBelow ha u⟩
def Bk.Small (b : Bk) : Prop := b.h.length ≤ 999998 ∧ b.s.length ≤ 999998 ∧ b.o.length ≤ 999998 ∧ b.r.length ≤ 999998
theorem zz3i (v : Value) (b : Bk) (w : World) (hb : Hid (BkAt w v b)) (hs : Hid b.Small) :
  Calls Tryz.prog 38 #[v] w fun e w' => ∃ v', e = .returned v' ∧ BkOwn w' w.heap.size v' b ∧ Below w.heap.size w w' := by
 obtain ⟨vh, vs, vo, vr, rfl, h1, h2, h3, h4⟩ := hb.out;obtain ⟨w2, hw2⟩ : ∃ w2, (w.alloc (.cells #[vh, vs, vo, vr, b.n] 27)).alloc (.cells BZ 27) = w2 := ⟨_, rfl⟩;have HB : Hid (Below w.heap.size w w2) := by rw [← hw2]; exact zz01 zBa (by simp) _
 have k1 : w2.heap[w.heap.size]? = some (.cells #[vh, vs, vo, vr, b.n] 27 (0, 0)) := by rw [← hw2]; exact zz04 (zz02 _ _) _
 have k2 : w2.heap[w.heap.size + 1]? = some (.cells BZ 27 (0, 0)) := by rw [← hw2]; exact zz0e _ _ _ (by simp)
 have q1 := zH (fun w' hv => zz1s vh b.h w' hv zsm)
 have q2 := zH (fun w' hv => zz19 vs b.s w' hv zsm)
 have q3 := zH (fun w' hv => zz1f vo b.o w' hv zsm)
 have q4 := zH (fun w' hv => zz2g vr b.r w' hv zsm)
 have r1 := zH (h1.call HB.out);have r2 := zH (h2.call HB.out);have r3 := zH (h3.call HB.out);have r4 := zH (h4.call HB.out);have HW2 := zH hw2;have K1 := zH k1;have K2 := zH k2;clear hw2 k1 k2 h1 h2 h3 h4 hb;go_in;go_wp2_with fail;rw [HW2.out];have e0 := zz00 K1.out 0 _ rfl;have e1 := zz00 K1.out 1 _ rfl;have e2 := zz00 K1.out 2 _ rfl;have e3 := zz00 K1.out 3 _ rfl;have e4 := zz00 K1.out 4 _ rfl;have l1 := zL K1.out;have HC : Hid (Below w2.heap.size w2 w2.drew) := (Below.refl _ _).drew;refine zz07 [15] (fun wz => Hid (Below w2.heap.size w2 wz)) 16 (zb 16 0) zk zk zk ?_
 refine zM [0, 1, 3, 4, 6, 7, 9, 10, 12, 13] 6 HC ?_;simp only [opsAt, zA];refine zp ?_;refine zz08 vh rfl (fun wz hC => by have h0 := ((Hid.out hC).cell (p := ⟨w.heap.size, 0, none⟩) l1).trans e0; unfold execOp; go_simp) ?_
 refine zp ?_;refine zz08 vs rfl (fun wz hC => by have h0 := ((Hid.out hC).cell (p := ⟨w.heap.size, 1, none⟩) l1).trans e1; unfold execOp; go_simp) ?_
 refine zp ?_;refine zz08 vo rfl (fun wz hC => by have h0 := ((Hid.out hC).cell (p := ⟨w.heap.size, 2, none⟩) l1).trans e2; unfold execOp; go_simp) ?_
 refine zp ?_;refine zz08 vr rfl (fun wz hC => by have h0 := ((Hid.out hC).cell (p := ⟨w.heap.size, 3, none⟩) l1).trans e3; unfold execOp; go_simp) ?_
 refine zp ?_;refine zz08 (.int .i64 b.n) rfl (fun wz hC => by have h0 := ((Hid.out hC).cell (p := ⟨w.heap.size, 4, none⟩) l1).trans e4; unfold execOp; go_simp) ?_
 unfold wpPure;go_simp;have R1 := zH (r1.out.call (Below.refl _ _).drew);have R2 := zH (r2.out.call (Below.refl _ _).drew);have R3 := zH (r3.out.call (Below.refl _ _).drew);have R4 := zH (r4.out.call (Below.refl _ _).drew);refine zW 2 ?_;go_wp2_with fail;(with_reducible refine (q1.out _ R1).mono ?_);rintro e w3 ⟨uh, rfl, g1, hb1⟩;obtain ⟨A1, c1', rfl⟩ := g1.form;have HC1 : Hid (Below w2.heap.size w2 w3) := HC.out.trans (hb1.mono HC.out.size);have G1 := zH (g1.mono (B' := w2.heap.size) HC.out.size);replace R2 := zH (R2.out.call hb1);replace R3 := zH (R3.out.call hb1);replace R4 := zH (R4.out.call hb1);clear g1 hb1 R1;go_wp2_with fail;refine zQs (fun _ => HC1) ?_
 refine zW 5 ?_;go_wp2_with fail;(with_reducible refine (q2.out _ R2).mono ?_);rintro e w4 ⟨us, rfl, g2, hb2⟩;obtain ⟨A2, c2', rfl⟩ := g2.form;have HC2 : Hid (Below w2.heap.size w2 w4) := HC1.out.trans (hb2.mono HC1.out.size);have G2 := zH (g2.mono (B' := w2.heap.size) HC1.out.size);replace G1 := zH (G1.out.kept hb2);replace R3 := zH (R3.out.call hb2);replace R4 := zH (R4.out.call hb2);clear g2 hb2 R2;go_wp2_with fail;refine zQs (fun _ => HC2) ?_
 refine zW 8 ?_;go_wp2_with fail;(with_reducible refine (q3.out _ R3).mono ?_);rintro e w5 ⟨uo, rfl, g3, hb3⟩;obtain ⟨A3, c3', rfl⟩ := g3.form;have HC3 : Hid (Below w2.heap.size w2 w5) := HC2.out.trans (hb3.mono HC2.out.size);have G3 := zH (g3.mono (B' := w2.heap.size) HC2.out.size);replace G1 := zH (G1.out.kept hb3);replace G2 := zH (G2.out.kept hb3);replace R4 := zH (R4.out.call hb3);clear g3 hb3 R3;go_wp2_with fail;refine zQs (fun _ => HC3) ?_
 refine zW 11 ?_;go_wp2_with fail;(with_reducible refine (q4.out _ R4).mono ?_);rintro e w6 ⟨ur, rfl, g4, hb4⟩;obtain ⟨A4, c4', rfl⟩ := g4.form;have HC4 : Hid (Below w2.heap.size w2 w6) := HC3.out.trans (hb4.mono HC3.out.size);have G4 := zH (g4.mono (B' := w2.heap.size) HC3.out.size);replace G1 := zH (G1.out.kept hb4);replace G2 := zH (G2.out.kept hb4);replace G3 := zH (G3.out.kept hb4);clear g4 hb4 R4;go_wp2_with fail;refine zQs (fun _ => HC4) ?_
 have k2 : w6.heap[w.heap.size + 1]? = some (.cells BZ 27 (0, 0)) := (HC4.out.block _ (zL K2.out)).trans K2.out;have c0 := zz00 k2 0 _ rfl;have f0 := zz05 k2 0;have c1 := zz00 k2 1 _ rfl;have f1 := zz05 k2 1;have c2 := zz00 k2 2 _ rfl;have f2 := zz05 k2 2;have c3 := zz00 k2 3 _ rfl;have f3 := zz05 k2 3;have c4 := zz00 k2 4 _ rfl;have f4 := zz05 k2 4;clear k2;refine zW 14 ?_;go_wp2_with fail;refine zQs (fun _ => HC4) ?_
 refine zW 15 ?_;go_wp2_with fail;refine zQs (fun h => (by cases h)) ?_
 refine zQe ?_;have l2 := zL K2.out;go_wp2_with fail;refine bodyPost_ret (v := .agg (BF A1 c1' A2 c2' A3 c3' A4 c4' b b.n)) ?_ rfl ⟨_, rfl, ?_, ?_⟩
 ·simp [results, Tryz.results38, go_sem, c0, c1, c2, c3, c4]
 ·have s1 := fun (a : Addr) (ha : a.block < w2.heap.size) (wz : World) (u : Value) (h : BkOwn wz w2.heap.size (.agg (BF A1 c1' A2 c2' A3 c3' A4 c4' b b.n)) b) => h.setBelow ha u
  refine BkOwn.mono ?_ HB.out.size;exact s1 _ l2 _ _ (s1 _ l2 _ _ (s1 _ l2 _ _ (s1 _ l2 _ _ (s1 _ l2 _ _ ⟨_, _, _, _, rfl, G1.out, G2.out, G3.out, G4.out⟩))))
 ·exact Below.setCell (Below.setCell (Below.setCell (Below.setCell (Below.setCell (HB.out.trans (HC4.out.mono HB.out.size)) (by show w.heap.size ≤ w.heap.size + 1; omega) _) (by show w.heap.size ≤ w.heap.size + 1; omega) _) (by show w.heap.size ≤ w.heap.size + 1; omega) _) (by show w.heap.size ≤ w.heap.size + 1; omega) _) (by show w.heap.size ≤ w.heap.size + 1; omega) _
end
end Go.Proofs.YtajogedbacpohaaGreatDoor
