/- Part 5 of what the claim rests on. -/
import Derived.Test.YtajogedbacpohaaGreatDoorB00
import Derived.Test.YtajogedbacpohaaGreatDoorB03
set_option linter.unusedVariables false
set_option linter.unusedSimpArgs false
set_option maxRecDepth 1000000
set_option maxHeartbeats 32000000
namespace Go.Proofs.YtajogedbacpohaaGreatDoor
section
open Go Go.RowKit
theorem zz1f {α : Type} {E : α → Bool} {l : List α} {i : Nat} {r : α} (h : l[i]? = some r) : (l.drop i).find? E = if E r then some r else (l.drop (i + 1)).find? E := by
 obtain ⟨hi, rfl⟩ := List.getElem?_eq_some_iff.1 h;rw [List.drop_eq_getElem_cons hi];cases he : E l[i] with
 | true => rw [List.find?_cons_of_pos he]; rfl
 | false => rw [List.find?_cons_of_neg (by simp [he])]; rfl
theorem zt41 {p : Prop} (h : p := by
 go_wp2_with fail;go_roundw
 case rel => exact ⟨i + 1, by go_num, by first | rfl | trivial, by show _ ≤ _; omega, by simpa using hrest⟩
 case measure => simp [intOf]; omega) : p := h
theorem zz1u (v : Value) (b : Bk) (id x0 x1 x2 x3 : Int) (F : Bool) (w : World) (hb : Hid (BkAt w v b)) (hl : b.h.length ≤ 1000000) (hx : Hid (recOf 4 (b.h.find? (isId id)) = ([x0, x1, x2, x3], F))) :
  Calls Tryz.prog 41 #[v, .int .i64 id] w fun e w' => e = .returned (.tuple #[.agg #[x0, x1, x2, x3], .bool F]) ∧ Below w.heap.size w w' := by
 obtain ⟨vh, vs, vo, vr, rfl, h1, h2, h3, h4⟩ := hb.out;obtain ⟨A, c, rfl, hi⟩ := h1.rec';clear hi;have HB0 : Hid (Below w.heap.size w ((w.alloc (.cells #[.slice A b.h.length c, vs, vo, vr, b.n] 27)).alloc (.cells #[.int .i64 0, .int .i64 0, .int .i64 0, .int .i64 0] 78))) := zz01 zBa zo _;obtain ⟨A', c', hA', hi⟩ := (h1.call HB0.out).rec';injection hA' with hA1 _ hA3
 subst hA1 hA3;have HI := zH hi;clear hb h1 h2 h3 h4 hi;have cb := zz00 (zz05 (zz02 w (.cells #[.slice A b.h.length c, vs, vo, vr, b.n] 27)) (.cells #[.int .i64 0, .int .i64 0, .int .i64 0, .int .i64 0] 78)) 0 _ rfl;have k1 : ((w.alloc (.cells #[.slice A b.h.length c, vs, vo, vr, b.n] 27)).alloc (.cells #[.int .i64 0, .int .i64 0, .int .i64 0, .int .i64 0] 78)).heap[w.heap.size + 1]? = some (.cells #[.int .i64 0, .int .i64 0, .int .i64 0, .int .i64 0] 78 (0, 0)) := by have := zz02 (w.alloc (.cells #[.slice A b.h.length c, vs, vo, vr, b.n] 27)) (.cells #[.int .i64 0, .int .i64 0, .int .i64 0, .int .i64 0] 78); simpa using this
 have d0 := zC k1;have f0 := zF k1;clear k1;go_in;go_wp2_with fail;go_loopw [6] (fun s6 wr => ∃ i : Nat, s6 = .int .i64 i ∧ wr = (w.alloc (.cells #[.slice A b.h.length c, vs, vo, vr, b.n] 27)).alloc (.cells #[.int .i64 0, .int .i64 0, .int .i64 0, .int .i64 0] 78) ∧ Hid (i ≤ b.h.length) ∧ Hid (recOf 4 ((b.h.drop i).find? (isId id)) = ([x0, x1, x2, x3], F))) (fun s6 _ => b.h.length - (intOf s6).toNat)
 case atStart => exact ⟨0, rfl, rfl, Nat.zero_le _, by simpa using hx⟩
 case round =>
  obtain ⟨i, rfl, rfl, hil, hrest⟩ := hrel;have hil := hil.out;by_cases hin : i < b.h.length
  ·have tn : decide ((i : Int) < (b.h.length : Int)) = true := decide_eq_true zw
   have hge : b.h[i]? = some b.h[i] := List.getElem?_eq_getElem hin;obtain ⟨hk, b0, o0, hA0, hbl, hc⟩ := HI.out i _ hge;subst hA0;have HGE := zH hge;clear hge;generalize b.h[i] = r at *;obtain ⟨y0, y1, y2, y3, rfl⟩ : ∃ y0 y1 y2 y3, r = [y0, y1, y2, y3] := by
    match r, hk with
    | [y0, y1, y2, y3], _ => exact ⟨y0, y1, y2, y3, rfl⟩
   have c0 := hc 0 _ rfl;have c1 := hc 1 _ rfl;have c2 := hc 2 _ rfl;have c3 := hc 3 _ rfl;simp only [Nat.add_zero] at c0;clear hc hk;by_cases hq : y0 = id
   ·have t0' : (y0 == id) = true := by simp [hq]
    have he : isId id [y0, y1, y2, y3] = true := decide_eq_true hq;rw [zz1f HGE.out, he] at hrest;have hx := hrest.out;simp only [if_true, recOf] at hx;injection hx with h1 h2
    injection h1 with g0 t0
    injection t0 with g1 t1
    injection t1 with g2 t2
    injection t2 with g3 t3
    subst h2 g0 g1 g2 g3;clear hrest he HGE hq t3;go_wp2_with fail;refine bodyPost_ret (v := .tuple #[.agg #[y0, y1, y2, y3], .bool true]) ?_ rfl ⟨rfl, ?_⟩
    ·rw [results_cell_tmp rfl]; go_simp
    ·exact zz01 zBa zo _
   ·have t0' : (y0 == id) = false := by simp [hq]
    have he : isId id [y0, y1, y2, y3] = false := decide_eq_false hq;rw [zz1f HGE.out, he] at hrest;clear he HGE hq;exact zt41
  ·have tn : decide ((i : Int) < (b.h.length : Int)) = false := decide_eq_false zw
   have hx := hrest.out;rw [List.drop_eq_nil_of_le zw] at hx;simp only [List.find?_nil, recOf, List.replicate] at hx;injection hx with h1 h2
   injection h1 with g0 t0
   injection t0 with g1 t1
   injection t1 with g2 t2
   injection t2 with g3 t3
   subst h2 g0 g1 g2 g3;clear hrest hx t3;go_wp2_with fail;refine bodyPost_ret (v := .tuple #[.agg #[.int .i64 0, .int .i64 0, .int .i64 0, .int .i64 0], .bool false]) ?_ rfl ⟨rfl, ?_⟩
   ·rw [results_cell_tmp rfl]; go_simp
   ·exact zz01 zBa zo _
theorem zz6x (v : Value) (b : Bk) (kx ky x0 x1 x2 : Int) (F : Bool) (w : World) (hb : Hid (BkAt w v b)) (hl : b.s.length ≤ 1000000) (hx : Hid (recOf 3 (b.s.find? (isKey kx ky)) = ([x0, x1, x2], F))) :
  Calls Tryz.prog 113 #[v, .int .i64 kx, .int .i64 ky] w fun e w' => e = .returned (.int .i64 x2) ∧ Below w.heap.size w w' := by
 obtain ⟨vh, vs, vo, vr, rfl, h1, h2, h3, h4⟩ := hb.out;obtain ⟨A, c, rfl, hi⟩ := h2.rec';clear hi;have HB0 : Hid (Below w.heap.size w (w.alloc (.cells #[vh, .slice A b.s.length c, vo, vr, b.n] 27))) := zBa;obtain ⟨A', c', hA', hi⟩ := (h2.call HB0.out).rec';injection hA' with hA1 _ hA3
 subst hA1 hA3;have HI := zH hi;clear hb h1 h2 h3 h4 hi;have cb := zz00 (zz02 w (.cells #[vh, .slice A b.s.length c, vo, vr, b.n] 27)) 1 _ rfl;go_in;go_wp2_with fail;go_loopw [7] (fun s6 wr => ∃ i : Nat, s6 = .int .i64 i ∧ wr = w.alloc (.cells #[vh, .slice A b.s.length c, vo, vr, b.n] 27) ∧ Hid (i ≤ b.s.length) ∧ Hid (recOf 3 ((b.s.drop i).find? (isKey kx ky)) = ([x0, x1, x2], F))) (fun s6 _ => b.s.length - (intOf s6).toNat)
 case atStart => exact ⟨0, rfl, rfl, Nat.zero_le _, by simpa using hx⟩
 case round =>
  obtain ⟨i, rfl, rfl, hil, hrest⟩ := hrel;have hil := hil.out;by_cases hin : i < b.s.length
  ·have tn : decide ((i : Int) < (b.s.length : Int)) = true := decide_eq_true zw
   have hge : b.s[i]? = some b.s[i] := List.getElem?_eq_getElem hin;obtain ⟨hk, b0, o0, hA0, hbl, hc⟩ := HI.out i _ hge;subst hA0;have HGE := zH hge;clear hge;generalize b.s[i] = r at *;obtain ⟨y0, y1, y2, rfl⟩ : ∃ y0 y1 y2, r = [y0, y1, y2] := by
    match r, hk with
    | [y0, y1, y2], _ => exact ⟨y0, y1, y2, rfl⟩
   have c0 := hc 0 _ rfl;have c1 := hc 1 _ rfl;have c2 := hc 2 _ rfl;simp only [Nat.add_zero] at c0;clear hc hk;by_cases hq0 : y0 = kx
   ·have t0' : (y0 == kx) = true := by simp [hq0]
    by_cases hq : y1 = ky
    ·have t1' : (y1 == ky) = true := by simp [hq]
     have he : isKey kx ky [y0, y1, y2] = true := decide_eq_true ⟨hq0, hq⟩;rw [zz1f HGE.out, he] at hrest;have hx := hrest.out;simp only [if_true, recOf] at hx;injection hx with h1 h2
     injection h1 with g0 t0
     injection t0 with g1 t1
     injection t1 with g2 t2
     subst h2 g0 g1 g2;clear hrest he HGE hq hq0 t2;go_wp2_with fail;go_ret;exact ⟨rfl, HB0.out⟩
    ·have t1' : (y1 == ky) = false := by simp [hq]
     have he : isKey kx ky [y0, y1, y2] = false := decide_eq_false (fun h => hq h.2)
     rw [zz1f HGE.out, he] at hrest;clear he HGE hq hq0;exact zt41
   ·have t0' : (y0 == kx) = false := by simp [hq0]
    have he : isKey kx ky [y0, y1, y2] = false := decide_eq_false (fun h => hq0 h.1)
    rw [zz1f HGE.out, he] at hrest;clear he HGE hq0;exact zt41
  ·have tn : decide ((i : Int) < (b.s.length : Int)) = false := decide_eq_false zw
   have hx := hrest.out;rw [List.drop_eq_nil_of_le zw] at hx;simp only [List.find?_nil, recOf, List.replicate] at hx;injection hx with h1 h2
   injection h1 with g0 t0
   injection t0 with g1 t1
   injection t1 with g2 t2
   subst h2 g0 g1 g2;clear hrest hx t2;go_wp2_with fail;go_ret;exact ⟨rfl, HB0.out⟩
theorem zz8l (v : Value) (b : Bk) (id x0 x1 x2 x3 x4 x5 : Int) (F : Bool) (w : World) (hb : Hid (BkAt w v b)) (hl : b.o.length ≤ 1000000) (hx : Hid (recOf 6 (b.o.find? (isId id)) = ([x0, x1, x2, x3, x4, x5], F))) :
  Calls Tryz.prog 42 #[v, .int .i64 id] w fun e w' => e = .returned (.tuple #[.agg #[x0, x1, x2, x3, x4, x5], .bool F]) ∧ Below w.heap.size w w' := by
 obtain ⟨vh, vs, vo, vr, rfl, h1, h2, h3, h4⟩ := hb.out;obtain ⟨A, c, rfl, hi⟩ := h3.rec';clear hi;have HB0 : Hid (Below w.heap.size w ((w.alloc (.cells #[vh, vs, .slice A b.o.length c, vr, b.n] 27)).alloc (.cells #[.int .i64 0, .int .i64 0, .int .i64 0, .int .i64 0, .int .i64 0, .int .i64 0] 82))) := zz01 zBa zo _;obtain ⟨A', c', hA', hi⟩ := (h3.call HB0.out).rec';injection hA' with hA1 _ hA3
 subst hA1 hA3;have HI := zH hi;clear hb h1 h2 h3 h4 hi;have cb := zz00 (zz05 (zz02 w (.cells #[vh, vs, .slice A b.o.length c, vr, b.n] 27)) (.cells #[.int .i64 0, .int .i64 0, .int .i64 0, .int .i64 0, .int .i64 0, .int .i64 0] 82)) 2 _ rfl;have k1 : ((w.alloc (.cells #[vh, vs, .slice A b.o.length c, vr, b.n] 27)).alloc (.cells #[.int .i64 0, .int .i64 0, .int .i64 0, .int .i64 0, .int .i64 0, .int .i64 0] 82)).heap[w.heap.size + 1]? = some (.cells #[.int .i64 0, .int .i64 0, .int .i64 0, .int .i64 0, .int .i64 0, .int .i64 0] 82 (0, 0)) := by have := zz02 (w.alloc (.cells #[vh, vs, .slice A b.o.length c, vr, b.n] 27)) (.cells #[.int .i64 0, .int .i64 0, .int .i64 0, .int .i64 0, .int .i64 0, .int .i64 0] 82); simpa using this
 have d0 := zC k1;have f0 := zF k1;clear k1;go_in;go_wp2_with fail;go_loopw [6] (fun s6 wr => ∃ i : Nat, s6 = .int .i64 i ∧ wr = (w.alloc (.cells #[vh, vs, .slice A b.o.length c, vr, b.n] 27)).alloc (.cells #[.int .i64 0, .int .i64 0, .int .i64 0, .int .i64 0, .int .i64 0, .int .i64 0] 82) ∧ Hid (i ≤ b.o.length) ∧ Hid (recOf 6 ((b.o.drop i).find? (isId id)) = ([x0, x1, x2, x3, x4, x5], F))) (fun s6 _ => b.o.length - (intOf s6).toNat)
 case atStart => exact ⟨0, rfl, rfl, Nat.zero_le _, by simpa using hx⟩
 case round =>
  obtain ⟨i, rfl, rfl, hil, hrest⟩ := hrel;have hil := hil.out;by_cases hin : i < b.o.length
  ·have tn : decide ((i : Int) < (b.o.length : Int)) = true := decide_eq_true zw
   have hge : b.o[i]? = some b.o[i] := List.getElem?_eq_getElem hin;obtain ⟨hk, b0, o0, hA0, hbl, hc⟩ := HI.out i _ hge;subst hA0;have HGE := zH hge;clear hge;generalize b.o[i] = r at *;obtain ⟨y0, y1, y2, y3, y4, y5, rfl⟩ : ∃ y0 y1 y2 y3 y4 y5, r = [y0, y1, y2, y3, y4, y5] := by
    match r, hk with
    | [y0, y1, y2, y3, y4, y5], _ => exact ⟨y0, y1, y2, y3, y4, y5, rfl⟩
   have c0 := hc 0 _ rfl;have c1 := hc 1 _ rfl;have c2 := hc 2 _ rfl;have c3 := hc 3 _ rfl;have c4 := hc 4 _ rfl;have c5 := hc 5 _ rfl;simp only [Nat.add_zero] at c0;clear hc hk;by_cases hq : y0 = id
   ·have t0' : (y0 == id) = true := by simp [hq]
    have he : isId id [y0, y1, y2, y3, y4, y5] = true := decide_eq_true hq;rw [zz1f HGE.out, he] at hrest;have hx := hrest.out;simp only [if_true, recOf] at hx;injection hx with h1 h2
    injection h1 with g0 t0
    injection t0 with g1 t1
    injection t1 with g2 t2
    injection t2 with g3 t3
    injection t3 with g4 t4
    injection t4 with g5 t5
    subst h2 g0 g1 g2 g3 g4 g5;clear hrest he HGE hq t5;go_wp2_with fail;refine bodyPost_ret (v := .tuple #[.agg #[y0, y1, y2, y3, y4, y5], .bool true]) ?_ rfl ⟨rfl, ?_⟩
    ·rw [results_cell_tmp rfl]; go_simp
    ·exact zz01 zBa zo _
   ·have t0' : (y0 == id) = false := by simp [hq]
    have he : isId id [y0, y1, y2, y3, y4, y5] = false := decide_eq_false hq;rw [zz1f HGE.out, he] at hrest;clear he HGE hq;exact zt41
  ·have tn : decide ((i : Int) < (b.o.length : Int)) = false := decide_eq_false zw
   have hx := hrest.out;rw [List.drop_eq_nil_of_le zw] at hx;simp only [List.find?_nil, recOf, List.replicate] at hx;injection hx with h1 h2
   injection h1 with g0 t0
   injection t0 with g1 t1
   injection t1 with g2 t2
   injection t2 with g3 t3
   injection t3 with g4 t4
   injection t4 with g5 t5
   subst h2 g0 g1 g2 g3 g4 g5;clear hrest hx t5;go_wp2_with fail;refine bodyPost_ret (v := .tuple #[.agg #[.int .i64 0, .int .i64 0, .int .i64 0, .int .i64 0, .int .i64 0, .int .i64 0], .bool false]) ?_ rfl ⟨rfl, ?_⟩
   ·rw [results_cell_tmp rfl]; go_simp
   ·exact zz01 zBa zo _
theorem zz5s (v : Value) (b : Bk) (id x0 x1 : Int) (F : Bool) (w : World) (hb : Hid (BkAt w v b)) (hl : b.r.length ≤ 1000000) (hx : Hid (recOf 2 (b.r.find? (isId id)) = ([x0, x1], F))) :
  Calls Tryz.prog 98 #[v, .int .i64 id] w fun e w' => e = .returned (.tuple #[.int .i64 x1, .bool F]) ∧ Below w.heap.size w w' := by
 obtain ⟨vh, vs, vo, vr, rfl, h1, h2, h3, h4⟩ := hb.out;obtain ⟨A, c, rfl, hi⟩ := h4.rec';clear hi;have HB0 : Hid (Below w.heap.size w (w.alloc (.cells #[vh, vs, vo, .slice A b.r.length c, b.n] 27))) := zBa;obtain ⟨A', c', hA', hi⟩ := (h4.call HB0.out).rec';injection hA' with hA1 _ hA3
 subst hA1 hA3;have HI := zH hi;clear hb h1 h2 h3 h4 hi;have cb := zz00 (zz02 w (.cells #[vh, vs, vo, .slice A b.r.length c, b.n] 27)) 3 _ rfl;go_in;go_wp2_with fail;go_loopw [6] (fun s6 wr => ∃ i : Nat, s6 = .int .i64 i ∧ wr = w.alloc (.cells #[vh, vs, vo, .slice A b.r.length c, b.n] 27) ∧ Hid (i ≤ b.r.length) ∧ Hid (recOf 2 ((b.r.drop i).find? (isId id)) = ([x0, x1], F))) (fun s6 _ => b.r.length - (intOf s6).toNat)
 case atStart => exact ⟨0, rfl, rfl, Nat.zero_le _, by simpa using hx⟩
 case round =>
  obtain ⟨i, rfl, rfl, hil, hrest⟩ := hrel;have hil := hil.out;by_cases hin : i < b.r.length
  ·have tn : decide ((i : Int) < (b.r.length : Int)) = true := decide_eq_true zw
   have hge : b.r[i]? = some b.r[i] := List.getElem?_eq_getElem hin;obtain ⟨hk, b0, o0, hA0, hbl, hc⟩ := HI.out i _ hge;subst hA0;have HGE := zH hge;clear hge;generalize b.r[i] = r at *;obtain ⟨y0, y1, rfl⟩ : ∃ y0 y1, r = [y0, y1] := by
    match r, hk with
    | [y0, y1], _ => exact ⟨y0, y1, rfl⟩
   have c0 := hc 0 _ rfl;have c1 := hc 1 _ rfl;simp only [Nat.add_zero] at c0;clear hc hk;by_cases hq : y0 = id
   ·have t0' : (y0 == id) = true := by simp [hq]
    have he : isId id [y0, y1] = true := decide_eq_true hq;rw [zz1f HGE.out, he] at hrest;have hx := hrest.out;simp only [if_true, recOf] at hx;injection hx with h1 h2
    injection h1 with g0 t0
    injection t0 with g1 t1
    subst h2 g0 g1;clear hrest he HGE hq t1;go_wp2_with fail;go_ret2;exact ⟨rfl, HB0.out⟩
   ·have t0' : (y0 == id) = false := by simp [hq]
    have he : isId id [y0, y1] = false := decide_eq_false hq;rw [zz1f HGE.out, he] at hrest;clear he HGE hq;exact zt41
  ·have tn : decide ((i : Int) < (b.r.length : Int)) = false := decide_eq_false zw
   have hx := hrest.out;rw [List.drop_eq_nil_of_le zw] at hx;simp only [List.find?_nil, recOf, List.replicate] at hx;injection hx with h1 h2
   injection h1 with g0 t0
   injection t0 with g1 t1
   subst h2 g0 g1;clear hrest hx t1;go_wp2_with fail;go_ret2;exact ⟨rfl, HB0.out⟩
def BkOwn (w : World) (B : Nat) (v : Value) (b : Bk) : Prop := ∃ vh vs vo vr, v = .agg #[vh, vs, vo, vr, b.n] ∧ RowOwn w B 78 vh 4 b.h ∧ RowOwn w B 80 vs 3 b.s ∧ RowOwn w B 82 vo 6 b.o ∧ RowOwn w B 84 vr 2 b.r
theorem BkOwn.at {w : World} {B : Nat} {v : Value} {b : Bk} (h : BkOwn w B v b) : BkAt w v b := by
 obtain ⟨vh, vs, vo, vr, rfl, h1, h2, h3, h4⟩ := h;exact ⟨vh, vs, vo, vr, rfl, h1.row, h2.row, h3.row, h4.row⟩
theorem BkOwn.kept {w w' : World} {B : Nat} {v : Value} {b : Bk} (h : BkOwn w B v b) (hb : Below w.heap.size w w') : BkOwn w' B v b := by
 obtain ⟨vh, vs, vo, vr, rfl, h1, h2, h3, h4⟩ := h;exact ⟨vh, vs, vo, vr, rfl, h1.kept hb, h2.kept hb, h3.kept hb, h4.kept hb⟩
theorem BkOwn.mono {w : World} {B B' : Nat} {v : Value} {b : Bk} (h : BkOwn w B v b) (hb : B' ≤ B) : BkOwn w B' v b := by
 obtain ⟨vh, vs, vo, vr, rfl, h1, h2, h3, h4⟩ := h;exact ⟨vh, vs, vo, vr, rfl, h1.mono hb, h2.mono hb, h3.mono hb, h4.mono hb⟩
theorem RowOwn.setBelow {w : World} {B : Nat} {e : TypeId} {v : Value} {k : Nat} {l : List (List Int)} (h : RowOwn w B e v k l) {a : Addr} (ha : a.block < B) (u : Value) : RowOwn (w.setCell a u) B e v k l := ⟨ownsRow_setCell_below h.1 ha u, h.2⟩
theorem BkOwn.setBelow {w : World} {B : Nat} {v : Value} {b : Bk} (h : BkOwn w B v b) {a : Addr} (ha : a.block < B) (u : Value) : BkOwn (w.setCell a u) B v b := by
 obtain ⟨vh, vs, vo, vr, rfl, h1, h2, h3, h4⟩ := h;exact ⟨vh, vs, vo, vr, rfl, h1.setBelow ha u, h2.setBelow ha u, h3.setBelow ha u, h4.setBelow ha u⟩
def Bk.Small (b : Bk) : Prop := b.h.length ≤ 999998 ∧ b.s.length ≤ 999998 ∧ b.o.length ≤ 999998 ∧ b.r.length ≤ 999998
theorem zz31 (v : Value) (b : Bk) (w : World) (hb : Hid (BkAt w v b)) (hs : Hid b.Small) :
  Calls Tryz.prog 38 #[v] w fun e w' => ∃ v', e = .returned v' ∧ BkOwn w' w.heap.size v' b ∧ Below w.heap.size w w' := by
 obtain ⟨vh, vs, vo, vr, rfl, h1, h2, h3, h4⟩ := hb.out;obtain ⟨w2, hw2⟩ : ∃ w2, (w.alloc (.cells #[vh, vs, vo, vr, b.n] 27)).alloc (.cells BZ 27) = w2 := ⟨_, rfl⟩;have HB : Hid (Below w.heap.size w w2) := by rw [← hw2]; exact zz01 zBa (by simp) _
 have k1 : w2.heap[w.heap.size]? = some (.cells #[vh, vs, vo, vr, b.n] 27 (0, 0)) := by rw [← hw2]; exact zz05 (zz02 _ _) _
 have k2 : w2.heap[w.heap.size + 1]? = some (.cells BZ 27 (0, 0)) := by rw [← hw2]; exact zz0c _ _ _ (by simp)
 have q1 := zH (fun w' hv => zz1r vh b.h w' hv zsm)
 have q2 := zH (fun w' hv => zz15 vs b.s w' hv zsm)
 have q3 := zH (fun w' hv => zz1e vo b.o w' hv zsm)
 have q4 := zH (fun w' hv => zz2i vr b.r w' hv zsm)
 have r1 := zH (h1.call HB.out);have r2 := zH (h2.call HB.out);have r3 := zH (h3.call HB.out);have r4 := zH (h4.call HB.out);have HW2 := zH hw2;have K1 := zH k1;have K2 := zH k2;clear hw2 k1 k2 h1 h2 h3 h4 hb;go_in;go_wp2_with fail;rw [HW2.out];have e0 := zz00 K1.out 0 _ rfl;have e1 := zz00 K1.out 1 _ rfl;have e2 := zz00 K1.out 2 _ rfl;have e3 := zz00 K1.out 3 _ rfl;have e4 := zz00 K1.out 4 _ rfl;have l1 := zL K1.out;have HC : Hid (Below w2.heap.size w2 w2.drew) := (Below.refl _ _).drew;refine zz07 [15] (fun wz => Hid (Below w2.heap.size w2 wz)) 16 (zb 16 0) zk zk zk ?_
 refine zM [0, 1, 3, 4, 6, 7, 9, 10, 12, 13] 6 HC ?_;simp only [opsAt, zA];refine zp ?_;refine zz08 vh rfl (fun wz hC => by have h0 := ((Hid.out hC).cell (p := ⟨w.heap.size, 0, none⟩) l1).trans e0; unfold execOp; go_simp) ?_
 refine zp ?_;refine zz08 vs rfl (fun wz hC => by have h0 := ((Hid.out hC).cell (p := ⟨w.heap.size, 1, none⟩) l1).trans e1; unfold execOp; go_simp) ?_
 refine zp ?_;refine zz08 vo rfl (fun wz hC => by have h0 := ((Hid.out hC).cell (p := ⟨w.heap.size, 2, none⟩) l1).trans e2; unfold execOp; go_simp) ?_
 refine zp ?_;refine zz08 vr rfl (fun wz hC => by have h0 := ((Hid.out hC).cell (p := ⟨w.heap.size, 3, none⟩) l1).trans e3; unfold execOp; go_simp) ?_
 refine zp ?_;refine zz08 (.int .i64 b.n) rfl (fun wz hC => by have h0 := ((Hid.out hC).cell (p := ⟨w.heap.size, 4, none⟩) l1).trans e4; unfold execOp; go_simp) ?_
 unfold wpPure;go_simp;have R1 := zH (r1.out.call (Below.refl _ _).drew);have R2 := zH (r2.out.call (Below.refl _ _).drew);have R3 := zH (r3.out.call (Below.refl _ _).drew);have R4 := zH (r4.out.call (Below.refl _ _).drew);refine zW 2 ?_;go_wp2_with fail;(with_reducible refine (q1.out _ R1).mono ?_);rintro e w3 ⟨uh, rfl, g1, hb1⟩;obtain ⟨A1, c1', rfl⟩ := g1.form;have HC1 : Hid (Below w2.heap.size w2 w3) := HC.out.trans (hb1.mono HC.out.size);have G1 := zH (g1.mono (B' := w2.heap.size) HC.out.size);replace R2 := zH (R2.out.call hb1);replace R3 := zH (R3.out.call hb1);replace R4 := zH (R4.out.call hb1);clear g1 hb1 R1;go_wp2_with fail;refine zQs (fun _ => HC1) ?_
 refine zW 5 ?_;go_wp2_with fail;(with_reducible refine (q2.out _ R2).mono ?_);rintro e w4 ⟨us, rfl, g2, hb2⟩;obtain ⟨A2, c2', rfl⟩ := g2.form;have HC2 : Hid (Below w2.heap.size w2 w4) := HC1.out.trans (hb2.mono HC1.out.size);have G2 := zH (g2.mono (B' := w2.heap.size) HC1.out.size);replace G1 := zH (G1.out.kept hb2);replace R3 := zH (R3.out.call hb2);replace R4 := zH (R4.out.call hb2);clear g2 hb2 R2;go_wp2_with fail;refine zQs (fun _ => HC2) ?_
 refine zW 8 ?_;go_wp2_with fail;(with_reducible refine (q3.out _ R3).mono ?_);rintro e w5 ⟨uo, rfl, g3, hb3⟩;obtain ⟨A3, c3', rfl⟩ := g3.form;have HC3 : Hid (Below w2.heap.size w2 w5) := HC2.out.trans (hb3.mono HC2.out.size);have G3 := zH (g3.mono (B' := w2.heap.size) HC2.out.size);replace G1 := zH (G1.out.kept hb3);replace G2 := zH (G2.out.kept hb3);replace R4 := zH (R4.out.call hb3);clear g3 hb3 R3;go_wp2_with fail;refine zQs (fun _ => HC3) ?_
 refine zW 11 ?_;go_wp2_with fail;(with_reducible refine (q4.out _ R4).mono ?_);rintro e w6 ⟨ur, rfl, g4, hb4⟩;obtain ⟨A4, c4', rfl⟩ := g4.form;have HC4 : Hid (Below w2.heap.size w2 w6) := HC3.out.trans (hb4.mono HC3.out.size);have G4 := zH (g4.mono (B' := w2.heap.size) HC3.out.size);replace G1 := zH (G1.out.kept hb4);replace G2 := zH (G2.out.kept hb4);replace G3 := zH (G3.out.kept hb4);clear g4 hb4 R4;go_wp2_with fail;refine zQs (fun _ => HC4) ?_
 have k2 : w6.heap[w.heap.size + 1]? = some (.cells BZ 27 (0, 0)) := (HC4.out.block _ (zL K2.out)).trans K2.out;have c0 := zz00 k2 0 _ rfl;have f0 := zz04 k2 0;have c1 := zz00 k2 1 _ rfl;have f1 := zz04 k2 1;have c2 := zz00 k2 2 _ rfl;have f2 := zz04 k2 2;have c3 := zz00 k2 3 _ rfl;have f3 := zz04 k2 3;have c4 := zz00 k2 4 _ rfl;have f4 := zz04 k2 4;clear k2;refine zW 14 ?_;go_wp2_with fail;refine zQs (fun _ => HC4) ?_
 refine zW 15 ?_;go_wp2_with fail;refine zQs (fun h => (by cases h)) ?_
 refine zQe ?_;have l2 := zL K2.out;go_wp2_with fail;refine bodyPost_ret (v := .agg (BF A1 c1' A2 c2' A3 c3' A4 c4' b b.n)) ?_ rfl ⟨_, rfl, ?_, ?_⟩
 ·simp [results, Tryz.results38, go_sem, c0, c1, c2, c3, c4]
 ·have s1 := fun (a : Addr) (ha : a.block < w2.heap.size) (wz : World) (u : Value) (h : BkOwn wz w2.heap.size (.agg (BF A1 c1' A2 c2' A3 c3' A4 c4' b b.n)) b) => h.setBelow ha u
  refine BkOwn.mono ?_ HB.out.size;exact s1 _ l2 _ _ (s1 _ l2 _ _ (s1 _ l2 _ _ (s1 _ l2 _ _ (s1 _ l2 _ _ ⟨_, _, _, _, rfl, G1.out, G2.out, G3.out, G4.out⟩))))
 ·exact Below.setCell (Below.setCell (Below.setCell (Below.setCell (Below.setCell (HB.out.trans (HC4.out.mono HB.out.size)) (by show w.heap.size ≤ w.heap.size + 1; omega) _) (by show w.heap.size ≤ w.heap.size + 1; omega) _) (by show w.heap.size ≤ w.heap.size + 1; omega) _) (by show w.heap.size ≤ w.heap.size + 1; omega) _) (by show w.heap.size ≤ w.heap.size + 1; omega) _
def setK (ge ne : List Int → Bool) (x : List Int) : Bool → List (List Int) → List (List Int)
 | done, [] => if done then [] else [x]
 | done, r :: t => (if !done && ge r then [x] else []) ++ ((if ne r then [r] else []) ++ setK ge ne x (done || ge r) t)
theorem zz8i {ge ne : List Int → Bool} {x : List Int} : ∀ {l : List (List Int)}, (∀ r ∈ l, ne r = true) → setK ge ne x true l = l
 | [], _ => rfl
 | r :: t, h => by
  rw [setK, h r (by simp)]
  simp only [Bool.not_true, Bool.false_and, Bool.true_or, if_true, Bool.false_eq_true, if_false, List.nil_append, List.singleton_append];rw [zz8i (fun r hr => h r (by simp [hr]))]
theorem zzak {ge ne : List Int → Bool} {x : List Int} (out : Bool) : ∀ {l : List (List Int)} {p : Nat}, p ≤ l.length → (∀ (h : Nat) (r : List Int), l[h]? = some r → (ge r = false ↔ h < p)) → (∀ (h : Nat) (r : List Int), l[h]? = some r → ne r = false → h = p) →
  setK ge ne x out l = l.take p ++ ((if out then [] else [x]) ++ l.drop (if (l[p]?).any (fun r => !ne r) then p + 1 else p))
 | [], p, hp, _, _ => by
  obtain rfl : p = 0 := by simpa using hp
  cases out <;> rfl
 | r :: t, 0, hp, h1, h2 => by
  have hg : ge r = true := by
   cases hg : ge r with
   | true => rfl
   | false => exact absurd ((h1 0 r rfl).1 hg) (Nat.lt_irrefl _)
  have ht : setK ge ne x true t = t := zz8i (fun u hu => by
   obtain ⟨k, hk⟩ := List.getElem?_of_mem hu;cases hn : ne u with
   | true => rfl
   | false => exact absurd (h2 (k + 1) u (by simpa using hk) hn) zw)
  rw [setK, hg, Bool.or_true, ht];cases out <;> cases hn : ne r <;> simp [hn]
 | r :: t, p + 1, hp, h1, h2 => by
  have hg : ge r = false := (h1 0 r rfl).2 zw;have hn : ne r = true := by
   cases hn : ne r with
   | true => rfl
   | false => exact absurd (h2 0 r rfl hn) zw
  have ih := zzak (ge := ge) (ne := ne) (x := x) out (l := t) (p := p) (by simpa using hp) (fun h u hu => by rw [h1 (h + 1) u (by simpa using hu)]; omega) (fun h u hu hn => by have := h2 (h + 1) u (by simpa using hu) hn; omega)
  rw [setK, hg, hn, Bool.or_false, ih];by_cases hc : (t[p]?).any (fun r => !ne r) = true
  ·simp [hc]
  ·simp [hc]
def setH (id : Int) (x : List Int) (out : Bool) (l : List (List Int)) : List (List Int) := setK (fun r => !decide (r.headD 0 < id)) (fun r => !isId id r) x out l
def setS (kx ky : Int) (x : List Int) (out : Bool) (l : List (List Int)) : List (List Int) := setK (fun r => !decide (r.headD 0 < kx ∨ r.headD 0 = kx ∧ r.tail.headD 0 < ky)) (fun r => !isKey kx ky r) x out l
theorem zzb0 {α : Type} {B E : α → Bool} {l : List α} {p : Nat} (hp : l.Pairwise (fun a b => E b = true → B a = true)) (hE : ∀ r ∈ l, E r = true → B r = false) (hlt : ∀ (h : Nat) (r : α), l[h]? = some r → (B r = true ↔ h < p)) (h : Nat) (r : α) (hr : l[h]? = some r) (he : E r = true) : h = p := by
 have hh := (List.getElem?_eq_some_iff.1 hr);obtain ⟨hl, hr'⟩ := hh;have h1 : ¬ h < p := fun hlt' => by
  have := (hlt h r hr).2 hlt';rw [hE r (List.mem_of_getElem? hr) he] at this;cases this
 by_cases h2 : p < h
 ·have := (List.pairwise_iff_getElem.1 hp) p h zw hl h2 (by rw [hr']; exact he)
  have := (hlt p _ (List.getElem?_eq_getElem zw)).1 this;omega
 ·omega
theorem any_not {l : List (List Int)} {p : Nat} (E : List Int → Bool) : (l[p]?).any (fun r => !(!E r)) = (match l[p]? with | some r => E r | none => false) := by
 cases l[p]? <;> simp
theorem zz33 (id : Int) (x : List Int) (out : Bool) {l : List (List Int)} {p : Nat} (hr : riseH l) (hp : p ≤ l.length) (hlt : ∀ (h : Nat) (r : List Int), l[h]? = some r → (r.headD 0 < id ↔ h < p)) :
  setH id x out l = l.take p ++ ((if out then [] else [x]) ++ l.drop (if (match l[p]? with | some r => decide (r.headD 0 = id) | none => false) then p + 1 else p)) := by
 rw [setH, zzak out hp (fun h r hh => by have := hlt h r hh; simpa using this) (fun h r hh hn => zzb0 (B := fun r : List Int => decide (r.headD 0 < id)) (E := isId id) (p := p) (l := l)
  (hr.imp fun {a b} hab => by simp only [isId, decide_eq_true_eq]; intro _; omega) (fun r _ hr => by simp only [isId, decide_eq_true_eq] at hr; simp only [decide_eq_false_iff_not]; omega) (fun h r hh => by have := hlt h r hh; simpa using this) h r hh (by simpa using hn)), any_not]
 rfl
theorem zz6t (kx ky : Int) (x : List Int) (out : Bool) {l : List (List Int)} {p : Nat} (hr : riseS l) (hp : p ≤ l.length) (hlt : ∀ (h : Nat) (r : List Int), l[h]? = some r → (stLt r kx ky ↔ h < p)) :
  setS kx ky x out l = l.take p ++ ((if out then [] else [x]) ++ l.drop (if (match l[p]? with | some r => decide (r.headD 0 = kx ∧ r.tail.headD 0 = ky) | none => false) then p + 1 else p)) := by
 unfold stLt at hlt;rw [setS, zzak out hp (fun h r hh => by rw [← hlt h r hh, Bool.not_eq_false', decide_eq_true_eq]) (fun h r hh hn => zzb0 (B := fun r : List Int => decide (r.headD 0 < kx ∨ r.headD 0 = kx ∧ r.tail.headD 0 < ky)) (E := isKey kx ky) (p := p) (l := l)
  (hr.imp fun {a b} hab => by unfold stLt at hab; simp only [isKey, decide_eq_true_eq]; intro _; omega) (fun r _ hr => by simp only [isKey, decide_eq_true_eq] at hr; simp only [decide_eq_false_iff_not]; omega) (fun h r hh => by rw [decide_eq_true_eq]; exact hlt h r hh) h r hh (by simpa using hn)), any_not]
 rfl
theorem zt45 {p : Prop} (h : p := by
 cases hlp : l[p]? with
 | none => rw [hlp] at hF; cases hF
 | some r => exact (List.getElem?_eq_some_iff.1 hlp).1) : p := h
theorem zz74 (v : Value) (l : List (List Int)) (x0 x1 x2 x3 id : Int) (w : World) (hv : Hid (RowAt w v 4 l)) (hl : l.length ≤ 999999) (hr : Hid (riseH l)) :
  Calls Tryz.prog 141 #[v, .agg #[x0, x1, x2, x3], .int .i64 id, .func (.func 125) #[] #[], .bool false] w fun e w' => ∃ v', e = .returned v' ∧ RowOwn w' w.heap.size 78 v' 4 (setH id [x0, x1, x2, x3] false l) ∧ Below w.heap.size w w' := by
 obtain ⟨p, hp, hlt, _⟩ := placeH id hr.out;cases hF : (match l[p]? with | some r => decide (r.headD 0 = id) | none => false) with
 | false =>
  replace hF := hF.symm;have e := (show setH id [x0, x1, x2, x3] false l = l.take p ++ [x0, x1, x2, x3] :: l.drop p by rw [zz33 id [x0, x1, x2, x3] false hr.out hp hlt, ← hF]; simp)
  refine (zz73 v l x0 x1 x2 x3 id p w hv hl hp hlt hF).mono ?_;rintro x w' ⟨v', rfl, h1, h2⟩;exact ⟨v', rfl, by rw [e]; exact h1, h2⟩
 | true =>
  have hpl : p < l.length := by
   exact zt45
  replace hF := hF.symm;have e := (show setH id [x0, x1, x2, x3] false l = l.take p ++ [x0, x1, x2, x3] :: l.drop (p + 1) by rw [zz33 id [x0, x1, x2, x3] false hr.out hp hlt, ← hF]; simp)
  refine (zz72 v l x0 x1 x2 x3 id p w hv hl hpl hlt hF).mono ?_;rintro x w' ⟨v', rfl, h1, h2⟩;exact ⟨v', rfl, by rw [e]; exact h1, h2⟩
theorem zt27 {p : Prop} (h : p := by
 have hl2 : w.heap.size + 2 < w0.heap.size := by have := HS0.out; omega
 exact BkOwn.mono (BkOwn.setBelow (a := ⟨_, _, _⟩) (BkOwn.setBelow (a := ⟨_, _, _⟩) (BkOwn.setBelow (a := ⟨_, _, _⟩) (BkOwn.setBelow (a := ⟨_, _, _⟩) (BkOwn.setBelow (a := ⟨_, _, _⟩) G4.out hl2 _) hl2 _) hl2 _) hl2 _) hl2 _) HB0.out.size) : p := h
theorem zt33 {p : Prop} (h : p := by
 have hl2 : w.heap.size ≤ w.heap.size + 2 := by omega
 exact Below.setCell (p := ⟨_, _, _⟩) (Below.setCell (p := ⟨_, _, _⟩) (Below.setCell (p := ⟨_, _, _⟩) (Below.setCell (p := ⟨_, _, _⟩) (Below.setCell (p := ⟨_, _, _⟩) HB4.out hl2 _) hl2 _) hl2 _) hl2 _) hl2 _) : p := h
theorem zt35 {p : Prop} (h : p := by
 rw [← hw2];exact BkOwn.setBelow (a := ⟨_, _, _⟩) (BkOwn.setBelow (a := ⟨_, _, _⟩) (BkOwn.setBelow (a := ⟨_, _, _⟩) (BkOwn.setBelow (a := ⟨_, _, _⟩) (BkOwn.setBelow (a := ⟨_, _, _⟩) ⟨_, _, _, _, rfl, g1, g2, g3, g4⟩ hlt0 _) hlt0 _) hlt0 _) hlt0 _) hlt0 _) : p := h
theorem zt40 {p : Prop} (h : p := by
 rw [← hw2];have := HB0.out.trans (hb1.mono HB0.out.size);exact Below.setCell (Below.setCell (Below.setCell (Below.setCell (Below.setCell this (Nat.le_refl _) _) (Nat.le_refl _) _) (Nat.le_refl _) _) (Nat.le_refl _) _) (Nat.le_refl _) _) : p := h
theorem zz2f (v : Value) (b : Bk) (x0 x1 x2 x3 : Int) (w : World) (hb : Hid (BkAt w v b)) (hs : Hid b.Small) (hr : Hid (riseH b.h)) :
  Calls Tryz.prog 74 #[v, .agg #[x0, x1, x2, x3]] w fun e w' => ∃ v', e = .returned v' ∧ BkOwn w' w.heap.size v' { b with h := setH x0 [x0, x1, x2, x3] false b.h } ∧ Below w.heap.size w w' := by
 obtain ⟨vh, vs, vo, vr, rfl, h1, h2, h3, h4⟩ := hb.out;obtain ⟨w0, hw0⟩ : ∃ w0, ((w.alloc (.cells #[vh, vs, vo, vr, b.n] 27)).alloc (.cells #[x0, x1, x2, x3] 78)).alloc (.cells BZ 27) = w0 := ⟨_, rfl⟩;have HB0 : Hid (Below w.heap.size w w0) := by rw [← hw0]; exact zz01 (zz01 zBa (by simp) _) zo _
 have K1 : ZB w0 w.heap.size #[vh, vs, vo, vr, b.n] 27 := by rw [← hw0]; exact zz05 (zz05 (zz02 _ _) _) _
 have K2 : ZB w0 (w.heap.size + 1) #[x0, x1, x2, x3] 78 := by rw [← hw0]; exact zz05 (zz0c _ _ _ (by simp)) _
 have K3 : ZB w0 (w.heap.size + 2) BZ 27 := by rw [← hw0]; exact zz0c _ _ _ (by simp)
 have qc := zH (zz31 _ b w0 (BkAt.call ⟨vh, vs, vo, vr, rfl, h1, h2, h3, h4⟩ HB0.out) hs);have qp := zH (fun wz v hv => zz74 v b.h x0 x1 x2 x3 x0 wz hv zsm hr)
 obtain ⟨l5, hl5⟩ : ∃ l5, setH x0 [x0, x1, x2, x3] false b.h = l5 := ⟨_, rfl⟩;rw [hl5] at qp ⊢;have hs0 : w.heap.size + 3 = w0.heap.size := by rw [← hw0]; simp
 have HS0 := zH hs0;have HW0 := zH hw0;clear hw0 h1 h2 h3 h4 hb hl5 hs0;go_in;go_wp2_with fail;rw [HW0.out];have a0 := zC K1.out;go_wp2_with fail;(with_reducible refine qc.out.mono ?_);rintro e w1 ⟨v1, rfl, ⟨uh, us, uo, ur, rfl, g1, g2, g3, g4⟩, hb1⟩;obtain ⟨A1, c1', rfl⟩ := g1.form;obtain ⟨A2, c2', rfl⟩ := g2.form;obtain ⟨A3, c3', rfl⟩ := g3.form;obtain ⟨A4, c4', rfl⟩ := g4.form;have m1 := zz06 K1.out hb1;have M2 := zK K2 hb1;have M3 := zK K3 hb1;have d0 := zC m1;have f0 := zF m1;have z0 := zC M2.out;obtain ⟨w2, hw2⟩ : ∃ w2, (((((w1.setCell ⟨w.heap.size, 0, none⟩ (.slice A1 b.h.length c1')).setCell ⟨w.heap.size, 1, none⟩ (.slice A2 b.s.length c2')).setCell ⟨w.heap.size, 2, none⟩ (.slice A3 b.o.length c3')).setCell ⟨w.heap.size, 3, none⟩ (.slice A4 b.r.length c4')).setCell ⟨w.heap.size, 4, none⟩ (.int .i64 b.n)) = w2 := ⟨_, rfl⟩;have N1 : ZB w2 w.heap.size (BF A1 c1' A2 c2' A3 c3' A4 c4' b b.n) 27 := by rw [← hw2]; exact zz0b (zz0b (zz0b (zz0b (zz0b m1 0 _) 1 _) 2 _) 3 _) 4 _
 have N2 : ZB w2 (w.heap.size + 1) #[x0, x1, x2, x3] 78 := by rw [← hw2]; exact zz09 (zz09 (zz09 (zz09 (zz09 M2.out 0 _ zw) 1 _ zw) 2 _ zw) 3 _ zw) 4 _ zw
 have N3 : ZB w2 (w.heap.size + 2) BZ 27 := by rw [← hw2]; exact zz09 (zz09 (zz09 (zz09 (zz09 M3.out 0 _ zw) 1 _ zw) 2 _ zw) 3 _ zw) 4 _ zw
 have hlt0 : w.heap.size < w0.heap.size := by have := HS0.out; omega
 have G : Hid (BkOwn w2 w0.heap.size (.agg (BF A1 c1' A2 c2' A3 c3' A4 c4' b b.n)) b) := by
  exact zt35
 have HB2 : Hid (Below w.heap.size w w2) := by
  exact zt40
 have hs2 : w0.heap.size ≤ w2.heap.size := by rw [← hw2]; simpa using hb1.size
 have HS2 := zH hs2;have HW2 := zH hw2;clear hw2 m1 g1 g2 g3 g4 hb1 hlt0 hs2;go_wp2_with fail;rw [HW2.out];clear a0 d0 f0 z0;have b0 := zC N1.out;have y0 := zC N2.out;have hrow : Hid (RowAt w2 (.slice A1 b.h.length c1') 4 b.h) := by
  obtain ⟨_, _, _, _, hh, g1, g2, g3, g4⟩ := G.out;injection hh with hh
  simp only [Array.mk.injEq, List.cons.injEq] at hh;obtain ⟨rfl, rfl, rfl, rfl, _⟩ := hh;exact g1.row
 (with_reducible refine (qp.out _ _ hrow).mono ?_);rintro e w3 ⟨v5, rfl, g5, hb3⟩
 obtain ⟨A5, c5', rfl⟩ := g5.form;have n1 := zz06 N1.out hb3;have n3 := zz06 N3.out hb3;have p0 := zC n1;have pf := zF n1;have v0 := zC n3;have vf0 := zF n3;obtain ⟨w4, hw4⟩ : ∃ w4, w3.setCell ⟨w.heap.size, 0, none⟩ (.slice A5 l5.length c5') = w4 := ⟨_, rfl⟩;have O1 : ZB w4 w.heap.size #[.slice A5 l5.length c5', .slice A2 b.s.length c2', .slice A3 b.o.length c3', .slice A4 b.r.length c4', b.n] 27 := by rw [← hw4]; exact zz0b n1 0 _
 have O3 : ZB w4 (w.heap.size + 2) BZ 27 := by rw [← hw4]; exact zz09 n3 0 _ zw
 have hlt0 : w.heap.size < w0.heap.size := by have := HS0.out; omega
 have G4 : Hid (BkOwn w4 w0.heap.size (.agg #[.slice A5 l5.length c5', .slice A2 b.s.length c2', .slice A3 b.o.length c3', .slice A4 b.r.length c4', b.n]) { b with h := l5 }) := by
  rw [← hw4];refine BkOwn.setBelow (a := ⟨_, _, _⟩) ?_ hlt0 _;obtain ⟨_, _, _, _, hh, g1, g2, g3, g4⟩ := G.out.kept hb3;injection hh with hh
  simp only [Array.mk.injEq, List.cons.injEq] at hh;obtain ⟨rfl, rfl, rfl, rfl, _⟩ := hh;exact ⟨_, _, _, _, rfl, g5.mono HS2.out, g2, g3, g4⟩
 have HB4 : Hid (Below w.heap.size w w4) := by
  rw [← hw4];exact Below.setCell (HB2.out.trans (hb3.mono HB2.out.size)) (Nat.le_refl _) _
 have HW4 := zH hw4;clear hw4 n1 n3 g5 hb3 hlt0 b0;go_wp2_with fail;rw [HW4.out];have r0 := zz00 O1.out 0 _ rfl;have t0 := zz00 O3.out 0 _ rfl;have tf0 := zz04 O3.out 0;have r1 := zz00 O1.out 1 _ rfl;have t1 := zz00 O3.out 1 _ rfl;have tf1 := zz04 O3.out 1;have r2 := zz00 O1.out 2 _ rfl;have t2 := zz00 O3.out 2 _ rfl;have tf2 := zz04 O3.out 2;have r3 := zz00 O1.out 3 _ rfl;have t3 := zz00 O3.out 3 _ rfl;have tf3 := zz04 O3.out 3;have r4 := zz00 O1.out 4 _ rfl;have t4 := zz00 O3.out 4 _ rfl;have tf4 := zz04 O3.out 4;refine bodyPost_ret (v := .agg #[.slice A5 l5.length c5', .slice A2 b.s.length c2', .slice A3 b.o.length c3', .slice A4 b.r.length c4', b.n]) ?_ rfl ⟨_, rfl, ?_, ?_⟩
 ·simp [results, Tryz.results74, go_sem, t0, t1, t2, t3, t4]
 ·exact zt27
 ·exact zt33
theorem zz7y (v : Value) (l : List (List Int)) (x0 x1 x2 kx ky : Int) (out : Bool) (w : World) (hv : Hid (RowAt w v 3 l)) (hl : l.length ≤ 999999) (hr : Hid (riseS l)) :
  Calls Tryz.prog 154 #[v, .agg #[x0, x1, x2], .agg #[kx, ky], .func (.func 134) #[] #[], .bool out] w fun e w' => ∃ v', e = .returned v' ∧ RowOwn w' w.heap.size 80 v' 3 (setS kx ky [x0, x1, x2] out l) ∧ Below w.heap.size w w' := by
 obtain ⟨p, hp, hlt, _⟩ := placeS kx ky hr.out;cases out with
 | false =>
  cases hF : (match l[p]? with | some r => decide (r.headD 0 = kx ∧ r.tail.headD 0 = ky) | none => false) with
  | false =>
   replace hF := hF.symm;have e := (show setS kx ky [x0, x1, x2] false l = l.take p ++ [x0, x1, x2] :: l.drop p by rw [zz6t kx ky [x0, x1, x2] false hr.out hp hlt, ← hF]; simp)
   refine (zz7w v l x0 x1 x2 kx ky p w hv hl hp hlt hF).mono ?_;rintro x w' ⟨v', rfl, h1, h2⟩;exact ⟨v', rfl, by rw [e]; exact h1, h2⟩
  | true =>
   have hpl : p < l.length := by
    exact zt45
   replace hF := hF.symm;have e := (show setS kx ky [x0, x1, x2] false l = l.take p ++ [x0, x1, x2] :: l.drop (p + 1) by rw [zz6t kx ky [x0, x1, x2] false hr.out hp hlt, ← hF]; simp)
   refine (zz7v v l x0 x1 x2 kx ky p w hv hl hpl hlt hF).mono ?_;rintro x w' ⟨v', rfl, h1, h2⟩;exact ⟨v', rfl, by rw [e]; exact h1, h2⟩
 | true =>
  cases hF : (match l[p]? with | some r => decide (r.headD 0 = kx ∧ r.tail.headD 0 = ky) | none => false) with
  | false =>
   replace hF := hF.symm;have e := (show setS kx ky [x0, x1, x2] true l = l by rw [zz6t kx ky [x0, x1, x2] true hr.out hp hlt, ← hF]; simp)
   refine (zz71 v l x0 x1 x2 kx ky p w hv hl hp hlt hF).mono ?_;rintro x w' ⟨v', rfl, h1, h2⟩;exact ⟨v', rfl, by rw [e]; exact h1, h2⟩
  | true =>
   have hpl : p < l.length := by
    exact zt45
   replace hF := hF.symm;have e := (show setS kx ky [x0, x1, x2] true l = l.take p ++ l.drop (p + 1) by rw [zz6t kx ky [x0, x1, x2] true hr.out hp hlt, ← hF]; simp)
   refine (zz7x v l x0 x1 x2 kx ky p w hv hl hpl hlt hF).mono ?_;rintro x w' ⟨v', rfl, h1, h2⟩;exact ⟨v', rfl, by rw [e]; exact h1, h2⟩
theorem zz46 (x0 x1 x2 : Int) (w : World) : Calls Tryz.prog 133 #[.agg #[x0, x1, x2]] w fun e w' => e = .returned (.agg #[x0, x1]) ∧ Below w.heap.size w w' := by
 have k1 := zz05 (zz02 w (.cells #[x0, x1, x2] 80)) (.cells #[.int .i64 0, .int .i64 0] 179);have c0 := zC k1;have k2 : ((w.alloc (.cells #[x0, x1, x2] 80)).alloc (.cells #[.int .i64 0, .int .i64 0] 179)).heap[w.heap.size + 1]? = some (.cells #[.int .i64 0, .int .i64 0] 179 (0, 0)) := zz0c _ _ _ (by simp)
 have d0 := zz00 k2 0 _ rfl;have d1 := zz00 k2 1 _ rfl;have f0 := zz04 k2 0;have f1 := zz04 k2 1;clear k1 k2;go_in;go_wp2_with fail;refine bodyPost_ret (v := .agg #[x0, x1]) ?_ rfl ⟨rfl, ?_⟩
 ·simp [results, Tryz.results133, go_sem, d0, d1]
 ·first
  | exact zz01 zBa zo _
  | exact Below.setCell (Below.setCell (zz01 zBa zo _) (by first | (simp; done) | omega) _) (by first | (simp; done) | omega) _
theorem zz8b (v : Value) (b : Bk) (x0 x1 x2 : Int) (w : World) (hb : Hid (BkAt w v b)) (hs : Hid b.Small) (hr : Hid (riseS b.s)) :
  Calls Tryz.prog 89 #[v, .agg #[x0, x1, x2]] w fun e w' => ∃ v', e = .returned v' ∧ BkOwn w' w.heap.size v' { b with s := setS x0 x1 [x0, x1, x2] (x2 == 0) b.s } ∧ Below w.heap.size w w' := by
 obtain ⟨vh, vs, vo, vr, rfl, h1, h2, h3, h4⟩ := hb.out;obtain ⟨w0, hw0⟩ : ∃ w0, ((w.alloc (.cells #[vh, vs, vo, vr, b.n] 27)).alloc (.cells #[x0, x1, x2] 80)).alloc (.cells BZ 27) = w0 := ⟨_, rfl⟩;have HB0 : Hid (Below w.heap.size w w0) := by rw [← hw0]; exact zz01 (zz01 zBa (by simp) _) zo _
 have K1 : ZB w0 w.heap.size #[vh, vs, vo, vr, b.n] 27 := by rw [← hw0]; exact zz05 (zz05 (zz02 _ _) _) _
 have K2 : ZB w0 (w.heap.size + 1) #[x0, x1, x2] 80 := by rw [← hw0]; exact zz05 (zz0c _ _ _ (by simp)) _
 have K3 : ZB w0 (w.heap.size + 2) BZ 27 := by rw [← hw0]; exact zz0c _ _ _ (by simp)
 have qc := zH (zz31 _ b w0 (BkAt.call ⟨vh, vs, vo, vr, rfl, h1, h2, h3, h4⟩ HB0.out) hs);have qp := zH (fun wz v hv => zz7y v b.s x0 x1 x2 x0 x1 (x2 == 0) wz hv zsm hr)
 have qk := zH (fun wz => zz46 x0 x1 x2 wz)
 obtain ⟨l5, hl5⟩ : ∃ l5, setS x0 x1 [x0, x1, x2] (x2 == 0) b.s = l5 := ⟨_, rfl⟩;rw [hl5] at qp ⊢;have hs0 : w.heap.size + 3 = w0.heap.size := by rw [← hw0]; simp
 have HS0 := zH hs0;have HW0 := zH hw0;clear hw0 h1 h2 h3 h4 hb hl5 hs0;go_in;go_wp2_with fail;rw [HW0.out];have a0 := zC K1.out;go_wp2_with fail;(with_reducible refine qc.out.mono ?_);rintro e w1 ⟨v1, rfl, ⟨uh, us, uo, ur, rfl, g1, g2, g3, g4⟩, hb1⟩;obtain ⟨A1, c1', rfl⟩ := g1.form;obtain ⟨A2, c2', rfl⟩ := g2.form;obtain ⟨A3, c3', rfl⟩ := g3.form;obtain ⟨A4, c4', rfl⟩ := g4.form;have m1 := zz06 K1.out hb1;have M2 := zK K2 hb1;have M3 := zK K3 hb1;have d0 := zC m1;have f0 := zF m1;have z0 := zC M2.out;obtain ⟨w2, hw2⟩ : ∃ w2, (((((w1.setCell ⟨w.heap.size, 0, none⟩ (.slice A1 b.h.length c1')).setCell ⟨w.heap.size, 1, none⟩ (.slice A2 b.s.length c2')).setCell ⟨w.heap.size, 2, none⟩ (.slice A3 b.o.length c3')).setCell ⟨w.heap.size, 3, none⟩ (.slice A4 b.r.length c4')).setCell ⟨w.heap.size, 4, none⟩ (.int .i64 b.n)) = w2 := ⟨_, rfl⟩;have N1 : ZB w2 w.heap.size (BF A1 c1' A2 c2' A3 c3' A4 c4' b b.n) 27 := by rw [← hw2]; exact zz0b (zz0b (zz0b (zz0b (zz0b m1 0 _) 1 _) 2 _) 3 _) 4 _
 have N2 : ZB w2 (w.heap.size + 1) #[x0, x1, x2] 80 := by rw [← hw2]; exact zz09 (zz09 (zz09 (zz09 (zz09 M2.out 0 _ zw) 1 _ zw) 2 _ zw) 3 _ zw) 4 _ zw
 have N3 : ZB w2 (w.heap.size + 2) BZ 27 := by rw [← hw2]; exact zz09 (zz09 (zz09 (zz09 (zz09 M3.out 0 _ zw) 1 _ zw) 2 _ zw) 3 _ zw) 4 _ zw
 have hlt0 : w.heap.size < w0.heap.size := by have := HS0.out; omega
 have G : Hid (BkOwn w2 w0.heap.size (.agg (BF A1 c1' A2 c2' A3 c3' A4 c4' b b.n)) b) := by
  exact zt35
 have HB2 : Hid (Below w.heap.size w w2) := by
  exact zt40
 have hs2 : w0.heap.size ≤ w2.heap.size := by rw [← hw2]; simpa using hb1.size
 have HS2 := zH hs2;have HW2 := zH hw2;clear hw2 m1 g1 g2 g3 g4 hb1 hlt0 hs2;go_wp2_with fail;rw [HW2.out];clear a0 d0 f0 z0;have b0 := zz00 N1.out 0 _ rfl;have b1 := zz00 N1.out 1 _ rfl;have b2 := zz00 N1.out 2 _ rfl;have b3 := zz00 N1.out 3 _ rfl;have b4 := zz00 N1.out 4 _ rfl;have y0 := zz00 N2.out 0 _ rfl;have y1 := zz00 N2.out 1 _ rfl;have y2 := zz00 N2.out 2 _ rfl;have hrow : Hid (RowAt w2 (.slice A2 b.s.length c2') 3 b.s) := by
  obtain ⟨_, _, _, _, hh, g1, g2, g3, g4⟩ := G.out;injection hh with hh
  simp only [Array.mk.injEq, List.cons.injEq] at hh;obtain ⟨rfl, rfl, rfl, rfl, _⟩ := hh;exact g2.row
 have hlw := zL N1.out;have hlw2 := zL N2.out;have HC : Hid (Below w2.heap.size w2 w2.drew) := (Below.refl _ _).drew;refine zz07 [10] (fun wz => Hid (Below w2.heap.size w2 wz)) 11 (zb 11 0) zk zk zk ?_
 refine zM [0, 1, 2, 3, 5, 6, 7] 4 HC ?_;simp only [opsAt, zA];refine zp ?_;refine zz08 (.slice A2 b.s.length c2') rfl (fun wz hC => by have h0 := ((Hid.out hC).cell (p := ⟨w.heap.size, 1, none⟩) hlw).trans b1; unfold execOp; go_simp) ?_
 refine zz08 (.agg #[x0, x1, x2]) rfl (fun wz hC => by have h0 := ((Hid.out hC).cell (p := ⟨w.heap.size + 1, 0, none⟩) hlw2).trans y0; have h1 := ((Hid.out hC).cell (p := ⟨w.heap.size + 1, 1, none⟩) hlw2).trans y1; have h2 := ((Hid.out hC).cell (p := ⟨w.heap.size + 1, 2, none⟩) hlw2).trans y2; unfold execOp; go_simp) ?_
 refine zz08 (.agg #[x0, x1, x2]) rfl (fun wz hC => by have h0 := ((Hid.out hC).cell (p := ⟨w.heap.size + 1, 0, none⟩) hlw2).trans y0; have h1 := ((Hid.out hC).cell (p := ⟨w.heap.size + 1, 1, none⟩) hlw2).trans y1; have h2 := ((Hid.out hC).cell (p := ⟨w.heap.size + 1, 2, none⟩) hlw2).trans y2; unfold execOp; go_simp) ?_
 refine zp ?_;refine zz08 (.int .i64 x2) rfl (fun wz hC => by have h0 := ((Hid.out hC).cell (p := ⟨w.heap.size + 1, 2, none⟩) hlw2).trans y2; unfold execOp; go_simp) ?_
 refine zp ?_;unfold wpPure;go_simp;refine zW 4 ?_;go_wp2_with fail;(with_reducible refine (qk.out _).mono ?_);rintro e w5 ⟨rfl, hbk⟩;have HC5 : Hid (Below w2.heap.size w2 w5) := HC.out.trans (hbk.mono HC.out.size);replace hrow := zH (hrow.out.call HC5.out);clear hbk;go_wp2_with fail;refine zQs (fun _ => HC5) ?_
 refine zW 8 ?_;go_wp2_with fail;(with_reducible refine (qp.out _ _ hrow).mono ?_);rintro e w3 ⟨v5, rfl, g5, hb3'⟩;obtain ⟨A5, c5', rfl⟩ := g5.form;replace g5 := g5.mono (B' := w2.heap.size) HC5.out.size;have hb3 : Below w2.heap.size w2 w3 := HC5.out.trans (hb3'.mono HC5.out.size);have HC3 := zH hb3;have n1 := zz06 N1.out hb3;have n3 := zz06 N3.out hb3;have p0 := zC n1;have pf := zF n1;have v0 := zC n3;have vf0 := zF n3;obtain ⟨w4, hw4⟩ : ∃ w4, w3.setCell ⟨w.heap.size, 1, none⟩ (.slice A5 l5.length c5') = w4 := ⟨_, rfl⟩;have O1 : ZB w4 w.heap.size #[.slice A1 b.h.length c1', .slice A5 l5.length c5', .slice A3 b.o.length c3', .slice A4 b.r.length c4', b.n] 27 := by rw [← hw4]; exact zz0b n1 1 _
 have O3 : ZB w4 (w.heap.size + 2) BZ 27 := by rw [← hw4]; exact zz09 n3 1 _ zw
 have hlt0 : w.heap.size < w0.heap.size := by have := HS0.out; omega
 have G4 : Hid (BkOwn w4 w0.heap.size (.agg #[.slice A1 b.h.length c1', .slice A5 l5.length c5', .slice A3 b.o.length c3', .slice A4 b.r.length c4', b.n]) { b with s := l5 }) := by
  rw [← hw4];refine BkOwn.setBelow (a := ⟨_, _, _⟩) ?_ hlt0 _;obtain ⟨_, _, _, _, hh, g1, g2, g3, g4⟩ := G.out.kept hb3;injection hh with hh
  simp only [Array.mk.injEq, List.cons.injEq] at hh;obtain ⟨rfl, rfl, rfl, rfl, _⟩ := hh;exact ⟨_, _, _, _, rfl, g1, g5.mono HS2.out, g3, g4⟩
 have HB4 : Hid (Below w.heap.size w w4) := by
  rw [← hw4];exact Below.setCell (HB2.out.trans (hb3.mono HB2.out.size)) (Nat.le_refl _) _
 have HW4 := zH hw4;clear hw4 n1 n3 g5 hb3 hb3' hlt0 b0 b1 b2 b3 b4;go_wp2_with fail;refine zQs (fun _ => HC3) ?_
 refine zW 9 ?_;go_wp2_with fail;refine zQs (fun _ => HC3) ?_
 refine zW 10 ?_;go_wp2_with fail;refine zQs (fun h => (by cases h)) ?_
 refine zQe ?_;rw [HW4.out];clear p0 v0 vf0;have r0 := zz00 O1.out 0 _ rfl;have t0 := zz00 O3.out 0 _ rfl;have tf0 := zz04 O3.out 0;have r1 := zz00 O1.out 1 _ rfl;have t1 := zz00 O3.out 1 _ rfl;have tf1 := zz04 O3.out 1;have r2 := zz00 O1.out 2 _ rfl;have t2 := zz00 O3.out 2 _ rfl;have tf2 := zz04 O3.out 2;have r3 := zz00 O1.out 3 _ rfl;have t3 := zz00 O3.out 3 _ rfl;have tf3 := zz04 O3.out 3;have r4 := zz00 O1.out 4 _ rfl;have t4 := zz00 O3.out 4 _ rfl;have tf4 := zz04 O3.out 4;go_wp2_with fail;refine bodyPost_ret (v := .agg #[.slice A1 b.h.length c1', .slice A5 l5.length c5', .slice A3 b.o.length c3', .slice A4 b.r.length c4', b.n]) ?_ rfl ⟨_, rfl, ?_, ?_⟩
 ·simp [results, Tryz.results89, go_sem, t0, t1, t2, t3, t4]
 ·exact zt27
 ·exact zt33
theorem zz9y (v : Value) (l : List (List Int)) (x0 x1 x2 x3 x4 x5 id : Int) (out : Bool) (w : World) (hv : Hid (RowAt w v 6 l)) (hl : l.length ≤ 999999) (hr : Hid (riseH l)) :
  Calls Tryz.prog 152 #[v, .agg #[x0, x1, x2, x3, x4, x5], .int .i64 id, .func (.func 128) #[] #[], .bool out] w fun e w' => ∃ v', e = .returned v' ∧ RowOwn w' w.heap.size 82 v' 6 (setH id [x0, x1, x2, x3, x4, x5] out l) ∧ Below w.heap.size w w' := by
 obtain ⟨p, hp, hlt, _⟩ := placeH id hr.out;cases out with
 | false =>
  cases hF : (match l[p]? with | some r => decide (r.headD 0 = id) | none => false) with
  | false =>
   replace hF := hF.symm;have e := (show setH id [x0, x1, x2, x3, x4, x5] false l = l.take p ++ [x0, x1, x2, x3, x4, x5] :: l.drop p by rw [zz33 id [x0, x1, x2, x3, x4, x5] false hr.out hp hlt, ← hF]; simp)
   refine (zz9w v l x0 x1 x2 x3 x4 x5 id p w hv hl hp hlt hF).mono ?_;rintro x w' ⟨v', rfl, h1, h2⟩;exact ⟨v', rfl, by rw [e]; exact h1, h2⟩
  | true =>
   have hpl : p < l.length := by
    exact zt45
   replace hF := hF.symm;have e := (show setH id [x0, x1, x2, x3, x4, x5] false l = l.take p ++ [x0, x1, x2, x3, x4, x5] :: l.drop (p + 1) by rw [zz33 id [x0, x1, x2, x3, x4, x5] false hr.out hp hlt, ← hF]; simp)
   refine (zz9v v l x0 x1 x2 x3 x4 x5 id p w hv hl hpl hlt hF).mono ?_;rintro x w' ⟨v', rfl, h1, h2⟩;exact ⟨v', rfl, by rw [e]; exact h1, h2⟩
 | true =>
  cases hF : (match l[p]? with | some r => decide (r.headD 0 = id) | none => false) with
  | false =>
   replace hF := hF.symm;have e := (show setH id [x0, x1, x2, x3, x4, x5] true l = l by rw [zz33 id [x0, x1, x2, x3, x4, x5] true hr.out hp hlt, ← hF]; simp)
   refine (zz7z v l x0 x1 x2 x3 x4 x5 id p w hv hl hp hlt hF).mono ?_;rintro x w' ⟨v', rfl, h1, h2⟩;exact ⟨v', rfl, by rw [e]; exact h1, h2⟩
  | true =>
   have hpl : p < l.length := by
    exact zt45
   replace hF := hF.symm;have e := (show setH id [x0, x1, x2, x3, x4, x5] true l = l.take p ++ l.drop (p + 1) by rw [zz33 id [x0, x1, x2, x3, x4, x5] true hr.out hp hlt, ← hF]; simp)
   refine (zz9x v l x0 x1 x2 x3 x4 x5 id p w hv hl hpl hlt hF).mono ?_;rintro x w' ⟨v', rfl, h1, h2⟩;exact ⟨v', rfl, by rw [e]; exact h1, h2⟩
theorem zz3o (v : Value) (b : Bk) (x0 x1 x2 x3 x4 x5 : Int) (w : World) (hb : Hid (BkAt w v b)) (hs : Hid b.Small) (hr : Hid (riseH b.o)) :
  Calls Tryz.prog 85 #[v, .agg #[x0, x1, x2, x3, x4, x5]] w fun e w' => ∃ v', e = .returned v' ∧ BkOwn w' w.heap.size v' { b with o := setH x0 [x0, x1, x2, x3, x4, x5] (x4 == 0) b.o } ∧ Below w.heap.size w w' := by
 obtain ⟨vh, vs, vo, vr, rfl, h1, h2, h3, h4⟩ := hb.out;obtain ⟨w0, hw0⟩ : ∃ w0, ((w.alloc (.cells #[vh, vs, vo, vr, b.n] 27)).alloc (.cells #[x0, x1, x2, x3, x4, x5] 82)).alloc (.cells BZ 27) = w0 := ⟨_, rfl⟩;have HB0 : Hid (Below w.heap.size w w0) := by rw [← hw0]; exact zz01 (zz01 zBa (by simp) _) zo _
 have K1 : ZB w0 w.heap.size #[vh, vs, vo, vr, b.n] 27 := by rw [← hw0]; exact zz05 (zz05 (zz02 _ _) _) _
 have K2 : ZB w0 (w.heap.size + 1) #[x0, x1, x2, x3, x4, x5] 82 := by rw [← hw0]; exact zz05 (zz0c _ _ _ (by simp)) _
 have K3 : ZB w0 (w.heap.size + 2) BZ 27 := by rw [← hw0]; exact zz0c _ _ _ (by simp)
 have qc := zH (zz31 _ b w0 (BkAt.call ⟨vh, vs, vo, vr, rfl, h1, h2, h3, h4⟩ HB0.out) hs);have qp := zH (fun wz v hv => zz9y v b.o x0 x1 x2 x3 x4 x5 x0 (x4 == 0) wz hv zsm hr)
 obtain ⟨l5, hl5⟩ : ∃ l5, setH x0 [x0, x1, x2, x3, x4, x5] (x4 == 0) b.o = l5 := ⟨_, rfl⟩;rw [hl5] at qp ⊢;have hs0 : w.heap.size + 3 = w0.heap.size := by rw [← hw0]; simp
 have HS0 := zH hs0;have HW0 := zH hw0;clear hw0 h1 h2 h3 h4 hb hl5 hs0;go_in;go_wp2_with fail;rw [HW0.out];have a0 := zC K1.out;go_wp2_with fail;(with_reducible refine qc.out.mono ?_);rintro e w1 ⟨v1, rfl, ⟨uh, us, uo, ur, rfl, g1, g2, g3, g4⟩, hb1⟩;obtain ⟨A1, c1', rfl⟩ := g1.form;obtain ⟨A2, c2', rfl⟩ := g2.form;obtain ⟨A3, c3', rfl⟩ := g3.form;obtain ⟨A4, c4', rfl⟩ := g4.form;have m1 := zz06 K1.out hb1;have M2 := zK K2 hb1;have M3 := zK K3 hb1;have d0 := zC m1;have f0 := zF m1;have z0 := zC M2.out;obtain ⟨w2, hw2⟩ : ∃ w2, (((((w1.setCell ⟨w.heap.size, 0, none⟩ (.slice A1 b.h.length c1')).setCell ⟨w.heap.size, 1, none⟩ (.slice A2 b.s.length c2')).setCell ⟨w.heap.size, 2, none⟩ (.slice A3 b.o.length c3')).setCell ⟨w.heap.size, 3, none⟩ (.slice A4 b.r.length c4')).setCell ⟨w.heap.size, 4, none⟩ (.int .i64 b.n)) = w2 := ⟨_, rfl⟩;have N1 : ZB w2 w.heap.size (BF A1 c1' A2 c2' A3 c3' A4 c4' b b.n) 27 := by rw [← hw2]; exact zz0b (zz0b (zz0b (zz0b (zz0b m1 0 _) 1 _) 2 _) 3 _) 4 _
 have N2 : ZB w2 (w.heap.size + 1) #[x0, x1, x2, x3, x4, x5] 82 := by rw [← hw2]; exact zz09 (zz09 (zz09 (zz09 (zz09 M2.out 0 _ zw) 1 _ zw) 2 _ zw) 3 _ zw) 4 _ zw
 have N3 : ZB w2 (w.heap.size + 2) BZ 27 := by rw [← hw2]; exact zz09 (zz09 (zz09 (zz09 (zz09 M3.out 0 _ zw) 1 _ zw) 2 _ zw) 3 _ zw) 4 _ zw
 have hlt0 : w.heap.size < w0.heap.size := by have := HS0.out; omega
 have G : Hid (BkOwn w2 w0.heap.size (.agg (BF A1 c1' A2 c2' A3 c3' A4 c4' b b.n)) b) := by
  exact zt35
 have HB2 : Hid (Below w.heap.size w w2) := by
  exact zt40
 have hs2 : w0.heap.size ≤ w2.heap.size := by rw [← hw2]; simpa using hb1.size
 have HS2 := zH hs2;have HW2 := zH hw2;clear hw2 m1 g1 g2 g3 g4 hb1 hlt0 hs2;go_wp2_with fail;rw [HW2.out];clear a0 d0 f0 z0;have b0 := zC N1.out;have y0 := zC N2.out;have hrow : Hid (RowAt w2 (.slice A3 b.o.length c3') 6 b.o) := by
  obtain ⟨_, _, _, _, hh, g1, g2, g3, g4⟩ := G.out;injection hh with hh
  simp only [Array.mk.injEq, List.cons.injEq] at hh;obtain ⟨rfl, rfl, rfl, rfl, _⟩ := hh;exact g3.row
 (with_reducible refine (qp.out _ _ hrow).mono ?_);rintro e w3 ⟨v5, rfl, g5, hb3⟩
 obtain ⟨A5, c5', rfl⟩ := g5.form;have n1 := zz06 N1.out hb3;have n3 := zz06 N3.out hb3;have p0 := zC n1;have pf := zF n1;have v0 := zC n3;have vf0 := zF n3;obtain ⟨w4, hw4⟩ : ∃ w4, w3.setCell ⟨w.heap.size, 2, none⟩ (.slice A5 l5.length c5') = w4 := ⟨_, rfl⟩;have O1 : ZB w4 w.heap.size #[.slice A1 b.h.length c1', .slice A2 b.s.length c2', .slice A5 l5.length c5', .slice A4 b.r.length c4', b.n] 27 := by rw [← hw4]; exact zz0b n1 2 _
 have O3 : ZB w4 (w.heap.size + 2) BZ 27 := by rw [← hw4]; exact zz09 n3 2 _ zw
 have hlt0 : w.heap.size < w0.heap.size := by have := HS0.out; omega
 have G4 : Hid (BkOwn w4 w0.heap.size (.agg #[.slice A1 b.h.length c1', .slice A2 b.s.length c2', .slice A5 l5.length c5', .slice A4 b.r.length c4', b.n]) { b with o := l5 }) := by
  rw [← hw4];refine BkOwn.setBelow (a := ⟨_, _, _⟩) ?_ hlt0 _;obtain ⟨_, _, _, _, hh, g1, g2, g3, g4⟩ := G.out.kept hb3;injection hh with hh
  simp only [Array.mk.injEq, List.cons.injEq] at hh;obtain ⟨rfl, rfl, rfl, rfl, _⟩ := hh;exact ⟨_, _, _, _, rfl, g1, g2, g5.mono HS2.out, g4⟩
 have HB4 : Hid (Below w.heap.size w w4) := by
  rw [← hw4];exact Below.setCell (HB2.out.trans (hb3.mono HB2.out.size)) (Nat.le_refl _) _
 have HW4 := zH hw4;clear hw4 n1 n3 g5 hb3 hlt0 b0;go_wp2_with fail;rw [HW4.out];have r0 := zz00 O1.out 0 _ rfl;have t0 := zz00 O3.out 0 _ rfl;have tf0 := zz04 O3.out 0;have r1 := zz00 O1.out 1 _ rfl;have t1 := zz00 O3.out 1 _ rfl;have tf1 := zz04 O3.out 1;have r2 := zz00 O1.out 2 _ rfl;have t2 := zz00 O3.out 2 _ rfl;have tf2 := zz04 O3.out 2;have r3 := zz00 O1.out 3 _ rfl;have t3 := zz00 O3.out 3 _ rfl;have tf3 := zz04 O3.out 3;have r4 := zz00 O1.out 4 _ rfl;have t4 := zz00 O3.out 4 _ rfl;have tf4 := zz04 O3.out 4;refine bodyPost_ret (v := .agg #[.slice A1 b.h.length c1', .slice A2 b.s.length c2', .slice A5 l5.length c5', .slice A4 b.r.length c4', b.n]) ?_ rfl ⟨_, rfl, ?_, ?_⟩
 ·simp [results, Tryz.results85, go_sem, t0, t1, t2, t3, t4]
 ·exact zt27
 ·exact zt33
theorem zz9u (v : Value) (l : List (List Int)) (x0 x1 id : Int) (w : World) (hv : Hid (RowAt w v 2 l)) (hl : l.length ≤ 999999) (hr : Hid (riseH l)) :
  Calls Tryz.prog 142 #[v, .agg #[x0, x1], .int .i64 id, .func (.func 131) #[] #[], .bool false] w fun e w' => ∃ v', e = .returned v' ∧ RowOwn w' w.heap.size 84 v' 2 (setH id [x0, x1] false l) ∧ Below w.heap.size w w' := by
 obtain ⟨p, hp, hlt, _⟩ := placeH id hr.out;cases hF : (match l[p]? with | some r => decide (r.headD 0 = id) | none => false) with
 | false =>
  replace hF := hF.symm;have e := (show setH id [x0, x1] false l = l.take p ++ [x0, x1] :: l.drop p by rw [zz33 id [x0, x1] false hr.out hp hlt, ← hF]; simp)
  refine (zz9t v l x0 x1 id p w hv hl hp hlt hF).mono ?_;rintro x w' ⟨v', rfl, h1, h2⟩;exact ⟨v', rfl, by rw [e]; exact h1, h2⟩
 | true =>
  have hpl : p < l.length := by
   exact zt45
  replace hF := hF.symm;have e := (show setH id [x0, x1] false l = l.take p ++ [x0, x1] :: l.drop (p + 1) by rw [zz33 id [x0, x1] false hr.out hp hlt, ← hF]; simp)
  refine (zz9s v l x0 x1 id p w hv hl hpl hlt hF).mono ?_;rintro x w' ⟨v', rfl, h1, h2⟩;exact ⟨v', rfl, by rw [e]; exact h1, h2⟩
theorem zza6 (v : Value) (b : Bk) (x0 x1 : Int) (w : World) (hb : Hid (BkAt w v b)) (hs : Hid b.Small) (hr : Hid (riseH b.r)) :
  Calls Tryz.prog 75 #[v, .agg #[x0, x1]] w fun e w' => ∃ v', e = .returned v' ∧ BkOwn w' w.heap.size v' { b with r := setH x0 [x0, x1] false b.r } ∧ Below w.heap.size w w' := by
 obtain ⟨vh, vs, vo, vr, rfl, h1, h2, h3, h4⟩ := hb.out;obtain ⟨w0, hw0⟩ : ∃ w0, ((w.alloc (.cells #[vh, vs, vo, vr, b.n] 27)).alloc (.cells #[x0, x1] 84)).alloc (.cells BZ 27) = w0 := ⟨_, rfl⟩;have HB0 : Hid (Below w.heap.size w w0) := by rw [← hw0]; exact zz01 (zz01 zBa (by simp) _) zo _
 have K1 : ZB w0 w.heap.size #[vh, vs, vo, vr, b.n] 27 := by rw [← hw0]; exact zz05 (zz05 (zz02 _ _) _) _
 have K2 : ZB w0 (w.heap.size + 1) #[x0, x1] 84 := by rw [← hw0]; exact zz05 (zz0c _ _ _ (by simp)) _
 have K3 : ZB w0 (w.heap.size + 2) BZ 27 := by rw [← hw0]; exact zz0c _ _ _ (by simp)
 have qc := zH (zz31 _ b w0 (BkAt.call ⟨vh, vs, vo, vr, rfl, h1, h2, h3, h4⟩ HB0.out) hs);have qp := zH (fun wz v hv => zz9u v b.r x0 x1 x0 wz hv zsm hr)
 obtain ⟨l5, hl5⟩ : ∃ l5, setH x0 [x0, x1] false b.r = l5 := ⟨_, rfl⟩;rw [hl5] at qp ⊢;have hs0 : w.heap.size + 3 = w0.heap.size := by rw [← hw0]; simp
 have HS0 := zH hs0;have HW0 := zH hw0;clear hw0 h1 h2 h3 h4 hb hl5 hs0;go_in;go_wp2_with fail;rw [HW0.out];have a0 := zC K1.out;go_wp2_with fail;(with_reducible refine qc.out.mono ?_);rintro e w1 ⟨v1, rfl, ⟨uh, us, uo, ur, rfl, g1, g2, g3, g4⟩, hb1⟩;obtain ⟨A1, c1', rfl⟩ := g1.form;obtain ⟨A2, c2', rfl⟩ := g2.form;obtain ⟨A3, c3', rfl⟩ := g3.form;obtain ⟨A4, c4', rfl⟩ := g4.form;have m1 := zz06 K1.out hb1;have M2 := zK K2 hb1;have M3 := zK K3 hb1;have d0 := zC m1;have f0 := zF m1;have z0 := zC M2.out;obtain ⟨w2, hw2⟩ : ∃ w2, (((((w1.setCell ⟨w.heap.size, 0, none⟩ (.slice A1 b.h.length c1')).setCell ⟨w.heap.size, 1, none⟩ (.slice A2 b.s.length c2')).setCell ⟨w.heap.size, 2, none⟩ (.slice A3 b.o.length c3')).setCell ⟨w.heap.size, 3, none⟩ (.slice A4 b.r.length c4')).setCell ⟨w.heap.size, 4, none⟩ (.int .i64 b.n)) = w2 := ⟨_, rfl⟩;have N1 : ZB w2 w.heap.size (BF A1 c1' A2 c2' A3 c3' A4 c4' b b.n) 27 := by rw [← hw2]; exact zz0b (zz0b (zz0b (zz0b (zz0b m1 0 _) 1 _) 2 _) 3 _) 4 _
 have N2 : ZB w2 (w.heap.size + 1) #[x0, x1] 84 := by rw [← hw2]; exact zz09 (zz09 (zz09 (zz09 (zz09 M2.out 0 _ zw) 1 _ zw) 2 _ zw) 3 _ zw) 4 _ zw
 have N3 : ZB w2 (w.heap.size + 2) BZ 27 := by rw [← hw2]; exact zz09 (zz09 (zz09 (zz09 (zz09 M3.out 0 _ zw) 1 _ zw) 2 _ zw) 3 _ zw) 4 _ zw
 have hlt0 : w.heap.size < w0.heap.size := by have := HS0.out; omega
 have G : Hid (BkOwn w2 w0.heap.size (.agg (BF A1 c1' A2 c2' A3 c3' A4 c4' b b.n)) b) := by
  exact zt35
 have HB2 : Hid (Below w.heap.size w w2) := by
  exact zt40
 have hs2 : w0.heap.size ≤ w2.heap.size := by rw [← hw2]; simpa using hb1.size
 have HS2 := zH hs2;have HW2 := zH hw2;clear hw2 m1 g1 g2 g3 g4 hb1 hlt0 hs2;go_wp2_with fail;rw [HW2.out];clear a0 d0 f0 z0;have b0 := zC N1.out;have y0 := zC N2.out;have hrow : Hid (RowAt w2 (.slice A4 b.r.length c4') 2 b.r) := by
  obtain ⟨_, _, _, _, hh, g1, g2, g3, g4⟩ := G.out;injection hh with hh
  simp only [Array.mk.injEq, List.cons.injEq] at hh;obtain ⟨rfl, rfl, rfl, rfl, _⟩ := hh;exact g4.row
 (with_reducible refine (qp.out _ _ hrow).mono ?_);rintro e w3 ⟨v5, rfl, g5, hb3⟩
 obtain ⟨A5, c5', rfl⟩ := g5.form;have n1 := zz06 N1.out hb3;have n3 := zz06 N3.out hb3;have p0 := zC n1;have pf := zF n1;have v0 := zC n3;have vf0 := zF n3;obtain ⟨w4, hw4⟩ : ∃ w4, w3.setCell ⟨w.heap.size, 3, none⟩ (.slice A5 l5.length c5') = w4 := ⟨_, rfl⟩;have O1 : ZB w4 w.heap.size #[.slice A1 b.h.length c1', .slice A2 b.s.length c2', .slice A3 b.o.length c3', .slice A5 l5.length c5', b.n] 27 := by rw [← hw4]; exact zz0b n1 3 _
 have O3 : ZB w4 (w.heap.size + 2) BZ 27 := by rw [← hw4]; exact zz09 n3 3 _ zw
 have hlt0 : w.heap.size < w0.heap.size := by have := HS0.out; omega
 have G4 : Hid (BkOwn w4 w0.heap.size (.agg #[.slice A1 b.h.length c1', .slice A2 b.s.length c2', .slice A3 b.o.length c3', .slice A5 l5.length c5', b.n]) { b with r := l5 }) := by
  rw [← hw4];refine BkOwn.setBelow (a := ⟨_, _, _⟩) ?_ hlt0 _;obtain ⟨_, _, _, _, hh, g1, g2, g3, g4⟩ := G.out.kept hb3;injection hh with hh
  simp only [Array.mk.injEq, List.cons.injEq] at hh;obtain ⟨rfl, rfl, rfl, rfl, _⟩ := hh;exact ⟨_, _, _, _, rfl, g1, g2, g3, g5.mono HS2.out⟩
 have HB4 : Hid (Below w.heap.size w w4) := by
  rw [← hw4];exact Below.setCell (HB2.out.trans (hb3.mono HB2.out.size)) (Nat.le_refl _) _
 have HW4 := zH hw4;clear hw4 n1 n3 g5 hb3 hlt0 b0;go_wp2_with fail;rw [HW4.out];have r0 := zz00 O1.out 0 _ rfl;have t0 := zz00 O3.out 0 _ rfl;have tf0 := zz04 O3.out 0;have r1 := zz00 O1.out 1 _ rfl;have t1 := zz00 O3.out 1 _ rfl;have tf1 := zz04 O3.out 1;have r2 := zz00 O1.out 2 _ rfl;have t2 := zz00 O3.out 2 _ rfl;have tf2 := zz04 O3.out 2;have r3 := zz00 O1.out 3 _ rfl;have t3 := zz00 O3.out 3 _ rfl;have tf3 := zz04 O3.out 3;have r4 := zz00 O1.out 4 _ rfl;have t4 := zz00 O3.out 4 _ rfl;have tf4 := zz04 O3.out 4;refine bodyPost_ret (v := .agg #[.slice A1 b.h.length c1', .slice A2 b.s.length c2', .slice A3 b.o.length c3', .slice A5 l5.length c5', b.n]) ?_ rfl ⟨_, rfl, ?_, ?_⟩
 ·simp [results, Tryz.results75, go_sem, t0, t1, t2, t3, t4]
 ·exact zt27
 ·exact zt33
def riseHB : List (List Int) → Bool
 | a :: b :: t => decide (a.headD 0 < b.headD 0) && riseHB (b :: t)
 | _ => true
def stLt' (a b : List Int) : Prop := a.headD 0 < b.headD 0 ∨ a.headD 0 = b.headD 0 ∧ a.tail.headD 0 < b.tail.headD 0
instance (a b : List Int) : Decidable (stLt' a b) := by unfold stLt'; infer_instance
def riseSB : List (List Int) → Bool
 | a :: b :: t => decide (stLt' a b) && riseSB (b :: t)
 | _ => true
theorem zz6v : ∀ (l : List (List Int)), riseHB l = true ↔ riseH l
 | [] => by simp [riseHB, riseH]
 | [a] => by simp [riseHB, riseH]
 | a :: b :: t => by
  rw [riseHB, Bool.and_eq_true, zz6v (b :: t), decide_eq_true_eq];unfold riseH;rw [List.pairwise_cons (a := a)];constructor
  ·rintro ⟨h1, h2⟩
   refine ⟨fun x hx => ?_, h2⟩
   rcases List.mem_cons.1 hx with rfl | hx
   ·exact h1
   ·have := (List.pairwise_cons.1 h2).1 x hx; omega
  ·rintro ⟨h1, h2⟩
   exact ⟨h1 b (by simp), h2⟩
theorem zz6u : ∀ (l : List (List Int)), riseSB l = true ↔ riseS l
 | [] => by simp [riseSB, riseS]
 | [a] => by simp [riseSB, riseS]
 | a :: b :: t => by
  rw [riseSB, Bool.and_eq_true, zz6u (b :: t), decide_eq_true_eq];unfold riseS;rw [List.pairwise_cons (a := a)];constructor
  ·rintro ⟨h1, h2⟩
   refine ⟨fun x hx => ?_, h2⟩
   rcases List.mem_cons.1 hx with rfl | hx
   ·exact h1
   ·have := (List.pairwise_cons.1 h2).1 x hx; unfold stLt at this ⊢; unfold stLt' at h1; omega
  ·rintro ⟨h1, h2⟩
   exact ⟨h1 b (by simp), h2⟩
theorem zzbn {α : Type} {l : List α} {i : Nat} {a b : α} (ha : l[i]? = some a) (hb : l[i + 1]? = some b) : l.drop i = a :: b :: l.drop (i + 2) := by
 obtain ⟨h1, rfl⟩ := List.getElem?_eq_some_iff.1 ha;obtain ⟨h2, rfl⟩ := List.getElem?_eq_some_iff.1 hb;rw [List.drop_eq_getElem_cons h1, List.drop_eq_getElem_cons h2]
theorem zz3k {l : List (List Int)} {i : Nat} {a b : List Int} (ha : l[i]? = some a) (hb : l[i + 1]? = some b) : riseHB (l.drop i) = (decide (a.headD 0 < b.headD 0) && riseHB (l.drop (i + 1))) := by
 rw [zzbn ha hb];obtain ⟨h2, rfl⟩ := List.getElem?_eq_some_iff.1 hb;rw [List.drop_eq_getElem_cons h2, riseHB]
theorem zz9j {l : List (List Int)} {i : Nat} {a b : List Int} (ha : l[i]? = some a) (hb : l[i + 1]? = some b) : riseSB (l.drop i) = (decide (stLt' a b) && riseSB (l.drop (i + 1))) := by
 rw [zzbn ha hb];obtain ⟨h2, rfl⟩ := List.getElem?_eq_some_iff.1 hb;rw [List.drop_eq_getElem_cons h2, riseSB]
theorem zzar {l : List (List Int)} {i : Nat} (h : l.length ≤ i + 1) : riseHB (l.drop i) = true := by
 have : (l.drop i).length ≤ 1 := by simp; omega
 match l.drop i, this with
 | [], _ => rfl
 | [a], _ => rfl
theorem zzaq {l : List (List Int)} {i : Nat} (h : l.length ≤ i + 1) : riseSB (l.drop i) = true := by
 have : (l.drop i).length ≤ 1 := by simp; omega
 match l.drop i, this with
 | [], _ => rfl
 | [a], _ => rfl
def Bk.riseB (b : Bk) : Bool := riseHB b.h && (riseHB b.o && (riseHB b.r && riseSB b.s))
theorem Bk.riseB_iff (b : Bk) : b.riseB = true ↔ b.Rise := by
 unfold Bk.riseB Bk.Rise;simp only [Bool.and_eq_true, zz6v, zz6u]
end
end Go.Proofs.YtajogedbacpohaaGreatDoor
