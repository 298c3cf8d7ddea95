/- Books: the reference's Holder, Stake, Open, Rate; Great. PRINTED BY genBookJ.py. -/
import Derived.Test.YtfkfpppiikgjbaaBookI
namespace Go.Proofs.Ytfkfpppiikgjbaa
open Go Go.RowKit
set_option linter.unusedVariables false
set_option linter.unusedSimpArgs false

theorem find_drop {α : Type} {E : α → Bool} {l : List α} {i : Nat} {r : α} (h : l[i]? = some r) : (l.drop i).find? E = if E r then some r else (l.drop (i + 1)).find? E := by
  obtain ⟨hi, rfl⟩ := List.getElem?_eq_some_iff.1 h
  rw [List.drop_eq_getElem_cons hi]
  cases he : E l[i] with
  | true => rw [List.find?_cons_of_pos he]; rfl
  | false => rw [List.find?_cons_of_neg (by simp [he])]; rfl

set_option maxRecDepth 100000 in
set_option maxHeartbeats 4000000 in
theorem rHolder_any (v : Value) (b : Bk) (id x0 x1 x2 x3 : Int) (F : Bool) (w : World) (hb : Hid (BkAt w v b)) (hl : b.h.length ≤ 1000000) (hx : Hid (recOf 4 (b.h.find? (isId id)) = ([x0, x1, x2, x3], F))) :
    Calls Try.prog 35 #[v, .int .i64 id] w fun e w' => e = .returned (.tuple #[.agg #[.int .i64 x0, .int .i64 x1, .int .i64 x2, .int .i64 x3], .bool F]) ∧ Below w.heap.size w w' := by
  obtain ⟨vh, vs, vo, vr, rfl, h1, h2, h3, h4⟩ := hb.out
  obtain ⟨A, c, rfl, hi⟩ := h1.rec'
  clear hi
  have HB0 : Hid (Below w.heap.size w ((w.alloc (.cells #[.slice A b.h.length c, vs, vo, vr, .int .i64 b.n] 37)).alloc (.cells #[.int .i64 0, .int .i64 0, .int .i64 0, .int .i64 0] 39))) := below_alloc (below_alloc (Below.refl _ _) (Nat.le_refl _) _) (by first | (simp; done) | (simp; omega)) _
  obtain ⟨A', c', hA', hi⟩ := (h1.call HB0.out).rec'
  injection hA' with hA1 _ hA3
  subst hA1 hA3
  have HI := Lib.hid hi
  clear hb h1 h2 h3 h4 hi
  have cb := cells_of_blk (blk_old (heap_new w (.cells #[.slice A b.h.length c, vs, vo, vr, .int .i64 b.n] 37)) (.cells #[.int .i64 0, .int .i64 0, .int .i64 0, .int .i64 0] 39)) 0 _ rfl
  have k1 : ((w.alloc (.cells #[.slice A b.h.length c, vs, vo, vr, .int .i64 b.n] 37)).alloc (.cells #[.int .i64 0, .int .i64 0, .int .i64 0, .int .i64 0] 39)).heap[w.heap.size + 1]? = some (.cells #[.int .i64 0, .int .i64 0, .int .i64 0, .int .i64 0] 39 (0, 0)) := by have := heap_new (w.alloc (.cells #[.slice A b.h.length c, vs, vo, vr, .int .i64 b.n] 37)) (.cells #[.int .i64 0, .int .i64 0, .int .i64 0, .int .i64 0] 39); simpa using this
  have d0 := cells_of_blk k1 0 _ rfl
  have f0 := free_of_blk k1 0
  have d1 := cells_of_blk k1 1 _ rfl
  have f1 := free_of_blk k1 1
  have d2 := cells_of_blk k1 2 _ rfl
  have f2 := free_of_blk k1 2
  have d3 := cells_of_blk k1 3 _ rfl
  have f3 := free_of_blk k1 3
  clear k1
  go_enter Try.func35, Try.ntmps35
  go_wp2_with fail
  go_loopw [6] (fun s6 wr => ∃ i : Nat, s6 = .int .i64 i ∧ wr = (w.alloc (.cells #[.slice A b.h.length c, vs, vo, vr, .int .i64 b.n] 37)).alloc (.cells #[.int .i64 0, .int .i64 0, .int .i64 0, .int .i64 0] 39) ∧ Hid (i ≤ b.h.length) ∧ Hid (recOf 4 ((b.h.drop i).find? (isId id)) = ([x0, x1, x2, x3], F))) (fun s6 _ => b.h.length - (intOf s6).toNat)
  case atStart => exact ⟨0, rfl, rfl, Nat.zero_le _, by simpa using hx⟩
  case round =>
    obtain ⟨i, rfl, rfl, hil, hrest⟩ := hrel
    have hil := hil.out
    by_cases hin : i < b.h.length
    · have tn : decide ((i : Int) < (b.h.length : Int)) = true := decide_eq_true (by omega)
      have hge : b.h[i]? = some b.h[i] := List.getElem?_eq_getElem hin
      obtain ⟨hk, b0, o0, hA0, hbl, hc⟩ := HI.out i _ hge
      subst hA0
      have HGE := Lib.hid hge
      clear hge
      generalize b.h[i] = r at *
      obtain ⟨y0, y1, y2, y3, rfl⟩ : ∃ y0 y1 y2 y3, r = [y0, y1, y2, y3] := by
        match r, hk with
        | [y0, y1, y2, y3], _ => exact ⟨y0, y1, y2, y3, rfl⟩
      have c0 := hc 0 _ rfl
      have c1 := hc 1 _ rfl
      have c2 := hc 2 _ rfl
      have c3 := hc 3 _ rfl
      simp only [Nat.add_zero] at c0
      clear hc hk
      by_cases hq : y0 = id
      · have t0' : (y0 == id) = true := by simp [hq]
        have he : isId id [y0, y1, y2, y3] = true := decide_eq_true hq
        rw [find_drop HGE.out, he] at hrest
        have hx := hrest.out
        simp only [if_true, recOf] at hx
        injection hx with h1 h2
        injection h1 with g0 t0
        injection t0 with g1 t1
        injection t1 with g2 t2
        injection t2 with g3 t3
        subst h2 g0 g1 g2 g3
        clear hrest he HGE hq t3
        go_wp2_with fail
        refine bodyPost_ret (v := .tuple #[.agg #[.int .i64 y0, .int .i64 y1, .int .i64 y2, .int .i64 y3], .bool true]) ?_ rfl ⟨rfl, ?_⟩
        · rw [results_cell_tmp rfl]; go_simp
        · exact below_alloc (below_alloc (Below.refl _ _) (Nat.le_refl _) _) (by first | (simp; done) | (simp; omega)) _
      · have t0' : (y0 == id) = false := by simp [hq]
        have he : isId id [y0, y1, y2, y3] = false := decide_eq_false hq
        rw [find_drop HGE.out, he] at hrest
        clear he HGE hq
        go_wp2_with fail
        go_roundw
        case rel => exact ⟨i + 1, by go_num, by first | rfl | trivial, by show _ ≤ _; omega, by simpa using hrest⟩
        case measure => simp [intOf]; omega
    · have tn : decide ((i : Int) < (b.h.length : Int)) = false := decide_eq_false (by omega)
      have hx := hrest.out
      rw [List.drop_eq_nil_of_le (by omega)] at hx
      simp only [List.find?_nil, recOf, List.replicate] at hx
      injection hx with h1 h2
      injection h1 with g0 t0
      injection t0 with g1 t1
      injection t1 with g2 t2
      injection t2 with g3 t3
      subst h2 g0 g1 g2 g3
      clear hrest hx t3
      go_wp2_with fail
      refine bodyPost_ret (v := .tuple #[.agg #[.int .i64 0, .int .i64 0, .int .i64 0, .int .i64 0], .bool false]) ?_ rfl ⟨rfl, ?_⟩
      · rw [results_cell_tmp rfl]; go_simp
      · exact below_alloc (below_alloc (Below.refl _ _) (Nat.le_refl _) _) (by first | (simp; done) | (simp; omega)) _

set_option maxRecDepth 100000 in
set_option maxHeartbeats 4000000 in
theorem rStake_any (v : Value) (b : Bk) (kx ky x0 x1 x2 : Int) (F : Bool) (w : World) (hb : Hid (BkAt w v b)) (hl : b.s.length ≤ 1000000) (hx : Hid (recOf 3 (b.s.find? (isKey kx ky)) = ([x0, x1, x2], F))) :
    Calls Try.prog 89 #[v, .int .i64 kx, .int .i64 ky] w fun e w' => e = .returned (.int .i64 x2) ∧ Below w.heap.size w w' := by
  obtain ⟨vh, vs, vo, vr, rfl, h1, h2, h3, h4⟩ := hb.out
  obtain ⟨A, c, rfl, hi⟩ := h2.rec'
  clear hi
  have HB0 : Hid (Below w.heap.size w (w.alloc (.cells #[vh, .slice A b.s.length c, vo, vr, .int .i64 b.n] 37))) := below_alloc (Below.refl _ _) (Nat.le_refl _) _
  obtain ⟨A', c', hA', hi⟩ := (h2.call HB0.out).rec'
  injection hA' with hA1 _ hA3
  subst hA1 hA3
  have HI := Lib.hid hi
  clear hb h1 h2 h3 h4 hi
  have cb := cells_of_blk (heap_new w (.cells #[vh, .slice A b.s.length c, vo, vr, .int .i64 b.n] 37)) 1 _ rfl
  go_enter Try.func89, Try.ntmps89
  go_wp2_with fail
  go_loopw [7] (fun s6 wr => ∃ i : Nat, s6 = .int .i64 i ∧ wr = w.alloc (.cells #[vh, .slice A b.s.length c, vo, vr, .int .i64 b.n] 37) ∧ Hid (i ≤ b.s.length) ∧ Hid (recOf 3 ((b.s.drop i).find? (isKey kx ky)) = ([x0, x1, x2], F))) (fun s6 _ => b.s.length - (intOf s6).toNat)
  case atStart => exact ⟨0, rfl, rfl, Nat.zero_le _, by simpa using hx⟩
  case round =>
    obtain ⟨i, rfl, rfl, hil, hrest⟩ := hrel
    have hil := hil.out
    by_cases hin : i < b.s.length
    · have tn : decide ((i : Int) < (b.s.length : Int)) = true := decide_eq_true (by omega)
      have hge : b.s[i]? = some b.s[i] := List.getElem?_eq_getElem hin
      obtain ⟨hk, b0, o0, hA0, hbl, hc⟩ := HI.out i _ hge
      subst hA0
      have HGE := Lib.hid hge
      clear hge
      generalize b.s[i] = r at *
      obtain ⟨y0, y1, y2, rfl⟩ : ∃ y0 y1 y2, r = [y0, y1, y2] := by
        match r, hk with
        | [y0, y1, y2], _ => exact ⟨y0, y1, y2, rfl⟩
      have c0 := hc 0 _ rfl
      have c1 := hc 1 _ rfl
      have c2 := hc 2 _ rfl
      simp only [Nat.add_zero] at c0
      clear hc hk
      by_cases hq0 : y0 = kx
      · have t0' : (y0 == kx) = true := by simp [hq0]
        by_cases hq : y1 = ky
        · have t1' : (y1 == ky) = true := by simp [hq]
          have he : isKey kx ky [y0, y1, y2] = true := decide_eq_true ⟨hq0, hq⟩
          rw [find_drop HGE.out, he] at hrest
          have hx := hrest.out
          simp only [if_true, recOf] at hx
          injection hx with h1 h2
          injection h1 with g0 t0
          injection t0 with g1 t1
          injection t1 with g2 t2
          subst h2 g0 g1 g2
          clear hrest he HGE hq hq0 t2
          go_wp2_with fail
          go_ret
          exact ⟨rfl, HB0.out⟩
        · have t1' : (y1 == ky) = false := by simp [hq]
          have he : isKey kx ky [y0, y1, y2] = false := decide_eq_false (fun h => hq h.2)
          rw [find_drop HGE.out, he] at hrest
          clear he HGE hq hq0
          go_wp2_with fail
          go_roundw
          case rel => exact ⟨i + 1, by go_num, by first | rfl | trivial, by show _ ≤ _; omega, by simpa using hrest⟩
          case measure => simp [intOf]; omega
      · have t0' : (y0 == kx) = false := by simp [hq0]
        have he : isKey kx ky [y0, y1, y2] = false := decide_eq_false (fun h => hq0 h.1)
        rw [find_drop HGE.out, he] at hrest
        clear he HGE hq0
        go_wp2_with fail
        go_roundw
        case rel => exact ⟨i + 1, by go_num, by first | rfl | trivial, by show _ ≤ _; omega, by simpa using hrest⟩
        case measure => simp [intOf]; omega
    · have tn : decide ((i : Int) < (b.s.length : Int)) = false := decide_eq_false (by omega)
      have hx := hrest.out
      rw [List.drop_eq_nil_of_le (by omega)] at hx
      simp only [List.find?_nil, recOf, List.replicate] at hx
      injection hx with h1 h2
      injection h1 with g0 t0
      injection t0 with g1 t1
      injection t1 with g2 t2
      subst h2 g0 g1 g2
      clear hrest hx t2
      go_wp2_with fail
      go_ret
      exact ⟨rfl, HB0.out⟩

set_option maxRecDepth 100000 in
set_option maxHeartbeats 4000000 in
theorem rRate_any (v : Value) (b : Bk) (id x0 x1 : Int) (F : Bool) (w : World) (hb : Hid (BkAt w v b)) (hl : b.r.length ≤ 1000000) (hx : Hid (recOf 2 (b.r.find? (isId id)) = ([x0, x1], F))) :
    Calls Try.prog 82 #[v, .int .i64 id] w fun e w' => e = .returned (.tuple #[.int .i64 x1, .bool F]) ∧ Below w.heap.size w w' := by
  obtain ⟨vh, vs, vo, vr, rfl, h1, h2, h3, h4⟩ := hb.out
  obtain ⟨A, c, rfl, hi⟩ := h4.rec'
  clear hi
  have HB0 : Hid (Below w.heap.size w (w.alloc (.cells #[vh, vs, vo, .slice A b.r.length c, .int .i64 b.n] 37))) := below_alloc (Below.refl _ _) (Nat.le_refl _) _
  obtain ⟨A', c', hA', hi⟩ := (h4.call HB0.out).rec'
  injection hA' with hA1 _ hA3
  subst hA1 hA3
  have HI := Lib.hid hi
  clear hb h1 h2 h3 h4 hi
  have cb := cells_of_blk (heap_new w (.cells #[vh, vs, vo, .slice A b.r.length c, .int .i64 b.n] 37)) 3 _ rfl
  go_enter Try.func82, Try.ntmps82
  go_wp2_with fail
  go_loopw [6] (fun s6 wr => ∃ i : Nat, s6 = .int .i64 i ∧ wr = w.alloc (.cells #[vh, vs, vo, .slice A b.r.length c, .int .i64 b.n] 37) ∧ Hid (i ≤ b.r.length) ∧ Hid (recOf 2 ((b.r.drop i).find? (isId id)) = ([x0, x1], F))) (fun s6 _ => b.r.length - (intOf s6).toNat)
  case atStart => exact ⟨0, rfl, rfl, Nat.zero_le _, by simpa using hx⟩
  case round =>
    obtain ⟨i, rfl, rfl, hil, hrest⟩ := hrel
    have hil := hil.out
    by_cases hin : i < b.r.length
    · have tn : decide ((i : Int) < (b.r.length : Int)) = true := decide_eq_true (by omega)
      have hge : b.r[i]? = some b.r[i] := List.getElem?_eq_getElem hin
      obtain ⟨hk, b0, o0, hA0, hbl, hc⟩ := HI.out i _ hge
      subst hA0
      have HGE := Lib.hid hge
      clear hge
      generalize b.r[i] = r at *
      obtain ⟨y0, y1, rfl⟩ : ∃ y0 y1, r = [y0, y1] := by
        match r, hk with
        | [y0, y1], _ => exact ⟨y0, y1, rfl⟩
      have c0 := hc 0 _ rfl
      have c1 := hc 1 _ rfl
      simp only [Nat.add_zero] at c0
      clear hc hk
      by_cases hq : y0 = id
      · have t0' : (y0 == id) = true := by simp [hq]
        have he : isId id [y0, y1] = true := decide_eq_true hq
        rw [find_drop HGE.out, he] at hrest
        have hx := hrest.out
        simp only [if_true, recOf] at hx
        injection hx with h1 h2
        injection h1 with g0 t0
        injection t0 with g1 t1
        subst h2 g0 g1
        clear hrest he HGE hq t1
        go_wp2_with fail
        go_ret2
        exact ⟨rfl, HB0.out⟩
      · have t0' : (y0 == id) = false := by simp [hq]
        have he : isId id [y0, y1] = false := decide_eq_false hq
        rw [find_drop HGE.out, he] at hrest
        clear he HGE hq
        go_wp2_with fail
        go_roundw
        case rel => exact ⟨i + 1, by go_num, by first | rfl | trivial, by show _ ≤ _; omega, by simpa using hrest⟩
        case measure => simp [intOf]; omega
    · have tn : decide ((i : Int) < (b.r.length : Int)) = false := decide_eq_false (by omega)
      have hx := hrest.out
      rw [List.drop_eq_nil_of_le (by omega)] at hx
      simp only [List.find?_nil, recOf, List.replicate] at hx
      injection hx with h1 h2
      injection h1 with g0 t0
      injection t0 with g1 t1
      subst h2 g0 g1
      clear hrest hx t1
      go_wp2_with fail
      go_ret2
      exact ⟨rfl, HB0.out⟩

end Go.Proofs.Ytfkfpppiikgjbaa
