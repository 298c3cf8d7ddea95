/- Books: Same; the reference's there and May. PRINTED BY genBookY.py. -/
import Derived.Test.YtfkfpppiikgjbaaBookX
import Derived.Test.YtfkfpppiikgjbaaBookW
namespace Go.Proofs.Ytfkfpppiikgjbaa
open Go Go.RowKit
set_option linter.unusedVariables false
set_option linter.unusedSimpArgs false

set_option maxRecDepth 100000 in
set_option maxHeartbeats 4000000 in
theorem BkSame_any (v v' : Value) (b c : Bk) (w : World) (hb : Hid (BkAt w v b)) (hc : Hid (BkAt w v' c)) (hs : Hid b.Small) (hs' : Hid c.Small) :
    Calls Try.prog 29 #[v, v'] w fun e w' => e = .returned (.bool (sameB b c)) ∧ Below w.heap.size w w' := by
  obtain ⟨vh, vs, vo, vr, rfl, g1, g2, g3, g4⟩ := hb.out
  obtain ⟨vh', vs', vo', vr', rfl, g1', g2', g3', g4'⟩ := hc.out
  obtain ⟨w1, hw1⟩ : ∃ w1, (w.alloc (.cells #[vh, vs, vo, vr, .int .i64 b.n] 37)).alloc (.cells #[vh', vs', vo', vr', .int .i64 c.n] 37) = w1 := ⟨_, rfl⟩
  have HB1 : Hid (Below w.heap.size w w1) := by rw [← hw1]; exact below_alloc (below_alloc (Below.refl _ _) (Nat.le_refl _) _) (by simp) _
  have K1 : Hid (w1.heap[w.heap.size]? = some (.cells #[vh, vs, vo, vr, .int .i64 b.n] 37 (0, 0))) := by rw [← hw1]; exact blk_old (heap_new _ _) _
  have J1 : Hid (w1.heap[w.heap.size + 1]? = some (.cells #[vh', vs', vo', vr', .int .i64 c.n] 37 (0, 0))) := by rw [← hw1]; exact blk_new _ _ _ (by simp)
  have R1 := Lib.hid (g1.call HB1.out)
  have R2 := Lib.hid (g2.call HB1.out)
  have R3 := Lib.hid (g3.call HB1.out)
  have R4 := Lib.hid (g4.call HB1.out)
  have Q1 := Lib.hid (g1'.call HB1.out)
  have Q2 := Lib.hid (g2'.call HB1.out)
  have Q3 := Lib.hid (g3'.call HB1.out)
  have Q4 := Lib.hid (g4'.call HB1.out)
  have hl := hs.out
  have hl' := hs'.out
  unfold Bk.Small at hl hl'
  have e1 := Lib.hid (fun wz u u' h h' => EqualHolder_any u u' b.h c.h wz h h' (by omega) (by omega))
  have e2 := Lib.hid (fun wz u u' h h' => EqualStake_any u u' b.s c.s wz h h' (by omega) (by omega))
  have e3 := Lib.hid (fun wz u u' h h' => EqualOpen_any u u' b.o c.o wz h h' (by omega) (by omega))
  have e4 := Lib.hid (fun wz u u' h h' => EqualRate_any u u' b.r c.r wz h h' (by omega) (by omega))
  have hres : sameB b c = (decide (b.n = c.n) && (decide (b.h = c.h) && (decide (b.s = c.s) && (decide (b.o = c.o) && decide (b.r = c.r))))) := by
    unfold sameB
    cases decide (b.n = c.n) <;> simp
  rw [hres]
  generalize decide (b.h = c.h) = F1 at *
  generalize decide (b.s = c.s) = F2 at *
  generalize decide (b.o = c.o) = F3 at *
  generalize decide (b.r = c.r) = F4 at *
  replace hw1 := Lib.hid hw1
  clear g1 g2 g3 g4 g1' g2' g3' g4' hl hl' hres hb hc hs hs'
  have a0 := cells_of_blk K1.out 0 _ rfl
  have d0 := cells_of_blk J1.out 0 _ rfl
  have a1 := cells_of_blk K1.out 1 _ rfl
  have d1 := cells_of_blk J1.out 1 _ rfl
  have a2 := cells_of_blk K1.out 2 _ rfl
  have d2 := cells_of_blk J1.out 2 _ rfl
  have a3 := cells_of_blk K1.out 3 _ rfl
  have d3 := cells_of_blk J1.out 3 _ rfl
  have a4 := cells_of_blk K1.out 4 _ rfl
  have d4 := cells_of_blk J1.out 4 _ rfl
  rw [← hw1.out] at a0 a1 a2 a3 a4 d0 d1 d2 d3 d4
  by_cases hn : b.n = c.n
  · have tn : (b.n == c.n) = true := by simp [hn]
    rw [decide_eq_true hn]
    clear hn
    go_enter Try.func29, Try.ntmps29
    go_wp2_with fail
    rw [hw1.out]
    clear tn
    with_reducible refine (e1.out _ _ _ (Lib.hid R1.out.rec') (Lib.hid Q1.out.rec')).mono ?_
    rintro e w2 ⟨rfl, hb⟩
    have K2 := Lib.hid (blk_call K1.out hb)
    have J2 := Lib.hid (blk_call J1.out hb)
    have HB2 := Lib.hid (HB1.out.trans (hb.mono HB1.out.size))
    replace R2 := Lib.hid (R2.out.call hb)
    replace Q2 := Lib.hid (Q2.out.call hb)
    replace R3 := Lib.hid (R3.out.call hb)
    replace Q3 := Lib.hid (Q3.out.call hb)
    replace R4 := Lib.hid (R4.out.call hb)
    replace Q4 := Lib.hid (Q4.out.call hb)
    clear hb a0 a1 a2 a3 a4 d0 d1 d2 d3 d4
    cases F1 with
    | false =>
      go_wp2_with fail
      go_ret
      exact ⟨rfl, HB2.out⟩
    | true =>
    have a0 := cells_of_blk K2.out 0 _ rfl
    have d0 := cells_of_blk J2.out 0 _ rfl
    have a1 := cells_of_blk K2.out 1 _ rfl
    have d1 := cells_of_blk J2.out 1 _ rfl
    have a2 := cells_of_blk K2.out 2 _ rfl
    have d2 := cells_of_blk J2.out 2 _ rfl
    have a3 := cells_of_blk K2.out 3 _ rfl
    have d3 := cells_of_blk J2.out 3 _ rfl
    have a4 := cells_of_blk K2.out 4 _ rfl
    have d4 := cells_of_blk J2.out 4 _ rfl
    go_wp2_with fail
    with_reducible refine (e2.out _ _ _ (Lib.hid R2.out.rec') (Lib.hid Q2.out.rec')).mono ?_
    rintro e w3 ⟨rfl, hb⟩
    have K3 := Lib.hid (blk_call K2.out hb)
    have J3 := Lib.hid (blk_call J2.out hb)
    have HB3 := Lib.hid (HB2.out.trans (hb.mono HB2.out.size))
    replace R3 := Lib.hid (R3.out.call hb)
    replace Q3 := Lib.hid (Q3.out.call hb)
    replace R4 := Lib.hid (R4.out.call hb)
    replace Q4 := Lib.hid (Q4.out.call hb)
    clear hb a0 a1 a2 a3 a4 d0 d1 d2 d3 d4
    cases F2 with
    | false =>
      go_wp2_with fail
      go_ret
      exact ⟨rfl, HB3.out⟩
    | true =>
    have a0 := cells_of_blk K3.out 0 _ rfl
    have d0 := cells_of_blk J3.out 0 _ rfl
    have a1 := cells_of_blk K3.out 1 _ rfl
    have d1 := cells_of_blk J3.out 1 _ rfl
    have a2 := cells_of_blk K3.out 2 _ rfl
    have d2 := cells_of_blk J3.out 2 _ rfl
    have a3 := cells_of_blk K3.out 3 _ rfl
    have d3 := cells_of_blk J3.out 3 _ rfl
    have a4 := cells_of_blk K3.out 4 _ rfl
    have d4 := cells_of_blk J3.out 4 _ rfl
    go_wp2_with fail
    with_reducible refine (e3.out _ _ _ (Lib.hid R3.out.rec') (Lib.hid Q3.out.rec')).mono ?_
    rintro e w4 ⟨rfl, hb⟩
    have K4 := Lib.hid (blk_call K3.out hb)
    have J4 := Lib.hid (blk_call J3.out hb)
    have HB4 := Lib.hid (HB3.out.trans (hb.mono HB3.out.size))
    replace R4 := Lib.hid (R4.out.call hb)
    replace Q4 := Lib.hid (Q4.out.call hb)
    clear hb a0 a1 a2 a3 a4 d0 d1 d2 d3 d4
    cases F3 with
    | false =>
      go_wp2_with fail
      go_ret
      exact ⟨rfl, HB4.out⟩
    | true =>
    have a0 := cells_of_blk K4.out 0 _ rfl
    have d0 := cells_of_blk J4.out 0 _ rfl
    have a1 := cells_of_blk K4.out 1 _ rfl
    have d1 := cells_of_blk J4.out 1 _ rfl
    have a2 := cells_of_blk K4.out 2 _ rfl
    have d2 := cells_of_blk J4.out 2 _ rfl
    have a3 := cells_of_blk K4.out 3 _ rfl
    have d3 := cells_of_blk J4.out 3 _ rfl
    have a4 := cells_of_blk K4.out 4 _ rfl
    have d4 := cells_of_blk J4.out 4 _ rfl
    go_wp2_with fail
    with_reducible refine (e4.out _ _ _ (Lib.hid R4.out.rec') (Lib.hid Q4.out.rec')).mono ?_
    rintro e w5 ⟨rfl, hb⟩
    have K5 := Lib.hid (blk_call K4.out hb)
    have J5 := Lib.hid (blk_call J4.out hb)
    have HB5 := Lib.hid (HB4.out.trans (hb.mono HB4.out.size))
    clear hb a0 a1 a2 a3 a4 d0 d1 d2 d3 d4
    go_wp2_with fail
    go_ret
    exact ⟨rfl, HB5.out⟩
  · have tn : (b.n == c.n) = false := by simp [hn]
    rw [decide_eq_false hn]
    clear hn e1 e2 e3 e4
    go_enter Try.func29, Try.ntmps29
    go_wp2_with fail
    go_ret
    exact ⟨rfl, by have := HB1.out; rw [← hw1.out] at this; exact this⟩


set_option maxRecDepth 100000 in
set_option maxHeartbeats 2000000 in
theorem rThere_any (v : Value) (b : Bk) (acc sym : Int) (w : World) (hb : Hid (BkAt w v b)) (hs : Hid b.Small) :
    Calls Try.prog 69 #[v, .int .i64 acc, .int .i64 sym] w fun e w' => e = .returned (.bool (thereB b acc sym)) ∧ Below w.heap.size w w' := by
  obtain ⟨vh, vs, vo, vr, rfl, r1, r2, r3, r4⟩ := hb.out
  have lh : ∀ r ∈ b.h, r.length = 4 := by obtain ⟨_, _, _, h, _⟩ := r1; exact h
  have lr : ∀ r ∈ b.r, r.length = 2 := by obtain ⟨_, _, _, h, _⟩ := r4; exact h
  obtain ⟨rh, H0, hl1, hx1⟩ := rec_of lh (isId acc)
  obtain ⟨rr, R0, hl3, hx3⟩ := rec_of lr (isId sym)
  match rh, rr, hl1, hl3, hx1, hx3 with
  | [h0, h1, h2, h3], [p0, p1], _, _, hx1, hx3 =>
  have hres : thereB b acc sym = (H0 && R0) := by unfold thereB; rw [recOf_snd hx1, recOf_snd hx3]
  rw [hres]
  have HB0 : Hid (Below w.heap.size w (w.alloc (.cells #[vh, vs, vo, vr, .int .i64 b.n] 37))) := below_alloc (Below.refl _ _) (Nat.le_refl _) _
  have K0 : Hid ((w.alloc (.cells #[vh, vs, vo, vr, .int .i64 b.n] 37)).heap[w.heap.size]? = some (.cells #[vh, vs, vo, vr, .int .i64 b.n] 37 (0, 0))) := heap_new _ _
  have B0 : Hid (BkAt (w.alloc (.cells #[vh, vs, vo, vr, .int .i64 b.n] 37)) (.agg #[vh, vs, vo, vr, .int .i64 b.n]) b) := hb.out.call HB0.out
  have HX1 := Lib.hid hx1
  have HX3 := Lib.hid hx3
  have F1 : b.h.length ≤ 1000000 := by have := hs.out; unfold Bk.Small at this; omega
  have F3 : b.r.length ≤ 1000000 := by have := hs.out; unfold Bk.Small at this; omega
  clear hb r1 r2 r3 r4 lh lr hx1 hx3 hres hs
  go_enter Try.func69, Try.ntmps69
  go_wp2_with fail
  with_reducible refine (rHolder_any _ b acc h0 h1 h2 h3 H0 _ B0 F1 HX1).mono ?_
  rintro e w1 ⟨rfl, hb⟩
  have K1 := Lib.hid (blk_call K0.out hb)
  have hb' := hb.trans ((below_alloc (Below.refl w1.heap.size w1) (Nat.le_refl _) (.cells #[.int .i64 h0, .int .i64 h1, .int .i64 h2, .int .i64 h3] 39)).mono hb.size)
  have B1 := Lib.hid (B0.out.call hb')
  have HB1 := Lib.hid (HB0.out.trans (hb'.mono HB0.out.size))
  clear hb hb'
  have a0 := cells_of_blk K1.out 0 _ rfl
  have a1 := cells_of_blk K1.out 1 _ rfl
  have a2 := cells_of_blk K1.out 2 _ rfl
  have a3 := cells_of_blk K1.out 3 _ rfl
  have a4 := cells_of_blk K1.out 4 _ rfl
  have hgl : w.heap.size < w1.heap.size := (Array.getElem?_eq_some_iff.1 K1.out).1
  go_wp2_with fail
  with_reducible refine (rRate_any _ b sym p0 p1 R0 _ B1 F3 HX3).mono ?_
  rintro e w2 ⟨rfl, hb⟩
  have HB2 := Lib.hid (HB1.out.trans (hb.mono HB1.out.size))
  clear hb a0 a1 a2 a3 a4 hgl
  cases H0 with
  | false =>
    go_wp2_with fail
    go_ret
    exact ⟨rfl, HB2.out⟩
  | true =>
    go_wp2_with fail
    go_ret
    exact ⟨rfl, HB2.out⟩


set_option maxRecDepth 100000 in
set_option maxHeartbeats 16000000 in
theorem rBkMay_any (v : Value) (b : Bk) (w : World) (hb : Hid (BkAt w v b)) (hs : Hid b.Small) :
    Calls Try.prog 28 #[v] w fun e w' => e = .returned (.bool b.mayB) ∧ Below w.heap.size w w' := by
  obtain ⟨vh, vs, vo, vr, rfl, g1, g2, g3, g4⟩ := hb.out
  obtain ⟨Ah, ch, rfl, -⟩ := g1
  obtain ⟨As, cs, rfl, -⟩ := g2
  obtain ⟨Ao, co, rfl, -⟩ := g3
  obtain ⟨Ar, cr, rfl, -⟩ := g4
  obtain ⟨w1, hw1⟩ : ∃ w1, w.alloc (.cells #[.slice Ah b.h.length ch, .slice As b.s.length cs, .slice Ao b.o.length co, .slice Ar b.r.length cr, .int .i64 b.n] 37) = w1 := ⟨_, rfl⟩
  have HB : Hid (Below w.heap.size w w1) := by rw [← hw1]; exact below_alloc (Below.refl _ _) (Nat.le_refl _) _
  have K : Hid (w1.heap[w.heap.size]? = some (.cells #[.slice Ah b.h.length ch, .slice As b.s.length cs, .slice Ao b.o.length co, .slice Ar b.r.length cr, .int .i64 b.n] 37 (0, 0))) := by rw [← hw1]; exact heap_new w _
  have BA : Hid (BkAt w1 (.agg #[.slice Ah b.h.length ch, .slice As b.s.length cs, .slice Ao b.o.length co, .slice Ar b.r.length cr, .int .i64 b.n]) b) := hb.out.call HB.out
  have hl : b.h.length ≤ 1000000 ∧ b.s.length ≤ 1000000 ∧ b.o.length ≤ 1000000 ∧ b.r.length ≤ 1000000 := by have := hs.out; unfold Bk.Small at this; omega
  obtain ⟨hlh, hls, hlo, hlr⟩ := hl
  obtain ⟨Res, hRes⟩ : ∃ Res, b.mayB = Res := ⟨_, rfl⟩
  rw [hRes]
  unfold Bk.mayB Bk.countB Bk.listsB at hRes
  replace hRes := Lib.hid hRes
  replace hw1 := Lib.hid hw1
  have qr := Lib.hid (fun u wz h => rRise_any u b wz h hs)
  have qt := Lib.hid (fun u acc sym wz h => rThere_any u b acc sym wz h hs)
  obtain ⟨RB, hRB⟩ : ∃ RB, b.riseB = RB := ⟨_, rfl⟩
  rw [hRB] at hRes qr
  clear hb hs hRB
  go_enter Try.func28, Try.ntmps28
  go_wp2_with fail
  rw [hw1.out]
  with_reducible refine (qr.out _ _ BA).mono ?_
  rintro e w2 ⟨rfl, hb⟩
  have K2 := Lib.hid (blk_call K.out hb)
  have BA2 := Lib.hid (BA.out.call hb)
  have HB2 := Lib.hid (HB.out.trans (hb.mono HB.out.size))
  clear hb qr
  have a0 := cells_of_blk K2.out 0 _ rfl
  have a2 := cells_of_blk K2.out 2 _ rfl
  have a3 := cells_of_blk K2.out 3 _ rfl
  have a4 := cells_of_blk K2.out 4 _ rfl
  cases RB with
  | false =>
    have hR : Res = false := by rw [← hRes.out]; simp
    subst hR
    clear hRes
    go_wp2_with fail
    go_ret
    exact ⟨rfl, HB2.out⟩
  | true =>
  by_cases h : 32 < b.h.length
  · have t : decide ((32 : Int) < (b.h.length : Int)) = true := decide_eq_true (by omega)
    have hR : Res = false := by rw [← hRes.out, decide_eq_true h]; simp
    subst hR
    clear hRes h
    go_wp2_with fail
    go_ret
    exact ⟨rfl, HB2.out⟩
  have t0 : decide ((32 : Int) < (b.h.length : Int)) = false := decide_eq_false (by omega)
  have h0 := Lib.hid (decide_eq_false h)
  clear h
  by_cases h : 64 < b.o.length
  · have t : decide ((64 : Int) < (b.o.length : Int)) = true := decide_eq_true (by omega)
    have hR : Res = false := by rw [← hRes.out, decide_eq_true h]; simp
    subst hR
    clear hRes h
    go_wp2_with fail
    go_ret
    exact ⟨rfl, HB2.out⟩
  have t1 : decide ((64 : Int) < (b.o.length : Int)) = false := decide_eq_false (by omega)
  have h1 := Lib.hid (decide_eq_false h)
  clear h
  by_cases h : 32 < b.r.length
  · have t : decide ((32 : Int) < (b.r.length : Int)) = true := decide_eq_true (by omega)
    have hR : Res = false := by rw [← hRes.out, decide_eq_true h]; simp
    subst hR
    clear hRes h
    go_wp2_with fail
    go_ret
    exact ⟨rfl, HB2.out⟩
  have t2 : decide ((32 : Int) < (b.r.length : Int)) = false := decide_eq_false (by omega)
  have h2 := Lib.hid (decide_eq_false h)
  clear h
  by_cases h : b.n < 0
  · have t : decide (b.n < 0) = true := decide_eq_true (by omega)
    have hR : Res = false := by rw [← hRes.out, decide_eq_true h]; simp
    subst hR
    clear hRes h
    go_wp2_with fail
    go_ret
    exact ⟨rfl, HB2.out⟩
  have t3 : decide (b.n < 0) = false := decide_eq_false (by omega)
  have h3 := Lib.hid (decide_eq_false h)
  clear h
  by_cases h : 1099511627776 < b.n
  · have t : decide (1099511627776 < b.n) = true := decide_eq_true (by omega)
    have hR : Res = false := by rw [← hRes.out, decide_eq_true h]; simp
    subst hR
    clear hRes h
    go_wp2_with fail
    go_ret
    exact ⟨rfl, HB2.out⟩
  have t4 : decide (1099511627776 < b.n) = false := decide_eq_false (by omega)
  have h4 := Lib.hid (decide_eq_false h)
  clear h
  have hRes2 : Hid ((!b.h.any badH && (!b.r.any badR && (!b.s.any (badS b) && !b.o.any (badO b)))) = Res) := (by
    have h := hRes.out
    rw [h0.out, h1.out, h2.out, h3.out, h4.out] at h
    show _ = _
    simpa using h)
  clear hRes h0 h1 h2 h3 h4
  obtain ⟨_, _, _, _, hh, g1, g2, g3, g4⟩ := BA2.out
  injection hh with hh
  simp only [Array.mk.injEq, List.cons.injEq] at hh
  obtain ⟨rfl, rfl, rfl, rfl, _⟩ := hh
  have R0 := Lib.hid g1.rec'
  have R1 := Lib.hid g2.rec'
  have R2 := Lib.hid g3.rec'
  have R3 := Lib.hid g4.rec'
  clear g1 g2 g3 g4
  go_wp2_with fail
  clear t0 t1 t2 t3 t4 a0 a2 a3 a4
  go_loopw [3] (fun s6 wr => ∃ j : Nat, s6 = .int .i64 (j : Int) ∧ Hid (j ≤ b.h.length) ∧ Hid (b.h.any (badH) = (b.h.drop j).any (badH)) ∧ Hid (Below w2.heap.size w2 wr)) (fun s6 _ => b.h.length - (intOf s6).toNat)
  case atStart => exact ⟨0, rfl, Nat.zero_le _, rfl, Below.refl _ _⟩
  case round =>
    obtain ⟨j, rfl, hjl, hrest, hBr⟩ := hrel
    replace hjl := hjl.out
    have lK := Nat.lt_of_lt_of_le (Array.getElem?_eq_some_iff.1 K2.out).1 hBr.out.size
    have cb := (hBr.out.cell (p := ⟨w.heap.size, 0, none⟩) (Array.getElem?_eq_some_iff.1 K2.out).1).trans (cells_of_blk K2.out 0 _ rfl)
    by_cases hin : j < b.h.length
    · have tn : decide ((j : Int) < (b.h.length : Int)) = true := decide_eq_true (by omega)
      have hge : b.h[j]? = some b.h[j] := List.getElem?_eq_getElem hin
      obtain ⟨A', c', hA', hi⟩ := R0.out
      injection hA' with hA1 hA2 hA3
      subst hA1 hA3
      obtain ⟨hk, b0, o0, hA0, hbl, hc⟩ := hi j _ hge
      subst hA0
      have hst : Hid ((b.h.drop j).any (badH) = (badH b.h[j] || (b.h.drop (j + 1)).any (badH))) := (show _ = _ from by rw [List.drop_eq_getElem_cons hin, List.any_cons])
      clear hge hA2 hi
      generalize b.h[j] = r at *
      obtain ⟨y0, y1, y2, y3, rfl⟩ : ∃ y0 y1 y2 y3, r = [y0, y1, y2, y3] := by
        match r, hk with
        | [y0, y1, y2, y3], _ => exact ⟨y0, y1, y2, y3, rfl⟩
      have hb3 : (j : Int) < (b.h.length : Int) := by omega
      have hb4 : (0 : Int) ≤ (j : Int) := by omega
      have hbl3 : b0 < wr.heap.size := Nat.lt_of_lt_of_le hbl hBr.out.size
      have c0 : wr.cell? ⟨b0, o0 + j * 4, none⟩ = some (.int .i64 y0) := (hBr.out.cell (p := ⟨b0, o0 + j * 4 + 0, none⟩) hbl).trans (hc 0 _ rfl)
      have c1 : wr.cell? ⟨b0, o0 + j * 4 + 1, none⟩ = some (.int .i64 y1) := (hBr.out.cell (p := ⟨b0, o0 + j * 4 + 1, none⟩) hbl).trans (hc 1 _ rfl)
      have c2 : wr.cell? ⟨b0, o0 + j * 4 + 2, none⟩ = some (.int .i64 y2) := (hBr.out.cell (p := ⟨b0, o0 + j * 4 + 2, none⟩) hbl).trans (hc 2 _ rfl)
      have c3 : wr.cell? ⟨b0, o0 + j * 4 + 3, none⟩ = some (.int .i64 y3) := (hBr.out.cell (p := ⟨b0, o0 + j * 4 + 3, none⟩) hbl).trans (hc 3 _ rfl)
      clear hc hk
      by_cases h : y2 < 0
      · have t : decide (y2 < 0) = true := decide_eq_true h
        have hbad : badH [y0, y1, y2, y3] = true := by show (decide (y2 < 0) || decide (y3 < 0)) = _; simp [h]
        clear h
        have hR : Res = false := by rw [← hRes2.out]; simp [hrest.out, hst.out, hbad]
        subst hR
        clear hst hbad hRes2 hrest
        go_wp2_with fail
        go_ret
        exact ⟨rfl, HB2.out.trans (hBr.out.mono HB2.out.size)⟩
      have uy2 : decide (y2 < 0) = false := decide_eq_false h
      have huy2 : ¬ (y2 < 0) := h
      clear h
      by_cases h : y3 < 0
      · have t : decide (y3 < 0) = true := decide_eq_true h
        have hbad : badH [y0, y1, y2, y3] = true := by show (decide (y2 < 0) || decide (y3 < 0)) = _; simp [h]
        clear h
        have hR : Res = false := by rw [← hRes2.out]; simp [hrest.out, hst.out, hbad]
        subst hR
        clear hst hbad hRes2 hrest
        go_wp2_with fail
        go_ret
        exact ⟨rfl, HB2.out.trans (hBr.out.mono HB2.out.size)⟩
      have uy3 : decide (y3 < 0) = false := decide_eq_false h
      have huy3 : ¬ (y3 < 0) := h
      clear h
      have hbad : badH [y0, y1, y2, y3] = false := by show (decide (y2 < 0) || decide (y3 < 0)) = _; simp [huy2, huy3]
      clear huy2 huy3
      have hst2 : Hid (b.h.any (badH) = (b.h.drop (j + 1)).any (badH)) := (show _ = _ from by rw [hrest.out, hst.out, hbad, Bool.false_or])
      clear hst hbad
      go_wp2_with fail
      go_roundw
      case rel => exact ⟨j + 1, by go_num, by show _ ≤ _; omega, hst2.out, hBr.out⟩
      case measure => simp [intOf]; omega
    · have tn : decide ((j : Int) < (b.h.length : Int)) = false := decide_eq_false (by omega)
      have E0 : Hid (b.h.any (badH) = false) := (show _ = _ from by rw [hrest.out, List.drop_eq_nil_of_le (by omega)]; rfl)
      have hBr0 := hBr
      clear hrest hBr hjl
      go_wp2_with fail
      go_loopw [4] (fun s6 wr => ∃ j : Nat, s6 = .int .i64 (j : Int) ∧ Hid (j ≤ b.r.length) ∧ Hid (b.r.any (badR) = (b.r.drop j).any (badR)) ∧ Hid (Below w2.heap.size w2 wr)) (fun s6 _ => b.r.length - (intOf s6).toNat)
      case atStart => exact ⟨0, rfl, Nat.zero_le _, rfl, hBr0.out⟩
      case round =>
        obtain ⟨j, rfl, hjl, hrest, hBr⟩ := hrel
        replace hjl := hjl.out
        have lK := Nat.lt_of_lt_of_le (Array.getElem?_eq_some_iff.1 K2.out).1 hBr.out.size
        have cb := (hBr.out.cell (p := ⟨w.heap.size, 3, none⟩) (Array.getElem?_eq_some_iff.1 K2.out).1).trans (cells_of_blk K2.out 3 _ rfl)
        by_cases hin : j < b.r.length
        · have tn : decide ((j : Int) < (b.r.length : Int)) = true := decide_eq_true (by omega)
          have hge : b.r[j]? = some b.r[j] := List.getElem?_eq_getElem hin
          obtain ⟨A', c', hA', hi⟩ := R3.out
          injection hA' with hA1 hA2 hA3
          subst hA1 hA3
          obtain ⟨hk, b0, o0, hA0, hbl, hc⟩ := hi j _ hge
          subst hA0
          have hst : Hid ((b.r.drop j).any (badR) = (badR b.r[j] || (b.r.drop (j + 1)).any (badR))) := (show _ = _ from by rw [List.drop_eq_getElem_cons hin, List.any_cons])
          clear hge hA2 hi
          generalize b.r[j] = r at *
          obtain ⟨y0, y1, rfl⟩ : ∃ y0 y1, r = [y0, y1] := by
            match r, hk with
            | [y0, y1], _ => exact ⟨y0, y1, rfl⟩
          have hb3 : (j : Int) < (b.r.length : Int) := by omega
          have hb4 : (0 : Int) ≤ (j : Int) := by omega
          have hbl3 : b0 < wr.heap.size := Nat.lt_of_lt_of_le hbl hBr.out.size
          have c0 : wr.cell? ⟨b0, o0 + j * 2, none⟩ = some (.int .i64 y0) := (hBr.out.cell (p := ⟨b0, o0 + j * 2 + 0, none⟩) hbl).trans (hc 0 _ rfl)
          have c1 : wr.cell? ⟨b0, o0 + j * 2 + 1, none⟩ = some (.int .i64 y1) := (hBr.out.cell (p := ⟨b0, o0 + j * 2 + 1, none⟩) hbl).trans (hc 1 _ rfl)
          clear hc hk
          by_cases h : y1 < 1
          · have t : decide (y1 < 1) = true := decide_eq_true h
            have hbad : badR [y0, y1] = true := by show (decide (y1 < 1)) = _; simp [h]
            clear h
            have hR : Res = false := by rw [← hRes2.out]; simp [E0.out, hrest.out, hst.out, hbad]
            subst hR
            clear hst hbad hRes2 hrest
            go_wp2_with fail
            go_ret
            exact ⟨rfl, HB2.out.trans (hBr.out.mono HB2.out.size)⟩
          have uy1 : decide (y1 < 1) = false := decide_eq_false h
          have huy1 : ¬ (y1 < 1) := h
          clear h
          have hbad : badR [y0, y1] = false := by show (decide (y1 < 1)) = _; simp [huy1]
          clear huy1
          have hst2 : Hid (b.r.any (badR) = (b.r.drop (j + 1)).any (badR)) := (show _ = _ from by rw [hrest.out, hst.out, hbad, Bool.false_or])
          clear hst hbad
          go_wp2_with fail
          go_roundw
          case rel => exact ⟨j + 1, by go_num, by show _ ≤ _; omega, hst2.out, hBr.out⟩
          case measure => simp [intOf]; omega
        · have tn : decide ((j : Int) < (b.r.length : Int)) = false := decide_eq_false (by omega)
          have E1 : Hid (b.r.any (badR) = false) := (show _ = _ from by rw [hrest.out, List.drop_eq_nil_of_le (by omega)]; rfl)
          have hBr1 := hBr
          clear hrest hBr hjl
          go_wp2_with fail
          go_loopw [5] (fun s6 wr => ∃ j : Nat, s6 = .int .i64 (j : Int) ∧ Hid (j ≤ b.s.length) ∧ Hid (b.s.any (badS b) = (b.s.drop j).any (badS b)) ∧ Hid (Below w2.heap.size w2 wr)) (fun s6 _ => b.s.length - (intOf s6).toNat)
          case atStart => exact ⟨0, rfl, Nat.zero_le _, rfl, hBr1.out⟩
          case round =>
            obtain ⟨j, rfl, hjl, hrest, hBr⟩ := hrel
            replace hjl := hjl.out
            have lK := Nat.lt_of_lt_of_le (Array.getElem?_eq_some_iff.1 K2.out).1 hBr.out.size
            have cb := (hBr.out.cell (p := ⟨w.heap.size, 1, none⟩) (Array.getElem?_eq_some_iff.1 K2.out).1).trans (cells_of_blk K2.out 1 _ rfl)
            by_cases hin : j < b.s.length
            · have tn : decide ((j : Int) < (b.s.length : Int)) = true := decide_eq_true (by omega)
              have hge : b.s[j]? = some b.s[j] := List.getElem?_eq_getElem hin
              obtain ⟨A', c', hA', hi⟩ := R1.out
              injection hA' with hA1 hA2 hA3
              subst hA1 hA3
              obtain ⟨hk, b0, o0, hA0, hbl, hc⟩ := hi j _ hge
              subst hA0
              have hst : Hid ((b.s.drop j).any (badS b) = (badS b b.s[j] || (b.s.drop (j + 1)).any (badS b))) := (show _ = _ from by rw [List.drop_eq_getElem_cons hin, List.any_cons])
              clear hge hA2 hi
              generalize b.s[j] = r at *
              obtain ⟨y0, y1, y2, rfl⟩ : ∃ y0 y1 y2, r = [y0, y1, y2] := by
                match r, hk with
                | [y0, y1, y2], _ => exact ⟨y0, y1, y2, rfl⟩
              have hb3 : (j : Int) < (b.s.length : Int) := by omega
              have hb4 : (0 : Int) ≤ (j : Int) := by omega
              have hbl3 : b0 < wr.heap.size := Nat.lt_of_lt_of_le hbl hBr.out.size
              have c0 : wr.cell? ⟨b0, o0 + j * 3, none⟩ = some (.int .i64 y0) := (hBr.out.cell (p := ⟨b0, o0 + j * 3 + 0, none⟩) hbl).trans (hc 0 _ rfl)
              have c1 : wr.cell? ⟨b0, o0 + j * 3 + 1, none⟩ = some (.int .i64 y1) := (hBr.out.cell (p := ⟨b0, o0 + j * 3 + 1, none⟩) hbl).trans (hc 1 _ rfl)
              have c2 : wr.cell? ⟨b0, o0 + j * 3 + 2, none⟩ = some (.int .i64 y2) := (hBr.out.cell (p := ⟨b0, o0 + j * 3 + 2, none⟩) hbl).trans (hc 2 _ rfl)
              clear hc hk
              have BAr := Lib.hid (BA2.out.call hBr.out)
              have a0 := (hBr.out.cell (p := ⟨w.heap.size, 0, none⟩) (Array.getElem?_eq_some_iff.1 K2.out).1).trans (cells_of_blk K2.out 0 _ rfl)
              have a2 := (hBr.out.cell (p := ⟨w.heap.size, 2, none⟩) (Array.getElem?_eq_some_iff.1 K2.out).1).trans (cells_of_blk K2.out 2 _ rfl)
              have a3 := (hBr.out.cell (p := ⟨w.heap.size, 3, none⟩) (Array.getElem?_eq_some_iff.1 K2.out).1).trans (cells_of_blk K2.out 3 _ rfl)
              have a4 := (hBr.out.cell (p := ⟨w.heap.size, 4, none⟩) (Array.getElem?_eq_some_iff.1 K2.out).1).trans (cells_of_blk K2.out 4 _ rfl)
              have hbadE : badS b [y0, y1, y2] = (decide (y2 = 0) || !thereB b y0 y1) := rfl
              by_cases h : y2 = 0
              · have t : (y2 == 0) = true := by simp [h]
                have hbad : badS b [y0, y1, y2] = true := by rw [hbadE, decide_eq_true h]; rfl
                clear h hbadE
                have hR : Res = false := by rw [← hRes2.out]; simp [E0.out, E1.out, hrest.out, hst.out, hbad]
                subst hR
                clear hst hbad hRes2 hrest
                go_wp2_with fail
                refine wp_region_ext (by kernel_rfl) (by kernel_rfl) ?_
                repeat (go_big_quiet_step (fail))
                refine wpQuiet_nil ?_
                rintro wq ⟨y, rfl⟩
                have HBq := Lib.hid (hBr.out.trans (y.below.mono hBr.out.size))
                go_wp2_with fail
                go_ret
                exact ⟨rfl, HB2.out.trans (HBq.out.mono HB2.out.size)⟩
              have t : (y2 == 0) = false := by simp [h]
              rw [decide_eq_false h, Bool.false_or] at hbadE
              clear h
              have QT : Hid (∀ x : ExtOf wr, Calls _ _ _ x.w _) := fun x : ExtOf wr => qt.out _ y0 y1 x.w (BAr.out.call x.below)
              cases hth : thereB b y0 y1 with
              | false =>
                rw [hth] at QT
                have hbad : badS b [y0, y1, y2] = true := by rw [hbadE, hth]; rfl
                clear hth hbadE
                have hR : Res = false := by rw [← hRes2.out]; simp [E0.out, E1.out, hrest.out, hst.out, hbad]
                subst hR
                clear hst hbad hRes2 hrest
                go_wp2_with fail
                refine wp_region_ext (by kernel_rfl) (by kernel_rfl) ?_
                repeat (go_big_quiet_step (with_reducible exact ext_call (QT.out _)))
                refine wpQuiet_nil ?_
                rintro wq ⟨y, rfl⟩
                have HBq := Lib.hid (hBr.out.trans (y.below.mono hBr.out.size))
                go_wp2_with fail
                go_ret
                exact ⟨rfl, HB2.out.trans (HBq.out.mono HB2.out.size)⟩
              | true =>
                rw [hth] at QT
                have hbad : badS b [y0, y1, y2] = false := by rw [hbadE, hth]; rfl
                clear hth hbadE
                have hst2 : Hid (b.s.any (badS b) = (b.s.drop (j + 1)).any (badS b)) := (show _ = _ from by rw [hrest.out, hst.out, hbad, Bool.false_or])
                clear hst hbad
                go_wp2_with fail
                refine wp_region_ext (by kernel_rfl) (by kernel_rfl) ?_
                repeat (go_big_quiet_step (with_reducible exact ext_call (QT.out _)))
                refine wpQuiet_nil ?_
                rintro wq ⟨y, rfl⟩
                have HBq := Lib.hid (hBr.out.trans (y.below.mono hBr.out.size))
                go_wp2_with fail
                go_roundw
                case rel => exact ⟨j + 1, by go_num, by show _ ≤ _; omega, hst2.out, HBq.out⟩
                case measure => simp [intOf]; omega
            · have tn : decide ((j : Int) < (b.s.length : Int)) = false := decide_eq_false (by omega)
              have E2 : Hid (b.s.any (badS b) = false) := (show _ = _ from by rw [hrest.out, List.drop_eq_nil_of_le (by omega)]; rfl)
              have hBr2 := hBr
              clear hrest hBr hjl
              go_wp2_with fail
              go_loopw [6] (fun s6 wr => ∃ j : Nat, s6 = .int .i64 (j : Int) ∧ Hid (j ≤ b.o.length) ∧ Hid (b.o.any (badO b) = (b.o.drop j).any (badO b)) ∧ Hid (Below w2.heap.size w2 wr)) (fun s6 _ => b.o.length - (intOf s6).toNat)
              case atStart => exact ⟨0, rfl, Nat.zero_le _, rfl, hBr2.out⟩
              case round =>
                obtain ⟨j, rfl, hjl, hrest, hBr⟩ := hrel
                replace hjl := hjl.out
                have lK := Nat.lt_of_lt_of_le (Array.getElem?_eq_some_iff.1 K2.out).1 hBr.out.size
                have cb := (hBr.out.cell (p := ⟨w.heap.size, 2, none⟩) (Array.getElem?_eq_some_iff.1 K2.out).1).trans (cells_of_blk K2.out 2 _ rfl)
                by_cases hin : j < b.o.length
                · have tn : decide ((j : Int) < (b.o.length : Int)) = true := decide_eq_true (by omega)
                  have hge : b.o[j]? = some b.o[j] := List.getElem?_eq_getElem hin
                  obtain ⟨A', c', hA', hi⟩ := R2.out
                  injection hA' with hA1 hA2 hA3
                  subst hA1 hA3
                  obtain ⟨hk, b0, o0, hA0, hbl, hc⟩ := hi j _ hge
                  subst hA0
                  have hst : Hid ((b.o.drop j).any (badO b) = (badO b b.o[j] || (b.o.drop (j + 1)).any (badO b))) := (show _ = _ from by rw [List.drop_eq_getElem_cons hin, List.any_cons])
                  clear hge hA2 hi
                  generalize b.o[j] = r at *
                  obtain ⟨y0, y1, y2, y3, y4, y5, rfl⟩ : ∃ y0 y1 y2 y3 y4 y5, r = [y0, y1, y2, y3, y4, y5] := by
                    match r, hk with
                    | [y0, y1, y2, y3, y4, y5], _ => exact ⟨y0, y1, y2, y3, y4, y5, rfl⟩
                  have hb3 : (j : Int) < (b.o.length : Int) := by omega
                  have hb4 : (0 : Int) ≤ (j : Int) := by omega
                  have hbl3 : b0 < wr.heap.size := Nat.lt_of_lt_of_le hbl hBr.out.size
                  have c0 : wr.cell? ⟨b0, o0 + j * 6, none⟩ = some (.int .i64 y0) := (hBr.out.cell (p := ⟨b0, o0 + j * 6 + 0, none⟩) hbl).trans (hc 0 _ rfl)
                  have c1 : wr.cell? ⟨b0, o0 + j * 6 + 1, none⟩ = some (.int .i64 y1) := (hBr.out.cell (p := ⟨b0, o0 + j * 6 + 1, none⟩) hbl).trans (hc 1 _ rfl)
                  have c2 : wr.cell? ⟨b0, o0 + j * 6 + 2, none⟩ = some (.int .i64 y2) := (hBr.out.cell (p := ⟨b0, o0 + j * 6 + 2, none⟩) hbl).trans (hc 2 _ rfl)
                  have c3 : wr.cell? ⟨b0, o0 + j * 6 + 3, none⟩ = some (.int .i64 y3) := (hBr.out.cell (p := ⟨b0, o0 + j * 6 + 3, none⟩) hbl).trans (hc 3 _ rfl)
                  have c4 : wr.cell? ⟨b0, o0 + j * 6 + 4, none⟩ = some (.int .i64 y4) := (hBr.out.cell (p := ⟨b0, o0 + j * 6 + 4, none⟩) hbl).trans (hc 4 _ rfl)
                  have c5 : wr.cell? ⟨b0, o0 + j * 6 + 5, none⟩ = some (.int .i64 y5) := (hBr.out.cell (p := ⟨b0, o0 + j * 6 + 5, none⟩) hbl).trans (hc 5 _ rfl)
                  clear hc hk
                  have BAr := Lib.hid (BA2.out.call hBr.out)
                  have a0 := (hBr.out.cell (p := ⟨w.heap.size, 0, none⟩) (Array.getElem?_eq_some_iff.1 K2.out).1).trans (cells_of_blk K2.out 0 _ rfl)
                  have a1 := (hBr.out.cell (p := ⟨w.heap.size, 1, none⟩) (Array.getElem?_eq_some_iff.1 K2.out).1).trans (cells_of_blk K2.out 1 _ rfl)
                  have a3 := (hBr.out.cell (p := ⟨w.heap.size, 3, none⟩) (Array.getElem?_eq_some_iff.1 K2.out).1).trans (cells_of_blk K2.out 3 _ rfl)
                  have a4 := (hBr.out.cell (p := ⟨w.heap.size, 4, none⟩) (Array.getElem?_eq_some_iff.1 K2.out).1).trans (cells_of_blk K2.out 4 _ rfl)
                  have hbx : Below w2.heap.size w2 (wr.alloc (.cells #[.int .i64 y0, .int .i64 y1, .int .i64 y2, .int .i64 y3, .int .i64 y4, .int .i64 y5] 43)) := below_alloc hBr.out hBr.out.size _
                  have HBX := Lib.hid hbx
                  have BAx := Lib.hid (BA2.out.call hbx)
                  clear hbx
                  have hbadE : badO b [y0, y1, y2, y3, y4, y5] = (decide (y4 < 1) || (decide (y5 < 1) || (decide (y3 < 0) || (decide (1 < y3) || !thereB b y1 y2)))) := rfl
                  by_cases h : y4 < 1
                  · have t : decide (y4 < 1) = true := decide_eq_true h
                    have hbad : badO b [y0, y1, y2, y3, y4, y5] = true := by rw [hbadE]; simp [h]
                    clear h hbadE
                    have hR : Res = false := by rw [← hRes2.out]; simp [E0.out, E1.out, E2.out, hrest.out, hst.out, hbad]
                    subst hR
                    clear hst hbad hRes2 hrest
                    go_wp2_with fail
                    go_ret
                    exact ⟨rfl, HB2.out.trans (HBX.out.mono HB2.out.size)⟩
                  have uy4 : decide (y4 < 1) = false := decide_eq_false h
                  rw [decide_eq_false h, Bool.false_or] at hbadE
                  clear h
                  by_cases h : y5 < 1
                  · have t : decide (y5 < 1) = true := decide_eq_true h
                    have hbad : badO b [y0, y1, y2, y3, y4, y5] = true := by rw [hbadE]; simp [h]
                    clear h hbadE
                    have hR : Res = false := by rw [← hRes2.out]; simp [E0.out, E1.out, E2.out, hrest.out, hst.out, hbad]
                    subst hR
                    clear hst hbad hRes2 hrest
                    go_wp2_with fail
                    go_ret
                    exact ⟨rfl, HB2.out.trans (HBX.out.mono HB2.out.size)⟩
                  have uy5 : decide (y5 < 1) = false := decide_eq_false h
                  rw [decide_eq_false h, Bool.false_or] at hbadE
                  clear h
                  by_cases h : y3 ≠ 0 ∧ y3 ≠ 1
                  · have ta : (y3 != 0) = true := by simp [h.1]
                    have tb : (y3 != 1) = true := by simp [h.2]
                    have hbad : badO b [y0, y1, y2, y3, y4, y5] = true := by
                      rw [hbadE]
                      by_cases h3 : y3 < 0
                      · simp [h3]
                      · have h4 : 1 < y3 := by omega
                        simp [h4]
                    clear h hbadE
                    have hR : Res = false := by rw [← hRes2.out]; simp [E0.out, E1.out, E2.out, hrest.out, hst.out, hbad]
                    subst hR
                    clear hst hbad hRes2 hrest
                    go_wp2_with fail
                    go_ret
                    exact ⟨rfl, HB2.out.trans (HBX.out.mono HB2.out.size)⟩
                  have hbadE2 : badO b [y0, y1, y2, y3, y4, y5] = !thereB b y1 y2 := by
                    rw [hbadE, decide_eq_false (show ¬ y3 < 0 by omega), decide_eq_false (show ¬ 1 < y3 by omega)]
                    rfl
                  clear hbadE
                  have QT := Lib.hid (qt.out _ y1 y2 _ BAx)
                  have h33 : y3 = 0 ∨ y3 = 1 := by omega
                  clear h
                  generalize thereB b y1 y2 = TT at *
                  cases TT with
                  | false =>
                    have hbad : badO b [y0, y1, y2, y3, y4, y5] = true := hbadE2
                    clear hbadE2
                    have hR : Res = false := by rw [← hRes2.out]; simp [E0.out, E1.out, E2.out, hrest.out, hst.out, hbad]
                    subst hR
                    clear hst hbad hRes2 hrest
                    rcases h33 with rfl | rfl
                    · have ta : ((0 : Int) != 0) = false := rfl
                      go_wp2_with fail
                      with_reducible refine QT.out.mono ?_
                      rintro e wq ⟨rfl, hb⟩
                      have HBq := Lib.hid (HBX.out.trans (hb.mono HBX.out.size))
                      clear hb
                      go_wp2_with fail
                      go_ret
                      exact ⟨rfl, HB2.out.trans (HBq.out.mono HB2.out.size)⟩
                    · have ta : ((1 : Int) != 0) = true := rfl
                      have tb : ((1 : Int) != 1) = false := rfl
                      go_wp2_with fail
                      with_reducible refine QT.out.mono ?_
                      rintro e wq ⟨rfl, hb⟩
                      have HBq := Lib.hid (HBX.out.trans (hb.mono HBX.out.size))
                      clear hb
                      go_wp2_with fail
                      go_ret
                      exact ⟨rfl, HB2.out.trans (HBq.out.mono HB2.out.size)⟩
                  | true =>
                    have hbad : badO b [y0, y1, y2, y3, y4, y5] = false := hbadE2
                    clear hbadE2
                    have hst2 : Hid (b.o.any (badO b) = (b.o.drop (j + 1)).any (badO b)) := (show _ = _ from by rw [hrest.out, hst.out, hbad, Bool.false_or])
                    clear hst hbad
                    rcases h33 with rfl | rfl
                    · have ta : ((0 : Int) != 0) = false := rfl
                      go_wp2_with fail
                      with_reducible refine QT.out.mono ?_
                      rintro e wq ⟨rfl, hb⟩
                      have HBq := Lib.hid (HBX.out.trans (hb.mono HBX.out.size))
                      clear hb
                      go_wp2_with fail
                      go_roundw
                      case rel => exact ⟨j + 1, by go_num, by show _ ≤ _; omega, hst2.out, HBq.out⟩
                      case measure => simp [intOf]; omega
                    · have ta : ((1 : Int) != 0) = true := rfl
                      have tb : ((1 : Int) != 1) = false := rfl
                      go_wp2_with fail
                      with_reducible refine QT.out.mono ?_
                      rintro e wq ⟨rfl, hb⟩
                      have HBq := Lib.hid (HBX.out.trans (hb.mono HBX.out.size))
                      clear hb
                      go_wp2_with fail
                      go_roundw
                      case rel => exact ⟨j + 1, by go_num, by show _ ≤ _; omega, hst2.out, HBq.out⟩
                      case measure => simp [intOf]; omega
                · have tn : decide ((j : Int) < (b.o.length : Int)) = false := decide_eq_false (by omega)
                  have E3 : Hid (b.o.any (badO b) = false) := (show _ = _ from by rw [hrest.out, List.drop_eq_nil_of_le (by omega)]; rfl)
                  have hBr3 := hBr
                  clear hrest hBr hjl
                  go_wp2_with fail
                  have hR : Res = true := by rw [← hRes2.out, E0.out, E1.out, E2.out, E3.out]; rfl
                  subst hR
                  go_ret
                  exact ⟨rfl, HB2.out.trans (hBr3.out.mono HB2.out.size)⟩

end Go.Proofs.Ytfkfpppiikgjbaa
