/- Part 9 of what the claim rests on. -/
import Derived.Test.YtjcdpmianmgiaaaGreatDoorF00
import Derived.Test.YtjcdpmianmgiaaaGreatDoorF07
import Derived.Laws.Bits64b
import Derived.Laws.Externs
import Derived.Lib.Mul64
import Derived.Test.YtjcdpmianmgiaaaGreatDoorChecked
namespace Go.Proofs.YtjcdpmianmgiaaaGreatDoor
open Go Go.RowKit
set_option linter.unusedVariables false
set_option linter.unusedSimpArgs false
def thereB (b : Bk) (acc sym : Int) : Bool := (b.h.find? (isId acc)).isSome && (b.r.find? (isId sym)).isSome
def badH (r : List Int) : Bool := decide (r.getD 2 0 < 0) || decide (r.getD 3 0 < 0)
def badR (r : List Int) : Bool := decide (r.getD 1 0 < 1)
def badS (b : Bk) (r : List Int) : Bool := decide (r.getD 2 0 = 0) || !thereB b (r.getD 0 0) (r.getD 1 0)
def badO (b : Bk) (r : List Int) : Bool := decide (r.getD 4 0 < 1) || (decide (r.getD 5 0 < 1) || (decide (r.getD 3 0 < 0) || (decide (1 < r.getD 3 0) || !thereB b (r.getD 1 0) (r.getD 2 0))))
def Bk.listsB (b : Bk) : Bool := !decide (32 < b.h.length) && (!decide (64 < b.o.length) && (!decide (32 < b.r.length) && b.riseB))
def Bk.countB (b : Bk) : Bool := !decide (b.n < 0) && !decide (1099511627776 < b.n)
def Bk.mayB (b : Bk) : Bool := b.listsB && (b.countB && (!b.h.any badH && (!b.r.any badR && (!b.s.any (badS b) && !b.o.any (badO b)))))
theorem recOf_snd {k : Nat} {o : Option (List Int)} {r : List Int} {F : Bool} (h : recOf k o = (r, F)) : F = o.isSome := by
  cases o with
  | none => exact (congrArg Prod.snd h).symm
  | some x => exact (congrArg Prod.snd h).symm
set_option maxRecDepth 100000 in
theorem May2_any (x0 x1 x2 x3 : Int) (w : World) : Calls Tryz.prog 79 #[.agg #[.int .i64 x0, .int .i64 x1, .int .i64 x2, .int .i64 x3]] w fun e w' => e = .returned (.bool (badH [x0, x1, x2, x3])) ∧ Below w.heap.size w w' := by
  have hv : badH [x0, x1, x2, x3] = (decide (x2 < 0) || decide (x3 < 0)) := rfl
  rw [hv]
  clear hv
  by_cases h2 : x2 < 0
  · have t2 : decide (x2 < 0) = true := decide_eq_true h2
    rw [t2]
    clear h2
    go_enter Tryz.func79, Tryz.ntmps79
    go_wp2_with fail
    go_ret
    exact ⟨rfl, below_alloc (Below.refl _ _) (Nat.le_refl _) _⟩
  · have t2 : decide (x2 < 0) = false := decide_eq_false h2
    rw [t2]
    clear h2
    go_enter Tryz.func79, Tryz.ntmps79
    go_wp2_with fail
    go_ret
    exact ⟨rfl, below_alloc (Below.refl _ _) (Nat.le_refl _) _⟩
set_option maxRecDepth 100000 in
theorem May3_any (x0 x1 : Int) (w : World) : Calls Tryz.prog 80 #[.agg #[.int .i64 x0, .int .i64 x1]] w fun e w' => e = .returned (.bool (badR [x0, x1])) ∧ Below w.heap.size w w' := by
  have hv : badR [x0, x1] = decide (x1 < 1) := rfl
  rw [hv]
  clear hv
  go_enter Tryz.func80, Tryz.ntmps80
  go_wp2_with fail
  go_ret
  exact ⟨rfl, below_alloc (Below.refl _ _) (Nat.le_refl _) _⟩
set_option maxRecDepth 100000 in
set_option maxHeartbeats 2000000 in
theorem There_any (v : Value) (b : Bk) (g : Nat) (acc sym : Int) (w : World) (hb : Hid (BkAt w v b)) (hg : Hid (∃ cs, v = .agg cs ∧ w.heap[g]? = some (.cells cs 27 (0, 0)))) (hs : Hid b.Small) (hr : Hid b.Rise) :
    Calls Tryz.prog 76 #[.int .i64 acc, .int .i64 sym, .pointer (some ⟨g, 0, none⟩)] w fun e w' => e = .returned (.bool (thereB b acc sym)) ∧ Below w.heap.size w w' := by
  obtain ⟨vh, vs, vo, vr, rfl, r1, r2, r3, r4⟩ := hb.out
  obtain ⟨_, he, hg'⟩ := hg.out
  injection he with he
  subst he
  have K0 := zH hg'
  have lh : ∀ r ∈ b.h, r.length = 4 := by obtain ⟨_, _, _, h, _⟩ := r1; exact h
  have lr : ∀ r ∈ b.r, r.length = 2 := by obtain ⟨_, _, _, h, _⟩ := r4; exact h
  obtain ⟨rh, H0, hl1, hx1⟩ := rec_of lh (isId acc)
  obtain ⟨rr, R0, hl3, hx3⟩ := rec_of lr (isId sym)
  match rh, rr, hl1, hl3, hx1, hx3 with
  | [h0, h1, h2, h3], [p0, p1], _, _, hx1, hx3 =>
  have hres : thereB b acc sym = (H0 && R0) := by unfold thereB; rw [recOf_snd hx1, recOf_snd hx3]
  rw [hres]
  have B0 : Hid (BkAt w (.agg #[vh, vs, vo, vr, .int .i64 b.n]) b) := hb
  have HX1 := zH hx1
  have HX3 := zH hx3
  have F1 : b.h.length ≤ 1000000 := by have := hs.out; unfold Bk.Small at this; omega
  have F3 : b.r.length ≤ 1000000 := by have := hs.out; unfold Bk.Small at this; omega
  have HR1 := zH hr.out.1
  have HR3 := zH hr.out.2.2.1
  clear hb hg hg' r1 r2 r3 r4 lh lr hx1 hx3 hres hs hr
  have a0 := zC K0.out
  go_enter Tryz.func76, Tryz.ntmps76
  go_wp2_with fail
  with_reducible refine (Holder_any _ b acc h0 h1 h2 h3 H0 _ B0 F1 HR1 HX1).mono ?_
  rintro e w1 ⟨rfl, hb⟩
  have K1 := zK K0 hb
  have hb' := hb.trans ((below_alloc (Below.refl w1.heap.size w1) (Nat.le_refl _) (.cells #[.int .i64 h0, .int .i64 h1, .int .i64 h2, .int .i64 h3] 82)).mono hb.size)
  have B1 := zH (B0.out.call hb')
  have HB1 := zH hb'
  clear hb hb' a0
  have a0 := zC K1.out
  have hgl : g < w1.heap.size := zL K1.out
  go_wp2_with fail
  with_reducible refine (Rate_any _ b sym p0 p1 R0 _ B1 F3 HR3 HX3).mono ?_
  rintro e w2 ⟨rfl, hb⟩
  have HB2 := zB HB1 hb
  clear hb
  cases H0 with
  | false =>
    go_wp2_with fail
    go_ret
    exact ⟨rfl, HB2.out⟩
  | true =>
    go_wp2_with fail
    go_ret
    exact ⟨rfl, HB2.out⟩
set_option maxRecDepth 100000 in
set_option maxHeartbeats 2000000 in
theorem May4_any (v : Value) (b : Bk) (g p : Nat) (x0 x1 x2 : Int) (w : World) (hb : Hid (BkAt w v b)) (hg : Hid (∃ cs, v = .agg cs ∧ w.heap[g]? = some (.cells cs 27 (0, 0)))) (hp : Hid (w.heap[p]? = some (.cells #[.func (.func 76) #[] #[.pointer (some ⟨g, 0, none⟩)]] 126 (0, 0)))) (hs : Hid b.Small) (hr : Hid b.Rise) :
    Calls Tryz.prog 81 #[.agg #[.int .i64 x0, .int .i64 x1, .int .i64 x2], .pointer (some ⟨p, 0, none⟩)] w fun e w' => e = .returned (.bool (badS b [x0, x1, x2])) ∧ Below w.heap.size w w' := by
  have hv : badS b [x0, x1, x2] = (decide (x2 = 0) || !thereB b x0 x1) := rfl
  rw [hv]
  clear hv
  have HB0 : Hid (Below w.heap.size w (w.alloc (.cells #[.int .i64 x0, .int .i64 x1, .int .i64 x2] 84))) := below_alloc (Below.refl _ _) (Nat.le_refl _) _
  have q := zH (There_any v b g x0 x1 (w.alloc (.cells #[.int .i64 x0, .int .i64 x1, .int .i64 x2] 84)) (hb.out.call HB0.out) (by obtain ⟨cs, h1, h2⟩ := hg.out; exact ⟨cs, h1, blk_call h2 HB0.out⟩) hs hr)
  have c0 := cells_of_blk hp.out 0 _ rfl
  have hpl : p < w.heap.size := zL hp.out
  obtain ⟨T, hT⟩ : ∃ T, thereB b x0 x1 = T := ⟨_, rfl⟩
  rw [hT] at q ⊢
  clear hT hb hg hs hr hp
  by_cases h : x2 = 0
  · have t0 : (x2 == 0) = true := by simp [h]
    rw [decide_eq_true h]
    clear h
    go_enter Tryz.func81, Tryz.ntmps81
    go_wp2_with fail
    go_ret
    exact ⟨by simp, HB0.out⟩
  · have tb : (x2 == 0) = false := by simp [h]
    rw [decide_eq_false h]
    clear h
    cases T with
    | true =>
      go_enter Tryz.func81, Tryz.ntmps81
      go_wp2_with fail
      with_reducible refine q.out.mono ?_
      rintro e w2 ⟨rfl, hb⟩
      have HB2 := zB HB0 hb
      clear hb
      go_wp2_with fail
      go_ret
      exact ⟨by simp, HB2.out⟩
    | false =>
      go_enter Tryz.func81, Tryz.ntmps81
      go_wp2_with fail
      with_reducible refine q.out.mono ?_
      rintro e w2 ⟨rfl, hb⟩
      have HB2 := zB HB0 hb
      clear hb
      go_wp2_with fail
      go_ret
      exact ⟨by simp, HB2.out⟩
set_option maxRecDepth 100000 in
set_option maxHeartbeats 2000000 in
theorem May5_any (v : Value) (b : Bk) (g p : Nat) (x0 x1 x2 x3 x4 x5 : Int) (w : World) (hb : Hid (BkAt w v b)) (hg : Hid (∃ cs, v = .agg cs ∧ w.heap[g]? = some (.cells cs 27 (0, 0)))) (hp : Hid (w.heap[p]? = some (.cells #[.func (.func 76) #[] #[.pointer (some ⟨g, 0, none⟩)]] 126 (0, 0)))) (hs : Hid b.Small) (hr : Hid b.Rise) :
    Calls Tryz.prog 82 #[.agg #[.int .i64 x0, .int .i64 x1, .int .i64 x2, .int .i64 x3, .int .i64 x4, .int .i64 x5], .pointer (some ⟨p, 0, none⟩)] w fun e w' => e = .returned (.bool (badO b [x0, x1, x2, x3, x4, x5])) ∧ Below w.heap.size w w' := by
  have hv : badO b [x0, x1, x2, x3, x4, x5] = (decide (x4 < 1) || (decide (x5 < 1) || (decide (x3 < 0) || (decide (1 < x3) || !thereB b x1 x2)))) := rfl
  rw [hv]
  clear hv
  have HB0 : Hid (Below w.heap.size w (w.alloc (.cells #[.int .i64 x0, .int .i64 x1, .int .i64 x2, .int .i64 x3, .int .i64 x4, .int .i64 x5] 86))) := below_alloc (Below.refl _ _) (Nat.le_refl _) _
  have q := zH (There_any v b g x1 x2 (w.alloc (.cells #[.int .i64 x0, .int .i64 x1, .int .i64 x2, .int .i64 x3, .int .i64 x4, .int .i64 x5] 86)) (hb.out.call HB0.out) (by obtain ⟨cs, h1, h2⟩ := hg.out; exact ⟨cs, h1, blk_call h2 HB0.out⟩) hs hr)
  have c0 := cells_of_blk hp.out 0 _ rfl
  have hpl : p < w.heap.size := zL hp.out
  obtain ⟨T, hT⟩ : ∃ T, thereB b x1 x2 = T := ⟨_, rfl⟩
  rw [hT] at q ⊢
  clear hT hb hg hs hr hp
  by_cases h : x4 < 1
  · have t0 : decide (x4 < 1) = true := decide_eq_true h
    rw [decide_eq_true h]
    clear h
    go_enter Tryz.func82, Tryz.ntmps82
    go_wp2_with fail
    go_ret
    exact ⟨by simp, HB0.out⟩
  · have tb : decide (x4 < 1) = false := decide_eq_false h
    rw [decide_eq_false h]
    clear h
    by_cases h : x5 < 1
    · have t0 : decide (x5 < 1) = true := decide_eq_true h
      rw [decide_eq_true h]
      clear h
      go_enter Tryz.func82, Tryz.ntmps82
      go_wp2_with fail
      go_ret
      exact ⟨by simp, HB0.out⟩
    · have tc : decide (x5 < 1) = false := decide_eq_false h
      rw [decide_eq_false h]
      clear h
      by_cases h : x3 < 0
      · have t0 : decide (x3 < 0) = true := decide_eq_true h
        rw [decide_eq_true h]
        clear h
        go_enter Tryz.func82, Tryz.ntmps82
        go_wp2_with fail
        go_ret
        exact ⟨by simp, HB0.out⟩
      · have td : decide (x3 < 0) = false := decide_eq_false h
        rw [decide_eq_false h]
        clear h
        by_cases h : 1 < x3
        · have t0 : decide (1 < x3) = true := decide_eq_true h
          rw [decide_eq_true h]
          clear h
          go_enter Tryz.func82, Tryz.ntmps82
          go_wp2_with fail
          go_ret
          exact ⟨by simp, HB0.out⟩
        · have te : decide (1 < x3) = false := decide_eq_false h
          rw [decide_eq_false h]
          clear h
          cases T with
          | true =>
            go_enter Tryz.func82, Tryz.ntmps82
            go_wp2_with fail
            with_reducible refine q.out.mono ?_
            rintro e w2 ⟨rfl, hb⟩
            have HB2 := zB HB0 hb
            clear hb
            go_wp2_with fail
            go_ret
            exact ⟨by simp, HB2.out⟩
          | false =>
            go_enter Tryz.func82, Tryz.ntmps82
            go_wp2_with fail
            with_reducible refine q.out.mono ?_
            rintro e w2 ⟨rfl, hb⟩
            have HB2 := zB HB0 hb
            clear hb
            go_wp2_with fail
            go_ret
            exact ⟨by simp, HB2.out⟩
set_option maxRecDepth 100000 in
set_option maxHeartbeats 4000000 in
theorem lists_any (v : Value) (b : Bk) (w : World) (hb : Hid (BkAt w v b)) (hs : Hid b.Small) :
    Calls Tryz.prog 75 #[v] w fun e w' => e = .returned (.bool b.listsB) ∧ Below w.heap.size w w' := by
  obtain ⟨vh, vs, vo, vr, rfl, g1, g2, g3, g4⟩ := hb.out
  obtain ⟨Ah, ch, rfl, _⟩ := g1
  obtain ⟨As, cs, rfl, _⟩ := g2
  obtain ⟨Ao, co, rfl, _⟩ := g3
  obtain ⟨Ar, cr, rfl, _⟩ := g4
  obtain ⟨w1, hw1⟩ : ∃ w1, w.alloc (.cells #[.slice Ah b.h.length ch, .slice As b.s.length cs, .slice Ao b.o.length co, .slice Ar b.r.length cr, .int .i64 b.n] 27) = w1 := ⟨_, rfl⟩
  have HB : Hid (Below w.heap.size w w1) := by rw [← hw1]; exact below_alloc (Below.refl _ _) (Nat.le_refl _) _
  have K : Hid (w1.heap[w.heap.size]? = some (.cells #[.slice Ah b.h.length ch, .slice As b.s.length cs, .slice Ao b.o.length co, .slice Ar b.r.length cr, .int .i64 b.n] 27 (0, 0))) := by rw [← hw1]; exact heap_new w _
  obtain ⟨_, _, _, _, hh, g1, g2, g3, g4⟩ := hb.out.call HB.out
  injection hh with hh
  simp only [Array.mk.injEq, List.cons.injEq] at hh
  obtain ⟨rfl, rfl, rfl, rfl, _⟩ := hh
  have hl : b.h.length ≤ 1000000 ∧ b.s.length ≤ 1000000 ∧ b.o.length ≤ 1000000 ∧ b.r.length ≤ 1000000 := by have := hs.out; unfold Bk.Small at this; omega
  obtain ⟨hlh, hls, hlo, hlr⟩ := hl
  have R1 := zH g1
  have R2 := zH g3
  have R3 := zH g4
  have R4 := zH g2
  obtain ⟨Res, hRes⟩ : ∃ Res, b.listsB = Res := ⟨_, rfl⟩
  rw [hRes]
  unfold Bk.listsB Bk.riseB at hRes
  have Q1 := zH (fun wz v hv => risingHolder_any v b.h wz hv hlh)
  have Q2 := zH (fun wz v hv => risingOpen_any v b.o wz hv hlo)
  have Q3 := zH (fun wz v hv => risingRate_any v b.r wz hv hlr)
  have Q4 := zH (fun wz v hv => risingStake_any v b.s wz hv hls)
  generalize riseHB b.h = rh at *
  generalize riseHB b.o = ro at *
  generalize riseHB b.r = rr at *
  generalize riseSB b.s = rs at *
  have hs1 := zL K.out
  have hw1' := zH hw1
  clear hb g1 g2 g3 g4 hw1 hs
  have a0 := cells_of_blk K.out 0 _ rfl
  have a1 := cells_of_blk K.out 1 _ rfl
  have a2 := cells_of_blk K.out 2 _ rfl
  have a3 := cells_of_blk K.out 3 _ rfl
  have a4 := cells_of_blk K.out 4 _ rfl
  by_cases h : 32 < b.h.length
  · have t0 : decide ((32 : Int) < (b.h.length : Int)) = true := decide_eq_true (by omega)
    rw [decide_eq_true h] at hRes
    have hR : Res = false := by rw [← hRes]; simp
    subst hR
    clear h hRes
    rw [← hw1'.out] at a0 a1 a2 a3 a4
    go_enter Tryz.func75, Tryz.ntmps75
    go_wp2_with fail
    go_ret
    exact ⟨rfl, by have := HB.out; rw [← hw1'.out] at this; exact this⟩
  have t0 : decide ((32 : Int) < (b.h.length : Int)) = false := decide_eq_false (by omega)
  rw [decide_eq_false h] at hRes
  clear h
  by_cases h : 64 < b.o.length
  · have t0 : decide ((64 : Int) < (b.o.length : Int)) = true := decide_eq_true (by omega)
    rw [decide_eq_true h] at hRes
    have hR : Res = false := by rw [← hRes]; simp
    subst hR
    clear h hRes
    rw [← hw1'.out] at a0 a1 a2 a3 a4
    go_enter Tryz.func75, Tryz.ntmps75
    go_wp2_with fail
    go_ret
    exact ⟨rfl, by have := HB.out; rw [← hw1'.out] at this; exact this⟩
  have t1 : decide ((64 : Int) < (b.o.length : Int)) = false := decide_eq_false (by omega)
  rw [decide_eq_false h] at hRes
  clear h
  by_cases h : 32 < b.r.length
  · have t0 : decide ((32 : Int) < (b.r.length : Int)) = true := decide_eq_true (by omega)
    rw [decide_eq_true h] at hRes
    have hR : Res = false := by rw [← hRes]; simp
    subst hR
    clear h hRes
    rw [← hw1'.out] at a0 a1 a2 a3 a4
    go_enter Tryz.func75, Tryz.ntmps75
    go_wp2_with fail
    go_ret
    exact ⟨rfl, by have := HB.out; rw [← hw1'.out] at this; exact this⟩
  have t2 : decide ((32 : Int) < (b.r.length : Int)) = false := decide_eq_false (by omega)
  rw [decide_eq_false h] at hRes
  clear h
  rw [Bool.not_false, Bool.true_and, Bool.true_and, Bool.true_and] at hRes
  replace hRes := zH hRes
  rw [← hw1'.out] at a0 a1 a2 a3 a4
  go_enter Tryz.func75, Tryz.ntmps75
  go_wp2_with fail
  clear t0 t1 t2
  rw [hw1'.out] at a0 a1 a2 a3 a4 ⊢
  with_reducible refine (Q1.out _ _ (zH R1.out.rec')).mono ?_
  rintro e w2 ⟨rfl, hb⟩
  have K2 := zK K hb
  have HB2 := zB HB hb
  replace R2 := zH (R2.out.call hb)
  replace R3 := zH (R3.out.call hb)
  replace R4 := zH (R4.out.call hb)
  clear hb a0 a1 a2 a3 a4
  cases rh with
  | false =>
    have hR : Res = false := by rw [← hRes.out]; simp
    subst hR
    clear hRes
    go_wp2_with fail
    go_ret
    exact ⟨rfl, HB2.out⟩
  | true =>
  have a0 := zC K2.out
  go_wp2_with fail
  with_reducible refine (Q2.out _ _ (zH R2.out.rec')).mono ?_
  rintro e w3 ⟨rfl, hb⟩
  have K3 := zK K2 hb
  have HB3 := zB HB2 hb
  replace R3 := zH (R3.out.call hb)
  replace R4 := zH (R4.out.call hb)
  clear hb a0
  cases ro with
  | false =>
    have hR : Res = false := by rw [← hRes.out]; simp
    subst hR
    clear hRes
    go_wp2_with fail
    go_ret
    exact ⟨rfl, HB3.out⟩
  | true =>
  have a0 := zC K3.out
  go_wp2_with fail
  with_reducible refine (Q3.out _ _ (zH R3.out.rec')).mono ?_
  rintro e w4 ⟨rfl, hb⟩
  have K4 := zK K3 hb
  have HB4 := zB HB3 hb
  replace R4 := zH (R4.out.call hb)
  clear hb a0
  cases rr with
  | false =>
    have hR : Res = false := by rw [← hRes.out]; simp
    subst hR
    clear hRes
    go_wp2_with fail
    go_ret
    exact ⟨rfl, HB4.out⟩
  | true =>
  have a0 := zC K4.out
  go_wp2_with fail
  with_reducible refine (Q4.out _ _ (zH R4.out.rec')).mono ?_
  rintro e w5 ⟨rfl, hb⟩
  have K5 := zK K4 hb
  have HB5 := zB HB4 hb
  clear hb a0
  have hR : Res = rs := by rw [← hRes.out]; simp
  subst hR
  clear hRes
  go_wp2_with fail
  go_ret
  exact ⟨rfl, HB5.out⟩
set_option maxRecDepth 100000 in
theorem badH_pred (b : Bk) (w : World) (hk : ∀ r ∈ b.h, r.length = 4) : PredOn 79 #[] b.h badH w := fun W r hr hB => by
  match r, hk r hr with
  | [x0, x1, x2, x3], _ => exact May2_any x0 x1 x2 x3 W
theorem badR_pred (b : Bk) (w : World) (hk : ∀ r ∈ b.r, r.length = 2) : PredOn 80 #[] b.r badR w := fun W r hr hB => by
  match r, hk r hr with
  | [x0, x1], _ => exact May3_any x0 x1 W
theorem badS_pred (v : Value) (b : Bk) (g p : Nat) (w : World) (hb : Hid (BkAt w v b)) (hg : Hid (∃ cs, v = .agg cs ∧ w.heap[g]? = some (.cells cs 27 (0, 0)))) (hp : Hid (w.heap[p]? = some (.cells #[.func (.func 76) #[] #[.pointer (some ⟨g, 0, none⟩)]] 126 (0, 0)))) (hs : Hid b.Small) (hr : Hid b.Rise) (hk : ∀ r ∈ b.s, r.length = 3) :
    PredOn 81 #[.pointer (some ⟨p, 0, none⟩)] b.s (badS b) w := fun W r hr' hB => by
  match r, hk r hr' with
  | [x0, x1, x2], _ => exact May4_any v b g p x0 x1 x2 W (hb.out.call hB) (by obtain ⟨cs, h1, h2⟩ := hg.out; exact ⟨cs, h1, blk_call h2 hB⟩) (blk_call hp.out hB) hs hr
theorem badO_pred (v : Value) (b : Bk) (g p : Nat) (w : World) (hb : Hid (BkAt w v b)) (hg : Hid (∃ cs, v = .agg cs ∧ w.heap[g]? = some (.cells cs 27 (0, 0)))) (hp : Hid (w.heap[p]? = some (.cells #[.func (.func 76) #[] #[.pointer (some ⟨g, 0, none⟩)]] 126 (0, 0)))) (hs : Hid b.Small) (hr : Hid b.Rise) (hk : ∀ r ∈ b.o, r.length = 6) :
    PredOn 82 #[.pointer (some ⟨p, 0, none⟩)] b.o (badO b) w := fun W r hr' hB => by
  match r, hk r hr' with
  | [x0, x1, x2, x3, x4, x5], _ => exact May5_any v b g p x0 x1 x2 x3 x4 x5 W (hb.out.call hB) (by obtain ⟨cs, h1, h2⟩ := hg.out; exact ⟨cs, h1, blk_call h2 hB⟩) (blk_call hp.out hB) hs hr
theorem listsB_rise {b : Bk} (h : b.listsB = true) : b.Rise := by
  unfold Bk.listsB at h
  simp only [Bool.and_eq_true] at h
  exact (Bk.riseB_iff b).1 h.2.2.2
set_option maxRecDepth 100000 in
set_option maxHeartbeats 8000000 in
theorem BkMay_any (v : Value) (b : Bk) (w : World) (hb : Hid (BkAt w v b)) (hs : Hid b.Small) :
    Calls Tryz.prog 35 #[v] w fun e w' => e = .returned (.bool b.mayB) ∧ Below w.heap.size w w' := by
  obtain ⟨vh, vs, vo, vr, rfl, g1, g2, g3, g4⟩ := hb.out
  obtain ⟨Ah, ch, rfl, kh, _⟩ := g1
  obtain ⟨As, cs, rfl, ks, _⟩ := g2
  obtain ⟨Ao, co, rfl, ko, _⟩ := g3
  obtain ⟨Ar, cr, rfl, kr, _⟩ := g4
  obtain ⟨w1, hw1⟩ : ∃ w1, w.alloc (.cells #[.slice Ah b.h.length ch, .slice As b.s.length cs, .slice Ao b.o.length co, .slice Ar b.r.length cr, .int .i64 b.n] 27) = w1 := ⟨_, rfl⟩
  have HB : Hid (Below w.heap.size w w1) := by rw [← hw1]; exact below_alloc (Below.refl _ _) (Nat.le_refl _) _
  have K : Hid (w1.heap[w.heap.size]? = some (.cells #[.slice Ah b.h.length ch, .slice As b.s.length cs, .slice Ao b.o.length co, .slice Ar b.r.length cr, .int .i64 b.n] 27 (0, 0))) := by rw [← hw1]; exact heap_new w _
  have BA := zH (hb.out.call HB.out)
  have hl : b.h.length ≤ 1000000 ∧ b.s.length ≤ 1000000 ∧ b.o.length ≤ 1000000 ∧ b.r.length ≤ 1000000 := by have := hs.out; unfold Bk.Small at this; omega
  obtain ⟨hlh, hls, hlo, hlr⟩ := hl
  have KH := zH kh
  have KS := zH ks
  have KO := zH ko
  have KR := zH kr
  obtain ⟨Res, hRes⟩ : ∃ Res, b.mayB = Res := ⟨_, rfl⟩
  rw [hRes]
  unfold Bk.mayB Bk.countB at hRes
  replace hRes := zH hRes
  replace hw1 := zH hw1
  clear hb kh ks ko kr
  have a0 := cells_of_blk K.out 0 _ rfl
  have a1 := cells_of_blk K.out 1 _ rfl
  have a2 := cells_of_blk K.out 2 _ rfl
  have a3 := cells_of_blk K.out 3 _ rfl
  have a4 := cells_of_blk K.out 4 _ rfl
  rw [← hw1.out] at a0 a1 a2 a3 a4
  go_enter Tryz.func35, Tryz.ntmps35
  go_wp2_with fail
  rw [hw1.out] at a0 a1 a2 a3 a4 ⊢
  with_reducible refine (lists_any _ b _ BA hs).mono ?_
  rintro e w2 ⟨rfl, hb⟩
  have K2 := zK K hb
  have BA2 := zH (BA.out.call hb)
  have HB2 := zB HB hb
  clear hb a0 a1 a2 a3 a4
  have a0 := zC K2.out
  have l2 := zL K2.out
  cases hL : b.listsB with
  | false =>
    have hR : Res = false := by rw [← hRes.out, hL]; simp
    subst hR
    clear hRes hL
    go_wp2_with fail
    go_ret
    exact ⟨rfl, HB2.out⟩
  | true =>
  have HR := zH (listsB_rise hL)
  rw [hL, Bool.true_and] at hRes
  clear hL
  by_cases h0 : b.n < 0
  · have t0 : decide (b.n < 0) = true := decide_eq_true h0
    have hR : Res = false := by rw [← hRes.out, t0]; simp
    subst hR
    clear hRes h0
    go_wp2_with fail
    go_ret
    exact ⟨rfl, HB2.out⟩
  have t0 : decide (b.n < 0) = false := decide_eq_false h0
  by_cases h1 : 1099511627776 < b.n
  · have t1 : decide (1099511627776 < b.n) = true := decide_eq_true h1
    have hR : Res = false := by rw [← hRes.out, t1]; simp
    subst hR
    clear hRes h0 h1
    go_wp2_with fail
    go_ret
    exact ⟨rfl, HB2.out⟩
  have t1 : decide (1099511627776 < b.n) = false := decide_eq_false h1
  rw [t0, t1, Bool.not_false, Bool.true_and, Bool.true_and] at hRes
  clear h0 h1
  obtain ⟨w3, hw3⟩ : ∃ w3, w2.alloc (.cells #[.func (.func 76) #[] #[.pointer (some ⟨w.heap.size, 0, none⟩)]] 126) = w3 := ⟨_, rfl⟩
  have hb : Below w2.heap.size w2 w3 := by rw [← hw3]; exact below_alloc (Below.refl _ _) (Nat.le_refl _) _
  have K3 := zK K2 hb
  have BA3 := zH (BA2.out.call hb)
  have HB3 := zB HB2 hb
  have P3 : Hid (w3.heap[w2.heap.size]? = some (.cells #[.func (.func 76) #[] #[.pointer (some ⟨w.heap.size, 0, none⟩)]] 126 (0, 0))) := by rw [← hw3]; exact heap_new _ _
  replace hw3 := zH hw3
  clear hb
  have hst := fun (a : Addr) (c : Array Value) (wz : World) => run_store Tryz.prog wz a (.func (.func 76) #[] c) .plain rfl
  go_wp2_with fail
  rw [hw3.out]
  clear a0 t0 t1
  have hrow : Hid (RecAt w3 (.slice Ah b.h.length ch) 4 b.h) := by
    obtain ⟨_, _, _, _, hh, r1, r2, r3, r4⟩ := BA3.out
    injection hh with hh
    simp only [Array.mk.injEq, List.cons.injEq] at hh
    obtain ⟨rfl, rfl, rfl, rfl, _⟩ := hh
    exact r1.rec'
  have q := zH (ContainsHolder_any 79 #[] (enters_of Tryz.func79 (by kernel_rfl) rfl) (.slice Ah b.h.length ch) b.h (badH) w3 hrow hlh (badH_pred b _ KH.out))
  have a0 := zC K3.out
  obtain ⟨F, hF⟩ : ∃ F, b.h.any (badH) = F := ⟨_, rfl⟩
  rw [hF] at q hRes
  clear hF hrow
  go_wp2_with fail
  with_reducible refine q.out.mono ?_
  rintro e w4 ⟨rfl, hb⟩
  have K4 := zK K3 hb
  have P4 := zK P3 hb
  have BA4 := zH (BA3.out.call hb)
  have HB4 := zB HB3 hb
  clear hb q a0
  cases F with
  | true =>
    have hR : Res = false := by rw [← hRes.out]; simp
    subst hR
    clear hRes
    go_wp2_with fail
    go_ret
    exact ⟨rfl, HB4.out⟩
  | false =>
  rw [Bool.not_false, Bool.true_and] at hRes
  have hrow : Hid (RecAt w4 (.slice Ar b.r.length cr) 2 b.r) := by
    obtain ⟨_, _, _, _, hh, r1, r2, r3, r4⟩ := BA4.out
    injection hh with hh
    simp only [Array.mk.injEq, List.cons.injEq] at hh
    obtain ⟨rfl, rfl, rfl, rfl, _⟩ := hh
    exact r4.rec'
  have q := zH (ContainsRate_any 80 #[] (enters_of Tryz.func80 (by kernel_rfl) rfl) (.slice Ar b.r.length cr) b.r (badR) w4 hrow hlr (badR_pred b _ KR.out))
  have a0 := zC K4.out
  obtain ⟨F, hF⟩ : ∃ F, b.r.any (badR) = F := ⟨_, rfl⟩
  rw [hF] at q hRes
  clear hF hrow
  go_wp2_with fail
  with_reducible refine q.out.mono ?_
  rintro e w5 ⟨rfl, hb⟩
  have K5 := zK K4 hb
  have P5 := zK P4 hb
  have BA5 := zH (BA4.out.call hb)
  have HB5 := zB HB4 hb
  clear hb q a0
  cases F with
  | true =>
    have hR : Res = false := by rw [← hRes.out]; simp
    subst hR
    clear hRes
    go_wp2_with fail
    go_ret
    exact ⟨rfl, HB5.out⟩
  | false =>
  rw [Bool.not_false, Bool.true_and] at hRes
  have hrow : Hid (RecAt w5 (.slice As b.s.length cs) 3 b.s) := by
    obtain ⟨_, _, _, _, hh, r1, r2, r3, r4⟩ := BA5.out
    injection hh with hh
    simp only [Array.mk.injEq, List.cons.injEq] at hh
    obtain ⟨rfl, rfl, rfl, rfl, _⟩ := hh
    exact r2.rec'
  have q := zH (ContainsStake_any 81 #[.pointer (some ⟨w2.heap.size, 0, none⟩)] (enters_of Tryz.func81 (by kernel_rfl) rfl) (.slice As b.s.length cs) b.s (badS b) w5 hrow hls (badS_pred _ b _ _ _ BA5 ⟨_, rfl, K5.out⟩ P5 hs HR KS.out))
  have a0 := zC K5.out
  obtain ⟨F, hF⟩ : ∃ F, b.s.any (badS b) = F := ⟨_, rfl⟩
  rw [hF] at q hRes
  clear hF hrow
  go_wp2_with fail
  with_reducible refine q.out.mono ?_
  rintro e w6 ⟨rfl, hb⟩
  have K6 := zK K5 hb
  have P6 := zK P5 hb
  have BA6 := zH (BA5.out.call hb)
  have HB6 := zB HB5 hb
  clear hb q a0
  cases F with
  | true =>
    have hR : Res = false := by rw [← hRes.out]; simp
    subst hR
    clear hRes
    go_wp2_with fail
    go_ret
    exact ⟨rfl, HB6.out⟩
  | false =>
  rw [Bool.not_false, Bool.true_and] at hRes
  have hrow : Hid (RecAt w6 (.slice Ao b.o.length co) 6 b.o) := by
    obtain ⟨_, _, _, _, hh, r1, r2, r3, r4⟩ := BA6.out
    injection hh with hh
    simp only [Array.mk.injEq, List.cons.injEq] at hh
    obtain ⟨rfl, rfl, rfl, rfl, _⟩ := hh
    exact r3.rec'
  have q := zH (ContainsOpen_any 82 #[.pointer (some ⟨w2.heap.size, 0, none⟩)] (enters_of Tryz.func82 (by kernel_rfl) rfl) (.slice Ao b.o.length co) b.o (badO b) w6 hrow hlo (badO_pred _ b _ _ _ BA6 ⟨_, rfl, K6.out⟩ P6 hs HR KO.out))
  have a0 := zC K6.out
  obtain ⟨F, hF⟩ : ∃ F, b.o.any (badO b) = F := ⟨_, rfl⟩
  rw [hF] at q hRes
  clear hF hrow
  go_wp2_with fail
  with_reducible refine q.out.mono ?_
  rintro e w7 ⟨rfl, hb⟩
  have K7 := zK K6 hb
  have P7 := zK P6 hb
  have BA7 := zH (BA6.out.call hb)
  have HB7 := zB HB6 hb
  clear hb q a0
  cases F with
  | true =>
    have hR : Res = false := by rw [← hRes.out]; rfl
    subst hR
    clear hRes
    go_wp2_with fail
    go_ret
    exact ⟨rfl, HB7.out⟩
  | false =>
    have hR : Res = true := by rw [← hRes.out]; rfl
    subst hR
    clear hRes
    go_wp2_with fail
    go_ret
    exact ⟨rfl, HB7.out⟩
end Go.Proofs.YtjcdpmianmgiaaaGreatDoor
namespace Go.Proofs.YtjcdpmianmgiaaaGreatDoor
open Go
set_option linter.unusedVariables false
namespace Bg
def pv (f : Nat → Nat) : Nat → Nat
  | 0 => 0
  | n + 1 => pv f n + f n * 10000 ^ n
def dg (ds : List Nat) (i : Nat) : Nat := ds.getD i 0
def vl (ds : List Nat) : Nat := pv (dg ds) ds.length
end Bg
end Go.Proofs.YtjcdpmianmgiaaaGreatDoor
namespace Go.Proofs.YtjcdpmianmgiaaaGreatDoor
open Go
set_option linter.unusedVariables false
namespace Mon
abbrev M : Int := 18446744073709551616
abbrev M3 : Int := 6277101735386680763835789423207666416102355444464034512896
def w0 (V : Int) : Int := V % M
def w1 (V : Int) : Int := V / M % M
def w2 (V : Int) : Int := V / M / M
def Ok (V : Int) : Prop := 0 ≤ V ∧ V < M3
def sg (V : Int) : Int := if V < 3138550867693340381917894711603833208051177722232017256448 then V else V - M3
def fits (x : Int) : Bool := decide (-9223372036854775808 ≤ x) && decide (x ≤ 9223372036854775807)
def total (V : Int) : Int × Bool := if fits (sg V) then (sg V, true) else (0, false)
def share (V r : Int) : Int × Bool :=
  if V < 3138550867693340381917894711603833208051177722232017256448 ∧ 0 ≤ r ∧ r ≤ 1000 then
    (if ((V * r) % M3 + 99) % M3 / 100 ≤ 9223372036854775807 then (((V * r) % M3 + 99) % M3 / 100, true) else (0, false))
  else (0, false)
theorem w_ok {V : Int} (h : Ok V) : (0 ≤ w0 V ∧ w0 V < M) ∧ (0 ≤ w1 V ∧ w1 V < M) ∧ (0 ≤ w2 V ∧ w2 V < M) := by
  obtain ⟨a, b⟩ := h
  unfold w0 w1 w2 M M3 at *
  omega
theorem w_back {V : Int} (h : Ok V) : w0 V + w1 V * M + w2 V * (M * M) = V := by
  obtain ⟨a, b⟩ := h
  unfold w0 w1 w2 M M3 at *
  omega
theorem w_of {V a b c : Int} (ha : 0 ≤ a ∧ a < M) (hb : 0 ≤ b ∧ b < M) (hc : 0 ≤ c ∧ c < M) (h : V = a + b * M + c * (M * M)) : w0 V = a ∧ w1 V = b ∧ w2 V = c ∧ Ok V := by
  unfold w0 w1 w2 Ok M M3 at *
  omega
theorem add_words {a b c d e f : Int} (ha : 0 ≤ a ∧ a < M) (hb : 0 ≤ b ∧ b < M) (hc : 0 ≤ c ∧ c < M) (hd : 0 ≤ d ∧ d < M) (he : 0 ≤ e ∧ e < M) (hf : 0 ≤ f ∧ f < M) :
    (a + b * M + c * (M * M) + (d + e * M + f * (M * M))) % M3 =
      (a + d) % M + ((b + e + (a + d) / M) % M) * M + ((c + f + (b + e + (a + d) / M) / M) % M) * (M * M) := by
  unfold M M3 at *
  omega
theorem neg_words {a b c : Int} (ha : 0 ≤ a ∧ a < M) (hb : 0 ≤ b ∧ b < M) (hc : 0 ≤ c ∧ c < M) :
    (M3 - (a + b * M + c * (M * M))) % M3 =
      (M - 1 - a + 1) % M + ((M - 1 - b + (M - 1 - a + 1) / M) % M) * M + ((M - 1 - c + (M - 1 - b + (M - 1 - a + 1) / M) / M) % M) * (M * M) := by
  unfold M M3 at *
  omega
theorem div_words {a b c : Int} (ha : 0 ≤ a ∧ a < M) (hb : 0 ≤ b ∧ b < M) (hc : 0 ≤ c ∧ c < M) :
    (a + b * M + c * (M * M)) / 100 = (((c % 100) * M + b) % 100 * M + a) / 100 + (((c % 100) * M + b) / 100) * M + (c / 100) * (M * M) := by
  unfold M at *
  omega
end Mon
end Go.Proofs.YtjcdpmianmgiaaaGreatDoor
namespace Go.Proofs.YtjcdpmianmgiaaaGreatDoor
open Go Go.RowKit Mon
theorem add64 (x y c : Int) (hx : 0 ≤ x) (hy : 0 ≤ y) (hc0 : 0 ≤ c) (hc : c ≤ 1) (w : World) : (callFunc 189 #[.int .u64 x, .int .u64 y, .int .u64 c]).run Tryz.prog w =
    .ok (.value (.tuple #[.int .u64 ((x + y + c) % 18446744073709551616), .int .u64 ((x + y + c) / 18446744073709551616)])) w := by
  rw [run_callFunc_extern Tryz.func189 (by kernel_rfl) (by kernel_rfl) (by kernel_rfl) (e := add64Entry) (by kernel_rfl), run_add64 x y c hx hy hc0 hc]
  rfl
theorem add64_0 (x y : Int) (hx : 0 ≤ x) (hy : 0 ≤ y) (w : World) : (callFunc 189 #[.int .u64 x, .int .u64 y, .int .u64 0]).run Tryz.prog w =
    .ok (.value (.tuple #[.int .u64 ((x + y) % 18446744073709551616), .int .u64 ((x + y) / 18446744073709551616)])) w := by
  simpa using add64 x y 0 hx hy (Int.le_refl 0) (by decide) w
namespace Mul64
theorem maskN (a : Nat) (ha : a < 18446744073709551616) : bits .and .u64 (a : Int) 4294967295 = ((a % 4294967296 : Nat) : Int) := by
  have h := bits_and_u64_nat a 4294967295 ha (by omega)
  have e : a &&& 4294967295 = a % 4294967296 := Nat.and_two_pow_sub_one_eq_mod a 32
  rw [e] at h
  exact h
theorem divN (a : Nat) : (a : Int) / 4294967296 = ((a / 4294967296 : Nat) : Int) := by omega
theorem mulN (a b : Nat) : (a : Int) * (b : Int) = ((a * b : Nat) : Int) := (Int.natCast_mul a b).symm
theorem addN (a b : Nat) : (a : Int) + (b : Int) = ((a + b : Nat) : Int) := (Int.natCast_add a b).symm
theorem wrapN (a : Nat) (ha : a < 18446744073709551616) : IntKind.u64.wrap (a : Int) = (a : Int) := by rw [IntKind.wrap_u64]; omega
theorem wrapM (a : Nat) : IntKind.u64.wrap (a : Int) = ((a % 18446744073709551616 : Nat) : Int) := by rw [IntKind.wrap_u64]; omega
end Mul64
set_option maxHeartbeats 1000000 in
theorem mul64_nat (x y : Nat) (hx : x < 18446744073709551616) (hy : y < 18446744073709551616) (w : World) :
    Calls Tryz.prog 181 #[.int .u64 x, .int .u64 y] w fun e w' => e = .returned (.tuple #[.int .u64 ((x * y / 18446744073709551616 : Nat) : Int), .int .u64 ((x * y % 18446744073709551616 : Nat) : Int)]) ∧ w' = w := by
  obtain ⟨bd, bt, bw, hhi⟩ := Lib.mul64_hi x y hx hy
  have ba := Lib.half_mul_le (a := x / 4294967296) (b := y / 4294967296) (by omega) (by omega)
  have bb := Lib.half_mul_le (a := x / 4294967296) (b := y % 4294967296) (by omega) (by omega)
  have bc := Lib.half_mul_le (a := x % 4294967296) (b := y / 4294967296) (by omega) (by omega)
  have ba' : x / 4294967296 * (y / 4294967296) < 18446744073709551616 := by omega
  have bb' : x / 4294967296 * (y % 4294967296) < 18446744073709551616 := by omega
  have bc' : x % 4294967296 * (y / 4294967296) < 18446744073709551616 := by omega
  have bh1 : x / 4294967296 * (y / 4294967296) + (x / 4294967296 * (y % 4294967296) + x % 4294967296 * (y % 4294967296) / 4294967296) / 4294967296 < 18446744073709551616 := by omega
  have bh : x / 4294967296 * (y / 4294967296) + (x / 4294967296 * (y % 4294967296) + x % 4294967296 * (y % 4294967296) / 4294967296) / 4294967296 + ((x / 4294967296 * (y % 4294967296) + x % 4294967296 * (y % 4294967296) / 4294967296) % 4294967296 + x % 4294967296 * (y / 4294967296)) / 4294967296 < 18446744073709551616 := by omega
  go_enter Tryz.func181, Tryz.ntmps181
  go_wp2
  simp only [Mul64.maskN x hx, Mul64.maskN y hy, Mul64.divN, Mul64.mulN, Mul64.addN, Mul64.wrapN _ bd, Mul64.wrapN _ bb', Mul64.wrapN _ bt, Mul64.maskN _ bt, Mul64.wrapN _ bc', Mul64.wrapN _ bw, Mul64.wrapN _ ba', Mul64.wrapN _ bh1, Mul64.wrapN _ bh, Mul64.wrapM (x * y)]
  rw [hhi]
  go_ret2
  exact ⟨rfl, rfl⟩
theorem mul64 (x y : Int) (hx : 0 ≤ x ∧ x < M) (hy : 0 ≤ y ∧ y < M) (w : World) :
    Calls Tryz.prog 181 #[.int .u64 x, .int .u64 y] w fun e w' => e = .returned (.tuple #[.int .u64 (x * y / 18446744073709551616), .int .u64 (x * y % 18446744073709551616)]) ∧ w' = w := by
  obtain ⟨a, rfl⟩ := Int.eq_ofNat_of_zero_le hx.1
  obtain ⟨b, rfl⟩ := Int.eq_ofNat_of_zero_le hy.1
  have := mul64_nat a b (by unfold M at hx; omega) (by unfold M at hy; omega) w
  simpa using this
end Go.Proofs.YtjcdpmianmgiaaaGreatDoor
namespace Go.Proofs.YtjcdpmianmgiaaaGreatDoor
open Go Go.RowKit Mon
set_option maxRecDepth 100000 in
theorem len64_100 (w : World) : Calls Tryz.prog 197 #[.int .u64 100] w fun e w' => e = .returned (.int .i64 7) ∧ w' = w := by
  go_enter Tryz.func197, Tryz.ntmps197
  go_wp2
  go_ret
  exact ⟨by kernel_rfl, rfl⟩
theorem lead64_100 (w : World) : Calls Tryz.prog 208 #[.int .u64 100] w fun e w' => e = .returned (.int .i64 57) ∧ w' = w := by
  go_enter Tryz.func208, Tryz.ntmps208
  go_wp2_with (go_at_call 197; refine (len64_100 _).mono ?_; rintro e w' ⟨rfl, rfl⟩)
  go_ret
  exact ⟨rfl, rfl⟩
theorem div_or (hi lo : Int) (hh : 0 ≤ hi ∧ hi < 100) (hl : 0 ≤ lo ∧ lo < M) : bits .or .u64 (hi * 144115188075855872) (lo / 128) = hi * 144115188075855872 + lo / 128 := by
  obtain ⟨a, rfl⟩ := Int.eq_ofNat_of_zero_le hh.1
  obtain ⟨b, rfl⟩ := Int.eq_ofNat_of_zero_le hl.1
  have e1 : ((a : Int) * 144115188075855872) = ((a * 144115188075855872 : Nat) : Int) := by omega
  have e2 : ((b : Int) / 128) = ((b / 128 : Nat) : Int) := by omega
  have hb : b / 128 < 2 ^ 57 := by unfold M at hl; omega
  rw [e1, e2, bits_or_u64_nat _ _ (by omega) (by unfold M at hl; omega)]
  have := Nat.two_pow_add_eq_or_of_lt hb a
  rw [show 2 ^ 57 * a = a * 144115188075855872 by omega] at this
  rw [← this]; omega
theorem div_and (lo : Int) (hl : 0 ≤ lo ∧ lo < M) : bits .and .u64 (lo % 128 * 144115188075855872) 4294967295 = 0 := by
  obtain ⟨b, rfl⟩ := Int.eq_ofNat_of_zero_le hl.1
  have e1 : ((b : Int) % 128 * 144115188075855872) = ((b % 128 * 144115188075855872 : Nat) : Int) := by omega
  rw [e1, Mul64.maskN _ (by omega)]
  omega
set_option maxRecDepth 100000 in
set_option maxHeartbeats 1000000 in
theorem div64_100 (hi lo : Int) (hh : 0 ≤ hi ∧ hi < 100) (hl : 0 ≤ lo ∧ lo < M) (w : World) :
    Calls Tryz.prog 190 #[.int .u64 hi, .int .u64 lo, .int .u64 100] w fun e w' => e = .returned (.tuple #[.int .u64 ((hi * 18446744073709551616 + lo) / 100), .int .u64 ((hi * 18446744073709551616 + lo) % 100)]) ∧ ∃ n, w' = w.drewN n := by
  have h1 : ¬ (100 ≤ hi) := by omega
  by_cases h0 : hi = 0
  · subst h0
    go_enter Tryz.func190, Tryz.ntmps190
    go_wp2
    go_quiet (fail)
    go_wp2
    go_ret2
    have e1 : IntKind.u64.wrap (lo.tdiv 100) = lo / 100 := by rw [Int.tdiv_eq_ediv_of_nonneg hl.1, IntKind.wrap_u64]; unfold M at hl; omega
    have e2 : IntKind.u64.wrap (lo.tmod 100) = lo % 100 := by rw [Int.tmod_eq_emod_of_nonneg hl.1, IntKind.wrap_u64]; unfold M at hl; omega
    refine ⟨?_, _, rfl⟩
    rw [Int.zero_mul, Int.zero_add, ← e1, ← e2]
    rfl
  · have h2 : ¬ ((hi == 0) = true) := by simpa using h0
    go_enter Tryz.func190, Tryz.ntmps190
    go_wp2_with (go_at_call 208; refine (lead64_100 _).mono ?_; rintro e w' ⟨rfl, rfl⟩)
    have hor : bits .or .u64 (hi * 144115188075855872) (lo / 128) = hi * 144115188075855872 + lo / 128 := div_or hi lo hh hl
    have hand : bits .and .u64 14411518807585587200 4294967295 = 0 := by decide +kernel
    have hw : IntKind.u64.wrap (lo * 144115188075855872) = lo % 128 * 144115188075855872 := by rw [IntKind.wrap_u64]; omega
    have hand2 : bits .and .u64 (lo % 128 * 144115188075855872) 4294967295 = 0 := div_and lo hl
    have htd : (hi * 144115188075855872 + lo / 128).tdiv 3355443200 = (hi * 144115188075855872 + lo / 128) / 3355443200 := Int.tdiv_eq_ediv_of_nonneg (by unfold M at hl; omega)
    have hq0 : IntKind.u64.wrap ((hi * 144115188075855872 + lo / 128) / 3355443200) = (hi * 144115188075855872 + lo / 128) / 3355443200 := by rw [IntKind.wrap_u64]; unfold M at hl; omega
    have hq1 : IntKind.u64.wrap ((hi * 144115188075855872 + lo / 128) / 3355443200 * 3355443200) = (hi * 144115188075855872 + lo / 128) / 3355443200 * 3355443200 := by rw [IntKind.wrap_u64]; unfold M at hl; omega
    have hr : IntKind.u64.wrap (hi * 144115188075855872 + lo / 128 - (hi * 144115188075855872 + lo / 128) / 3355443200 * 3355443200) = (hi * 144115188075855872 + lo / 128) % 3355443200 := by rw [IntKind.wrap_u64]; unfold M at hl; omega
    have hun : lo % 128 * 144115188075855872 / 4294967296 = lo % 128 * 33554432 := by omega
    simp only [hor, hand, hw, hand2, htd, hq0, hq1, hr, hun]
    obtain ⟨u, hu⟩ : ∃ u : Int, hi * 144115188075855872 + lo / 128 = u := ⟨_, rfl⟩
    obtain ⟨q, hq⟩ : ∃ q : Int, u / 3355443200 = q := ⟨_, rfl⟩
    obtain ⟨r, hr'⟩ : ∃ r : Int, u % 3355443200 = r := ⟨_, rfl⟩
    obtain ⟨v, hv⟩ : ∃ v : Int, lo % 128 * 33554432 = v := ⟨_, rfl⟩
    rw [hu, hq, hr', hv]
    have H := zH (And.intro hu (And.intro hq (And.intro hr' hv)))
    have q0 : 0 ≤ q := by unfold M at hl; omega
    have q1 : q < 4294967296 := by unfold M at hl; omega
    have r0 : 0 ≤ r := by omega
    have r1 : r < 3355443200 := by omega
    have u0 : 0 ≤ u := by unfold M at hl; omega
    have u1 : u < 14411518807585587200 := by unfold M at hl; omega
    have v0 : 0 ≤ v := by omega
    have v1 : v < 4294967296 := by omega
    have q2 : ¬ (4294967296 ≤ q) := by omega
    clear hor hand hw hand2 htd hq0 hq1 hr hun hu hq hr' hv
    go_loopw [15, 16] (fun s15 s16 wr => s15 = .int .u64 q ∧ s16 = .int .u64 r ∧ wr = w') (fun _ _ _ => 0)
    case atStart => exact ⟨rfl, rfl, rfl⟩
    case round =>
      obtain ⟨rfl, rfl, rfl⟩ := hrel
      go_wp2
      have f1 : IntKind.u64.wrap (IntKind.u64.wrap (IntKind.u64.wrap (u * 4294967296) + v) - IntKind.u64.wrap (q * 14411518807585587200)) = r * 4294967296 + v := by
        simp only [IntKind.wrap_u64]; have := H.out; omega
      simp only [f1]
      obtain ⟨n, hn⟩ : ∃ n : Int, r * 4294967296 + v = n := ⟨_, rfl⟩
      rw [hn]
      have n0 : 0 ≤ n := by omega
      have n1 : n < 14411518807585587200 := by omega
      have htd : n.tdiv 3355443200 = n / 3355443200 := Int.tdiv_eq_ediv_of_nonneg n0
      have hq0 : IntKind.u64.wrap (n / 3355443200) = n / 3355443200 := by rw [IntKind.wrap_u64]; omega
      have hq1 : IntKind.u64.wrap (n / 3355443200 * 3355443200) = n / 3355443200 * 3355443200 := by rw [IntKind.wrap_u64]; omega
      have hr : IntKind.u64.wrap (n - n / 3355443200 * 3355443200) = n % 3355443200 := by rw [IntKind.wrap_u64]; omega
      simp only [htd, hq0, hq1, hr]
      obtain ⟨k, hk⟩ : ∃ k : Int, n / 3355443200 = k := ⟨_, rfl⟩
      obtain ⟨s, hs⟩ : ∃ s : Int, n % 3355443200 = s := ⟨_, rfl⟩
      rw [hk, hs]
      have H2 := zH (And.intro hn (And.intro hk hs))
      have k0 : 0 ≤ k := by omega
      have k1 : k < 4294967296 := by omega
      have k2 : ¬ (4294967296 ≤ k) := by omega
      have s0 : 0 ≤ s := by omega
      have s1 : s < 3355443200 := by omega
      clear htd hq0 hq1 hr hn hk hs f1
      go_loopw [16, 18] (fun s16 s18 wr' => s16 = .int .u64 s ∧ s18 = .int .u64 k ∧ wr' = wr) (fun _ _ _ => 0)
      case atStart => exact ⟨rfl, rfl, rfl⟩
      case round =>
        obtain ⟨rfl, rfl, rfl⟩ := hrel
        go_wp2
        have e1 : IntKind.u64.wrap (IntKind.u64.wrap (q * 4294967296) + k) = (hi * 18446744073709551616 + lo) / 100 := by
          simp only [IntKind.wrap_u64]; have := H.out; have := H2.out; omega
        have e2 : IntKind.u64.wrap (IntKind.u64.wrap (IntKind.u64.wrap (n * 4294967296)) - IntKind.u64.wrap (k * 14411518807585587200)) / 144115188075855872 = (hi * 18446744073709551616 + lo) % 100 := by
          simp only [IntKind.wrap_u64]; have := H.out; have := H2.out; omega
        go_ret2
        refine ⟨?_, 0, rfl⟩
        rw [← e2, ← e1, show IntKind.u64.wrap (IntKind.u64.wrap (q * 4294967296) + k) = q * 4294967296 + k by simp only [IntKind.wrap_u64]; omega]
        rfl
end Go.Proofs.YtjcdpmianmgiaaaGreatDoor
namespace Go.Proofs.YtjcdpmianmgiaaaGreatDoor
open Go
set_option linter.unusedVariables false
namespace Mon
theorem turn_add (x y : Int) : (x % M3 + y) % M3 = (x + y) % M3 := by
  unfold M3; omega
theorem ok_mod (x : Int) : Ok (x % M3) := by unfold Ok M3; omega
end Mon
end Go.Proofs.YtjcdpmianmgiaaaGreatDoor
namespace Go.Proofs.YtjcdpmianmgiaaaGreatDoor
open Go Go.RowKit Mon
theorem add64_0' (x : Int) (w : World) (hx : 0 ≤ x) : (callFunc 189 #[.int .u64 x, .int .u64 0, .int .u64 1]).run Tryz.prog w =
    .ok (.value (.tuple #[.int .u64 ((x + 1) % 18446744073709551616), .int .u64 ((x + 1) / 18446744073709551616)])) w := by
  simpa using add64 x 0 1 hx (Int.le_refl 0) (by decide) (by decide) w
theorem add64_0'' (x c : Int) (w : World) (hx : 0 ≤ x) (hc : 0 ≤ c) (hc1 : c ≤ 1) : (callFunc 189 #[.int .u64 x, .int .u64 0, .int .u64 c]).run Tryz.prog w =
    .ok (.value (.tuple #[.int .u64 ((x + c) % 18446744073709551616), .int .u64 ((x + c) / 18446744073709551616)])) w := by
  simpa using add64 x 0 c hx (Int.le_refl 0) hc hc1 w
def ab (a : Int) : Int := if a < 0 then -a else a
theorem ab_word {a : Int} (h : I64 a) : 0 ≤ ab a ∧ ab a < M := by unfold I64 at h; unfold ab M; split <;> omega
theorem size_any (a : Int) (h : I64 a) (w : World) : Calls Tryz.prog 182 #[.int .i64 a] w fun e w' => e = .returned (.int .u64 (ab a)) ∧ w' = w := by
  unfold I64 at h
  by_cases h0 : a < 0
  · have e1 : IntKind.u64.wrap (-IntKind.u64.wrap a) = ab a := by unfold ab; rw [if_pos h0]; simp only [IntKind.wrap_u64]; omega
    go_enter Tryz.func182, Tryz.ntmps182
    go_wp2
    go_ret
    exact ⟨by rw [← e1]; rfl, rfl⟩
  · have e1 : IntKind.u64.wrap a = ab a := by unfold ab; rw [if_neg h0]; simp only [IntKind.wrap_u64]; omega
    go_enter Tryz.func182, Tryz.ntmps182
    go_wp2
    go_ret
    exact ⟨by rw [← e1]; rfl, rfl⟩
def adW (a b c d e f : Int) : Nat → Array Value
  | 0 => #[.int .u64 a, .int .u64 b, .int .u64 c]
  | 1 => #[.int .u64 ((a + d) % M), .int .u64 b, .int .u64 c]
  | 2 => #[.int .u64 ((a + d) % M), .int .u64 ((b + e + (a + d) / M) % M), .int .u64 c]
  | _ => #[.int .u64 ((a + d) % M), .int .u64 ((b + e + (a + d) / M) % M), .int .u64 ((c + f + (b + e + (a + d) / M) / M) % M)]
theorem u64_max_xor (x : Int) (h : 0 ≤ x ∧ x < M) : bits .xor .u64 IntKind.u64.max x = 18446744073709551615 - x := by
  have e : IntKind.u64.max = 18446744073709551615 := by decide +kernel
  rw [e, ← u64_xor_ones x h]
  unfold M at h
  obtain ⟨a, rfl⟩ := Int.eq_ofNat_of_zero_le h.1
  have e : (18446744073709551615 : Int) = ((18446744073709551615 : Nat) : Int) := rfl
  rw [e, u64_xor_nat a _ (by omega) (by decide), u64_xor_nat _ a (by decide) (by omega), Nat.xor_comm]
theorem three (k : Nat) (h : k ≤ 3) : k = 0 ∨ k = 1 ∨ k = 2 ∨ k = 3 := by omega
def ngC (x y z : Int) : Nat → Int
  | 0 => 1
  | 1 => (x + 1) / 18446744073709551616
  | 2 => (y + (x + 1) / 18446744073709551616) / 18446744073709551616
  | _ => (z + (y + (x + 1) / 18446744073709551616) / 18446744073709551616) / 18446744073709551616
def ngW (a b c x y z : Int) : Nat → Array Value
  | 0 => #[.int .u64 a, .int .u64 b, .int .u64 c]
  | 1 => #[.int .u64 ((x + 1) % 18446744073709551616), .int .u64 b, .int .u64 c]
  | 2 => #[.int .u64 ((x + 1) % 18446744073709551616), .int .u64 ((y + (x + 1) / 18446744073709551616) % 18446744073709551616), .int .u64 c]
  | _ => #[.int .u64 ((x + 1) % 18446744073709551616), .int .u64 ((y + (x + 1) / 18446744073709551616) % 18446744073709551616), .int .u64 ((z + (y + (x + 1) / 18446744073709551616) / 18446744073709551616) % 18446744073709551616)]
set_option maxRecDepth 100000 in
set_option maxHeartbeats 1000000 in
theorem neg_any (a b c : Int) (ha : 0 ≤ a ∧ a < M) (hb : 0 ≤ b ∧ b < M) (hc : 0 ≤ c ∧ c < M) (w : World) :
    Calls Tryz.prog 183 #[.agg #[.int .u64 a, .int .u64 b, .int .u64 c]] w fun e w' =>
      e = .returned (.agg (ngW a b c (18446744073709551615 - a) (18446744073709551615 - b) (18446744073709551615 - c) 3)) ∧ Below w.heap.size w w' := by
  go_enter Tryz.func183, Tryz.ntmps183
  go_wp2
  go_loopw [3, 4, 5] (fun s3 s4 s5 wr => ∃ k : Nat, k ≤ 3 ∧ s3 = .int .u64 (ngC (18446744073709551615 - a) (18446744073709551615 - b) (18446744073709551615 - c) k) ∧ s5 = .int .i64 k ∧
    Hid (wr.heap[w.heap.size]? = some (.cells (ngW a b c (18446744073709551615 - a) (18446744073709551615 - b) (18446744073709551615 - c) k) 202 (0, 0))) ∧ Hid (wr.heap[w.heap.size + 1]? = some (.cells #[.int .u64 0, .int .u64 0, .int .u64 0] 202 (0, 0))) ∧ Hid (Below w.heap.size w wr)) (fun _ _ s5 _ => 3 - (intOf s5).toNat)
  case atStart => exact ⟨0, by decide, rfl, rfl, blk_old (heap_new _ _) _, by have := heap_new (w.alloc (.cells #[.int .u64 a, .int .u64 b, .int .u64 c] 202)) (.cells #[.int .u64 0, .int .u64 0, .int .u64 0] 202); rw [World.size_alloc] at this; exact this, (below_alloc (below_alloc (Below.refl _ _) (Nat.le_refl _) _) (by simp) _)⟩
  case round =>
    obtain ⟨k, hk, rfl, rfl, H0, H1, HB⟩ := hrel
    have hsg : IntKind.u64.signed = false := rfl
    have xa := u64_max_xor a ha
    have xb := u64_max_xor b hb
    have xc := u64_max_xor c hc
    obtain ⟨x, hx⟩ : ∃ x : Int, 18446744073709551615 - a = x := ⟨_, rfl⟩
    obtain ⟨y, hy⟩ : ∃ y : Int, 18446744073709551615 - b = y := ⟨_, rfl⟩
    obtain ⟨z, hz⟩ : ∃ z : Int, 18446744073709551615 - c = z := ⟨_, rfl⟩
    rw [hx] at xa H0
    rw [hy] at xb H0
    rw [hz] at xc H0
    simp only [hx, hy, hz]
    have x0 : 0 ≤ x := by unfold M at ha; omega
    have x1 : x < 18446744073709551616 := by unfold M at ha; omega
    have y0 : 0 ≤ y := by unfold M at hb; omega
    have y1 : y < 18446744073709551616 := by unfold M at hb; omega
    have z0 : 0 ≤ z := by unfold M at hc; omega
    have z1 : z < 18446744073709551616 := by unfold M at hc; omega
    have HX := zH hx; have HY := zH hy; have HZ := zH hz
    clear hx hy hz
    have hblt : w.heap.size < wr.heap.size := zL H0.out
    rcases three k hk with rfl | rfl | rfl | rfl
    · have c0 : wr.cell? ⟨w.heap.size, 0, none⟩ = some (.int .u64 a) := cells_of_blk H0.out 0 _ rfl
      have f0 := free_of_blk H0.out 0
      have q := fun w => add64_0' x w x0
      simp only [ngC]
      go_wp2
      go_roundw
      case rel => exact ⟨1, by decide, rfl, rfl, set_blk H0.out _ _, set_oth H1.out _ _ (by omega), HB.out.setCell (Nat.le_refl _) _⟩
      case measure => simp [intOf]
    · have c0 : wr.cell? ⟨w.heap.size, 1, none⟩ = some (.int .u64 b) := cells_of_blk H0.out 1 _ rfl
      have f0 := free_of_blk H0.out 1
      have q := fun w => add64_0'' y ((x + 1) / 18446744073709551616) w y0 (by omega) (by omega)
      simp only [ngC]
      go_wp2
      go_roundw
      case rel => exact ⟨2, by decide, rfl, rfl, set_blk H0.out _ _, set_oth H1.out _ _ (by omega), HB.out.setCell (Nat.le_refl _) _⟩
      case measure => simp [intOf]
    · have c0 : wr.cell? ⟨w.heap.size, 2, none⟩ = some (.int .u64 c) := cells_of_blk H0.out 2 _ rfl
      have f0 := free_of_blk H0.out 2
      have q := fun w => add64_0'' z ((y + (x + 1) / 18446744073709551616) / 18446744073709551616) w z0 (by omega) (by omega)
      simp only [ngC]
      go_wp2
      go_roundw
      case rel => exact ⟨3, by decide, rfl, rfl, set_blk H0.out _ _, set_oth H1.out _ _ (by omega), HB.out.setCell (Nat.le_refl _) _⟩
      case measure => simp [intOf]
    · have c0 : wr.cell? ⟨w.heap.size, 0, none⟩ = some (.int .u64 ((x + 1) % 18446744073709551616)) := cells_of_blk H0.out 0 _ rfl
      have c1 : wr.cell? ⟨w.heap.size, 1, none⟩ = some (.int .u64 ((y + (x + 1) / 18446744073709551616) % 18446744073709551616)) := cells_of_blk H0.out 1 _ rfl
      have c2 : wr.cell? ⟨w.heap.size, 2, none⟩ = some (.int .u64 ((z + (y + (x + 1) / 18446744073709551616) / 18446744073709551616) % 18446744073709551616)) := cells_of_blk H0.out 2 _ rfl
      have d0 : wr.cell? ⟨w.heap.size + 1, 0, none⟩ = some (.int .u64 0) := cells_of_blk H1.out 0 _ rfl
      have d1 : wr.cell? ⟨w.heap.size + 1, 1, none⟩ = some (.int .u64 0) := cells_of_blk H1.out 1 _ rfl
      have d2 : wr.cell? ⟨w.heap.size + 1, 2, none⟩ = some (.int .u64 0) := cells_of_blk H1.out 2 _ rfl
      have f0 := free_of_blk H1.out 0
      have f1 := free_of_blk H1.out 1
      have f2 := free_of_blk H1.out 2
      simp only [ngC]
      go_wp2
      refine bodyPost_ret (v := .agg #[.int .u64 ((x + 1) % 18446744073709551616), .int .u64 ((y + (x + 1) / 18446744073709551616) % 18446744073709551616), .int .u64 ((z + (y + (x + 1) / 18446744073709551616) / 18446744073709551616) % 18446744073709551616)]) ?_ rfl ⟨?_, ?_⟩
      · simp [results, Tryz.results183, go_sem, d0, d1, d2]
      · rw [HX.out, HY.out, HZ.out]; rfl
      · exact ((HB.out.setCell (Nat.le_succ _) _).setCell (Nat.le_succ _) _).setCell (Nat.le_succ _) _
end Go.Proofs.YtjcdpmianmgiaaaGreatDoor
namespace Go.Proofs.YtjcdpmianmgiaaaGreatDoor
open Go Go.RowKit Bg
set_option linter.unusedVariables false
end Go.Proofs.YtjcdpmianmgiaaaGreatDoor
namespace Go.Proofs.YtjcdpmianmgiaaaGreatDoor
open Go Go.RowKit Bg
set_option linter.unusedVariables false
end Go.Proofs.YtjcdpmianmgiaaaGreatDoor
namespace Go.Proofs.YtjcdpmianmgiaaaGreatDoor
open Go Go.RowKit Bg
set_option linter.unusedVariables false
end Go.Proofs.YtjcdpmianmgiaaaGreatDoor
namespace Go.Proofs.YtjcdpmianmgiaaaGreatDoor
open Go Go.RowKit Bg
set_option linter.unusedVariables false
end Go.Proofs.YtjcdpmianmgiaaaGreatDoor
namespace Go.Proofs.YtjcdpmianmgiaaaGreatDoor
open Go Go.RowKit Bg
set_option linter.unusedVariables false
end Go.Proofs.YtjcdpmianmgiaaaGreatDoor
namespace Go.Proofs.YtjcdpmianmgiaaaGreatDoor
open Go Go.RowKit Bg
set_option linter.unusedVariables false
end Go.Proofs.YtjcdpmianmgiaaaGreatDoor
namespace Go.Proofs.YtjcdpmianmgiaaaGreatDoor
open Go Go.RowKit Bg
set_option linter.unusedVariables false
def up100 (X : Int) : Int := (X + 99) / 100
end Go.Proofs.YtjcdpmianmgiaaaGreatDoor
namespace Go.Proofs.YtjcdpmianmgiaaaGreatDoor
open Go Go.RowKit Bg
set_option linter.unusedVariables false
def fitsP (X : Int) : Int × Bool := if Mon.fits X then (X, true) else (0, false)
theorem fits_in {X : Int} (h : -9223372036854775808 ≤ X ∧ X ≤ 9223372036854775807) : fitsP X = (X, true) := by
  unfold fitsP Mon.fits; rw [if_pos (by simp [h])]
theorem fits_out {X : Int} (h : ¬ (-9223372036854775808 ≤ X ∧ X ≤ 9223372036854775807)) : fitsP X = (0, false) := by
  unfold fitsP Mon.fits; rw [if_neg (by simpa using h)]
end Go.Proofs.YtjcdpmianmgiaaaGreatDoor
namespace Go.Proofs.YtjcdpmianmgiaaaGreatDoor
open Go Go.RowKit Mon
def sumA (V : Int) : Array Value := #[.int .u64 (w0 V), .int .u64 (w1 V), .int .u64 (w2 V)]
def SumAt (w : World) (g : Nat) (V : Int) : Prop := w.heap[g]? = some (.cells (sumA V) 204 (0, 0))
def acC (a b c d e f : Int) : Nat → Int
  | 0 => 0
  | 1 => (a + d) / 18446744073709551616
  | 2 => (b + e + (a + d) / 18446744073709551616) / 18446744073709551616
  | _ => (c + f + (b + e + (a + d) / 18446744073709551616) / 18446744073709551616) / 18446744073709551616
def acW (a b c d e f : Int) : Nat → Array Value
  | 0 => #[.int .u64 a, .int .u64 b, .int .u64 c]
  | 1 => #[.int .u64 ((a + d) % 18446744073709551616), .int .u64 b, .int .u64 c]
  | 2 => #[.int .u64 ((a + d) % 18446744073709551616), .int .u64 ((b + e + (a + d) / 18446744073709551616) % 18446744073709551616), .int .u64 c]
  | _ => #[.int .u64 ((a + d) % 18446744073709551616), .int .u64 ((b + e + (a + d) / 18446744073709551616) % 18446744073709551616), .int .u64 ((c + f + (b + e + (a + d) / 18446744073709551616) / 18446744073709551616) % 18446744073709551616)]
theorem grown_alloc0 {a w : World} {g : Option Nat} (h : a.grownBy w g) (o : Obj) : a.grownBy (w.alloc o) g :=
  ⟨h.os, h.tape, h.output, by rw [World.size_alloc]; exact Nat.le_succ_of_le h.size, fun i hi hne => (Below.heap_alloc w o i (Nat.lt_of_lt_of_le hi h.size)).trans (h.block i hi hne)⟩
set_option maxRecDepth 100000 in
set_option maxHeartbeats 1000000 in
theorem addW_any (g : Nat) (a b c d e f : Int) (ha : 0 ≤ a ∧ a < M) (hb : 0 ≤ b ∧ b < M) (hc : 0 ≤ c ∧ c < M) (hd : 0 ≤ d ∧ d < M) (he : 0 ≤ e ∧ e < M) (hf : 0 ≤ f ∧ f < M) (w : World)
    (hS : Hid (w.heap[g]? = some (.cells (acW a b c d e f 0) 204 (0, 0)))) :
    Calls Tryz.prog 184 #[.pointer (some ⟨g, 0, none⟩), .agg #[.int .u64 d, .int .u64 e, .int .u64 f]] w fun r w' =>
      r = .returned (.tuple #[]) ∧ w'.heap[g]? = some (.cells (acW a b c d e f 3) 204 (0, 0)) ∧ w.grownBy w' (some g) := by
  have hglt : g < w.heap.size := zL hS.out
  go_enter Tryz.func184, Tryz.ntmps184
  go_wp2_with fail
  go_loopw [4, 5, 6] (fun s4 s5 s6 wr => ∃ k : Nat, k ≤ 3 ∧ s4 = .int .u64 (acC a b c d e f k) ∧ s6 = .int .i64 k ∧
    Hid (wr.heap[g]? = some (.cells (acW a b c d e f k) 204 (0, 0))) ∧ Hid (wr.heap[w.heap.size]? = some (.cells #[.int .u64 d, .int .u64 e, .int .u64 f] 202 (0, 0))) ∧ Hid (w.grownBy wr (some g))) (fun _ _ s6 _ => 3 - (intOf s6).toNat)
  case atStart => exact ⟨0, by decide, rfl, rfl, blk_old hS.out _, heap_new _ _, grown_alloc0 (World.grownBy.refl _ _) _⟩
  case round =>
    obtain ⟨k, hk, rfl, rfl, H0, H1, HB⟩ := hrel
    have hne : ¬ g = w.heap.size := by omega
    have ha0 := ha.1; have hb0 := hb.1; have hc0 := hc.1; have hd0 := hd.1; have he0 := he.1; have hf0 := hf.1
    have ha1 := ha.2; have hb1 := hb.2; have hc1 := hc.2; have hd1 := hd.2; have he1 := he.2; have hf1 := hf.2
    unfold M at ha1 hb1 hc1 hd1 he1 hf1
    clear ha hb hc hd he hf
    clear hS
    have hglt2 : g < wr.heap.size := zL H0.out
    have hblt : w.heap.size < wr.heap.size := zL H1.out
    by_cases hk3 : k = 3
    · subst hk3
      go_wp2_with fail
      go_end0
      exact ⟨rfl, H0.out, HB.out⟩
    · have hk' : k < 3 := by omega
      have key : ∃ x y s c' : Int, (wr.cell? ⟨g, k, none⟩ = some (.int .u64 x)) ∧ (wr.cell? ⟨w.heap.size, k, none⟩ = some (.int .u64 y)) ∧
          (∀ w : World, (callFunc 189 #[.int .u64 x, .int .u64 y, .int .u64 (acC a b c d e f k)]).run Tryz.prog w = .ok (.value (.tuple #[.int .u64 s, .int .u64 c'])) w) ∧
          c' = acC a b c d e f (k + 1) ∧ (acW a b c d e f k).setIfInBounds k (.int .u64 s) = acW a b c d e f (k + 1) := by
        rcases three k hk with rfl | rfl | rfl | rfl
        · exact ⟨a, d, _, _, cells_of_blk H0.out 0 _ rfl, cells_of_blk H1.out 0 _ rfl, fun w => add64_0 a d ha0 hd0 w, rfl, rfl⟩
        · exact ⟨b, e, _, _, cells_of_blk H0.out 1 _ rfl, cells_of_blk H1.out 1 _ rfl, fun w => add64 b e _ hb0 he0 (by simp only [acC]; omega) (by simp only [acC]; omega) w, rfl, rfl⟩
        · exact ⟨c, f, _, _, cells_of_blk H0.out 2 _ rfl, cells_of_blk H1.out 2 _ rfl, fun w => add64 c f _ hc0 hf0 (by simp only [acC]; omega) (by simp only [acC]; omega) w, rfl, rfl⟩
        · omega
      obtain ⟨x, y, s, c', hx, hy, q, hc', hs⟩ := key
      obtain ⟨cc, hcc⟩ : ∃ cc : Int, acC a b c d e f k = cc := ⟨_, rfl⟩
      rw [hcc] at q ⊢
      have HC := zH hc'
      have HS := zH hs
      have f0 := free_of_blk H0.out k
      clear hc' hs hcc hk
      go_wp2_with fail
      refine wp_region_branch [0, 1, 2, 3, 4, 5, 6, 8, 9, 10, 11, 16, 17] 8 #[true, true, true, true, true, true, true, false, true, true, true, true, false, false, false, false, true, true, false, false, false] (by kernel_rfl) (by kernel_rfl) (by kernel_rfl) (by kernel_rfl) (fun wz => Hid (wz.cell? ⟨w.heap.size, k, none⟩ = some (.int .u64 y))) hy ?_
      simp only [opsAt, List.getElem?_toArray, List.getElem?_cons_zero, List.getElem?_cons_succ]
      refine pure_move rfl rfl ?_
      refine pure_move rfl rfl ?_
      refine pure_move rfl rfl ?_
      refine pure_move rfl rfl ?_
      refine pure_at (.pointer (some ⟨g, 0, none⟩)) rfl (fun wz _ => by unfold execOp; go_simp) ?_
      refine pure_at (.pointer (some ⟨g, 0, none⟩)) rfl (fun wz _ => by unfold execOp; go_simp) ?_
      refine pure_at (.pointer (some ⟨g, k, none⟩)) rfl (fun wz _ => by unfold execOp; go_simp) ?_
      refine pure_move rfl rfl ?_
      refine pure_at (.pointer (some ⟨w.heap.size, k, none⟩)) rfl (fun wz _ => by unfold execOp; go_simp) ?_
      refine pure_at (.int .u64 y) rfl (fun wz hC => by have := (Hid.out hC); unfold execOp; go_simp) ?_
      refine pure_move rfl rfl ?_
      refine pure_at (.pointer (some ⟨g, 0, none⟩)) rfl (fun wz _ => by unfold execOp; go_simp) ?_
      refine pure_at (.pointer (some ⟨g, 0, none⟩)) rfl (fun wz _ => by unfold execOp; go_simp) ?_
      unfold wpPure
      go_simp
      refine wpAnyC_one 7 (L' := #[true, true, true, true, true, true, true, true, true, true, true, true, false, false, false, false, true, true, false, false, false]) (by kernel_rfl) (by kernel_rfl) rfl rfl ?_
      go_wp2_with fail
      rw [StepQ_normal]
      refine ⟨hy, ?_⟩
      refine wpAnyC_one 12 (L' := #[true, true, true, true, true, true, true, true, true, true, true, true, true, false, false, false, true, true, false, false, false]) (by kernel_rfl) (by kernel_rfl) rfl rfl ?_
      go_wp2_with fail
      rw [StepQ_normal]
      refine ⟨hy, ?_⟩
      refine wpAnyC_one 13 (L' := #[true, true, true, true, true, true, true, true, true, true, true, true, true, true, false, false, true, true, false, false, false]) (by kernel_rfl) (by kernel_rfl) rfl rfl ?_
      go_wp2_with fail
      rw [StepQ_normal]
      refine ⟨hy, ?_⟩
      refine pure_all (by kernel_rfl) hy 3 [14, 15] _ _ (by kernel_rfl) ?_ (fun a' h => h)
      simp only [opsAt, List.getElem?_toArray, List.getElem?_cons_zero, List.getElem?_cons_succ]
      refine pure_at (.int .u64 s) rfl (fun wz _ => by unfold execOp; go_simp) ?_
      refine pure_at (.int .u64 c') rfl (fun wz _ => by unfold execOp; go_simp) ?_
      unfold wpPure
      go_simp
      refine wpAnyC_one 18 (L' := #[true, true, true, true, true, true, true, true, true, true, true, true, true, true, true, true, true, true, true, false, false]) (by kernel_rfl) (by kernel_rfl) rfl rfl ?_
      go_wp2_with fail
      rw [StepQ_normal]
      refine ⟨hy, ?_⟩
      refine wpAnyC_one 19 (L' := #[true, true, true, true, true, true, true, true, true, true, true, true, true, true, true, true, true, true, true, true, false]) (by kernel_rfl) (by kernel_rfl) rfl rfl ?_
      go_wp2_with fail
      rw [StepQ_normal]
      have HY2 : Hid ((wr.drew.setCell ⟨g, k, none⟩ (.int .u64 s)).cell? ⟨w.heap.size, k, none⟩ = some (.int .u64 y)) := by
        have e : (wr.drew.setCell ⟨g, k, none⟩ (.int .u64 s)).heap[w.heap.size]? = wr.heap[w.heap.size]? := set_oth rfl _ _ (Ne.symm hne)
        have h1 := hy
        unfold World.cell? at h1
        show World.cell? _ _ = _
        unfold World.cell?
        rw [e]; exact h1
      refine ⟨HY2.out, ?_⟩
      refine wpAnyC_one 20 (L' := #[true, true, true, true, true, true, true, true, true, true, true, true, true, true, true, true, true, true, true, true, true]) (by kernel_rfl) (by kernel_rfl) rfl rfl ?_
      go_wp2_with fail
      rw [StepQ_normal]
      refine ⟨HY2.out, ?_⟩
      refine ⟨by kernel_rfl, ?_⟩
      rw [OnlyN_normal]
      clear HY2 hx hy q f0
      go_wp2_with fail
      go_roundw
      case rel => exact ⟨k + 1, by omega, by rw [HC.out], by go_num, by rw [← HS.out]; exact set_blk H0.out _ _, set_oth H1.out _ _ (Ne.symm hne), grown_set HB.out 1 _ _⟩
      case measure => simp [intOf]; omega
end Go.Proofs.YtjcdpmianmgiaaaGreatDoor
