/- Books: lists, May. PRINTED BY genBookX.py. -/
import Derived.Test.YtfkfpppiikgjbaaBookU
import Derived.Test.YtfkfpppiikgjbaaBookV
import Derived.Test.YtfkfpppiikgjbaaBookO
namespace Go.Proofs.Ytfkfpppiikgjbaa
open Go Go.RowKit
set_option linter.unusedVariables false
set_option linter.unusedSimpArgs false

def thereB (b : Bk) (acc sym : Int) : Bool := (b.h.find? (isId acc)).isSome && (b.r.find? (isId sym)).isSome
def badH (r : List Int) : Bool := decide (r.getD 2 0 < 0) || decide (r.getD 3 0 < 0)
def badR (r : List Int) : Bool := decide (r.getD 1 0 < 1)
def badS (b : Bk) (r : List Int) : Bool := decide (r.getD 2 0 = 0) || !thereB b (r.getD 0 0) (r.getD 1 0)
def badO (b : Bk) (r : List Int) : Bool := decide (r.getD 4 0 < 1) || (decide (r.getD 5 0 < 1) || (decide (r.getD 3 0 < 0) || (decide (1 < r.getD 3 0) || !thereB b (r.getD 1 0) (r.getD 2 0))))
def Bk.listsB (b : Bk) : Bool := !decide (32 < b.h.length) && (!decide (64 < b.o.length) && (!decide (32 < b.r.length) && b.riseB))
def Bk.countB (b : Bk) : Bool := !decide (b.n < 0) && !decide (1099511627776 < b.n)
def Bk.mayB (b : Bk) : Bool := b.listsB && (b.countB && (!b.h.any badH && (!b.r.any badR && (!b.s.any (badS b) && !b.o.any (badO b)))))
theorem recOf_snd {k : Nat} {o : Option (List Int)} {r : List Int} {F : Bool} (h : recOf k o = (r, F)) : F = o.isSome := by
  cases o with
  | none => exact (congrArg Prod.snd h).symm
  | some x => exact (congrArg Prod.snd h).symm

set_option maxRecDepth 100000 in
theorem May2_any (x0 x1 x2 x3 : Int) (w : World) : Calls Try.prog 61 #[.agg #[.int .i64 x0, .int .i64 x1, .int .i64 x2, .int .i64 x3]] w fun e w' => e = .returned (.bool (badH [x0, x1, x2, x3])) ∧ Below w.heap.size w w' := by
  have hv : badH [x0, x1, x2, x3] = (decide (x2 < 0) || decide (x3 < 0)) := rfl
  rw [hv]
  clear hv
  by_cases h2 : x2 < 0
  · have t2 : decide (x2 < 0) = true := decide_eq_true h2
    rw [t2]
    clear h2
    go_enter Try.func61, Try.ntmps61
    go_wp2_with fail
    go_ret
    exact ⟨rfl, below_alloc (Below.refl _ _) (Nat.le_refl _) _⟩
  · have t2 : decide (x2 < 0) = false := decide_eq_false h2
    rw [t2]
    clear h2
    go_enter Try.func61, Try.ntmps61
    go_wp2_with fail
    go_ret
    exact ⟨rfl, below_alloc (Below.refl _ _) (Nat.le_refl _) _⟩
set_option maxRecDepth 100000 in
theorem May3_any (x0 x1 : Int) (w : World) : Calls Try.prog 62 #[.agg #[.int .i64 x0, .int .i64 x1]] w fun e w' => e = .returned (.bool (badR [x0, x1])) ∧ Below w.heap.size w w' := by
  have hv : badR [x0, x1] = decide (x1 < 1) := rfl
  rw [hv]
  clear hv
  go_enter Try.func62, Try.ntmps62
  go_wp2_with fail
  go_ret
  exact ⟨rfl, below_alloc (Below.refl _ _) (Nat.le_refl _) _⟩

set_option maxRecDepth 100000 in
set_option maxHeartbeats 2000000 in
theorem There_any (v : Value) (b : Bk) (g : Nat) (acc sym : Int) (w : World) (hb : Hid (BkAt w v b)) (hg : Hid (∃ cs, v = .agg cs ∧ w.heap[g]? = some (.cells cs 37 (0, 0)))) (hs : Hid b.Small) (hr : Hid b.Rise) :
    Calls Try.prog 59 #[.int .i64 acc, .int .i64 sym, .pointer (some ⟨g, 0, none⟩)] w fun e w' => e = .returned (.bool (thereB b acc sym)) ∧ Below w.heap.size w w' := by
  obtain ⟨vh, vs, vo, vr, rfl, r1, r2, r3, r4⟩ := hb.out
  obtain ⟨_, he, hg'⟩ := hg.out
  injection he with he
  subst he
  have K0 := Lib.hid hg'
  have lh : ∀ r ∈ b.h, r.length = 4 := by obtain ⟨_, _, _, h, _⟩ := r1; exact h
  have lr : ∀ r ∈ b.r, r.length = 2 := by obtain ⟨_, _, _, h, _⟩ := r4; exact h
  obtain ⟨rh, H0, hl1, hx1⟩ := rec_of lh (isId acc)
  obtain ⟨rr, R0, hl3, hx3⟩ := rec_of lr (isId sym)
  match rh, rr, hl1, hl3, hx1, hx3 with
  | [h0, h1, h2, h3], [p0, p1], _, _, hx1, hx3 =>
  have hres : thereB b acc sym = (H0 && R0) := by unfold thereB; rw [recOf_snd hx1, recOf_snd hx3]
  rw [hres]
  have B0 : Hid (BkAt w (.agg #[vh, vs, vo, vr, .int .i64 b.n]) b) := hb
  have HX1 := Lib.hid hx1
  have HX3 := Lib.hid hx3
  have F1 : b.h.length ≤ 1000000 := by have := hs.out; unfold Bk.Small at this; omega
  have F3 : b.r.length ≤ 1000000 := by have := hs.out; unfold Bk.Small at this; omega
  have HR1 := Lib.hid hr.out.1
  have HR3 := Lib.hid hr.out.2.2.1
  clear hb hg hg' r1 r2 r3 r4 lh lr hx1 hx3 hres hs hr
  have a0 := cells_of_blk K0.out 0 _ rfl
  have a1 := cells_of_blk K0.out 1 _ rfl
  have a2 := cells_of_blk K0.out 2 _ rfl
  have a3 := cells_of_blk K0.out 3 _ rfl
  have a4 := cells_of_blk K0.out 4 _ rfl
  go_enter Try.func59, Try.ntmps59
  go_wp2_with fail
  with_reducible refine (Holder_any _ b acc h0 h1 h2 h3 H0 _ B0 F1 HR1 HX1).mono ?_
  rintro e w1 ⟨rfl, hb⟩
  have K1 := Lib.hid (blk_call K0.out hb)
  have hb' := hb.trans ((below_alloc (Below.refl w1.heap.size w1) (Nat.le_refl _) (.cells #[.int .i64 h0, .int .i64 h1, .int .i64 h2, .int .i64 h3] 39)).mono hb.size)
  have B1 := Lib.hid (B0.out.call hb')
  have HB1 := Lib.hid hb'
  clear hb hb' a0 a1 a2 a3 a4
  have a0 := cells_of_blk K1.out 0 _ rfl
  have a1 := cells_of_blk K1.out 1 _ rfl
  have a2 := cells_of_blk K1.out 2 _ rfl
  have a3 := cells_of_blk K1.out 3 _ rfl
  have a4 := cells_of_blk K1.out 4 _ rfl
  have hgl : g < w1.heap.size := (Array.getElem?_eq_some_iff.1 K1.out).1
  go_wp2_with fail
  with_reducible refine (Rate_any _ b sym p0 p1 R0 _ B1 F3 HR3 HX3).mono ?_
  rintro e w2 ⟨rfl, hb⟩
  have HB2 := Lib.hid (HB1.out.trans (hb.mono HB1.out.size))
  clear hb
  cases H0 with
  | false =>
    go_wp2_with fail
    go_ret
    exact ⟨rfl, HB2.out⟩
  | true =>
    go_wp2_with fail
    go_ret
    exact ⟨rfl, HB2.out⟩

set_option maxRecDepth 100000 in
set_option maxHeartbeats 2000000 in
theorem May4_any (v : Value) (b : Bk) (g p : Nat) (x0 x1 x2 : Int) (w : World) (hb : Hid (BkAt w v b)) (hg : Hid (∃ cs, v = .agg cs ∧ w.heap[g]? = some (.cells cs 37 (0, 0)))) (hp : Hid (w.heap[p]? = some (.cells #[.func (.func 59) #[] #[.pointer (some ⟨g, 0, none⟩)]] 87 (0, 0)))) (hs : Hid b.Small) (hr : Hid b.Rise) :
    Calls Try.prog 63 #[.agg #[.int .i64 x0, .int .i64 x1, .int .i64 x2], .pointer (some ⟨p, 0, none⟩)] w fun e w' => e = .returned (.bool (badS b [x0, x1, x2])) ∧ Below w.heap.size w w' := by
  have hv : badS b [x0, x1, x2] = (decide (x2 = 0) || !thereB b x0 x1) := rfl
  rw [hv]
  clear hv
  have HB0 : Hid (Below w.heap.size w (w.alloc (.cells #[.int .i64 x0, .int .i64 x1, .int .i64 x2] 41))) := below_alloc (Below.refl _ _) (Nat.le_refl _) _
  have q := Lib.hid (There_any v b g x0 x1 (w.alloc (.cells #[.int .i64 x0, .int .i64 x1, .int .i64 x2] 41)) (hb.out.call HB0.out) (by obtain ⟨cs, h1, h2⟩ := hg.out; exact ⟨cs, h1, blk_call h2 HB0.out⟩) hs hr)
  have c0 := cells_of_blk hp.out 0 _ rfl
  have hpl : p < w.heap.size := (Array.getElem?_eq_some_iff.1 hp.out).1
  obtain ⟨T, hT⟩ : ∃ T, thereB b x0 x1 = T := ⟨_, rfl⟩
  rw [hT] at q ⊢
  clear hT hb hg hs hr hp
  by_cases h : x2 = 0
  · have t0 : (x2 == 0) = true := by simp [h]
    rw [decide_eq_true h]
    clear h
    go_enter Try.func63, Try.ntmps63
    go_wp2_with fail
    go_ret
    exact ⟨by simp, HB0.out⟩
  · have tb : (x2 == 0) = false := by simp [h]
    rw [decide_eq_false h]
    clear h
    cases T with
    | true =>
      go_enter Try.func63, Try.ntmps63
      go_wp2_with fail
      with_reducible refine q.out.mono ?_
      rintro e w2 ⟨rfl, hb⟩
      have HB2 := Lib.hid (HB0.out.trans (hb.mono HB0.out.size))
      clear hb
      go_wp2_with fail
      go_ret
      exact ⟨by simp, HB2.out⟩
    | false =>
      go_enter Try.func63, Try.ntmps63
      go_wp2_with fail
      with_reducible refine q.out.mono ?_
      rintro e w2 ⟨rfl, hb⟩
      have HB2 := Lib.hid (HB0.out.trans (hb.mono HB0.out.size))
      clear hb
      go_wp2_with fail
      go_ret
      exact ⟨by simp, HB2.out⟩

set_option maxRecDepth 100000 in
set_option maxHeartbeats 2000000 in
theorem May5_any (v : Value) (b : Bk) (g p : Nat) (x0 x1 x2 x3 x4 x5 : Int) (w : World) (hb : Hid (BkAt w v b)) (hg : Hid (∃ cs, v = .agg cs ∧ w.heap[g]? = some (.cells cs 37 (0, 0)))) (hp : Hid (w.heap[p]? = some (.cells #[.func (.func 59) #[] #[.pointer (some ⟨g, 0, none⟩)]] 87 (0, 0)))) (hs : Hid b.Small) (hr : Hid b.Rise) :
    Calls Try.prog 64 #[.agg #[.int .i64 x0, .int .i64 x1, .int .i64 x2, .int .i64 x3, .int .i64 x4, .int .i64 x5], .pointer (some ⟨p, 0, none⟩)] w fun e w' => e = .returned (.bool (badO b [x0, x1, x2, x3, x4, x5])) ∧ Below w.heap.size w w' := by
  have hv : badO b [x0, x1, x2, x3, x4, x5] = (decide (x4 < 1) || (decide (x5 < 1) || (decide (x3 < 0) || (decide (1 < x3) || !thereB b x1 x2)))) := rfl
  rw [hv]
  clear hv
  have HB0 : Hid (Below w.heap.size w (w.alloc (.cells #[.int .i64 x0, .int .i64 x1, .int .i64 x2, .int .i64 x3, .int .i64 x4, .int .i64 x5] 43))) := below_alloc (Below.refl _ _) (Nat.le_refl _) _
  have q := Lib.hid (There_any v b g x1 x2 (w.alloc (.cells #[.int .i64 x0, .int .i64 x1, .int .i64 x2, .int .i64 x3, .int .i64 x4, .int .i64 x5] 43)) (hb.out.call HB0.out) (by obtain ⟨cs, h1, h2⟩ := hg.out; exact ⟨cs, h1, blk_call h2 HB0.out⟩) hs hr)
  have c0 := cells_of_blk hp.out 0 _ rfl
  have hpl : p < w.heap.size := (Array.getElem?_eq_some_iff.1 hp.out).1
  obtain ⟨T, hT⟩ : ∃ T, thereB b x1 x2 = T := ⟨_, rfl⟩
  rw [hT] at q ⊢
  clear hT hb hg hs hr hp
  by_cases h : x4 < 1
  · have t0 : decide (x4 < 1) = true := decide_eq_true h
    rw [decide_eq_true h]
    clear h
    go_enter Try.func64, Try.ntmps64
    go_wp2_with fail
    go_ret
    exact ⟨by simp, HB0.out⟩
  · have tb : decide (x4 < 1) = false := decide_eq_false h
    rw [decide_eq_false h]
    clear h
    by_cases h : x5 < 1
    · have t0 : decide (x5 < 1) = true := decide_eq_true h
      rw [decide_eq_true h]
      clear h
      go_enter Try.func64, Try.ntmps64
      go_wp2_with fail
      go_ret
      exact ⟨by simp, HB0.out⟩
    · have tc : decide (x5 < 1) = false := decide_eq_false h
      rw [decide_eq_false h]
      clear h
      by_cases h : x3 < 0
      · have t0 : decide (x3 < 0) = true := decide_eq_true h
        rw [decide_eq_true h]
        clear h
        go_enter Try.func64, Try.ntmps64
        go_wp2_with fail
        go_ret
        exact ⟨by simp, HB0.out⟩
      · have td : decide (x3 < 0) = false := decide_eq_false h
        rw [decide_eq_false h]
        clear h
        by_cases h : 1 < x3
        · have t0 : decide (1 < x3) = true := decide_eq_true h
          rw [decide_eq_true h]
          clear h
          go_enter Try.func64, Try.ntmps64
          go_wp2_with fail
          go_ret
          exact ⟨by simp, HB0.out⟩
        · have te : decide (1 < x3) = false := decide_eq_false h
          rw [decide_eq_false h]
          clear h
          cases T with
          | true =>
            go_enter Try.func64, Try.ntmps64
            go_wp2_with fail
            with_reducible refine q.out.mono ?_
            rintro e w2 ⟨rfl, hb⟩
            have HB2 := Lib.hid (HB0.out.trans (hb.mono HB0.out.size))
            clear hb
            go_wp2_with fail
            go_ret
            exact ⟨by simp, HB2.out⟩
          | false =>
            go_enter Try.func64, Try.ntmps64
            go_wp2_with fail
            with_reducible refine q.out.mono ?_
            rintro e w2 ⟨rfl, hb⟩
            have HB2 := Lib.hid (HB0.out.trans (hb.mono HB0.out.size))
            clear hb
            go_wp2_with fail
            go_ret
            exact ⟨by simp, HB2.out⟩

set_option maxRecDepth 100000 in
set_option maxHeartbeats 4000000 in
theorem lists_any (v : Value) (b : Bk) (w : World) (hb : Hid (BkAt w v b)) (hs : Hid b.Small) :
    Calls Try.prog 58 #[v] w fun e w' => e = .returned (.bool b.listsB) ∧ Below w.heap.size w w' := by
  obtain ⟨vh, vs, vo, vr, rfl, g1, g2, g3, g4⟩ := hb.out
  obtain ⟨Ah, ch, rfl, _⟩ := g1
  obtain ⟨As, cs, rfl, _⟩ := g2
  obtain ⟨Ao, co, rfl, _⟩ := g3
  obtain ⟨Ar, cr, rfl, _⟩ := g4
  obtain ⟨w1, hw1⟩ : ∃ w1, w.alloc (.cells #[.slice Ah b.h.length ch, .slice As b.s.length cs, .slice Ao b.o.length co, .slice Ar b.r.length cr, .int .i64 b.n] 37) = w1 := ⟨_, rfl⟩
  have HB : Hid (Below w.heap.size w w1) := by rw [← hw1]; exact below_alloc (Below.refl _ _) (Nat.le_refl _) _
  have K : Hid (w1.heap[w.heap.size]? = some (.cells #[.slice Ah b.h.length ch, .slice As b.s.length cs, .slice Ao b.o.length co, .slice Ar b.r.length cr, .int .i64 b.n] 37 (0, 0))) := by rw [← hw1]; exact heap_new w _
  obtain ⟨_, _, _, _, hh, g1, g2, g3, g4⟩ := hb.out.call HB.out
  injection hh with hh
  simp only [Array.mk.injEq, List.cons.injEq] at hh
  obtain ⟨rfl, rfl, rfl, rfl, _⟩ := hh
  have hl : b.h.length ≤ 1000000 ∧ b.s.length ≤ 1000000 ∧ b.o.length ≤ 1000000 ∧ b.r.length ≤ 1000000 := by have := hs.out; unfold Bk.Small at this; omega
  obtain ⟨hlh, hls, hlo, hlr⟩ := hl
  have R1 := Lib.hid g1
  have R2 := Lib.hid g3
  have R3 := Lib.hid g4
  have R4 := Lib.hid g2
  obtain ⟨Res, hRes⟩ : ∃ Res, b.listsB = Res := ⟨_, rfl⟩
  rw [hRes]
  unfold Bk.listsB Bk.riseB at hRes
  have Q1 := Lib.hid (fun wz v hv => risingHolder_any v b.h wz hv hlh)
  have Q2 := Lib.hid (fun wz v hv => risingOpen_any v b.o wz hv hlo)
  have Q3 := Lib.hid (fun wz v hv => risingRate_any v b.r wz hv hlr)
  have Q4 := Lib.hid (fun wz v hv => risingStake_any v b.s wz hv hls)
  generalize riseHB b.h = rh at *
  generalize riseHB b.o = ro at *
  generalize riseHB b.r = rr at *
  generalize riseSB b.s = rs at *
  have hs1 := (Array.getElem?_eq_some_iff.1 K.out).1
  have hw1' := Lib.hid hw1
  clear hb g1 g2 g3 g4 hw1 hs
  have a0 := cells_of_blk K.out 0 _ rfl
  have a1 := cells_of_blk K.out 1 _ rfl
  have a2 := cells_of_blk K.out 2 _ rfl
  have a3 := cells_of_blk K.out 3 _ rfl
  have a4 := cells_of_blk K.out 4 _ rfl
  by_cases h : 32 < b.h.length
  · have t0 : decide ((32 : Int) < (b.h.length : Int)) = true := decide_eq_true (by omega)
    rw [decide_eq_true h] at hRes
    have hR : Res = false := by rw [← hRes]; simp
    subst hR
    clear h hRes
    rw [← hw1'.out] at a0 a1 a2 a3 a4
    go_enter Try.func58, Try.ntmps58
    go_wp2_with fail
    go_ret
    exact ⟨rfl, by have := HB.out; rw [← hw1'.out] at this; exact this⟩
  have t0 : decide ((32 : Int) < (b.h.length : Int)) = false := decide_eq_false (by omega)
  rw [decide_eq_false h] at hRes
  clear h
  by_cases h : 64 < b.o.length
  · have t0 : decide ((64 : Int) < (b.o.length : Int)) = true := decide_eq_true (by omega)
    rw [decide_eq_true h] at hRes
    have hR : Res = false := by rw [← hRes]; simp
    subst hR
    clear h hRes
    rw [← hw1'.out] at a0 a1 a2 a3 a4
    go_enter Try.func58, Try.ntmps58
    go_wp2_with fail
    go_ret
    exact ⟨rfl, by have := HB.out; rw [← hw1'.out] at this; exact this⟩
  have t1 : decide ((64 : Int) < (b.o.length : Int)) = false := decide_eq_false (by omega)
  rw [decide_eq_false h] at hRes
  clear h
  by_cases h : 32 < b.r.length
  · have t0 : decide ((32 : Int) < (b.r.length : Int)) = true := decide_eq_true (by omega)
    rw [decide_eq_true h] at hRes
    have hR : Res = false := by rw [← hRes]; simp
    subst hR
    clear h hRes
    rw [← hw1'.out] at a0 a1 a2 a3 a4
    go_enter Try.func58, Try.ntmps58
    go_wp2_with fail
    go_ret
    exact ⟨rfl, by have := HB.out; rw [← hw1'.out] at this; exact this⟩
  have t2 : decide ((32 : Int) < (b.r.length : Int)) = false := decide_eq_false (by omega)
  rw [decide_eq_false h] at hRes
  clear h
  rw [Bool.not_false, Bool.true_and, Bool.true_and, Bool.true_and] at hRes
  replace hRes := Lib.hid hRes
  rw [← hw1'.out] at a0 a1 a2 a3 a4
  go_enter Try.func58, Try.ntmps58
  go_wp2_with fail
  clear t0 t1 t2
  rw [hw1'.out] at a0 a1 a2 a3 a4 ⊢
  with_reducible refine (Q1.out _ _ (Lib.hid R1.out.rec')).mono ?_
  rintro e w2 ⟨rfl, hb⟩
  have K2 := Lib.hid (blk_call K.out hb)
  have HB2 := Lib.hid (HB.out.trans (hb.mono HB.out.size))
  replace R2 := Lib.hid (R2.out.call hb)
  replace R3 := Lib.hid (R3.out.call hb)
  replace R4 := Lib.hid (R4.out.call hb)
  clear hb a0 a1 a2 a3 a4
  cases rh with
  | false =>
    have hR : Res = false := by rw [← hRes.out]; simp
    subst hR
    clear hRes
    go_wp2_with fail
    go_ret
    exact ⟨rfl, HB2.out⟩
  | true =>
  have a0 := cells_of_blk K2.out 0 _ rfl
  have a1 := cells_of_blk K2.out 1 _ rfl
  have a2 := cells_of_blk K2.out 2 _ rfl
  have a3 := cells_of_blk K2.out 3 _ rfl
  have a4 := cells_of_blk K2.out 4 _ rfl
  go_wp2_with fail
  with_reducible refine (Q2.out _ _ (Lib.hid R2.out.rec')).mono ?_
  rintro e w3 ⟨rfl, hb⟩
  have K3 := Lib.hid (blk_call K2.out hb)
  have HB3 := Lib.hid (HB2.out.trans (hb.mono HB2.out.size))
  replace R3 := Lib.hid (R3.out.call hb)
  replace R4 := Lib.hid (R4.out.call hb)
  clear hb a0 a1 a2 a3 a4
  cases ro with
  | false =>
    have hR : Res = false := by rw [← hRes.out]; simp
    subst hR
    clear hRes
    go_wp2_with fail
    go_ret
    exact ⟨rfl, HB3.out⟩
  | true =>
  have a0 := cells_of_blk K3.out 0 _ rfl
  have a1 := cells_of_blk K3.out 1 _ rfl
  have a2 := cells_of_blk K3.out 2 _ rfl
  have a3 := cells_of_blk K3.out 3 _ rfl
  have a4 := cells_of_blk K3.out 4 _ rfl
  go_wp2_with fail
  with_reducible refine (Q3.out _ _ (Lib.hid R3.out.rec')).mono ?_
  rintro e w4 ⟨rfl, hb⟩
  have K4 := Lib.hid (blk_call K3.out hb)
  have HB4 := Lib.hid (HB3.out.trans (hb.mono HB3.out.size))
  replace R4 := Lib.hid (R4.out.call hb)
  clear hb a0 a1 a2 a3 a4
  cases rr with
  | false =>
    have hR : Res = false := by rw [← hRes.out]; simp
    subst hR
    clear hRes
    go_wp2_with fail
    go_ret
    exact ⟨rfl, HB4.out⟩
  | true =>
  have a0 := cells_of_blk K4.out 0 _ rfl
  have a1 := cells_of_blk K4.out 1 _ rfl
  have a2 := cells_of_blk K4.out 2 _ rfl
  have a3 := cells_of_blk K4.out 3 _ rfl
  have a4 := cells_of_blk K4.out 4 _ rfl
  go_wp2_with fail
  with_reducible refine (Q4.out _ _ (Lib.hid R4.out.rec')).mono ?_
  rintro e w5 ⟨rfl, hb⟩
  have K5 := Lib.hid (blk_call K4.out hb)
  have HB5 := Lib.hid (HB4.out.trans (hb.mono HB4.out.size))
  clear hb a0 a1 a2 a3 a4
  have hR : Res = rs := by rw [← hRes.out]; simp
  subst hR
  clear hRes
  go_wp2_with fail
  go_ret
  exact ⟨rfl, HB5.out⟩

set_option maxRecDepth 100000 in
theorem badH_pred (b : Bk) (w : World) (hk : ∀ r ∈ b.h, r.length = 4) : PredOn 61 #[] b.h badH w := fun W r hr hB => by
  match r, hk r hr with
  | [x0, x1, x2, x3], _ => exact May2_any x0 x1 x2 x3 W
theorem badR_pred (b : Bk) (w : World) (hk : ∀ r ∈ b.r, r.length = 2) : PredOn 62 #[] b.r badR w := fun W r hr hB => by
  match r, hk r hr with
  | [x0, x1], _ => exact May3_any x0 x1 W
theorem badS_pred (v : Value) (b : Bk) (g p : Nat) (w : World) (hb : Hid (BkAt w v b)) (hg : Hid (∃ cs, v = .agg cs ∧ w.heap[g]? = some (.cells cs 37 (0, 0)))) (hp : Hid (w.heap[p]? = some (.cells #[.func (.func 59) #[] #[.pointer (some ⟨g, 0, none⟩)]] 87 (0, 0)))) (hs : Hid b.Small) (hr : Hid b.Rise) (hk : ∀ r ∈ b.s, r.length = 3) :
    PredOn 63 #[.pointer (some ⟨p, 0, none⟩)] b.s (badS b) w := fun W r hr' hB => by
  match r, hk r hr' with
  | [x0, x1, x2], _ => exact May4_any v b g p x0 x1 x2 W (hb.out.call hB) (by obtain ⟨cs, h1, h2⟩ := hg.out; exact ⟨cs, h1, blk_call h2 hB⟩) (blk_call hp.out hB) hs hr
theorem badO_pred (v : Value) (b : Bk) (g p : Nat) (w : World) (hb : Hid (BkAt w v b)) (hg : Hid (∃ cs, v = .agg cs ∧ w.heap[g]? = some (.cells cs 37 (0, 0)))) (hp : Hid (w.heap[p]? = some (.cells #[.func (.func 59) #[] #[.pointer (some ⟨g, 0, none⟩)]] 87 (0, 0)))) (hs : Hid b.Small) (hr : Hid b.Rise) (hk : ∀ r ∈ b.o, r.length = 6) :
    PredOn 64 #[.pointer (some ⟨p, 0, none⟩)] b.o (badO b) w := fun W r hr' hB => by
  match r, hk r hr' with
  | [x0, x1, x2, x3, x4, x5], _ => exact May5_any v b g p x0 x1 x2 x3 x4 x5 W (hb.out.call hB) (by obtain ⟨cs, h1, h2⟩ := hg.out; exact ⟨cs, h1, blk_call h2 hB⟩) (blk_call hp.out hB) hs hr
theorem listsB_rise {b : Bk} (h : b.listsB = true) : b.Rise := by
  unfold Bk.listsB at h
  simp only [Bool.and_eq_true] at h
  exact (Bk.riseB_iff b).1 h.2.2.2

set_option maxRecDepth 100000 in
set_option maxHeartbeats 8000000 in
theorem BkMay_any (v : Value) (b : Bk) (w : World) (hb : Hid (BkAt w v b)) (hs : Hid b.Small) :
    Calls Try.prog 27 #[v] w fun e w' => e = .returned (.bool b.mayB) ∧ Below w.heap.size w w' := by
  obtain ⟨vh, vs, vo, vr, rfl, g1, g2, g3, g4⟩ := hb.out
  obtain ⟨Ah, ch, rfl, kh, _⟩ := g1
  obtain ⟨As, cs, rfl, ks, _⟩ := g2
  obtain ⟨Ao, co, rfl, ko, _⟩ := g3
  obtain ⟨Ar, cr, rfl, kr, _⟩ := g4
  obtain ⟨w1, hw1⟩ : ∃ w1, w.alloc (.cells #[.slice Ah b.h.length ch, .slice As b.s.length cs, .slice Ao b.o.length co, .slice Ar b.r.length cr, .int .i64 b.n] 37) = w1 := ⟨_, rfl⟩
  have HB : Hid (Below w.heap.size w w1) := by rw [← hw1]; exact below_alloc (Below.refl _ _) (Nat.le_refl _) _
  have K : Hid (w1.heap[w.heap.size]? = some (.cells #[.slice Ah b.h.length ch, .slice As b.s.length cs, .slice Ao b.o.length co, .slice Ar b.r.length cr, .int .i64 b.n] 37 (0, 0))) := by rw [← hw1]; exact heap_new w _
  have BA := Lib.hid (hb.out.call HB.out)
  have hl : b.h.length ≤ 1000000 ∧ b.s.length ≤ 1000000 ∧ b.o.length ≤ 1000000 ∧ b.r.length ≤ 1000000 := by have := hs.out; unfold Bk.Small at this; omega
  obtain ⟨hlh, hls, hlo, hlr⟩ := hl
  have KH := Lib.hid kh
  have KS := Lib.hid ks
  have KO := Lib.hid ko
  have KR := Lib.hid kr
  obtain ⟨Res, hRes⟩ : ∃ Res, b.mayB = Res := ⟨_, rfl⟩
  rw [hRes]
  unfold Bk.mayB Bk.countB at hRes
  replace hRes := Lib.hid hRes
  replace hw1 := Lib.hid hw1
  clear hb kh ks ko kr
  have a0 := cells_of_blk K.out 0 _ rfl
  have a1 := cells_of_blk K.out 1 _ rfl
  have a2 := cells_of_blk K.out 2 _ rfl
  have a3 := cells_of_blk K.out 3 _ rfl
  have a4 := cells_of_blk K.out 4 _ rfl
  rw [← hw1.out] at a0 a1 a2 a3 a4
  go_enter Try.func27, Try.ntmps27
  go_wp2_with fail
  rw [hw1.out] at a0 a1 a2 a3 a4 ⊢
  with_reducible refine (lists_any _ b _ BA hs).mono ?_
  rintro e w2 ⟨rfl, hb⟩
  have K2 := Lib.hid (blk_call K.out hb)
  have BA2 := Lib.hid (BA.out.call hb)
  have HB2 := Lib.hid (HB.out.trans (hb.mono HB.out.size))
  clear hb a0 a1 a2 a3 a4
  have a0 := cells_of_blk K2.out 0 _ rfl
  have a1 := cells_of_blk K2.out 1 _ rfl
  have a2 := cells_of_blk K2.out 2 _ rfl
  have a3 := cells_of_blk K2.out 3 _ rfl
  have a4 := cells_of_blk K2.out 4 _ rfl
  have l2 := (Array.getElem?_eq_some_iff.1 K2.out).1
  cases hL : b.listsB with
  | false =>
    have hR : Res = false := by rw [← hRes.out, hL]; simp
    subst hR
    clear hRes hL
    go_wp2_with fail
    go_ret
    exact ⟨rfl, HB2.out⟩
  | true =>
  have HR := Lib.hid (listsB_rise hL)
  rw [hL, Bool.true_and] at hRes
  clear hL
  by_cases h0 : b.n < 0
  · have t0 : decide (b.n < 0) = true := decide_eq_true h0
    have hR : Res = false := by rw [← hRes.out, t0]; simp
    subst hR
    clear hRes h0
    go_wp2_with fail
    go_ret
    exact ⟨rfl, HB2.out⟩
  have t0 : decide (b.n < 0) = false := decide_eq_false h0
  by_cases h1 : 1099511627776 < b.n
  · have t1 : decide (1099511627776 < b.n) = true := decide_eq_true h1
    have hR : Res = false := by rw [← hRes.out, t1]; simp
    subst hR
    clear hRes h0 h1
    go_wp2_with fail
    go_ret
    exact ⟨rfl, HB2.out⟩
  have t1 : decide (1099511627776 < b.n) = false := decide_eq_false h1
  rw [t0, t1, Bool.not_false, Bool.true_and, Bool.true_and] at hRes
  clear h0 h1
  obtain ⟨w3, hw3⟩ : ∃ w3, w2.alloc (.cells #[.func (.func 59) #[] #[.pointer (some ⟨w.heap.size, 0, none⟩)]] 87) = w3 := ⟨_, rfl⟩
  have hb : Below w2.heap.size w2 w3 := by rw [← hw3]; exact below_alloc (Below.refl _ _) (Nat.le_refl _) _
  have K3 := Lib.hid (blk_call K2.out hb)
  have BA3 := Lib.hid (BA2.out.call hb)
  have HB3 := Lib.hid (HB2.out.trans (hb.mono HB2.out.size))
  have P3 : Hid (w3.heap[w2.heap.size]? = some (.cells #[.func (.func 59) #[] #[.pointer (some ⟨w.heap.size, 0, none⟩)]] 87 (0, 0))) := by rw [← hw3]; exact heap_new _ _
  replace hw3 := Lib.hid hw3
  clear hb
  have hst := fun (a : Addr) (c : Array Value) (wz : World) => run_store Try.prog wz a (.func (.func 59) #[] c) .plain rfl
  go_wp2_with fail
  rw [hw3.out]
  clear a0 a1 a2 a3 a4 t0 t1
  have hrow : Hid (RecAt w3 (.slice Ah b.h.length ch) 4 b.h) := by
    obtain ⟨_, _, _, _, hh, r1, r2, r3, r4⟩ := BA3.out
    injection hh with hh
    simp only [Array.mk.injEq, List.cons.injEq] at hh
    obtain ⟨rfl, rfl, rfl, rfl, _⟩ := hh
    exact r1.rec'
  have q := Lib.hid (ContainsHolder_any 61 #[] (enters_of Try.func61 (by kernel_rfl) rfl) (.slice Ah b.h.length ch) b.h (badH) w3 hrow hlh (badH_pred b _ KH.out))
  have a0 := cells_of_blk K3.out 0 _ rfl
  have a1 := cells_of_blk K3.out 1 _ rfl
  have a2 := cells_of_blk K3.out 2 _ rfl
  have a3 := cells_of_blk K3.out 3 _ rfl
  have a4 := cells_of_blk K3.out 4 _ rfl
  obtain ⟨F, hF⟩ : ∃ F, b.h.any (badH) = F := ⟨_, rfl⟩
  rw [hF] at q hRes
  clear hF hrow
  go_wp2_with fail
  with_reducible refine q.out.mono ?_
  rintro e w4 ⟨rfl, hb⟩
  have K4 := Lib.hid (blk_call K3.out hb)
  have P4 := Lib.hid (blk_call P3.out hb)
  have BA4 := Lib.hid (BA3.out.call hb)
  have HB4 := Lib.hid (HB3.out.trans (hb.mono HB3.out.size))
  clear hb q a0 a1 a2 a3 a4
  cases F with
  | true =>
    have hR : Res = false := by rw [← hRes.out]; simp
    subst hR
    clear hRes
    go_wp2_with fail
    go_ret
    exact ⟨rfl, HB4.out⟩
  | false =>
  rw [Bool.not_false, Bool.true_and] at hRes
  have hrow : Hid (RecAt w4 (.slice Ar b.r.length cr) 2 b.r) := by
    obtain ⟨_, _, _, _, hh, r1, r2, r3, r4⟩ := BA4.out
    injection hh with hh
    simp only [Array.mk.injEq, List.cons.injEq] at hh
    obtain ⟨rfl, rfl, rfl, rfl, _⟩ := hh
    exact r4.rec'
  have q := Lib.hid (ContainsRate_any 62 #[] (enters_of Try.func62 (by kernel_rfl) rfl) (.slice Ar b.r.length cr) b.r (badR) w4 hrow hlr (badR_pred b _ KR.out))
  have a0 := cells_of_blk K4.out 0 _ rfl
  have a1 := cells_of_blk K4.out 1 _ rfl
  have a2 := cells_of_blk K4.out 2 _ rfl
  have a3 := cells_of_blk K4.out 3 _ rfl
  have a4 := cells_of_blk K4.out 4 _ rfl
  obtain ⟨F, hF⟩ : ∃ F, b.r.any (badR) = F := ⟨_, rfl⟩
  rw [hF] at q hRes
  clear hF hrow
  go_wp2_with fail
  with_reducible refine q.out.mono ?_
  rintro e w5 ⟨rfl, hb⟩
  have K5 := Lib.hid (blk_call K4.out hb)
  have P5 := Lib.hid (blk_call P4.out hb)
  have BA5 := Lib.hid (BA4.out.call hb)
  have HB5 := Lib.hid (HB4.out.trans (hb.mono HB4.out.size))
  clear hb q a0 a1 a2 a3 a4
  cases F with
  | true =>
    have hR : Res = false := by rw [← hRes.out]; simp
    subst hR
    clear hRes
    go_wp2_with fail
    go_ret
    exact ⟨rfl, HB5.out⟩
  | false =>
  rw [Bool.not_false, Bool.true_and] at hRes
  have hrow : Hid (RecAt w5 (.slice As b.s.length cs) 3 b.s) := by
    obtain ⟨_, _, _, _, hh, r1, r2, r3, r4⟩ := BA5.out
    injection hh with hh
    simp only [Array.mk.injEq, List.cons.injEq] at hh
    obtain ⟨rfl, rfl, rfl, rfl, _⟩ := hh
    exact r2.rec'
  have q := Lib.hid (ContainsStake_any 63 #[.pointer (some ⟨w2.heap.size, 0, none⟩)] (enters_of Try.func63 (by kernel_rfl) rfl) (.slice As b.s.length cs) b.s (badS b) w5 hrow hls (badS_pred _ b _ _ _ BA5 ⟨_, rfl, K5.out⟩ P5 hs HR KS.out))
  have a0 := cells_of_blk K5.out 0 _ rfl
  have a1 := cells_of_blk K5.out 1 _ rfl
  have a2 := cells_of_blk K5.out 2 _ rfl
  have a3 := cells_of_blk K5.out 3 _ rfl
  have a4 := cells_of_blk K5.out 4 _ rfl
  obtain ⟨F, hF⟩ : ∃ F, b.s.any (badS b) = F := ⟨_, rfl⟩
  rw [hF] at q hRes
  clear hF hrow
  go_wp2_with fail
  with_reducible refine q.out.mono ?_
  rintro e w6 ⟨rfl, hb⟩
  have K6 := Lib.hid (blk_call K5.out hb)
  have P6 := Lib.hid (blk_call P5.out hb)
  have BA6 := Lib.hid (BA5.out.call hb)
  have HB6 := Lib.hid (HB5.out.trans (hb.mono HB5.out.size))
  clear hb q a0 a1 a2 a3 a4
  cases F with
  | true =>
    have hR : Res = false := by rw [← hRes.out]; simp
    subst hR
    clear hRes
    go_wp2_with fail
    go_ret
    exact ⟨rfl, HB6.out⟩
  | false =>
  rw [Bool.not_false, Bool.true_and] at hRes
  have hrow : Hid (RecAt w6 (.slice Ao b.o.length co) 6 b.o) := by
    obtain ⟨_, _, _, _, hh, r1, r2, r3, r4⟩ := BA6.out
    injection hh with hh
    simp only [Array.mk.injEq, List.cons.injEq] at hh
    obtain ⟨rfl, rfl, rfl, rfl, _⟩ := hh
    exact r3.rec'
  have q := Lib.hid (ContainsOpen_any 64 #[.pointer (some ⟨w2.heap.size, 0, none⟩)] (enters_of Try.func64 (by kernel_rfl) rfl) (.slice Ao b.o.length co) b.o (badO b) w6 hrow hlo (badO_pred _ b _ _ _ BA6 ⟨_, rfl, K6.out⟩ P6 hs HR KO.out))
  have a0 := cells_of_blk K6.out 0 _ rfl
  have a1 := cells_of_blk K6.out 1 _ rfl
  have a2 := cells_of_blk K6.out 2 _ rfl
  have a3 := cells_of_blk K6.out 3 _ rfl
  have a4 := cells_of_blk K6.out 4 _ rfl
  obtain ⟨F, hF⟩ : ∃ F, b.o.any (badO b) = F := ⟨_, rfl⟩
  rw [hF] at q hRes
  clear hF hrow
  go_wp2_with fail
  with_reducible refine q.out.mono ?_
  rintro e w7 ⟨rfl, hb⟩
  have K7 := Lib.hid (blk_call K6.out hb)
  have P7 := Lib.hid (blk_call P6.out hb)
  have BA7 := Lib.hid (BA6.out.call hb)
  have HB7 := Lib.hid (HB6.out.trans (hb.mono HB6.out.size))
  clear hb q a0 a1 a2 a3 a4
  cases F with
  | true =>
    have hR : Res = false := by rw [← hRes.out]; rfl
    subst hR
    clear hRes
    go_wp2_with fail
    go_ret
    exact ⟨rfl, HB7.out⟩
  | false =>
    have hR : Res = true := by rw [← hRes.out]; rfl
    subst hR
    clear hRes
    go_wp2_with fail
    go_ret
    exact ⟨rfl, HB7.out⟩

end Go.Proofs.Ytfkfpppiikgjbaa
