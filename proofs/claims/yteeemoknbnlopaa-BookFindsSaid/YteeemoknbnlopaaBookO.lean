/- BookFinds: the walk. PRINTED BY genBookO.py. -/
import Derived.Test.YteeemoknbnlopaaBookM
import Derived.Test.YteeemoknbnlopaaBookN
namespace Go.Proofs.Yteeemoknbnlopaa
open Go Go.RowKit
set_option linter.unusedVariables false
set_option linter.unusedSimpArgs false

theorem rec_of {k : Nat} {l : List (List Int)} (h : ∀ r ∈ l, r.length = k) (E : List Int → Bool) : ∃ r F, r.length = k ∧ recOf k (l.find? E) = (r, F) := by
  cases hf : l.find? E with
  | none => exact ⟨_, _, List.length_replicate, rfl⟩
  | some r => exact ⟨r, true, h r (List.mem_of_find?_eq_some hf), rfl⟩
set_option maxRecDepth 100000 in
set_option maxHeartbeats 8000000 in
theorem BookFinds_walk (v : Value) (b : Bk) (acc sym id : Int) (w : World) (hb : Hid (BkAt w v b)) :
    Calls Try.prog 7 #[v, .int .i64 acc, .int .i64 sym, .int .i64 id] w fun e w' => e = .returned (.bool true) ∧ Below w.heap.size w w' := by
  obtain ⟨vh, vs, vo, vr, rfl, r1, r2, r3, r4⟩ := hb.out
  have lh : ∀ r ∈ b.h, r.length = 4 := by obtain ⟨_, _, _, h, _⟩ := r1; exact h
  have ls : ∀ r ∈ b.s, r.length = 3 := by obtain ⟨_, _, _, h, _⟩ := r2; exact h
  have lo : ∀ r ∈ b.o, r.length = 6 := by obtain ⟨_, _, _, h, _⟩ := r3; exact h
  have lr : ∀ r ∈ b.r, r.length = 2 := by obtain ⟨_, _, _, h, _⟩ := r4; exact h
  obtain ⟨rh, H0, hl1, hx1⟩ := rec_of lh (isId acc)
  obtain ⟨ro, O0, hl2, hx2⟩ := rec_of lo (isId id)
  obtain ⟨rr, R0, hl3, hx3⟩ := rec_of lr (isId sym)
  obtain ⟨rs, S0, hl4, hx4⟩ := rec_of ls (isKey acc sym)
  match rh, ro, rr, rs, hl1, hl2, hl3, hl4, hx1, hx2, hx3, hx4 with
  | [h0, h1, h2, h3], [o0, o1, o2, o3, o4, o5], [p0, p1], [s0, s1, s2], _, _, _, _, hx1, hx2, hx3, hx4 =>
  have BX : Hid (BkAt w (.agg #[vh, vs, vo, vr, .int .i64 b.n]) b) := ⟨_, _, _, _, rfl, r1, r2, r3, r4⟩
  have HX1 := Lib.hid hx1
  have HX2 := Lib.hid hx2
  have HX3 := Lib.hid hx3
  have HX4 := Lib.hid hx4
  clear hb r1 r2 r3 r4 lh ls lo lr hx1 hx2 hx3 hx4
  have K0 : Hid ((w.alloc (.cells #[vh, vs, vo, vr, .int .i64 b.n] 55)).heap[w.heap.size]? = some (.cells #[vh, vs, vo, vr, .int .i64 b.n] 55 (0, 0))) := heap_new w _
  have HB0 : Hid (Below w.heap.size w (w.alloc (.cells #[vh, vs, vo, vr, .int .i64 b.n] 55))) := below_alloc (Below.refl _ _) (Nat.le_refl _) _
  have B0 := Lib.hid (BX.out.call HB0.out)
  go_enter Try.func7, Try.ntmps7
  go_wp2_with fail
  with_reducible refine (alive12 _).mono ?_
  rintro e w1 ⟨rfl, hb⟩
  have K1c := Lib.hid (blk_call K0.out hb)
  have K1 := K1c
  have B1 := Lib.hid (B0.out.call hb)
  have HB1 := Lib.hid (HB0.out.trans (hb.mono HB0.out.size))
  clear hb
  have a0 := cells_of_blk K1.out 0 _ rfl
  have a1 := cells_of_blk K1.out 1 _ rfl
  have a2 := cells_of_blk K1.out 2 _ rfl
  have a3 := cells_of_blk K1.out 3 _ rfl
  have a4 := cells_of_blk K1.out 4 _ rfl
  go_wp2_with fail
  with_reducible refine (Great_any _ b _ B1).mono ?_
  rintro e w2 ⟨g, rfl, hg, hb⟩
  have K2c := Lib.hid (blk_call K1.out hb)
  have K2 := K2c
  have B2 := Lib.hid (B1.out.call hb)
  have HB2 := Lib.hid (HB1.out.trans (hb.mono HB1.out.size))
  clear hb
  cases g with
  | true =>
    clear hg
    go_wp2_with fail
    go_ret
    exact ⟨rfl, HB2.out⟩
  | false =>
  have hfit := hg rfl
  have hsm := Lib.hid hfit.small
  have hf2 := hfit
  unfold Bk.Fit at hf2
  obtain ⟨f1, f2, f3, f4⟩ := hf2
  have F1 : b.h.length ≤ 1000000 := by omega
  have F2 : b.o.length ≤ 1000000 := by omega
  have F3 : b.r.length ≤ 1000000 := by omega
  have F4 : b.s.length ≤ 1000000 := by omega
  clear hg hfit f1 f2 f3 f4
  clear a0 a1 a2 a3 a4
  have a0 := cells_of_blk K2.out 0 _ rfl
  have a1 := cells_of_blk K2.out 1 _ rfl
  have a2 := cells_of_blk K2.out 2 _ rfl
  have a3 := cells_of_blk K2.out 3 _ rfl
  have a4 := cells_of_blk K2.out 4 _ rfl
  go_wp2_with fail
  with_reducible refine (rRise_any _ b _ B2 hsm).mono ?_
  rintro e w3 ⟨rfl, hb⟩
  have K3c := Lib.hid (blk_call K2.out hb)
  have K3 := K3c
  have B3 := Lib.hid (B2.out.call hb)
  have HB3 := Lib.hid (HB2.out.trans (hb.mono HB2.out.size))
  clear hb
  cases hr : b.riseB with
  | false =>
    clear hr
    go_wp2_with fail
    go_ret
    exact ⟨rfl, HB3.out⟩
  | true =>
  have HR := Lib.hid ((Bk.riseB_iff b).1 hr)
  have HR1 := Lib.hid HR.out.1
  have HR2 := Lib.hid HR.out.2.1
  have HR3 := Lib.hid HR.out.2.2.1
  have HR4 := Lib.hid HR.out.2.2.2
  clear hr
  clear a0 a1 a2 a3 a4
  have a0 := cells_of_blk K3.out 0 _ rfl
  have a1 := cells_of_blk K3.out 1 _ rfl
  have a2 := cells_of_blk K3.out 2 _ rfl
  have a3 := cells_of_blk K3.out 3 _ rfl
  have a4 := cells_of_blk K3.out 4 _ rfl
  go_wp2_with fail
  with_reducible refine (Holder_any _ b acc h0 h1 h2 h3 H0 _ B3 F1 HR1 HX1).mono ?_
  rintro e w4 ⟨rfl, hb⟩
  have K4c := Lib.hid (blk_call K3.out hb)
  have hb' := hb.trans ((below_alloc (Below.refl w4.heap.size w4) (Nat.le_refl _) (.cells #[.int .i64 h0, .int .i64 h1, .int .i64 h2, .int .i64 h3] 57)).mono hb.size)
  have K4 := Lib.hid (blk_call K3.out hb')
  have B4 := Lib.hid (B3.out.call hb')
  have HB4 := Lib.hid (HB3.out.trans (hb'.mono HB3.out.size))
  have X4_4 := Lib.hid (heap_new w4 (.cells #[.int .i64 h0, .int .i64 h1, .int .i64 h2, .int .i64 h3] 57))
  clear a0 a1 a2 a3 a4
  have a0 := cells_of_blk K4c.out 0 _ rfl
  have a1 := cells_of_blk K4c.out 1 _ rfl
  have a2 := cells_of_blk K4c.out 2 _ rfl
  have a3 := cells_of_blk K4c.out 3 _ rfl
  have a4 := cells_of_blk K4c.out 4 _ rfl
  have hs4 : w.heap.size < w4.heap.size := (Array.getElem?_eq_some_iff.1 K4c.out).1
  clear hb' hb
  go_wp2_with fail
  with_reducible refine (Open_any _ b id o0 o1 o2 o3 o4 o5 O0 _ B4 F2 HR2 HX2).mono ?_
  rintro e w5 ⟨rfl, hb⟩
  have K5c := Lib.hid (blk_call K4.out hb)
  have hb' := hb.trans ((below_alloc (Below.refl w5.heap.size w5) (Nat.le_refl _) (.cells #[.int .i64 o0, .int .i64 o1, .int .i64 o2, .int .i64 o3, .int .i64 o4, .int .i64 o5] 67)).mono hb.size)
  have K5 := Lib.hid (blk_call K4.out hb')
  have B5 := Lib.hid (B4.out.call hb')
  have HB5 := Lib.hid (HB4.out.trans (hb'.mono HB4.out.size))
  have X5_5 := Lib.hid (heap_new w5 (.cells #[.int .i64 o0, .int .i64 o1, .int .i64 o2, .int .i64 o3, .int .i64 o4, .int .i64 o5] 67))
  have X4_5 := Lib.hid (blk_call X4_4.out hb')
  clear a0 a1 a2 a3 a4
  have a0 := cells_of_blk K5c.out 0 _ rfl
  have a1 := cells_of_blk K5c.out 1 _ rfl
  have a2 := cells_of_blk K5c.out 2 _ rfl
  have a3 := cells_of_blk K5c.out 3 _ rfl
  have a4 := cells_of_blk K5c.out 4 _ rfl
  have hs5 : w.heap.size < w5.heap.size := (Array.getElem?_eq_some_iff.1 K5c.out).1
  clear hb' hb
  go_wp2_with fail
  with_reducible refine (Rate_any _ b sym p0 p1 R0 _ B5 F3 HR3 HX3).mono ?_
  rintro e w6 ⟨rfl, hb⟩
  have K6c := Lib.hid (blk_call K5.out hb)
  have K6 := K6c
  have B6 := Lib.hid (B5.out.call hb)
  have HB6 := Lib.hid (HB5.out.trans (hb.mono HB5.out.size))
  have X4_6 := Lib.hid (blk_call X4_5.out hb)
  have X5_6 := Lib.hid (blk_call X5_5.out hb)
  clear a0 a1 a2 a3 a4
  have a0 := cells_of_blk K6c.out 0 _ rfl
  have a1 := cells_of_blk K6c.out 1 _ rfl
  have a2 := cells_of_blk K6c.out 2 _ rfl
  have a3 := cells_of_blk K6c.out 3 _ rfl
  have a4 := cells_of_blk K6c.out 4 _ rfl
  have hs6 : w.heap.size < w6.heap.size := (Array.getElem?_eq_some_iff.1 K6c.out).1
  clear hb
  go_wp2_with fail
  with_reducible refine (rHolder_any _ b acc h0 h1 h2 h3 H0 _ B6 F1 HX1).mono ?_
  rintro e w7 ⟨rfl, hb⟩
  have K7c := Lib.hid (blk_call K6.out hb)
  have hb' := hb.trans ((below_alloc (Below.refl w7.heap.size w7) (Nat.le_refl _) (.cells #[.int .i64 h0, .int .i64 h1, .int .i64 h2, .int .i64 h3] 57)).mono hb.size)
  have K7 := Lib.hid (blk_call K6.out hb')
  have B7 := Lib.hid (B6.out.call hb')
  have HB7 := Lib.hid (HB6.out.trans (hb'.mono HB6.out.size))
  have X7_7 := Lib.hid (heap_new w7 (.cells #[.int .i64 h0, .int .i64 h1, .int .i64 h2, .int .i64 h3] 57))
  have X4_7 := Lib.hid (blk_call X4_6.out hb')
  have X5_7 := Lib.hid (blk_call X5_6.out hb')
  clear a0 a1 a2 a3 a4
  have a0 := cells_of_blk K7c.out 0 _ rfl
  have a1 := cells_of_blk K7c.out 1 _ rfl
  have a2 := cells_of_blk K7c.out 2 _ rfl
  have a3 := cells_of_blk K7c.out 3 _ rfl
  have a4 := cells_of_blk K7c.out 4 _ rfl
  have hs7 : w.heap.size < w7.heap.size := (Array.getElem?_eq_some_iff.1 K7c.out).1
  clear hb' hb
  go_wp2_with fail
  with_reducible refine (rOpen_any _ b id o0 o1 o2 o3 o4 o5 O0 _ B7 F2 HX2).mono ?_
  rintro e w8 ⟨rfl, hb⟩
  have K8c := Lib.hid (blk_call K7.out hb)
  have hb' := hb.trans ((below_alloc (Below.refl w8.heap.size w8) (Nat.le_refl _) (.cells #[.int .i64 o0, .int .i64 o1, .int .i64 o2, .int .i64 o3, .int .i64 o4, .int .i64 o5] 67)).mono hb.size)
  have K8 := Lib.hid (blk_call K7.out hb')
  have B8 := Lib.hid (B7.out.call hb')
  have HB8 := Lib.hid (HB7.out.trans (hb'.mono HB7.out.size))
  have X8_8 := Lib.hid (heap_new w8 (.cells #[.int .i64 o0, .int .i64 o1, .int .i64 o2, .int .i64 o3, .int .i64 o4, .int .i64 o5] 67))
  have X4_8 := Lib.hid (blk_call X4_7.out hb')
  have X5_8 := Lib.hid (blk_call X5_7.out hb')
  have X7_8 := Lib.hid (blk_call X7_7.out hb')
  clear a0 a1 a2 a3 a4
  have a0 := cells_of_blk K8c.out 0 _ rfl
  have a1 := cells_of_blk K8c.out 1 _ rfl
  have a2 := cells_of_blk K8c.out 2 _ rfl
  have a3 := cells_of_blk K8c.out 3 _ rfl
  have a4 := cells_of_blk K8c.out 4 _ rfl
  have hs8 : w.heap.size < w8.heap.size := (Array.getElem?_eq_some_iff.1 K8c.out).1
  clear hb' hb
  go_wp2_with fail
  with_reducible refine (rRate_any _ b sym p0 p1 R0 _ B8 F3 HX3).mono ?_
  rintro e w9 ⟨rfl, hb⟩
  have K9c := Lib.hid (blk_call K8.out hb)
  have K9 := K9c
  have B9 := Lib.hid (B8.out.call hb)
  have HB9 := Lib.hid (HB8.out.trans (hb.mono HB8.out.size))
  have X4_9 := Lib.hid (blk_call X4_8.out hb)
  have X5_9 := Lib.hid (blk_call X5_8.out hb)
  have X7_9 := Lib.hid (blk_call X7_8.out hb)
  have X8_9 := Lib.hid (blk_call X8_8.out hb)
  clear a0 a1 a2 a3 a4
  have a0 := cells_of_blk K9c.out 0 _ rfl
  have a1 := cells_of_blk K9c.out 1 _ rfl
  have a2 := cells_of_blk K9c.out 2 _ rfl
  have a3 := cells_of_blk K9c.out 3 _ rfl
  have a4 := cells_of_blk K9c.out 4 _ rfl
  have hs9 : w.heap.size < w9.heap.size := (Array.getElem?_eq_some_iff.1 K9c.out).1
  clear hb
  clear a0 a1 a2 a3 a4
  have hs := (Array.getElem?_eq_some_iff.1 K9.out).1
  have a0 := cells_of_blk K9.out 0 _ rfl
  have a1 := cells_of_blk K9.out 1 _ rfl
  have a2 := cells_of_blk K9.out 2 _ rfl
  have a3 := cells_of_blk K9.out 3 _ rfl
  have a4 := cells_of_blk K9.out 4 _ rfl
  have x4_0 := cells_of_blk X4_9.out 0 _ rfl
  have x4_1 := cells_of_blk X4_9.out 1 _ rfl
  have x4_2 := cells_of_blk X4_9.out 2 _ rfl
  have x4_3 := cells_of_blk X4_9.out 3 _ rfl
  have hx4 := (Array.getElem?_eq_some_iff.1 X4_9.out).1
  have x5_0 := cells_of_blk X5_9.out 0 _ rfl
  have x5_1 := cells_of_blk X5_9.out 1 _ rfl
  have x5_2 := cells_of_blk X5_9.out 2 _ rfl
  have x5_3 := cells_of_blk X5_9.out 3 _ rfl
  have x5_4 := cells_of_blk X5_9.out 4 _ rfl
  have x5_5 := cells_of_blk X5_9.out 5 _ rfl
  have hx5 := (Array.getElem?_eq_some_iff.1 X5_9.out).1
  have x7_0 := cells_of_blk X7_9.out 0 _ rfl
  have x7_1 := cells_of_blk X7_9.out 1 _ rfl
  have x7_2 := cells_of_blk X7_9.out 2 _ rfl
  have x7_3 := cells_of_blk X7_9.out 3 _ rfl
  have hx7 := (Array.getElem?_eq_some_iff.1 X7_9.out).1
  have x8_0 := cells_of_blk X8_9.out 0 _ rfl
  have x8_1 := cells_of_blk X8_9.out 1 _ rfl
  have x8_2 := cells_of_blk X8_9.out 2 _ rfl
  have x8_3 := cells_of_blk X8_9.out 3 _ rfl
  have x8_4 := cells_of_blk X8_9.out 4 _ rfl
  have x8_5 := cells_of_blk X8_9.out 5 _ rfl
  have hx8 := (Array.getElem?_eq_some_iff.1 X8_9.out).1
  have QS : Hid (∀ x : ExtOf w9, Calls _ _ _ x.w _) := fun x : ExtOf w9 => Stake_any (.agg #[vh, vs, vo, vr, .int .i64 b.n]) b acc sym s0 s1 s2 S0 x.w (B9.out.call x.below) F4 HR4 HX4
  have QR : Hid (∀ x : ExtOf w9, Calls _ _ _ x.w _) := fun x : ExtOf w9 => rStake_any (.agg #[vh, vs, vo, vr, .int .i64 b.n]) b acc sym s0 s1 s2 S0 x.w (B9.out.call x.below) F4 HX4
  have t0 : ∀ x : Int, (x == x) = true := fun x => by simp
  have tb : ∀ x : Bool, (x == x) = true := fun x => by simp
  go_wp2_with fail
  refine wp_region_ext (by kernel_rfl) (by kernel_rfl) ?_
  repeat (go_big_quiet_step (first | exact ext_call (QS.out _) | exact ext_call (QR.out _)))
  refine wpQuiet_nil ?_
  rintro wz ⟨y, rfl⟩
  have HBz := Lib.hid (HB9.out.trans (y.below.mono HB9.out.size))
  go_wp2_with fail
  go_ret
  exact ⟨rfl, HBz.out⟩
end Go.Proofs.Yteeemoknbnlopaa
