/- slices.BinarySearchFunc at stakes (printed by genBookC.py). -/
import Derived.Test.YtfkfpppiikgjbaaBookB
namespace Go.Proofs.Ytfkfpppiikgjbaa
open Go Go.RowKit
set_option linter.unusedVariables false
set_option linter.unusedSimpArgs false

def stLt (r : List Int) (kx ky : Int) : Prop := r.headD 0 < kx ∨ r.headD 0 = kx ∧ r.tail.headD 0 < ky
theorem orI_lt (a b x y : Int) : decide (orI (cmpI a x) (cmpI b y) < 0) = decide (a < x ∨ a = x ∧ b < y) := by
  refine decide_eq_decide.2 ?_
  unfold orI cmpI
  split <;> split <;> omega
theorem orI_eq (a b x y : Int) : (orI (cmpI a x) (cmpI b y) == 0) = decide (a = x ∧ b = y) := by
  rw [Bool.eq_iff_iff, beq_iff_eq, decide_eq_true_iff]
  unfold orI cmpI
  split <;> split <;> omega
set_option maxRecDepth 100000 in
set_option maxHeartbeats 2000000 in
theorem SearchStake_any (v : Value) (l : List (List Int)) (kx ky : Int) (p : Nat) (F : Bool) (w : World) (hv : Hid (RecAt w v 3 l)) (hl : l.length ≤ 1000000) (hp : p ≤ l.length) (hlt : Hid (∀ (h : Nat) (r : List Int), l[h]? = some r → (stLt r kx ky ↔ h < p))) (hF : Hid (F = match l[p]? with | some r => decide (r.headD 0 = kx ∧ r.tail.headD 0 = ky) | none => false)) :
    Calls Try.prog 101 #[v, .agg #[.int .i64 kx, .int .i64 ky], .func (.func 53) #[] #[]] w fun e w' => e = .returned (.tuple #[.int .i64 p, .bool F]) ∧ Below w.heap.size w w' := by
  obtain ⟨w1, hw1⟩ : ∃ w1, w.alloc (.cells #[.int .i64 kx, .int .i64 ky] 80) = w1 := ⟨_, rfl⟩
  have HW1 := Lib.hid hw1
  have HL : Hid (Below w.heap.size w w1) := by rw [← hw1]; exact below_alloc (Below.refl _ _) (Nat.le_refl _) _
  have HK : Hid (w1.heap[w.heap.size]? = some (.cells #[.int .i64 kx, .int .i64 ky] 80 (0, 0))) := by rw [← hw1]; exact heap_new _ _
  have hv1 := Lib.hid (hv.out.call HL.out)
  clear hw1
  obtain ⟨A, c, rfl, hi⟩ := hv1.out
  have HI := Lib.hid hi
  clear hi
  have q := Lib.hid (fun x0 x1 x2 w => byStake_any x0 x1 x2 kx ky w)
  have LK := (Array.getElem?_eq_some_iff.1 HK.out).1
  go_enter Try.func101, Try.ntmps101
  go_wp2_with fail
  rw [HW1.out]
  go_loopw [9, 10] (fun s9 s10 wr => ∃ i j : Nat, s9 = .int .i64 i ∧ s10 = .int .i64 j ∧ Hid (i ≤ p) ∧ Hid (p ≤ j) ∧ Hid (j ≤ l.length) ∧ Hid (Below w1.heap.size w1 wr)) (fun s9 s10 _ => (intOf s10).toNat - (intOf s9).toNat)
  case atStart => exact ⟨0, l.length, rfl, rfl, Nat.zero_le _, hp, Nat.le_refl _, Below.refl _ _⟩
  case round =>
    obtain ⟨i, j, rfl, rfl, hip, hpj, hjl, hB⟩ := hrel
    have hip := hip.out
    have hpj := hpj.out
    have hjl := hjl.out
    by_cases hij : i < j
    · have t0 : decide ((i : Int) < (j : Int)) = true := decide_eq_true (by omega)
      obtain ⟨h, hh⟩ : ∃ h, (i + j) / 2 = h := ⟨_, rfl⟩
      have hh1 : i ≤ h ∧ h < j := by omega
      have hge : l[h]? = some l[h] := List.getElem?_eq_getElem (by omega)
      obtain ⟨hk, b0, o0, rfl, hbl, hc⟩ := HI.out h _ hge
      have hs := Lib.hid (hlt.out h _ hge)
      clear hge
      generalize l[h] = r at *
      obtain ⟨x0, x1, x2, rfl⟩ : ∃ x0 x1 x2, r = [x0, x1, x2] := by
        match r, hk with
        | [x0, x1, x2], _ => exact ⟨x0, x1, x2, rfl⟩
      have hs : Hid (x0 < kx ∨ x0 = kx ∧ x1 < ky ↔ h < p) := hs
      have c0 := (hB.out.cell (p := ⟨b0, o0 + h * 3, none⟩) hbl).trans (hc 0 _ rfl)
      have c1 := (hB.out.cell (p := ⟨b0, o0 + h * 3 + 1, none⟩) hbl).trans (hc 1 _ rfl)
      have c2 := (hB.out.cell (p := ⟨b0, o0 + h * 3 + 2, none⟩) hbl).trans (hc 2 _ rfl)
      have eh : ((i : Int) + (j : Int)) / 2 = (h : Int) := by omega
      clear hc hk
      have g0 : ∀ x : ExtOf wr, x.w.cell? ⟨w.heap.size, 0, none⟩ = some (.int .i64 kx) := fun x => (x.below.cell (p := ⟨w.heap.size, 0, none⟩) (Nat.lt_of_lt_of_le LK hB.out.size)).trans ((hB.out.cell (p := ⟨w.heap.size, 0, none⟩) LK).trans (cells_of_blk HK.out 0 _ rfl))
      have g1 : ∀ x : ExtOf wr, x.w.cell? ⟨w.heap.size, 1, none⟩ = some (.int .i64 ky) := fun x => (x.below.cell (p := ⟨w.heap.size, 1, none⟩) (Nat.lt_of_lt_of_le LK hB.out.size)).trans ((hB.out.cell (p := ⟨w.heap.size, 1, none⟩) LK).trans (cells_of_blk HK.out 1 _ rfl))
      have d0 : ∀ x : ExtOf wr, x.w.cell? ⟨b0, o0 + h * 3, none⟩ = some (.int .i64 x0) := fun x => (x.below.cell (p := ⟨b0, o0 + h * 3, none⟩) (Nat.lt_of_lt_of_le hbl hB.out.size)).trans c0
      have d1 : ∀ x : ExtOf wr, x.w.cell? ⟨b0, o0 + h * 3 + 1, none⟩ = some (.int .i64 x1) := fun x => (x.below.cell (p := ⟨b0, o0 + h * 3 + 1, none⟩) (Nat.lt_of_lt_of_le hbl hB.out.size)).trans c1
      have d2 : ∀ x : ExtOf wr, x.w.cell? ⟨b0, o0 + h * 3 + 2, none⟩ = some (.int .i64 x2) := fun x => (x.below.cell (p := ⟨b0, o0 + h * 3 + 2, none⟩) (Nat.lt_of_lt_of_le hbl hB.out.size)).trans c2
      clear c0 c1 c2
      have qq := Lib.hid (fun w => q.out x0 x1 x2 w)
      obtain ⟨CC, hCC⟩ : ∃ CC, orI (cmpI x0 kx) (cmpI x1 ky) = CC := ⟨_, rfl⟩
      have HCC := Lib.hid hCC
      rw [hCC] at qq
      clear hCC
      go_wp2_with fail
      refine wp_region_ext (by kernel_rfl) (by kernel_rfl) ?_
      repeat (go_big_quiet_step (with_reducible exact ext_call (qq.out _)))
      refine wpQuiet_nil ?_
      rintro w2 ⟨y, rfl⟩
      have HB2 : Hid (Below w1.heap.size w1 y.w) := hB.out.trans (y.below.mono hB.out.size)
      clear g0 g1 d0 d1 d2
      have tt := orI_lt x0 x1 kx ky
      rw [HCC.out] at tt
      by_cases hx : x0 < kx ∨ x0 = kx ∧ x1 < ky
      · have t1 : decide (CC < 0) = true := tt.trans (decide_eq_true hx)
        have t3 : CC < 0 := of_decide_eq_true t1
        have hhp := hs.out.1 hx
        clear tt hx
        go_wp2_with fail
        go_roundw
        case rel => exact ⟨h + 1, j, by go_num, rfl, by show _ ≤ _; omega, hpj, hjl, HB2.out⟩
        case measure => simp [intOf]; omega
      · have t1 : decide (CC < 0) = false := tt.trans (decide_eq_false hx)
        have t3 : 0 ≤ CC := by have := of_decide_eq_false t1; omega
        have hhp : ¬ h < p := fun h2 => hx (hs.out.2 h2)
        clear tt hx
        go_wp2_with fail
        go_roundw
        case rel => exact ⟨i, h, rfl, rfl, hip, by show _ ≤ _; omega, by show _ ≤ _; omega, HB2.out⟩
        case measure => simp [intOf]; omega
    · obtain rfl : i = p := by omega
      obtain rfl : j = i := by omega
      have t0 : decide ((j : Int) < (j : Int)) = false := decide_eq_false (by omega)
      by_cases hjn : j < l.length
      · have t1 : decide ((j : Int) < (l.length : Int)) = true := decide_eq_true (by omega)
        have hge : l[j]? = some l[j] := List.getElem?_eq_getElem hjn
        obtain ⟨hk, b0, o0, rfl, hbl, hc⟩ := HI.out j _ hge
        rw [hge] at hF
        clear hge
        generalize l[j] = r at *
        obtain ⟨x0, x1, x2, rfl⟩ : ∃ x0 x1 x2, r = [x0, x1, x2] := by
          match r, hk with
          | [x0, x1, x2], _ => exact ⟨x0, x1, x2, rfl⟩
        have hF : Hid (F = decide (x0 = kx ∧ x1 = ky)) := hF
        have c0 := (hB.out.cell (p := ⟨b0, o0 + j * 3, none⟩) hbl).trans (hc 0 _ rfl)
        have c1 := (hB.out.cell (p := ⟨b0, o0 + j * 3 + 1, none⟩) hbl).trans (hc 1 _ rfl)
        have c2 := (hB.out.cell (p := ⟨b0, o0 + j * 3 + 2, none⟩) hbl).trans (hc 2 _ rfl)
        clear hc hk
        have g0 : ∀ x : ExtOf wr, x.w.cell? ⟨w.heap.size, 0, none⟩ = some (.int .i64 kx) := fun x => (x.below.cell (p := ⟨w.heap.size, 0, none⟩) (Nat.lt_of_lt_of_le LK hB.out.size)).trans ((hB.out.cell (p := ⟨w.heap.size, 0, none⟩) LK).trans (cells_of_blk HK.out 0 _ rfl))
        have g1 : ∀ x : ExtOf wr, x.w.cell? ⟨w.heap.size, 1, none⟩ = some (.int .i64 ky) := fun x => (x.below.cell (p := ⟨w.heap.size, 1, none⟩) (Nat.lt_of_lt_of_le LK hB.out.size)).trans ((hB.out.cell (p := ⟨w.heap.size, 1, none⟩) LK).trans (cells_of_blk HK.out 1 _ rfl))
        have d0 : ∀ x : ExtOf wr, x.w.cell? ⟨b0, o0 + j * 3, none⟩ = some (.int .i64 x0) := fun x => (x.below.cell (p := ⟨b0, o0 + j * 3, none⟩) (Nat.lt_of_lt_of_le hbl hB.out.size)).trans c0
        have d1 : ∀ x : ExtOf wr, x.w.cell? ⟨b0, o0 + j * 3 + 1, none⟩ = some (.int .i64 x1) := fun x => (x.below.cell (p := ⟨b0, o0 + j * 3 + 1, none⟩) (Nat.lt_of_lt_of_le hbl hB.out.size)).trans c1
        have d2 : ∀ x : ExtOf wr, x.w.cell? ⟨b0, o0 + j * 3 + 2, none⟩ = some (.int .i64 x2) := fun x => (x.below.cell (p := ⟨b0, o0 + j * 3 + 2, none⟩) (Nat.lt_of_lt_of_le hbl hB.out.size)).trans c2
        clear c0 c1 c2
        have qq := Lib.hid (fun w => q.out x0 x1 x2 w)
        obtain ⟨CC, hCC⟩ : ∃ CC, orI (cmpI x0 kx) (cmpI x1 ky) = CC := ⟨_, rfl⟩
        have HCC := Lib.hid hCC
        rw [hCC] at qq
        clear hCC
        go_wp2_with fail
        refine wp_region_ext (by kernel_rfl) (by kernel_rfl) ?_
        repeat (go_big_quiet_step (with_reducible exact ext_call (qq.out _)))
        refine wpQuiet_nil ?_
        rintro w2 ⟨y, rfl⟩
        have HB2 : Hid (Below w1.heap.size w1 y.w) := hB.out.trans (y.below.mono hB.out.size)
        clear g0 g1 d0 d1 d2
        have tt := orI_eq x0 x1 kx ky
        rw [HCC.out] at tt
        rw [← hF.out] at tt
        go_wp2_with fail
        go_ret2
        exact ⟨by show Ending.returned (.tuple #[.int .i64 j, .bool (CC == 0)]) = _; rw [tt], HL.out.trans (HB2.out.mono HL.out.size)⟩
      · have t1 : decide ((j : Int) < (l.length : Int)) = false := decide_eq_false (by omega)
        have hF : Hid (F = false) := by
          show F = false
          rw [hF.out, List.getElem?_eq_none (by omega)]
        obtain rfl : F = false := hF.out
        go_wp2_with fail
        go_quiet (fail)
        go_wp2_with fail
        go_ret2
        exact ⟨rfl, HL.out.trans ((below_drewN hB.out _).mono HL.out.size)⟩

end Go.Proofs.Ytfkfpppiikgjbaa
