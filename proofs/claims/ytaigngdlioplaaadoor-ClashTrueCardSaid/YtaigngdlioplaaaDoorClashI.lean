/- The walk of ClashTrue (printed by genClashI.py). -/
import Derived.Test.YtaigngdlioplaaaDoorClashG
namespace Go.Proofs.YtaigngdlioplaaaDoor
open Go Go.RowKit
set_option linter.unusedVariables false
set_option linter.unusedSimpArgs false

set_option maxRecDepth 100000 in
set_option maxHeartbeats 4000000 in
theorem ClashTrue_true1 (va vb : Value) (a b : List ByteArray) (n : Int) (mm : Nat) (w : World) (hT : Hid (ShaT w (nth kList) hSt)) (ha : Hid (StrsAt w va a)) (hb' : Hid (StrsAt w vb b)) (hla : a.length ≤ 9223372036854775807) (hlb : b.length ≤ 9223372036854775807) (hza : Hid (∀ (i : Nat) (s : ByteArray), a[i]? = some s → s.size ≤ 9223372036854775807)) (hzb : Hid (∀ (i : Nat) (s : ByteArray), b[i]? = some s → s.size ≤ 9223372036854775807)) (hn0 : 0 ≤ n) (hn1 : n ≤ 255) (e1 : n.tmod 32 = (mm : Int)) (hmm : mm < 32) (hl : ¬ a.length = b.length) :
    Calls Tryd.prog 11 #[va, vb, .int .u8 n, .bool true] w fun e w' => e = .returned (.bool true) ∧ Below w.heap.size w w' := by
  have a0 := Lib.hid (alive04 w hT)
  have qGa := Lib.hid (fun w h => Great_any va a w h hla hza)
  have qGb := Lib.hid (fun w h => Great_any vb b w h hlb hzb)
  have hks := Lib.hid key72_size
  have hon := Lib.hid key72_one
  have qK := Lib.hid (fun w => MakeKey_any w)
  have u5 : ((a.length : Int) != (b.length : Int)) = true := by simp; omega
  have u7 : ((a.length : Int) == (b.length : Int)) = false := by rw [beq_eq_false_iff_ne]; omega
  obtain ⟨A1, c1, rfl, _, _⟩ := ha.out
  obtain ⟨A2, c2, rfl, _, _⟩ := hb'.out
  generalize nth kList = K at *
  generalize hSt = H at *
  generalize key72 = KA at *
  clear hl hza hzb
  generalize hka : a.length = ka at *
  generalize hkb : b.length = kb at *
  have HKA := Lib.hid hka
  clear hka hkb
  go_enter Tryd.func11, Tryd.ntmps11
  go_wp2_with fail
  refine a0.out.mono ?_
  rintro e w1 ⟨rfl, hb⟩
  have HB1 := Lib.hid hb
  have hT1 := Lib.hid (hT.out.call hb)
  have ha1 := Lib.hid (ha.out.call hb)
  have hb1 := Lib.hid (hb'.out.call hb)
  clear hb
  go_wp2_with fail
  refine (qGa.out _ ha1).mono ?_
  rintro e w2 ⟨⟨g, rfl, hgf⟩, rfl⟩
  cases g with
  | true =>
    clear hgf
    go_wp2_with fail
    go_ret
    exact ⟨rfl, HB1.out⟩
  | false =>
    have HFa := Lib.hid (fine_of (hgf rfl).2)
    have h40 : ka ≤ 40 := (hgf rfl).1
    clear hgf
    go_wp2_with fail
    refine (qGb.out _ hb1).mono ?_
    rintro e w2 ⟨⟨gb, rfl, hgf⟩, rfl⟩
    cases gb with
    | true =>
      clear hgf
      go_wp2_with fail
      go_ret
      exact ⟨rfl, HB1.out⟩
    | false =>
      have HFb := Lib.hid (fine_of (hgf rfl).2)
      clear hgf
      go_wp2_with fail
      go_ret
      exact ⟨rfl, HB1.out⟩

set_option maxRecDepth 100000 in
set_option maxHeartbeats 4000000 in
theorem ClashTrue_true2 (va vb : Value) (a b : List ByteArray) (n : Int) (mm : Nat) (w : World) (hT : Hid (ShaT w (nth kList) hSt)) (ha : Hid (StrsAt w va a)) (hb' : Hid (StrsAt w vb b)) (hla : a.length ≤ 9223372036854775807) (hlb : b.length ≤ 9223372036854775807) (hza : Hid (∀ (i : Nat) (s : ByteArray), a[i]? = some s → s.size ≤ 9223372036854775807)) (hzb : Hid (∀ (i : Nat) (s : ByteArray), b[i]? = some s → s.size ≤ 9223372036854775807)) (hn0 : 0 ≤ n) (hn1 : n ≤ 255) (e1 : n.tmod 32 = (mm : Int)) (hmm : mm < 32) (hl : a.length = b.length) (hh : ¬ chainS (nth kList) hSt ((1 + mm : Nat) : Int) a = chainS (nth kList) hSt ((1 + mm : Nat) : Int) b) :
    Calls Tryd.prog 11 #[va, vb, .int .u8 n, .bool true] w fun e w' => e = .returned (.bool true) ∧ Below w.heap.size w w' := by
  have a0 := Lib.hid (alive04 w hT)
  have qGa := Lib.hid (fun w h => Great_any va a w h hla hza)
  have qGb := Lib.hid (fun w h => Great_any vb b w h hlb hzb)
  have hks := Lib.hid key72_size
  have hon := Lib.hid key72_one
  have qK := Lib.hid (fun w => MakeKey_any w)
  have hm : Hid (1 ≤ 1 + mm ∧ 1 + mm ≤ 32) := by show _ ∧ _; omega
  have hcast : ((1 + mm : Nat) : Int) = 1 + (mm : Int) := by omega
  have qRa := Lib.hid (fun w h hF (h4 : a.length ≤ 4096) => rHash_any (1 + mm) hm (a.length) a rfl hF h4 va w h)
  have qRb := Lib.hid (fun w h hF (h4 : b.length ≤ 4096) => rHash_any (1 + mm) hm (b.length) b rfl hF h4 vb w h)
  have hbn : ((chainS (nth kList) hSt ((1 + mm : Nat) : Int) a).toList == (chainS (nth kList) hSt ((1 + mm : Nat) : Int) b).toList) = false := strs_ne hh
  generalize chainS (nth kList) hSt ((1 + mm : Nat) : Int) a = RA at *
  generalize chainS (nth kList) hSt ((1 + mm : Nat) : Int) b = RB at *
  rw [hcast] at qRa qRb
  obtain ⟨A1, c1, rfl, _, _⟩ := ha.out
  obtain ⟨A2, c2, rfl, _, _⟩ := hb'.out
  generalize nth kList = K at *
  generalize hSt = H at *
  generalize key72 = KA at *
  have Hl := Lib.hid hl
  rw [← hl] at qGb hb' qRb ⊢
  clear hh hl hza hzb hcast
  generalize hka : a.length = ka at *
  have HKA := Lib.hid hka
  clear hka
  go_enter Tryd.func11, Tryd.ntmps11
  go_wp2_with fail
  refine a0.out.mono ?_
  rintro e w1 ⟨rfl, hb⟩
  have HB1 := Lib.hid hb
  have hT1 := Lib.hid (hT.out.call hb)
  have ha1 := Lib.hid (ha.out.call hb)
  have hb1 := Lib.hid (hb'.out.call hb)
  clear hb
  go_wp2_with fail
  refine (qGa.out _ ha1).mono ?_
  rintro e w2 ⟨⟨g, rfl, hgf⟩, rfl⟩
  cases g with
  | true =>
    clear hgf
    go_wp2_with fail
    go_ret
    exact ⟨rfl, HB1.out⟩
  | false =>
    have HFa := Lib.hid (fine_of (hgf rfl).2)
    have h40 : ka ≤ 40 := (hgf rfl).1
    clear hgf
    go_wp2_with fail
    refine (qGb.out _ hb1).mono ?_
    rintro e w2 ⟨⟨gb, rfl, hgf⟩, rfl⟩
    cases gb with
    | true =>
      clear hgf
      go_wp2_with fail
      go_ret
      exact ⟨rfl, HB1.out⟩
    | false =>
      have HFb := Lib.hid (fine_of (hgf rfl).2)
      clear hgf
      have g4 : ka ≤ 4096 := by omega
      go_wp2_with fail
      refine (qK.out _).mono ?_
      rintro e w5 ⟨rfl, hb⟩
      have HB5 := Lib.hid (HB1.out.trans (hb.mono HB1.out.size))
      have hT5 := Lib.hid (hT1.out.call hb)
      clear hb
      go_wp2_with (
        refine wpList_store_rowTo rfl 37 (.tmp 10) (.tmp 33) rfl rfl w5.heap.size KA rfl rfl 37 _ (blk_new w5 _ _ rfl) (by rw [hks.out]; kernel_rfl) (by rw [hks.out]; rfl) hon.out ?_
        obtain ⟨w6, hw6⟩ : ∃ w6, (w5.alloc (.cells Tryd.zeroCells37 37)).setRow w5.heap.size KA = w6 := ⟨_, rfl⟩
        have HK6 : Hid (w6.heap[w5.heap.size]? = some (.cells KA 37 (0, 0))) := by rw [← hw6]; exact setRow_heap _ _ _ _ _ _ (blk_new w5 _ _ rfl)
        have HB6 : Hid (Below w.heap.size w w6) := by rw [← hw6]; exact below_setRow (below_alloc HB5.out HB5.out.size _) HB5.out.size _
        rw [hw6]
        clear hw6)
      have hlt : w5.heap.size < w6.heap.size := (Array.getElem?_eq_some_iff.1 HK6.out).1
      have hkey : Hid (∀ w2, Below w6.heap.size w6 w2 → ∀ x : ExtOf w2, (loadVar 37 ⟨w5.heap.size, 0, none⟩).run Tryd.prog x.w = .ok (.agg KA) x.w) := fun w2 hb2 x =>
        run_loadVar_row x.w w5.heap.size 37 37 KA (0, 0) _ ((x.below.block _ (by have := hb2.size; omega)).trans ((hb2.block _ hlt).trans HK6.out)) Tryd.underlying37 rfl (by rw [hks.out]; kernel_rfl)
      have HB56 : Hid (Below w.heap.size w w6) := HB6
      have ha6 := Lib.hid (ha.out.call HB6.out)
      have hb6 := Lib.hid (hb'.out.call HB6.out)
      have hT6 := Lib.hid (hT.out.call HB6.out)
      have qE1 := Lib.hid (fun (x : ExtOf w6) => qRa.out x.w (Lib.hid (ha6.out.call x.below)) HFa g4)
      have qE2 := Lib.hid (fun (x : ExtOf w6) => qRb.out x.w (Lib.hid (hb6.out.call x.below)) HFb g4)
      refine wp_region_ext (by kernel_rfl) (by kernel_rfl) ?_
      iterate 2 (go_big_quiet_step (first | (with_reducible exact ext_call (qE1.out _)) | (with_reducible exact ext_call (qE2.out _))))
      refine BigFrame.wpQuiet_want rfl fun K hK => ?_
      refine quiet_load_row 37 (.tmp 10) rfl w5.heap.size rfl KA (by rintro wz ⟨x, rfl⟩; exact hkey.out w6 (Below.refl _ _) x) (hK _ ?_)
      clear hK K
      simp only [Act.put, List.setIfInBounds_toArray, List.set_cons_succ, List.set_cons_zero]
      iterate 3 (go_big_quiet_step (first | (with_reducible exact ext_call (qE1.out _)) | (with_reducible exact ext_call (qE2.out _))))
      refine BigFrame.wpQuiet_want rfl fun K hK => ?_
      refine quiet_load_row 37 (.tmp 10) rfl w5.heap.size rfl KA (by rintro wz ⟨x, rfl⟩; exact hkey.out w6 (Below.refl _ _) x) (hK _ ?_)
      clear hK K
      simp only [Act.put, List.setIfInBounds_toArray, List.set_cons_succ, List.set_cons_zero]
      repeat (go_big_quiet_step (first | (with_reducible exact ext_call (qE1.out _)) | (with_reducible exact ext_call (qE2.out _))))
      refine wpQuiet_nil ?_
      rintro w' ⟨y, rfl⟩
      have HB8 := Lib.hid y.below
      have HB9 := Lib.hid (HB6.out.trans (y.below.mono HB6.out.size))
      have ha9 := Lib.hid (ha6.out.call y.below)
      have hb9 := Lib.hid (hb6.out.call y.below)
      have hT9 := Lib.hid (hT6.out.call y.below)
      generalize y.w = w9 at *
      clear y qE1 qE2
      go_wp2_with fail
      go_ret
      exact ⟨rfl, HB9.out⟩

set_option maxRecDepth 100000 in
set_option maxHeartbeats 4000000 in
theorem ClashTrue_true3 (va vb : Value) (a b : List ByteArray) (n : Int) (mm : Nat) (w : World) (hT : Hid (ShaT w (nth kList) hSt)) (ha : Hid (StrsAt w va a)) (hb' : Hid (StrsAt w vb b)) (hla : a.length ≤ 9223372036854775807) (hlb : b.length ≤ 9223372036854775807) (hza : Hid (∀ (i : Nat) (s : ByteArray), a[i]? = some s → s.size ≤ 9223372036854775807)) (hzb : Hid (∀ (i : Nat) (s : ByteArray), b[i]? = some s → s.size ≤ 9223372036854775807)) (hn0 : 0 ≤ n) (hn1 : n ≤ 255) (e1 : n.tmod 32 = (mm : Int)) (hmm : mm < 32) (hl : a.length = b.length) (hh : chainS (nth kList) hSt ((1 + mm : Nat) : Int) a = chainS (nth kList) hSt ((1 + mm : Nat) : Int) b) (hab : a = b) :
    Calls Tryd.prog 11 #[va, vb, .int .u8 n, .bool true] w fun e w' => e = .returned (.bool true) ∧ Below w.heap.size w w' := by
  have a0 := Lib.hid (alive04 w hT)
  have qGa := Lib.hid (fun w h => Great_any va a w h hla hza)
  have qGb := Lib.hid (fun w h => Great_any vb b w h hlb hzb)
  have hks := Lib.hid key72_size
  have hon := Lib.hid key72_one
  have qK := Lib.hid (fun w => MakeKey_any w)
  have hm : Hid (1 ≤ 1 + mm ∧ 1 + mm ≤ 32) := by show _ ∧ _; omega
  have hcast : ((1 + mm : Nat) : Int) = 1 + (mm : Int) := by omega
  have qRa := Lib.hid (fun w h hF (h4 : a.length ≤ 4096) => rHash_any (1 + mm) hm (a.length) a rfl hF h4 va w h)
  have qRb := Lib.hid (fun w h hF (h4 : b.length ≤ 4096) => rHash_any (1 + mm) hm (b.length) b rfl hF h4 vb w h)
  have qF := Lib.hid (fun w hT h1 h2 h3 h4' h4 h5 => Find_in (nth kList) hSt (1 + mm) hm a b va vb w hT h1 h2 h3 h4' h4 h5)
  have qS := Lib.hid (fun w h1 h2 => Same_any va vb a b w h1 h2 hla)
  rw [decide_eq_true hab] at qS
  have qC := Lib.hid (fun w hT h1 h2 h3 h4' h4 h5 => Chain_in (nth kList) hSt (1 + mm) hm a b va vb w hT h1 h2 h3 h4' h4 h5)
  rw [show chainV (nth kList) hSt (1 + mm) a b = (⟨#[]⟩, ⟨#[]⟩, 7) by unfold chainV foundS; rw [if_pos ⟨hl, hh⟩, if_pos hab]] at qC
  simp only [] at qC
  rw [← hh] at qRb
  have hbn : ((chainS (nth kList) hSt ((1 + mm : Nat) : Int) a).toList != (chainS (nth kList) hSt ((1 + mm : Nat) : Int) a).toList) = false := by simp
  generalize chainS (nth kList) hSt ((1 + mm : Nat) : Int) a = RA at *
  generalize findS (nth kList) hSt (1 + mm) a b = FV at *
  obtain ⟨f1, f2, f3⟩ := FV
  simp only [] at qF
  rw [hcast] at qRa qRb qF qC
  obtain ⟨A1, c1, rfl, _, _⟩ := ha.out
  obtain ⟨A2, c2, rfl, _, _⟩ := hb'.out
  generalize nth kList = K at *
  generalize hSt = H at *
  generalize key72 = KA at *
  have Hl := Lib.hid hl
  rw [← hl] at qGb hb' qRb qS qF qC ⊢
  clear hh hl hza hzb hcast
  generalize hka : a.length = ka at *
  have HKA := Lib.hid hka
  clear hka
  go_enter Tryd.func11, Tryd.ntmps11
  go_wp2_with fail
  refine a0.out.mono ?_
  rintro e w1 ⟨rfl, hb⟩
  have HB1 := Lib.hid hb
  have hT1 := Lib.hid (hT.out.call hb)
  have ha1 := Lib.hid (ha.out.call hb)
  have hb1 := Lib.hid (hb'.out.call hb)
  clear hb
  go_wp2_with fail
  refine (qGa.out _ ha1).mono ?_
  rintro e w2 ⟨⟨g, rfl, hgf⟩, rfl⟩
  cases g with
  | true =>
    clear hgf
    go_wp2_with fail
    go_ret
    exact ⟨rfl, HB1.out⟩
  | false =>
    have HFa := Lib.hid (fine_of (hgf rfl).2)
    have h40 : ka ≤ 40 := (hgf rfl).1
    clear hgf
    go_wp2_with fail
    refine (qGb.out _ hb1).mono ?_
    rintro e w2 ⟨⟨gb, rfl, hgf⟩, rfl⟩
    cases gb with
    | true =>
      clear hgf
      go_wp2_with fail
      go_ret
      exact ⟨rfl, HB1.out⟩
    | false =>
      have HFb := Lib.hid (fine_of (hgf rfl).2)
      clear hgf
      have g4 : ka ≤ 4096 := by omega
      go_wp2_with fail
      refine (qK.out _).mono ?_
      rintro e w5 ⟨rfl, hb⟩
      have HB5 := Lib.hid (HB1.out.trans (hb.mono HB1.out.size))
      have hT5 := Lib.hid (hT1.out.call hb)
      clear hb
      go_wp2_with (
        refine wpList_store_rowTo rfl 37 (.tmp 10) (.tmp 33) rfl rfl w5.heap.size KA rfl rfl 37 _ (blk_new w5 _ _ rfl) (by rw [hks.out]; kernel_rfl) (by rw [hks.out]; rfl) hon.out ?_
        obtain ⟨w6, hw6⟩ : ∃ w6, (w5.alloc (.cells Tryd.zeroCells37 37)).setRow w5.heap.size KA = w6 := ⟨_, rfl⟩
        have HK6 : Hid (w6.heap[w5.heap.size]? = some (.cells KA 37 (0, 0))) := by rw [← hw6]; exact setRow_heap _ _ _ _ _ _ (blk_new w5 _ _ rfl)
        have HB6 : Hid (Below w.heap.size w w6) := by rw [← hw6]; exact below_setRow (below_alloc HB5.out HB5.out.size _) HB5.out.size _
        rw [hw6]
        clear hw6)
      have hlt : w5.heap.size < w6.heap.size := (Array.getElem?_eq_some_iff.1 HK6.out).1
      have hkey : Hid (∀ w2, Below w6.heap.size w6 w2 → ∀ x : ExtOf w2, (loadVar 37 ⟨w5.heap.size, 0, none⟩).run Tryd.prog x.w = .ok (.agg KA) x.w) := fun w2 hb2 x =>
        run_loadVar_row x.w w5.heap.size 37 37 KA (0, 0) _ ((x.below.block _ (by have := hb2.size; omega)).trans ((hb2.block _ hlt).trans HK6.out)) Tryd.underlying37 rfl (by rw [hks.out]; kernel_rfl)
      have HB56 : Hid (Below w.heap.size w w6) := HB6
      have ha6 := Lib.hid (ha.out.call HB6.out)
      have hb6 := Lib.hid (hb'.out.call HB6.out)
      have hT6 := Lib.hid (hT.out.call HB6.out)
      have qE1 := Lib.hid (fun (x : ExtOf w6) => qRa.out x.w (Lib.hid (ha6.out.call x.below)) HFa g4)
      have qE2 := Lib.hid (fun (x : ExtOf w6) => qRb.out x.w (Lib.hid (hb6.out.call x.below)) HFb g4)
      refine wp_region_ext (by kernel_rfl) (by kernel_rfl) ?_
      iterate 2 (go_big_quiet_step (first | (with_reducible exact ext_call (qE1.out _)) | (with_reducible exact ext_call (qE2.out _))))
      refine BigFrame.wpQuiet_want rfl fun K hK => ?_
      refine quiet_load_row 37 (.tmp 10) rfl w5.heap.size rfl KA (by rintro wz ⟨x, rfl⟩; exact hkey.out w6 (Below.refl _ _) x) (hK _ ?_)
      clear hK K
      simp only [Act.put, List.setIfInBounds_toArray, List.set_cons_succ, List.set_cons_zero]
      iterate 3 (go_big_quiet_step (first | (with_reducible exact ext_call (qE1.out _)) | (with_reducible exact ext_call (qE2.out _))))
      refine BigFrame.wpQuiet_want rfl fun K hK => ?_
      refine quiet_load_row 37 (.tmp 10) rfl w5.heap.size rfl KA (by rintro wz ⟨x, rfl⟩; exact hkey.out w6 (Below.refl _ _) x) (hK _ ?_)
      clear hK K
      simp only [Act.put, List.setIfInBounds_toArray, List.set_cons_succ, List.set_cons_zero]
      repeat (go_big_quiet_step (first | (with_reducible exact ext_call (qE1.out _)) | (with_reducible exact ext_call (qE2.out _))))
      refine wpQuiet_nil ?_
      rintro w' ⟨y, rfl⟩
      have HB8 := Lib.hid y.below
      have HB9 := Lib.hid (HB6.out.trans (y.below.mono HB6.out.size))
      have ha9 := Lib.hid (ha6.out.call y.below)
      have hb9 := Lib.hid (hb6.out.call y.below)
      have hT9 := Lib.hid (hT6.out.call y.below)
      generalize y.w = w9 at *
      clear y qE1 qE2
      go_wp2_with fail
      with_reducible refine (qF.out _ hT9 ha9 hb9 HFa HFb g4 g4).mono ?_
      rintro e w10 ⟨rfl, hb⟩
      have HB10 := Lib.hid (HB9.out.trans (hb.mono HB9.out.size))
      have HC10 := Lib.hid (HB8.out.trans (hb.mono HB8.out.size))
      have hT10 := Lib.hid (hT9.out.call hb)
      have ha10 := Lib.hid (ha9.out.call hb)
      have hb10 := Lib.hid (hb9.out.call hb)
      clear hb
      go_wp2_with fail
      with_reducible refine (qC.out _ hT10 ha10 hb10 HFa HFb g4 g4).mono ?_
      rintro e w11 ⟨rfl, hb⟩
      have HB11 := Lib.hid (HB10.out.trans (hb.mono HB10.out.size))
      have HC11 := Lib.hid (HC10.out.trans (hb.mono HC10.out.size))
      have ha11 := Lib.hid (ha10.out.call hb)
      have hb11 := Lib.hid (hb10.out.call hb)
      clear hb
      go_wp2_with fail
      with_reducible refine (qS.out _ ha11 hb11).mono ?_
      rintro e w12 ⟨rfl, hb⟩
      have HB12 := Lib.hid (HB11.out.trans (hb.mono HB11.out.size))
      have HC12 := Lib.hid (HC11.out.trans (hb.mono HC11.out.size))
      clear hb
      go_wp2_with fail
      go_ret
      exact ⟨rfl, HB12.out⟩

set_option maxRecDepth 100000 in
set_option maxHeartbeats 4000000 in
theorem ClashTrue_true4 (va vb : Value) (a b : List ByteArray) (n : Int) (mm : Nat) (w : World) (hT : Hid (ShaT w (nth kList) hSt)) (ha : Hid (StrsAt w va a)) (hb' : Hid (StrsAt w vb b)) (hla : a.length ≤ 9223372036854775807) (hlb : b.length ≤ 9223372036854775807) (hza : Hid (∀ (i : Nat) (s : ByteArray), a[i]? = some s → s.size ≤ 9223372036854775807)) (hzb : Hid (∀ (i : Nat) (s : ByteArray), b[i]? = some s → s.size ≤ 9223372036854775807)) (hn0 : 0 ≤ n) (hn1 : n ≤ 255) (e1 : n.tmod 32 = (mm : Int)) (hmm : mm < 32) (hl : a.length = b.length) (hh : chainS (nth kList) hSt ((1 + mm : Nat) : Int) a = chainS (nth kList) hSt ((1 + mm : Nat) : Int) b) (hab : ¬ a = b) :
    Calls Tryd.prog 11 #[va, vb, .int .u8 n, .bool true] w fun e w' => e = .returned (.bool true) ∧ Below w.heap.size w w' := by
  have a0 := Lib.hid (alive04 w hT)
  have qGa := Lib.hid (fun w h => Great_any va a w h hla hza)
  have qGb := Lib.hid (fun w h => Great_any vb b w h hlb hzb)
  have hks := Lib.hid key72_size
  have hon := Lib.hid key72_one
  have qK := Lib.hid (fun w => MakeKey_any w)
  have hm : Hid (1 ≤ 1 + mm ∧ 1 + mm ≤ 32) := by show _ ∧ _; omega
  have hcast : ((1 + mm : Nat) : Int) = 1 + (mm : Int) := by omega
  have qRa := Lib.hid (fun w h hF (h4 : a.length ≤ 4096) => rHash_any (1 + mm) hm (a.length) a rfl hF h4 va w h)
  have qRb := Lib.hid (fun w h hF (h4 : b.length ≤ 4096) => rHash_any (1 + mm) hm (b.length) b rfl hF h4 vb w h)
  have qF := Lib.hid (fun w hT h1 h2 h3 h4' h4 h5 => Find_in (nth kList) hSt (1 + mm) hm a b va vb w hT h1 h2 h3 h4' h4 h5)
  have qS := Lib.hid (fun w h1 h2 => Same_any va vb a b w h1 h2 hla)
  rw [decide_eq_false hab] at qS
  have qC := Lib.hid (fun w hT h1 h2 h3 h4' h4 h5 => Chain_in (nth kList) hSt (1 + mm) hm a b va vb w hT h1 h2 h3 h4' h4 h5)
  rw [show chainV (nth kList) hSt (1 + mm) a b = ((clashC (nth kList) hSt ((1 + mm : Nat) : Int) a b a.length).1, (clashC (nth kList) hSt ((1 + mm : Nat) : Int) a b a.length).2, 0) by unfold chainV foundS; rw [if_pos ⟨hl, hh⟩, if_neg hab]] at qC
  simp only [] at qC
  have hct : Hid (Fine a → Fine b → ¬ (clashC (nth kList) hSt ((1 + mm : Nat) : Int) a b a.length).1 = (clashC (nth kList) hSt ((1 + mm : Nat) : Int) a b a.length).2 ∧ cutS (nth kList) hSt (clashC (nth kList) hSt ((1 + mm : Nat) : Int) a b a.length).1 ((1 + mm : Nat) : Int) = cutS (nth kList) hSt (clashC (nth kList) hSt ((1 + mm : Nat) : Int) a b a.length).2 ((1 + mm : Nat) : Int) ∧ (clashC (nth kList) hSt ((1 + mm : Nat) : Int) a b a.length).1.size ≤ 500 ∧ (clashC (nth kList) hSt ((1 + mm : Nat) : Int) a b a.length).2.size ≤ 500) := fun hFa hFb => by
    have h1 := clashC_true (nth kList) hSt ((1 + mm : Nat) : Int) hFa hFb hl a.length (Nat.le_refl _) (by rw [List.take_length, hl, List.take_length]; exact hab) (by rw [List.take_length, hl, List.take_length]; exact hh)
    have h2 := clashC_le (nth kList) hSt ((1 + mm : Nat) : Int) hFa hFb a.length
    exact ⟨h1.1, h1.2, h2.1, h2.2⟩
  have qQ := Lib.hid (fun (s : ByteArray) w (hs : s.size ≤ 500) => rCut_any s (1 + mm) w (by show _ ≤ _; omega) hm)
  generalize (clashC (nth kList) hSt ((1 + mm : Nat) : Int) a b a.length).1 = X at *
  generalize (clashC (nth kList) hSt ((1 + mm : Nat) : Int) a b a.length).2 = Y at *
  rw [← hh] at qRb
  have hbn : ((chainS (nth kList) hSt ((1 + mm : Nat) : Int) a).toList != (chainS (nth kList) hSt ((1 + mm : Nat) : Int) a).toList) = false := by simp
  generalize chainS (nth kList) hSt ((1 + mm : Nat) : Int) a = RA at *
  generalize findS (nth kList) hSt (1 + mm) a b = FV at *
  obtain ⟨f1, f2, f3⟩ := FV
  simp only [] at qF
  rw [hcast] at qRa qRb qF qC qQ hct
  obtain ⟨A1, c1, rfl, _, _⟩ := ha.out
  obtain ⟨A2, c2, rfl, _, _⟩ := hb'.out
  generalize nth kList = K at *
  generalize hSt = H at *
  generalize key72 = KA at *
  have Hl := Lib.hid hl
  rw [← hl] at qGb hb' qRb qS qF qC ⊢
  clear hh hl hza hzb hcast
  generalize hka : a.length = ka at *
  have HKA := Lib.hid hka
  clear hka
  go_enter Tryd.func11, Tryd.ntmps11
  go_wp2_with fail
  refine a0.out.mono ?_
  rintro e w1 ⟨rfl, hb⟩
  have HB1 := Lib.hid hb
  have hT1 := Lib.hid (hT.out.call hb)
  have ha1 := Lib.hid (ha.out.call hb)
  have hb1 := Lib.hid (hb'.out.call hb)
  clear hb
  go_wp2_with fail
  refine (qGa.out _ ha1).mono ?_
  rintro e w2 ⟨⟨g, rfl, hgf⟩, rfl⟩
  cases g with
  | true =>
    clear hgf
    go_wp2_with fail
    go_ret
    exact ⟨rfl, HB1.out⟩
  | false =>
    have HFa := Lib.hid (fine_of (hgf rfl).2)
    have h40 : ka ≤ 40 := (hgf rfl).1
    clear hgf
    go_wp2_with fail
    refine (qGb.out _ hb1).mono ?_
    rintro e w2 ⟨⟨gb, rfl, hgf⟩, rfl⟩
    cases gb with
    | true =>
      clear hgf
      go_wp2_with fail
      go_ret
      exact ⟨rfl, HB1.out⟩
    | false =>
      have HFb := Lib.hid (fine_of (hgf rfl).2)
      clear hgf
      have g4 : ka ≤ 4096 := by omega
      go_wp2_with fail
      refine (qK.out _).mono ?_
      rintro e w5 ⟨rfl, hb⟩
      have HB5 := Lib.hid (HB1.out.trans (hb.mono HB1.out.size))
      have hT5 := Lib.hid (hT1.out.call hb)
      clear hb
      go_wp2_with (
        refine wpList_store_rowTo rfl 37 (.tmp 10) (.tmp 33) rfl rfl w5.heap.size KA rfl rfl 37 _ (blk_new w5 _ _ rfl) (by rw [hks.out]; kernel_rfl) (by rw [hks.out]; rfl) hon.out ?_
        obtain ⟨w6, hw6⟩ : ∃ w6, (w5.alloc (.cells Tryd.zeroCells37 37)).setRow w5.heap.size KA = w6 := ⟨_, rfl⟩
        have HK6 : Hid (w6.heap[w5.heap.size]? = some (.cells KA 37 (0, 0))) := by rw [← hw6]; exact setRow_heap _ _ _ _ _ _ (blk_new w5 _ _ rfl)
        have HB6 : Hid (Below w.heap.size w w6) := by rw [← hw6]; exact below_setRow (below_alloc HB5.out HB5.out.size _) HB5.out.size _
        rw [hw6]
        clear hw6)
      have hlt : w5.heap.size < w6.heap.size := (Array.getElem?_eq_some_iff.1 HK6.out).1
      have hkey : Hid (∀ w2, Below w6.heap.size w6 w2 → ∀ x : ExtOf w2, (loadVar 37 ⟨w5.heap.size, 0, none⟩).run Tryd.prog x.w = .ok (.agg KA) x.w) := fun w2 hb2 x =>
        run_loadVar_row x.w w5.heap.size 37 37 KA (0, 0) _ ((x.below.block _ (by have := hb2.size; omega)).trans ((hb2.block _ hlt).trans HK6.out)) Tryd.underlying37 rfl (by rw [hks.out]; kernel_rfl)
      have HB56 : Hid (Below w.heap.size w w6) := HB6
      have ha6 := Lib.hid (ha.out.call HB6.out)
      have hb6 := Lib.hid (hb'.out.call HB6.out)
      have hT6 := Lib.hid (hT.out.call HB6.out)
      have qE1 := Lib.hid (fun (x : ExtOf w6) => qRa.out x.w (Lib.hid (ha6.out.call x.below)) HFa g4)
      have qE2 := Lib.hid (fun (x : ExtOf w6) => qRb.out x.w (Lib.hid (hb6.out.call x.below)) HFb g4)
      refine wp_region_ext (by kernel_rfl) (by kernel_rfl) ?_
      iterate 2 (go_big_quiet_step (first | (with_reducible exact ext_call (qE1.out _)) | (with_reducible exact ext_call (qE2.out _))))
      refine BigFrame.wpQuiet_want rfl fun K hK => ?_
      refine quiet_load_row 37 (.tmp 10) rfl w5.heap.size rfl KA (by rintro wz ⟨x, rfl⟩; exact hkey.out w6 (Below.refl _ _) x) (hK _ ?_)
      clear hK K
      simp only [Act.put, List.setIfInBounds_toArray, List.set_cons_succ, List.set_cons_zero]
      iterate 3 (go_big_quiet_step (first | (with_reducible exact ext_call (qE1.out _)) | (with_reducible exact ext_call (qE2.out _))))
      refine BigFrame.wpQuiet_want rfl fun K hK => ?_
      refine quiet_load_row 37 (.tmp 10) rfl w5.heap.size rfl KA (by rintro wz ⟨x, rfl⟩; exact hkey.out w6 (Below.refl _ _) x) (hK _ ?_)
      clear hK K
      simp only [Act.put, List.setIfInBounds_toArray, List.set_cons_succ, List.set_cons_zero]
      repeat (go_big_quiet_step (first | (with_reducible exact ext_call (qE1.out _)) | (with_reducible exact ext_call (qE2.out _))))
      refine wpQuiet_nil ?_
      rintro w' ⟨y, rfl⟩
      have HB8 := Lib.hid y.below
      have HB9 := Lib.hid (HB6.out.trans (y.below.mono HB6.out.size))
      have ha9 := Lib.hid (ha6.out.call y.below)
      have hb9 := Lib.hid (hb6.out.call y.below)
      have hT9 := Lib.hid (hT6.out.call y.below)
      generalize y.w = w9 at *
      clear y qE1 qE2
      go_wp2_with fail
      with_reducible refine (qF.out _ hT9 ha9 hb9 HFa HFb g4 g4).mono ?_
      rintro e w10 ⟨rfl, hb⟩
      have HB10 := Lib.hid (HB9.out.trans (hb.mono HB9.out.size))
      have HC10 := Lib.hid (HB8.out.trans (hb.mono HB8.out.size))
      have hT10 := Lib.hid (hT9.out.call hb)
      have ha10 := Lib.hid (ha9.out.call hb)
      have hb10 := Lib.hid (hb9.out.call hb)
      clear hb
      go_wp2_with fail
      with_reducible refine (qC.out _ hT10 ha10 hb10 HFa HFb g4 g4).mono ?_
      rintro e w11 ⟨rfl, hb⟩
      have HB11 := Lib.hid (HB10.out.trans (hb.mono HB10.out.size))
      have HC11 := Lib.hid (HC10.out.trans (hb.mono HC10.out.size))
      have ha11 := Lib.hid (ha10.out.call hb)
      have hb11 := Lib.hid (hb10.out.call hb)
      clear hb
      go_wp2_with fail
      with_reducible refine (qS.out _ ha11 hb11).mono ?_
      rintro e w12 ⟨rfl, hb⟩
      have HB12 := Lib.hid (HB11.out.trans (hb.mono HB11.out.size))
      have HC12 := Lib.hid (HC11.out.trans (hb.mono HC11.out.size))
      clear hb
      go_wp2_with fail
      obtain ⟨n1, n2, n3, n4⟩ := hct.out HFa.out HFb.out
      have x1 : (X.toList == Y.toList) = false := strs_ne n1
      have qX := Lib.hid (fun w => qQ.out X w n3)
      have qY := Lib.hid (fun w => qQ.out Y w n4)
      rw [← n2] at qY
      generalize cutS K H X (1 + (mm : Int)) = CX at *
      have x2 : (CX.toList == CX.toList) = true := by simp
      clear n1 n2 n3 n4 hct qQ
      refine wp_region_ext (by kernel_rfl) (by kernel_rfl) ?_
      iterate 8 (go_big_quiet_step (first | (with_reducible exact ext_call (qX.out _)) | (with_reducible exact ext_call (qY.out _))))
      refine BigFrame.wpQuiet_want rfl fun K hK => ?_
      refine quiet_load_row 37 (.tmp 10) rfl w5.heap.size rfl KA (by rintro wz ⟨x, rfl⟩; exact hkey.out w12 (HC12.out) x) (hK _ ?_)
      clear hK K
      simp only [Act.put, List.setIfInBounds_toArray, List.set_cons_succ, List.set_cons_zero]
      iterate 3 (go_big_quiet_step (first | (with_reducible exact ext_call (qX.out _)) | (with_reducible exact ext_call (qY.out _))))
      refine BigFrame.wpQuiet_want rfl fun K hK => ?_
      refine quiet_load_row 37 (.tmp 10) rfl w5.heap.size rfl KA (by rintro wz ⟨x, rfl⟩; exact hkey.out w12 (HC12.out) x) (hK _ ?_)
      clear hK K
      simp only [Act.put, List.setIfInBounds_toArray, List.set_cons_succ, List.set_cons_zero]
      repeat (go_big_quiet_step (first | (with_reducible exact ext_call (qX.out _)) | (with_reducible exact ext_call (qY.out _))))
      refine wpQuiet_nil ?_
      rintro w' ⟨y, rfl⟩
      have HB13 := Lib.hid (HB12.out.trans (y.below.mono HB12.out.size))
      go_wp2_with fail
      go_ret
      exact ⟨rfl, HB13.out⟩

set_option maxRecDepth 100000 in
set_option maxHeartbeats 4000000 in
theorem ClashTrue_false1 (va vb : Value) (a b : List ByteArray) (n : Int) (mm : Nat) (w : World) (hT : Hid (ShaT w (nth kList) hSt)) (ha : Hid (StrsAt w va a)) (hb' : Hid (StrsAt w vb b)) (hla : a.length ≤ 9223372036854775807) (hlb : b.length ≤ 9223372036854775807) (hza : Hid (∀ (i : Nat) (s : ByteArray), a[i]? = some s → s.size ≤ 9223372036854775807)) (hzb : Hid (∀ (i : Nat) (s : ByteArray), b[i]? = some s → s.size ≤ 9223372036854775807)) (hn0 : 0 ≤ n) (hn1 : n ≤ 255) (e1 : n.tmod 32 = (mm : Int)) (hmm : mm < 32) (hl : ¬ a.length = b.length) :
    Calls Tryd.prog 11 #[va, vb, .int .u8 n, .bool false] w fun e w' => e = .returned (.bool true) ∧ Below w.heap.size w w' := by
  have a0 := Lib.hid (alive04 w hT)
  have qGa := Lib.hid (fun w h => Great_any va a w h hla hza)
  have qGb := Lib.hid (fun w h => Great_any vb b w h hlb hzb)
  have hks := Lib.hid key72_size
  have hon := Lib.hid key72_one
  have qK := Lib.hid (fun w => MakeKey_any w)
  have u5 : ((a.length : Int) != (b.length : Int)) = true := by simp; omega
  have u7 : ((a.length : Int) == (b.length : Int)) = false := by rw [beq_eq_false_iff_ne]; omega
  obtain ⟨A1, c1, rfl, _, _⟩ := ha.out
  obtain ⟨A2, c2, rfl, _, _⟩ := hb'.out
  generalize nth kList = K at *
  generalize hSt = H at *
  generalize key72 = KA at *
  clear hl hza hzb
  generalize hka : a.length = ka at *
  generalize hkb : b.length = kb at *
  have HKA := Lib.hid hka
  clear hka hkb
  go_enter Tryd.func11, Tryd.ntmps11
  go_wp2_with fail
  refine a0.out.mono ?_
  rintro e w1 ⟨rfl, hb⟩
  have HB1 := Lib.hid hb
  have hT1 := Lib.hid (hT.out.call hb)
  have ha1 := Lib.hid (ha.out.call hb)
  have hb1 := Lib.hid (hb'.out.call hb)
  clear hb
  go_wp2_with fail
  refine (qGa.out _ ha1).mono ?_
  rintro e w2 ⟨⟨g, rfl, hgf⟩, rfl⟩
  cases g with
  | true =>
    clear hgf
    go_wp2_with fail
    go_ret
    exact ⟨rfl, HB1.out⟩
  | false =>
    have HFa := Lib.hid (fine_of (hgf rfl).2)
    have h40 : ka ≤ 40 := (hgf rfl).1
    clear hgf
    go_wp2_with fail
    refine (qGb.out _ hb1).mono ?_
    rintro e w2 ⟨⟨gb, rfl, hgf⟩, rfl⟩
    cases gb with
    | true =>
      clear hgf
      go_wp2_with fail
      go_ret
      exact ⟨rfl, HB1.out⟩
    | false =>
      have HFb := Lib.hid (fine_of (hgf rfl).2)
      clear hgf
      go_wp2_with fail
      go_ret
      exact ⟨rfl, HB1.out⟩

set_option maxRecDepth 100000 in
set_option maxHeartbeats 4000000 in
theorem ClashTrue_false2 (va vb : Value) (a b : List ByteArray) (n : Int) (mm : Nat) (w : World) (hT : Hid (ShaT w (nth kList) hSt)) (ha : Hid (StrsAt w va a)) (hb' : Hid (StrsAt w vb b)) (hla : a.length ≤ 9223372036854775807) (hlb : b.length ≤ 9223372036854775807) (hza : Hid (∀ (i : Nat) (s : ByteArray), a[i]? = some s → s.size ≤ 9223372036854775807)) (hzb : Hid (∀ (i : Nat) (s : ByteArray), b[i]? = some s → s.size ≤ 9223372036854775807)) (hn0 : 0 ≤ n) (hn1 : n ≤ 255) (e1 : n.tmod 32 = (mm : Int)) (hmm : mm < 32) (hl : a.length = b.length) (hh : ¬ rootS (nth kList) hSt ((1 + mm : Nat) : Int) a = rootS (nth kList) hSt ((1 + mm : Nat) : Int) b) :
    Calls Tryd.prog 11 #[va, vb, .int .u8 n, .bool false] w fun e w' => e = .returned (.bool true) ∧ Below w.heap.size w w' := by
  have a0 := Lib.hid (alive04 w hT)
  have qGa := Lib.hid (fun w h => Great_any va a w h hla hza)
  have qGb := Lib.hid (fun w h => Great_any vb b w h hlb hzb)
  have hks := Lib.hid key72_size
  have hon := Lib.hid key72_one
  have qK := Lib.hid (fun w => MakeKey_any w)
  have hm : Hid (1 ≤ 1 + mm ∧ 1 + mm ≤ 32) := by show _ ∧ _; omega
  have hcast : ((1 + mm : Nat) : Int) = 1 + (mm : Int) := by omega
  have qRa := Lib.hid (fun w h hF (h4 : a.length ≤ 4096) => rRoot_any (1 + mm) hm (a.length) a va w rfl h hF h4)
  have qRb := Lib.hid (fun w h hF (h4 : b.length ≤ 4096) => rRoot_any (1 + mm) hm (b.length) b vb w rfl h hF h4)
  have hbn : ((rootS (nth kList) hSt ((1 + mm : Nat) : Int) a).toList == (rootS (nth kList) hSt ((1 + mm : Nat) : Int) b).toList) = false := strs_ne hh
  generalize rootS (nth kList) hSt ((1 + mm : Nat) : Int) a = RA at *
  generalize rootS (nth kList) hSt ((1 + mm : Nat) : Int) b = RB at *
  rw [hcast] at qRa qRb
  obtain ⟨A1, c1, rfl, _, _⟩ := ha.out
  obtain ⟨A2, c2, rfl, _, _⟩ := hb'.out
  generalize nth kList = K at *
  generalize hSt = H at *
  generalize key72 = KA at *
  have Hl := Lib.hid hl
  rw [← hl] at qGb hb' qRb ⊢
  clear hh hl hza hzb hcast
  generalize hka : a.length = ka at *
  have HKA := Lib.hid hka
  clear hka
  go_enter Tryd.func11, Tryd.ntmps11
  go_wp2_with fail
  refine a0.out.mono ?_
  rintro e w1 ⟨rfl, hb⟩
  have HB1 := Lib.hid hb
  have hT1 := Lib.hid (hT.out.call hb)
  have ha1 := Lib.hid (ha.out.call hb)
  have hb1 := Lib.hid (hb'.out.call hb)
  clear hb
  go_wp2_with fail
  refine (qGa.out _ ha1).mono ?_
  rintro e w2 ⟨⟨g, rfl, hgf⟩, rfl⟩
  cases g with
  | true =>
    clear hgf
    go_wp2_with fail
    go_ret
    exact ⟨rfl, HB1.out⟩
  | false =>
    have HFa := Lib.hid (fine_of (hgf rfl).2)
    have h40 : ka ≤ 40 := (hgf rfl).1
    clear hgf
    go_wp2_with fail
    refine (qGb.out _ hb1).mono ?_
    rintro e w2 ⟨⟨gb, rfl, hgf⟩, rfl⟩
    cases gb with
    | true =>
      clear hgf
      go_wp2_with fail
      go_ret
      exact ⟨rfl, HB1.out⟩
    | false =>
      have HFb := Lib.hid (fine_of (hgf rfl).2)
      clear hgf
      have g4 : ka ≤ 4096 := by omega
      go_wp2_with fail
      refine (qK.out _).mono ?_
      rintro e w5 ⟨rfl, hb⟩
      have HB5 := Lib.hid (HB1.out.trans (hb.mono HB1.out.size))
      have hT5 := Lib.hid (hT1.out.call hb)
      clear hb
      go_wp2_with (
        refine wpList_store_rowTo rfl 37 (.tmp 10) (.tmp 33) rfl rfl w5.heap.size KA rfl rfl 37 _ (blk_new w5 _ _ rfl) (by rw [hks.out]; kernel_rfl) (by rw [hks.out]; rfl) hon.out ?_
        obtain ⟨w6, hw6⟩ : ∃ w6, (w5.alloc (.cells Tryd.zeroCells37 37)).setRow w5.heap.size KA = w6 := ⟨_, rfl⟩
        have HK6 : Hid (w6.heap[w5.heap.size]? = some (.cells KA 37 (0, 0))) := by rw [← hw6]; exact setRow_heap _ _ _ _ _ _ (blk_new w5 _ _ rfl)
        have HB6 : Hid (Below w.heap.size w w6) := by rw [← hw6]; exact below_setRow (below_alloc HB5.out HB5.out.size _) HB5.out.size _
        rw [hw6]
        clear hw6)
      have hlt : w5.heap.size < w6.heap.size := (Array.getElem?_eq_some_iff.1 HK6.out).1
      have hkey : Hid (∀ w2, Below w6.heap.size w6 w2 → ∀ x : ExtOf w2, (loadVar 37 ⟨w5.heap.size, 0, none⟩).run Tryd.prog x.w = .ok (.agg KA) x.w) := fun w2 hb2 x =>
        run_loadVar_row x.w w5.heap.size 37 37 KA (0, 0) _ ((x.below.block _ (by have := hb2.size; omega)).trans ((hb2.block _ hlt).trans HK6.out)) Tryd.underlying37 rfl (by rw [hks.out]; kernel_rfl)
      have HB56 : Hid (Below w.heap.size w w6) := HB6
      have ha6 := Lib.hid (ha.out.call HB6.out)
      have hb6 := Lib.hid (hb'.out.call HB6.out)
      have hT6 := Lib.hid (hT.out.call HB6.out)
      have qE1 := Lib.hid (fun (x : ExtOf w6) => qRa.out x.w (Lib.hid (ha6.out.call x.below)) HFa g4)
      have qE2 := Lib.hid (fun (x : ExtOf w6) => qRb.out x.w (Lib.hid (hb6.out.call x.below)) HFb g4)
      refine wp_region_ext (by kernel_rfl) (by kernel_rfl) ?_
      iterate 16 (go_big_quiet_step (first | (with_reducible exact ext_call (qE1.out _)) | (with_reducible exact ext_call (qE2.out _))))
      refine BigFrame.wpQuiet_want rfl fun K hK => ?_
      refine quiet_load_row 37 (.tmp 10) rfl w5.heap.size rfl KA (by rintro wz ⟨x, rfl⟩; exact hkey.out w6 (Below.refl _ _) x) (hK _ ?_)
      clear hK K
      simp only [Act.put, List.setIfInBounds_toArray, List.set_cons_succ, List.set_cons_zero]
      iterate 3 (go_big_quiet_step (first | (with_reducible exact ext_call (qE1.out _)) | (with_reducible exact ext_call (qE2.out _))))
      refine BigFrame.wpQuiet_want rfl fun K hK => ?_
      refine quiet_load_row 37 (.tmp 10) rfl w5.heap.size rfl KA (by rintro wz ⟨x, rfl⟩; exact hkey.out w6 (Below.refl _ _) x) (hK _ ?_)
      clear hK K
      simp only [Act.put, List.setIfInBounds_toArray, List.set_cons_succ, List.set_cons_zero]
      repeat (go_big_quiet_step (first | (with_reducible exact ext_call (qE1.out _)) | (with_reducible exact ext_call (qE2.out _))))
      refine wpQuiet_nil ?_
      rintro w' ⟨y, rfl⟩
      have HB8 := Lib.hid y.below
      have HB9 := Lib.hid (HB6.out.trans (y.below.mono HB6.out.size))
      have ha9 := Lib.hid (ha6.out.call y.below)
      have hb9 := Lib.hid (hb6.out.call y.below)
      have hT9 := Lib.hid (hT6.out.call y.below)
      generalize y.w = w9 at *
      clear y qE1 qE2
      go_wp2_with fail
      go_ret
      exact ⟨rfl, HB9.out⟩

set_option maxRecDepth 100000 in
set_option maxHeartbeats 4000000 in
theorem ClashTrue_false3 (va vb : Value) (a b : List ByteArray) (n : Int) (mm : Nat) (w : World) (hT : Hid (ShaT w (nth kList) hSt)) (ha : Hid (StrsAt w va a)) (hb' : Hid (StrsAt w vb b)) (hla : a.length ≤ 9223372036854775807) (hlb : b.length ≤ 9223372036854775807) (hza : Hid (∀ (i : Nat) (s : ByteArray), a[i]? = some s → s.size ≤ 9223372036854775807)) (hzb : Hid (∀ (i : Nat) (s : ByteArray), b[i]? = some s → s.size ≤ 9223372036854775807)) (hn0 : 0 ≤ n) (hn1 : n ≤ 255) (e1 : n.tmod 32 = (mm : Int)) (hmm : mm < 32) (hl : a.length = b.length) (hh : rootS (nth kList) hSt ((1 + mm : Nat) : Int) a = rootS (nth kList) hSt ((1 + mm : Nat) : Int) b) (hab : a = b) :
    Calls Tryd.prog 11 #[va, vb, .int .u8 n, .bool false] w fun e w' => e = .returned (.bool true) ∧ Below w.heap.size w w' := by
  have a0 := Lib.hid (alive04 w hT)
  have qGa := Lib.hid (fun w h => Great_any va a w h hla hza)
  have qGb := Lib.hid (fun w h => Great_any vb b w h hlb hzb)
  have hks := Lib.hid key72_size
  have hon := Lib.hid key72_one
  have qK := Lib.hid (fun w => MakeKey_any w)
  have hm : Hid (1 ≤ 1 + mm ∧ 1 + mm ≤ 32) := by show _ ∧ _; omega
  have hcast : ((1 + mm : Nat) : Int) = 1 + (mm : Int) := by omega
  have qRa := Lib.hid (fun w h hF (h4 : a.length ≤ 4096) => rRoot_any (1 + mm) hm (a.length) a va w rfl h hF h4)
  have qRb := Lib.hid (fun w h hF (h4 : b.length ≤ 4096) => rRoot_any (1 + mm) hm (b.length) b vb w rfl h hF h4)
  have qF := Lib.hid (fun w hT h1 h2 h3 h4' h4 h5 => Find_in (nth kList) hSt (1 + mm) hm a b va vb w hT h1 h2 h3 h4' h4 h5)
  have qS := Lib.hid (fun w h1 h2 => Same_any va vb a b w h1 h2 hla)
  rw [decide_eq_true hab] at qS
  rw [show findS (nth kList) hSt (1 + mm) a b = (⟨#[]⟩, ⟨#[]⟩, 7) by unfold findS foundS; rw [if_pos ⟨hl, hh⟩, if_pos hab]] at qF
  simp only [] at qF
  rw [← hh] at qRb
  have hbn : ((rootS (nth kList) hSt ((1 + mm : Nat) : Int) a).toList != (rootS (nth kList) hSt ((1 + mm : Nat) : Int) a).toList) = false := by simp
  generalize rootS (nth kList) hSt ((1 + mm : Nat) : Int) a = RA at *
  rw [hcast] at qRa qRb qF
  obtain ⟨A1, c1, rfl, _, _⟩ := ha.out
  obtain ⟨A2, c2, rfl, _, _⟩ := hb'.out
  generalize nth kList = K at *
  generalize hSt = H at *
  generalize key72 = KA at *
  have Hl := Lib.hid hl
  rw [← hl] at qGb hb' qRb qS qF ⊢
  clear hh hl hza hzb hcast
  generalize hka : a.length = ka at *
  have HKA := Lib.hid hka
  clear hka
  go_enter Tryd.func11, Tryd.ntmps11
  go_wp2_with fail
  refine a0.out.mono ?_
  rintro e w1 ⟨rfl, hb⟩
  have HB1 := Lib.hid hb
  have hT1 := Lib.hid (hT.out.call hb)
  have ha1 := Lib.hid (ha.out.call hb)
  have hb1 := Lib.hid (hb'.out.call hb)
  clear hb
  go_wp2_with fail
  refine (qGa.out _ ha1).mono ?_
  rintro e w2 ⟨⟨g, rfl, hgf⟩, rfl⟩
  cases g with
  | true =>
    clear hgf
    go_wp2_with fail
    go_ret
    exact ⟨rfl, HB1.out⟩
  | false =>
    have HFa := Lib.hid (fine_of (hgf rfl).2)
    have h40 : ka ≤ 40 := (hgf rfl).1
    clear hgf
    go_wp2_with fail
    refine (qGb.out _ hb1).mono ?_
    rintro e w2 ⟨⟨gb, rfl, hgf⟩, rfl⟩
    cases gb with
    | true =>
      clear hgf
      go_wp2_with fail
      go_ret
      exact ⟨rfl, HB1.out⟩
    | false =>
      have HFb := Lib.hid (fine_of (hgf rfl).2)
      clear hgf
      have g4 : ka ≤ 4096 := by omega
      go_wp2_with fail
      refine (qK.out _).mono ?_
      rintro e w5 ⟨rfl, hb⟩
      have HB5 := Lib.hid (HB1.out.trans (hb.mono HB1.out.size))
      have hT5 := Lib.hid (hT1.out.call hb)
      clear hb
      go_wp2_with (
        refine wpList_store_rowTo rfl 37 (.tmp 10) (.tmp 33) rfl rfl w5.heap.size KA rfl rfl 37 _ (blk_new w5 _ _ rfl) (by rw [hks.out]; kernel_rfl) (by rw [hks.out]; rfl) hon.out ?_
        obtain ⟨w6, hw6⟩ : ∃ w6, (w5.alloc (.cells Tryd.zeroCells37 37)).setRow w5.heap.size KA = w6 := ⟨_, rfl⟩
        have HK6 : Hid (w6.heap[w5.heap.size]? = some (.cells KA 37 (0, 0))) := by rw [← hw6]; exact setRow_heap _ _ _ _ _ _ (blk_new w5 _ _ rfl)
        have HB6 : Hid (Below w.heap.size w w6) := by rw [← hw6]; exact below_setRow (below_alloc HB5.out HB5.out.size _) HB5.out.size _
        rw [hw6]
        clear hw6)
      have hlt : w5.heap.size < w6.heap.size := (Array.getElem?_eq_some_iff.1 HK6.out).1
      have hkey : Hid (∀ w2, Below w6.heap.size w6 w2 → ∀ x : ExtOf w2, (loadVar 37 ⟨w5.heap.size, 0, none⟩).run Tryd.prog x.w = .ok (.agg KA) x.w) := fun w2 hb2 x =>
        run_loadVar_row x.w w5.heap.size 37 37 KA (0, 0) _ ((x.below.block _ (by have := hb2.size; omega)).trans ((hb2.block _ hlt).trans HK6.out)) Tryd.underlying37 rfl (by rw [hks.out]; kernel_rfl)
      have HB56 : Hid (Below w.heap.size w w6) := HB6
      have ha6 := Lib.hid (ha.out.call HB6.out)
      have hb6 := Lib.hid (hb'.out.call HB6.out)
      have hT6 := Lib.hid (hT.out.call HB6.out)
      have qE1 := Lib.hid (fun (x : ExtOf w6) => qRa.out x.w (Lib.hid (ha6.out.call x.below)) HFa g4)
      have qE2 := Lib.hid (fun (x : ExtOf w6) => qRb.out x.w (Lib.hid (hb6.out.call x.below)) HFb g4)
      refine wp_region_ext (by kernel_rfl) (by kernel_rfl) ?_
      iterate 16 (go_big_quiet_step (first | (with_reducible exact ext_call (qE1.out _)) | (with_reducible exact ext_call (qE2.out _))))
      refine BigFrame.wpQuiet_want rfl fun K hK => ?_
      refine quiet_load_row 37 (.tmp 10) rfl w5.heap.size rfl KA (by rintro wz ⟨x, rfl⟩; exact hkey.out w6 (Below.refl _ _) x) (hK _ ?_)
      clear hK K
      simp only [Act.put, List.setIfInBounds_toArray, List.set_cons_succ, List.set_cons_zero]
      iterate 3 (go_big_quiet_step (first | (with_reducible exact ext_call (qE1.out _)) | (with_reducible exact ext_call (qE2.out _))))
      refine BigFrame.wpQuiet_want rfl fun K hK => ?_
      refine quiet_load_row 37 (.tmp 10) rfl w5.heap.size rfl KA (by rintro wz ⟨x, rfl⟩; exact hkey.out w6 (Below.refl _ _) x) (hK _ ?_)
      clear hK K
      simp only [Act.put, List.setIfInBounds_toArray, List.set_cons_succ, List.set_cons_zero]
      repeat (go_big_quiet_step (first | (with_reducible exact ext_call (qE1.out _)) | (with_reducible exact ext_call (qE2.out _))))
      refine wpQuiet_nil ?_
      rintro w' ⟨y, rfl⟩
      have HB8 := Lib.hid y.below
      have HB9 := Lib.hid (HB6.out.trans (y.below.mono HB6.out.size))
      have ha9 := Lib.hid (ha6.out.call y.below)
      have hb9 := Lib.hid (hb6.out.call y.below)
      have hT9 := Lib.hid (hT6.out.call y.below)
      generalize y.w = w9 at *
      clear y qE1 qE2
      go_wp2_with fail
      with_reducible refine (qF.out _ hT9 ha9 hb9 HFa HFb g4 g4).mono ?_
      rintro e w10 ⟨rfl, hb⟩
      have HB10 := Lib.hid (HB9.out.trans (hb.mono HB9.out.size))
      have HC10 := Lib.hid (HB8.out.trans (hb.mono HB8.out.size))
      have hT10 := Lib.hid (hT9.out.call hb)
      have ha10 := Lib.hid (ha9.out.call hb)
      have hb10 := Lib.hid (hb9.out.call hb)
      clear hb
      go_wp2_with fail
      have HB11 := HB10
      have HC11 := HC10
      have ha11 := ha10
      have hb11 := hb10
      with_reducible refine (qS.out _ ha11 hb11).mono ?_
      rintro e w12 ⟨rfl, hb⟩
      have HB12 := Lib.hid (HB11.out.trans (hb.mono HB11.out.size))
      have HC12 := Lib.hid (HC11.out.trans (hb.mono HC11.out.size))
      clear hb
      go_wp2_with fail
      go_ret
      exact ⟨rfl, HB12.out⟩

set_option maxRecDepth 100000 in
set_option maxHeartbeats 4000000 in
theorem ClashTrue_false4 (va vb : Value) (a b : List ByteArray) (n : Int) (mm : Nat) (w : World) (hT : Hid (ShaT w (nth kList) hSt)) (ha : Hid (StrsAt w va a)) (hb' : Hid (StrsAt w vb b)) (hla : a.length ≤ 9223372036854775807) (hlb : b.length ≤ 9223372036854775807) (hza : Hid (∀ (i : Nat) (s : ByteArray), a[i]? = some s → s.size ≤ 9223372036854775807)) (hzb : Hid (∀ (i : Nat) (s : ByteArray), b[i]? = some s → s.size ≤ 9223372036854775807)) (hn0 : 0 ≤ n) (hn1 : n ≤ 255) (e1 : n.tmod 32 = (mm : Int)) (hmm : mm < 32) (hl : a.length = b.length) (hh : rootS (nth kList) hSt ((1 + mm : Nat) : Int) a = rootS (nth kList) hSt ((1 + mm : Nat) : Int) b) (hab : ¬ a = b) :
    Calls Tryd.prog 11 #[va, vb, .int .u8 n, .bool false] w fun e w' => e = .returned (.bool true) ∧ Below w.heap.size w w' := by
  have a0 := Lib.hid (alive04 w hT)
  have qGa := Lib.hid (fun w h => Great_any va a w h hla hza)
  have qGb := Lib.hid (fun w h => Great_any vb b w h hlb hzb)
  have hks := Lib.hid key72_size
  have hon := Lib.hid key72_one
  have qK := Lib.hid (fun w => MakeKey_any w)
  have hm : Hid (1 ≤ 1 + mm ∧ 1 + mm ≤ 32) := by show _ ∧ _; omega
  have hcast : ((1 + mm : Nat) : Int) = 1 + (mm : Int) := by omega
  have qRa := Lib.hid (fun w h hF (h4 : a.length ≤ 4096) => rRoot_any (1 + mm) hm (a.length) a va w rfl h hF h4)
  have qRb := Lib.hid (fun w h hF (h4 : b.length ≤ 4096) => rRoot_any (1 + mm) hm (b.length) b vb w rfl h hF h4)
  have qF := Lib.hid (fun w hT h1 h2 h3 h4' h4 h5 => Find_in (nth kList) hSt (1 + mm) hm a b va vb w hT h1 h2 h3 h4' h4 h5)
  have qS := Lib.hid (fun w h1 h2 => Same_any va vb a b w h1 h2 hla)
  rw [decide_eq_false hab] at qS
  rw [show findS (nth kList) hSt (1 + mm) a b = ((downS (nth kList) hSt ((1 + mm : Nat) : Int) a b).1, (downS (nth kList) hSt ((1 + mm : Nat) : Int) a b).2, 0) by unfold findS foundS; rw [if_pos ⟨hl, hh⟩, if_neg hab]] at qF
  simp only [] at qF
  have hct : Hid (Fine a → Fine b → ¬ (downS (nth kList) hSt ((1 + mm : Nat) : Int) a b).1 = (downS (nth kList) hSt ((1 + mm : Nat) : Int) a b).2 ∧ cutS (nth kList) hSt (downS (nth kList) hSt ((1 + mm : Nat) : Int) a b).1 ((1 + mm : Nat) : Int) = cutS (nth kList) hSt (downS (nth kList) hSt ((1 + mm : Nat) : Int) a b).2 ((1 + mm : Nat) : Int) ∧ (downS (nth kList) hSt ((1 + mm : Nat) : Int) a b).1.size ≤ 500 ∧ (downS (nth kList) hSt ((1 + mm : Nat) : Int) a b).2.size ≤ 500) := fun hFa hFb => by
    have h1 := downS_true (nth kList) hSt (1 + mm) hm.out a.length a b rfl hl hab hh
    have h2 := downS_le (nth kList) hSt ((1 + mm : Nat) : Int) a.length a b rfl hFa hFb
    exact ⟨h1.1, h1.2, h2.1, h2.2⟩
  have qQ := Lib.hid (fun (s : ByteArray) w (hs : s.size ≤ 500) => rCut_any s (1 + mm) w (by show _ ≤ _; omega) hm)
  generalize (downS (nth kList) hSt ((1 + mm : Nat) : Int) a b).1 = X at *
  generalize (downS (nth kList) hSt ((1 + mm : Nat) : Int) a b).2 = Y at *
  rw [← hh] at qRb
  have hbn : ((rootS (nth kList) hSt ((1 + mm : Nat) : Int) a).toList != (rootS (nth kList) hSt ((1 + mm : Nat) : Int) a).toList) = false := by simp
  generalize rootS (nth kList) hSt ((1 + mm : Nat) : Int) a = RA at *
  rw [hcast] at qRa qRb qF qQ hct
  obtain ⟨A1, c1, rfl, _, _⟩ := ha.out
  obtain ⟨A2, c2, rfl, _, _⟩ := hb'.out
  generalize nth kList = K at *
  generalize hSt = H at *
  generalize key72 = KA at *
  have Hl := Lib.hid hl
  rw [← hl] at qGb hb' qRb qS qF ⊢
  clear hh hl hza hzb hcast
  generalize hka : a.length = ka at *
  have HKA := Lib.hid hka
  clear hka
  go_enter Tryd.func11, Tryd.ntmps11
  go_wp2_with fail
  refine a0.out.mono ?_
  rintro e w1 ⟨rfl, hb⟩
  have HB1 := Lib.hid hb
  have hT1 := Lib.hid (hT.out.call hb)
  have ha1 := Lib.hid (ha.out.call hb)
  have hb1 := Lib.hid (hb'.out.call hb)
  clear hb
  go_wp2_with fail
  refine (qGa.out _ ha1).mono ?_
  rintro e w2 ⟨⟨g, rfl, hgf⟩, rfl⟩
  cases g with
  | true =>
    clear hgf
    go_wp2_with fail
    go_ret
    exact ⟨rfl, HB1.out⟩
  | false =>
    have HFa := Lib.hid (fine_of (hgf rfl).2)
    have h40 : ka ≤ 40 := (hgf rfl).1
    clear hgf
    go_wp2_with fail
    refine (qGb.out _ hb1).mono ?_
    rintro e w2 ⟨⟨gb, rfl, hgf⟩, rfl⟩
    cases gb with
    | true =>
      clear hgf
      go_wp2_with fail
      go_ret
      exact ⟨rfl, HB1.out⟩
    | false =>
      have HFb := Lib.hid (fine_of (hgf rfl).2)
      clear hgf
      have g4 : ka ≤ 4096 := by omega
      go_wp2_with fail
      refine (qK.out _).mono ?_
      rintro e w5 ⟨rfl, hb⟩
      have HB5 := Lib.hid (HB1.out.trans (hb.mono HB1.out.size))
      have hT5 := Lib.hid (hT1.out.call hb)
      clear hb
      go_wp2_with (
        refine wpList_store_rowTo rfl 37 (.tmp 10) (.tmp 33) rfl rfl w5.heap.size KA rfl rfl 37 _ (blk_new w5 _ _ rfl) (by rw [hks.out]; kernel_rfl) (by rw [hks.out]; rfl) hon.out ?_
        obtain ⟨w6, hw6⟩ : ∃ w6, (w5.alloc (.cells Tryd.zeroCells37 37)).setRow w5.heap.size KA = w6 := ⟨_, rfl⟩
        have HK6 : Hid (w6.heap[w5.heap.size]? = some (.cells KA 37 (0, 0))) := by rw [← hw6]; exact setRow_heap _ _ _ _ _ _ (blk_new w5 _ _ rfl)
        have HB6 : Hid (Below w.heap.size w w6) := by rw [← hw6]; exact below_setRow (below_alloc HB5.out HB5.out.size _) HB5.out.size _
        rw [hw6]
        clear hw6)
      have hlt : w5.heap.size < w6.heap.size := (Array.getElem?_eq_some_iff.1 HK6.out).1
      have hkey : Hid (∀ w2, Below w6.heap.size w6 w2 → ∀ x : ExtOf w2, (loadVar 37 ⟨w5.heap.size, 0, none⟩).run Tryd.prog x.w = .ok (.agg KA) x.w) := fun w2 hb2 x =>
        run_loadVar_row x.w w5.heap.size 37 37 KA (0, 0) _ ((x.below.block _ (by have := hb2.size; omega)).trans ((hb2.block _ hlt).trans HK6.out)) Tryd.underlying37 rfl (by rw [hks.out]; kernel_rfl)
      have HB56 : Hid (Below w.heap.size w w6) := HB6
      have ha6 := Lib.hid (ha.out.call HB6.out)
      have hb6 := Lib.hid (hb'.out.call HB6.out)
      have hT6 := Lib.hid (hT.out.call HB6.out)
      have qE1 := Lib.hid (fun (x : ExtOf w6) => qRa.out x.w (Lib.hid (ha6.out.call x.below)) HFa g4)
      have qE2 := Lib.hid (fun (x : ExtOf w6) => qRb.out x.w (Lib.hid (hb6.out.call x.below)) HFb g4)
      refine wp_region_ext (by kernel_rfl) (by kernel_rfl) ?_
      iterate 16 (go_big_quiet_step (first | (with_reducible exact ext_call (qE1.out _)) | (with_reducible exact ext_call (qE2.out _))))
      refine BigFrame.wpQuiet_want rfl fun K hK => ?_
      refine quiet_load_row 37 (.tmp 10) rfl w5.heap.size rfl KA (by rintro wz ⟨x, rfl⟩; exact hkey.out w6 (Below.refl _ _) x) (hK _ ?_)
      clear hK K
      simp only [Act.put, List.setIfInBounds_toArray, List.set_cons_succ, List.set_cons_zero]
      iterate 3 (go_big_quiet_step (first | (with_reducible exact ext_call (qE1.out _)) | (with_reducible exact ext_call (qE2.out _))))
      refine BigFrame.wpQuiet_want rfl fun K hK => ?_
      refine quiet_load_row 37 (.tmp 10) rfl w5.heap.size rfl KA (by rintro wz ⟨x, rfl⟩; exact hkey.out w6 (Below.refl _ _) x) (hK _ ?_)
      clear hK K
      simp only [Act.put, List.setIfInBounds_toArray, List.set_cons_succ, List.set_cons_zero]
      repeat (go_big_quiet_step (first | (with_reducible exact ext_call (qE1.out _)) | (with_reducible exact ext_call (qE2.out _))))
      refine wpQuiet_nil ?_
      rintro w' ⟨y, rfl⟩
      have HB8 := Lib.hid y.below
      have HB9 := Lib.hid (HB6.out.trans (y.below.mono HB6.out.size))
      have ha9 := Lib.hid (ha6.out.call y.below)
      have hb9 := Lib.hid (hb6.out.call y.below)
      have hT9 := Lib.hid (hT6.out.call y.below)
      generalize y.w = w9 at *
      clear y qE1 qE2
      go_wp2_with fail
      with_reducible refine (qF.out _ hT9 ha9 hb9 HFa HFb g4 g4).mono ?_
      rintro e w10 ⟨rfl, hb⟩
      have HB10 := Lib.hid (HB9.out.trans (hb.mono HB9.out.size))
      have HC10 := Lib.hid (HB8.out.trans (hb.mono HB8.out.size))
      have hT10 := Lib.hid (hT9.out.call hb)
      have ha10 := Lib.hid (ha9.out.call hb)
      have hb10 := Lib.hid (hb9.out.call hb)
      clear hb
      go_wp2_with fail
      have HB11 := HB10
      have HC11 := HC10
      have ha11 := ha10
      have hb11 := hb10
      with_reducible refine (qS.out _ ha11 hb11).mono ?_
      rintro e w12 ⟨rfl, hb⟩
      have HB12 := Lib.hid (HB11.out.trans (hb.mono HB11.out.size))
      have HC12 := Lib.hid (HC11.out.trans (hb.mono HC11.out.size))
      clear hb
      go_wp2_with fail
      obtain ⟨n1, n2, n3, n4⟩ := hct.out HFa.out HFb.out
      have x1 : (X.toList == Y.toList) = false := strs_ne n1
      have qX := Lib.hid (fun w => qQ.out X w n3)
      have qY := Lib.hid (fun w => qQ.out Y w n4)
      rw [← n2] at qY
      generalize cutS K H X (1 + (mm : Int)) = CX at *
      have x2 : (CX.toList == CX.toList) = true := by simp
      clear n1 n2 n3 n4 hct qQ
      refine wp_region_ext (by kernel_rfl) (by kernel_rfl) ?_
      iterate 8 (go_big_quiet_step (first | (with_reducible exact ext_call (qX.out _)) | (with_reducible exact ext_call (qY.out _))))
      refine BigFrame.wpQuiet_want rfl fun K hK => ?_
      refine quiet_load_row 37 (.tmp 10) rfl w5.heap.size rfl KA (by rintro wz ⟨x, rfl⟩; exact hkey.out w12 (HC12.out) x) (hK _ ?_)
      clear hK K
      simp only [Act.put, List.setIfInBounds_toArray, List.set_cons_succ, List.set_cons_zero]
      iterate 3 (go_big_quiet_step (first | (with_reducible exact ext_call (qX.out _)) | (with_reducible exact ext_call (qY.out _))))
      refine BigFrame.wpQuiet_want rfl fun K hK => ?_
      refine quiet_load_row 37 (.tmp 10) rfl w5.heap.size rfl KA (by rintro wz ⟨x, rfl⟩; exact hkey.out w12 (HC12.out) x) (hK _ ?_)
      clear hK K
      simp only [Act.put, List.setIfInBounds_toArray, List.set_cons_succ, List.set_cons_zero]
      repeat (go_big_quiet_step (first | (with_reducible exact ext_call (qX.out _)) | (with_reducible exact ext_call (qY.out _))))
      refine wpQuiet_nil ?_
      rintro w' ⟨y, rfl⟩
      have HB13 := Lib.hid (HB12.out.trans (y.below.mono HB12.out.size))
      go_wp2_with fail
      go_ret
      exact ⟨rfl, HB13.out⟩

theorem ClashTrue_walk (va vb : Value) (a b : List ByteArray) (n : Int) (c : Bool) (w : World) (hT : Hid (ShaT w (nth kList) hSt)) (ha : Hid (StrsAt w va a)) (hb' : Hid (StrsAt w vb b)) (hla : a.length ≤ 9223372036854775807) (hlb : b.length ≤ 9223372036854775807) (hza : Hid (∀ (i : Nat) (s : ByteArray), a[i]? = some s → s.size ≤ 9223372036854775807)) (hzb : Hid (∀ (i : Nat) (s : ByteArray), b[i]? = some s → s.size ≤ 9223372036854775807)) (hn : 0 ≤ n ∧ n ≤ 255) :
    Calls Tryd.prog 11 #[va, vb, .int .u8 n, .bool c] w fun e w' => e = .returned (.bool true) ∧ Below w.heap.size w w' := by
  obtain ⟨mm, hmm⟩ : ∃ m : Nat, n % 32 = m := ⟨(n % 32).toNat, by omega⟩
  have hm32 : mm < 32 := by omega
  have e1 : n.tmod 32 = (mm : Int) := by rw [Int.tmod_eq_emod_of_nonneg (by omega)]; exact hmm
  cases c with
  | true =>
    by_cases hl : a.length = b.length
    · by_cases hh : chainS (nth kList) hSt ((1 + mm : Nat) : Int) a = chainS (nth kList) hSt ((1 + mm : Nat) : Int) b
      · by_cases hab : a = b
        · exact ClashTrue_true3 va vb a b n mm w hT ha hb' hla hlb hza hzb hn.1 hn.2 e1 hm32 hl hh hab
        · exact ClashTrue_true4 va vb a b n mm w hT ha hb' hla hlb hza hzb hn.1 hn.2 e1 hm32 hl hh hab
      · exact ClashTrue_true2 va vb a b n mm w hT ha hb' hla hlb hza hzb hn.1 hn.2 e1 hm32 hl hh
    · exact ClashTrue_true1 va vb a b n mm w hT ha hb' hla hlb hza hzb hn.1 hn.2 e1 hm32 hl
  | false =>
    by_cases hl : a.length = b.length
    · by_cases hh : rootS (nth kList) hSt ((1 + mm : Nat) : Int) a = rootS (nth kList) hSt ((1 + mm : Nat) : Int) b
      · by_cases hab : a = b
        · exact ClashTrue_false3 va vb a b n mm w hT ha hb' hla hlb hza hzb hn.1 hn.2 e1 hm32 hl hh hab
        · exact ClashTrue_false4 va vb a b n mm w hT ha hb' hla hlb hza hzb hn.1 hn.2 e1 hm32 hl hh hab
      · exact ClashTrue_false2 va vb a b n mm w hT ha hb' hla hlb hza hzb hn.1 hn.2 e1 hm32 hl hh
    · exact ClashTrue_false1 va vb a b n mm w hT ha hb' hla hlb hza hzb hn.1 hn.2 e1 hm32 hl

end Go.Proofs.YtaigngdlioplaaaDoor
