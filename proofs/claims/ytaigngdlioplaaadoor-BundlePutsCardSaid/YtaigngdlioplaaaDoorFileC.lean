/- disk.May, the reference's May and Same (printed by genFileC.py). -/
import Derived.Test.YtaigngdlioplaaaDoorFileB
import Derived.Laws.Cover1
import Derived.IntWalk
namespace Go.Proofs.YtaigngdlioplaaaDoor
open Go Go.RowKit
set_option linter.unusedVariables false
set_option linter.unusedSimpArgs false

theorem okF_name {l : List Fil} {k : Nat} {s t : ByteArray} (h : namedS s = false) : okF l k (s, t) = false := by unfold okF; rw [h]; rfl
theorem okF_empty {l : List Fil} {k : Nat} {s t : ByteArray} (h : t.size = 0) : okF l k (s, t) = false := by
  have : (t.toList == (⟨#[]⟩ : ByteArray).toList) = true := by
    rw [beq_iff_eq, ByteArray.toList_eq, ByteArray.toList_eq]
    exact List.length_eq_zero_iff.1 (by simpa using h)
  unfold okF; simp only [this]; simp
theorem full_ne {t : ByteArray} (h : ¬ t.size = 0) : (t.toList == (⟨#[]⟩ : ByteArray).toList) = false := by
  rw [beq_eq_false_iff_ne, ByteArray.toList_eq, ByteArray.toList_eq]
  intro e
  have := congrArg List.length e
  simp only [Array.length_toList] at this
  exact h this
theorem full_em {t : ByteArray} (h : ¬ t.size = 0) : t.toList.isEmpty = false := by
  rw [ByteArray.toList_eq]
  cases hq : t.data.toList with
  | nil => exact absurd (by have := congrArg List.length hq; simpa using this) h
  | cons a r => rfl
theorem okF_first {l : List Fil} {s t : ByteArray} (h : namedS s = true) (ht : ¬ t.size = 0) : okF l 0 (s, t) = true := by
  unfold okF; simp only [h, full_ne ht]; rfl
theorem okF_next {l : List Fil} {j : Nat} {s t : ByteArray} {g : Fil} (h : namedS s = true) (ht : ¬ t.size = 0) (hg : l[j]? = some g) : okF l (j + 1) (s, t) = befS g.1 s := by
  unfold okF
  rw [Nat.add_sub_cancel, hg]
  simp only [h, full_ne ht]
  simp

set_option maxRecDepth 100000 in
set_option maxHeartbeats 4000000 in
theorem MayF_any (v : Value) (l : List Fil) (w : World) (hv : Hid (FilesAt w v l)) (hl : l.length ≤ 1000000) (hz : Hid (∀ (i : Nat) (f : Fil), l[i]? = some f → f.1.size ≤ 9223372036854775807)) :
    Calls Tryd.prog 92 #[v] w fun e w' => e = .returned (.bool (mayF l)) ∧ Below w.heap.size w w' := by
  obtain ⟨A, c, rfl, _⟩ := hv.out
  have hdef : Hid (mayF l = (decide (l.length ≤ 4096) && mayK l l.length)) := rfl
  obtain ⟨M, hM⟩ : ∃ M, mayF l = M := ⟨_, rfl⟩
  have hf : Hid (∀ (k : Nat) (f : Fil), l[k]? = some f → okF l k f = false → M = false) := fun k f h1 h2 => by rw [← hM]; exact mayF_false h1 h2
  rw [hM] at hdef ⊢
  clear hM
  go_enter Tryd.func92, Tryd.ntmps92
  go_wp2_with fail
  go_loopw [7] (fun s7 wr => ∃ k : Nat, s7 = .int .i64 k ∧ Hid (k ≤ l.length) ∧ Hid (mayK l k = true) ∧ Hid (Below w.heap.size w wr)) (fun s7 _ => l.length - (intOf s7).toNat)
  case atStart => exact ⟨0, rfl, Nat.zero_le _, rfl, Below.refl _ _⟩
  case round =>
    obtain ⟨k, rfl, hk, hK, hB⟩ := hrel
    by_cases hkl : k < l.length
    · obtain ⟨A', c', hA', hci⟩ := (hv.out.call hB.out)
      cases hA'
      have hge : l[k]? = some l[k] := List.getElem?_eq_getElem hkl
      obtain ⟨b, o, rfl, hbl, h0, h1⟩ := hci k _ hge
      have HCI := Lib.hid hci
      have HGE := Lib.hid hge
      have zs := hz.out k _ hge
      clear hci hge
      generalize l[k] = f at *
      obtain ⟨s, t⟩ := f
      have h0 : wr.cell? ⟨b, o + k * 2, none⟩ = some (.string s) := h0
      have h1 : wr.cell? ⟨b, o + k * 2 + 1, none⟩ = some (.string t) := h1
      have qN := Lib.hid (fun w => named_any s w zs)
      have hfn : Hid (namedS s = false → M = false) := fun h => hf.out k _ HGE.out (okF_name h)
      have hfe : Hid (t.size = 0 → M = false) := fun h => hf.out k _ HGE.out (okF_empty h)
      have hokx : Hid (namedS s = true → ¬ t.size = 0 → (k = 0 → mayK l (k + 1) = true) ∧ (∀ j g, k = j + 1 → l[j]? = some g → (befS g.1 s = true → mayK l (k + 1) = true) ∧ (befS g.1 s = false → M = false))) := fun hn ht =>
        ⟨fun e => mayK_step HGE.out hK.out (by subst e; exact okF_first hn ht), fun j g e hg => ⟨fun hb => mayK_step HGE.out hK.out (by subst e; rw [okF_next hn ht hg]; exact hb), fun hb => hf.out k _ HGE.out (by subst e; rw [okF_next hn ht hg]; exact hb)⟩⟩
      obtain ⟨N, hN⟩ : ∃ N, namedS s = N := ⟨_, rfl⟩
      rw [hN] at qN hfn hokx
      clear hf hK hN hdef
      obtain ⟨w1, hw1⟩ : ∃ w1, wr.alloc (.cells #[.string s, .string t] 113) = w1 := ⟨_, rfl⟩
      have HW1 := Lib.hid hw1
      have HL : Hid (Below wr.heap.size wr w1) := by rw [← hw1]; exact below_alloc (Below.refl _ _) (Nat.le_refl _) _
      have HB1 := Lib.hid (hB.out.trans (HL.out.mono hB.out.size))
      have hD : w1.heap[wr.heap.size]? = some (.cells #[.string s, .string t] 113 (0, 0)) := by rw [← hw1]; exact heap_new _ _
      have g0 := cells_of_blk hD 0 _ rfl
      have g1 := cells_of_blk hD 1 _ rfl
      have l1 := (Array.getElem?_eq_some_iff.1 hD).1
      clear hw1 hD
      cases N with
      | false =>
        have hMf := Lib.hid (hfn.out rfl)
        clear hokx hfe hfn
        go_wp2_with fail
        rw [HW1.out]
        refine wp_region_ext (by kernel_rfl) (by kernel_rfl) ?_
        repeat (go_big_quiet_step (with_reducible exact ext_call (qN.out _)))
        refine wpQuiet_nil ?_
        rintro w' ⟨y, rfl⟩
        have HB2 := Lib.hid (HB1.out.trans (y.below.mono HB1.out.size))
        go_wp2_with fail
        go_ret
        exact ⟨by rw [hMf.out]; rfl, HB2.out⟩

      | true =>
        by_cases ht : t.size = 0
        · have hMf := Lib.hid (hfe.out ht)
          obtain rfl : t = ⟨#[]⟩ := ByteArray.ext (Array.toList_inj.1 (List.length_eq_zero_iff.1 (by simpa using ht)))
          clear hokx hfe hfn ht
          go_wp2_with fail
          rw [HW1.out]
          refine wp_region_ext (by kernel_rfl) (by kernel_rfl) ?_
          repeat (go_big_quiet_step (with_reducible exact ext_call (qN.out _)))
          refine wpQuiet_nil ?_
          rintro w' ⟨y, rfl⟩
          have HB2 := Lib.hid (HB1.out.trans (y.below.mono HB1.out.size))
          go_wp2_with fail
          go_ret
          exact ⟨by rw [hMf.out]; rfl, HB2.out⟩

        · have te := full_em ht
          have tn : ((t.size : Int) == 0) = false := by rw [beq_eq_false_iff_ne]; omega
          obtain ⟨H0, HJ⟩ := hokx.out rfl ht
          have H0 := Lib.hid H0
          have HJ := Lib.hid HJ
          clear hokx hfe hfn ht
          by_cases hk0 : k = 0
          · have hnx := Lib.hid (H0.out hk0)
            have e3 : decide ((0 : Int) < (k : Int)) = false := decide_eq_false (by omega)
            have e4 : decide (0 < k) = false := decide_eq_false (by omega)
            clear H0 HJ hk0
            go_wp2_with fail
            rw [HW1.out]
            refine wp_region_ext (by kernel_rfl) (by kernel_rfl) ?_
            repeat (go_big_quiet_step (with_reducible exact ext_call (qN.out _)))
            refine wpQuiet_nil ?_
            rintro w' ⟨y, rfl⟩
            have HB2 := Lib.hid (HB1.out.trans (y.below.mono HB1.out.size))
            go_wp2_with fail
            go_roundw
            case rel => exact ⟨k + 1, by go_num, by show _ ≤ _; omega, hnx.out, HB2.out⟩
            case measure => simp [intOf]; omega

          · obtain ⟨j, rfl⟩ : ∃ j, k = j + 1 := ⟨k - 1, by omega⟩
            have hgj : l[j]? = some (l[j]'(by omega)) := List.getElem?_eq_getElem (by omega)
            obtain ⟨b', o', he', hbl', k0, _⟩ := HCI.out j _ hgj
            cases he'
            obtain ⟨hyes, hno⟩ := HJ.out j _ rfl hgj
            have hyes := Lib.hid hyes
            have hno := Lib.hid hno
            generalize l[j]'(by omega) = g at *
            obtain ⟨gn, gt⟩ := g
            have k0 : wr.cell? ⟨b, o + j * 2, none⟩ = some (.string gn) := k0
            have k1 : w1.cell? ⟨b, o + j * 2, none⟩ = some (.string gn) := (HL.out.cell (p := ⟨b, o + j * 2, none⟩) hbl).trans k0
            have l2 : b < w1.heap.size := by omega
            have e1 : IntKind.i64.wrap (((j + 1 : Nat) : Int) - 1) = (j : Int) := by rw [show ((j + 1 : Nat) : Int) - 1 = (j : Int) by omega]; exact IntWalk.i64_in _ (by omega)
            have e2 : 0 ≤ (j : Int) := by omega
            have e3 : decide ((0 : Int) < ((j + 1 : Nat) : Int)) = true := decide_eq_true (by omega)
            clear hk0 H0 HJ hgj HCI
            obtain ⟨z, hz1⟩ : ∃ z, Op.bytesLess gn.toList s.toList = z := ⟨_, rfl⟩
            have hyes : Hid (z = true → mayK l (j + 1 + 1) = true) := fun h => hyes.out (hz1.trans h)
            have hno : Hid (z = false → M = false) := fun h => hno.out (hz1.trans h)
            cases z with
            | false =>
              have hMf := Lib.hid (hno.out rfl)
              clear hyes hno
              go_wp2_with fail
              rw [HW1.out]
              refine wp_region_ext (by kernel_rfl) (by kernel_rfl) ?_
              repeat (go_big_quiet_step (with_reducible exact ext_call (qN.out _)))
              refine wpQuiet_nil ?_
              rintro w' ⟨y, rfl⟩
              have HB2 := Lib.hid (HB1.out.trans (y.below.mono HB1.out.size))
              go_wp2_with fail
              go_ret
              exact ⟨by rw [hMf.out]; rfl, HB2.out⟩

            | true =>
              have hnx := Lib.hid (hyes.out rfl)
              clear hyes hno
              go_wp2_with fail
              rw [HW1.out]
              refine wp_region_ext (by kernel_rfl) (by kernel_rfl) ?_
              repeat (go_big_quiet_step (with_reducible exact ext_call (qN.out _)))
              refine wpQuiet_nil ?_
              rintro w' ⟨y, rfl⟩
              have HB2 := Lib.hid (HB1.out.trans (y.below.mono HB1.out.size))
              go_wp2_with fail
              go_roundw
              case rel => exact ⟨j + 1 + 1, by go_num, by show _ ≤ _; omega, hnx.out, HB2.out⟩
              case measure => simp [intOf]; omega

    · have hkk : k = l.length := by have := hk.out; omega
      have hMe : Hid (M = decide (l.length ≤ 4096)) := by
        show _ = _
        rw [hdef.out, ← hkk, hK.out, Bool.and_true]
      subst hkk
      clear hdef hf hK
      by_cases h4 : l.length ≤ 4096
      · have hMt : Hid (M = true) := hMe.out.trans (decide_eq_true h4)
        have t4 : decide ((l.length : Int) ≤ 4096) = true := decide_eq_true (by omega)
        go_wp2_with fail
        go_ret
        exact ⟨by rw [hMt.out]; rfl, hB.out⟩
      · have hMt : Hid (M = false) := hMe.out.trans (decide_eq_false h4)
        have t4 : decide ((l.length : Int) ≤ 4096) = false := decide_eq_false (by omega)
        go_wp2_with fail
        go_ret
        exact ⟨by rw [hMt.out]; rfl, hB.out⟩

set_option maxRecDepth 100000 in
set_option maxHeartbeats 4000000 in
theorem rMayF_any (v : Value) (l : List Fil) (w : World) (hv : Hid (FilesAt w v l)) (hl : l.length ≤ 1000000) (hz : Hid (∀ (i : Nat) (f : Fil), l[i]? = some f → f.1.size ≤ 9223372036854775807)) :
    Calls Tryd.prog 51 #[v] w fun e w' => e = .returned (.bool (mayF l)) ∧ Below w.heap.size w w' := by
  obtain ⟨A, c, rfl, _⟩ := hv.out
  have hdef : Hid (mayF l = (decide (l.length ≤ 4096) && mayK l l.length)) := rfl
  obtain ⟨M, hM⟩ : ∃ M, mayF l = M := ⟨_, rfl⟩
  have hf : Hid (∀ (k : Nat) (f : Fil), l[k]? = some f → okF l k f = false → M = false) := fun k f h1 h2 => by rw [← hM]; exact mayF_false h1 h2
  rw [hM] at hdef ⊢
  clear hM
  by_cases h4 : 4096 < l.length
  · have t1 : decide ((4096 : Int) < (l.length : Int)) = true := decide_eq_true (by omega)
    have hMf : Hid (M = false) := by show _ = _; rw [hdef.out, decide_eq_false (by omega)]; rfl
    clear hdef hf h4
    go_enter Tryd.func51, Tryd.ntmps51
    go_wp2_with fail
    go_ret
    exact ⟨by rw [hMf.out]; rfl, Below.refl _ _⟩
  have t1 : decide ((4096 : Int) < (l.length : Int)) = false := decide_eq_false (by omega)
  go_enter Tryd.func51, Tryd.ntmps51
  go_wp2_with fail
  go_loopw [3] (fun s7 wr => ∃ k : Nat, s7 = .int .i64 k ∧ Hid (k ≤ l.length) ∧ Hid (mayK l k = true) ∧ Hid (Below w.heap.size w wr)) (fun s7 _ => l.length - (intOf s7).toNat)
  case atStart => exact ⟨0, rfl, Nat.zero_le _, rfl, Below.refl _ _⟩
  case round =>
    obtain ⟨k, rfl, hk, hK, hB⟩ := hrel
    by_cases hkl : k < l.length
    · obtain ⟨A', c', hA', hci⟩ := (hv.out.call hB.out)
      cases hA'
      have hge : l[k]? = some l[k] := List.getElem?_eq_getElem hkl
      obtain ⟨b, o, rfl, hbl, h0, h1⟩ := hci k _ hge
      have HCI := Lib.hid hci
      have HGE := Lib.hid hge
      have zs := hz.out k _ hge
      clear hci hge
      generalize l[k] = f at *
      obtain ⟨s, t⟩ := f
      have h0 : wr.cell? ⟨b, o + k * 2, none⟩ = some (.string s) := h0
      have h1 : wr.cell? ⟨b, o + k * 2 + 1, none⟩ = some (.string t) := h1
      have qN := Lib.hid (fun w => (rNamed_any s w zs).mono fun e w' (h : e = .returned (.bool (namedS s)) ∧ w' = w) => (⟨h.1, h.2.symm⟩ : e = .returned (.bool (namedS s)) ∧ w = w'))
      have hfn : Hid (namedS s = false → M = false) := fun h => hf.out k _ HGE.out (okF_name h)
      have hfe : Hid (t.size = 0 → M = false) := fun h => hf.out k _ HGE.out (okF_empty h)
      have hokx : Hid (namedS s = true → ¬ t.size = 0 → (k = 0 → mayK l (k + 1) = true) ∧ (∀ j g, k = j + 1 → l[j]? = some g → (befS g.1 s = true → mayK l (k + 1) = true) ∧ (befS g.1 s = false → M = false))) := fun hn ht =>
        ⟨fun e => mayK_step HGE.out hK.out (by subst e; exact okF_first hn ht), fun j g e hg => ⟨fun hb => mayK_step HGE.out hK.out (by subst e; rw [okF_next hn ht hg]; exact hb), fun hb => hf.out k _ HGE.out (by subst e; rw [okF_next hn ht hg]; exact hb)⟩⟩
      obtain ⟨N, hN⟩ : ∃ N, namedS s = N := ⟨_, rfl⟩
      rw [hN] at qN hfn hokx
      clear hf hK hN hdef
      have HB1 := hB
      have l1 := hbl
      cases N with
      | false =>
        have hMf := Lib.hid (hfn.out rfl)
        clear hokx hfe hfn
        go_wp2_with fail
        refine wp_region_ext (by kernel_rfl) (by kernel_rfl) ?_
        repeat (go_big_quiet_step (with_reducible exact ext_call_same (qN.out _)))
        refine wpQuiet_nil ?_
        rintro w' ⟨y, rfl⟩
        have HB2 := Lib.hid (HB1.out.trans (y.below.mono HB1.out.size))
        go_wp2_with fail
        go_ret
        exact ⟨by rw [hMf.out]; rfl, HB2.out⟩

      | true =>
        by_cases ht : t.size = 0
        · have hMf := Lib.hid (hfe.out ht)
          obtain rfl : t = ⟨#[]⟩ := ByteArray.ext (Array.toList_inj.1 (List.length_eq_zero_iff.1 (by simpa using ht)))
          clear hokx hfe hfn ht
          go_wp2_with fail
          refine wp_region_ext (by kernel_rfl) (by kernel_rfl) ?_
          repeat (go_big_quiet_step (with_reducible exact ext_call_same (qN.out _)))
          refine wpQuiet_nil ?_
          rintro w' ⟨y, rfl⟩
          have HB2 := Lib.hid (HB1.out.trans (y.below.mono HB1.out.size))
          go_wp2_with fail
          go_ret
          exact ⟨by rw [hMf.out]; rfl, HB2.out⟩

        · have te := full_em ht
          have tn : ((t.size : Int) == 0) = false := by rw [beq_eq_false_iff_ne]; omega
          obtain ⟨H0, HJ⟩ := hokx.out rfl ht
          have H0 := Lib.hid H0
          have HJ := Lib.hid HJ
          clear hokx hfe hfn ht
          by_cases hk0 : k = 0
          · have hnx := Lib.hid (H0.out hk0)
            have e3 : decide ((0 : Int) < (k : Int)) = false := decide_eq_false (by omega)
            have e4 : decide (0 < k) = false := decide_eq_false (by omega)
            clear H0 HJ hk0
            go_wp2_with fail
            refine wp_region_ext (by kernel_rfl) (by kernel_rfl) ?_
            repeat (go_big_quiet_step (with_reducible exact ext_call_same (qN.out _)))
            refine wpQuiet_nil ?_
            rintro w' ⟨y, rfl⟩
            have HB2 := Lib.hid (HB1.out.trans (y.below.mono HB1.out.size))
            go_wp2_with fail
            go_roundw
            case rel => exact ⟨k + 1, by go_num, by show _ ≤ _; omega, hnx.out, HB2.out⟩
            case measure => simp [intOf]; omega

          · obtain ⟨j, rfl⟩ : ∃ j, k = j + 1 := ⟨k - 1, by omega⟩
            have hgj : l[j]? = some (l[j]'(by omega)) := List.getElem?_eq_getElem (by omega)
            obtain ⟨b', o', he', hbl', k0, _⟩ := HCI.out j _ hgj
            cases he'
            obtain ⟨hyes, hno⟩ := HJ.out j _ rfl hgj
            have hyes := Lib.hid hyes
            have hno := Lib.hid hno
            generalize l[j]'(by omega) = g at *
            obtain ⟨gn, gt⟩ := g
            have k0 : wr.cell? ⟨b, o + j * 2, none⟩ = some (.string gn) := k0
            have e1 : IntKind.i64.wrap (((j + 1 : Nat) : Int) - 1) = (j : Int) := by rw [show ((j + 1 : Nat) : Int) - 1 = (j : Int) by omega]; exact IntWalk.i64_in _ (by omega)
            have e2 : 0 ≤ (j : Int) := by omega
            have e3 : decide ((0 : Int) < ((j + 1 : Nat) : Int)) = true := decide_eq_true (by omega)
            clear hk0 H0 HJ hgj HCI
            obtain ⟨z, hz1⟩ : ∃ z, Op.bytesLess gn.toList s.toList = z := ⟨_, rfl⟩
            have hyes : Hid (z = true → mayK l (j + 1 + 1) = true) := fun h => hyes.out (hz1.trans h)
            have hno : Hid (z = false → M = false) := fun h => hno.out (hz1.trans h)
            cases z with
            | false =>
              have hMf := Lib.hid (hno.out rfl)
              clear hyes hno
              go_wp2_with fail
              refine wp_region_ext (by kernel_rfl) (by kernel_rfl) ?_
              repeat (go_big_quiet_step (with_reducible exact ext_call_same (qN.out _)))
              refine wpQuiet_nil ?_
              rintro w' ⟨y, rfl⟩
              have HB2 := Lib.hid (HB1.out.trans (y.below.mono HB1.out.size))
              go_wp2_with fail
              go_ret
              exact ⟨by rw [hMf.out]; rfl, HB2.out⟩

            | true =>
              have hnx := Lib.hid (hyes.out rfl)
              clear hyes hno
              go_wp2_with fail
              refine wp_region_ext (by kernel_rfl) (by kernel_rfl) ?_
              repeat (go_big_quiet_step (with_reducible exact ext_call_same (qN.out _)))
              refine wpQuiet_nil ?_
              rintro w' ⟨y, rfl⟩
              have HB2 := Lib.hid (HB1.out.trans (y.below.mono HB1.out.size))
              go_wp2_with fail
              go_roundw
              case rel => exact ⟨j + 1 + 1, by go_num, by show _ ≤ _; omega, hnx.out, HB2.out⟩
              case measure => simp [intOf]; omega

    · have hkk : k = l.length := by have := hk.out; omega
      have hMe : Hid (M = decide (l.length ≤ 4096)) := by
        show _ = _
        rw [hdef.out, ← hkk, hK.out, Bool.and_true]
      subst hkk
      clear hdef hf hK
      have hMt : Hid (M = true) := by show _ = _; rw [hMe.out]; exact decide_eq_true (by omega)
      go_wp2_with fail
      go_ret
      exact ⟨by rw [hMt.out]; rfl, hB.out⟩

theorem bytes_ne {a b : ByteArray} (h : ¬ a = b) : (a.toList == b.toList) = false := by
  rw [beq_eq_false_iff_ne, ByteArray.toList_eq, ByteArray.toList_eq]
  intro h2
  exact h (ByteArray.ext (Array.toList_inj.1 h2))
set_option maxRecDepth 100000 in
set_option maxHeartbeats 1000000 in
theorem SameF_any (v1 v2 : Value) (l1 l2 : List Fil) (w : World) (h1 : Hid (FilesAt w v1 l1)) (h2 : Hid (FilesAt w v2 l2)) (hn1 : l1.length ≤ 1000000) (hn2 : l2.length ≤ 1000000) :
    Calls Tryd.prog 54 #[v1, v2] w fun e w' => e = .returned (.bool (decide (l1 = l2))) ∧ Below w.heap.size w w' := by
  obtain ⟨A1, c1, rfl, hi1⟩ := h1.out
  obtain ⟨A2, c2, rfl, hi2⟩ := h2.out
  by_cases hl : l1.length = l2.length
  · have H1 := Lib.hid hi1
    have H2 := Lib.hid hi2
    have hext : Hid ((∀ j : Nat, j < l1.length → l1[j]? = l2[j]?) → l1 = l2) := fun hh => by
      apply List.ext_getElem?
      intro i
      by_cases hi : i < l1.length
      · exact hh i hi
      · rw [List.getElem?_eq_none (by omega), List.getElem?_eq_none (by omega)]
    have hne : Hid (∀ (i : Nat) (s t : Fil), l1[i]? = some s → l2[i]? = some t → ¬ s = t → ¬ l1 = l2) := fun i s t hs ht hst he => by
      rw [he, ht] at hs
      exact hst (Option.some.inj hs).symm
    have hg1 : Hid (∀ i : Nat, i < l1.length → ∃ s, l1[i]? = some s) := fun i hi => ⟨_, List.getElem?_eq_getElem hi⟩
    have hg2 : Hid (∀ i : Nat, i < l1.length → ∃ s, l2[i]? = some s) := fun i hi => ⟨_, List.getElem?_eq_getElem (by omega)⟩
    rw [← hl]
    clear hi1 hi2 h1 h2
    obtain ⟨n, hn⟩ : ∃ n, l1.length = n := ⟨_, rfl⟩
    rw [hn] at hext hg1 hg2 hn1 ⊢
    obtain ⟨D, hD⟩ : ∃ D, decide (l1 = l2) = D := ⟨_, rfl⟩
    rw [hD]
    have HD := Lib.hid hD
    clear hl hn hD hn2
    go_enter Tryd.func54, Tryd.ntmps54
    go_wp2_with fail
    go_loopw [5] (fun iv wr => ∃ i : Nat, iv = .int .i64 i ∧ Hid (i ≤ n) ∧ Hid (∀ j, j < i → l1[j]? = l2[j]?) ∧ Hid (∃ d, wr = w.drewN d)) (fun iv _ => n - (intOf iv).toNat)
    case atStart => exact ⟨0, rfl, Nat.zero_le _, fun j hj => by omega, ⟨0, rfl⟩⟩
    case round =>
      obtain ⟨i, rfl, hi, hj, hd⟩ := hrel
      obtain ⟨d, rfl⟩ := hd.out
      have hi2 := hi.out
      by_cases hlt : i < n
      · obtain ⟨s, hs⟩ := hg1.out i hlt
        obtain ⟨t, ht⟩ := hg2.out i hlt
        obtain ⟨b1, o1, rfl, hb1, k1, m1⟩ := H1.out i s hs
        obtain ⟨b2, o2, rfl, hb2, k2, m2⟩ := H2.out i t ht
        have HS := Lib.hid hs
        have HT := Lib.hid ht
        obtain ⟨s0, s1⟩ := s
        obtain ⟨t0, t1⟩ := t
        simp only [] at k1 m1 k2 m2
        clear hs ht hi
        by_cases hst : s0 = t0 ∧ s1 = t1
        · have hjn : Hid (∀ j, j < i + 1 → l1[j]? = l2[j]?) := fun j hj2 => by
            by_cases hji : j < i
            · exact hj.out j hji
            · obtain rfl : j = i := by omega
              rw [HS.out, HT.out, hst.1, hst.2]
          obtain ⟨rfl, rfl⟩ := hst
          have hb0 : (s0.toList == s0.toList) = true := by simp
          have hb1' : (s1.toList == s1.toList) = true := by simp
          clear hj HS HT
          go_wp2_with fail
          go_quiet (fail)
          go_wp2_with fail
          go_roundw
          case rel => exact ⟨i + 1, by go_num, by show _ ≤ _; omega, hjn, ⟨_, rfl⟩⟩
          case measure => simp [intOf]; omega
        · have hDf : D = false := by rw [← HD.out]; exact decide_eq_false (hne.out i _ _ HS.out HT.out (fun h => hst (by cases h; exact ⟨rfl, rfl⟩)))
          subst hDf
          clear hj HS HT
          by_cases h0 : s0 = t0
          · have h1' : ¬ s1 = t1 := fun h => hst ⟨h0, h⟩
            have hb0 : (s0.toList == t0.toList) = true := by rw [h0]; simp
            have hb1' := bytes_ne h1'
            clear h0 h1' hst
            go_wp2_with fail
            go_quiet (fail)
            go_wp2_with fail
            go_ret
            exact ⟨rfl, below_drewN (below_drewN (Below.refl _ _) _) _⟩
          · have hb0 := bytes_ne h0
            clear h0 hst
            go_wp2_with fail
            go_quiet (fail)
            go_wp2_with fail
            go_ret
            exact ⟨rfl, below_drewN (below_drewN (Below.refl _ _) _) _⟩
      · have hin : i = n := by omega
        subst hin
        have hDt : D = true := by rw [← HD.out]; exact decide_eq_true (hext.out hj.out)
        subst hDt
        clear hj hi
        go_wp2_with fail
        go_ret
        exact ⟨rfl, below_drewN (Below.refl _ _) _⟩
  · rw [decide_eq_false (show ¬ l1 = l2 from fun h => hl (by rw [h]))]
    have t1 : ((l1.length : Int) != (l2.length : Int)) = true := by simp; omega
    clear hi1 hi2 h1 h2 hl
    generalize l1.length = n1 at *
    generalize l2.length = n2 at *
    go_enter Tryd.func54, Tryd.ntmps54
    go_wp2_with fail
    go_ret
    exact ⟨rfl, Below.refl _ _⟩

end Go.Proofs.YtaigngdlioplaaaDoor
