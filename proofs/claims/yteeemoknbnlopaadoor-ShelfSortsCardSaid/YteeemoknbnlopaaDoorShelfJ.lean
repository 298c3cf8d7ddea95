/- The walk of ShelfSorts. -/
import Derived.Test.YteeemoknbnlopaaDoorShelfI
namespace Go.Proofs.YteeemoknbnlopaaDoor
open Go Go.RowKit Go.Maps Go.WideMaps Shelf
open Go.ChangeShapes (lits)
set_option linter.unusedVariables false

set_option maxRecDepth 100000 in
set_option maxHeartbeats 4000000 in
theorem ShelfSorts_walk (v : Value) (l : List ByteArray) (w : World) (hT : Hid (TabW w)) (hv : Hid (StrsAt w v l)) (hl : l.length ≤ 9223372036854775807) (hz : Hid (∀ (i : Nat) (s : ByteArray), l[i]? = some s → s.size ≤ 9223372036854775807)) :
    Calls Tryd.prog 5 #[v] w fun e w' => e = .returned (.bool true) ∧ Below w.heap.size w w' := by
  have a0 := Lib.hid (alive10 w hT)
  obtain ⟨A, c, rfl, hlc, _⟩ := hv.out
  by_cases h60 : 60 < l.length
  · have t1 : decide ((60 : Int) < (l.length : Int)) = true := decide_eq_true (by omega)
    clear h60
    go_enter Tryd.func5, Tryd.ntmps5
    go_wp2_with fail
    refine a0.out.mono ?_
    rintro e w1 ⟨rfl, hb⟩
    have HB1 := Lib.hid hb
    clear hb
    go_wp2_with fail
    go_ret
    exact ⟨rfl, HB1.out⟩
  · have t1 : decide ((60 : Int) < (l.length : Int)) = false := decide_eq_false (by omega)
    have hl60 : l.length ≤ 60 := by omega
    clear h60 hl
    go_enter Tryd.func5, Tryd.ntmps5
    go_wp2_with fail
    refine a0.out.mono ?_
    rintro e w1 ⟨rfl, hb⟩
    have HB1 := Lib.hid hb
    have hv1 := Lib.hid (hv.out.call hb)
    clear hb
    have h00 : Hid (w1.ownsRow w1.heap.size 31 2 (.slice none 0 0) 0 (filesC (l.take 0))) := World.ownsRow_nil _ _ _ _
    go_wp2_with fail
    go_loopw [3, 4] (fun s3 s4 wr => ∃ (k : Nat) (v3 : Value), v3 = s3 ∧ s4 = .int .i64 k ∧ Hid (k ≤ l.length) ∧ Hid (wr.ownsRow w1.heap.size 31 2 v3 k (filesC (l.take k))) ∧ Hid (∀ (i : Nat) (s : ByteArray), (l.take k)[i]? = some s → s.size ≤ 100) ∧ Hid (Below w1.heap.size w1 wr) ∧ Hid (w1.heap.size ≤ wr.heap.size)) (fun _ s4 _ => l.length - (intOf s4).toNat)
    case atStart => exact ⟨0, _, rfl, rfl, Nat.zero_le _, h00.out, fun i s hs => by simp at hs, Below.refl _ _, Nat.le_refl _⟩
    case round =>
      obtain ⟨k, v3, rfl, rfl, hk, hO, hZ, hB, hS⟩ := hrel
      by_cases hkl : k < l.length
      · obtain ⟨A', c', hA', _, hci⟩ := (hv1.out.call hB.out)
        cases hA'
        have hge : l[k]? = some l[k] := List.getElem?_eq_getElem hkl
        obtain ⟨b, o, rfl, hbl, hck⟩ := hci k _ hge
        have htk : Hid (l.take (k + 1) = l.take k ++ [l[k]]) := List.take_succ_eq_append_getElem hkl
        have hltk : Hid ((l.take k).length = k) := by show _ = _; rw [List.length_take]; omega
        have hzs := hz.out k _ hge
        generalize l[k] = s at *
        clear hge hci
        have hk60 : k ≤ 60 := by omega
        by_cases h100 : 100 < s.size
        · have t2 : decide ((100 : Int) < (s.size : Int)) = true := decide_eq_true (by omega)
          clear h100
          go_wp2_with fail
          go_ret
          exact ⟨rfl, HB1.out.trans (hB.out.mono HB1.out.size)⟩
        · have t2 : decide ((100 : Int) < (s.size : Int)) = false := decide_eq_false (by omega)
          have hZ2 : Hid (∀ (i : Nat) (s' : ByteArray), (l.take k ++ [s])[i]? = some s' → s'.size ≤ 100) := fun i s' hs => by
            rw [List.getElem?_append] at hs
            split at hs
            · exact hZ.out i s' hs
            · match hx : i - (l.take k).length, hs with
              | 0, hs => simp at hs; subst hs; omega
              | j + 1, hs => simp at hs
          clear h100
          go_wp2_with (at_builtin; refine wpList_append_two _ _ _ _ _ _ el_file (.string s) (.string ⟨#[]⟩) _ _ _ (Below.refl _ _) hO hS.out rfl rfl rfl rfl rfl rfl (by omega) (by decide) ?_; intro v4 w4 hown4 hb4 hB4; refine Hid.out ?_)
          refine Lib.hid ?_
          have HBb := Lib.hid (hB.out.trans hb4)
          go_wp2_with fail
          go_roundw
          case rel => exact ⟨k + 1, v4, rfl, by go_num, by show _ ≤ _; omega, by rw [htk.out, filesC_snoc]; exact hown4.out, by rw [htk.out]; exact hZ2.out, HBb.out, hB4⟩
          case measure => simp [intOf]; omega
      · have hkk : k = l.length := by have := hk.out; omega
        subst hkk
        rw [List.take_length] at hO hZ
        have qS := Lib.hid (Sorted_any v3 l wr (Lib.hid (own_files hO.out)) hl60 hZ)
        have hF := Lib.hid (own_files hO.out)
        have qN := Lib.hid (fun κ w h => Numbers_any v3 l κ w h hl60 hZ)
        have HB2 := Lib.hid (HB1.out.trans (hB.out.mono HB1.out.size))
        clear hO hB hS hZ hk h00 hv1 HB1 hkl
        go_wp2_with fail
        refine qS.out.mono ?_
        rintro e w3 ⟨⟨rfl, D, hD, hG⟩, hb⟩
        have hD := Lib.hid hD
        have hG := Lib.hid hG
        have hF3 := Lib.hid (hF.out.call hb)
        have HB3 := Lib.hid (HB2.out.trans (hb.mono HB2.out.size))
        have hgb : Hid (wr.heap.size ≤ w3.heap.size) := hb.size
        clear hb hF qS
        go_wp2_with fail
        go_loopw [6, 7] (fun s6 s7 wq => ∃ (j : Nat), s6 = .int .i64 (cntTo l j) ∧ s7 = .int .i64 j ∧ Hid (j ≤ 4) ∧ Hid (Below w3.heap.size w3 wq)) (fun _ s7 _ => 4 - (intOf s7).toNat)
        case atStart => exact ⟨0, rfl, rfl, by show _ ≤ _; omega, Below.refl _ _⟩
        case round =>
          obtain ⟨j, rfl, rfl, hj, hBq⟩ := hrel
          have hGq := Lib.hid (hG.out.call hBq.out)
          have hFq := Lib.hid (hF3.out.call hBq.out)
          have hcl := cntTo_le l j
          by_cases hj4 : j < 4
          · have t3 : decide ((j : Int) < 4) = true := decide_eq_true (by omega)
            have qq := Lib.hid (qN.out j _ hFq)
            have hZl := numsP_len j l
            have hcs : Hid (cntTo l (j + 1) = cntTo l j + (if numsP j l = [] then 0 else 1)) := rfl
            generalize hZ : numsP (j : Int) l = Z at *
            obtain ⟨bz, hbz⟩ : ∃ bz, decide (Z ≠ []) = bz := ⟨_, rfl⟩
            have hbz2 : decide ((0 : Int) < (Z.length : Int)) = bz := by
              rw [← hbz]
              cases Z with
              | nil => rfl
              | cons a r =>
                rw [decide_eq_true (show a :: r ≠ [] by simp), decide_eq_true (show (0 : Int) < ((a :: r).length : Int) by rw [List.length_cons]; omega)]
            have hbz3 : decide (0 < Z.length) = bz := by
              rw [← hbz2]
              exact decide_eq_decide.2 (by omega)
            have hZ60 : Z.length ≤ 60 := by omega
            have HBZ := Lib.hid hbz
            have HZ := Lib.hid hZ
            clear hbz hZ
            go_wp2_with fail
            refine qq.out.mono ?_
            rintro e w5 ⟨⟨v8, rfl, ho8⟩, hb⟩
            obtain ⟨A8, c8, rfl, _, hc8⟩ := ints_form ho8
            have hc8 := Lib.hid hc8
            have hG5 := Lib.hid (hGq.out.call hb)
            have HB5 := Lib.hid (hBq.out.trans (hb.mono hBq.out.size))
            clear hb ho8 hGq hFq qq
            go_wp2_with (at_lookup; refine lookup_grp hG5 hD (j : Int) (by omega) (by omega) Z HZ.out bz HBZ.out _ _ rfl rfl rfl rfl ?_; intro A9 c9 ho9)
            obtain ⟨A92, c92, hA9, _, hc9⟩ := ints_form ho9.out
            cases hA9
            have hc9 := Lib.hid hc9
            clear ho9
            go_loopw [11] (fun s11 w6 => ∃ (i : Nat), s11 = .int .i64 i ∧ Hid (i ≤ Z.length) ∧ Hid (Below w5.heap.size w5 w6)) (fun s11 _ => Z.length - (intOf s11).toNat)
            case atStart => exact ⟨0, rfl, Nat.zero_le _, Below.refl _ _⟩
            case round =>
              obtain ⟨i, rfl, hi, hB6⟩ := hrel
              by_cases hiZ : i < Z.length
              · have hge : (Z.map (Value.int .i64))[i]? = some (.int .i64 Z[i]) := by rw [List.getElem?_map, List.getElem?_eq_getElem hiZ]; rfl
                obtain ⟨b8, o8, rfl, hb8, hk8⟩ := hc8.out i _ hiZ hge
                obtain ⟨b9, o9, rfl, hb9, hk9⟩ := hc9.out i _ hiZ hge
                have hr8 := (hB6.out.cell (p := ⟨b8, o8 + i, none⟩) hb8).trans hk8
                have hr9 := (hB6.out.cell (p := ⟨b9, o9 + i, none⟩) hb9).trans hk9
                generalize Z[i] = u at *
                clear hge hk8 hk9
                go_wp2_with fail
                go_region
                go_wp2_with fail
                go_roundw
                case rel => exact ⟨i + 1, by go_num, by show _ ≤ _; omega, hB6.out.drew⟩
                case measure => simp [intOf]; omega
              · have hiz : i = Z.length := by have := hi.out; omega
                subst hiz
                have HB6 := Lib.hid (HB5.out.trans (hB6.out.mono HB5.out.size))
                cases bz with
                | true =>
                  have hne : Z ≠ [] := of_decide_eq_true HBZ.out
                  have hc2 := Lib.hid (hcs.out.trans (by rw [if_neg hne]))
                  go_wp2_with fail
                  go_roundw
                  case rel => exact ⟨j + 1, by rw [hc2.out]; go_num, by go_num, by show _ ≤ _; omega, HB6.out⟩
                  case measure => simp [intOf]; omega
                | false =>
                  have hne : Z = [] := by
                    have := of_decide_eq_false HBZ.out
                    exact Classical.byContradiction this
                  have hc2 := Lib.hid (hcs.out.trans (by rw [if_pos hne]))
                  clear hne
                  go_wp2_with fail
                  go_roundw
                  case rel => exact ⟨j + 1, by rw [hc2.out]; go_num, by go_num, by show _ ≤ _; omega, HB6.out⟩
                  case measure => simp [intOf]; omega
          · have hj44 : j = 4 := by have := hj.out; omega
            subst hj44
            go_wp2_with (at_len; refine len_grp hGq hD _ rfl rfl rfl ?_)
            go_ret
            exact ⟨by simp, HB3.out.trans (hBq.out.mono HB3.out.size)⟩
end Go.Proofs.YteeemoknbnlopaaDoor
