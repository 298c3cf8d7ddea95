/- The tree: Proof. -/
import Derived.Test.YtaigngdlioplaaaDoorTreeB
import Derived.Test.YtaigngdlioplaaaDoorShaE
import Derived.Test.YtaigngdlioplaaaDoorRegH
import Derived.Test.YtaigngdlioplaaaDoorOwn
import Derived.Laws.OwnMore
namespace Go.Proofs.YtaigngdlioplaaaDoor
open Go Go.RowKit

theorem el_tx : Elt Tryd.prog 47 9 (.string ⟨#[]⟩) 1 16 := Elt.mk' Tryd.underlying47 (by kernel_rfl) rfl (by decide)

/-- A list, turned about at i of its elements from both ends on. -/
def revK (xs : List ByteArray) (i : Nat) : List ByteArray := (List.range xs.length).map fun p => if p < i ∨ xs.length ≤ p + i then xs[xs.length - 1 - p]?.getD ⟨#[]⟩ else xs[p]?.getD ⟨#[]⟩
theorem revK_len (xs : List ByteArray) (i : Nat) : (revK xs i).length = xs.length := by unfold revK; simp
theorem revK_get (xs : List ByteArray) (i p : Nat) (h : p < xs.length) : (revK xs i)[p]? = some (if p < i ∨ xs.length ≤ p + i then xs[xs.length - 1 - p]?.getD ⟨#[]⟩ else xs[p]?.getD ⟨#[]⟩) := by
  unfold revK
  rw [List.getElem?_map, List.getElem?_range h]
  rfl
theorem revK_zero (xs : List ByteArray) : revK xs 0 = xs := by
  apply List.ext_getElem?
  intro p
  by_cases h : p < xs.length
  · rw [revK_get xs 0 p h, if_neg (by omega), List.getElem?_eq_getElem h]; rfl
  · rw [List.getElem?_eq_none (by rw [revK_len]; omega), List.getElem?_eq_none (by omega)]
theorem revK_mid (xs : List ByteArray) (i p : Nat) (h : p < xs.length) (h1 : ¬ p < i) (h2 : ¬ xs.length ≤ p + i) : (revK xs i)[p]? = some (xs[p]?.getD ⟨#[]⟩) := by
  rw [revK_get xs i p h, if_neg (by omega)]
theorem revK_step (xs : List ByteArray) (i j : Nat) (hj : i + j + 1 = xs.length) (hij : i < j) : ((revK xs i).set i (xs[j]?.getD ⟨#[]⟩)).set j (xs[i]?.getD ⟨#[]⟩) = revK xs (i + 1) := by
  apply List.ext_getElem?
  intro p
  by_cases h : p < xs.length
  · rw [List.getElem?_set, List.getElem?_set]
    simp only [List.length_set, revK_len]
    rw [revK_get xs i p h, revK_get xs (i + 1) p h]
    by_cases h1 : j = p
    · subst h1
      rw [if_pos rfl, if_pos h, if_pos (by omega), show xs.length - 1 - j = i by omega]
    · rw [if_neg h1]
      by_cases h2 : i = p
      · subst h2
        rw [if_pos rfl, if_pos h, if_pos (by omega), show xs.length - 1 - i = j by omega]
      · rw [if_neg h2]
        by_cases h3 : p < i ∨ xs.length ≤ p + i
        · rw [if_pos h3, if_pos (by omega)]
        · rw [if_neg h3, if_neg (by omega)]
  · rw [List.getElem?_eq_none (by simp only [List.length_set, revK_len]; omega), List.getElem?_eq_none (by rw [revK_len]; omega)]
theorem revK_done (xs : List ByteArray) (i : Nat) (h : xs.length ≤ 2 * i + 1) : revK xs i = xs.reverse := by
  apply List.ext_getElem?
  intro p
  by_cases hp : p < xs.length
  · rw [revK_get xs i p hp, List.getElem?_reverse hp]
    have e1 : xs[xs.length - 1 - p]? = some (xs[xs.length - 1 - p]'(by omega)) := List.getElem?_eq_getElem _
    by_cases h3 : p < i ∨ xs.length ≤ p + i
    · rw [if_pos h3, e1]; rfl
    · rw [if_neg h3]
      have e2 : xs.length - 1 - p = p := by omega
      rw [e2, List.getElem?_eq_getElem hp]
      rfl
  · rw [List.getElem?_eq_none (by rw [revK_len]; omega), List.getElem?_eq_none (by rw [List.length_reverse]; omega)]
theorem map_get (xs : List ByteArray) (i : Nat) (h : i < xs.length) : (xs.map Value.string)[i]? = some (.string (xs[i]?.getD ⟨#[]⟩)) := by
  rw [List.getElem?_map, List.getElem?_eq_getElem h]
  rfl
theorem map_set_str (xs : List ByteArray) (i : Nat) (s : ByteArray) : (xs.map Value.string).set i (.string s) = (xs.set i s).map Value.string := by rw [List.map_set]

/-- What Proof answers: the error. -/
def proofE (c : Nat) (k n : Int) : Int := if rightE c n = 0 then (if k < 0 ∨ (c : Int) ≤ k then 11 else 0) else rightE c n
theorem StrsAt.slice_len {w : World} {v : Value} {l : List ByteArray} (h : StrsAt w v l) : ∃ A c, v = .slice A l.length c := by
  obtain ⟨A, c, hv, _⟩ := h
  exact ⟨A, c, hv⟩

set_option maxRecDepth 100000 in
set_option maxHeartbeats 1000000 in
theorem Proof_good (K : Nat → Int) (H : St) (n : Int) (l : List ByteArray) (k : Nat) (v : Value) (w : World) (hn : Hid (I64 n)) (hT : Hid (ShaT w K H)) (hv : Hid (StrsAt w v l)) (hF : Hid (Fine l)) (h4 : l.length ≤ 4096) (hR : rightE l.length n = 0) (hk : k < l.length) :
    Calls Tryd.prog 35 #[v, .int .i64 k, .int .i64 n] w fun e w' => (∃ v', e = .returned (.tuple #[v', .int .i64 0]) ∧ w'.ownsRow w.heap.size 9 1 v' (proofS K H n l k).length ((proofS K H n l k).map Value.string)) ∧ Below w.heap.size w w' := by
  obtain ⟨A, c, rfl⟩ := hv.out.slice_len
  have q1 := Lib.hid (fun w => right_any A l.length c n w (by omega))
  rw [hR] at q1
  have hl0 : Hid (proofS K H n l k = proofS K H n l k ++ ([] : List ByteArray).reverse) := by show _ = _; simp
  have hlen : Hid (l.length = l.length + ([] : List ByteArray).length) := rfl
  have hkk : Hid (k < l.length) := hk
  obtain ⟨Z, hZ⟩ : ∃ Z, proofS K H n l k = Z := ⟨_, rfl⟩
  rw [hZ] at hl0 ⊢
  have HZ := Lib.hid hZ
  obtain ⟨M, hM⟩ : ∃ M, l.length = M := ⟨_, rfl⟩
  have HM := Lib.hid hM
  rw [hM] at q1 h4 hk hv ⊢
  clear hR hZ hM
  have hd0 : decide ((k : Int) < 0) = false := by simp
  have hd1 : decide (M ≤ k) = false := by simp; omega
  go_enter Tryd.func35, Tryd.ntmps35
  go_wp2_with fail
  refine (q1.out _).mono ?_
  rintro e w1 ⟨rfl, rfl⟩
  go_wp2_with fail
  go_loopw [0, 1, 9] (fun lv kv ov wr => ∃ (l' : List ByteArray) (k' : Nat) (xs : List ByteArray), kv = .int .i64 k' ∧ Hid (StrsAt w lv l') ∧ Hid (k' < l'.length) ∧ Hid (l'.length + xs.length ≤ M) ∧ Hid (Fine l') ∧ Hid (wr.ownsRow w.heap.size 9 1 ov xs.length (xs.map Value.string)) ∧ Hid (Below w.heap.size w wr) ∧ Hid (Z = proofS K H n l' k' ++ xs.reverse)) (fun lv _ _ _ => lenV lv)
  case atStart => exact ⟨l, k, [], rfl, hv, hkk, by show _ ≤ _; rw [HM.out]; exact Nat.le_refl _, hF, World.ownsRow_nil _ _ _ _, Below.refl _ _, by show _ = _; rw [HZ.out]; exact hl0.out⟩
  case round =>
    obtain ⟨l', k', xs, rfl, hs, hk', hlx, hf, hown, hB, hZ⟩ := hrel
    obtain ⟨A', c', rfl⟩ := hs.out.slice_len
    have hbw := hB.out.size
    have hlx2 := hlx.out
    have hkl := hk'.out
    by_cases hone : 1 < l'.length
    · have q2 := Lib.hid (fun w hv => sides_any (.slice A' l'.length c') l' w hv hone (by omega))
      have hs2 := splitN_lt l'.length hone
      have zl := proofS_left K H n l' k' hone
      have zr := proofS_right K H n l' k' hone
      have q3 := Lib.hid (fun v w hT hv => troot_any K H n hn _ (l'.drop (splitN l'.length)) v w rfl hT hv (Lib.hid (hf.out.drop _)) (by rw [List.length_drop]; omega))
      have q4 := Lib.hid (fun v w hT hv => troot_any K H n hn _ (l'.take (splitN l'.length)) v w rfl hT hv (Lib.hid (hf.out.take _)) (by rw [List.length_take]; omega))
      have t1 : (l'.take (splitN l'.length)).length = splitN l'.length := by rw [List.length_take]; omega
      have t2 : (l'.drop (splitN l'.length)).length = l'.length - splitN l'.length := by rw [List.length_drop]
      have ft := Lib.hid (hf.out.take (splitN l'.length))
      have fd := Lib.hid (hf.out.drop (splitN l'.length))
      have T1 := Lib.hid t1
      have T2 := Lib.hid t2
      have hsW := Lib.hid (hs.out.call hB.out)
      have hTr := Lib.hid (hT.out.call hB.out)
      generalize hm : splitN l'.length = m at *
      generalize rootS K H n (l'.drop m) = R2 at *
      generalize rootS K H n (l'.take m) = R1 at *
      obtain ⟨N, hN⟩ : ∃ N, l'.length = N := ⟨_, rfl⟩
      have HNl := Lib.hid hN
      rw [hN] at q2 hs hsW hone hs2 T2 hlx2 hkl ⊢
      obtain ⟨hm1, hm2⟩ := hs2
      have hxs : Hid (xs.length + 1 ≤ 1099511627776) := by show _ ≤ _; omega
      clear hm hN hk' hlx hf t1 t2
      by_cases hkm : k' < m
      · have Z2 : Hid (Z = proofS K H n (l'.take m) k' ++ (xs ++ [R2]).reverse) := by
          show _ = _
          rw [hZ.out, zl hkm]
          simp
        clear zl zr hZ q4
        go_wp2_with fail
        refine (q2.out _ hsW).mono ?_
        rintro e w2 ⟨A1, A2, c2, d, rfl, rfl, h12⟩
        obtain ⟨s1, s2⟩ := h12 w hs.out
        have HB2 := Lib.hid (below_drewN hB.out d)
        have hown2 := Lib.hid (own_drewN hown.out d)
        have S1 := Lib.hid s1
        have S2 := Lib.hid (s2.call HB2.out)
        have hT2 := Lib.hid (hT.out.call HB2.out)
        clear h12 s1 s2 hown
        go_wp2_with fail
        refine (q3.out _ _ hT2 S2).mono ?_
        rintro e w3 ⟨rfl, hb3⟩
        have HB3 := Lib.hid (HB2.out.trans (hb3.mono HB2.out.size))
        have hown3 := Lib.hid (hown2.out.call hb3)
        have hbw3 := HB3.out.size
        clear hb3 hown2
        go_wp2_with (at_builtin; refine wpList_append_grow _ _ _ _ _ _ el_tx _ _ _ _ hown3 hbw3 rfl rfl rfl rfl rfl hxs.out (by decide) ?_; intro v4 w4 hown4 hg4
                     have HB4 := Lib.hid (HB3.out.trans (app_keeps hown3.out hbw3 hg4.out).2)
                     clear hg4)
        go_roundw
        case rel => exact ⟨l'.take m, k', xs ++ [R2], rfl, S1, by show _ < _; rw [T1.out]; exact hkm, by show _ ≤ _; rw [T1.out, List.length_append]; simp; omega, ft, by rw [List.length_append, List.map_append]; exact hown4.out, HB4, Z2⟩
        case measure => simp [lenV]; omega
      · have Z2 : Hid (Z = proofS K H n (l'.drop m) (k' - m) ++ (xs ++ [R1]).reverse) := by
          show _ = _
          rw [hZ.out, zr hkm]
          simp
        clear zl zr hZ q3
        go_wp2_with fail
        refine (q2.out _ hsW).mono ?_
        rintro e w2 ⟨A1, A2, c2, d, rfl, rfl, h12⟩
        obtain ⟨s1, s2⟩ := h12 w hs.out
        have HB2 := Lib.hid (below_drewN hB.out d)
        have hown2 := Lib.hid (own_drewN hown.out d)
        have S1 := Lib.hid (s1.call HB2.out)
        have S2 := Lib.hid s2
        have hT2 := Lib.hid (hT.out.call HB2.out)
        clear h12 s1 s2 hown
        go_wp2_with fail
        refine (q4.out _ _ hT2 S1).mono ?_
        rintro e w3 ⟨rfl, hb3⟩
        have HB3 := Lib.hid (HB2.out.trans (hb3.mono HB2.out.size))
        have hown3 := Lib.hid (hown2.out.call hb3)
        have hbw3 := HB3.out.size
        clear hb3 hown2
        go_wp2_with (at_builtin; refine wpList_append_grow _ _ _ _ _ _ el_tx _ _ _ _ hown3 hbw3 rfl rfl rfl rfl rfl hxs.out (by decide) ?_; intro v4 w4 hown4 hg4
                     have HB4 := Lib.hid (HB3.out.trans (app_keeps hown3.out hbw3 hg4.out).2)
                     clear hg4)
        go_roundw
        case rel => exact ⟨l'.drop m, k' - m, xs ++ [R1], by go_num, S2, by show _ < _; rw [T2.out]; omega, by show _ ≤ _; rw [T2.out, List.length_append]; simp; omega, fd, by rw [List.length_append, List.map_append]; exact hown4.out, HB4, Z2⟩
        case measure => simp [lenV]; omega
    · have zo := proofS_one K H n l' k' (by omega)
      have hZ2 : Hid (Z = xs.reverse) := by show _ = _; rw [hZ.out, zo, List.nil_append]
      have hr0 : Hid (wr.ownsRow w.heap.size 9 1 u9 xs.length ((revK xs 0).map Value.string)) := by rw [revK_zero]; exact hown
      obtain ⟨X, hX⟩ : ∃ X, xs.length = X := ⟨_, rfl⟩
      have HX := Lib.hid hX
      have hfin : Hid (∀ i : Nat, X ≤ 2 * i + 1 → revK xs i = Z) := fun i hi => by rw [hZ2.out]; exact revK_done xs i (by rw [HX.out]; exact hi)
      have hst : Hid (∀ i j : Nat, i + j + 1 = X → i < j → ((revK xs i).set i (xs[j]?.getD ⟨#[]⟩)).set j (xs[i]?.getD ⟨#[]⟩) = revK xs (i + 1)) := fun i j h1 h2 => revK_step xs i j (by rw [HX.out]; exact h1) h2
      have hmd : Hid (∀ i p : Nat, p < X → ¬ p < i → ¬ X ≤ p + i → (revK xs i)[p]? = some (xs[p]?.getD ⟨#[]⟩)) := fun i p h1 h2 h3 => revK_mid xs i p (by rw [HX.out]; exact h1) h2 (by rw [HX.out]; exact h3)
      have hzl : Hid (Z.length = X) := by show _ = _; rw [hZ2.out, List.length_reverse, HX.out]
      rw [hX] at hr0 hlx2
      obtain ⟨ga, gcap, rfl⟩ := row_form hr0.out
      clear hX hown hs hk' hlx hf
      go_wp2_with fail
      go_loopw [12, 13] (fun iv jv wr2 => ∃ (i : Nat) (j : Int), iv = .int .i64 i ∧ jv = .int .i64 j ∧ Hid ((i : Int) + j + 1 = X) ∧ Hid (i ≤ X) ∧ Hid (wr2.ownsRow w.heap.size 9 1 (.slice ga X gcap) X ((revK xs i).map Value.string)) ∧ Hid (Below w.heap.size w wr2)) (fun iv _ _ => X - (intOf iv).toNat)
      case atStart => exact ⟨0, _, rfl, rfl, by show _ = _; omega, Nat.zero_le _, hr0, hB⟩
      case round =>
        clear hr0 hB
        obtain ⟨i, j, rfl, rfl, hij, hi, hown, hB⟩ := hrel
        have hij2 := hij.out
        have hi2 := hi.out
        by_cases hlt : (i : Int) < j
        · obtain ⟨jn, rfl⟩ := Int.eq_ofNat_of_zero_le (show 0 ≤ j by omega)
          have hX1 : X = (X - 1) + 1 := by omega
          obtain ⟨g, cap, hsl⟩ := ownsRow_succ (v := .slice ga X gcap) (k := X - 1) (by rw [← hX1]; exact hown.out)
          obtain rfl : ga = some ⟨g, 0, none⟩ := by injection hsl
          obtain rfl : gcap = cap := by injection hsl
          clear hsl hX1
          have hl : (revK xs i).length = X := by rw [revK_len, HX.out]
          have ei : (revK xs i)[i]? = some (xs[i]?.getD ⟨#[]⟩) := hmd.out i i (by omega) (by omega) (by omega)
          have ej : (revK xs i)[jn]? = some (xs[jn]?.getD ⟨#[]⟩) := hmd.out i jn (by omega) (by omega) (by omega)
          have hrs := Lib.hid (hst.out i jn (by omega) (by omega))
          have ci : wr.cell? ⟨g, i, none⟩ = some (.string (xs[i]?.getD ⟨#[]⟩)) := by rw [hown.out.cellAt i (by omega), List.getElem?_map, ei]; rfl
          have cj : wr.cell? ⟨g, jn, none⟩ = some (.string (xs[jn]?.getD ⟨#[]⟩)) := by rw [hown.out.cellAt jn (by omega), List.getElem?_map, ej]; rfl
          have lg : g < wr.heap.size := World.block_lt_of_cell? wr _ ci
          have hge : Hid (w.heap.size ≤ g) := (hown.out.lt g rfl).1
          generalize xs[i]?.getD ⟨#[]⟩ = si at *
          generalize xs[jn]?.getD ⟨#[]⟩ = sj at *
          generalize hR : revK xs i = R at *
          clear hij hi hR
          have EI := Lib.hid ei
          have EJ := Lib.hid ej
          clear ei ej
          go_wp2_with fail
          refine wp_region_ext_idx [2, 3] [0, 1, 4, 5, 6, 7, 8, 9, 10, 11] 12 (by kernel_rfl) (by kernel_rfl) ?_
          simp only [opsAt, List.getElem?_toArray, List.getElem?_cons_zero, List.getElem?_cons_succ, List.cons_append, List.nil_append, List.drop_succ_cons, List.drop_zero]
          repeat (go_big_quiet_step (fail))
          refine wpQuiet_nil ?_
          rintro w' ⟨y, rfl⟩
          have r1 := hown.out.call y.below
          have HB1 := Lib.hid (hB.out.trans (y.below.mono hB.out.size))
          generalize y.w = w1 at *
          clear y ci cj
          have r2 := r1.stored i (.string sj)
          have r3 := r2.1.stored jn (.string si)
          have f1 := r1.frozenAt i
          have f2 := r2.1.frozenAt jn
          have c1 : w1.cell? ⟨g, i, none⟩ = some (.string si) := by rw [r1.cellAt i (by omega), List.getElem?_map, EI.out]; rfl
          have c2 : (w1.setCell ⟨g, i, none⟩ (.string sj)).cell? ⟨g, jn, none⟩ = some (.string sj) := by rw [r2.1.cellAt jn (by omega), List.getElem?_set_ne (by omega), List.getElem?_map, EJ.out]; rfl
          have R3 := Lib.hid r3.1
          clear r1 r2 r3
          go_wp2_with fail
          rw [OnlyN_normal]
          go_wp2_with fail
          go_roundw
          case rel => exact ⟨i + 1, (jn : Int) - 1, by go_num, by go_num, by show _ = _; omega, by show _ ≤ _; omega, by rw [← hrs.out, ← map_set_str, ← map_set_str]; exact R3.out, (HB1.out.setCell (p := ⟨g, i, none⟩) hge.out _).setCell (p := ⟨g, jn, none⟩) hge.out _⟩
          case measure => simp [intOf]; omega
        · have hz := hfin.out i (by omega)
          have hown2 : Hid (wr.ownsRow w.heap.size 9 1 (.slice ga X gcap) X (Z.map Value.string)) := by rw [← hz]; exact hown
          clear hown hij hi hz
          go_wp2_with fail
          go_ret2
          exact ⟨⟨_, rfl, by rw [hzl.out]; exact hown2.out⟩, hB.out⟩
end Go.Proofs.YtaigngdlioplaaaDoor
