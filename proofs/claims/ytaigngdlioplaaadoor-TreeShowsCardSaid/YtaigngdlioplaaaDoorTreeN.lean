/- The walk of TreeShows. -/
import Derived.Test.YtaigngdlioplaaaDoorTreeJ
import Derived.Test.YtaigngdlioplaaaDoorTreeK
import Derived.Test.YtaigngdlioplaaaDoorTreeI
import Derived.Test.YtaigngdlioplaaaDoorRegB
namespace Go.Proofs.YtaigngdlioplaaaDoor
open Go Go.RowKit

theorem proof_fine (K : Nat → Int) (H : St) (m : Nat) (h1 : 1 ≤ m) (h2 : m ≤ 32) (l : List ByteArray) (k : Nat) (hk : k < l.length) : Fine (proofS K H m l k) := fun i s hs => by
  have := (proof_climbs K H m h1 h2 l.length k l rfl hk).2.1 s (List.mem_of_getElem? hs)
  omega
theorem Fine.snoc {l : List ByteArray} (h : Fine l) (r : ByteArray) (hr : r.size ≤ 400) : Fine (l ++ [r]) := fun i s hs => by
  rw [List.getElem?_append] at hs
  split at hs
  · exact h i s hs
  · match hx : i - l.length, hs with
    | 0, hs => simp at hs; subst hs; exact hr
    | j + 1, hs => simp at hs

theorem own_empty {w : World} {B : Nat} (e : TypeId) (h : B ≤ w.heap.size) : (w.alloc (.cells #[] e)).ownsRow B e 1 (.slice (some ⟨w.heap.size, 0, none⟩) 0 0) 0 [] :=
  ⟨rfl, .inr ⟨_, 0, #[], rfl, h, blk_new _ _ _ rfl, Nat.le_refl _, Nat.zero_le _, rfl, rfl⟩⟩
theorem at_one {w : World} {B : Nat} (e : TypeId) (u : Value) (h : B ≤ w.heap.size) : OwnAt (w.alloc (.cells #[u] e)) B e (.slice (some ⟨w.heap.size, 0, none⟩) 1 1) 1 [u] :=
  ⟨rfl, .inr ⟨_, 0, 1, #[u], rfl, h, blk_new _ _ _ rfl, Nat.le_refl _, Nat.le_refl _, rfl⟩⟩
theorem own_grown_below {W w w1 : World} {B : Nat} {e : TypeId} {v : Value} {k : Nat} {xs : List Value} (h : Below B W w) (hB : B ≤ w.heap.size) (ho : w.ownsRow B e 1 v k xs) (hg : w.grownBy w1 v.ownBlock) : Below B W w1 :=
  h.grown hg hB fun j ej => (own_ge ho j ej).1
/-- An operation of a quiet walk that yields this value in every world. -/
theorem quiet_val {P : Program} {C : World → Prop} {a : Act} {o : Oper} {K : Act → Prop} (v : Value) (h : ∀ w, C w → (execOp a.eval o).run P w = .ok (.value v) w) (hk : K (a.put o.dst v)) : o.quiet P a C K :=
  ⟨v, fun w hw => by
    unfold Oper.quietAt
    rw [h w hw]
    exact ⟨rfl, rfl⟩, hk⟩

set_option maxRecDepth 100000 in
set_option maxHeartbeats 40000000 in
theorem TreeShows_walk (v : Value) (l : List ByteArray) (n1 : Nat) (other : ByteArray) (w : World) (hT : Hid (ShaT w (nth kList) hSt)) (hv : Hid (StrsAt w v l)) (hl : l.length ≤ 9223372036854775807) (hz : Hid (∀ (i : Nat) (s : ByteArray), l[i]? = some s → s.size ≤ 9223372036854775807)) (hn1 : n1 < 256) (ho : other.size ≤ 9223372036854775807) :
    Calls Tryd.prog 8 #[v, .int .u8 n1, .string other] w fun e w' => e = .returned (.bool true) ∧ Below w.heap.size w w' := by
  have a0 := Lib.hid (alive03 (nth kList) hSt w hT)
  have qG := Lib.hid (fun w h => Great_any v l w h hl hz)
  obtain ⟨A, c, rfl⟩ := hv.out.slice_len
  obtain ⟨m, hm⟩ : ∃ m, 1 + n1 % 32 = m := ⟨_, rfl⟩
  have hm1 : 1 ≤ m := by omega
  have hm2 : m ≤ 32 := by omega
  have hmI : Hid (I64 (m : Int)) := by show _ ∧ _; omega
  have hmc : Hid ((1 : Int) + (n1 : Int) % 32 = (m : Int)) := by show _ = _; omega
  clear hm
  generalize nth kList = K at *
  generalize hSt = H at *
  have qRt := Lib.hid (fun w h1 h2 h3 => Root_any K H m l (.slice A l.length c) w hmI h1 h2 h3 hl)
  by_cases hot : 100 < other.size
  · go_enter Tryd.func8, Tryd.ntmps8
    go_wp2_with fail
    refine a0.out.mono ?_
    rintro e w1 ⟨rfl, hb⟩
    have HB1 := Lib.hid hb
    have hv1 := Lib.hid (hv.out.call hb)
    clear hb
    go_wp2_with fail
    refine (qG.out _ hv1).mono ?_
    rintro e w2 ⟨⟨g, rfl, hgf⟩, rfl⟩
    clear hgf
    cases g
    all_goals
      go_wp2_with fail
      go_ret
      exact ⟨rfl, HB1.out⟩
  · go_enter Tryd.func8, Tryd.ntmps8
    go_wp2_with fail
    refine a0.out.mono ?_
    rintro e w1 ⟨rfl, hb⟩
    have HB1 := Lib.hid hb
    have hT1 := Lib.hid (hT.out.call hb)
    have hv1 := Lib.hid (hv.out.call hb)
    clear hb
    go_wp2_with fail
    refine (qG.out _ hv1).mono ?_
    rintro e w2 ⟨⟨g, rfl, hgf⟩, rfl⟩
    cases g with
    | true =>
      clear hgf
      go_wp2_with fail
      go_ret
      exact ⟨rfl, HB1.out⟩
    | false =>
      have hF := Lib.hid (fine_of (hgf rfl).2)
      have hl40 := (hgf rfl).1
      clear hgf
      have e1 : rightE l.length m = 0 := by unfold rightE; rw [if_neg (by omega), if_neg (by omega)]
      have e3 : rootV K H m l = rootS K H m l := by unfold rootV; rw [if_pos e1]
      rw [e1, e3] at qRt
      have qPg := Lib.hid (fun k hk w h1 h2 h3 => Proof_good K H m l k (.slice A l.length c) w hmI h1 h2 h3 (by omega) e1 hk)
      have qCk := Lib.hid (fun (k : Nat) (hk : k < l.length) (v : Value) p root w h1 h3 h4 h5 => Check_any K H l[k] k l.length v p root m w h1 ⟨hm1, hm2⟩ hk (by omega) (by show _ ≤ _; have := hF.out k l[k] (List.getElem?_eq_getElem hk); omega) h3 h4 h5)
      clear e1 e3
      have hrs : (rootS K H m l).size = m := rootS_size K H m hm1 hm2 l
      have HRS := Lib.hid hrs
      have hsh := Lib.hid (fun (k : Nat) (hk : k < l.length) other => checkS_proof K H m hm1 hm2 l k hk other)
      have hlo := Lib.hid (fun (k : Nat) (hk : k < l.length) p hp other => checkS_long K H m hm1 hm2 l k hk p hp other)
      have hpf := Lib.hid (fun (k : Nat) (hk : k < l.length) => proof_fine K H m hm1 hm2 l k hk)
      have hpl := Lib.hid (fun (k : Nat) (hk : k < l.length) => (proof_climbs K H m hm1 hm2 l.length k l rfl hk).1)
      have hge := Lib.hid (fun (i : Nat) (hi : i < l.length) => List.getElem?_eq_getElem hi)
      generalize rootS K H m l = R at *
      clear hrs
      go_wp2_with fail
      rw [hmc.out]
      refine (qRt.out _ hT1 hv1 (fun _ => hF)).mono ?_
      rintro e w3 ⟨rfl, hb⟩
      have HB3 := Lib.hid (HB1.out.trans (hb.mono HB1.out.size))
      have hT3 := Lib.hid (hT1.out.call hb)
      have hv3 := Lib.hid (hv1.out.call hb)
      clear hb
      go_wp2_with fail
      go_loopw [10] (fun iv wr => ∃ k : Nat, iv = .int .i64 k ∧ Hid (k ≤ l.length) ∧ Hid (Below w3.heap.size w3 wr)) (fun iv _ => l.length - (intOf iv).toNat)
      case atStart => exact ⟨0, rfl, Nat.zero_le _, Below.refl _ _⟩
      case round =>
        obtain ⟨k, rfl, hk, hB⟩ := hrel
        by_cases hkl : k < l.length
        · have hTr := Lib.hid (hT3.out.call hB.out)
          have hvr := Lib.hid (hv3.out.call hB.out)
          obtain ⟨A', c', hA', hcc, hci⟩ := hvr.out
          cases hA'
          obtain ⟨b, o, rfl, hbl, hck⟩ := hci k _ (hge.out k hkl)
          have qP := Lib.hid (qPg.out k hkl _ hTr hvr hF)
          have hpll := hpl.out k hkl
          have hwl := waysS_len k l.length
          have qc1 := Lib.hid (fun v w h1 h2 h3 => qCk.out k hkl v (proofS K H m l k) R w h1 h2 h3 (by omega))
          have qc2 := Lib.hid (fun v w h1 h2 h3 => qCk.out k hkl v (proofS K H m l k) other w h1 h2 h3 (by omega))
          have qc3 := Lib.hid (fun v w h1 h2 h3 => qCk.out k hkl v (proofS K H m l k ++ [R]) R w h1 h2 h3 (by rw [List.length_append]; simp; omega))
          have qc4 := Lib.hid (fun v w h1 h2 h3 => qCk.out k hkl v ((proofS K H m l k).drop 1) R w h1 h2 h3 (by rw [List.length_drop]; omega))
          rw [hsh.out k hkl R, decide_eq_true rfl] at qc1
          rw [hsh.out k hkl other] at qc2
          rw [hlo.out k hkl _ (by rw [List.length_append]; simp) R] at qc3
          have qc5 : Hid (0 < (proofS K H m l k).length → _) := fun h0 => by
            have := qc4
            rw [hlo.out k hkl _ (by rw [List.length_drop]; omega) R] at this
            exact this
          have hf := hpf.out k hkl
          have hf1 : Hid (Fine (proofS K H m l k)) := hf
          have hf3 : Hid (Fine (proofS K H m l k ++ [R])) := hf.snoc R (by have := HRS.out; omega)
          have hf4 : Hid (Fine ((proofS K H m l k).drop 1)) := hf.drop 1
          have hZl : Hid ((proofS K H m l k).length ≤ 4096) := by show _ ≤ _; omega
          clear hf hpll hwl qc4 qPg qRt qCk hci
          generalize proofS K H m l k = Z at *
          generalize l[k] = s at *
          go_wp2_with fail
          refine qP.out.mono ?_
          rintro e w4 ⟨⟨v', rfl, ho4⟩, hb⟩
          have HB4 := Lib.hid (hB.out.trans (hb.mono hB.out.size))
          have hT4 := Lib.hid (hTr.out.call hb)
          have hS4 := Lib.hid (own_strs ho4)
          have hO4 := Lib.hid (OwnAt.of_row ho4)
          obtain ⟨A2, c2, rfl⟩ := row_form ho4
          have hck4 := (hb.cell (p := ⟨b, o + k, none⟩) hbl).trans hck
          have hbl4 := Nat.lt_of_lt_of_le hbl hb.size
          clear hb ho4 hck hbl
          by_cases hor : other = R
          · have hor' := hor.symm
            subst hor'
            clear hor
            go_wp2_with fail
            refine (qc1.out _ _ hT4 hS4 hf1).mono ?_
            rintro e w6 ⟨rfl, hb⟩
            have HB6 := Lib.hid (HB4.out.trans (hb.mono HB4.out.size))
            have hT6 := Lib.hid (hT4.out.call hb)
            have hS6 := Lib.hid (hS4.out.call hb)
            have hO6 := Lib.hid (hO4.out.call hb)
            have hck6 := (hb.cell (p := ⟨b, o + k, none⟩) hbl4).trans hck4
            have hbl6 := Nat.lt_of_lt_of_le hbl4 hb.size
            clear hb hck4 hbl4 hS4 hO4
            go_wp2_with fail
            refine wp_region_branch [0, 1, 2, 3, 4, 5, 6, 8, 10, 13, 14] 24 #[true, true, true, true, true, true, true, false, true, false, true, false, false, true, true, false, false, false, false, false, false, false, false, false, false, false, false, false, false, false, false, false, false, false, false] (by kernel_rfl) (by kernel_rfl) (by kernel_rfl) (by kernel_rfl) (fun wz => Below w6.heap.size w6 wz) (Below.refl _ _).drew ?_
            simp only [opsAt, List.getElem?_toArray, List.getElem?_cons_zero, List.getElem?_cons_succ]
            refine pure_move rfl rfl ?_
            refine pure_move rfl rfl ?_
            refine pure_at (.pointer (some ⟨b, o + k, none⟩)) rfl (fun wz _ => by unfold execOp; go_simp) ?_
            refine pure_at (.string s) rfl (fun wz hC => by unfold execOp; have := (hC.cell (p := ⟨b, o + k, none⟩) hbl6).trans hck6; go_simp) ?_
            refine pure_move rfl rfl ?_
            refine pure_move rfl rfl ?_
            refine pure_at (.int .i64 l.length) rfl (fun wz _ => by unfold execOp; go_simp) ?_
            refine pure_move rfl rfl ?_
            refine pure_move rfl rfl ?_
            refine pure_move rfl rfl ?_
            refine pure_move rfl rfl ?_
            unfold wpPure
            go_simp
            have HX6 : Hid (Below w6.heap.size w6 w6) := Below.refl _ _
            have hone : Hid (∀ u ∈ Z.map Value.string, u.oneCell' = true) := by intro u hu; simp only [List.mem_map] at hu; obtain ⟨x, _, rfl⟩ := hu; rfl
            have hone1 : Hid (∀ u ∈ [Value.string R], u.oneCell' = true) := by intro u hu; simp only [List.mem_singleton] at hu; subst hu; rfl
            refine wpAnyC_two 7 11 (Li := #[true, true, true, true, true, true, true, true, true, false, true, false, false, true, true, false, false, false, false, false, false, false, false, false, false, false, false, false, false, false, false, false, false, false, false]) (Lj := #[true, true, true, true, true, true, true, false, true, false, true, true, false, true, true, false, false, false, false, false, false, false, false, false, false, false, false, false, false, false, false, false, false, false, false]) (by kernel_rfl) (by kernel_rfl) (by kernel_rfl) rfl rfl rfl rfl ?_ ?_
            · skip
              go_wp2_with fail
              rw [StepQ_normal]
              generalize hw : World.drew (World.alloc w6 _) = w7
              have HA7 : Hid (Below w6.heap.size w6 w7) := by rw [← hw]; exact (below_alloc (Below.refl _ _) (Nat.le_refl _) _).drew
              have HX7 := Lib.hid (HX6.out.trans (HA7.out.mono HX6.out.size))
              have e7 : Hid (w7.ownsRow w6.heap.size 9 1 (.slice (some ⟨w6.heap.size, 0, none⟩) 0 0) 0 []) := by rw [← hw]; exact own_empty (w := w6) _ HX6.out.size
              clear hw
              refine ⟨HX7.out, ?_⟩
              refine wpAnyC_two 9 11 (Li := #[true, true, true, true, true, true, true, true, true, true, true, false, false, true, true, false, false, false, false, false, false, false, false, false, false, false, false, false, false, false, false, false, false, false, false]) (Lj := #[true, true, true, true, true, true, true, true, true, false, true, true, false, true, true, false, false, false, false, false, false, false, false, false, false, false, false, false, false, false, false, false, false, false, false]) (by kernel_rfl) (by kernel_rfl) (by kernel_rfl) rfl rfl rfl rfl ?_ ?_
              · skip
                refine wpList_append_row_at _ _ _ _ _ _ _ el_tx _ _ _ _ _ _ e7 HX7.out.size (Lib.hid (hO6.out.call HX7.out)) hone rfl rfl rfl rfl (by have := hZl.out; omega) (by decide) ?_
                intro v9 w8 e8 hg8
                go_wp2_with fail
                rw [StepQ_normal]
                have HX8 := Lib.hid (own_grown_below HX7.out HX7.out.size e7.out hg8.out)
                refine ⟨HX8.out, ?_⟩
                refine wpAnyC_one 11 (L' := #[true, true, true, true, true, true, true, true, true, true, true, true, false, true, true, false, false, false, false, false, false, false, false, false, false, false, false, false, false, false, false, false, false, false, false]) (by kernel_rfl) (by kernel_rfl) rfl rfl ?_
                go_wp2_with fail
                rw [StepQ_normal]
                generalize hw : World.alloc w8 _ = w9
                have HA9 : Hid (Below w8.heap.size w8 w9) := by rw [← hw]; exact (below_alloc (Below.refl _ _) (Nat.le_refl _) _)
                have HX9 := Lib.hid (HX8.out.trans (HA9.out.mono HX8.out.size))
                have t9 : Hid (OwnAt w9 w6.heap.size 9 (.slice (some ⟨w8.heap.size, 0, none⟩) 1 1) 1 [.string R]) := by rw [← hw]; exact at_one (w := w8) _ _ HX8.out.size
                clear hw
                refine ⟨HX9.out, ?_⟩
                have e9 := Lib.hid (e8.out.call HA9.out)
                obtain ⟨v92, hv92⟩ : ∃ v92, Value.slice (some ⟨w8.heap.size, 0, none⟩) 1 1 = v92 := ⟨_, rfl⟩
                rw [hv92] at t9 ⊢
                clear hv92 e7 e8 hg8 HA9 HX8 HX7 HA7
                skip
                refine wpAnyC_one 12 (L' := #[true, true, true, true, true, true, true, true, true, true, true, true, true, true, true, false, false, false, false, false, false, false, false, false, false, false, false, false, false, false, false, false, false, false, false]) (by kernel_rfl) (by kernel_rfl) rfl rfl ?_
                refine wpList_append_row_at _ _ _ _ _ _ _ el_tx _ _ _ _ _ _ e9 HX9.out.size t9 hone1 rfl rfl rfl rfl (by have := hZl.out; omega) (by decide) ?_
                intro v10 w10 e10 hg10
                go_wp2_with fail
                rw [StepQ_normal]
                have HX10 := Lib.hid (own_grown_below HX9.out HX9.out.size e9.out hg10.out)
                have hS10 : Hid (StrsAt w10 v10 (Z ++ [R])) := by
                  have := e10.out
                  rw [List.nil_append, show Z.map Value.string ++ [Value.string R] = (Z ++ [R]).map Value.string by simp, show 0 + Z.length + 1 = (Z ++ [R]).length by simp] at this
                  exact own_strs this
                refine ⟨HX10.out, ?_⟩
                clear e10 hg10 e9 t9
                refine wpAnyC_one 15 (L' := #[true, true, true, true, true, true, true, true, true, true, true, true, true, true, true, true, false, false, false, false, false, false, false, false, false, false, false, false, false, false, false, false, false, false, false]) (by kernel_rfl) (by kernel_rfl) rfl rfl ?_
                go_wp2_with fail
                refine (qc3.out _ _ (Lib.hid (hT6.out.call HX10.out)) hS10 hf3).mono ?_
                rintro e w11 ⟨rfl, hb⟩
                have HX11 := Lib.hid (HX10.out.trans (hb.mono HX10.out.size))
                clear hb
                go_wp2_with fail
                rw [StepQ_normal]
                refine ⟨HX11.out, ?_⟩
                have hck11 := (HX11.out.cell (p := ⟨b, o + k, none⟩) hbl6).trans hck6
                have hbl11 := Nat.lt_of_lt_of_le hbl6 HX11.out.size
                have hS11 := Lib.hid (hS6.out.call HX11.out)
                have hT11 := Lib.hid (hT6.out.call HX11.out)
                clear HX10 hS10
                refine wpAnyC_ext 16 (fun x => HX11.out.trans (x.below.mono HX11.out.size)) (by kernel_rfl) rfl rfl (by kernel_rfl) ?_
                simp only [List.drop_succ_cons, List.drop_zero]
                by_cases hz0 : 0 < Z.length
                · obtain ⟨AA, cc, hAA, hcc2, hci2⟩ := hS11.out
                  cases hAA
                  obtain ⟨b2, o2, rfl, _, _⟩ := hci2 0 Z[0] (List.getElem?_eq_getElem hz0)
                  have hS11d : Hid (StrsAt w11 (.slice (if c2 = 1 then some ⟨b2, o2, none⟩ else some ⟨b2, o2 + 1, none⟩) (Z.length - 1) (c2 - 1)) (Z.drop 1)) := by
                    split
                    · have hz1 : Z.length = 1 := by omega
                      exact ⟨_, _, by rw [List.length_drop], by rw [List.length_drop]; omega, fun i s' hs' => by rw [List.getElem?_eq_none (by rw [List.length_drop]; omega)] at hs'; cases hs'⟩
                    · exact hS11.out.drop 1 hz0
                  have qc6 := Lib.hid (fun (x : ExtOf w11) => (qc5.out hz0).out (.slice (if c2 = 1 then some ⟨b2, o2, none⟩ else some ⟨b2, o2 + 1, none⟩) (Z.length - 1) (c2 - 1)) x.w (Lib.hid (hT11.out.call x.below)) (Lib.hid (hS11d.out.call x.below)) hf4)
                  clear hci2
                  repeat (go_big_quiet_step (with_reducible exact ext_call (qc6.out _)))
                  refine wpQuiet_nil ?_
                  rintro w' ⟨y, rfl⟩
                  have HEND := Lib.hid (HB6.out.trans ((HX11.out.trans (y.below.mono HX11.out.size)).mono HB6.out.size))
                  clear HX11 qc6 hS11d hS11
                  obtain ⟨vI, hvI⟩ : ∃ vI, Value.slice (if c2 = 1 then (some ⟨b2, o2, none⟩ : Option Addr) else some ⟨b2, o2 + 1, none⟩) (Z.length - 1) (c2 - 1) = vI := ⟨_, rfl⟩
                  rw [hvI]
                  clear hvI
                  go_wp2_with fail
                  go_roundw
                  case rel => exact ⟨k + 1, by go_num, by show _ ≤ _; omega, HEND⟩
                  case measure => simp [intOf]; omega
                · repeat (go_big_quiet_step (fail))
                  refine wpQuiet_nil ?_
                  rintro w' ⟨y, rfl⟩
                  have HEND := Lib.hid (HB6.out.trans ((HX11.out.trans (y.below.mono HX11.out.size)).mono HB6.out.size))
                  clear HX11 hS11
                  go_wp2_with fail
                  go_roundw
                  case rel => exact ⟨k + 1, by go_num, by show _ ≤ _; omega, HEND⟩
                  case measure => simp [intOf]; omega
              · skip
                go_wp2_with fail
                rw [StepQ_normal]
                generalize hw : World.alloc w7 _ = w8
                have HA8 : Hid (Below w7.heap.size w7 w8) := by rw [← hw]; exact (below_alloc (Below.refl _ _) (Nat.le_refl _) _)
                have HX8 := Lib.hid (HX7.out.trans (HA8.out.mono HX7.out.size))
                have t8 : Hid (OwnAt w8 w6.heap.size 9 (.slice (some ⟨w7.heap.size, 0, none⟩) 1 1) 1 [.string R]) := by rw [← hw]; exact at_one (w := w7) _ _ HX7.out.size
                clear hw
                refine ⟨HX8.out, ?_⟩
                have e8 := Lib.hid (e7.out.call HA8.out)
                refine wpAnyC_one 9 (L' := #[true, true, true, true, true, true, true, true, true, true, true, true, false, true, true, false, false, false, false, false, false, false, false, false, false, false, false, false, false, false, false, false, false, false, false]) (by kernel_rfl) (by kernel_rfl) rfl rfl ?_
                refine wpList_append_row_at _ _ _ _ _ _ _ el_tx _ _ _ _ _ _ e8 HX8.out.size (Lib.hid (hO6.out.call HX8.out)) hone rfl rfl rfl rfl (by have := hZl.out; omega) (by decide) ?_
                intro v9 w9 e9 hg9
                go_wp2_with fail
                rw [StepQ_normal]
                have HX9 := Lib.hid (own_grown_below HX8.out HX8.out.size e8.out hg9.out)
                refine ⟨HX9.out, ?_⟩
                have hne9 : ¬ w6.heap.size = w7.heap.size := by have := (e7.out.lt w6.heap.size rfl).2; omega
                have t9 : Hid (OwnAt w9 w6.heap.size 9 (.slice (some ⟨w7.heap.size, 0, none⟩) 1 1) 1 [.string R]) := t8.out.keep fun kk hk => hg9.out.block kk (t8.out.lt kk hk).2 (fun h => hne9 (Option.some.inj ((show some w6.heap.size = some kk by first | exact h | exact h.symm).trans hk.symm)))
                obtain ⟨v92, hv92⟩ : ∃ v92, Value.slice (some ⟨w7.heap.size, 0, none⟩) 1 1 = v92 := ⟨_, rfl⟩
                rw [hv92] at t9 t8 ⊢
                clear hv92 e7 e8 hg9 HA7 HA8 HX8 HX7 t8
                refine wpAnyC_one 12 (L' := #[true, true, true, true, true, true, true, true, true, true, true, true, true, true, true, false, false, false, false, false, false, false, false, false, false, false, false, false, false, false, false, false, false, false, false]) (by kernel_rfl) (by kernel_rfl) rfl rfl ?_
                refine wpList_append_row_at _ _ _ _ _ _ _ el_tx _ _ _ _ _ _ e9 HX9.out.size t9 hone1 rfl rfl rfl rfl (by have := hZl.out; omega) (by decide) ?_
                intro v10 w10 e10 hg10
                go_wp2_with fail
                rw [StepQ_normal]
                have HX10 := Lib.hid (own_grown_below HX9.out HX9.out.size e9.out hg10.out)
                have hS10 : Hid (StrsAt w10 v10 (Z ++ [R])) := by
                  have := e10.out
                  rw [List.nil_append, show Z.map Value.string ++ [Value.string R] = (Z ++ [R]).map Value.string by simp, show 0 + Z.length + 1 = (Z ++ [R]).length by simp] at this
                  exact own_strs this
                refine ⟨HX10.out, ?_⟩
                clear e10 hg10 e9 t9
                refine wpAnyC_one 15 (L' := #[true, true, true, true, true, true, true, true, true, true, true, true, true, true, true, true, false, false, false, false, false, false, false, false, false, false, false, false, false, false, false, false, false, false, false]) (by kernel_rfl) (by kernel_rfl) rfl rfl ?_
                go_wp2_with fail
                refine (qc3.out _ _ (Lib.hid (hT6.out.call HX10.out)) hS10 hf3).mono ?_
                rintro e w11 ⟨rfl, hb⟩
                have HX11 := Lib.hid (HX10.out.trans (hb.mono HX10.out.size))
                clear hb
                go_wp2_with fail
                rw [StepQ_normal]
                refine ⟨HX11.out, ?_⟩
                have hck11 := (HX11.out.cell (p := ⟨b, o + k, none⟩) hbl6).trans hck6
                have hbl11 := Nat.lt_of_lt_of_le hbl6 HX11.out.size
                have hS11 := Lib.hid (hS6.out.call HX11.out)
                have hT11 := Lib.hid (hT6.out.call HX11.out)
                clear HX10 hS10
                refine wpAnyC_ext 16 (fun x => HX11.out.trans (x.below.mono HX11.out.size)) (by kernel_rfl) rfl rfl (by kernel_rfl) ?_
                simp only [List.drop_succ_cons, List.drop_zero]
                by_cases hz0 : 0 < Z.length
                · obtain ⟨AA, cc, hAA, hcc2, hci2⟩ := hS11.out
                  cases hAA
                  obtain ⟨b2, o2, rfl, _, _⟩ := hci2 0 Z[0] (List.getElem?_eq_getElem hz0)
                  have hS11d : Hid (StrsAt w11 (.slice (if c2 = 1 then some ⟨b2, o2, none⟩ else some ⟨b2, o2 + 1, none⟩) (Z.length - 1) (c2 - 1)) (Z.drop 1)) := by
                    split
                    · have hz1 : Z.length = 1 := by omega
                      exact ⟨_, _, by rw [List.length_drop], by rw [List.length_drop]; omega, fun i s' hs' => by rw [List.getElem?_eq_none (by rw [List.length_drop]; omega)] at hs'; cases hs'⟩
                    · exact hS11.out.drop 1 hz0
                  have qc6 := Lib.hid (fun (x : ExtOf w11) => (qc5.out hz0).out (.slice (if c2 = 1 then some ⟨b2, o2, none⟩ else some ⟨b2, o2 + 1, none⟩) (Z.length - 1) (c2 - 1)) x.w (Lib.hid (hT11.out.call x.below)) (Lib.hid (hS11d.out.call x.below)) hf4)
                  clear hci2
                  repeat (go_big_quiet_step (with_reducible exact ext_call (qc6.out _)))
                  refine wpQuiet_nil ?_
                  rintro w' ⟨y, rfl⟩
                  have HEND := Lib.hid (HB6.out.trans ((HX11.out.trans (y.below.mono HX11.out.size)).mono HB6.out.size))
                  clear HX11 qc6 hS11d hS11
                  obtain ⟨vI, hvI⟩ : ∃ vI, Value.slice (if c2 = 1 then (some ⟨b2, o2, none⟩ : Option Addr) else some ⟨b2, o2 + 1, none⟩) (Z.length - 1) (c2 - 1) = vI := ⟨_, rfl⟩
                  rw [hvI]
                  clear hvI
                  go_wp2_with fail
                  go_roundw
                  case rel => exact ⟨k + 1, by go_num, by show _ ≤ _; omega, HEND⟩
                  case measure => simp [intOf]; omega
                · repeat (go_big_quiet_step (fail))
                  refine wpQuiet_nil ?_
                  rintro w' ⟨y, rfl⟩
                  have HEND := Lib.hid (HB6.out.trans ((HX11.out.trans (y.below.mono HX11.out.size)).mono HB6.out.size))
                  clear HX11 hS11
                  go_wp2_with fail
                  go_roundw
                  case rel => exact ⟨k + 1, by go_num, by show _ ≤ _; omega, HEND⟩
                  case measure => simp [intOf]; omega
            · skip
              go_wp2_with fail
              rw [StepQ_normal]
              generalize hw : World.drew (World.alloc w6 _) = w7
              have HA7 : Hid (Below w6.heap.size w6 w7) := by rw [← hw]; exact (below_alloc (Below.refl _ _) (Nat.le_refl _) _).drew
              have HX7 := Lib.hid (HX6.out.trans (HA7.out.mono HX6.out.size))
              have t7 : Hid (OwnAt w7 w6.heap.size 9 (.slice (some ⟨w6.heap.size, 0, none⟩) 1 1) 1 [.string R]) := by rw [← hw]; exact at_one (w := w6) _ _ HX6.out.size
              clear hw
              refine ⟨HX7.out, ?_⟩
              refine wpAnyC_one 7 (L' := #[true, true, true, true, true, true, true, true, true, false, true, true, false, true, true, false, false, false, false, false, false, false, false, false, false, false, false, false, false, false, false, false, false, false, false]) (by kernel_rfl) (by kernel_rfl) rfl rfl ?_
              go_wp2_with fail
              rw [StepQ_normal]
              generalize hw : World.alloc w7 _ = w8
              have HA8 : Hid (Below w7.heap.size w7 w8) := by rw [← hw]; exact (below_alloc (Below.refl _ _) (Nat.le_refl _) _)
              have HX8 := Lib.hid (HX7.out.trans (HA8.out.mono HX7.out.size))
              have e8 : Hid (w8.ownsRow w6.heap.size 9 1 (.slice (some ⟨w7.heap.size, 0, none⟩) 0 0) 0 []) := by rw [← hw]; exact own_empty (w := w7) _ HX7.out.size
              clear hw
              refine ⟨HX8.out, ?_⟩
              have t8 := Lib.hid (t7.out.call HA8.out)
              refine wpAnyC_one 9 (L' := #[true, true, true, true, true, true, true, true, true, true, true, true, false, true, true, false, false, false, false, false, false, false, false, false, false, false, false, false, false, false, false, false, false, false, false]) (by kernel_rfl) (by kernel_rfl) rfl rfl ?_
              refine wpList_append_row_at _ _ _ _ _ _ _ el_tx _ _ _ _ _ _ e8 HX8.out.size (Lib.hid (hO6.out.call HX8.out)) hone rfl rfl rfl rfl (by have := hZl.out; omega) (by decide) ?_
              intro v9 w9 e9 hg9
              go_wp2_with fail
              rw [StepQ_normal]
              have HX9 := Lib.hid (own_grown_below HX8.out HX8.out.size e8.out hg9.out)
              refine ⟨HX9.out, ?_⟩
              have hne9 : ¬ w7.heap.size = w6.heap.size := by have := (t7.out.lt w6.heap.size rfl).2; omega
              have t9 : Hid (OwnAt w9 w6.heap.size 9 (.slice (some ⟨w6.heap.size, 0, none⟩) 1 1) 1 [.string R]) := t8.out.keep fun kk hk => hg9.out.block kk (t8.out.lt kk hk).2 (fun h => hne9 (Option.some.inj ((show some w7.heap.size = some kk by first | exact h | exact h.symm).trans hk.symm)))
              obtain ⟨v92, hv92⟩ : ∃ v92, Value.slice (some ⟨w6.heap.size, 0, none⟩) 1 1 = v92 := ⟨_, rfl⟩
              rw [hv92] at t9 t8 t7 ⊢
              clear hv92 e8 hg9 HA7 HA8 HX8 HX7 t8 t7
              refine wpAnyC_one 12 (L' := #[true, true, true, true, true, true, true, true, true, true, true, true, true, true, true, false, false, false, false, false, false, false, false, false, false, false, false, false, false, false, false, false, false, false, false]) (by kernel_rfl) (by kernel_rfl) rfl rfl ?_
              refine wpList_append_row_at _ _ _ _ _ _ _ el_tx _ _ _ _ _ _ e9 HX9.out.size t9 hone1 rfl rfl rfl rfl (by have := hZl.out; omega) (by decide) ?_
              intro v10 w10 e10 hg10
              go_wp2_with fail
              rw [StepQ_normal]
              have HX10 := Lib.hid (own_grown_below HX9.out HX9.out.size e9.out hg10.out)
              have hS10 : Hid (StrsAt w10 v10 (Z ++ [R])) := by
                have := e10.out
                rw [List.nil_append, show Z.map Value.string ++ [Value.string R] = (Z ++ [R]).map Value.string by simp, show 0 + Z.length + 1 = (Z ++ [R]).length by simp] at this
                exact own_strs this
              refine ⟨HX10.out, ?_⟩
              clear e10 hg10 e9 t9
              refine wpAnyC_one 15 (L' := #[true, true, true, true, true, true, true, true, true, true, true, true, true, true, true, true, false, false, false, false, false, false, false, false, false, false, false, false, false, false, false, false, false, false, false]) (by kernel_rfl) (by kernel_rfl) rfl rfl ?_
              go_wp2_with fail
              refine (qc3.out _ _ (Lib.hid (hT6.out.call HX10.out)) hS10 hf3).mono ?_
              rintro e w11 ⟨rfl, hb⟩
              have HX11 := Lib.hid (HX10.out.trans (hb.mono HX10.out.size))
              clear hb
              go_wp2_with fail
              rw [StepQ_normal]
              refine ⟨HX11.out, ?_⟩
              have hck11 := (HX11.out.cell (p := ⟨b, o + k, none⟩) hbl6).trans hck6
              have hbl11 := Nat.lt_of_lt_of_le hbl6 HX11.out.size
              have hS11 := Lib.hid (hS6.out.call HX11.out)
              have hT11 := Lib.hid (hT6.out.call HX11.out)
              clear HX10 hS10
              refine wpAnyC_ext 16 (fun x => HX11.out.trans (x.below.mono HX11.out.size)) (by kernel_rfl) rfl rfl (by kernel_rfl) ?_
              simp only [List.drop_succ_cons, List.drop_zero]
              by_cases hz0 : 0 < Z.length
              · obtain ⟨AA, cc, hAA, hcc2, hci2⟩ := hS11.out
                cases hAA
                obtain ⟨b2, o2, rfl, _, _⟩ := hci2 0 Z[0] (List.getElem?_eq_getElem hz0)
                have hS11d : Hid (StrsAt w11 (.slice (if c2 = 1 then some ⟨b2, o2, none⟩ else some ⟨b2, o2 + 1, none⟩) (Z.length - 1) (c2 - 1)) (Z.drop 1)) := by
                  split
                  · have hz1 : Z.length = 1 := by omega
                    exact ⟨_, _, by rw [List.length_drop], by rw [List.length_drop]; omega, fun i s' hs' => by rw [List.getElem?_eq_none (by rw [List.length_drop]; omega)] at hs'; cases hs'⟩
                  · exact hS11.out.drop 1 hz0
                have qc6 := Lib.hid (fun (x : ExtOf w11) => (qc5.out hz0).out (.slice (if c2 = 1 then some ⟨b2, o2, none⟩ else some ⟨b2, o2 + 1, none⟩) (Z.length - 1) (c2 - 1)) x.w (Lib.hid (hT11.out.call x.below)) (Lib.hid (hS11d.out.call x.below)) hf4)
                clear hci2
                repeat (go_big_quiet_step (with_reducible exact ext_call (qc6.out _)))
                refine wpQuiet_nil ?_
                rintro w' ⟨y, rfl⟩
                have HEND := Lib.hid (HB6.out.trans ((HX11.out.trans (y.below.mono HX11.out.size)).mono HB6.out.size))
                clear HX11 qc6 hS11d hS11
                obtain ⟨vI, hvI⟩ : ∃ vI, Value.slice (if c2 = 1 then (some ⟨b2, o2, none⟩ : Option Addr) else some ⟨b2, o2 + 1, none⟩) (Z.length - 1) (c2 - 1) = vI := ⟨_, rfl⟩
                rw [hvI]
                clear hvI
                go_wp2_with fail
                go_roundw
                case rel => exact ⟨k + 1, by go_num, by show _ ≤ _; omega, HEND⟩
                case measure => simp [intOf]; omega
              · repeat (go_big_quiet_step (fail))
                refine wpQuiet_nil ?_
                rintro w' ⟨y, rfl⟩
                have HEND := Lib.hid (HB6.out.trans ((HX11.out.trans (y.below.mono HX11.out.size)).mono HB6.out.size))
                clear HX11 hS11
                go_wp2_with fail
                go_roundw
                case rel => exact ⟨k + 1, by go_num, by show _ ≤ _; omega, HEND⟩
                case measure => simp [intOf]; omega
          · have hne := strs_ne hor
            rw [decide_eq_false (fun h => hor h.symm)] at qc2
            go_wp2_with fail
            refine (qc1.out _ _ hT4 hS4 hf1).mono ?_
            rintro e w5 ⟨rfl, hb⟩
            have HB5 := Lib.hid (HB4.out.trans (hb.mono HB4.out.size))
            have hT5 := Lib.hid (hT4.out.call hb)
            have hS5 := Lib.hid (hS4.out.call hb)
            have hO5 := Lib.hid (hO4.out.call hb)
            have hck5 := (hb.cell (p := ⟨b, o + k, none⟩) hbl4).trans hck4
            have hbl5 := Nat.lt_of_lt_of_le hbl4 hb.size
            clear hb hck4 hbl4 hS4 hO4
            go_wp2_with fail
            refine (qc2.out _ _ hT5 hS5 hf1).mono ?_
            rintro e w6 ⟨rfl, hb⟩
            have HB6 := Lib.hid (HB5.out.trans (hb.mono HB5.out.size))
            have hT6 := Lib.hid (hT5.out.call hb)
            have hS6 := Lib.hid (hS5.out.call hb)
            have hO6 := Lib.hid (hO5.out.call hb)
            have hck6 := (hb.cell (p := ⟨b, o + k, none⟩) hbl5).trans hck5
            have hbl6 := Nat.lt_of_lt_of_le hbl5 hb.size
            clear hb hck5 hbl5 hS5 hO5
            go_wp2_with fail
            refine wp_region_branch [0, 1, 2, 3, 4, 5, 6, 8, 10, 13, 14] 24 #[true, true, true, true, true, true, true, false, true, false, true, false, false, true, true, false, false, false, false, false, false, false, false, false, false, false, false, false, false, false, false, false, false, false, false] (by kernel_rfl) (by kernel_rfl) (by kernel_rfl) (by kernel_rfl) (fun wz => Below w6.heap.size w6 wz) (Below.refl _ _).drew ?_
            simp only [opsAt, List.getElem?_toArray, List.getElem?_cons_zero, List.getElem?_cons_succ]
            refine pure_move rfl rfl ?_
            refine pure_move rfl rfl ?_
            refine pure_at (.pointer (some ⟨b, o + k, none⟩)) rfl (fun wz _ => by unfold execOp; go_simp) ?_
            refine pure_at (.string s) rfl (fun wz hC => by unfold execOp; have := (hC.cell (p := ⟨b, o + k, none⟩) hbl6).trans hck6; go_simp) ?_
            refine pure_move rfl rfl ?_
            refine pure_move rfl rfl ?_
            refine pure_at (.int .i64 l.length) rfl (fun wz _ => by unfold execOp; go_simp) ?_
            refine pure_move rfl rfl ?_
            refine pure_move rfl rfl ?_
            refine pure_move rfl rfl ?_
            refine pure_move rfl rfl ?_
            unfold wpPure
            go_simp
            have HX6 : Hid (Below w6.heap.size w6 w6) := Below.refl _ _
            have hone : Hid (∀ u ∈ Z.map Value.string, u.oneCell' = true) := by intro u hu; simp only [List.mem_map] at hu; obtain ⟨x, _, rfl⟩ := hu; rfl
            have hone1 : Hid (∀ u ∈ [Value.string R], u.oneCell' = true) := by intro u hu; simp only [List.mem_singleton] at hu; subst hu; rfl
            refine wpAnyC_two 7 11 (Li := #[true, true, true, true, true, true, true, true, true, false, true, false, false, true, true, false, false, false, false, false, false, false, false, false, false, false, false, false, false, false, false, false, false, false, false]) (Lj := #[true, true, true, true, true, true, true, false, true, false, true, true, false, true, true, false, false, false, false, false, false, false, false, false, false, false, false, false, false, false, false, false, false, false, false]) (by kernel_rfl) (by kernel_rfl) (by kernel_rfl) rfl rfl rfl rfl ?_ ?_
            · skip
              go_wp2_with fail
              rw [StepQ_normal]
              generalize hw : World.drew (World.alloc w6 _) = w7
              have HA7 : Hid (Below w6.heap.size w6 w7) := by rw [← hw]; exact (below_alloc (Below.refl _ _) (Nat.le_refl _) _).drew
              have HX7 := Lib.hid (HX6.out.trans (HA7.out.mono HX6.out.size))
              have e7 : Hid (w7.ownsRow w6.heap.size 9 1 (.slice (some ⟨w6.heap.size, 0, none⟩) 0 0) 0 []) := by rw [← hw]; exact own_empty (w := w6) _ HX6.out.size
              clear hw
              refine ⟨HX7.out, ?_⟩
              refine wpAnyC_two 9 11 (Li := #[true, true, true, true, true, true, true, true, true, true, true, false, false, true, true, false, false, false, false, false, false, false, false, false, false, false, false, false, false, false, false, false, false, false, false]) (Lj := #[true, true, true, true, true, true, true, true, true, false, true, true, false, true, true, false, false, false, false, false, false, false, false, false, false, false, false, false, false, false, false, false, false, false, false]) (by kernel_rfl) (by kernel_rfl) (by kernel_rfl) rfl rfl rfl rfl ?_ ?_
              · skip
                refine wpList_append_row_at _ _ _ _ _ _ _ el_tx _ _ _ _ _ _ e7 HX7.out.size (Lib.hid (hO6.out.call HX7.out)) hone rfl rfl rfl rfl (by have := hZl.out; omega) (by decide) ?_
                intro v9 w8 e8 hg8
                go_wp2_with fail
                rw [StepQ_normal]
                have HX8 := Lib.hid (own_grown_below HX7.out HX7.out.size e7.out hg8.out)
                refine ⟨HX8.out, ?_⟩
                refine wpAnyC_one 11 (L' := #[true, true, true, true, true, true, true, true, true, true, true, true, false, true, true, false, false, false, false, false, false, false, false, false, false, false, false, false, false, false, false, false, false, false, false]) (by kernel_rfl) (by kernel_rfl) rfl rfl ?_
                go_wp2_with fail
                rw [StepQ_normal]
                generalize hw : World.alloc w8 _ = w9
                have HA9 : Hid (Below w8.heap.size w8 w9) := by rw [← hw]; exact (below_alloc (Below.refl _ _) (Nat.le_refl _) _)
                have HX9 := Lib.hid (HX8.out.trans (HA9.out.mono HX8.out.size))
                have t9 : Hid (OwnAt w9 w6.heap.size 9 (.slice (some ⟨w8.heap.size, 0, none⟩) 1 1) 1 [.string R]) := by rw [← hw]; exact at_one (w := w8) _ _ HX8.out.size
                clear hw
                refine ⟨HX9.out, ?_⟩
                have e9 := Lib.hid (e8.out.call HA9.out)
                obtain ⟨v92, hv92⟩ : ∃ v92, Value.slice (some ⟨w8.heap.size, 0, none⟩) 1 1 = v92 := ⟨_, rfl⟩
                rw [hv92] at t9 ⊢
                clear hv92 e7 e8 hg8 HA9 HX8 HX7 HA7
                skip
                refine wpAnyC_one 12 (L' := #[true, true, true, true, true, true, true, true, true, true, true, true, true, true, true, false, false, false, false, false, false, false, false, false, false, false, false, false, false, false, false, false, false, false, false]) (by kernel_rfl) (by kernel_rfl) rfl rfl ?_
                refine wpList_append_row_at _ _ _ _ _ _ _ el_tx _ _ _ _ _ _ e9 HX9.out.size t9 hone1 rfl rfl rfl rfl (by have := hZl.out; omega) (by decide) ?_
                intro v10 w10 e10 hg10
                go_wp2_with fail
                rw [StepQ_normal]
                have HX10 := Lib.hid (own_grown_below HX9.out HX9.out.size e9.out hg10.out)
                have hS10 : Hid (StrsAt w10 v10 (Z ++ [R])) := by
                  have := e10.out
                  rw [List.nil_append, show Z.map Value.string ++ [Value.string R] = (Z ++ [R]).map Value.string by simp, show 0 + Z.length + 1 = (Z ++ [R]).length by simp] at this
                  exact own_strs this
                refine ⟨HX10.out, ?_⟩
                clear e10 hg10 e9 t9
                refine wpAnyC_one 15 (L' := #[true, true, true, true, true, true, true, true, true, true, true, true, true, true, true, true, false, false, false, false, false, false, false, false, false, false, false, false, false, false, false, false, false, false, false]) (by kernel_rfl) (by kernel_rfl) rfl rfl ?_
                go_wp2_with fail
                refine (qc3.out _ _ (Lib.hid (hT6.out.call HX10.out)) hS10 hf3).mono ?_
                rintro e w11 ⟨rfl, hb⟩
                have HX11 := Lib.hid (HX10.out.trans (hb.mono HX10.out.size))
                clear hb
                go_wp2_with fail
                rw [StepQ_normal]
                refine ⟨HX11.out, ?_⟩
                have hck11 := (HX11.out.cell (p := ⟨b, o + k, none⟩) hbl6).trans hck6
                have hbl11 := Nat.lt_of_lt_of_le hbl6 HX11.out.size
                have hS11 := Lib.hid (hS6.out.call HX11.out)
                have hT11 := Lib.hid (hT6.out.call HX11.out)
                clear HX10 hS10
                refine wpAnyC_ext 16 (fun x => HX11.out.trans (x.below.mono HX11.out.size)) (by kernel_rfl) rfl rfl (by kernel_rfl) ?_
                simp only [List.drop_succ_cons, List.drop_zero]
                by_cases hz0 : 0 < Z.length
                · obtain ⟨AA, cc, hAA, hcc2, hci2⟩ := hS11.out
                  cases hAA
                  obtain ⟨b2, o2, rfl, _, _⟩ := hci2 0 Z[0] (List.getElem?_eq_getElem hz0)
                  have hS11d : Hid (StrsAt w11 (.slice (if c2 = 1 then some ⟨b2, o2, none⟩ else some ⟨b2, o2 + 1, none⟩) (Z.length - 1) (c2 - 1)) (Z.drop 1)) := by
                    split
                    · have hz1 : Z.length = 1 := by omega
                      exact ⟨_, _, by rw [List.length_drop], by rw [List.length_drop]; omega, fun i s' hs' => by rw [List.getElem?_eq_none (by rw [List.length_drop]; omega)] at hs'; cases hs'⟩
                    · exact hS11.out.drop 1 hz0
                  have qc6 := Lib.hid (fun (x : ExtOf w11) => (qc5.out hz0).out (.slice (if c2 = 1 then some ⟨b2, o2, none⟩ else some ⟨b2, o2 + 1, none⟩) (Z.length - 1) (c2 - 1)) x.w (Lib.hid (hT11.out.call x.below)) (Lib.hid (hS11d.out.call x.below)) hf4)
                  clear hci2
                  repeat (go_big_quiet_step (with_reducible exact ext_call (qc6.out _)))
                  refine wpQuiet_nil ?_
                  rintro w' ⟨y, rfl⟩
                  have HEND := Lib.hid (HB6.out.trans ((HX11.out.trans (y.below.mono HX11.out.size)).mono HB6.out.size))
                  clear HX11 qc6 hS11d hS11
                  obtain ⟨vI, hvI⟩ : ∃ vI, Value.slice (if c2 = 1 then (some ⟨b2, o2, none⟩ : Option Addr) else some ⟨b2, o2 + 1, none⟩) (Z.length - 1) (c2 - 1) = vI := ⟨_, rfl⟩
                  rw [hvI]
                  clear hvI
                  go_wp2_with fail
                  go_roundw
                  case rel => exact ⟨k + 1, by go_num, by show _ ≤ _; omega, HEND⟩
                  case measure => simp [intOf]; omega
                · repeat (go_big_quiet_step (fail))
                  refine wpQuiet_nil ?_
                  rintro w' ⟨y, rfl⟩
                  have HEND := Lib.hid (HB6.out.trans ((HX11.out.trans (y.below.mono HX11.out.size)).mono HB6.out.size))
                  clear HX11 hS11
                  go_wp2_with fail
                  go_roundw
                  case rel => exact ⟨k + 1, by go_num, by show _ ≤ _; omega, HEND⟩
                  case measure => simp [intOf]; omega
              · skip
                go_wp2_with fail
                rw [StepQ_normal]
                generalize hw : World.alloc w7 _ = w8
                have HA8 : Hid (Below w7.heap.size w7 w8) := by rw [← hw]; exact (below_alloc (Below.refl _ _) (Nat.le_refl _) _)
                have HX8 := Lib.hid (HX7.out.trans (HA8.out.mono HX7.out.size))
                have t8 : Hid (OwnAt w8 w6.heap.size 9 (.slice (some ⟨w7.heap.size, 0, none⟩) 1 1) 1 [.string R]) := by rw [← hw]; exact at_one (w := w7) _ _ HX7.out.size
                clear hw
                refine ⟨HX8.out, ?_⟩
                have e8 := Lib.hid (e7.out.call HA8.out)
                refine wpAnyC_one 9 (L' := #[true, true, true, true, true, true, true, true, true, true, true, true, false, true, true, false, false, false, false, false, false, false, false, false, false, false, false, false, false, false, false, false, false, false, false]) (by kernel_rfl) (by kernel_rfl) rfl rfl ?_
                refine wpList_append_row_at _ _ _ _ _ _ _ el_tx _ _ _ _ _ _ e8 HX8.out.size (Lib.hid (hO6.out.call HX8.out)) hone rfl rfl rfl rfl (by have := hZl.out; omega) (by decide) ?_
                intro v9 w9 e9 hg9
                go_wp2_with fail
                rw [StepQ_normal]
                have HX9 := Lib.hid (own_grown_below HX8.out HX8.out.size e8.out hg9.out)
                refine ⟨HX9.out, ?_⟩
                have hne9 : ¬ w6.heap.size = w7.heap.size := by have := (e7.out.lt w6.heap.size rfl).2; omega
                have t9 : Hid (OwnAt w9 w6.heap.size 9 (.slice (some ⟨w7.heap.size, 0, none⟩) 1 1) 1 [.string R]) := t8.out.keep fun kk hk => hg9.out.block kk (t8.out.lt kk hk).2 (fun h => hne9 (Option.some.inj ((show some w6.heap.size = some kk by first | exact h | exact h.symm).trans hk.symm)))
                obtain ⟨v92, hv92⟩ : ∃ v92, Value.slice (some ⟨w7.heap.size, 0, none⟩) 1 1 = v92 := ⟨_, rfl⟩
                rw [hv92] at t9 t8 ⊢
                clear hv92 e7 e8 hg9 HA7 HA8 HX8 HX7 t8
                refine wpAnyC_one 12 (L' := #[true, true, true, true, true, true, true, true, true, true, true, true, true, true, true, false, false, false, false, false, false, false, false, false, false, false, false, false, false, false, false, false, false, false, false]) (by kernel_rfl) (by kernel_rfl) rfl rfl ?_
                refine wpList_append_row_at _ _ _ _ _ _ _ el_tx _ _ _ _ _ _ e9 HX9.out.size t9 hone1 rfl rfl rfl rfl (by have := hZl.out; omega) (by decide) ?_
                intro v10 w10 e10 hg10
                go_wp2_with fail
                rw [StepQ_normal]
                have HX10 := Lib.hid (own_grown_below HX9.out HX9.out.size e9.out hg10.out)
                have hS10 : Hid (StrsAt w10 v10 (Z ++ [R])) := by
                  have := e10.out
                  rw [List.nil_append, show Z.map Value.string ++ [Value.string R] = (Z ++ [R]).map Value.string by simp, show 0 + Z.length + 1 = (Z ++ [R]).length by simp] at this
                  exact own_strs this
                refine ⟨HX10.out, ?_⟩
                clear e10 hg10 e9 t9
                refine wpAnyC_one 15 (L' := #[true, true, true, true, true, true, true, true, true, true, true, true, true, true, true, true, false, false, false, false, false, false, false, false, false, false, false, false, false, false, false, false, false, false, false]) (by kernel_rfl) (by kernel_rfl) rfl rfl ?_
                go_wp2_with fail
                refine (qc3.out _ _ (Lib.hid (hT6.out.call HX10.out)) hS10 hf3).mono ?_
                rintro e w11 ⟨rfl, hb⟩
                have HX11 := Lib.hid (HX10.out.trans (hb.mono HX10.out.size))
                clear hb
                go_wp2_with fail
                rw [StepQ_normal]
                refine ⟨HX11.out, ?_⟩
                have hck11 := (HX11.out.cell (p := ⟨b, o + k, none⟩) hbl6).trans hck6
                have hbl11 := Nat.lt_of_lt_of_le hbl6 HX11.out.size
                have hS11 := Lib.hid (hS6.out.call HX11.out)
                have hT11 := Lib.hid (hT6.out.call HX11.out)
                clear HX10 hS10
                refine wpAnyC_ext 16 (fun x => HX11.out.trans (x.below.mono HX11.out.size)) (by kernel_rfl) rfl rfl (by kernel_rfl) ?_
                simp only [List.drop_succ_cons, List.drop_zero]
                by_cases hz0 : 0 < Z.length
                · obtain ⟨AA, cc, hAA, hcc2, hci2⟩ := hS11.out
                  cases hAA
                  obtain ⟨b2, o2, rfl, _, _⟩ := hci2 0 Z[0] (List.getElem?_eq_getElem hz0)
                  have hS11d : Hid (StrsAt w11 (.slice (if c2 = 1 then some ⟨b2, o2, none⟩ else some ⟨b2, o2 + 1, none⟩) (Z.length - 1) (c2 - 1)) (Z.drop 1)) := by
                    split
                    · have hz1 : Z.length = 1 := by omega
                      exact ⟨_, _, by rw [List.length_drop], by rw [List.length_drop]; omega, fun i s' hs' => by rw [List.getElem?_eq_none (by rw [List.length_drop]; omega)] at hs'; cases hs'⟩
                    · exact hS11.out.drop 1 hz0
                  have qc6 := Lib.hid (fun (x : ExtOf w11) => (qc5.out hz0).out (.slice (if c2 = 1 then some ⟨b2, o2, none⟩ else some ⟨b2, o2 + 1, none⟩) (Z.length - 1) (c2 - 1)) x.w (Lib.hid (hT11.out.call x.below)) (Lib.hid (hS11d.out.call x.below)) hf4)
                  clear hci2
                  repeat (go_big_quiet_step (with_reducible exact ext_call (qc6.out _)))
                  refine wpQuiet_nil ?_
                  rintro w' ⟨y, rfl⟩
                  have HEND := Lib.hid (HB6.out.trans ((HX11.out.trans (y.below.mono HX11.out.size)).mono HB6.out.size))
                  clear HX11 qc6 hS11d hS11
                  obtain ⟨vI, hvI⟩ : ∃ vI, Value.slice (if c2 = 1 then (some ⟨b2, o2, none⟩ : Option Addr) else some ⟨b2, o2 + 1, none⟩) (Z.length - 1) (c2 - 1) = vI := ⟨_, rfl⟩
                  rw [hvI]
                  clear hvI
                  go_wp2_with fail
                  go_roundw
                  case rel => exact ⟨k + 1, by go_num, by show _ ≤ _; omega, HEND⟩
                  case measure => simp [intOf]; omega
                · repeat (go_big_quiet_step (fail))
                  refine wpQuiet_nil ?_
                  rintro w' ⟨y, rfl⟩
                  have HEND := Lib.hid (HB6.out.trans ((HX11.out.trans (y.below.mono HX11.out.size)).mono HB6.out.size))
                  clear HX11 hS11
                  go_wp2_with fail
                  go_roundw
                  case rel => exact ⟨k + 1, by go_num, by show _ ≤ _; omega, HEND⟩
                  case measure => simp [intOf]; omega
            · skip
              go_wp2_with fail
              rw [StepQ_normal]
              generalize hw : World.drew (World.alloc w6 _) = w7
              have HA7 : Hid (Below w6.heap.size w6 w7) := by rw [← hw]; exact (below_alloc (Below.refl _ _) (Nat.le_refl _) _).drew
              have HX7 := Lib.hid (HX6.out.trans (HA7.out.mono HX6.out.size))
              have t7 : Hid (OwnAt w7 w6.heap.size 9 (.slice (some ⟨w6.heap.size, 0, none⟩) 1 1) 1 [.string R]) := by rw [← hw]; exact at_one (w := w6) _ _ HX6.out.size
              clear hw
              refine ⟨HX7.out, ?_⟩
              refine wpAnyC_one 7 (L' := #[true, true, true, true, true, true, true, true, true, false, true, true, false, true, true, false, false, false, false, false, false, false, false, false, false, false, false, false, false, false, false, false, false, false, false]) (by kernel_rfl) (by kernel_rfl) rfl rfl ?_
              go_wp2_with fail
              rw [StepQ_normal]
              generalize hw : World.alloc w7 _ = w8
              have HA8 : Hid (Below w7.heap.size w7 w8) := by rw [← hw]; exact (below_alloc (Below.refl _ _) (Nat.le_refl _) _)
              have HX8 := Lib.hid (HX7.out.trans (HA8.out.mono HX7.out.size))
              have e8 : Hid (w8.ownsRow w6.heap.size 9 1 (.slice (some ⟨w7.heap.size, 0, none⟩) 0 0) 0 []) := by rw [← hw]; exact own_empty (w := w7) _ HX7.out.size
              clear hw
              refine ⟨HX8.out, ?_⟩
              have t8 := Lib.hid (t7.out.call HA8.out)
              refine wpAnyC_one 9 (L' := #[true, true, true, true, true, true, true, true, true, true, true, true, false, true, true, false, false, false, false, false, false, false, false, false, false, false, false, false, false, false, false, false, false, false, false]) (by kernel_rfl) (by kernel_rfl) rfl rfl ?_
              refine wpList_append_row_at _ _ _ _ _ _ _ el_tx _ _ _ _ _ _ e8 HX8.out.size (Lib.hid (hO6.out.call HX8.out)) hone rfl rfl rfl rfl (by have := hZl.out; omega) (by decide) ?_
              intro v9 w9 e9 hg9
              go_wp2_with fail
              rw [StepQ_normal]
              have HX9 := Lib.hid (own_grown_below HX8.out HX8.out.size e8.out hg9.out)
              refine ⟨HX9.out, ?_⟩
              have hne9 : ¬ w7.heap.size = w6.heap.size := by have := (t7.out.lt w6.heap.size rfl).2; omega
              have t9 : Hid (OwnAt w9 w6.heap.size 9 (.slice (some ⟨w6.heap.size, 0, none⟩) 1 1) 1 [.string R]) := t8.out.keep fun kk hk => hg9.out.block kk (t8.out.lt kk hk).2 (fun h => hne9 (Option.some.inj ((show some w7.heap.size = some kk by first | exact h | exact h.symm).trans hk.symm)))
              obtain ⟨v92, hv92⟩ : ∃ v92, Value.slice (some ⟨w6.heap.size, 0, none⟩) 1 1 = v92 := ⟨_, rfl⟩
              rw [hv92] at t9 t8 t7 ⊢
              clear hv92 e8 hg9 HA7 HA8 HX8 HX7 t8 t7
              refine wpAnyC_one 12 (L' := #[true, true, true, true, true, true, true, true, true, true, true, true, true, true, true, false, false, false, false, false, false, false, false, false, false, false, false, false, false, false, false, false, false, false, false]) (by kernel_rfl) (by kernel_rfl) rfl rfl ?_
              refine wpList_append_row_at _ _ _ _ _ _ _ el_tx _ _ _ _ _ _ e9 HX9.out.size t9 hone1 rfl rfl rfl rfl (by have := hZl.out; omega) (by decide) ?_
              intro v10 w10 e10 hg10
              go_wp2_with fail
              rw [StepQ_normal]
              have HX10 := Lib.hid (own_grown_below HX9.out HX9.out.size e9.out hg10.out)
              have hS10 : Hid (StrsAt w10 v10 (Z ++ [R])) := by
                have := e10.out
                rw [List.nil_append, show Z.map Value.string ++ [Value.string R] = (Z ++ [R]).map Value.string by simp, show 0 + Z.length + 1 = (Z ++ [R]).length by simp] at this
                exact own_strs this
              refine ⟨HX10.out, ?_⟩
              clear e10 hg10 e9 t9
              refine wpAnyC_one 15 (L' := #[true, true, true, true, true, true, true, true, true, true, true, true, true, true, true, true, false, false, false, false, false, false, false, false, false, false, false, false, false, false, false, false, false, false, false]) (by kernel_rfl) (by kernel_rfl) rfl rfl ?_
              go_wp2_with fail
              refine (qc3.out _ _ (Lib.hid (hT6.out.call HX10.out)) hS10 hf3).mono ?_
              rintro e w11 ⟨rfl, hb⟩
              have HX11 := Lib.hid (HX10.out.trans (hb.mono HX10.out.size))
              clear hb
              go_wp2_with fail
              rw [StepQ_normal]
              refine ⟨HX11.out, ?_⟩
              have hck11 := (HX11.out.cell (p := ⟨b, o + k, none⟩) hbl6).trans hck6
              have hbl11 := Nat.lt_of_lt_of_le hbl6 HX11.out.size
              have hS11 := Lib.hid (hS6.out.call HX11.out)
              have hT11 := Lib.hid (hT6.out.call HX11.out)
              clear HX10 hS10
              refine wpAnyC_ext 16 (fun x => HX11.out.trans (x.below.mono HX11.out.size)) (by kernel_rfl) rfl rfl (by kernel_rfl) ?_
              simp only [List.drop_succ_cons, List.drop_zero]
              by_cases hz0 : 0 < Z.length
              · obtain ⟨AA, cc, hAA, hcc2, hci2⟩ := hS11.out
                cases hAA
                obtain ⟨b2, o2, rfl, _, _⟩ := hci2 0 Z[0] (List.getElem?_eq_getElem hz0)
                have hS11d : Hid (StrsAt w11 (.slice (if c2 = 1 then some ⟨b2, o2, none⟩ else some ⟨b2, o2 + 1, none⟩) (Z.length - 1) (c2 - 1)) (Z.drop 1)) := by
                  split
                  · have hz1 : Z.length = 1 := by omega
                    exact ⟨_, _, by rw [List.length_drop], by rw [List.length_drop]; omega, fun i s' hs' => by rw [List.getElem?_eq_none (by rw [List.length_drop]; omega)] at hs'; cases hs'⟩
                  · exact hS11.out.drop 1 hz0
                have qc6 := Lib.hid (fun (x : ExtOf w11) => (qc5.out hz0).out (.slice (if c2 = 1 then some ⟨b2, o2, none⟩ else some ⟨b2, o2 + 1, none⟩) (Z.length - 1) (c2 - 1)) x.w (Lib.hid (hT11.out.call x.below)) (Lib.hid (hS11d.out.call x.below)) hf4)
                clear hci2
                repeat (go_big_quiet_step (with_reducible exact ext_call (qc6.out _)))
                refine wpQuiet_nil ?_
                rintro w' ⟨y, rfl⟩
                have HEND := Lib.hid (HB6.out.trans ((HX11.out.trans (y.below.mono HX11.out.size)).mono HB6.out.size))
                clear HX11 qc6 hS11d hS11
                obtain ⟨vI, hvI⟩ : ∃ vI, Value.slice (if c2 = 1 then (some ⟨b2, o2, none⟩ : Option Addr) else some ⟨b2, o2 + 1, none⟩) (Z.length - 1) (c2 - 1) = vI := ⟨_, rfl⟩
                rw [hvI]
                clear hvI
                go_wp2_with fail
                go_roundw
                case rel => exact ⟨k + 1, by go_num, by show _ ≤ _; omega, HEND⟩
                case measure => simp [intOf]; omega
              · repeat (go_big_quiet_step (fail))
                refine wpQuiet_nil ?_
                rintro w' ⟨y, rfl⟩
                have HEND := Lib.hid (HB6.out.trans ((HX11.out.trans (y.below.mono HX11.out.size)).mono HB6.out.size))
                clear HX11 hS11
                go_wp2_with fail
                go_roundw
                case rel => exact ⟨k + 1, by go_num, by show _ ≤ _; omega, HEND⟩
                case measure => simp [intOf]; omega
        · go_wp2_with fail
          go_ret
          exact ⟨rfl, (HB3.out.trans (hB.out.mono HB3.out.size))⟩
end Go.Proofs.YtaigngdlioplaaaDoor
