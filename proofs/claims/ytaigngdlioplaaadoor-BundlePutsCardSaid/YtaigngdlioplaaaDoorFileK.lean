/- BundlePuts (printed by genFileK.py). -/
import Derived.Test.YtaigngdlioplaaaDoorFileJ
namespace Go.Proofs.YtaigngdlioplaaaDoor
open Go Go.RowKit
set_option linter.unusedVariables false
set_option linter.unusedSimpArgs false

set_option maxRecDepth 100000 in
set_option maxHeartbeats 8000000 in
theorem BundlePuts_walk (v : Value) (l : List Fil) (n : Int) (more : ByteArray) (w : World) (hT : Hid (ShaT w (nth kList) hSt)) (hv : Hid (FilesAt w v l)) (hl : l.length ≤ 9223372036854775807) (hz : Hid (∀ (i : Nat) (f : Fil), l[i]? = some f → f.1.size ≤ 9223372036854775807 ∧ f.2.size ≤ 9223372036854775807)) (hn : Hid (I64 n)) (hm : more.size ≤ 9223372036854775807) :
    Calls Tryd.prog 12 #[v, .int .i64 n, .string more] w fun e w' => e = .returned (.bool true) ∧ Below w.heap.size w w' := by
  have qA := Lib.hid (alive29 w)
  have qG := Lib.hid (fun w hv => GreatF_any v l w hv hl hz)
  have hz1 : Hid (∀ (i : Nat) (f : Fil), l[i]? = some f → f.1.size ≤ 9223372036854775807) := fun i f hf => (hz.out i f hf).1
  have hgu := Lib.hid (gsum_used l)
  obtain ⟨A, c, rfl, _⟩ := hv.out
  go_enter Tryd.func12, Tryd.ntmps12
  go_wp2_with fail
  with_reducible refine qA.out.mono ?_
  rintro e w1 ⟨rfl, hb⟩
  have HB1 := Lib.hid hb
  have HT1 := Lib.hid (hT.out.call hb)
  have HF1 := Lib.hid (hv.out.call hb)
  clear hb
  go_wp2_with fail
  with_reducible refine (qG.out _ HF1).mono ?_
  rintro e w2 ⟨⟨g, rfl, hg⟩, hb⟩
  have HB2 := Lib.hid (HB1.out.trans (hb.mono HB1.out.size))
  have HT2 := Lib.hid (HT1.out.call hb)
  have HF2 := Lib.hid (HF1.out.call hb)
  clear hb qA qG HB1 HT1 HF1
  cases g with
  | true =>
    go_wp2_with fail
    go_ret
    exact ⟨rfl, HB2.out⟩
  | false =>
    obtain ⟨hl60, hg6⟩ := hg rfl
    have hu6 := (hgu.out hg6).1
    have hb6 := Lib.hid (hgu.out hg6).2
    clear hg hgu
    by_cases h100 : 100 < more.size
    · have t0 : decide ((100 : Int) < (more.size : Int)) = true := decide_eq_true (by omega)
      go_wp2_with fail
      go_ret
      exact ⟨rfl, HB2.out⟩
    · have t0 : decide ((100 : Int) < (more.size : Int)) = false := decide_eq_false (by omega)
      have hL6 : l.length ≤ 1000000 := by omega
      have hU6 : usedF l ≤ 1000000000 := by omega
      have qP := Lib.hid (fun w hv => PutF_any (.slice A l.length c) l w hv hL6 hz1 hU6)
      have qD := Lib.hid (fun w hT hv => DigestF_any (nth kList) hSt (.slice A l.length c) l n w hT hv hL6 hz1 hU6 hn)
      have qM := Lib.hid (fun w hv => rMayF_any (.slice A l.length c) l w hv hL6 hz1)
      by_cases hmay : mayF l = true
      · have hu1 : usedF l ≤ 1048576 := by omega
        have hE : putE l = 0 := by unfold putE; rw [hmay, if_pos rfl, if_pos hu1]
        have hFit : Fit l := fun i f hf => ⟨(mayF_short hmay).1 i f hf, by have := hb6.out i f hf; omega⟩
        have gp := get_put hmay hFit
        rw [hE, if_pos rfl] at gp
        have gm := Lib.hid (get_more hmay hFit more)
        have hps := putF_le hmay
        have hps2 : (putF l).size ≤ 20000 := by omega
        have qR := Lib.hid (fun w hv => rPutF_any (.slice A l.length c) l w hv (by omega) (mayF_short hmay).1 hU6)
        have qX := Lib.hid (fun w => GetF_any (putF l) w (by show _ ≤ _; omega))
        have qY := Lib.hid (fun w => GetF_any (putF l ++ more) w (by show _ ≤ _; rw [ByteArray.size_append]; omega))
        rw [gp.1, gp.2] at qX
        have qS := Lib.hid (fun w v1 v2 h1 h2 => SameF_any v1 v2 l l w h1 h2 hL6 hL6)
        rw [decide_eq_true (rfl : l = l)] at qS
        have qW := Lib.hid (fun w => rSum_any (putF l) w (by show _ ≤ _; omega))
        have hDE : digE l n = (if n < 1 ∨ 32 < n then 1 else 0) := if_pos hE
        have hDV : digV (nth kList) hSt l n = cutS (nth kList) hSt (putF l) n := if_pos hE
        rw [hDE, hDV] at qD
        have hPV : putV l = putF l := if_pos hE
        rw [hE, hPV] at qP
        rw [hmay] at qM
        have hcut : Hid (∀ m : Nat, 1 ≤ m ∧ m ≤ 32 → cutS (nth kList) hSt (putF l) m = (sumS (nth kList) hSt (bytesL (putF l))).extract 0 m) := fun m h => cut_in _ _ _ m h
        have hcut0 : Hid (n < 1 ∨ 32 < n → cutS (nth kList) hSt (putF l) n = ⟨#[]⟩) := fun h => if_pos h
        have hsz := Lib.hid (sumS_size (nth kList) hSt (bytesL (putF l)))
        obtain ⟨E2, hE2, hE3, hE0⟩ : ∃ E2, getE (putF l ++ more) = E2 ∧ Hid (¬ more.size = 0 → E2 = 3) ∧ Hid (more.size = 0 → E2 = 0) := ⟨_, rfl, gm.out, fun h => by
          have : more = ⟨#[]⟩ := ByteArray.ext (Array.toList_inj.1 (List.length_eq_zero_iff.1 (by simpa using h)))
          subst this
          rw [show putF l ++ (⟨#[]⟩ : ByteArray) = putF l from by apply ByteArray.ext; simp [ByteArray.data_append]]
          exact gp.1⟩
        rw [hE2] at qY
        generalize getL (putF l ++ more) = L2 at *
        have tp : ((putF l).toList == (putF l).toList) = true := by simp
        have tp2 : ((putF l).toList != (putF l).toList) = false := by simp
        clear hDE hDV hPV hE gp gm hFit hmay hu1 hu6 hg6 hb6 hps hU6 hz hz1 hE2
        by_cases h0 : more.size = 0
        · have te : more.toList.isEmpty = true := by
            rw [ByteArray.toList_eq, List.isEmpty_iff, ← List.length_eq_zero_iff]; simpa using h0
          obtain rfl : E2 = 0 := hE0.out h0
          clear hE0 hE3
          by_cases hnr : n < 1 ∨ 32 < n
          · rw [hcut0.out hnr, if_pos hnr] at qD
            clear hcut hcut0 hsz qW
            generalize putF l = PF at *
            go_wp2_with fail
            with_reducible refine (qP.out _ HF2).mono ?_
            rintro e w3 ⟨rfl, hb⟩
            have HB3 := Lib.hid (HB2.out.trans (hb.mono HB2.out.size))
            have HT3 := Lib.hid (HT2.out.call hb)
            have HF3 := Lib.hid (HF2.out.call hb)
            clear hb
            go_wp2_with fail
            with_reducible refine (qD.out _ HT3 HF3).mono ?_
            rintro e w4 ⟨rfl, hb⟩
            have HB4 := Lib.hid (HB3.out.trans (hb.mono HB3.out.size))
            have HT4 := Lib.hid (HT3.out.call hb)
            have HF4 := Lib.hid (HF3.out.call hb)
            clear hb
            go_wp2_with fail
            with_reducible refine (qM.out _ HF4).mono ?_
            rintro e w5 ⟨rfl, hb⟩
            have HB5 := Lib.hid (HB4.out.trans (hb.mono HB4.out.size))
            have HT5 := Lib.hid (HT4.out.call hb)
            have HF5 := Lib.hid (HF4.out.call hb)
            clear hb
            go_wp2_with fail
            with_reducible refine (qX.out _).mono ?_
            rintro e w6 ⟨⟨v1, rfl, hf⟩, hb⟩
            have HB6 := Lib.hid (HB5.out.trans (hb.mono HB5.out.size))
            have HT6 := Lib.hid (HT5.out.call hb)
            have HF6 := Lib.hid (HF5.out.call hb)
            have HV6 := Lib.hid hf
            clear hb hf
            go_wp2_with fail
            with_reducible refine (qY.out _).mono ?_
            rintro e w7 ⟨⟨v2, rfl, _⟩, hb⟩
            have HB7 := Lib.hid (HB6.out.trans (hb.mono HB6.out.size))
            have HT7 := Lib.hid (HT6.out.call hb)
            have HF7 := Lib.hid (HF6.out.call hb)
            have HV7 := Lib.hid (HV6.out.call hb)
            clear hb
            go_wp2_with fail
            with_reducible refine (qR.out _ HF7).mono ?_
            rintro e w8 ⟨rfl, hb⟩
            have HB8 := Lib.hid (HB7.out.trans (hb.mono HB7.out.size))
            have HT8 := Lib.hid (HT7.out.call hb)
            have HF8 := Lib.hid (HF7.out.call hb)
            have HV8 := Lib.hid (HV7.out.call hb)
            clear hb
            go_wp2_with fail
            with_reducible refine (qS.out _ _ _ HV8 HF8).mono ?_
            rintro e w9 ⟨rfl, hb⟩
            have HB9 := Lib.hid (HB8.out.trans (hb.mono HB8.out.size))
            have HT9 := Lib.hid (HT8.out.call hb)
            have HF9 := Lib.hid (HF8.out.call hb)
            clear hb
            by_cases hn1 : n < 1
            · have d1 : decide (n < 1) = true := decide_eq_true hn1
              go_wp2_with fail
              go_ret
              exact ⟨rfl, HB9.out⟩
            · have d1 : decide (n < 1) = false := decide_eq_false hn1
              have d2 : decide (32 < n) = true := decide_eq_true (hnr.resolve_left hn1)
              go_wp2_with fail
              go_ret
              exact ⟨rfl, HB9.out⟩
          · obtain ⟨m, hm2⟩ := Int.eq_ofNat_of_zero_le (show 0 ≤ n by omega)
            subst hm2
            rw [hcut.out m (by omega), if_neg hnr] at qD
            have d1 : decide ((m : Int) < 1) = false := decide_eq_false (by omega)
            have d2 : decide (32 < (m : Int)) = false := decide_eq_false (by omega)
            have hm32 : 1 ≤ m ∧ m ≤ 32 := by omega
            clear hcut hcut0 hnr
            generalize sumS (nth kList) hSt (bytesL (putF l)) = SS at *
            have hmS : m ≤ SS.size := by have := hsz.out; omega
            have tS : ((SS.extract 0 m).toList == (SS.extract 0 m).toList) = true := by simp
            clear hsz
            generalize putF l = PF at *
            go_wp2_with fail
            with_reducible refine (qP.out _ HF2).mono ?_
            rintro e w3 ⟨rfl, hb⟩
            have HB3 := Lib.hid (HB2.out.trans (hb.mono HB2.out.size))
            have HT3 := Lib.hid (HT2.out.call hb)
            have HF3 := Lib.hid (HF2.out.call hb)
            clear hb
            go_wp2_with fail
            with_reducible refine (qD.out _ HT3 HF3).mono ?_
            rintro e w4 ⟨rfl, hb⟩
            have HB4 := Lib.hid (HB3.out.trans (hb.mono HB3.out.size))
            have HT4 := Lib.hid (HT3.out.call hb)
            have HF4 := Lib.hid (HF3.out.call hb)
            clear hb
            go_wp2_with fail
            with_reducible refine (qM.out _ HF4).mono ?_
            rintro e w5 ⟨rfl, hb⟩
            have HB5 := Lib.hid (HB4.out.trans (hb.mono HB4.out.size))
            have HT5 := Lib.hid (HT4.out.call hb)
            have HF5 := Lib.hid (HF4.out.call hb)
            clear hb
            go_wp2_with fail
            with_reducible refine (qX.out _).mono ?_
            rintro e w6 ⟨⟨v1, rfl, hf⟩, hb⟩
            have HB6 := Lib.hid (HB5.out.trans (hb.mono HB5.out.size))
            have HT6 := Lib.hid (HT5.out.call hb)
            have HF6 := Lib.hid (HF5.out.call hb)
            have HV6 := Lib.hid hf
            clear hb hf
            go_wp2_with fail
            with_reducible refine (qY.out _).mono ?_
            rintro e w7 ⟨⟨v2, rfl, _⟩, hb⟩
            have HB7 := Lib.hid (HB6.out.trans (hb.mono HB6.out.size))
            have HT7 := Lib.hid (HT6.out.call hb)
            have HF7 := Lib.hid (HF6.out.call hb)
            have HV7 := Lib.hid (HV6.out.call hb)
            clear hb
            go_wp2_with fail
            with_reducible refine (qR.out _ HF7).mono ?_
            rintro e w8 ⟨rfl, hb⟩
            have HB8 := Lib.hid (HB7.out.trans (hb.mono HB7.out.size))
            have HT8 := Lib.hid (HT7.out.call hb)
            have HF8 := Lib.hid (HF7.out.call hb)
            have HV8 := Lib.hid (HV7.out.call hb)
            clear hb
            go_wp2_with fail
            with_reducible refine (qS.out _ _ _ HV8 HF8).mono ?_
            rintro e w9 ⟨rfl, hb⟩
            have HB9 := Lib.hid (HB8.out.trans (hb.mono HB8.out.size))
            have HT9 := Lib.hid (HT8.out.call hb)
            have HF9 := Lib.hid (HF8.out.call hb)
            clear hb
            go_wp2_with fail
            with_reducible refine (qW.out _).mono ?_
            rintro e w10 ⟨rfl, hb⟩
            have HB10 := Lib.hid (HB9.out.trans (hb.mono HB9.out.size))
            have HT10 := Lib.hid (HT9.out.call hb)
            have HF10 := Lib.hid (HF9.out.call hb)
            clear hb
            go_wp2_with fail
            go_ret
            exact ⟨rfl, HB10.out⟩
        · have te : more.toList.isEmpty = false := full_em h0
          obtain rfl : E2 = 3 := hE3.out h0
          clear hE0 hE3
          by_cases hnr : n < 1 ∨ 32 < n
          · rw [hcut0.out hnr, if_pos hnr] at qD
            clear hcut hcut0 hsz qW
            generalize putF l = PF at *
            go_wp2_with fail
            with_reducible refine (qP.out _ HF2).mono ?_
            rintro e w3 ⟨rfl, hb⟩
            have HB3 := Lib.hid (HB2.out.trans (hb.mono HB2.out.size))
            have HT3 := Lib.hid (HT2.out.call hb)
            have HF3 := Lib.hid (HF2.out.call hb)
            clear hb
            go_wp2_with fail
            with_reducible refine (qD.out _ HT3 HF3).mono ?_
            rintro e w4 ⟨rfl, hb⟩
            have HB4 := Lib.hid (HB3.out.trans (hb.mono HB3.out.size))
            have HT4 := Lib.hid (HT3.out.call hb)
            have HF4 := Lib.hid (HF3.out.call hb)
            clear hb
            go_wp2_with fail
            with_reducible refine (qM.out _ HF4).mono ?_
            rintro e w5 ⟨rfl, hb⟩
            have HB5 := Lib.hid (HB4.out.trans (hb.mono HB4.out.size))
            have HT5 := Lib.hid (HT4.out.call hb)
            have HF5 := Lib.hid (HF4.out.call hb)
            clear hb
            go_wp2_with fail
            with_reducible refine (qX.out _).mono ?_
            rintro e w6 ⟨⟨v1, rfl, hf⟩, hb⟩
            have HB6 := Lib.hid (HB5.out.trans (hb.mono HB5.out.size))
            have HT6 := Lib.hid (HT5.out.call hb)
            have HF6 := Lib.hid (HF5.out.call hb)
            have HV6 := Lib.hid hf
            clear hb hf
            go_wp2_with fail
            with_reducible refine (qY.out _).mono ?_
            rintro e w7 ⟨⟨v2, rfl, _⟩, hb⟩
            have HB7 := Lib.hid (HB6.out.trans (hb.mono HB6.out.size))
            have HT7 := Lib.hid (HT6.out.call hb)
            have HF7 := Lib.hid (HF6.out.call hb)
            have HV7 := Lib.hid (HV6.out.call hb)
            clear hb
            go_wp2_with fail
            with_reducible refine (qR.out _ HF7).mono ?_
            rintro e w8 ⟨rfl, hb⟩
            have HB8 := Lib.hid (HB7.out.trans (hb.mono HB7.out.size))
            have HT8 := Lib.hid (HT7.out.call hb)
            have HF8 := Lib.hid (HF7.out.call hb)
            have HV8 := Lib.hid (HV7.out.call hb)
            clear hb
            go_wp2_with fail
            with_reducible refine (qS.out _ _ _ HV8 HF8).mono ?_
            rintro e w9 ⟨rfl, hb⟩
            have HB9 := Lib.hid (HB8.out.trans (hb.mono HB8.out.size))
            have HT9 := Lib.hid (HT8.out.call hb)
            have HF9 := Lib.hid (HF8.out.call hb)
            clear hb
            by_cases hn1 : n < 1
            · have d1 : decide (n < 1) = true := decide_eq_true hn1
              go_wp2_with fail
              go_ret
              exact ⟨rfl, HB9.out⟩
            · have d1 : decide (n < 1) = false := decide_eq_false hn1
              have d2 : decide (32 < n) = true := decide_eq_true (hnr.resolve_left hn1)
              go_wp2_with fail
              go_ret
              exact ⟨rfl, HB9.out⟩
          · obtain ⟨m, hm2⟩ := Int.eq_ofNat_of_zero_le (show 0 ≤ n by omega)
            subst hm2
            rw [hcut.out m (by omega), if_neg hnr] at qD
            have d1 : decide ((m : Int) < 1) = false := decide_eq_false (by omega)
            have d2 : decide (32 < (m : Int)) = false := decide_eq_false (by omega)
            have hm32 : 1 ≤ m ∧ m ≤ 32 := by omega
            clear hcut hcut0 hnr
            generalize sumS (nth kList) hSt (bytesL (putF l)) = SS at *
            have hmS : m ≤ SS.size := by have := hsz.out; omega
            have tS : ((SS.extract 0 m).toList == (SS.extract 0 m).toList) = true := by simp
            clear hsz
            generalize putF l = PF at *
            go_wp2_with fail
            with_reducible refine (qP.out _ HF2).mono ?_
            rintro e w3 ⟨rfl, hb⟩
            have HB3 := Lib.hid (HB2.out.trans (hb.mono HB2.out.size))
            have HT3 := Lib.hid (HT2.out.call hb)
            have HF3 := Lib.hid (HF2.out.call hb)
            clear hb
            go_wp2_with fail
            with_reducible refine (qD.out _ HT3 HF3).mono ?_
            rintro e w4 ⟨rfl, hb⟩
            have HB4 := Lib.hid (HB3.out.trans (hb.mono HB3.out.size))
            have HT4 := Lib.hid (HT3.out.call hb)
            have HF4 := Lib.hid (HF3.out.call hb)
            clear hb
            go_wp2_with fail
            with_reducible refine (qM.out _ HF4).mono ?_
            rintro e w5 ⟨rfl, hb⟩
            have HB5 := Lib.hid (HB4.out.trans (hb.mono HB4.out.size))
            have HT5 := Lib.hid (HT4.out.call hb)
            have HF5 := Lib.hid (HF4.out.call hb)
            clear hb
            go_wp2_with fail
            with_reducible refine (qX.out _).mono ?_
            rintro e w6 ⟨⟨v1, rfl, hf⟩, hb⟩
            have HB6 := Lib.hid (HB5.out.trans (hb.mono HB5.out.size))
            have HT6 := Lib.hid (HT5.out.call hb)
            have HF6 := Lib.hid (HF5.out.call hb)
            have HV6 := Lib.hid hf
            clear hb hf
            go_wp2_with fail
            with_reducible refine (qY.out _).mono ?_
            rintro e w7 ⟨⟨v2, rfl, _⟩, hb⟩
            have HB7 := Lib.hid (HB6.out.trans (hb.mono HB6.out.size))
            have HT7 := Lib.hid (HT6.out.call hb)
            have HF7 := Lib.hid (HF6.out.call hb)
            have HV7 := Lib.hid (HV6.out.call hb)
            clear hb
            go_wp2_with fail
            with_reducible refine (qR.out _ HF7).mono ?_
            rintro e w8 ⟨rfl, hb⟩
            have HB8 := Lib.hid (HB7.out.trans (hb.mono HB7.out.size))
            have HT8 := Lib.hid (HT7.out.call hb)
            have HF8 := Lib.hid (HF7.out.call hb)
            have HV8 := Lib.hid (HV7.out.call hb)
            clear hb
            go_wp2_with fail
            with_reducible refine (qS.out _ _ _ HV8 HF8).mono ?_
            rintro e w9 ⟨rfl, hb⟩
            have HB9 := Lib.hid (HB8.out.trans (hb.mono HB8.out.size))
            have HT9 := Lib.hid (HT8.out.call hb)
            have HF9 := Lib.hid (HF8.out.call hb)
            clear hb
            go_wp2_with fail
            with_reducible refine (qW.out _).mono ?_
            rintro e w10 ⟨rfl, hb⟩
            have HB10 := Lib.hid (HB9.out.trans (hb.mono HB9.out.size))
            have HT10 := Lib.hid (HT9.out.call hb)
            have HF10 := Lib.hid (HF9.out.call hb)
            clear hb
            go_wp2_with fail
            go_ret
            exact ⟨rfl, HB10.out⟩
      · have hmf : mayF l = false := by simpa using hmay
        have hE : putE l = 1 := by unfold putE; rw [hmf]; rfl
        have hne : ¬ putE l = 0 := by rw [hE]; decide
        have hDE : digE l n = 1 := (if_neg hne).trans hE
        have hDV : digV (nth kList) hSt l n = ⟨#[]⟩ := if_neg hne
        have hPV : putV l = ⟨#[]⟩ := if_neg hne
        rw [hDE, hDV] at qD
        rw [hE, hPV] at qP
        rw [hmf] at qM
        clear hDE hDV hPV hE hne hmf hmay hu6 hg6 hb6 hU6 hz hz1
        go_wp2_with fail
        with_reducible refine (qP.out _ HF2).mono ?_
        rintro e w3 ⟨rfl, hb⟩
        have HB3 := Lib.hid (HB2.out.trans (hb.mono HB2.out.size))
        have HT3 := Lib.hid (HT2.out.call hb)
        have HF3 := Lib.hid (HF2.out.call hb)
        clear hb
        go_wp2_with fail
        with_reducible refine (qD.out _ HT3 HF3).mono ?_
        rintro e w4 ⟨rfl, hb⟩
        have HB4 := Lib.hid (HB3.out.trans (hb.mono HB3.out.size))
        have HT4 := Lib.hid (HT3.out.call hb)
        have HF4 := Lib.hid (HF3.out.call hb)
        clear hb
        go_wp2_with fail
        with_reducible refine (qM.out _ HF4).mono ?_
        rintro e w5 ⟨rfl, hb⟩
        have HB5 := Lib.hid (HB4.out.trans (hb.mono HB4.out.size))
        have HT5 := Lib.hid (HT4.out.call hb)
        have HF5 := Lib.hid (HF4.out.call hb)
        clear hb
        go_wp2_with fail
        go_ret
        exact ⟨rfl, HB5.out⟩
end Go.Proofs.YtaigngdlioplaaaDoor
