/- The walk of ShaPieces. -/
import Derived.Test.YtgjehokkmdbknaaDoorShaR
namespace Go.Proofs.YtgjehokkmdbknaaDoor
open Go Go.RowKit

theorem bytesL_append (a b : ByteArray) : bytesL (a ++ b) = bytesL a ++ bytesL b := by
  unfold bytesL
  rw [ByteArray.data_append, Array.toList_append, List.map_append]

set_option maxRecDepth 100000 in
set_option maxHeartbeats 4000000 in
theorem ShaPieces_walk (A : Option Addr) (n c : Nat) (f : Nat → ByteArray) (w : World) (hT : Hid (ShaT w (nth kList) hSt)) (hA : Hid (∀ i, i < n → ∃ b o, A = some ⟨b, o, none⟩ ∧ b < w.heap.size ∧ w.cell? ⟨b, o + i, none⟩ = some (.string (f i)) ∧ (f i).size ≤ 9223372036854775807)) (hn : n ≤ 9223372036854775807) :
    Calls Tryd.prog 6 #[.slice A n c] w fun e w' => e = .returned (.bool true) ∧ Below w.heap.size w w' := by
  have a0 := Lib.hid (alive_any w hT)
  have q1 := Lib.hid (fun (tot : ByteArray) w (h : tot.size ≤ 6000) => rSum_any tot w (by show _ ≤ _; omega))
  generalize nth kList = K at *
  generalize hSt = H at *
  go_enter Tryd.func6, Tryd.ntmps6
  go_wp2_with fail
  refine a0.out.mono ?_
  rintro e w1 ⟨rfl, hb⟩
  have HB1 := Lib.hid hb
  have hT1 := Lib.hid (hT.out.call hb)
  clear hb a0
  by_cases h30 : 30 < n
  · go_wp2_with fail
    go_ret
    exact ⟨rfl, HB1.out⟩
  · go_wp2_with fail
    go_loopw [3] (fun iv wr => ∃ i : Nat, iv = .int .i64 i ∧ Hid (i ≤ n) ∧ Hid (∀ j, j < i → (f j).size ≤ 200) ∧ w1 = wr) (fun iv _ => n - (intOf iv).toNat)
    case atStart => exact ⟨0, rfl, Nat.zero_le _, fun j hj => by omega, rfl⟩
    case round =>
      obtain ⟨i, rfl, hi, hF, rfl⟩ := hrel
      have hi2 := hi.out
      by_cases hlt : i < n
      · obtain ⟨b, o, rfl, hb, hc, hfs⟩ := hA.out i hlt
        have cP : w1.cell? ⟨b, o + i, none⟩ = some (.string (f i)) := (HB1.out.cell (p := ⟨b, o + i, none⟩) hb).trans hc
        have hFN : (f i).size ≤ 200 → Hid (∀ j, j < i + 1 → (f j).size ≤ 200) := fun h j hj => by
          rcases Nat.lt_or_ge j i with h1 | h1
          · exact hF.out j h1
          · obtain rfl : j = i := by omega
            exact h
        generalize f i = s at *
        by_cases h200 : 200 < s.size
        · go_wp2_with fail
          go_ret
          exact ⟨rfl, HB1.out⟩
        · have HFN := Lib.hid (hFN (by omega)).out
          clear hFN
          go_wp2_with fail
          go_roundw
          case rel => exact ⟨i + 1, by go_num, by show _ ≤ _; omega, HFN, trivial⟩
          case measure => simp [intOf]; omega
      · have hin : i = n := by omega
        rw [hin] at hF
        clear hin hi
        have qN := Lib.hid (New_any K H w1 hT1)
        go_wp2_with fail
        refine qN.out.mono ?_
        rintro e w2 ⟨rfl, hh, hb⟩
        have HH := Lib.hid hh
        have HL := Lib.hid hb
        have hT2 := Lib.hid (hT1.out.call hb)
        have hgK : Hid (3 < w1.heap.size ∧ 2 < w1.heap.size) := ⟨hT1.out.ltk, hT1.out.lth⟩
        have hwg := HB1.out.size
        obtain ⟨g, hg⟩ : ∃ g, w1.heap.size = g := ⟨_, rfl⟩
        rw [hg] at HH HL hgK hwg ⊢
        have HG := Lib.hid hg
        clear hh hb qN hg
        go_wp2_with fail
        go_loopw [5, 6] (fun tv iv wr => ∃ (i : Nat) (tot : ByteArray), tv = .string tot ∧ iv = .int .i64 i ∧ Hid (i ≤ n) ∧ Hid (tot.size ≤ 200 * i) ∧ Hid (HashAt wr g K H (bytesL tot)) ∧ Hid (Below g w1 wr) ∧ Hid (ShaT wr K H)) (fun _ iv _ => n - (intOf iv).toNat)
        case atStart => exact ⟨0, _, rfl, rfl, Nat.zero_le _, Nat.le_refl _, HH, HL, hT2⟩
        case round =>
          clear HH HL hT2
          obtain ⟨k, tot, rfl, rfl, hk, hts, HH, HL, HT⟩ := hrel
          have hk2 := hk.out
          have hts2 := hts.out
          have hts6 : tot.size ≤ 6000 := by omega
          have r1 := Lib.hid (fun wz h1 h2 => HSum_any K H g (bytesL tot) wz h1 h2 (bytesL_range tot) (by show _ ≤ _; rw [bytesL_len]; omega))
          have r2 := Lib.hid (fun wz h1 => Sum_any K H tot wz h1 (by show _ ≤ _; omega))
          have r3 := Lib.hid (fun wz h1 => HLen_any K H g (bytesL tot) wz h1)
          rw [bytesL_len] at r3
          by_cases hlt2 : k < n
          · obtain ⟨b, o, rfl, hb, hc, hfs⟩ := hA.out k hlt2
            have hf200 := hF.out k hlt2
            have r4 := Lib.hid (fun wz h1 h2 => Write_any K H g (bytesL tot) (f k) wz h1 h2 (bytesL_range tot) hgK (by show _ ≤ _; rw [bytesL_len]; omega))
            rw [← bytesL_append] at r4
            have HC : Hid (∀ wz, Hid (Below g w1 wz) → wz.cell? ⟨b, o + k, none⟩ = some (.string (f k))) := fun wz h =>
              (h.out.cell (p := ⟨b, o + k, none⟩) (by show b < g; omega)).trans ((HB1.out.cell (p := ⟨b, o + k, none⟩) hb).trans hc)
            generalize f k = s at *
            generalize sumS K H (bytesL tot) = S at *
            clear hk hc
            go_wp2_with fail
            refine (r1.out _ HH HT).mono ?_
            rintro e w3 ⟨rfl, hb3⟩
            have HH3 := Lib.hid (HH.out.call hb3)
            have HT3 := Lib.hid (HT.out.call hb3)
            have HL3 := Lib.hid (HL.out.trans (hb3.mono (by have := HH.out.lt; omega)))
            clear hb3
            go_wp2_with fail
            refine (r2.out _ HT3).mono ?_
            rintro e w4 ⟨rfl, hb3⟩
            have HH4 := Lib.hid (HH3.out.call hb3)
            have HT4 := Lib.hid (HT3.out.call hb3)
            have HL4 := Lib.hid (HL3.out.trans (hb3.mono (by have := HH3.out.lt; omega)))
            clear hb3 HH3 HT3 HL3
            go_wp2_with fail
            refine (r3.out _ HH4).mono ?_
            rintro e w5 ⟨rfl, rfl⟩
            have cP := HC.out _ HL4
            go_wp2_with fail
            refine (r4.out _ HH4 HT4).mono ?_
            rintro e w5 ⟨rfl, hh5, hb5⟩
            have HH5 := Lib.hid hh5
            have HT5 := Lib.hid (HT4.out.below hb5 hgK.out.1 hgK.out.2)
            have HL5 := Lib.hid (HL4.out.trans hb5)
            clear hh5 hb5 cP
            have cP := HC.out _ HL5
            go_wp2_with fail
            go_roundw
            case rel => exact ⟨k + 1, _, rfl, by go_num, by show _ ≤ _; omega, by show _ ≤ _; rw [ByteArray.size_append]; omega, HH5, HL5, HT5⟩
            case measure => simp [intOf]; omega
          · have r5 := Lib.hid (fun wz => q1.out tot wz hts6)
            generalize sumS K H (bytesL tot) = S at *
            have n1 := Lib.hid (fun w => nil_Write ⟨#[97]⟩ w)
            have n2 := Lib.hid (fun w => nil_HSum w)
            have n3 := Lib.hid (fun w => nil_HLen w)
            go_wp2_with fail
            refine (n1.out _).mono ?_
            rintro e w3 ⟨rfl, rfl⟩
            go_wp2_with fail
            refine (r1.out _ HH HT).mono ?_
            rintro e w3 ⟨rfl, hb3⟩
            have HH3 := Lib.hid (HH.out.call hb3)
            have HT3 := Lib.hid (HT.out.call hb3)
            have HL3 := Lib.hid (HL.out.trans (hb3.mono (by have := HH.out.lt; omega)))
            clear hb3
            go_wp2_with fail
            refine (r5.out _).mono ?_
            rintro e w4 ⟨rfl, hb3⟩
            have HH4 := Lib.hid (HH3.out.call hb3)
            have HT4 := Lib.hid (HT3.out.call hb3)
            have HL4 := Lib.hid (HL3.out.trans (hb3.mono (by have := HH3.out.lt; omega)))
            clear hb3 HH3 HT3 HL3
            go_wp2_with fail
            refine (r1.out _ HH4 HT4).mono ?_
            rintro e w5 ⟨rfl, hb3⟩
            have HH5 := Lib.hid (HH4.out.call hb3)
            have HT5 := Lib.hid (HT4.out.call hb3)
            have HL5 := Lib.hid (HL4.out.trans (hb3.mono (by have := HH4.out.lt; omega)))
            clear hb3 HH4 HT4 HL4
            go_wp2_with fail
            refine (r2.out _ HT5).mono ?_
            rintro e w6 ⟨rfl, hb3⟩
            have HL6 := Lib.hid (HL5.out.trans (hb3.mono (by have := HH5.out.lt; omega)))
            clear hb3 HH5 HT5 HL5
            go_wp2_with fail
            refine (n2.out _).mono ?_
            rintro e w7 ⟨rfl, rfl⟩
            go_wp2_with fail
            refine (n3.out _).mono ?_
            rintro e w7 ⟨rfl, rfl⟩
            go_wp2_with fail
            go_ret
            exact ⟨rfl, HB1.out.trans (HL6.out.mono hwg)⟩
end Go.Proofs.YtgjehokkmdbknaaDoor
