/- The walk of HeadChains. -/
import Derived.Test.YtgjehokkmdbknaaDoorHeadG
import Derived.Test.YtgjehokkmdbknaaDoorShaZ
namespace Go.Proofs.YtgjehokkmdbknaaDoor
open Go Go.RowKit

theorem emp_cut : cutS (nth kList) hSt ⟨#[]⟩ 32 = ⟨#[227, 176, 196, 66, 152, 252, 28, 20, 154, 251, 244, 200, 153, 111, 185, 36, 39, 174, 65, 228, 100, 155, 147, 76, 164, 149, 153, 27, 120, 82, 184, 85]⟩ := by
  unfold cutS
  rw [if_neg (by decide), show (⟨#[]⟩ : ByteArray) = empS from rfl, emp_sum]
  decide +kernel

set_option maxRecDepth 100000 in
set_option maxHeartbeats 1000000 in
theorem alive08 (w : World) (hT : Hid (ShaT w (nth kList) hSt)) :
    Calls Tryd.prog 37 #[] w fun e w' => e = .returned (.bool true) ∧ Below w.heap.size w w' := by
  have q1 : Hid (Calls Tryd.prog 39 #[.slice none 0 0, .int .i64 32] w fun e w' => e = .returned (.tuple #[.string ⟨#[227, 176, 196, 66, 152, 252, 28, 20, 154, 251, 244, 200, 153, 111, 185, 36, 39, 174, 65, 228, 100, 155, 147, 76, 164, 149, 153, 27, 120, 82, 184, 85]⟩, .int .i64 0]) ∧ Below w.heap.size w w') := by
    have := Chain_any (nth kList) hSt none 0 0 (fun _ => ⟨0, 0, 0, 0, ⟨#[]⟩, ⟨#[]⟩⟩) 32 w hT (by show _ ∧ _; decide) (by show _ ≤ _; decide) (by intro i hi; omega)
    rw [show chainR (nth kList) hSt 32 (fun _ => ⟨0, 0, 0, 0, ⟨#[]⟩, ⟨#[]⟩⟩) 0 = some (0, cutS (nth kList) hSt ⟨#[]⟩ (32 : Nat)) from rfl] at this
    rw [show cutS (nth kList) hSt ⟨#[]⟩ (32 : Nat) = cutS (nth kList) hSt ⟨#[]⟩ 32 from rfl, emp_cut] at this
    exact this
  have q2 : Hid (∀ w, Hid (ShaT w (nth kList) hSt) → Calls Tryd.prog 50 #[.int .i64 32] w fun e w' => e = .returned (.string ⟨#[227, 176, 196, 66, 152, 252, 28, 20, 154, 251, 244, 200, 153, 111, 185, 36, 39, 174, 65, 228, 100, 155, 147, 76, 164, 149, 153, 27, 120, 82, 184, 85]⟩) ∧ Below w.heap.size w w') := fun w hT => by
    have := First_any (nth kList) hSt 32 w hT (by show _ ∧ _; decide)
    rw [emp_cut] at this
    exact this
  generalize nth kList = K at *
  generalize hSt = H at *
  go_enter Tryd.func37, Tryd.ntmps37
  go_wp2_with fail
  refine q1.out.mono ?_
  rintro e w1 ⟨rfl, hb⟩
  have HB1 := Lib.hid hb
  have hT1 := Lib.hid (hT.out.call hb)
  clear hb
  go_wp2_with fail
  refine (q2.out _ hT1).mono ?_
  rintro e w2 ⟨rfl, hb⟩
  have HB2 := Lib.hid (HB1.out.trans (hb.mono HB1.out.size))
  clear hb
  go_wp2_with fail
  go_ret
  exact ⟨rfl, HB2.out⟩

set_option maxRecDepth 100000 in
set_option maxHeartbeats 2000000 in
theorem HeadChains_walk (A : Option Addr) (n c : Nat) (g : Nat → Hd) (m : Int) (w : World) (hT : Hid (ShaT w (nth kList) hSt)) (hA : Hid (HdsAt w A n g)) (hn : n ≤ 9223372036854775807) (hm : Hid (I64 m)) :
    Calls Tryd.prog 9 #[.slice A n c, .int .i64 m] w fun e w' => e = .returned (.bool true) ∧ Below w.heap.size w w' := by
  have a0 := Lib.hid (alive08 w hT)
  have qG := Lib.hid (fun i w => great_any (g i) w)
  have qK := Lib.hid (fun w => MakeKey_any w)
  have qC := Lib.hid (fun (m : Nat) w h1 h2 h3 h4 => Chain_any (nth kList) hSt A n c g m w h1 h2 h3 h4)
  have qR := Lib.hid (fun (m : Nat) w h2 h3 h4 => rChain_any A n c g m w h2 h3 h4)
  have qB := Lib.hid (fun w h => Chain_bad (.slice A n c) m w h)
  generalize nth kList = K at *
  generalize hSt = H at *
  generalize key72 = KA at *
  go_enter Tryd.func9, Tryd.ntmps9
  go_wp2_with fail
  refine a0.out.mono ?_
  rintro e w1 ⟨rfl, hb⟩
  have HB1 := Lib.hid hb
  have hT1 := Lib.hid (hT.out.call hb)
  have hA1 := Lib.hid (hA.out.below hb)
  clear hb a0 hT hA
  by_cases h40 : 40 < n
  · go_wp2_with fail
    go_ret
    exact ⟨rfl, HB1.out⟩
  · have h40' : Hid (n ≤ 40) := by show _ ≤ _; omega
    go_wp2_with fail
    go_loopw [5] (fun iv wr => ∃ k : Nat, iv = .int .i64 k ∧ Hid (k ≤ n) ∧ Hid (Below w1.heap.size w1 wr)) (fun iv _ => n - (intOf iv).toNat)
    case atStart => exact ⟨0, rfl, Nat.zero_le _, Below.refl _ _⟩
    case round =>
      obtain ⟨k, rfl, hk, HB⟩ := hrel
      have hk2 := hk.out
      have HBr := Lib.hid (HB1.out.trans (HB.out.mono HB1.out.size))
      by_cases hlt : k < n
      · obtain ⟨b, o, rfl, hbl, hc⟩ := hA1.out k hlt
        have qg := Lib.hid (fun w => qG.out k w)
        clear qG qC qR qB qK hA1 hk
        generalize g k = h at *
        obtain ⟨i, fi, cc, bb, pp, rr⟩ := h
        have c0 : wr.cell? ⟨b, o + k * 6, none⟩ = some (.int .i64 i) := (HB.out.cell (p := ⟨b, o + k * 6, none⟩) hbl).trans (hc 0 _ rfl)
        have c1 : wr.cell? ⟨b, o + k * 6 + 1, none⟩ = some (.int .i64 fi) := (HB.out.cell (p := ⟨b, o + k * 6 + 1, none⟩) hbl).trans (hc 1 _ rfl)
        have c2 : wr.cell? ⟨b, o + k * 6 + 2, none⟩ = some (.int .i64 cc) := (HB.out.cell (p := ⟨b, o + k * 6 + 2, none⟩) hbl).trans (hc 2 _ rfl)
        have c3 : wr.cell? ⟨b, o + k * 6 + 3, none⟩ = some (.int .i64 bb) := (HB.out.cell (p := ⟨b, o + k * 6 + 3, none⟩) hbl).trans (hc 3 _ rfl)
        have c4 : wr.cell? ⟨b, o + k * 6 + 4, none⟩ = some (.string pp) := (HB.out.cell (p := ⟨b, o + k * 6 + 4, none⟩) hbl).trans (hc 4 _ rfl)
        have c5 : wr.cell? ⟨b, o + k * 6 + 5, none⟩ = some (.string rr) := (HB.out.cell (p := ⟨b, o + k * 6 + 5, none⟩) hbl).trans (hc 5 _ rfl)
        unfold Hd.cells at qg
        simp only [] at qg
        obtain ⟨G, hG⟩ : ∃ G, decide (100 < pp.size ∨ 100 < rr.size) = G := ⟨_, rfl⟩
        rw [hG] at qg
        clear hG hc
        go_wp2_with fail
        refine (qg.out _).mono ?_
        rintro e w3 ⟨rfl, hb3⟩
        have HB3 := Lib.hid (HB.out.trans (hb3.mono HB.out.size))
        have HE := Lib.hid (HBr.out.trans (hb3.mono HBr.out.size))
        clear hb3
        cases G with
        | true =>
          go_wp2_with fail
          go_ret
          exact ⟨rfl, HE.out⟩
        | false =>
          go_wp2_with fail
          go_roundw
          case rel => exact ⟨k + 1, by go_num, by show _ ≤ _; omega, HB3⟩
          case measure => simp [intOf]; omega
      · have hTr := Lib.hid (hT1.out.call HB.out)
        have hAr := Lib.hid (hA1.out.below HB.out)
        clear hk hT1 hA1 qG
        by_cases hm1 : m < 1
        · have qb := Lib.hid (fun w => qB.out w (by omega))
          clear qC qR qB
          go_wp2_with fail
          refine (qb.out _).mono ?_
          rintro e w3 ⟨rfl, hb3⟩
          have HE := Lib.hid (HBr.out.trans (hb3.mono HBr.out.size))
          clear hb3
          go_wp2_with fail
          go_ret
          exact ⟨rfl, HE.out⟩
        · by_cases hm2 : 32 < m
          · have qb := Lib.hid (fun w => qB.out w (by omega))
            clear qC qR qB
            go_wp2_with fail
            refine (qb.out _).mono ?_
            rintro e w3 ⟨rfl, hb3⟩
            have HE := Lib.hid (HBr.out.trans (hb3.mono HBr.out.size))
            clear hb3
            go_wp2_with fail
            go_ret
            exact ⟨rfl, HE.out⟩
          · obtain ⟨m', rfl⟩ := Int.eq_ofNat_of_zero_le (show 0 ≤ m by omega)
            have hmm : Hid (1 ≤ m' ∧ m' ≤ 32) := by show _ ∧ _; omega
            have qc := Lib.hid (qC.out m' _ hTr hmm h40' hAr)
            have qr := Lib.hid (fun w h => qR.out m' w hmm h40' h)
            clear qC qR qB
            generalize chainR K H m' g n = R at *
            go_wp2_with fail
            refine qc.out.mono ?_
            rintro e w3 ⟨rfl, hb3⟩
            have HE := Lib.hid (HBr.out.trans (hb3.mono HBr.out.size))
            have hA3 := Lib.hid (hAr.out.below hb3)
            clear hb3
            rcases R with _ | ⟨f, p⟩
            · simp only [chainE, chainOut] at qr ⊢
              go_wp2_with fail
              refine (qK.out _).mono ?_
              rintro e w4 ⟨rfl, hb4⟩
              have HE4 := Lib.hid (HE.out.trans (hb4.mono HE.out.size))
              have hA4 := Lib.hid (hA3.out.below hb4)
              clear hb4
              go_wp2_with fail
              refine (qr.out _ hA4).mono ?_
              rintro e w5 ⟨rfl, hb5⟩
              have HE5 := Lib.hid (HE4.out.trans (hb5.mono HE4.out.size))
              clear hb5
              go_wp2_with fail
              go_ret
              exact ⟨rfl, HE5.out⟩
            · have hbq : (p.toList == p.toList) = true := by simp
              simp only [chainE, chainOut] at qr ⊢
              go_wp2_with fail
              refine (qK.out _).mono ?_
              rintro e w4 ⟨rfl, hb4⟩
              have HE4 := Lib.hid (HE.out.trans (hb4.mono HE.out.size))
              have hA4 := Lib.hid (hA3.out.below hb4)
              clear hb4
              go_wp2_with fail
              refine (qr.out _ hA4).mono ?_
              rintro e w5 ⟨rfl, hb5⟩
              have HE5 := Lib.hid (HE4.out.trans (hb5.mono HE4.out.size))
              clear hb5
              go_wp2_with fail
              go_ret
              exact ⟨rfl, HE5.out⟩
end Go.Proofs.YtgjehokkmdbknaaDoor
