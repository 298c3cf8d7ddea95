/- The next frame by the document's order; the reference's Next. -/
import Derived.Test.YtjcdpmianmgiaaaFrameA
namespace Go.Proofs.Ytjcdpmianmgiaaa
open Go.RowKit

def nextD (s : ByteArray) (r : Int × Nat × Int) : ByteArray × Nat × Int :=
  if ¬ r.2.2 = 0 then (⟨#[]⟩, 0, r.2.2) else if r.1 = 0 then (⟨#[]⟩, 0, 3) else if (s.size : Int) - r.2.1 < r.1 + 1 then (⟨#[]⟩, 0, 2)
  else if s.data.toList[r.2.1 + r.1.toNat]? = some 165 then (s.extract r.2.1 (r.2.1 + r.1.toNat), r.2.1 + r.1.toNat + 1, 0) else (⟨#[]⟩, 0, 3)

theorem rNum_bad (s : ByteArray) (p : Nat) (f : Int) (m : Nat) (h : ¬ (rNum s p f m).2.2 = 0) : (rNum s p f m).1 = 0 := by
  unfold rNum at h ⊢
  split
  · split
    · rename_i h1 h2; simp [h1, h2] at h
    · rfl
  · rfl

theorem rTake_bad (s : ByteArray) (p : Nat) (f n : Int) (h : ¬ f = 0) : rTake s p f n = (⟨#[]⟩, p, f) := if_neg h
theorem rFail_bad (f e : Int) (h : ¬ f = 0) : rFail f e = f := if_neg h
theorem empty_ne_one (b : UInt8) : ¬ ((⟨#[]⟩ : ByteArray) = ⟨#[b]⟩) := by intro h; cases h

theorem extract_one (s : ByteArray) (i : Nat) (b : UInt8) : s.extract i (i + 1) = ⟨#[b]⟩ ↔ s.data.toList[i]? = some b := by
  constructor
  · intro h
    have h2 : (s.extract i (i + 1)).data.toList = [b] := by rw [h]
    rw [Lib.extract_data, show i + 1 - i = 1 by omega] at h2
    have h3 := congrArg (fun l => l[0]?) h2
    simpa [List.getElem?_take, List.getElem?_drop] using h3
  · intro h
    apply ByteArray.ext; apply Array.toList_inj.1
    rw [Lib.extract_data, show i + 1 - i = 1 by omega]
    obtain ⟨hlt, hv⟩ := List.getElem?_eq_some_iff.1 h
    rw [List.drop_eq_getElem_cons hlt, hv]
    rfl

theorem nextP_eq (s : ByteArray) (h : ¬ s.size = 0) : nextP s = nextD s (nextN s) := by
  have hp0 := rNum_p s 0 0 65536 (Nat.zero_le _)
  have hle := rNum_le s 0 0 65536
  have hbad := rNum_bad s 0 0 65536
  have hF1 : nextF1 s = if (nextN s).1 = 0 then rFail (nextN s).2.2 3 else (nextN s).2.2 := rfl
  have hF2 : nextF2 s = if (nextEnd s).1 = ⟨#[165]⟩ then (nextEnd s).2.2 else rFail (nextEnd s).2.2 3 := rfl
  have hR : nextRow s = rTake s (nextN s).2.1 (nextF1 s) (nextN s).1 := rfl
  have hE : nextEnd s = rTake s (nextRow s).2.1 (nextRow s).2.2 1 := rfl
  unfold nextP nextD
  rw [if_neg h]
  rw [← show nextN s = rNum s 0 0 65536 from rfl] at hp0 hle hbad
  generalize nextN s = r1 at *
  obtain ⟨n, p, f⟩ := r1
  simp only [] at *
  by_cases hf : f = 0
  · subst hf
    rw [if_neg (show ¬ ¬ (0 : Int) = 0 by simp)]
    by_cases hn : n = 0
    · subst hn
      rw [if_pos rfl] at hF1 ⊢
      have e1 : nextF1 s = 3 := hF1
      rw [e1, rTake_bad _ _ _ _ (show ¬ (3 : Int) = 0 by decide)] at hR
      rw [hR, rTake_bad _ _ _ _ (show ¬ (3 : Int) = 0 by decide)] at hE
      rw [hE, if_neg (empty_ne_one _), rFail_bad _ _ (show ¬ (3 : Int) = 0 by decide)] at hF2
      rw [hF2, if_neg (show ¬ (3 : Int) = 0 by decide)]
    · rw [if_neg hn] at hF1 ⊢
      rw [hF1] at hR
      by_cases h1 : (s.size : Int) - p < n
      · have e2 : takeC s p n = (2, ⟨#[]⟩, p) := by unfold takeC; rw [if_neg (by omega), if_pos h1]
        have e3 : rTake s p 0 n = (⟨#[]⟩, p, 2) := by unfold rTake; rw [e2]; rfl
        rw [e3] at hR
        rw [hR, rTake_bad _ _ _ _ (show ¬ (2 : Int) = 0 by decide)] at hE
        rw [hE, if_neg (empty_ne_one _), rFail_bad _ _ (show ¬ (2 : Int) = 0 by decide)] at hF2
        rw [hF2, if_neg (show ¬ (2 : Int) = 0 by decide), if_pos (by omega)]
      · have e2 : takeC s p n = (0, s.extract p (p + n.toNat), p + n.toNat) := by unfold takeC; rw [if_neg (by omega), if_neg h1]
        have e3 : rTake s p 0 n = (s.extract p (p + n.toNat), p + n.toNat, 0) := by unfold rTake; rw [e2]; rfl
        rw [e3] at hR
        rw [hR] at hE
        by_cases h2 : (s.size : Int) - p < n + 1
        · have e4 : takeC s (p + n.toNat) 1 = (2, ⟨#[]⟩, p + n.toNat) := by unfold takeC; rw [if_neg (by omega), if_pos (by omega)]
          have e5 : rTake s (p + n.toNat) 0 1 = (⟨#[]⟩, p + n.toNat, 2) := by unfold rTake; rw [e4]; rfl
          rw [e5] at hE
          rw [hE, if_neg (empty_ne_one _), rFail_bad _ _ (show ¬ (2 : Int) = 0 by decide)] at hF2
          rw [hF2, if_neg (show ¬ (2 : Int) = 0 by decide), if_pos h2]
        · have e4 : takeC s (p + n.toNat) 1 = (0, s.extract (p + n.toNat) (p + n.toNat + 1), p + n.toNat + 1) := by unfold takeC; rw [if_neg (by omega), if_neg (by omega)]; rfl
          have e5 : rTake s (p + n.toNat) 0 1 = (s.extract (p + n.toNat) (p + n.toNat + 1), p + n.toNat + 1, 0) := by unfold rTake; rw [e4]; rfl
          rw [e5] at hE
          rw [if_neg h2]
          by_cases h3 : s.data.toList[p + n.toNat]? = some 165
          · rw [hE, if_pos ((extract_one _ _ _).2 h3)] at hF2
            rw [hF2, if_pos rfl, if_pos h3, hR, hE]
          · rw [hE, if_neg (fun h => h3 ((extract_one _ _ _).1 h))] at hF2
            have e6 : nextF2 s = 3 := hF2
            rw [e6, if_neg (show ¬ (3 : Int) = 0 by decide), if_neg h3]
  · have hn := hbad hf
    rw [if_pos hn, rFail_bad _ _ hf] at hF1
    rw [hF1, rTake_bad _ _ _ _ hf] at hR
    rw [hR, rTake_bad _ _ _ _ hf] at hE
    rw [hE, if_neg (empty_ne_one _), rFail_bad _ _ hf] at hF2
    rw [hF2, if_neg hf, if_pos hf]

end Go.Proofs.Ytjcdpmianmgiaaa
