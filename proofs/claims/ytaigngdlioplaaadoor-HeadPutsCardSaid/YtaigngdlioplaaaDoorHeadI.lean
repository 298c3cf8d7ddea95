/- The head, plain: what bytes are; what is got is put, what is put is got. -/
import Derived.Test.YtaigngdlioplaaaDoorHeadB
import Derived.Test.YtaigngdlioplaaaDoorRd
namespace Go.Proofs.YtaigngdlioplaaaDoor
open Go Go.RowKit

def mostH : Nat → Nat
  | 2 => 64
  | _ => 1099511627776
theorem mostH_le (k : Nat) : mostH k ≤ 1099511627776 := by unfold mostH; split <;> omega
/-- The reader behind k numbers: how far, and its fault. -/
def gH (s : ByteArray) : Nat → Nat × Int
  | 0 => (0, 0)
  | k + 1 => ((rNum s (gH s k).1 (gH s k).2 (mostH k)).2.1, (rNum s (gH s k).1 (gH s k).2 (mostH k)).2.2)
def vH (s : ByteArray) (k : Nat) : Int := (rNum s (gH s k).1 (gH s k).2 (mostH k)).1
theorem gH_le (s : ByteArray) : ∀ k, (gH s k).1 ≤ s.size
  | 0 => Nat.zero_le _
  | k + 1 => rNum_p_le s _ _ _ (gH_le s k)
theorem vH_val (s : ByteArray) (k : Nat) : 0 ≤ vH s k ∧ vH s k ≤ 1099511627776 := by
  have := rNum_val s (gH s k).1 (gH s k).2 (mostH k) (gH_le s k)
  have := mostH_le k
  unfold vH
  omega
def rowP (s : ByteArray) (n : Int) : ByteArray × Nat × Int := rRow s (gH s 4).1 (gH s 4).2 n
def rowR (s : ByteArray) (n : Int) : ByteArray × Nat × Int := rRow s (rowP s n).2.1 (rowP s n).2.2 n
theorem rowP_le (s : ByteArray) (n : Int) : (rowP s n).2.1 ≤ s.size := rRow_p_le s _ _ _ (gH_le s 4)
theorem rowR_le (s : ByteArray) (n : Int) : (rowR s n).2.1 ≤ s.size := rRow_p_le s _ _ _ (rowP_le s n)
def gotH (s : ByteArray) (n : Int) : Hd := ⟨vH s 0, vH s 1, vH s 2, vH s 3, (rowP s n).1, (rowR s n).1⟩
def errH (s : ByteArray) (n : Int) : Int := if 0 < (s.size : Int) - (rowR s n).2.1 ∨ mayB (gotH s n) n = false then rFail (rowR s n).2.2 3 else (rowR s n).2.2
def zeroH : Hd := ⟨0, 0, 0, 0, ⟨#[]⟩, ⟨#[]⟩⟩
def getH (s : ByteArray) (n : Int) : Hd := if errH s n = 0 then gotH s n else zeroH

theorem gotH_fld (s : ByteArray) (n : Int) (k : Nat) (h : k < 4) : fldH (gotH s n) k = vH s k := by
  match k, h with
  | 0, _ => rfl
  | 1, _ => rfl
  | 2, _ => rfl
  | 3, _ => rfl
theorem gotH_nums (s : ByteArray) (n : Int) : ∀ k, k ≤ 4 → (gH s k).2 = 0 → putP (gotH s n) k = s.extract 0 (gH s k).1
  | 0, _, _ => by
    apply ByteArray.ext
    apply Array.toList_inj.1
    rw [Lib.extract_data]
    rfl
  | k + 1, hk, h => by
    obtain ⟨h1, h2, h3, h4, h5, h6⟩ := rNum_well s (gH s k).1 (gH s k).2 (mostH k) (gH_le s k) h
    have h7 := vH_val s k
    rw [putP, gotH_nums s n k (by omega) h1, gotH_fld s n k (by omega), u64N_of _ ⟨h7.1, by omega⟩]
    have h8 : numStr (vH s k).toNat = s.extract (gH s k).1 (gH s (k + 1)).1 := h6
    rw [h8]
    exact ext_join s 0 _ _ (Nat.zero_le _) h4
/-- What is got is put as it was. -/
theorem got_put (s : ByteArray) (n : Int) (h : errH s n = 0) : putH (gotH s n) = s ∧ mayB (gotH s n) n = true := by
  unfold errH at h
  by_cases hc : 0 < (s.size : Int) - (rowR s n).2.1 ∨ mayB (gotH s n) n = false
  · rw [if_pos hc] at h
    unfold rFail at h
    split at h
    · exact absurd h (by decide)
    · contradiction
  · rw [if_neg hc] at h
    have hm : mayB (gotH s n) n = true := by
      cases hb : mayB (gotH s n) n with
      | true => rfl
      | false => exact absurd (Or.inr hb) hc
    have hl : (rowR s n).2.1 = s.size := by have := rowR_le s n; omega
    obtain ⟨a1, a2, a3, a4, a5⟩ := rRow_well s (rowP s n).2.1 (rowP s n).2.2 n (rowP_le s n) h
    obtain ⟨b1, b2, b3, b4, b5⟩ := rRow_well s (gH s 4).1 (gH s 4).2 n (gH_le s 4) a1
    have h4 := gotH_nums s n 4 (Nat.le_refl _) b1
    refine ⟨?_, hm⟩
    unfold putH
    rw [h4]
    have e1 : rowStr (gotH s n).p = s.extract (gH s 4).1 (rowP s n).2.1 := b5
    have e2 : rowStr (gotH s n).r = s.extract (rowP s n).2.1 (rowR s n).2.1 := a5
    have j1 : (gH s 4).1 ≤ (rowP s n).2.1 := b3
    have j2 : (rowP s n).2.1 ≤ (rowR s n).2.1 := a3
    rw [e1, e2, ext_join s 0 _ _ (Nat.zero_le _) j1, ext_join s 0 _ _ (Nat.zero_le _) j2, hl, extract_all]
/-- What is put is got. -/
theorem putH_got (h : Hd) (n : Int) (hm : mayB h n = true) (hn : n ≤ 32) : gotH (putH h) n = h ∧ errH (putH h) n = 0 := by
  have hk := hdOk_of hm hn
  have hm2 := hm
  unfold mayB numsB at hm2
  simp only [Bool.and_eq_true, decide_eq_true_eq] at hm2
  obtain ⟨⟨⟨⟨⟨⟨m1, m2⟩, m3, m4⟩, m5, m6⟩, m7, m8⟩, m9⟩, m10⟩ := hm2
  have hput : putH h = ⟨#[]⟩ ++ numStr h.i.toNat ++ numStr h.f.toNat ++ numStr h.c.toNat ++ numStr h.b.toNat ++ rowStr h.p ++ rowStr h.r := by
    show (⟨#[]⟩ ++ numStr (u64N h.i)) ++ numStr (u64N h.f) ++ numStr (u64N h.c) ++ numStr (u64N h.b) ++ rowStr h.p ++ rowStr h.r = _
    rw [u64N_of h.i (hk.f 0), u64N_of h.f (hk.f 1), u64N_of h.c (hk.f 2), u64N_of h.b (hk.f 3)]
  generalize putH h = s at *
  have d0 : s.data.toList.drop 0 = (numStr h.i.toNat).data.toList ++ ((numStr h.f.toNat).data.toList ++ ((numStr h.c.toNat).data.toList ++ ((numStr h.b.toNat).data.toList ++ ((rowStr h.p).data.toList ++ (rowStr h.r).data.toList)))) := by
    rw [hput]
    simp [ByteArray.data_append]
  have hz : s.size = (numStr h.i.toNat).size + (numStr h.f.toNat).size + (numStr h.c.toNat).size + (numStr h.b.toNat).size + (rowStr h.p).size + (rowStr h.r).size := by
    rw [hput]
    simp only [ByteArray.size_append]
    show 0 + _ + _ + _ + _ + _ + _ = _
    omega
  have d1 := drop_step d0
  have d2 := drop_step d1
  have d3 := drop_step d2
  have d4 := drop_step d3
  have d5 := drop_step d4
  have r0 := rNum_in s 0 h.i.toNat _ (mostH 0) (by show _ ≤ 1099511627776; omega) (by omega) d0
  have r1 := rNum_in s _ h.f.toNat _ (mostH 1) (by show _ ≤ 1099511627776; omega) (by omega) d1
  have r2 := rNum_in s _ h.c.toNat _ (mostH 2) (by show _ ≤ 64; omega) (by omega) d2
  have r3 := rNum_in s _ h.b.toNat _ (mostH 3) (by show _ ≤ 1099511627776; omega) (by omega) d3
  have r4 := rRow_at s _ h.p _ n (by omega) (by omega) d4
  have r5 := rRow_at s _ h.r [] n (by omega) (by omega) (by rw [d5, List.append_nil])
  have g1 : gH s 1 = (0 + (numStr h.i.toNat).size, 0) := by show (_, _) = _; unfold gH; rw [r0]
  have g2 : gH s 2 = (0 + (numStr h.i.toNat).size + (numStr h.f.toNat).size, 0) := by rw [gH, g1, r1]
  have g3 : gH s 3 = (0 + (numStr h.i.toNat).size + (numStr h.f.toNat).size + (numStr h.c.toNat).size, 0) := by rw [gH, g2, r2]
  have g4 : gH s 4 = (0 + (numStr h.i.toNat).size + (numStr h.f.toNat).size + (numStr h.c.toNat).size + (numStr h.b.toNat).size, 0) := by rw [gH, g3, r3]
  have p1 : rowP s n = (h.p, 0 + (numStr h.i.toNat).size + (numStr h.f.toNat).size + (numStr h.c.toNat).size + (numStr h.b.toNat).size + (rowStr h.p).size, 0) := by unfold rowP; rw [g4, r4]
  have p2 : rowR s n = (h.r, 0 + (numStr h.i.toNat).size + (numStr h.f.toNat).size + (numStr h.c.toNat).size + (numStr h.b.toNat).size + (rowStr h.p).size + (rowStr h.r).size, 0) := by unfold rowR; rw [p1, r5]
  have v0 : vH s 0 = h.i := by unfold vH gH; rw [r0]; simp only []; omega
  have v1 : vH s 1 = h.f := by unfold vH; rw [g1, r1]; simp only []; omega
  have v2 : vH s 2 = h.c := by unfold vH; rw [g2, r2]; simp only []; omega
  have v3 : vH s 3 = h.b := by unfold vH; rw [g3, r3]; simp only []; omega
  have hg : gotH s n = h := by
    unfold gotH
    rw [v0, v1, v2, v3, p1, p2]
  refine ⟨hg, ?_⟩
  unfold errH
  rw [hg, hm, p2]
  simp only []
  rw [if_neg (by simp; omega)]
end Go.Proofs.YtaigngdlioplaaaDoor
