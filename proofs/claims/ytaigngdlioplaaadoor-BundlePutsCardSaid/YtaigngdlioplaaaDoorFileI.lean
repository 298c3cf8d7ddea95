/- The bundle's laws: what is great; the digest. -/
import Derived.Test.YtaigngdlioplaaaDoorFileH
import Derived.RegionTactic
namespace Go.Proofs.YtaigngdlioplaaaDoor
open Go Go.RowKit
set_option linter.unusedVariables false
set_option linter.unusedSimpArgs false

def gsum (l : List Fil) : Nat := (l.map fun f => min f.2.size 10000 + min f.1.size 100).sum
theorem gsum_step {l : List Fil} {k : Nat} {f : Fil} (h : l[k]? = some f) : gsum (l.take (k + 1)) = gsum (l.take k) + (min f.2.size 10000 + min f.1.size 100) := by
  obtain ⟨hk, rfl⟩ := List.getElem?_eq_some_iff.1 h
  unfold gsum
  rw [List.take_succ_eq_append_getElem hk, List.map_append, List.sum_append]
  simp only [List.map_cons, List.map_nil, List.sum_cons, List.sum_nil, Nat.add_zero]
theorem gsum_used : ∀ (l : List Fil), gsum l ≤ 6000 → usedF l ≤ gsum l ∧ ∀ (i : Nat) (f : Fil), l[i]? = some f → f.2.size ≤ 6000
  | [], _ => ⟨by simp [usedF, gsum], fun i f hf => by simp at hf⟩
  | f :: l, h => by
    simp only [gsum, usedF, List.map_cons, List.sum_cons] at h ⊢
    have ih := gsum_used l (by unfold gsum; omega)
    unfold gsum usedF at ih
    refine ⟨by omega, fun i g hg => ?_⟩
    match i, hg with
    | 0, hg => simp at hg; subst hg; omega
    | i + 1, hg => exact ih.2 i g (by simpa using hg)
theorem gsum_le (l : List Fil) : gsum l ≤ 10100 * l.length := by
  induction l with
  | nil => simp [gsum]
  | cons f l ih =>
    simp only [gsum, List.map_cons, List.sum_cons, List.length_cons] at ih ⊢
    omega

set_option maxRecDepth 100000 in
set_option maxHeartbeats 1000000 in
theorem GreatF_any (v : Value) (l : List Fil) (w : World) (hv : Hid (FilesAt w v l)) (hn : l.length ≤ 9223372036854775807) (hz : Hid (∀ (i : Nat) (f : Fil), l[i]? = some f → f.1.size ≤ 9223372036854775807 ∧ f.2.size ≤ 9223372036854775807)) :
    Calls Tryd.prog 48 #[v] w fun e w' => (∃ g, e = .returned (.bool g) ∧ (g = false → l.length ≤ 60 ∧ gsum l ≤ 6000)) ∧ Below w.heap.size w w' := by
  obtain ⟨A, c, rfl, hci⟩ := hv.out
  have HI := Lib.hid hci
  clear hci
  by_cases h60 : 60 < l.length
  · have t0 : decide ((60 : Int) < (l.length : Int)) = true := decide_eq_true (by omega)
    generalize l.length = n at *
    go_enter Tryd.func48, Tryd.ntmps48
    go_wp2_with fail
    go_ret
    exact ⟨⟨_, rfl, fun h => by cases h⟩, Below.refl _ _⟩
  · have t0 : decide ((60 : Int) < (l.length : Int)) = false := decide_eq_false (by omega)
    have hgl : Hid (∀ k, gsum (l.take k) ≤ 10100 * k) := fun k => by have h1 := gsum_le (l.take k); have h2 := List.length_take_le k l; omega
    go_enter Tryd.func48, Tryd.ntmps48
    go_wp2_with fail
    go_loopw [3, 4] (fun s3 s4 wr => ∃ k : Nat, s3 = .int .i64 (gsum (l.take k)) ∧ s4 = .int .i64 k ∧ Hid (k ≤ l.length) ∧ Hid (Below w.heap.size w wr)) (fun _ s4 _ => l.length - (intOf s4).toNat)
    case atStart => exact ⟨0, rfl, rfl, Nat.zero_le _, Below.refl _ _⟩
    case round =>
      obtain ⟨k, rfl, rfl, hk, hB⟩ := hrel
      have hG := hgl.out k
      by_cases hkl : k < l.length
      · have t1 : decide ((k : Int) < (l.length : Int)) = true := decide_eq_true (by omega)
        have hge : l[k]? = some l[k] := List.getElem?_eq_getElem hkl
        obtain ⟨b, o, rfl, hbl, k0, k1⟩ := HI.out k _ hge
        have hS := Lib.hid (gsum_step hge)
        have hzz := hz.out k _ hge
        have c0 := (hB.out.cell (p := ⟨b, o + k * 2, none⟩) hbl).trans k0
        have c1 := (hB.out.cell (p := ⟨b, o + k * 2 + 1, none⟩) hbl).trans k1
        clear k0 k1 hge
        generalize l[k] = f at *
        obtain ⟨s, t⟩ := f
        simp only [] at hzz c0 c1 hS
        generalize gsum (l.take k) = G at *
        go_wp2_with fail
        go_region
        go_wp2_with fail
        go_roundw
        case rel => exact ⟨k + 1, by rw [hS.out]; show Value.int .i64 _ = Value.int .i64 _; congr 1; omega, by go_num, by show _ ≤ _; omega, hB.out.drew⟩
        case measure => simp [intOf]; omega
      · obtain rfl : k = l.length := by have := hk.out; omega
        have t1 : decide ((l.length : Int) < (l.length : Int)) = false := decide_eq_false (by omega)
        rw [List.take_length] at *
        by_cases h6 : 6000 < gsum l
        · have t2 : decide ((6000 : Int) < (gsum l : Int)) = true := decide_eq_true (by omega)
          go_wp2_with fail
          go_ret
          exact ⟨⟨_, rfl, fun h => by cases h⟩, hB.out⟩
        · have t2 : decide ((6000 : Int) < (gsum l : Int)) = false := decide_eq_false (by omega)
          go_wp2_with fail
          go_ret
          exact ⟨⟨_, rfl, fun h => ⟨by omega, by omega⟩⟩, hB.out⟩

/-- What was put, with more behind it. -/
theorem getR_more (s : ByteArray) (r : List UInt8) : ∀ (l : List Fil) (p : Nat) (acc : List Fil), p ≤ s.size → s.data.toList.drop p = rowsB l ++ r → Fit l → ∃ q, getR s l.length p 0 acc = (acc ++ l, q, 0) ∧ q ≤ s.size ∧ s.data.toList.drop q = r
  | [], p, acc, hp, h, _ => ⟨p, by simp [getR], hp, by rw [h]; simp [rowsB]⟩
  | f :: l, p, acc, hp, h, hF => by
    have hf := hF 0 f rfl
    have h1 : s.data.toList.drop p = (rowStr f.1).data.toList ++ ((rowStr f.2).data.toList ++ (rowsB l ++ r)) := by rw [h]; simp [rowsB]
    have e1 : nmR s p 0 = (f.1, p + (rowStr f.1).size, 0) := rRow_at s p f.1 _ 16 (by omega) (by omega) h1
    have h2 := drop_step h1
    have hp1 : p + (rowStr f.1).size ≤ s.size := by have := rRow_p_le s p 0 16 hp; rw [show rRow s p 0 16 = nmR s p 0 from rfl, e1] at this; exact this
    have e2 : rRow s (p + (rowStr f.1).size) 0 1048576 = (f.2, p + (rowStr f.1).size + (rowStr f.2).size, 0) := rRow_at s _ f.2 _ 1048576 (by omega) (by omega) h2
    have hp2 : p + (rowStr f.1).size + (rowStr f.2).size ≤ s.size := by have := rRow_p_le s (p + (rowStr f.1).size) 0 1048576 hp1; rw [e2] at this; exact this
    have e3 : btR s p 0 = (f.2, p + (rowStr f.1).size + (rowStr f.2).size, 0) := by unfold btR; rw [e1]; exact e2
    obtain ⟨q, ih, hq⟩ := getR_more s r l _ (acc ++ [f]) hp2 (drop_step h2) (fun i g hg => hF (i + 1) g (by simpa using hg))
    refine ⟨q, ?_, hq⟩
    show getR s (l.length + 1) p 0 acc = _
    rw [getR, e1, e3, if_pos rfl, ih]
    simp
theorem get_more {l : List Fil} (hm : mayF l = true) (hF : Fit l) (m : ByteArray) (hne : ¬ m.size = 0) : getE (putF l ++ m) = 3 := by
  have hl := (mayF_short hm).2
  have hd : (putF l ++ m).data.toList.drop 0 = (numStr l.length).data.toList ++ (rowsB l ++ m.data.toList) := by
    rw [List.drop_zero, ByteArray.data_append, Array.toList_append]
    show (putFrom (numStr l.length) l).data.toList ++ _ = _
    rw [putFrom_rows l, List.append_assoc]
  have e0 := rNum_in (putF l ++ m) 0 l.length _ 4096 hl (by omega) hd
  have h1 := drop_step hd
  have hp : 0 + (numStr l.length).size ≤ (putF l ++ m).size := by have := rNum_p_le (putF l ++ m) 0 0 4096 (Nat.zero_le _); rw [e0] at this; exact this
  obtain ⟨q, hg, hq1, hq2⟩ := getR_more (putF l ++ m) m.data.toList l _ [] hp h1 hF
  have ha : allR (putF l ++ m) = (l, q, 0) := by
    unfold allR cntR
    rw [e0]
    simp only [Int.toNat_natCast]
    rw [hg]
    simp
  have hlt : q < (putF l ++ m).size := by
    have hlen : ((putF l ++ m).data.toList.drop q).length = m.size := by rw [hq2]; simp
    rw [drop_len] at hlen
    omega
  unfold getE
  rw [ha]
  exact endE_form (.inl hlt)
end Go.Proofs.YtaigngdlioplaaaDoor
