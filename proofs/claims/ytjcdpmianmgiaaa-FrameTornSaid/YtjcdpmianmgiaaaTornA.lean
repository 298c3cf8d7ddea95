/- What is torn is no frame; the frames that stand ahead of it. -/
import Derived.Test.YtjcdpmianmgiaaaFrameE
namespace Go.Proofs.Ytjcdpmianmgiaaa
open Go.RowKit

def zerosL (n : Nat) : List UInt8 := List.replicate n 0
/-- The first k bytes of a row's frame, with noughts behind. -/
def pieceL (s : ByteArray) (k : Nat) : List UInt8 := (frameStr s).data.toList.take k ++ zerosL ((frameStr s).size - k)

theorem numStr_small (n : Nat) (h : n < 128) : (numStr n).data.toList = [byteOf (n : Int)] := by
  rw [numStr_list, numF_lt _ _ h]; rfl
theorem numStr_big (n : Nat) (h : ¬ n < 128) (h2 : n < 16384) : (numStr n).data.toList = [byteOf ((n % 128 + 128 : Nat) : Int), byteOf ((n / 128 : Nat) : Int)] := by
  rw [numStr_list, numF_ge 8 n h, numF_lt _ _ (by omega)]; rfl

theorem nextP_bad (x : ByteArray) (h : ∀ v u, dig x.data.toList 0 0 = (0, v, u) → ¬ v = 0 → u + v + 1 ≤ x.size → x.data.toList[u + v]? = some 165 → False) : ¬ (nextP x).2.2 = 0 := by
  by_cases hs : x.size = 0
  · unfold nextP; rw [if_pos hs]; decide
  rw [nextP_eq x hs]
  obtain ⟨f, v, u, hd⟩ : ∃ f v u, dig x.data.toList 0 0 = (f, v, u) := ⟨_, _, _, rfl⟩
  have hn : (f = 0 ∧ nextN x = ((v : Int), u, 0)) ∨ ¬ (nextN x).2.2 = 0 := by
    unfold nextN rNum numC
    rw [if_pos rfl, List.drop_zero, hd]
    by_cases hf : f = 0
    · subst hf
      by_cases hm : 65536 < v
      · right; simp [hm]
      · left; simp [hm]
    · right; simp [hf]
  rcases hn with ⟨rfl, hn⟩ | hn
  · rw [hn]
    unfold nextD
    simp only []
    rw [if_neg (by simp)]
    by_cases hv : v = 0
    · rw [if_pos (by omega)]; decide
    rw [if_neg (by omega)]
    by_cases hle : (x.size : Int) - u < v + 1
    · rw [if_pos hle]; decide
    rw [if_neg hle, Int.toNat_natCast]
    by_cases h1 : x.data.toList[u + v]? = some 165
    · exact (h v u hd hv (by omega) h1).elim
    · rw [if_neg h1]; decide
  · unfold nextD
    rw [if_pos hn]
    exact hn

theorem torn_bad (s : ByteArray) (h1 : 1 ≤ s.size) (h2 : s.size ≤ 200) (x : ByteArray) (k m : Nat) (more : List UInt8) (hx : x.data.toList = (pieceL s k ++ more).take m) (hk : k < (frameStr s).size ∨ m < (frameStr s).size) : ¬ (nextP x).2.2 = 0 := by
  have hlen : (frameStr s).data.toList.length = (frameStr s).size := by simp
  have hfl := frameStr_list s
  have hls : s.data.toList.length = s.size := by simp
  have hxs : x.data.toList.length = x.size := by simp
  have key : ∀ i b, i < (frameStr s).size → x.data.toList[i]? = some b → i < m ∧ ((i < k ∧ (frameStr s).data.toList[i]? = some b) ∨ (k ≤ i ∧ b = 0)) := by
    intro i b hi hb
    rw [hx, List.getElem?_take] at hb
    split at hb
    · rename_i him
      refine ⟨him, ?_⟩
      unfold pieceL zerosL at hb
      by_cases hik : i < k
      · left
        rw [List.append_assoc, List.getElem?_append_left (by rw [List.length_take]; omega), List.getElem?_take, if_pos hik] at hb
        exact ⟨hik, hb⟩
      · right
        rw [List.append_assoc, List.getElem?_append_right (by rw [List.length_take]; omega), List.getElem?_append_left (by rw [List.length_take, List.length_replicate]; omega), List.getElem?_replicate, if_pos (by rw [List.length_take]; omega)] at hb
        exact ⟨by omega, (Option.some.inj hb).symm⟩
    · cases hb
  clear hx
  refine nextP_bad x fun v u hd hv hle h165 => ?_
  generalize hL : x.data.toList = L at *
  match L, hd with
  | [], hd => simp [dig] at hd
  | b :: r, hd =>
  have k0 := key 0 b (by rw [← hlen, hfl]; simp; omega) (by simp)
  by_cases hn : s.size < 128
  · rw [numStr_small _ hn] at hfl
    have hsz : (frameStr s).size = s.size + 2 := by rw [← hlen, hfl]; simp
    rcases k0 with ⟨hm0, ⟨hk0, hb⟩ | ⟨hk0, rfl⟩⟩
    · rw [hfl] at hb
      obtain rfl : byteOf ((s.size : Nat) : Int) = b := by simpa using hb
      have hb2 := toNat_byteOf s.size (by omega)
      have : v = s.size ∧ u = 1 := by
        simp only [dig, hb2] at hd
        rw [if_neg (by omega), if_pos hn, if_neg (by omega)] at hd
        simp at hd
        omega
      obtain ⟨rfl, rfl⟩ := this
      obtain ⟨hm2, ⟨hk2, _⟩ | ⟨_, hbad⟩⟩ := key (1 + s.size) 165 (by omega) h165
      · omega
      · cases hbad
    · simp [dig] at hd; omega
  · rw [numStr_big _ hn (by omega)] at hfl
    have hsz : (frameStr s).size = s.size + 3 := by rw [← hlen, hfl]; simp
    rcases k0 with ⟨hm0, ⟨hk0, hb⟩ | ⟨hk0, rfl⟩⟩
    · rw [hfl] at hb
      obtain rfl : byteOf ((s.size % 128 + 128 : Nat) : Int) = b := by simpa using hb
      have hb2 := toNat_byteOf (s.size % 128 + 128) (by omega)
      match r, hd with
      | [], hd => simp only [dig, hb2] at hd; rw [if_neg (by omega), if_neg (by omega)] at hd; simp at hd
      | c :: r', hd =>
        have k1 := key 1 c (by omega) (by simp)
        rcases k1 with ⟨hm1, ⟨hk1, hc⟩ | ⟨hk1, rfl⟩⟩
        · rw [hfl] at hc
          obtain rfl : byteOf ((s.size / 128 : Nat) : Int) = c := by simpa using hc
          have hc2 := toNat_byteOf (s.size / 128) (by omega)
          have : v = s.size ∧ u = 2 := by
            simp only [dig, hb2, hc2] at hd
            rw [if_neg (by omega), if_neg (by omega), if_neg (by omega), if_pos (by omega), if_neg (by omega)] at hd
            simp at hd
            omega
          obtain ⟨rfl, rfl⟩ := this
          obtain ⟨hm2, ⟨hk2, _⟩ | ⟨_, hbad⟩⟩ := key (2 + s.size) 165 (by omega) h165
          · omega
          · cases hbad
        · simp only [dig, hb2] at hd
          rw [if_neg (by omega), if_neg (by omega), if_neg (by decide), if_pos (by decide), if_pos (by decide)] at hd
          simp at hd
    · simp [dig] at hd; omega

def tornL : List (ByteArray × Nat) → List UInt8
  | [] => []
  | p :: l => pieceL p.1 p.2 ++ tornL l
def wholes : List (ByteArray × Nat) → Nat → List ByteArray
  | [], _ => []
  | p :: l, m => if p.2 = (frameStr p.1).size ∧ (frameStr p.1).size ≤ m then p.1 :: wholes l (m - (frameStr p.1).size) else []
theorem tornL_app (a b : List (ByteArray × Nat)) : tornL (a ++ b) = tornL a ++ tornL b := by
  induction a with
  | nil => rfl
  | cons p l ih => simp [tornL, ih]

set_option maxHeartbeats 4000000 in
theorem frames_torn (l : List (ByteArray × Nat)) : ∀ (m : Nat) (x : ByteArray), (∀ p, p ∈ l → 1 ≤ p.1.size ∧ p.1.size ≤ 200 ∧ p.2 ≤ (frameStr p.1).size) → x.data.toList = (tornL l).take m → framesOf x = (wholes l m).map fun s => (s, (frameStr s).size) := by
  induction l with
  | nil =>
    intro m x _ hx
    have : x.size = 0 := by
      have := congrArg List.length hx
      simpa [tornL] using this
    exact framesOf_bad x (by unfold nextP; rw [if_pos this]; decide)
  | cons p l ih =>
    intro m x hl hx
    obtain ⟨s, k⟩ := p
    obtain ⟨h1, h2, h3⟩ := hl (s, k) (by simp)
    simp only [] at h1 h2 h3
    have hlen : (frameStr s).data.toList.length = (frameStr s).size := by simp
    unfold tornL at hx
    simp only [] at hx
    by_cases hw : k = (frameStr s).size ∧ (frameStr s).size ≤ m
    · have hp : pieceL s k = (frameStr s).data.toList := by
        unfold pieceL zerosL
        rw [hw.1, Nat.sub_self, List.take_of_length_le (by omega)]
        simp
      rw [hp, List.take_append, List.take_of_length_le (by omega), hlen] at hx
      have hn := nextP_at x s _ hx h1 (by omega)
      rw [framesOf_ok x (by rw [hn]), hn]
      unfold wholes
      simp only []
      rw [if_pos hw, List.map_cons]
      congr 1
      refine ih _ _ (fun p hp => hl p (by simp [hp])) ?_
      unfold restOf
      rw [hn, Lib.extract_data, hx]
      simp only []
      rw [List.drop_append_of_le_length (by omega), List.drop_of_length_le (by omega), List.nil_append, List.take_of_length_le]
      have := congrArg List.length hx
      simp at this ⊢
      omega
    · rw [framesOf_bad x (torn_bad s h1 h2 x k m (tornL l) hx (by omega))]
      unfold wholes
      simp only []
      rw [if_neg hw]
      rfl

def preL (l : List (ByteArray × Nat)) (c : Nat) : Nat := ((l.take c).map fun p => (frameStr p.1).size).sum
theorem wholes_take (l : List (ByteArray × Nat)) : ∀ (m c : Nat), c ≤ l.length → (∀ j p, j < c → l[j]? = some p → p.2 = (frameStr p.1).size) → preL l c ≤ m → (∀ p, l[c]? = some p → p.2 ≠ (frameStr p.1).size ∨ m < preL l (c + 1)) →
    wholes l m = (l.take c).map (·.1) := by
  induction l with
  | nil => intro m c hc _ _ _; simp [wholes]
  | cons p l ih =>
    intro m c hc h1 h2 h3
    cases c with
    | zero =>
      unfold wholes
      have := h3 p (by simp)
      unfold preL at this
      simp at this
      rw [if_neg (by omega)]
      simp
    | succ c =>
      have hp := h1 0 p (by omega) (by simp)
      unfold preL at h2 h3
      simp only [List.take_succ_cons, List.map_cons, List.sum_cons] at h2 h3
      unfold wholes
      rw [if_pos ⟨hp, by omega⟩, List.take_succ_cons, List.map_cons]
      congr 1
      refine ih _ c (by simpa using hc) (fun j q hj hq => h1 (j + 1) q (by omega) (by simpa using hq)) (by unfold preL; omega) (fun q hq => ?_)
      have := h3 q (by simpa using hq)
      unfold preL
      omega
end Go.Proofs.Ytjcdpmianmgiaaa
