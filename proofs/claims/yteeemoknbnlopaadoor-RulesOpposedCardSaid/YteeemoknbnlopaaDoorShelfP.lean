/- Numbers' digits and names of files: plain laws, no program in sight. -/
import Derived.Test.YteeemoknbnlopaaDoorLib
import Derived.Lib.ItoaNum
namespace Go.Proofs.YteeemoknbnlopaaDoor
open Go Go.Lib
set_option linter.unusedVariables false

namespace Shelf
abbrev most : Nat := 1099511627776

/-- The program's reading of digits: n so far, i of them passed. -/
def goN : List UInt8 → Nat → Nat → Option Nat
  | [], n, _ => some n
  | b :: r, n, i =>
    if b.toNat < 48 ∨ 57 < b.toNat ∨ (0 < i ∧ n = 0) then none
    else if 1099511627776 < 10 * n + (b.toNat - 48) then none
    else goN r (10 * n + (b.toNat - 48)) (i + 1)
/-- What the program says of digits. -/
def numP (l : List UInt8) : Int × Bool := match goN l 0 0 with
  | none => (0, false)
  | some n => ((n : Int), decide (l ≠ []))
/-- The document's reading. -/
def goR : List UInt8 → Nat → Option Nat
  | [], n => some n
  | b :: r, n => if b.toNat < 48 ∨ 57 < b.toNat then none else goR r (10 * n + (b.toNat - 48))

theorem digit_byte {b : UInt8} (h : ¬ (b.toNat < 48 ∨ 57 < b.toNat)) : b = UInt8.ofNat (48 + (b.toNat - 48)) := by
  apply UInt8.toNat_inj.1
  simp; omega
theorem dec_step {n d : Nat} (hn : 0 < n) (hd : d < 10) : decDigits (10 * n + d) = decDigits n ++ [UInt8.ofNat (48 + d)] := by
  rw [decDigits, dif_neg (by omega), show (10 * n + d) / 10 = n by omega, show (10 * n + d) % 10 = d by omega]
theorem dec_ne (n : Nat) : decDigits n ≠ [] := by
  intro h
  have := congrArg List.length h
  rw [decDigits_length] at this
  unfold nDigits at this
  split at this <;> simp at this
theorem dec_len_pos (n : Nat) : 0 < (decDigits n).length := List.length_pos_iff.2 (dec_ne n)

/-- What is read is a number's digits. -/
theorem goN_dec : ∀ (l p : List UInt8) (n m : Nat), (p = [] ∧ n = 0 ∨ p = decDigits n) → n ≤ 1099511627776 → goN l n p.length = some m → (p ++ l = [] ∧ m = 0 ∨ p ++ l = decDigits m) ∧ m ≤ 1099511627776
  | [], p, n, m, hp, hn, h => by
    simp only [goN, Option.some.injEq] at h
    subst h
    rw [List.append_nil]
    exact ⟨hp, hn⟩
  | b :: r, p, n, m, hp, hn, h => by
    unfold goN at h
    split at h
    · cases h
    · rename_i h1
      split at h
      · cases h
      · rename_i h2
        have hb : ¬ (b.toNat < 48 ∨ 57 < b.toNat) := fun h => h1 (by omega)
        have hp2 : p ++ [b] = decDigits (10 * n + (b.toNat - 48)) := by
          rcases hp with ⟨rfl, rfl⟩ | rfl
          · rw [Nat.mul_zero, Nat.zero_add, decDigits, dif_pos (by omega)]
            rw [← digit_byte hb]; rfl
          · have hpos := dec_len_pos n
            have hn0 : 0 < n := by omega
            rw [dec_step hn0 (by omega), ← digit_byte hb]
        have := goN_dec r (p ++ [b]) (10 * n + (b.toNat - 48)) m (.inr hp2) (by omega) (by rw [List.length_append]; exact h)
        rw [List.append_assoc] at this
        exact this
theorem goN_append : ∀ (l : List UInt8) (b : UInt8) (n i : Nat), goN (l ++ [b]) n i = match goN l n i with
    | none => none
    | some m => if b.toNat < 48 ∨ 57 < b.toNat ∨ (0 < i + l.length ∧ m = 0) then none else if 1099511627776 < 10 * m + (b.toNat - 48) then none else some (10 * m + (b.toNat - 48))
  | [], b, n, i => by simp [goN]
  | c :: l, b, n, i => by
    show goN (c :: (l ++ [b])) n i = _
    unfold goN
    split
    · rfl
    · split
      · rfl
      · rw [goN_append l b, List.length_cons, show i + 1 + l.length = i + (l.length + 1) by omega]
theorem toNat_dig (d : Nat) (h : d < 10) : (UInt8.ofNat (48 + d)).toNat = 48 + d := by simp; omega
/-- A number's digits are read as it. -/
theorem goN_of_dec (n : Nat) (h : n ≤ 1099511627776) : goN (decDigits n) 0 0 = some n := by
  induction n using Nat.strongRecOn with
  | _ n ih =>
    rw [decDigits]
    split
    · rename_i h1
      have := toNat_dig n h1
      simp only [goN]
      rw [this, if_neg (by omega), if_neg (by omega)]
      congr 1; omega
    · rename_i h1
      have h2 := toNat_dig (n % 10) (by omega)
      rw [goN_append, ih (n / 10) (by omega) (by omega)]
      simp only []
      rw [h2, if_neg (by omega), if_neg (by omega)]
      congr 1; omega
theorem goR_append : ∀ (l : List UInt8) (b : UInt8) (n : Nat), goR (l ++ [b]) n = match goR l n with
    | none => none
    | some m => if b.toNat < 48 ∨ 57 < b.toNat then none else some (10 * m + (b.toNat - 48))
  | [], b, n => by simp [goR]
  | c :: l, b, n => by
    show goR (c :: (l ++ [b])) n = _
    unfold goR
    split
    · rfl
    · rw [goR_append l b]
theorem goR_of_dec (n : Nat) : goR (decDigits n) 0 = some n := by
  induction n using Nat.strongRecOn with
  | _ n ih =>
    rw [decDigits]
    split
    · rename_i h1
      have := toNat_dig n h1
      simp only [goR]
      rw [this, if_neg (by omega)]
      congr 1; omega
    · rename_i h1
      have h2 := toNat_dig (n % 10) (by omega)
      rw [goR_append, ih (n / 10) (by omega)]
      simp only []
      rw [h2, if_neg (by omega)]
      congr 1; omega
/-- The digits of a number that may be: at most thirteen. -/
theorem dec_short {n : Nat} (h : n ≤ 1099511627776) : (decDigits n).length ≤ 13 := by
  rw [decDigits_length]
  have key : ∀ k n, n < 10 ^ (k + 1) → nDigits n ≤ k + 1 := by
    intro k
    induction k with
    | zero => intro n hn; rw [nDigits_small (by omega)]; omega
    | succ k ih =>
      intro n hn
      by_cases h1 : n < 10
      · rw [nDigits_small h1]; omega
      · rw [nDigits_big h1]
        have := ih (n / 10) (by rw [Nat.pow_succ] at hn; omega)
        omega
  exact key 12 n (by have : (10 : Nat) ^ 13 = 10000000000000 := by decide
                     omega)

/-- The kind of a name, of the letters s and c, and the digits of a number. -/
def headsL : List UInt8 := [104, 101, 97, 100, 115]
def kindP (l : List UInt8) : Int × Int × Bool :=
  if l = headsL then (3, 0, true) else match l with
  | [] => (0, 0, false)
  | b :: r => if (numP r).2 = true ∧ b.toNat = 115 then (1, (numP r).1, true) else if (numP r).2 = true ∧ b.toNat = 99 then (2, (numP r).1, true) else (0, 0, false)
def kindR (l : List UInt8) : Int × Int × Bool :=
  if l = headsL then (3, 0, true) else match l with
  | [] => (0, 0, false)
  | b :: r =>
    if l.length < 2 ∨ 14 < l.length ∨ (b.toNat ≠ 115 ∧ b.toNat ≠ 99) then (0, 0, false)
    else match goR r 0 with
      | none => (0, 0, false)
      | some n => if 1099511627776 < n then (0, 0, false) else if 115 :: decDigits n = l then (1, (n : Int), true) else if 99 :: decDigits n = l then (2, (n : Int), true) else (0, 0, false)

theorem numP_true {r : List UInt8} (h : (numP r).2 = true) : ∃ n : Nat, r = decDigits n ∧ n ≤ 1099511627776 ∧ numP r = ((n : Int), true) := by
  unfold numP at h ⊢
  cases hg : goN r 0 0 with
  | none => rw [hg] at h; simp at h
  | some n =>
    rw [hg] at h
    simp only [decide_eq_true_eq] at h
    obtain ⟨h1, h2⟩ := goN_dec r [] 0 n (.inl ⟨rfl, rfl⟩) (by omega) hg
    rw [List.nil_append] at h1
    refine ⟨n, ?_, h2, by simp [h]⟩
    rcases h1 with ⟨e, _⟩ | e
    · exact absurd e h
    · exact e
theorem numP_dec {n : Nat} (h : n ≤ 1099511627776) : numP (decDigits n) = ((n : Int), true) := by
  unfold numP
  rw [goN_of_dec n h]
  simp [dec_ne]
theorem byte_eq {b : UInt8} {n : Nat} (hn : n < 256) : b.toNat = n ↔ b = UInt8.ofNat n := by
  constructor
  · intro h; apply UInt8.toNat_inj.1; simp; omega
  · intro h; subst h; simp; omega

theorem kinds_one (l : List UInt8) : kindP l = kindR l := by
  unfold kindP kindR
  by_cases hh : l = headsL
  · rw [if_pos hh, if_pos hh]
  · rw [if_neg hh, if_neg hh]
    cases l with
    | nil => rfl
    | cons b r =>
      simp only []
      by_cases hn : (numP r).2 = true
      · obtain ⟨n, rfl, hle, hnp⟩ := numP_true hn
        have hs := dec_short hle
        have hp := dec_len_pos n
        rw [hnp]
        simp only [true_and, List.length_cons]
        by_cases hb1 : b.toNat = 115
        · obtain rfl := (byte_eq (by decide)).1 hb1
          rw [if_pos hb1, if_neg (by omega), goR_of_dec]
          simp only []
          rw [if_neg (by omega), if_pos (show 115 :: decDigits n = UInt8.ofNat 115 :: decDigits n from rfl)]
        · rw [if_neg hb1]
          by_cases hb2 : b.toNat = 99
          · obtain rfl := (byte_eq (by decide)).1 hb2
            rw [if_pos hb2, if_neg (by omega), goR_of_dec]
            simp only []
            rw [if_neg (by omega), if_neg (by intro h; injection h with h1 _; exact absurd h1 (by decide)), if_pos (show 99 :: decDigits n = UInt8.ofNat 99 :: decDigits n from rfl)]
          · rw [if_neg hb2, if_pos (by omega)]
      · rw [if_neg (fun h => hn h.1), if_neg (fun h => hn h.1)]
        split
        · rfl
        · cases hg : goR r 0 with
          | none => rfl
          | some n =>
            simp only []
            split
            · rfl
            · rename_i h1
              have hne : ∀ c : UInt8, ¬ (c :: decDigits n = b :: r) := fun c h => by
                injection h with _ h2
                apply hn
                rw [← h2, numP_dec (by omega)]
              rw [if_neg (hne _), if_neg (hne _)]
end Shelf
end Go.Proofs.YteeemoknbnlopaaDoor
