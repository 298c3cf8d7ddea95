/- The tree, plain: hashes, split, root, proof, check. -/
import Derived.Test.YtaigngdlioplaaaDoorShaF
namespace Go.Proofs.YtaigngdlioplaaaDoor
open Go Go.RowKit
set_option linter.unusedVariables false

def leafS (K : Nat → Int) (H : St) (n : Int) (s : ByteArray) : ByteArray := cutS K H (⟨#[0]⟩ ++ s) n
def nodeS (K : Nat → Int) (H : St) (n : Int) (a b : ByteArray) : ByteArray := cutS K H (⟨#[1]⟩ ++ a ++ b) n
/-- The least power of two from k on that is not below a half. -/
def splitF : Nat → Nat → Nat → Nat
  | 0, k, _ => k
  | f + 1, k, c => if k < c - k then splitF f (2 * k) c else k
def splitN (c : Nat) : Nat := if c < 2 then 0 else splitF 62 1 c

theorem splitF_stop (f k c : Nat) (h : ¬ k < c - k) : splitF f k c = k := by
  cases f with
  | zero => rfl
  | succ f => rw [splitF, if_neg h]
theorem splitF_go (f k c : Nat) (h : k < c - k) : splitF (f + 1) k c = splitF f (2 * k) c := by rw [splitF, if_pos h]
theorem splitF_lt : ∀ (f k c : Nat), 1 ≤ k → k < c → 1 ≤ splitF f k c ∧ splitF f k c < c
  | 0, k, c, h1, h2 => ⟨h1, h2⟩
  | f + 1, k, c, h1, h2 => by
    rw [splitF]
    split
    · exact splitF_lt f (2 * k) c (by omega) (by omega)
    · exact ⟨h1, h2⟩
theorem splitN_lt (c : Nat) (h : 2 ≤ c) : 1 ≤ splitN c ∧ splitN c < c := by
  unfold splitN
  rw [if_neg (by omega)]
  exact splitF_lt 62 1 c (Nat.le_refl _) h

/-- The root of leaves. -/
def rootS (K : Nat → Int) (H : St) (n : Int) (l : List ByteArray) : ByteArray :=
  if h0 : l.length = 0 then cutS K H ⟨#[]⟩ n
  else if h1 : l.length = 1 then leafS K H n (l[0]'(by omega))
  else nodeS K H n (rootS K H n (l.take (splitN l.length))) (rootS K H n (l.drop (splitN l.length)))
termination_by l.length
decreasing_by
  · have := splitN_lt l.length (by omega)
    rw [List.length_take]; omega
  · have := splitN_lt l.length (by omega)
    rw [List.length_drop]; omega
theorem rootS_nil (K : Nat → Int) (H : St) (n : Int) (l : List ByteArray) (h : l.length = 0) : rootS K H n l = cutS K H ⟨#[]⟩ n := by
  rw [rootS, dif_pos h]
theorem rootS_one (K : Nat → Int) (H : St) (n : Int) (l : List ByteArray) (h : l.length = 1) : rootS K H n l = leafS K H n (l[0]'(by omega)) := by
  rw [rootS, dif_neg (by omega), dif_pos h]
theorem rootS_two (K : Nat → Int) (H : St) (n : Int) (l : List ByteArray) (h : 2 ≤ l.length) : rootS K H n l = nodeS K H n (rootS K H n (l.take (splitN l.length))) (rootS K H n (l.drop (splitN l.length))) := by
  rw [rootS, dif_neg (by omega), dif_neg (by omega)]

/-- The proof of a leaf, from the leaf up. -/
def proofS (K : Nat → Int) (H : St) (n : Int) (l : List ByteArray) (k : Nat) : List ByteArray :=
  if h : l.length < 2 then []
  else if k < splitN l.length then proofS K H n (l.take (splitN l.length)) k ++ [rootS K H n (l.drop (splitN l.length))]
  else proofS K H n (l.drop (splitN l.length)) (k - splitN l.length) ++ [rootS K H n (l.take (splitN l.length))]
termination_by l.length
decreasing_by
  · have := splitN_lt l.length (by omega)
    rw [List.length_take]; omega
  · have := splitN_lt l.length (by omega)
    rw [List.length_drop]; omega
theorem proofS_one (K : Nat → Int) (H : St) (n : Int) (l : List ByteArray) (k : Nat) (h : l.length < 2) : proofS K H n l k = [] := by
  rw [proofS, dif_pos h]
theorem proofS_left (K : Nat → Int) (H : St) (n : Int) (l : List ByteArray) (k : Nat) (h : 2 ≤ l.length) (hk : k < splitN l.length) : proofS K H n l k = proofS K H n (l.take (splitN l.length)) k ++ [rootS K H n (l.drop (splitN l.length))] := by
  rw [proofS, dif_neg (by omega), if_pos hk]
theorem proofS_right (K : Nat → Int) (H : St) (n : Int) (l : List ByteArray) (k : Nat) (h : 2 ≤ l.length) (hk : ¬ k < splitN l.length) : proofS K H n l k = proofS K H n (l.drop (splitN l.length)) (k - splitN l.length) ++ [rootS K H n (l.take (splitN l.length))] := by
  rw [proofS, dif_neg (by omega), if_neg hk]

/-- From the root down to a leaf: is it on the left side? -/
def waysS (k c : Nat) : List Bool :=
  if h : c < 2 then []
  else if k < splitN c then true :: waysS k (splitN c) else false :: waysS (k - splitN c) (c - splitN c)
termination_by c
decreasing_by
  · exact (splitN_lt c (by omega)).2
  · have := splitN_lt c (by omega); omega
theorem waysS_one (k c : Nat) (h : c < 2) : waysS k c = [] := by rw [waysS, dif_pos h]
theorem waysS_left (k c : Nat) (h : 2 ≤ c) (hk : k < splitN c) : waysS k c = true :: waysS k (splitN c) := by rw [waysS, dif_neg (by omega), if_pos hk]
theorem waysS_right (k c : Nat) (h : 2 ≤ c) (hk : ¬ k < splitN c) : waysS k c = false :: waysS (k - splitN c) (c - splitN c) := by rw [waysS, dif_neg (by omega), if_neg hk]
theorem waysS_len (k : Nat) : ∀ c, (waysS k c).length ≤ c := by
  intro c
  induction c using Nat.strongRecOn generalizing k with
  | _ c ih =>
    by_cases h : c < 2
    · rw [waysS_one k c h]; simp
    · have hs := splitN_lt c (by omega)
      by_cases hk : k < splitN c
      · rw [waysS_left k c (by omega) hk, List.length_cons]
        have := ih (splitN c) hs.2 k
        omega
      · rw [waysS_right k c (by omega) hk, List.length_cons]
        have := ih (c - splitN c) (by omega) (k - splitN c)
        omega
/-- One step up. -/
def joinS (K : Nat → Int) (H : St) (n : Int) (h : ByteArray) (left : Bool) (o : ByteArray) : ByteArray := if left then nodeS K H n h o else nodeS K H n o h
/-- The root that comes out of a leaf's hash, the ways from the leaf up, and a proof. -/
def climbS (K : Nat → Int) (H : St) (n : Int) : ByteArray → List Bool → List ByteArray → ByteArray
  | h, b :: bs, o :: os => climbS K H n (joinS K H n h b o) bs os
  | h, _, _ => h
/-- Does a proof show it? -/
def checkS (K : Nat → Int) (H : St) (n : Int) (leaf : ByteArray) (k c : Nat) (proof : List ByteArray) (root : ByteArray) : Bool :=
  decide ((waysS k c).length = proof.length) && proof.all (fun o => decide ((o.size : Int) = n)) && decide (climbS K H n (leafS K H n leaf) (waysS k c).reverse proof = root)
theorem climbS_snoc (K : Nat → Int) (H : St) (n : Int) : ∀ (bs : List Bool) (os : List ByteArray) (h : ByteArray) (b : Bool) (o : ByteArray), bs.length = os.length → climbS K H n h (bs ++ [b]) (os ++ [o]) = joinS K H n (climbS K H n h bs os) b o
  | [], [], h, b, o, _ => rfl
  | b' :: bs, o' :: os, h, b, o, hl => by
    rw [List.cons_append, List.cons_append, climbS, climbS]
    exact climbS_snoc K H n bs os _ b o (by simpa using hl)
  | [], _ :: _, _, _, _, hl => by simp at hl
  | _ :: _, [], _, _, _, hl => by simp at hl
end Go.Proofs.YtaigngdlioplaaaDoor
