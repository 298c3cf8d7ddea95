/- The tree, plain: what comes out of a proof; each leaf's proof shows it. -/
import Derived.Test.YtaigngdlioplaaaDoorTreeP
namespace Go.Proofs.YtaigngdlioplaaaDoor
open Go Go.RowKit
set_option linter.unusedVariables false

/-- What comes out of a leaf's hash and a proof; is it one? -/
def comesS (K : Nat → Int) (H : St) (n : Int) (h : ByteArray) (c k : Nat) (proof : List ByteArray) : ByteArray × Bool :=
  if hc : c < 2 then (h, decide (proof.length = 0))
  else match proof.getLast? with
    | none => (⟨#[]⟩, false)
    | some o => if (o.size : Int) = n then
        (if k < splitN c then (nodeS K H n (comesS K H n h (splitN c) k proof.dropLast).1 o, (comesS K H n h (splitN c) k proof.dropLast).2)
         else (nodeS K H n o (comesS K H n h (c - splitN c) (k - splitN c) proof.dropLast).1, (comesS K H n h (c - splitN c) (k - splitN c) proof.dropLast).2))
      else (⟨#[]⟩, false)
termination_by c
decreasing_by
  all_goals (have := splitN_lt c (by omega); omega)
theorem comesS_one (K : Nat → Int) (H : St) (n : Int) (h : ByteArray) (c k : Nat) (proof : List ByteArray) (hc : c < 2) : comesS K H n h c k proof = (h, decide (proof.length = 0)) := by
  rw [comesS, dif_pos hc]
theorem comesS_none (K : Nat → Int) (H : St) (n : Int) (h : ByteArray) (c k : Nat) (hc : 2 ≤ c) : comesS K H n h c k [] = (⟨#[]⟩, false) := by
  rw [comesS, dif_neg (by omega)]; rfl
theorem comesS_bad (K : Nat → Int) (H : St) (n : Int) (h : ByteArray) (c k : Nat) (p : List ByteArray) (o : ByteArray) (hc : 2 ≤ c) (ho : ¬ (o.size : Int) = n) : comesS K H n h c k (p ++ [o]) = (⟨#[]⟩, false) := by
  rw [comesS, dif_neg (by omega)]
  simp [ho]
theorem comesS_left (K : Nat → Int) (H : St) (n : Int) (h : ByteArray) (c k : Nat) (p : List ByteArray) (o : ByteArray) (hc : 2 ≤ c) (ho : (o.size : Int) = n) (hk : k < splitN c) : comesS K H n h c k (p ++ [o]) = (nodeS K H n (comesS K H n h (splitN c) k p).1 o, (comesS K H n h (splitN c) k p).2) := by
  rw [comesS, dif_neg (by omega)]
  simp [ho, hk]
theorem comesS_right (K : Nat → Int) (H : St) (n : Int) (h : ByteArray) (c k : Nat) (p : List ByteArray) (o : ByteArray) (hc : 2 ≤ c) (ho : (o.size : Int) = n) (hk : ¬ k < splitN c) : comesS K H n h c k (p ++ [o]) = (nodeS K H n o (comesS K H n h (c - splitN c) (k - splitN c) p).1, (comesS K H n h (c - splitN c) (k - splitN c) p).2) := by
  rw [comesS, dif_neg (by omega)]
  simp [ho, hk]
theorem snoc_cases (p : List ByteArray) : p = [] ∨ ∃ q o, p = q ++ [o] := by
  rcases List.eq_nil_or_concat p with h | ⟨q, o, h⟩
  · exact .inl h
  · exact .inr ⟨q, o, by simpa using h⟩

theorem comes_check (K : Nat → Int) (H : St) (n : Int) (h : ByteArray) : ∀ (c k : Nat) (p : List ByteArray),
    (comesS K H n h c k p).2 = (decide ((waysS k c).length = p.length) && p.all (fun o => decide ((o.size : Int) = n))) ∧
    ((comesS K H n h c k p).2 = true → (comesS K H n h c k p).1 = climbS K H n h (waysS k c).reverse p) := by
  intro c
  induction c using Nat.strongRecOn with
  | _ c ih =>
    intro k p
    by_cases hc : c < 2
    · rw [comesS_one K H n h c k p hc, waysS_one k c hc]
      cases p with
      | nil => exact ⟨rfl, fun _ => rfl⟩
      | cons o p => exact ⟨by simp, fun h => by simp at h⟩
    · have hs := splitN_lt c (by omega)
      rcases snoc_cases p with rfl | ⟨q, o, rfl⟩
      · rw [comesS_none K H n h c k (by omega)]
        refine ⟨?_, fun h => by simp at h⟩
        by_cases hk : k < splitN c
        · rw [waysS_left k c (by omega) hk]; simp
        · rw [waysS_right k c (by omega) hk]; simp
      · by_cases ho : (o.size : Int) = n
        · by_cases hk : k < splitN c
          · obtain ⟨h1, h2⟩ := ih (splitN c) hs.2 k q
            rw [comesS_left K H n h c k q o (by omega) ho hk, waysS_left k c (by omega) hk]
            simp only []
            refine ⟨?_, fun hh => ?_⟩
            · rw [h1]; simp [ho]
            · have h3 := h2 hh
              rw [h1] at hh
              simp only [Bool.and_eq_true, decide_eq_true_eq] at hh
              rw [h3, List.reverse_cons, climbS_snoc K H n _ _ _ _ _ (by rw [List.length_reverse]; exact hh.1)]
              rfl
          · obtain ⟨h1, h2⟩ := ih (c - splitN c) (by omega) (k - splitN c) q
            rw [comesS_right K H n h c k q o (by omega) ho hk, waysS_right k c (by omega) hk]
            simp only []
            refine ⟨?_, fun hh => ?_⟩
            · rw [h1]; simp [ho]
            · have h3 := h2 hh
              rw [h1] at hh
              simp only [Bool.and_eq_true, decide_eq_true_eq] at hh
              rw [h3, List.reverse_cons, climbS_snoc K H n _ _ _ _ _ (by rw [List.length_reverse]; exact hh.1)]
              rfl
        · rw [comesS_bad K H n h c k q o (by omega) ho]
          exact ⟨by simp [ho], fun h => by simp at h⟩
/-- The check is what comes out, held against the root. -/
theorem checkS_comes (K : Nat → Int) (H : St) (n : Int) (leaf : ByteArray) (k c : Nat) (p : List ByteArray) (root : ByteArray) :
    checkS K H n leaf k c p root = ((comesS K H n (leafS K H n leaf) c k p).2 && decide ((comesS K H n (leafS K H n leaf) c k p).1 = root)) := by
  obtain ⟨h1, h2⟩ := comes_check K H n (leafS K H n leaf) c k p
  unfold checkS
  rw [← h1]
  cases hh : (comesS K H n (leafS K H n leaf) c k p).2 with
  | false => rfl
  | true => rw [h2 hh]

theorem cutS_size (K : Nat → Int) (H : St) (s : ByteArray) (m : Nat) (h1 : 1 ≤ m) (h2 : m ≤ 32) : (cutS K H s m).size = m := by
  unfold cutS
  rw [if_neg (by omega), Int.toNat_natCast, ByteArray.size_extract, sumS_size]
  omega
theorem rootS_size (K : Nat → Int) (H : St) (m : Nat) (h1 : 1 ≤ m) (h2 : m ≤ 32) (l : List ByteArray) : (rootS K H m l).size = m := by
  rw [rootS]
  split
  · exact cutS_size K H _ m h1 h2
  · split
    · exact cutS_size K H _ m h1 h2
    · exact cutS_size K H _ m h1 h2
/-- Each leaf's proof shows it. -/
theorem proof_climbs (K : Nat → Int) (H : St) (m : Nat) (h1 : 1 ≤ m) (h2 : m ≤ 32) : ∀ (c k : Nat) (l : List ByteArray) (hl : l.length = c) (hk : k < c),
    (waysS k c).length = (proofS K H m l k).length ∧ (∀ o ∈ proofS K H m l k, o.size = m) ∧ climbS K H m (leafS K H m (l[k]'(by omega))) (waysS k c).reverse (proofS K H m l k) = rootS K H m l := by
  intro c
  induction c using Nat.strongRecOn with
  | _ c ih =>
    intro k l hl hk
    by_cases hc : c < 2
    · rw [waysS_one k c hc, proofS_one K H m l k (by omega)]
      refine ⟨rfl, fun o ho => by simp at ho, ?_⟩
      rw [rootS_one K H m l (by omega)]
      obtain rfl : k = 0 := by omega
      rfl
    · have hs := splitN_lt c (by omega)
      have e1 := rootS_two K H m l (by omega)
      rw [hl] at e1
      by_cases hlt : k < splitN c
      · obtain ⟨a1, a2, a3⟩ := ih (splitN c) hs.2 k (l.take (splitN c)) (by rw [List.length_take]; omega) hlt
        have e2 := proofS_left K H m l k (by omega) (by rw [hl]; exact hlt)
        rw [hl] at e2
        rw [waysS_left k c (by omega) hlt, e2, e1]
        refine ⟨by simp [a1], fun o ho => ?_, ?_⟩
        · rw [List.mem_append] at ho
          rcases ho with ho | ho
          · exact a2 o ho
          · rw [List.mem_singleton.1 ho]; exact rootS_size K H m h1 h2 _
        · rw [List.reverse_cons, climbS_snoc K H m _ _ _ _ _ (by rw [List.length_reverse]; exact a1)]
          rw [List.getElem_take] at a3
          rw [a3]
          rfl
      · obtain ⟨a1, a2, a3⟩ := ih (c - splitN c) (by omega) (k - splitN c) (l.drop (splitN c)) (by rw [List.length_drop]; omega) (by omega)
        have e2 := proofS_right K H m l k (by omega) (by rw [hl]; exact hlt)
        rw [hl] at e2
        rw [waysS_right k c (by omega) hlt, e2, e1]
        refine ⟨by simp [a1], fun o ho => ?_, ?_⟩
        · rw [List.mem_append] at ho
          rcases ho with ho | ho
          · exact a2 o ho
          · rw [List.mem_singleton.1 ho]; exact rootS_size K H m h1 h2 _
        · rw [List.reverse_cons, climbS_snoc K H m _ _ _ _ _ (by rw [List.length_reverse]; exact a1)]
          rw [List.getElem_drop] at a3
          have e3 : l[splitN c + (k - splitN c)]'(by omega) = l[k]'(by omega) := by congr 1; omega
          rw [e3] at a3
          rw [a3]
          rfl
theorem checkS_proof (K : Nat → Int) (H : St) (m : Nat) (h1 : 1 ≤ m) (h2 : m ≤ 32) (l : List ByteArray) (k : Nat) (hk : k < l.length) (other : ByteArray) :
    checkS K H m l[k] k l.length (proofS K H m l k) other = decide (rootS K H m l = other) := by
  obtain ⟨a1, a2, a3⟩ := proof_climbs K H m h1 h2 l.length k l rfl hk
  unfold checkS
  rw [a3, a1, decide_eq_true rfl, Bool.true_and]
  have : (proofS K H m l k).all (fun o => decide ((o.size : Int) = m)) = true := by
    rw [List.all_eq_true]
    intro o ho
    exact decide_eq_true (by rw [a2 o ho])
  rw [this, Bool.true_and]
theorem checkS_long (K : Nat → Int) (H : St) (m : Nat) (h1 : 1 ≤ m) (h2 : m ≤ 32) (l : List ByteArray) (k : Nat) (hk : k < l.length) (p : List ByteArray) (hp : p.length ≠ (proofS K H m l k).length) (other : ByteArray) :
    checkS K H m l[k] k l.length p other = false := by
  obtain ⟨a1, _, _⟩ := proof_climbs K H m h1 h2 l.length k l rfl hk
  unfold checkS
  rw [decide_eq_false (by omega)]
  rfl
end Go.Proofs.YtaigngdlioplaaaDoor
