/- Steps: whether they may be, and what they weigh: plain laws. -/
import Derived.Test.YteeemoknbnlopaaDoorRuleB
namespace Go.Proofs.YteeemoknbnlopaaDoor
open Go Go.RowKit
set_option linter.unusedVariables false

def Stp.bare (s : Stp) : Bool := s.over && (s.left != 0 || s.right != 0)
def Stp.known (s : Stp) : Bool := decide (0 < s.rule ∧ s.rule < 24)
/-- May the k-th of some steps be behind those ahead? -/
def okB (l : List Stp) (k : Nat) (s : Stp) : Bool := s.known && !s.bare && !((l.take k).any fun t => t.rule == s.rule) && (!decide (k + 1 < l.length) || s.holds)
def mayB (l : List Stp) : Nat → Bool
  | 0 => true
  | k + 1 => mayB l k && (match l[k]? with | some s => okB l k s | none => true)
def mayS (l : List Stp) : Bool := mayB l l.length
theorem mayB_step {l : List Stp} {k : Nat} {s : Stp} (h : l[k]? = some s) (hk : mayB l k = true) (ho : okB l k s = true) : mayB l (k + 1) = true := by
  unfold mayB; rw [hk, h]; simpa using ho
theorem mayB_false {l : List Stp} {k : Nat} {s : Stp} (h : l[k]? = some s) (ho : okB l k s = false) : ∀ n, k < n → mayB l n = false
  | 0, hn => absurd hn (by omega)
  | n + 1, hn => by
    unfold mayB
    by_cases he : k = n
    · subst he; rw [h]; simp [ho]
    · rw [mayB_false h ho n (by omega)]; rfl
theorem mayS_false {l : List Stp} {k : Nat} {s : Stp} (h : l[k]? = some s) (ho : okB l k s = false) : mayS l = false :=
  mayB_false h ho _ (List.getElem?_eq_some_iff.1 h).1
theorem mayB_all {l : List Stp} : ∀ {n : Nat}, mayB l n = true → ∀ k s, k < n → l[k]? = some s → okB l k s = true
  | 0, _, k, s, hk, _ => absurd hk (by omega)
  | n + 1, h, k, s, hk, hs => by
    unfold mayB at h
    rw [Bool.and_eq_true] at h
    by_cases he : k = n
    · subst he; rw [hs] at h; exact h.2
    · exact mayB_all h.1 k s (by omega) hs
theorem mayS_known {l : List Stp} (h : mayS l = true) : ∀ s, s ∈ l → s.known = true := by
  intro s hs
  obtain ⟨k, hk, rfl⟩ := List.getElem_of_mem hs
  have := mayB_all h k _ hk (List.getElem?_eq_getElem hk)
  unfold okB at this
  simp only [Bool.and_eq_true] at this
  exact this.1.1.1

/-- What steps weigh: the code, and the need. -/
def goW : List Stp → Int → Int × Int
  | [], need => (0, need)
  | s :: r, need => if s.over then (12, 0) else if s.holds then (if s.rule = 20 then goW r s.left else goW r need) else (((codeS s.rule : Nat) : Int), 0)
theorem codeS_pos {s : Stp} (h : s.known = true) : 0 < codeS s.rule := by
  have h := of_decide_eq_true h
  have key : ∀ n, n < 24 → 0 < n → 0 < Rule.code n := by decide
  unfold codeS numR
  rw [if_pos h]
  exact key _ (by omega) (by omega)
theorem goW_all : ∀ (l : List Stp) (need : Int), (∀ s, s ∈ l → s.known = true) → ((goW l need).1 == 0) = l.all (·.holds)
  | [], _, _ => rfl
  | s :: r, need, h => by
    have ih := fun need => goW_all r need (fun s hs => h s (List.mem_cons_of_mem _ hs))
    have hp := codeS_pos (h s (List.mem_cons_self ..))
    unfold goW
    rw [List.all_cons]
    by_cases ho : s.over = true
    · rw [if_pos ho]
      have : s.holds = false := by unfold Stp.holds; rw [ho]; rfl
      rw [this]; rfl
    · rw [if_neg ho]
      by_cases hh : s.holds = true
      · rw [if_pos hh, hh]
        split
        · rw [ih]; rfl
        · rw [ih]; rfl
      · rw [if_neg hh]
        have : s.holds = false := by simpa using hh
        rw [this]
        simp; omega
theorem goW_range : ∀ (l : List Stp) (need : Int), I64 need → (∀ s, s ∈ l → s.fit) → (0 ≤ (goW l need).1 ∧ (goW l need).1 < 13) ∧ I64 (goW l need).2
  | [], need, hn, _ => ⟨by simp [goW], hn⟩
  | s :: r, need, hn, h => by
    have ih := fun need hn => goW_range r need hn (fun s hs => h s (List.mem_cons_of_mem _ hs))
    have h0 : I64 0 := by unfold I64; omega
    have hc := codeS_lt s.rule
    unfold goW
    split
    · exact ⟨by simp, h0⟩
    · split
      · split
        · exact ih _ (h s (List.mem_cons_self ..)).2.1
        · exact ih _ hn
      · refine ⟨?_, h0⟩
        simp only []
        omega
theorem goW_drop {l : List Stp} {k : Nat} {s : Stp} (h : l[k]? = some s) (need : Int) : goW (l.drop k) need = if s.over then (12, 0) else if s.holds then (if s.rule = 20 then goW (l.drop (k + 1)) s.left else goW (l.drop (k + 1)) need) else (((codeS s.rule : Nat) : Int), 0) := by
  obtain ⟨hk, rfl⟩ := List.getElem?_eq_some_iff.1 h
  rw [List.drop_eq_getElem_cons hk]
  rfl
end Go.Proofs.YteeemoknbnlopaaDoor
