/- Regions that draw their order: the orders of free operations, told by their states (each set of what is left once). -/
import Derived.Test.YtfkfpppiikgjbaaRegF
namespace Go.Proofs.Ytfkfpppiikgjbaa
open Go Go.RowKit
set_option linter.unusedVariables false
set_option linter.unusedSimpArgs false

def stateOk (md : Region.Mode) (ops : Array Oper) (bf : Nat → Nat → Bool) (Lf : Array Bool) (Ss : List (List Nat × Array Bool)) (p : List Nat × Array Bool) : Bool :=
  match p.1 with
  | [] => p.2 == Lf
  | _ => !(Region.ready md ops p.2).isEmpty && (Region.ready md ops p.2).all fun i => p.1.contains i && p.1.all (fun j => !bf j i) && Ss.any (fun q => q.1 == p.1.erase i && q.2 == p.2.setIfInBounds i true)
def statesOk (md : Region.Mode) (ops : Array Oper) (bf : Nat → Nat → Bool) (Lf : Array Bool) (Ss : List (List Nat × Array Bool)) : Bool := Ss.all (stateOk md ops bf Lf Ss)
theorem ready_of_states {md : Region.Mode} {ops : Array Oper} {bf : Nat → Nat → Bool} {Lf : Array Bool} {Ss : List (List Nat × Array Bool)} (h : statesOk md ops bf Lf Ss = true) :
    ∀ (n : Nat) (is : List Nat) (L : Array Bool), (is, L) ∈ Ss → is.length = n → readyAll md ops bf Lf n is L = true
  | 0, is, L, hm, hn => by
    obtain rfl : is = [] := List.eq_nil_of_length_eq_zero hn
    have := List.all_eq_true.1 h _ hm
    unfold stateOk at this
    simp only [beq_iff_eq] at this
    simp [readyAll, this]
  | n + 1, is, L, hm, hn => by
    have h1 := List.all_eq_true.1 h _ hm
    unfold stateOk at h1
    cases is with
    | nil => simp at hn
    | cons a t =>
      simp only [Bool.and_eq_true, List.all_eq_true] at h1
      obtain ⟨h0, h2⟩ := h1
      simp only [readyAll, Bool.and_eq_true, List.all_eq_true]
      refine ⟨h0, fun i hi => ?_⟩
      obtain ⟨⟨h3, h4⟩, h5⟩ := h2 i hi
      refine ⟨⟨h3, h4⟩, ?_⟩
      obtain ⟨q, hq, h6⟩ := List.any_eq_true.1 h5
      simp only [Bool.and_eq_true, beq_iff_eq] at h6
      obtain ⟨q1, q2⟩ := q
      obtain ⟨rfl, rfl⟩ := h6
      have hmem : i ∈ a :: t := by simpa using h3
      exact ready_of_states h n _ _ hq (by rw [List.length_erase_of_mem hmem, hn]; rfl)
/-- The states, laid open from one on. -/
def statesFrom (md : Region.Mode) (ops : Array Oper) : Nat → List (List Nat × Array Bool) → List (List Nat × Array Bool)
  | 0, l => l
  | n + 1, l => l ++ statesFrom md ops n (l.foldl (fun acc p => (Region.ready md ops p.2).foldl (fun acc i => if acc.any (fun q => q.1 == p.1.erase i) then acc else acc ++ [(p.1.erase i, p.2.setIfInBounds i true)]) acc) [])
theorem mem_statesFrom {md : Region.Mode} {ops : Array Oper} {p : List Nat × Array Bool} : ∀ (n : Nat) (l : List (List Nat × Array Bool)), p ∈ l → p ∈ statesFrom md ops n l
  | 0, _, h => h
  | n + 1, _, h => List.mem_append_left _ h
theorem ready_all {md : Region.Mode} {ops : Array Oper} {bf : Nat → Nat → Bool} {Lf L : Array Bool} {n : Nat} {is : List Nat} (hn : is.length = n) (h : statesOk md ops bf Lf (statesFrom md ops n [(is, L)]) = true) : readyAll md ops bf Lf n is L = true :=
  ready_of_states h n is L (mem_statesFrom n _ (by simp)) hn
theorem list_8 {α : Type} {l : List α} (h : 8 = l.length) : ∃ a b c d e f g i, l = [a, b, c, d, e, f, g, i] := by
  match l, h with
  | [a, b, c, d, e, f, g, i], _ => exact ⟨a, b, c, d, e, f, g, i, rfl⟩
end Go.Proofs.Ytfkfpppiikgjbaa
