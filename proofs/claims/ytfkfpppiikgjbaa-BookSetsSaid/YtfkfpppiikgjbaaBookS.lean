/- Books: what is set in a rising list rises. -/
import Derived.Test.YtfkfpppiikgjbaaBookL
namespace Go.Proofs.Ytfkfpppiikgjbaa
open Go Go.RowKit
set_option linter.unusedVariables false
set_option linter.unusedSimpArgs false

theorem setH_rise (id : Int) (x : List Int) (out : Bool) {l : List (List Int)} (hr : riseH l) (hx : x.headD 0 = id) : riseH (setH id x out l) := by
  obtain ⟨p, hp, hlt, _⟩ := placeH id hr
  have e := setH_at id x out hr hp hlt
  obtain ⟨F, hF, e⟩ : ∃ F : Bool, (∀ r, l[p]? = some r → F = decide (r.headD 0 = id)) ∧ setH id x out l = l.take p ++ ((if out then [] else [x]) ++ l.drop (if F then p + 1 else p)) := ⟨_, fun r hr => by rw [hr], e⟩
  rw [e]
  have h1 : ∀ r ∈ l.take p, r.headD 0 < id := fun r hm => by
    obtain ⟨k, hk⟩ := List.getElem?_of_mem hm
    rw [List.getElem?_take] at hk
    split at hk
    · rename_i hkp; exact (hlt k r hk).2 hkp
    · cases hk
  obtain ⟨q, hq⟩ : ∃ q, (if F then p + 1 else p) = q := ⟨_, rfl⟩
  have h2 : ∀ r ∈ l.drop q, id < r.headD 0 := fun r hm => by
    obtain ⟨k, hk⟩ := List.getElem?_of_mem hm
    rw [List.getElem?_drop] at hk
    have hkl := (List.getElem?_eq_some_iff.1 hk).1
    have hqp : p ≤ q := by rw [← hq]; cases F <;> simp
    have hpl : p < l.length := by omega
    have hge : ¬ l[p].headD 0 < id := fun h => by have := (hlt p _ (List.getElem?_eq_getElem hpl)).1 h; omega
    by_cases he : q + k = p
    · rw [he] at hk
      have hne : q = p := by omega
      have hFr := hF r hk
      have hr' : l[p] = r := by rw [List.getElem?_eq_getElem hpl] at hk; injection hk
      rw [hr'] at hge
      by_cases hid : r.headD 0 = id
      · exfalso
        rw [decide_eq_true hid] at hFr
        subst hFr
        simp only [if_true] at hq
        omega
      · omega
    · have h3 := (List.pairwise_iff_getElem.1 hr) p (q + k) hpl hkl (by omega)
      have hr' : l[q + k] = r := by rw [List.getElem?_eq_getElem hkl] at hk; injection hk
      rw [hr'] at h3
      omega
  rw [hq]
  unfold riseH at *
  rw [List.pairwise_append]
  refine ⟨hr.sublist (List.take_sublist _ _), ?_, ?_⟩
  · cases out with
    | true => exact hr.sublist (List.drop_sublist _ _)
    | false => exact List.pairwise_cons.2 ⟨fun r hm => by have := h2 r hm; omega, hr.sublist (List.drop_sublist _ _)⟩
  · intro a ha b hb
    have ha' := h1 a ha
    rcases List.mem_append.1 hb with hb | hb
    · cases out with
      | true => simp at hb
      | false => simp at hb; subst hb; omega
    · have := h2 b hb; omega
theorem setS_rise (kx ky : Int) (x : List Int) (out : Bool) {l : List (List Int)} (hr : riseS l) (hx : x.headD 0 = kx) (hy : x.tail.headD 0 = ky) : riseS (setS kx ky x out l) := by
  obtain ⟨p, hp, hlt, _⟩ := placeS kx ky hr
  have e := setS_at kx ky x out hr hp hlt
  obtain ⟨F, hF, e⟩ : ∃ F : Bool, (∀ r, l[p]? = some r → F = decide (r.headD 0 = kx ∧ r.tail.headD 0 = ky)) ∧ setS kx ky x out l = l.take p ++ ((if out then [] else [x]) ++ l.drop (if F then p + 1 else p)) := ⟨_, fun r hr => by rw [hr], e⟩
  rw [e]
  have h1 : ∀ r ∈ l.take p, stLt r kx ky := fun r hm => by
    obtain ⟨k, hk⟩ := List.getElem?_of_mem hm
    rw [List.getElem?_take] at hk
    split at hk
    · rename_i hkp; exact (hlt k r hk).2 hkp
    · cases hk
  obtain ⟨q, hq⟩ : ∃ q, (if F then p + 1 else p) = q := ⟨_, rfl⟩
  have h2 : ∀ r ∈ l.drop q, kx < r.headD 0 ∨ kx = r.headD 0 ∧ ky < r.tail.headD 0 := fun r hm => by
    obtain ⟨k, hk⟩ := List.getElem?_of_mem hm
    rw [List.getElem?_drop] at hk
    have hkl := (List.getElem?_eq_some_iff.1 hk).1
    have hqp : p ≤ q := by rw [← hq]; cases F <;> simp
    have hpl : p < l.length := by omega
    have hge : ¬ stLt l[p] kx ky := fun h => by have := (hlt p _ (List.getElem?_eq_getElem hpl)).1 h; omega
    by_cases he : q + k = p
    · rw [he] at hk
      have hne : q = p := by omega
      have hFr := hF r hk
      have hr' : l[p] = r := by rw [List.getElem?_eq_getElem hpl] at hk; injection hk
      rw [hr'] at hge
      by_cases hid : r.headD 0 = kx ∧ r.tail.headD 0 = ky
      · exfalso
        rw [decide_eq_true hid] at hFr
        subst hFr
        simp only [if_true] at hq
        omega
      · unfold stLt at hge; omega
    · have h3 := (List.pairwise_iff_getElem.1 hr) p (q + k) hpl hkl (by omega)
      have hr' : l[q + k] = r := by rw [List.getElem?_eq_getElem hkl] at hk; injection hk
      rw [hr'] at h3
      unfold stLt at h3 hge
      omega
  rw [hq]
  unfold riseS at *
  rw [List.pairwise_append]
  refine ⟨hr.sublist (List.take_sublist _ _), ?_, ?_⟩
  · cases out with
    | true => exact hr.sublist (List.drop_sublist _ _)
    | false => exact List.pairwise_cons.2 ⟨fun r hm => by have := h2 r hm; unfold stLt; omega, hr.sublist (List.drop_sublist _ _)⟩
  · intro a ha b hb
    have ha' := h1 a ha
    rcases List.mem_append.1 hb with hb | hb
    · cases out with
      | true => simp at hb
      | false => simp only [Bool.false_eq_true, if_false, List.mem_singleton] at hb; subst hb; rw [hx, hy]; exact ha'
    · have := h2 b hb; unfold stLt at ha' ⊢; omega
end Go.Proofs.Ytfkfpppiikgjbaa
