/- Rows of files: whether they may be, how much they use, whether two are alike. -/
import Derived.Test.YtaigngdlioplaaaDoorFileA
import Derived.BigQuiet
import Derived.Deep.QuietTactic
namespace Go.Proofs.YtaigngdlioplaaaDoor
open Go Go.RowKit
set_option linter.unusedVariables false

abbrev Fil := ByteArray × ByteArray
def FilesAt (w : World) (v : Value) (l : List Fil) : Prop :=
  ∃ A c, v = .slice A l.length c ∧ ∀ (i : Nat) (f : Fil), l[i]? = some f → ∃ b o, A = some ⟨b, o, none⟩ ∧ b < w.heap.size ∧ w.cell? ⟨b, o + i * 2, none⟩ = some (.string f.1) ∧ w.cell? ⟨b, o + i * 2 + 1, none⟩ = some (.string f.2)
theorem FilesAt.call {w w' : World} {v : Value} {l : List Fil} (h : FilesAt w v l) (hb : Below w.heap.size w w') : FilesAt w' v l := by
  obtain ⟨A, c, hv, hi⟩ := h
  refine ⟨A, c, hv, fun i s hs => ?_⟩
  obtain ⟨b, o, ha, hlt, h1, h2⟩ := hi i s hs
  exact ⟨b, o, ha, Nat.lt_of_lt_of_le hlt hb.size, (hb.cell (p := ⟨b, o + i * 2, none⟩) hlt).trans h1, (hb.cell (p := ⟨b, o + i * 2 + 1, none⟩) hlt).trans h2⟩
theorem FilesAt.nil (w : World) : FilesAt w (.slice none 0 0) [] := ⟨none, 0, rfl, fun i s hs => by simp at hs⟩

def befS (a b : ByteArray) : Bool := Op.bytesLess a.toList b.toList
def okF (l : List Fil) (k : Nat) (f : Fil) : Bool := namedS f.1 && !(f.2.toList == (⟨#[]⟩ : ByteArray).toList) && (decide (k = 0) || (match l[k - 1]? with | some g => befS g.1 f.1 | none => false))
def mayK (l : List Fil) : Nat → Bool
  | 0 => true
  | k + 1 => mayK l k && (match l[k]? with | some f => okF l k f | none => true)
def mayF (l : List Fil) : Bool := decide (l.length ≤ 4096) && mayK l l.length
theorem mayK_step {l : List Fil} {k : Nat} {f : Fil} (h : l[k]? = some f) (hk : mayK l k = true) (ho : okF l k f = true) : mayK l (k + 1) = true := by
  unfold mayK; rw [hk, h]; simpa using ho
theorem mayK_false {l : List Fil} {k : Nat} {f : Fil} (h : l[k]? = some f) (ho : okF l k f = false) : ∀ n, k < n → mayK l n = false
  | 0, hn => absurd hn (by omega)
  | n + 1, hn => by
    unfold mayK
    by_cases he : k = n
    · subst he; rw [h]; simp [ho]
    · rw [mayK_false h ho n (by omega)]; rfl
theorem mayF_false {l : List Fil} {k : Nat} {f : Fil} (h : l[k]? = some f) (ho : okF l k f = false) : mayF l = false := by
  unfold mayF; rw [mayK_false h ho _ (List.getElem?_eq_some_iff.1 h).1, Bool.and_false]
/-- Bytes that are used. -/
def usedF (l : List Fil) : Nat := (l.map fun f => f.2.size).sum
theorem usedF_snoc (l : List Fil) (f : Fil) : usedF (l ++ [f]) = usedF l + f.2.size := by simp [usedF]
theorem usedF_take_le (l : List Fil) (k : Nat) : usedF (l.take k) ≤ usedF l := by
  conv => rhs; rw [← List.take_append_drop k l]
  simp only [usedF, List.map_append, List.sum_append]
  omega
theorem usedF_step {l : List Fil} {k : Nat} {f : Fil} (h : l[k]? = some f) : usedF (l.take (k + 1)) = usedF (l.take k) + f.2.size := by
  obtain ⟨hk, rfl⟩ := List.getElem?_eq_some_iff.1 h
  rw [List.take_succ_eq_append_getElem hk, usedF_snoc]

set_option maxRecDepth 100000 in
set_option maxHeartbeats 1000000 in
theorem used_any (v : Value) (l : List Fil) (w : World) (hv : Hid (FilesAt w v l)) (hl : l.length ≤ 1000000) (hu : usedF l ≤ 1099511627776) :
    Calls Tryd.prog 93 #[v] w fun e w' => e = .returned (.int .i64 (usedF l)) ∧ Below w.heap.size w w' := by
  obtain ⟨A, c, rfl, _⟩ := hv.out
  go_enter Tryd.func93, Tryd.ntmps93
  go_wp2_with fail
  go_loopw [3, 8] (fun s3 s8 wr => ∃ k : Nat, s3 = .int .i64 (usedF (l.take k)) ∧ s8 = .int .i64 k ∧ Hid (k ≤ l.length) ∧ Hid (Below w.heap.size w wr)) (fun _ s8 _ => l.length - (intOf s8).toNat)
  case atStart => exact ⟨0, rfl, rfl, Nat.zero_le _, Below.refl _ _⟩
  case round =>
    obtain ⟨k, rfl, rfl, hk, hB⟩ := hrel
    by_cases hkl : k < l.length
    · obtain ⟨A', c', hA', hci⟩ := (hv.out.call hB.out)
      cases hA'
      have hge : l[k]? = some l[k] := List.getElem?_eq_getElem hkl
      obtain ⟨b, o, rfl, hbl, h0, h1⟩ := hci k _ hge
      have hst := Lib.hid (usedF_step hge)
      have hle := usedF_take_le l (k + 1)
      rw [hst.out] at hle
      have hle0 := usedF_take_le l k
      clear hci hge
      generalize l[k] = f at *
      obtain ⟨s, t⟩ := f
      have h0 : wr.cell? ⟨b, o + k * 2, none⟩ = some (.string s) := h0
      have h1 : wr.cell? ⟨b, o + k * 2 + 1, none⟩ = some (.string t) := h1
      have hle : usedF (l.take k) + t.size ≤ usedF l := hle
      generalize usedF (l.take k) = U at *
      go_wp2_with fail
      go_roundw
      case rel => exact ⟨k + 1, by rw [hst.out]; go_num, by go_num, by show _ ≤ _; omega, below_alloc hB.out hB.out.size _⟩
      case measure => simp [intOf]; omega
    · have hkk : k = l.length := by have := hk.out; omega
      subst hkk
      rw [List.take_length]
      go_wp2_with fail
      go_ret
      exact ⟨rfl, hB.out⟩

end Go.Proofs.YtaigngdlioplaaaDoor
