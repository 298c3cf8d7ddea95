/- Files in a row of the call's own; the reference's Numbers. -/
import Derived.Test.YteeemoknbnlopaaDoorShelfE
import Derived.Test.YteeemoknbnlopaaDoorShelfF
import Derived.Test.YteeemoknbnlopaaDoorLib
namespace Go.Proofs.YteeemoknbnlopaaDoor
open Go Go.RowKit Shelf
open Go.ChangeShapes (lits)
set_option linter.unusedVariables false

theorem el_int : Elt Tryd.prog 34 3 (.int .i64 0) 1 8 := Elt.mk' Tryd.underlying34 (by kernel_rfl) rfl (by decide)
theorem el_file : Elt Tryd.prog 29 31 (.agg #[.string ⟨#[]⟩, .string ⟨#[]⟩]) 2 32 := Elt.mk' Tryd.underlying29 (by kernel_rfl) rfl (by decide)

/-- The cells of files that have these names. -/
def filesC (l : List ByteArray) : List Value := l.flatMap fun s => [.string s, .string ⟨#[]⟩]
theorem filesC_snoc (l : List ByteArray) (s : ByteArray) : filesC (l ++ [s]) = filesC l ++ [.string s, .string ⟨#[]⟩] := by simp [filesC]
theorem filesC_at : ∀ (l : List ByteArray) (i : Nat) (s : ByteArray), l[i]? = some s → (filesC l)[i * 2]? = some (.string s) ∧ (filesC l)[i * 2 + 1]? = some (.string ⟨#[]⟩)
  | [], i, s, h => by simp at h
  | x :: l, 0, s, h => by
    simp at h
    subst h
    exact ⟨rfl, rfl⟩
  | x :: l, i + 1, s, h => by
    have := filesC_at l i s (by simpa using h)
    rw [show (i + 1) * 2 = (i * 2 + 1) + 1 by omega]
    exact this

def FilesAt (w : World) (v : Value) (l : List ByteArray) : Prop :=
  ∃ A c, v = .slice A l.length c ∧ ∀ (i : Nat) (s : ByteArray), l[i]? = some s → ∃ b o, A = some ⟨b, o, none⟩ ∧ b < w.heap.size ∧ w.cell? ⟨b, o + i * 2, none⟩ = some (.string s) ∧ w.cell? ⟨b, o + i * 2 + 1, none⟩ = some (.string ⟨#[]⟩)
theorem FilesAt.call {w w' : World} {v : Value} {l : List ByteArray} (h : FilesAt w v l) (hb : Below w.heap.size w w') : FilesAt w' v l := by
  obtain ⟨A, c, hv, hi⟩ := h
  refine ⟨A, c, hv, fun i s hs => ?_⟩
  obtain ⟨b, o, ha, hlt, h1, h2⟩ := hi i s hs
  exact ⟨b, o, ha, Nat.lt_of_lt_of_le hlt hb.size, (hb.cell (p := ⟨b, o + i * 2, none⟩) hlt).trans h1, (hb.cell (p := ⟨b, o + i * 2 + 1, none⟩) hlt).trans h2⟩
theorem own_files {w : World} {B : Nat} {v : Value} {l : List ByteArray} (h : w.ownsRow B 31 2 v l.length (filesC l)) : FilesAt w v l := by
  have hlt := h.lt
  rcases h.2 with ⟨rfl, h0⟩ | ⟨g, cap, cur, rfl, _, _⟩
  · exact ⟨none, 0, by rw [h0], fun i s hs => by rw [List.length_eq_zero_iff.1 h0] at hs; simp at hs⟩
  · refine ⟨_, cap, rfl, fun i s hs => ?_⟩
    obtain ⟨f1, f2⟩ := filesC_at l i s hs
    have c1 := h.cells (g := g) rfl _ _ f1
    have c2 := h.cells (g := g) rfl _ _ f2
    rw [Addr.add_lit] at c1 c2
    exact ⟨g, 0, rfl, (hlt g rfl).2, c1, by rw [Nat.add_assoc]; exact c2⟩

theorem rKind_of (s : ByteArray) (hs : s.size ≤ 1099511627776) (w : World) :
    Calls Tryd.prog 11 #[.string s] w fun e w' => e = .returned (.tuple #[.int .i64 (kOf s), .int .i64 (nOf s), .bool (kindP s.data.toList).2.2]) ∧ w' = w := by
  have := rKind_any s hs w
  rw [← kinds_one] at this
  exact this

set_option maxRecDepth 100000 in
set_option maxHeartbeats 1000000 in
theorem Numbers_any (v : Value) (l : List ByteArray) (κ : Int) (w : World) (hv : Hid (FilesAt w v l)) (hl : l.length ≤ 60) (hz : Hid (∀ (i : Nat) (s : ByteArray), l[i]? = some s → s.size ≤ 100)) :
    Calls Tryd.prog 17 #[v, .int .i64 κ] w fun e w' => (∃ v', e = .returned v' ∧ w'.ownsRow w.heap.size 3 1 v' (numsP κ l).length ((numsP κ l).map (Value.int .i64))) ∧ Below w.heap.size w w' := by
  have qK := Lib.hid (fun s hs w => rKind_of s hs w)
  obtain ⟨A, c, rfl, _⟩ := hv.out
  have h00 : Hid (w.ownsRow w.heap.size 3 1 (.slice none 0 0) (numsP κ (l.take 0)).length ((numsP κ (l.take 0)).map (Value.int .i64))) := World.ownsRow_nil _ _ _ _
  go_enter Tryd.func17, Tryd.ntmps17
  go_wp2_with fail
  go_loopw [5, 6] (fun s5 s6 wr => ∃ (k : Nat) (v5 : Value), v5 = s5 ∧ s6 = .int .i64 k ∧ Hid (k ≤ l.length) ∧ Hid (wr.ownsRow w.heap.size 3 1 v5 (numsP κ (l.take k)).length ((numsP κ (l.take k)).map (Value.int .i64))) ∧ Hid (Below w.heap.size w wr) ∧ Hid (w.heap.size ≤ wr.heap.size)) (fun _ s6 _ => l.length - (intOf s6).toNat)
  case atStart => exact ⟨0, _, rfl, rfl, Nat.zero_le _, h00.out, Below.refl _ _, Nat.le_refl _⟩
  case round =>
    obtain ⟨k, v5, rfl, rfl, hk, hO, hB, hS⟩ := hrel
    by_cases hkl : k < l.length
    · obtain ⟨A', c', hA', hci⟩ := (hv.out.call hB.out)
      cases hA'
      have hge : l[k]? = some l[k] := List.getElem?_eq_getElem hkl
      obtain ⟨b, o, rfl, hbl, hck, _⟩ := hci k _ hge
      have hss := hz.out k _ hge
      have htk : Hid (l.take (k + 1) = l.take k ++ [l[k]]) := List.take_succ_eq_append_getElem hkl
      generalize l[k] = s at *
      have q1 := Lib.hid (qK.out s (by omega))
      have hnr := nOf_range s
      have hsn := Lib.hid (numsP_snoc κ (l.take k) s)
      have hln : Hid ((numsP κ (l.take k)).length ≤ 60) := by
        have h1 := numsP_len κ (l.take k)
        rw [List.length_take] at h1
        show _ ≤ _; omega
      generalize hx : kOf s = x at *
      generalize hy : nOf s = y at *
      generalize (kindP s.data.toList).2.2 = z3 at *
      clear hci hss hge hx hy
      by_cases hxk : x = κ
      · have t1 : (x == κ) = true := beq_iff_eq.2 hxk
        have hs1 := Lib.hid (hsn.out.trans (if_pos hxk))
        have hlk := hln.out
        clear hsn hxk
        go_wp2_with fail
        refine (q1.out wr).mono ?_
        rintro e w' ⟨rfl, rfl⟩
        go_wp2_with (at_builtin; refine wpList_append_map _ _ _ _ _ _ el_int (Value.int .i64) y _ _ _ (Below.refl _ _) hO hS.out rfl rfl rfl rfl rfl (by omega) (by decide) ?_; intro v4 w4 hown4 hb4 hB4; refine Hid.out ?_)
        refine Lib.hid ?_
        have HBb := Lib.hid (hB.out.trans (hb4.mono (Nat.le_refl _)))
        go_wp2_with fail
        go_roundw
        case rel => exact ⟨k + 1, v4, rfl, by go_num, by show _ ≤ _; omega, by rw [htk.out, hs1.out, List.length_append]; exact hown4.out, HBb.out, hB4⟩
        case measure => simp [intOf]; omega
      · have t1 : (x == κ) = false := beq_eq_false_iff_ne.2 hxk
        have hs1 := Lib.hid (hsn.out.trans (if_neg hxk))
        clear hsn hxk
        go_wp2_with fail
        refine (q1.out wr).mono ?_
        rintro e w' ⟨rfl, rfl⟩
        go_wp2_with fail
        go_roundw
        case rel => exact ⟨k + 1, v5, rfl, by go_num, by show _ ≤ _; omega, by rw [htk.out, hs1.out]; exact hO.out, hB.out, hS.out⟩
        case measure => simp [intOf]; omega
    · have hkk : k = l.length := by have := hk.out; omega
      have hOe := hO.out
      rw [hkk, List.take_length] at hOe
      have hO2 := Lib.hid hOe
      clear hOe hO hkk
      go_wp2_with fail
      go_ret
      exact ⟨⟨v5, rfl, hO2.out⟩, hB.out⟩
end Go.Proofs.YteeemoknbnlopaaDoor
