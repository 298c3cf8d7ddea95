/- shelf.Sorted: a map of slices. -/
import Derived.Test.YteeemoknbnlopaaDoorShelfG
import Derived.Maps.OwnOps
namespace Go.Proofs.YteeemoknbnlopaaDoor
open Go Go.RowKit Go.Maps Go.WideMaps Shelf
open Go.ChangeShapes (lits)
set_option linter.unusedVariables false

theorem info_int : (Tryd.prog.info? 3).map (fun i => (i.zero, i.size, i.bytes)) = some (some (.int .i64 0), 1, 8) := by kernel_rfl
theorem zero_ints (w : World) : (zeroValue 34).run Tryd.prog w = .ok (.slice none 0 0) w := by kernel_rfl
theorem keyI : Keyed Tryd.prog 3 := int_keyed Tryd.underlying3
theorem i64_wf {x : Int} (h0 : 0 ≤ x) (h1 : x ≤ 1099511627776) : (Lit.int .i64 x).wf = true := by
  simp [Lit.wf, IntKind.min, IntKind.max, IntKind.signed, IntKind.bits]
  omega
abbrev Grp (w : World) (B k : Nat) (D : DataW Unit) : Prop := w.ownsGroups Tryd.prog 3 (B + 1) 3 .i64 B k D
theorem grown_of {w w' : World} (h : Below w.heap.size w w') : w.grownBy w' none := ⟨h.os, h.tape, h.output, h.size, fun k hk _ => h.block k hk⟩
theorem Grp.call {w w' : World} {B k : Nat} {D : DataW Unit} (h : Grp w B k D) (hb : Below w.heap.size w w') : Grp w' B k D :=
  World.ownsGroups.kept h (grown_of hb) (by simp) fun _ _ _ x _ => by cases x.val.ownBlock <;> simp

theorem Kind_of (s : ByteArray) (hs : s.size ≤ 1099511627776) (w : World) :
    Calls Tryd.prog 10 #[.string s] w fun e w' => e = .returned (.tuple #[.int .i64 (kOf s), .int .i64 (nOf s), .bool (kindP s.data.toList).2.2]) ∧ Below w.heap.size w w' := Kind_any s hs w

set_option maxRecDepth 100000 in
set_option maxHeartbeats 1000000 in
theorem Sorted_any (v : Value) (l : List ByteArray) (w : World) (hv : Hid (FilesAt w v l)) (hl : l.length ≤ 60) (hz : Hid (∀ (i : Nat) (s : ByteArray), l[i]? = some s → s.size ≤ 100)) :
    Calls Tryd.prog 16 #[v] w fun e w' => (e = .returned (.map (some w.heap.size)) ∧ ∃ D : DataW Unit, IsG D l ∧ Grp w' w.heap.size l.length D) ∧ Below w.heap.size w w' := by
  have qK := Lib.hid (fun s hs w => Kind_of s hs w)
  have hmm := @run_makeMap Tryd.prog
  obtain ⟨i0, hi, hz0, hz1, hz2⟩ := info_parts info_int
  obtain ⟨A, c, rfl, _⟩ := hv.out
  go_enter Tryd.func16, Tryd.ntmps16
  go_wp2_with fail
  go_loopw [12] (fun s12 wr => ∃ (k : Nat), s12 = .int .i64 k ∧ Hid (k ≤ l.length) ∧ (∃ D : DataW Unit, Hid (IsG D (l.take k)) ∧ Hid (Grp wr w.heap.size k D)) ∧ Hid (Below w.heap.size w wr) ∧ Hid (w.heap.size + 1 ≤ wr.heap.size)) (fun s12 _ => l.length - (intOf s12).toNat)
  case atStart => exact ⟨0, rfl, Nat.zero_le _, ⟨_, IsG.nil, World.ownsGroups_made _ _ _ _ _⟩, (Below.refl _ _).alloc (Nat.le_refl _) _, by show _ ≤ _; simp⟩
  case round =>
    obtain ⟨k, rfl, hk, ⟨D, hD, hG⟩, hB, hS⟩ := hrel
    clear hmm
    by_cases hkl : k < l.length
    · obtain ⟨A', c', hA', hci⟩ := (hv.out.call hB.out)
      cases hA'
      have hge : l[k]? = some l[k] := List.getElem?_eq_getElem hkl
      obtain ⟨b, o, rfl, hbl, hck, hck2⟩ := hci k _ hge
      have hss := hz.out k _ hge
      have htk : Hid (l.take (k + 1) = l.take k ++ [l[k]]) := List.take_succ_eq_append_getElem hkl
      generalize l[k] = s at *
      have q1 := Lib.hid (qK.out s (by omega))
      have hnr := nOf_range s
      have hkr := kOf_range s
      have hst := Lib.hid (hD.out.step s)
      have hln : (numsP (kOf s) (l.take k)).length ≤ 60 := by
        have h1 := numsP_len (kOf s) (l.take k)
        rw [List.length_take] at h1
        omega
      have hk60 : k ≤ 60 := by omega
      generalize hx : kOf s = x at *
      generalize hy : nOf s = y at *
      generalize (kindP s.data.toList).2.2 = z3 at *
      have hkey : keyOf Tryd.prog 3 (.int .i64 x) = some (.int .i64 x) := keyOf_int_mk Tryd.underlying3 (i64_wf (by omega) (by omega))
      clear hci hss hge hx hy
      go_wp2_with fail
      refine (q1.out _).mono ?_
      rintro e w' ⟨rfl, hb⟩
      have HX : Hid (Below wr.heap.size wr w') := ((Below.refl _ wr).alloc (Nat.le_refl _) _).trans (hb.mono (by simp))
      have hown := hG.out.call HX.out
      have HB1 := Lib.hid (hB.out.trans (HX.out.mono (by have := hS.out; omega)))
      have hS1 : w.heap.size + 1 ≤ w'.heap.size := by have := hS.out; have := HX.out.size; omega
      clear hb HX hG hB hS q1 hck hck2
      go_wp2_with (first
        | (at_lookup; refine wpList_lookup_groups _ rfl _ _ 32 rfl 3 34 3 .i64 keyI Tryd.underlying32 (zero_ints _) (w.heap.size + 1) w.heap.size k D rfl hown (by unfold maxLen; omega) _ _ rfl hkey ?_; intro v4 zs hat hoi hzl hback)
        | (at_builtin; refine wpList_append_own_at _ rfl _ _ 34 rfl (w.heap.size + 1) 3 i0 (.int .i64 0) 1 8 Tryd.underlying34 hi hz0 hz1 hz2 rfl (by decide) _ _ _ rfl (hoi.1.alloc _) ⟨w'.heap.size, 0, none⟩ 1 1 [.int .i64 y] rfl rfl (cell_one_new _ _ _) (ints_oneCell .i64 [y]) (by unfold maxLen; omega) (by omega) (by simp; omega) ?_; intro v5 w1 hown' hgrow hnil hloc)
        | (at_mapUpdate; refine wpList_mapUpdate_back _ rfl _ _ _ 32 rfl hback rfl rfl rfl ((World.grownBy_alloc _ _ _).trans hgrow) (hoi.appended hown' (i64_wf hnr.1 hnr.2)) (by simp; omega) (hloc.imp id (fun h => ⟨_, h, by simp⟩)) ?_; intro w2 hown2 hgrow2))
      have hall := (World.grownBy_alloc w' _ _).trans hgrow
      have HD2 : Hid (IsG (D.put (.int .i64 x) (rowDatum .i64 v5 (zs ++ [y]))) (l.take (k + 1))) := by
        show IsG _ _
        rw [htk.out, (hoi.appended hown' (i64_wf hnr.1 hnr.2)).datum_pos (by simp), hD.out.found _ hoi hat]
        exact hst.out
      go_roundw
      case rel =>
        exact ⟨k + 1, by go_num, by show _ ≤ _; omega, ⟨_, HD2, hown2⟩, HB1.out.groups hoi hall hgrow2 (by omega) (Nat.le_succ _) (Nat.le_refl _), Nat.le_trans hS1 (Nat.le_trans hall.size hgrow2.size)⟩
      case measure => simp [intOf]; omega
    · have hkk : k = l.length := by have := hk.out; omega
      subst hkk
      rw [List.take_length] at hD
      go_wp2_with fail
      go_ret
      exact ⟨⟨rfl, D, hD.out, hG.out⟩, hB.out⟩
end Go.Proofs.YteeemoknbnlopaaDoor
