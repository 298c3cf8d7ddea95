/- The tree: ways, Check. -/
import Derived.Test.YtaigngdlioplaaaDoorTreeH
namespace Go.Proofs.YtaigngdlioplaaaDoor
open Go Go.RowKit

theorem grownB {w w' : World} (h : Below w.heap.size w w') (row : Option Nat) : w.grownBy w' row := ⟨h.os, h.tape, h.output, h.size, fun k hk _ => h.block k hk⟩
theorem el_bo : Elt Tryd.prog 104 4 (.bool false) 1 1 := Elt.mk' Tryd.underlying104 (by kernel_rfl) rfl (by decide)

set_option maxRecDepth 100000 in
set_option maxHeartbeats 1000000 in
theorem ways_any (k c : Nat) (w : World) (hk : k < c) (h4 : c ≤ 4096) :
    Calls Tryd.prog 80 #[.int .i64 k, .int .i64 c] w fun e w' => (∃ v', e = .returned v' ∧ w'.ownsRow w.heap.size 4 1 v' (waysS k c).length ((waysS k c).map Value.bool)) ∧ Below w.heap.size w w' := by
  obtain ⟨Z, hZ⟩ : ∃ Z, waysS k c = Z := ⟨_, rfl⟩
  rw [hZ]
  have hZ0 : Hid (Z = [] ++ waysS k c) := by show _ = _; rw [hZ]; rfl
  clear hZ
  go_enter Tryd.func80, Tryd.ntmps80
  go_wp2_with fail
  go_loopw [0, 1, 5] (fun kv cv ov wr => ∃ (k' c' : Nat) (xs : List Bool), kv = .int .i64 k' ∧ cv = .int .i64 c' ∧ Hid (k' < c') ∧ Hid (c' + xs.length ≤ 4096) ∧ Hid (wr.ownsRow w.heap.size 4 1 ov xs.length (xs.map Value.bool)) ∧ Hid (Below w.heap.size w wr) ∧ Hid (Z = xs ++ waysS k' c')) (fun _ cv _ _ => (intOf cv).toNat)
  case atStart => exact ⟨k, c, [], rfl, rfl, hk, h4, World.ownsRow_nil _ _ _ _, Below.refl _ _, hZ0⟩
  case round =>
    clear hZ0
    obtain ⟨k', c', xs, rfl, rfl, hk', hcx, hown, hB, hZ⟩ := hrel
    have hk2 := hk'.out
    have hc2 := hcx.out
    have hbw := hB.out.size
    by_cases hone : 1 < c'
    · have hs := splitN_lt c' (by omega)
      have q := Lib.hid (fun w => Split_any (c' : Nat) w (by show _ ∧ _; omega))
      rw [show splitI (c' : Nat) = (splitN c' : Nat) by unfold splitI; rw [if_neg (by omega), Int.toNat_natCast]] at q
      have zl := waysS_left k' c' (by omega)
      have zr := waysS_right k' c' (by omega)
      generalize splitN c' = d at *
      obtain ⟨hd1, hd2⟩ := hs
      have hxs : Hid (xs.length + 1 ≤ 1099511627776) := by show _ ≤ _; omega
      clear hk' hcx
      by_cases hkd : k' < d
      · have Z2 : Hid (Z = (xs ++ [true]) ++ waysS k' d) := by show _ = _; rw [hZ.out, zl hkd]; simp
        clear zl zr hZ
        go_wp2_with fail
        refine (q.out _).mono ?_
        rintro e w2 ⟨rfl, rfl⟩
        go_wp2_with (at_builtin; refine wpList_append_grow _ _ _ _ _ _ el_bo _ _ _ _ hown hbw rfl rfl rfl rfl rfl hxs.out (by decide) ?_; intro v4 w4 hown4 hg4
                     have HB4 := Lib.hid (hB.out.trans (app_keeps hown.out hbw hg4.out).2)
                     clear hg4)
        go_roundw
        case rel => exact ⟨k', d, xs ++ [true], rfl, rfl, hkd, by show _ ≤ _; rw [List.length_append]; simp; omega, by rw [List.length_append, List.map_append]; exact hown4.out, HB4, Z2⟩
        case measure => simp [intOf]; omega
      · have Z2 : Hid (Z = (xs ++ [false]) ++ waysS (k' - d) (c' - d)) := by show _ = _; rw [hZ.out, zr hkd]; simp
        clear zl zr hZ
        go_wp2_with fail
        refine (q.out _).mono ?_
        rintro e w2 ⟨rfl, rfl⟩
        go_wp2_with (at_builtin; refine wpList_append_grow _ _ _ _ _ _ el_bo _ _ _ _ hown hbw rfl rfl rfl rfl rfl hxs.out (by decide) ?_; intro v4 w4 hown4 hg4
                     have HB4 := Lib.hid (hB.out.trans (app_keeps hown.out hbw hg4.out).2)
                     clear hg4)
        go_roundw
        case rel => exact ⟨k' - d, c' - d, xs ++ [false], by go_num, by go_num, by show _ < _; omega, by show _ ≤ _; rw [List.length_append]; simp; omega, by rw [List.length_append, List.map_append]; exact hown4.out, HB4, Z2⟩
        case measure => simp [intOf]; omega
    · have hZ2 : Hid (xs = Z) := by show _ = _; rw [hZ.out, waysS_one k' c' (by omega), List.append_nil]
      clear hZ
      go_wp2_with fail
      go_ret
      exact ⟨⟨_, rfl, by rw [← hZ2.out]; exact hown.out⟩, hB.out⟩

set_option maxRecDepth 100000 in
set_option maxHeartbeats 1000000 in
theorem join_any (K : Nat → Int) (H : St) (n : Int) (hb nb : Nat) (h o : ByteArray) (left : Bool) (w : World) (hn : Hid (I64 n)) (hT : Hid (ShaT w K H)) (hh : Hid (h.size ≤ 1000000)) (ho : Hid (o.size ≤ 1000000))
    (b1 : Hid (w.heap[hb]? = some (.cells #[.string h] 9 (0, 0)))) (b2 : Hid (w.cell? ⟨nb, 0, none⟩ = some (.int .i64 n))) :
    Calls Tryd.prog 81 #[.string o, .bool left, .pointer (some ⟨hb, 0, none⟩), .pointer (some ⟨nb, 0, none⟩)] w fun e w' => e = .returned (.tuple #[]) ∧ w'.heap[hb]? = some (.cells #[.string (joinS K H n h left o)] 9 (0, 0)) ∧ w.grownBy w' (some hb) := by
  have c1 : w.cell? ⟨hb, 0, none⟩ = some (.string h) := cells_of_blk b1.out 0 _ rfl
  have c2 := b2.out
  have q1 := Lib.hid (fun w hT => Node_any K H h o n w hT hh ho hn)
  have q2 := Lib.hid (fun w hT => Node_any K H o h n w hT ho hh hn)
  cases left with
  | true =>
    rw [show joinS K H n h true o = nodeS K H n h o from rfl]
    generalize nodeS K H n h o = S at *
    clear q2
    go_enter Tryd.func81, Tryd.ntmps81
    go_wp2_with fail
    refine (q1.out _ hT).mono ?_
    rintro e w2 ⟨rfl, hb2⟩
    have d1 := blk_call b1.out hb2
    have HB2 := Lib.hid hb2
    have D1 := Lib.hid d1
    have e1 := cells_of_blk d1 0 _ rfl
    have f1 := free_of_blk d1 0
    clear d1 hb2 c1 c2
    go_wp2_with fail
    go_end0
    exact ⟨rfl, set_blk D1.out 0 _, grown_trans (grownB HB2.out _) (grown_set0 (World.grownBy.refl _ _) 0 _)⟩
  | false =>
    rw [show joinS K H n h false o = nodeS K H n o h from rfl]
    generalize nodeS K H n o h = S at *
    clear q1
    go_enter Tryd.func81, Tryd.ntmps81
    go_wp2_with fail
    refine (q2.out _ hT).mono ?_
    rintro e w2 ⟨rfl, hb2⟩
    have d1 := blk_call b1.out hb2
    have HB2 := Lib.hid hb2
    have D1 := Lib.hid d1
    have e1 := cells_of_blk d1 0 _ rfl
    have f1 := free_of_blk d1 0
    clear d1 hb2 c1 c2
    go_wp2_with fail
    go_end0
    exact ⟨rfl, set_blk D1.out 0 _, grown_trans (grownB HB2.out _) (grown_set0 (World.grownBy.refl _ _) 0 _)⟩
end Go.Proofs.YtaigngdlioplaaaDoor
