/- Part 3 of what the claim rests on. -/
import Derived.Test.YtjcdpmianmgiaaaGreatDoorF00
import Derived.Test.YtjcdpmianmgiaaaGreatDoorF01
import Derived.Shelf.Spec.SlicesInsertGrow
namespace Go.Proofs.YtjcdpmianmgiaaaGreatDoor
open Go Go.RowKit
set_option linter.unusedVariables false
set_option linter.unusedSimpArgs false
theorem ins_in_place (cur X1 X2 Y : List Value) (k n : Nat) (hY : Y.length = k) (ht : cur.take (X1.length + X2.length) = X1 ++ X2) (hc : X1.length + X2.length + k ≤ cur.length) :
    (splice (splice cur (X1.length + k) X2) X1.length Y).take (X1.length + (k + X2.length)) = X1 ++ (Y ++ X2) := by
  have e1 : cur.take X1.length = X1 := by
    have := congrArg (List.take X1.length) ht
    rwa [List.take_take, Nat.min_eq_left (by omega), List.take_left] at this
  have e2 : (splice cur (X1.length + k) X2).take X1.length = X1 := by
    rw [splice, List.take_append_of_le_length (by rw [List.length_take]; omega), List.take_take, Nat.min_eq_left (by omega), e1]
  have e3 : (splice cur (X1.length + k) X2).drop (X1.length + Y.length) = X2 ++ cur.drop (X1.length + k + X2.length) := by
    rw [splice, hY, List.drop_left' (by rw [List.length_take]; omega)]
  rw [splice, e2, e3, List.take_append, List.take_of_length_le (by omega), List.take_append, List.take_of_length_le (by omega), List.take_append, hY]
  rw [List.take_of_length_le (by omega)]
  rw [show X1.length + (k + X2.length) - X1.length - k - X2.length = 0 by omega, List.take_zero, List.append_nil]
theorem el_Holder : Elt Tryz.prog 22 82 (.agg #[.int .i64 0, .int .i64 0, .int .i64 0, .int .i64 0]) 4 32 := Elt.mk' Tryz.underlying22 (by kernel_rfl) rfl (by decide)
set_option maxRecDepth 100000 in
set_option maxHeartbeats 2000000 in
theorem CloneHolder_any (v : Value) (l : List (List Int)) (w : World) (hv : Hid (RowAt w v 4 l)) (hl : l.length ≤ 1000000) :
    Calls Tryz.prog 54 #[v] w fun e w' => ∃ v', e = .returned v' ∧ RowOwn w' w.heap.size 82 v' 4 l ∧ Below w.heap.size w w' := by
  obtain ⟨A, c, rfl, hk, hh⟩ := hv.out
  have q22 : ∀ (w : World) (a : Option Addr) (n c n' c' : Nat), (binOp .eql 22 (.slice a n c) (.slice none n' c')).run Tryz.prog w = .ok (.bool a.isNone) w := fun w a n c n' c' => Lib.run_eql_slice_nil w _ _ a n c n' c' Tryz.underlying22
  rcases hh with rfl | ⟨b, o, rfl, hb, hc⟩
  · cases A with
    | none =>
      clear hv
      go_enter Tryz.func54, Tryz.ntmps54
      go_wp2
      go_ret
      exact ⟨_, rfl, ⟨World.ownsRow_nil _ _ _ _, hk⟩, Below.refl _ _⟩
    | some a =>
      obtain ⟨ab, ao, asp⟩ := a
      clear hv
      obtain ⟨i0, hi, hz0, hz1, hz2⟩ := el_Holder.info
      go_enter Tryz.func54, Tryz.ntmps54
      go_wp2_with (at_builtin; refine wpList_append_own _ rfl _ _ 22 rfl w.heap.size 82 i0 (.agg #[.int .i64 0, .int .i64 0, .int .i64 0, .int .i64 0]) 4 32 Tryz.underlying22 hi hz0 hz1 hz2 rfl (by decide) _ _ _ rfl (World.ownsRow_made w #[] 0 (Nat.le_refl _) (Nat.zero_le _) (by simp)) ⟨ab, ao, asp⟩ 0 c [] rfl (by simp) (by intro j u hj; simp at hj) (by intro u hu; simp at hu) (by unfold maxLen; omega) (by omega) (by simp) ?_)
      intro v' w1 hown hgrow hnil
      go_wp2
      go_ret
      exact ⟨v', rfl, ⟨hown, hk⟩, ((Below.refl _ w).alloc (Nat.le_refl _) _).grown hgrow (by simp) (by intro k hk; simp [Value.ownBlock] at hk; omega)⟩
  · have A : Hid (∀ j u, (flatC l)[j]? = some u → w.cell? ⟨b, o + j, none⟩ = some u) := (show ∀ _ _, _ from fun j u hj => by
      rw [flatC, List.getElem?_map] at hj
      obtain ⟨x, hx, rfl⟩ := Option.map_eq_some_iff.1 hj
      exact hc j x hx)
    clear hc
    have hlen := zH (flatC_len hk)
    replace hk := zH hk
    clear hv
    obtain ⟨n, hn⟩ : ∃ n, l.length = n := ⟨_, rfl⟩
    rw [hn] at hlen hl ⊢
    replace hn := zH hn
    obtain ⟨news, hnews⟩ : ∃ news, news = flatC l := ⟨_, rfl⟩
    rw [← hnews] at A hlen
    have h1 : Hid (∀ u ∈ news, u.oneCell' = true) := (show ∀ _ _, _ from hnews ▸ flatC_one l)
    replace hnews := zH hnews
    obtain ⟨i0, hi, hz0, hz1, hz2⟩ := el_Holder.info
    go_enter Tryz.func54, Tryz.ntmps54
    go_wp2_with (at_builtin; refine wpList_append_own _ rfl _ _ 22 rfl w.heap.size 82 i0 (.agg #[.int .i64 0, .int .i64 0, .int .i64 0, .int .i64 0]) 4 32 Tryz.underlying22 hi hz0 hz1 hz2 rfl (by decide) _ _ _ rfl (World.ownsRow_made w #[] 0 (Nat.le_refl _) (Nat.zero_le _) (by simp)) ⟨b, o, none⟩ n c news rfl ?qc1 ?qc2 ?qc3 ?qc4 ?qc5 ?qc6 ?_)
    case qc1 => exact hlen.out
    case qc2 =>
      intro j u hj
      rw [Addr.add_lit]
      exact Lib.cell?_alloc_some _ (A.out j u hj)
    case qc3 => exact h1.out
    case qc4 => unfold maxLen; omega
    case qc5 => omega
    case qc6 => simp
    intro v' w1 hown hgrow hnil
    go_wp2
    go_ret
    refine ⟨v', rfl, ⟨?_, hk.out⟩, ?_⟩
    · rw [hn.out, ← hnews.out]; exact hown
    · exact ((Below.refl _ w).alloc (Nat.le_refl _) _).grown hgrow (by simp) (by intro k hk; simp [Value.ownBlock] at hk; omega)
theorem el_Stake : Elt Tryz.prog 23 84 (.agg #[.int .i64 0, .int .i64 0, .int .i64 0]) 3 24 := Elt.mk' Tryz.underlying23 (by kernel_rfl) rfl (by decide)
set_option maxRecDepth 100000 in
set_option maxHeartbeats 2000000 in
theorem CloneStake_any (v : Value) (l : List (List Int)) (w : World) (hv : Hid (RowAt w v 3 l)) (hl : l.length ≤ 1000000) :
    Calls Tryz.prog 55 #[v] w fun e w' => ∃ v', e = .returned v' ∧ RowOwn w' w.heap.size 84 v' 3 l ∧ Below w.heap.size w w' := by
  obtain ⟨A, c, rfl, hk, hh⟩ := hv.out
  have q22 : ∀ (w : World) (a : Option Addr) (n c n' c' : Nat), (binOp .eql 23 (.slice a n c) (.slice none n' c')).run Tryz.prog w = .ok (.bool a.isNone) w := fun w a n c n' c' => Lib.run_eql_slice_nil w _ _ a n c n' c' Tryz.underlying23
  rcases hh with rfl | ⟨b, o, rfl, hb, hc⟩
  · cases A with
    | none =>
      clear hv
      go_enter Tryz.func55, Tryz.ntmps55
      go_wp2
      go_ret
      exact ⟨_, rfl, ⟨World.ownsRow_nil _ _ _ _, hk⟩, Below.refl _ _⟩
    | some a =>
      obtain ⟨ab, ao, asp⟩ := a
      clear hv
      obtain ⟨i0, hi, hz0, hz1, hz2⟩ := el_Stake.info
      go_enter Tryz.func55, Tryz.ntmps55
      go_wp2_with (at_builtin; refine wpList_append_own _ rfl _ _ 23 rfl w.heap.size 84 i0 (.agg #[.int .i64 0, .int .i64 0, .int .i64 0]) 3 24 Tryz.underlying23 hi hz0 hz1 hz2 rfl (by decide) _ _ _ rfl (World.ownsRow_made w #[] 0 (Nat.le_refl _) (Nat.zero_le _) (by simp)) ⟨ab, ao, asp⟩ 0 c [] rfl (by simp) (by intro j u hj; simp at hj) (by intro u hu; simp at hu) (by unfold maxLen; omega) (by omega) (by simp) ?_)
      intro v' w1 hown hgrow hnil
      go_wp2
      go_ret
      exact ⟨v', rfl, ⟨hown, hk⟩, ((Below.refl _ w).alloc (Nat.le_refl _) _).grown hgrow (by simp) (by intro k hk; simp [Value.ownBlock] at hk; omega)⟩
  · have A : Hid (∀ j u, (flatC l)[j]? = some u → w.cell? ⟨b, o + j, none⟩ = some u) := (show ∀ _ _, _ from fun j u hj => by
      rw [flatC, List.getElem?_map] at hj
      obtain ⟨x, hx, rfl⟩ := Option.map_eq_some_iff.1 hj
      exact hc j x hx)
    clear hc
    have hlen := zH (flatC_len hk)
    replace hk := zH hk
    clear hv
    obtain ⟨n, hn⟩ : ∃ n, l.length = n := ⟨_, rfl⟩
    rw [hn] at hlen hl ⊢
    replace hn := zH hn
    obtain ⟨news, hnews⟩ : ∃ news, news = flatC l := ⟨_, rfl⟩
    rw [← hnews] at A hlen
    have h1 : Hid (∀ u ∈ news, u.oneCell' = true) := (show ∀ _ _, _ from hnews ▸ flatC_one l)
    replace hnews := zH hnews
    obtain ⟨i0, hi, hz0, hz1, hz2⟩ := el_Stake.info
    go_enter Tryz.func55, Tryz.ntmps55
    go_wp2_with (at_builtin; refine wpList_append_own _ rfl _ _ 23 rfl w.heap.size 84 i0 (.agg #[.int .i64 0, .int .i64 0, .int .i64 0]) 3 24 Tryz.underlying23 hi hz0 hz1 hz2 rfl (by decide) _ _ _ rfl (World.ownsRow_made w #[] 0 (Nat.le_refl _) (Nat.zero_le _) (by simp)) ⟨b, o, none⟩ n c news rfl ?qc1 ?qc2 ?qc3 ?qc4 ?qc5 ?qc6 ?_)
    case qc1 => exact hlen.out
    case qc2 =>
      intro j u hj
      rw [Addr.add_lit]
      exact Lib.cell?_alloc_some _ (A.out j u hj)
    case qc3 => exact h1.out
    case qc4 => unfold maxLen; omega
    case qc5 => omega
    case qc6 => simp
    intro v' w1 hown hgrow hnil
    go_wp2
    go_ret
    refine ⟨v', rfl, ⟨?_, hk.out⟩, ?_⟩
    · rw [hn.out, ← hnews.out]; exact hown
    · exact ((Below.refl _ w).alloc (Nat.le_refl _) _).grown hgrow (by simp) (by intro k hk; simp [Value.ownBlock] at hk; omega)
theorem el_Open : Elt Tryz.prog 24 86 (.agg #[.int .i64 0, .int .i64 0, .int .i64 0, .int .i64 0, .int .i64 0, .int .i64 0]) 6 48 := Elt.mk' Tryz.underlying24 (by kernel_rfl) rfl (by decide)
set_option maxRecDepth 100000 in
set_option maxHeartbeats 2000000 in
theorem CloneOpen_any (v : Value) (l : List (List Int)) (w : World) (hv : Hid (RowAt w v 6 l)) (hl : l.length ≤ 1000000) :
    Calls Tryz.prog 56 #[v] w fun e w' => ∃ v', e = .returned v' ∧ RowOwn w' w.heap.size 86 v' 6 l ∧ Below w.heap.size w w' := by
  obtain ⟨A, c, rfl, hk, hh⟩ := hv.out
  have q22 : ∀ (w : World) (a : Option Addr) (n c n' c' : Nat), (binOp .eql 24 (.slice a n c) (.slice none n' c')).run Tryz.prog w = .ok (.bool a.isNone) w := fun w a n c n' c' => Lib.run_eql_slice_nil w _ _ a n c n' c' Tryz.underlying24
  rcases hh with rfl | ⟨b, o, rfl, hb, hc⟩
  · cases A with
    | none =>
      clear hv
      go_enter Tryz.func56, Tryz.ntmps56
      go_wp2
      go_ret
      exact ⟨_, rfl, ⟨World.ownsRow_nil _ _ _ _, hk⟩, Below.refl _ _⟩
    | some a =>
      obtain ⟨ab, ao, asp⟩ := a
      clear hv
      obtain ⟨i0, hi, hz0, hz1, hz2⟩ := el_Open.info
      go_enter Tryz.func56, Tryz.ntmps56
      go_wp2_with (at_builtin; refine wpList_append_own _ rfl _ _ 24 rfl w.heap.size 86 i0 (.agg #[.int .i64 0, .int .i64 0, .int .i64 0, .int .i64 0, .int .i64 0, .int .i64 0]) 6 48 Tryz.underlying24 hi hz0 hz1 hz2 rfl (by decide) _ _ _ rfl (World.ownsRow_made w #[] 0 (Nat.le_refl _) (Nat.zero_le _) (by simp)) ⟨ab, ao, asp⟩ 0 c [] rfl (by simp) (by intro j u hj; simp at hj) (by intro u hu; simp at hu) (by unfold maxLen; omega) (by omega) (by simp) ?_)
      intro v' w1 hown hgrow hnil
      go_wp2
      go_ret
      exact ⟨v', rfl, ⟨hown, hk⟩, ((Below.refl _ w).alloc (Nat.le_refl _) _).grown hgrow (by simp) (by intro k hk; simp [Value.ownBlock] at hk; omega)⟩
  · have A : Hid (∀ j u, (flatC l)[j]? = some u → w.cell? ⟨b, o + j, none⟩ = some u) := (show ∀ _ _, _ from fun j u hj => by
      rw [flatC, List.getElem?_map] at hj
      obtain ⟨x, hx, rfl⟩ := Option.map_eq_some_iff.1 hj
      exact hc j x hx)
    clear hc
    have hlen := zH (flatC_len hk)
    replace hk := zH hk
    clear hv
    obtain ⟨n, hn⟩ : ∃ n, l.length = n := ⟨_, rfl⟩
    rw [hn] at hlen hl ⊢
    replace hn := zH hn
    obtain ⟨news, hnews⟩ : ∃ news, news = flatC l := ⟨_, rfl⟩
    rw [← hnews] at A hlen
    have h1 : Hid (∀ u ∈ news, u.oneCell' = true) := (show ∀ _ _, _ from hnews ▸ flatC_one l)
    replace hnews := zH hnews
    obtain ⟨i0, hi, hz0, hz1, hz2⟩ := el_Open.info
    go_enter Tryz.func56, Tryz.ntmps56
    go_wp2_with (at_builtin; refine wpList_append_own _ rfl _ _ 24 rfl w.heap.size 86 i0 (.agg #[.int .i64 0, .int .i64 0, .int .i64 0, .int .i64 0, .int .i64 0, .int .i64 0]) 6 48 Tryz.underlying24 hi hz0 hz1 hz2 rfl (by decide) _ _ _ rfl (World.ownsRow_made w #[] 0 (Nat.le_refl _) (Nat.zero_le _) (by simp)) ⟨b, o, none⟩ n c news rfl ?qc1 ?qc2 ?qc3 ?qc4 ?qc5 ?qc6 ?_)
    case qc1 => exact hlen.out
    case qc2 =>
      intro j u hj
      rw [Addr.add_lit]
      exact Lib.cell?_alloc_some _ (A.out j u hj)
    case qc3 => exact h1.out
    case qc4 => unfold maxLen; omega
    case qc5 => omega
    case qc6 => simp
    intro v' w1 hown hgrow hnil
    go_wp2
    go_ret
    refine ⟨v', rfl, ⟨?_, hk.out⟩, ?_⟩
    · rw [hn.out, ← hnews.out]; exact hown
    · exact ((Below.refl _ w).alloc (Nat.le_refl _) _).grown hgrow (by simp) (by intro k hk; simp [Value.ownBlock] at hk; omega)
theorem el_Rate : Elt Tryz.prog 25 88 (.agg #[.int .i64 0, .int .i64 0]) 2 16 := Elt.mk' Tryz.underlying25 (by kernel_rfl) rfl (by decide)
set_option maxRecDepth 100000 in
set_option maxHeartbeats 2000000 in
theorem CloneRate_any (v : Value) (l : List (List Int)) (w : World) (hv : Hid (RowAt w v 2 l)) (hl : l.length ≤ 1000000) :
    Calls Tryz.prog 57 #[v] w fun e w' => ∃ v', e = .returned v' ∧ RowOwn w' w.heap.size 88 v' 2 l ∧ Below w.heap.size w w' := by
  obtain ⟨A, c, rfl, hk, hh⟩ := hv.out
  have q22 : ∀ (w : World) (a : Option Addr) (n c n' c' : Nat), (binOp .eql 25 (.slice a n c) (.slice none n' c')).run Tryz.prog w = .ok (.bool a.isNone) w := fun w a n c n' c' => Lib.run_eql_slice_nil w _ _ a n c n' c' Tryz.underlying25
  rcases hh with rfl | ⟨b, o, rfl, hb, hc⟩
  · cases A with
    | none =>
      clear hv
      go_enter Tryz.func57, Tryz.ntmps57
      go_wp2
      go_ret
      exact ⟨_, rfl, ⟨World.ownsRow_nil _ _ _ _, hk⟩, Below.refl _ _⟩
    | some a =>
      obtain ⟨ab, ao, asp⟩ := a
      clear hv
      obtain ⟨i0, hi, hz0, hz1, hz2⟩ := el_Rate.info
      go_enter Tryz.func57, Tryz.ntmps57
      go_wp2_with (at_builtin; refine wpList_append_own _ rfl _ _ 25 rfl w.heap.size 88 i0 (.agg #[.int .i64 0, .int .i64 0]) 2 16 Tryz.underlying25 hi hz0 hz1 hz2 rfl (by decide) _ _ _ rfl (World.ownsRow_made w #[] 0 (Nat.le_refl _) (Nat.zero_le _) (by simp)) ⟨ab, ao, asp⟩ 0 c [] rfl (by simp) (by intro j u hj; simp at hj) (by intro u hu; simp at hu) (by unfold maxLen; omega) (by omega) (by simp) ?_)
      intro v' w1 hown hgrow hnil
      go_wp2
      go_ret
      exact ⟨v', rfl, ⟨hown, hk⟩, ((Below.refl _ w).alloc (Nat.le_refl _) _).grown hgrow (by simp) (by intro k hk; simp [Value.ownBlock] at hk; omega)⟩
  · have A : Hid (∀ j u, (flatC l)[j]? = some u → w.cell? ⟨b, o + j, none⟩ = some u) := (show ∀ _ _, _ from fun j u hj => by
      rw [flatC, List.getElem?_map] at hj
      obtain ⟨x, hx, rfl⟩ := Option.map_eq_some_iff.1 hj
      exact hc j x hx)
    clear hc
    have hlen := zH (flatC_len hk)
    replace hk := zH hk
    clear hv
    obtain ⟨n, hn⟩ : ∃ n, l.length = n := ⟨_, rfl⟩
    rw [hn] at hlen hl ⊢
    replace hn := zH hn
    obtain ⟨news, hnews⟩ : ∃ news, news = flatC l := ⟨_, rfl⟩
    rw [← hnews] at A hlen
    have h1 : Hid (∀ u ∈ news, u.oneCell' = true) := (show ∀ _ _, _ from hnews ▸ flatC_one l)
    replace hnews := zH hnews
    obtain ⟨i0, hi, hz0, hz1, hz2⟩ := el_Rate.info
    go_enter Tryz.func57, Tryz.ntmps57
    go_wp2_with (at_builtin; refine wpList_append_own _ rfl _ _ 25 rfl w.heap.size 88 i0 (.agg #[.int .i64 0, .int .i64 0]) 2 16 Tryz.underlying25 hi hz0 hz1 hz2 rfl (by decide) _ _ _ rfl (World.ownsRow_made w #[] 0 (Nat.le_refl _) (Nat.zero_le _) (by simp)) ⟨b, o, none⟩ n c news rfl ?qc1 ?qc2 ?qc3 ?qc4 ?qc5 ?qc6 ?_)
    case qc1 => exact hlen.out
    case qc2 =>
      intro j u hj
      rw [Addr.add_lit]
      exact Lib.cell?_alloc_some _ (A.out j u hj)
    case qc3 => exact h1.out
    case qc4 => unfold maxLen; omega
    case qc5 => omega
    case qc6 => simp
    intro v' w1 hown hgrow hnil
    go_wp2
    go_ret
    refine ⟨v', rfl, ⟨?_, hk.out⟩, ?_⟩
    · rw [hn.out, ← hnews.out]; exact hown
    · exact ((Below.refl _ w).alloc (Nat.le_refl _) _).grown hgrow (by simp) (by intro k hk; simp [Value.ownBlock] at hk; omega)
set_option maxRecDepth 100000 in
set_option maxHeartbeats 2000000 in
theorem InsertHolder_end (B : Nat) (v : Value) (l : List (List Int)) (x : List Int) (vb : Nat) (w : World) (hv : Hid (RowOwn w B 82 v 4 l)) (hB : B ≤ w.heap.size) (hl : l.length ≤ 1000000) (hx : x.length = 4) (hb : Hid (w.heap[vb]? = some (.cells (x.map (Value.int .i64)).toArray 82 (0, 0)))) :
    Calls Tryz.prog 177 #[v, .int .i64 l.length, .slice (some ⟨vb, 0, none⟩) 1 1] w fun e w' => ∃ v', e = .returned v' ∧ RowOwn w' B 82 v' 4 (l ++ [x]) ∧ w.grownBy w' v.ownBlock := by
  obtain ⟨A, c, rfl⟩ := hv.out.form
  obtain ⟨i0, hi, hz0, hz1, hz2⟩ := el_Holder.info
  have ho : Hid (w.ownsRow B 82 4 (.slice A l.length c) l.length (flatC l)) := hv.out.1
  have hk := zH hv.out.2
  have hcap : l.length ≤ c := by
    rcases hv.out.1.2 with ⟨h, h0⟩ | ⟨g, cap, cur, h, _, _, hn, _⟩
    · rw [h0]; omega
    · cases h; exact hn
  have hA : Hid (A = none → l.length = 0) := (show _ → _ from fun h => by
    subst h
    rcases hv.out.1.2 with ⟨h, h0⟩ | ⟨g, cap, cur, h, _⟩
    · exact h0
    · cases h)
  have hc63 : c ≤ 9223372036854775807 := by
    rcases hv.out.1.2 with ⟨h, h0⟩ | ⟨g, cap, cur, h, _, _, hn, hm, _⟩
    · injection h with _ _ h3; omega
    · injection h with _ _ h3; unfold maxLen at hm; omega
  clear hv
  obtain ⟨X, hX⟩ : ∃ X, X = flatC l := ⟨_, rfl⟩
  obtain ⟨n, hn⟩ : ∃ n, l.length = n := ⟨_, rfl⟩
  rw [← hX] at ho
  rw [hn] at ho hl hcap hA ⊢
  replace hX := zH hX
  replace hn := zH hn
  obtain ⟨Y, hY⟩ : ∃ Y, Y = x.map (Value.int .i64) := ⟨_, rfl⟩
  have hYl : Hid (Y.length = 1 * 4) := by show _ = _; rw [hY, List.length_map, hx]
  have hY1 : Hid (∀ u ∈ Y, u.oneCell' = true) := (show ∀ _ _, _ from fun u hu => by
    rw [hY] at hu; obtain ⟨y, _, rfl⟩ := List.mem_map.1 hu; rfl)
  have hYc : Hid (∀ j u, Y[j]? = some u → w.cell? ((⟨vb, 0, none⟩ : Addr).add j) = some u) := (show ∀ _ _ _, _ from fun j u hj => by
    have := cells_of_blk hb.out j u (by rw [← hY]; simpa using hj)
    rw [Addr.add_lit, Nat.zero_add]; exact this)
  replace hY := zH hY
  replace hx := zH hx
  clear hb
  have hz : ((n : Int) == (n : Int)) = true := by simp
  have fin : ∀ v' w1, w1.ownsRow B 82 4 v' (n + 1) (X ++ Y) → w.grownBy w1 (Value.slice A n c).ownBlock → ∃ v'', (Ending.returned v') = .returned v'' ∧ RowOwn w1 B 82 v'' 4 (l ++ [x]) ∧ w.grownBy w1 (Value.slice A n c).ownBlock := by
    intro v' w1 h1 h2
    refine ⟨v', rfl, ⟨?_, ?_⟩, h2⟩
    · rw [List.length_append, hn.out, flatC_append, show flatC [x] = Y by rw [hY.out]; simp [flatC], ← hX.out]
      exact h1
    · intro r hr
      rcases List.mem_append.1 hr with hr | hr
      · exact hk.out r hr
      · simp at hr; rw [hr]; exact hx.out
  replace fin := zH fin
  cases A with
  | none =>
    obtain rfl := hA.out rfl
    go_enter Tryz.func177, Tryz.ntmps177
    go_wp2_with (at_builtin; refine wpList_append_own _ rfl _ _ 22 rfl B 82 i0 (.agg #[.int .i64 0, .int .i64 0, .int .i64 0, .int .i64 0]) 4 32 Tryz.underlying22 hi hz0 hz1 hz2 rfl (by decide) _ _ X rfl ho.out ⟨vb, 0, none⟩ 1 1 Y rfl hYl.out hYc.out hY1.out (by unfold maxLen; omega) (by omega) hB ?_)
    intro v' w1 hown hgrow hnil
    go_wp2
    go_ret
    exact fin.out v' w1 hown hgrow
  | some a =>
    obtain ⟨g, og, sp⟩ := a
    go_enter Tryz.func177, Tryz.ntmps177
    go_wp2_with (at_builtin; refine wpList_append_own _ rfl _ _ 22 rfl B 82 i0 (.agg #[.int .i64 0, .int .i64 0, .int .i64 0, .int .i64 0]) 4 32 Tryz.underlying22 hi hz0 hz1 hz2 rfl (by decide) _ _ X rfl ho.out ⟨vb, 0, none⟩ 1 1 Y rfl hYl.out hYc.out hY1.out (by unfold maxLen; omega) (by omega) hB ?_)
    all_goals
      intro v' w1 hown hgrow hnil
      go_wp2
      go_ret
      exact fin.out v' w1 hown hgrow
set_option maxRecDepth 100000 in
set_option maxHeartbeats 4000000 in
theorem InsertHolder_shift (X1 X2 Y : List Value) (n i c g vb : Nat) (cur : List Value) (w : World) (hi : i < n) (hroom : n + 1 ≤ c) (hc63 : c ≤ 9223372036854775807) (hvb : vb ≠ g) (hX2 : X2.length = (n - i) * 4) (hg : Hid (w.heap[g]? = some (.cells cur.toArray 82 (0, 0)))) (hcur : cur.length = c * 4)
    (hsrc : Hid (∀ (j : Nat) (v : Value), X2[j]? = some v → cur[i * 4 + j]? = some v)) (hb : Hid (w.heap[vb]? = some (.cells Y.toArray 82 (0, 0)))) (hY : Y.length = 1 * 4) (h1 : Hid (∀ v ∈ X2, v.oneCell' = true)) (h1y : Hid (∀ v ∈ Y, v.oneCell' = true)) :
    Calls Tryz.prog 177 #[.slice (some ⟨g, 0, none⟩) n c, .int .i64 i, .slice (some ⟨vb, 0, none⟩) 1 1] w fun e w' => e = .returned (.slice (some ⟨g, 0, none⟩) (n + 1) c) ∧ w'.heap[g]? = some (.cells (splice (splice cur ((i + 1) * 4) X2) (i * 4) Y).toArray 82 (0, 0)) ∧ w.grownBy w' (some g) := by
  have hsz : (Tryz.prog.info? 82).map (·.size) = some 4 := by kernel_rfl
  have t24 := Tryz.underlying22
  have mixed : Tryz.prog.follows .mixedOrders = true := by kernel_rfl
  have hz2 : ((i : Int) == (n : Int)) = false := by simp; omega
  have hw0 : IntKind.i64.wrap ((n : Int) + 1) = (n : Int) + 1 := by rw [IntKind.wrap_i64]; omega
  have hw1 : IntKind.i64.wrap ((i : Int) + 1) = (i : Int) + 1 := by rw [IntKind.wrap_i64]; omega
  have hz3 : decide ((c : Int) < (n : Int) + 1) = false := decide_eq_false (by omega)
  have hz3' : decide ((n : Int) + 1 > (c : Int)) = false := decide_eq_false (by omega)
  have htn : ((i : Int) + 1).toNat = i + 1 := by omega
  have htn2 : ((n : Int) + 1).toNat = n + 1 := by omega
  have hb1 : (0 : Int) ≤ (i : Int) + 1 := by omega
  have hb2 : (i : Int) + 1 ≤ (n : Int) + 1 := by omega
  have hb3 : (i : Int) ≤ (n : Int) + 1 := by omega
  have hb4 : ¬ (c = i) := by omega
  have hb5 : ¬ (c = i + 1) := by omega
  have hm1 : Nat.min (n + 1 - i) (n - i) = n - i := by simp only [Nat.min_def]; split <;> omega
  have hm2 : Nat.min 1 (n + 1 - i) = 1 := by simp only [Nat.min_def]; split <;> omega
  have hov : ∀ lb cb, (callFunc 204 #[.slice (some ⟨vb, 0, none⟩) 1 1, .slice (some ⟨g, (i + 1) * 4, none⟩) lb cb]).run Tryz.prog w = .ok (.value (.bool false)) w := fun lb cb => by
    rw [run_callFunc_extern Tryz.func204 (by kernel_rfl) (by kernel_rfl) (by kernel_rfl) (e := Extern.SlicesOverlaps.overlaps #[22, 22] #[4]) (by kernel_rfl),
      Lib.run_overlaps_apart w 22 4 82 t24 4 Tryz.sizeOf82 ⟨vb, 0, none⟩ ⟨g, (i + 1) * 4, none⟩ 1 1 lb cb hvb 82 82 Y.length cur.length (by simp [World.shape?, hb.out]) (by simp [World.shape?, hg.out]) (by omega) (by simp [World.frozen?, hb.out]) (by simp [World.frozen?, hb.out])]
    rfl
  have hcp1 : ∀ ty dc sc, (Builtin.copy_ #[22, 22] ty #[.slice (some ⟨g, (i + 1) * 4, none⟩) (n - i) dc, .slice (some ⟨g, i * 4, none⟩) (n + 1 - i) sc]).run Tryz.prog w.drew = .ok (goInt (n - i : Nat)) (w.drew.setRow g (splice cur ((i + 1) * 4) X2).toArray) := fun ty dc sc => by
    rw [run_copy_k w.drew 22 22 ty 82 4 g ((i + 1) * 4) (n - i) dc ⟨g, i * 4, none⟩ (n + 1 - i) sc cur.toArray 82 X2 t24 hsz hg.out (by rw [hm1, hX2]) (fun j v hj => by rw [Addr.add_lit]; exact cells_of_blk (w := w.drew) hg.out _ _ (by simpa using hsrc.out j v hj)) (by simp; omega) h1.out, hm1]
    simp [splice]
  obtain ⟨A1, hA1⟩ : ∃ A1, A1 = splice cur ((i + 1) * 4) X2 := ⟨_, rfl⟩
  have hA1l : A1.length = c * 4 := by rw [hA1, length_splice _ _ _ (by omega), hcur]
  obtain ⟨W1, hW1⟩ : ∃ W1, W1 = w.drew.setRow g A1.toArray := ⟨_, rfl⟩
  rw [← hA1, ← hW1] at hcp1
  have hg1 : Hid (W1.heap[g]? = some (.cells A1.toArray 82 (0, 0))) := by rw [hW1]; exact setRow_heap w.drew g _ _ 82 _ hg.out
  have hb1' : Hid (W1.heap[vb]? = some (.cells Y.toArray 82 (0, 0))) := by rw [hW1]; exact (setRow_other w.drew g vb _ hvb).trans hb.out
  have hgr1 : Hid (w.grownBy W1 (some g)) := by rw [hW1]; exact ⟨rfl, rfl, rfl, by simp [World.setRow], fun k hk hne => setRow_other w.drew g k _ (fun e => hne (by simp [e]))⟩
  have hcp2 : ∀ ty dc, (Builtin.copy_ #[22, 22] ty #[.slice (some ⟨g, i * 4, none⟩) (n + 1 - i) dc, .slice (some ⟨vb, 0, none⟩) 1 1]).run Tryz.prog W1 = .ok (goInt (1 : Nat)) (W1.setRow g (splice A1 (i * 4) Y).toArray) := fun ty dc => by
    rw [run_copy_k W1 22 22 ty 82 4 g (i * 4) (n + 1 - i) dc ⟨vb, 0, none⟩ 1 1 A1.toArray 82 Y t24 hsz hg1.out (by rw [hm2, hY]) (fun j v hj => by rw [Addr.add_lit]; exact cells_of_blk hb1'.out _ _ (by simpa using hj)) (by simp; omega) h1y.out, hm2]
    simp [splice]
  have fin : Hid ((W1.setRow g (splice A1 (i * 4) Y).toArray).heap[g]? = some (.cells (splice A1 (i * 4) Y).toArray 82 (0, 0)) ∧ w.grownBy (W1.setRow g (splice A1 (i * 4) Y).toArray) (some g)) :=
    ⟨setRow_heap W1 g _ _ 82 _ hg1.out, grown_trans hgr1.out ⟨rfl, rfl, rfl, by simp [World.setRow], fun k hk hne => setRow_other W1 g k _ (fun e => hne (by simp [e]))⟩⟩
  rw [← hA1]
  clear hg hb hsrc hg1 hb1' hgr1 h1 h1y hX2 hY hcur hA1l hA1 hW1 hsz
  obtain ⟨A2, hA2⟩ : ∃ A2, A2 = splice A1 (i * 4) Y := ⟨_, rfl⟩
  rw [← hA2] at hcp2 fin ⊢
  clear hA2
  go_enter Tryz.func177, Tryz.ntmps177
  go_wp2_with (simp only [hov])
  go_region_law_o (refine step_copy_runI rfl _ _ 22 22 rfl _ _ (by simp [Act.eval, Act.put]) (by simp [Act.eval, Act.put]) (hcp1 _ _ _) ?_)
  go_wp2_with (at_builtin; refine wpList_copy_runI _ rfl _ _ 22 22 rfl _ _ rfl rfl (hcp2 _ _) ?_)
  go_ret
  exact ⟨rfl, fin.out⟩
set_option maxRecDepth 100000 in
set_option maxHeartbeats 4000000 in
theorem InsertHolder_grow (B : Nat) (X1 X2 Y : List Value) (n i c g vb : Nat) (cur : List Value) (w : World) (hBw : B ≤ w.heap.size) (hi : i < n) (hn : n ≤ 1000000) (hnc : n ≤ c) (hroom : c < n + 1) (hX1 : X1.length = i * 4) (hX2 : X2.length = (n - i) * 4) (hg : Hid (w.heap[g]? = some (.cells cur.toArray 82 (0, 0))))
    (hsrc1 : Hid (∀ (j : Nat) (v : Value), X1[j]? = some v → cur[j]? = some v)) (hsrc : Hid (∀ (j : Nat) (v : Value), X2[j]? = some v → cur[i * 4 + j]? = some v)) (hb : Hid (w.heap[vb]? = some (.cells Y.toArray 82 (0, 0)))) (hY : Y.length = 1 * 4) (h1 : Hid (∀ v ∈ X2, v.oneCell' = true)) (h1y : Hid (∀ v ∈ Y, v.oneCell' = true)) :
    Calls Tryz.prog 177 #[.slice (some ⟨g, 0, none⟩) n c, .int .i64 i, .slice (some ⟨vb, 0, none⟩) 1 1] w fun e w' => ∃ v', e = .returned v' ∧ w'.ownsRow B 82 4 v' (n + 1) (X1 ++ (Y ++ X2)) ∧ w.grownBy w' (some g) := by
  have hsz : (Tryz.prog.info? 82).map (·.size) = some 4 := by kernel_rfl
  have t24 := Tryz.underlying22
  have t3 := Tryz.underlying3
  have mixed : Tryz.prog.follows .mixedOrders = true := by kernel_rfl
  obtain ⟨i0, hi0, hz0, hzs, hzb⟩ := el_Holder.info
  have hz2 : ((i : Int) == (n : Int)) = false := by simp; omega
  have hw0 : IntKind.i64.wrap ((n : Int) + 1) = (n : Int) + 1 := by rw [IntKind.wrap_i64]; omega
  have hw1 : IntKind.i64.wrap ((i : Int) + 1) = (i : Int) + 1 := by rw [IntKind.wrap_i64]; omega
  have hw2 : IntKind.i64.wrap ((n : Int) + 1 - (i : Int)) = (n : Int) + 1 - (i : Int) := by rw [IntKind.wrap_i64]; omega
  have hz3 : decide ((c : Int) < (n : Int) + 1) = true := decide_eq_true (by omega)
  have hz3' : decide ((n : Int) + 1 > (c : Int)) = true := decide_eq_true (by omega)
  have htn : ((i : Int) + 1).toNat = i + 1 := by omega
  have hb1 : (0 : Int) ≤ (i : Int) + 1 := by omega
  have hb2 : (i : Int) + 1 ≤ (n : Int) + 1 := by omega
  have hb3 : (i : Int) ≤ (n : Int) + 1 := by omega
  have hb5 : (i : Int) ≤ (n : Int) := by omega
  have hm1 : Nat.min (n - i) (n - i) = n - i := by simp only [Nat.min_def]; split <;> omega
  have hm2 : Nat.min 1 (n + 1 - i) = 1 := by simp only [Nat.min_def]; split <;> omega
  have hbw : g < w.heap.size := zL hg.out
  have hvw : vb < w.heap.size := zL hb.out
  have hkk : (n : Int) + 1 - (i : Int) = ((n + 1 - i : Nat) : Int) := by omega
  have hik : i + (n + 1 - i) = n + 1 := by omega
  have hold : (Builtin.firstCells i0.size i (.slice (some ⟨g, 0, none⟩) i c)).run Tryz.prog w.drew = .ok X1.toArray w.drew := by
    rw [hzs]
    exact run_firstCells_some w.drew 4 i ⟨g, 0, none⟩ i c X1 hX1 (fun j v hj => by
      rw [Addr.add_lit]
      exact cells_of_blk (w := w.drew) hg.out _ _ (by simpa using hsrc1.out j v hj))
  obtain ⟨G, hG⟩ : ∃ G, G = grownCap w (n + 1) c 82 := ⟨_, rfl⟩
  obtain ⟨ROW, hROW⟩ : ∃ ROW : Array Value, ROW = X1.toArray ++ Builtin.zeroCells (Value.agg #[.int .i64 0, .int .i64 0, .int .i64 0, .int .i64 0]).cells (n + 1 - i) ++ Builtin.zeroCells (Value.agg #[.int .i64 0, .int .i64 0, .int .i64 0, .int .i64 0]).cells (G - (n + 1)) := ⟨_, rfl⟩
  obtain ⟨W1, hW1⟩ : ∃ W1, W1 = w.drew.alloc (.cells ROW 82) := ⟨_, rfl⟩
  have hrz : ∀ ty, (Builtin.append_ #[22, 3] ty #[.slice (some ⟨g, 0, none⟩) i c, .int .i64 ((n : Int) + 1 - (i : Int))]).run Tryz.prog w =
      .ok (.slice (some ⟨w.heap.size, 0, none⟩) (n + 1) G) W1 := fun ty => by
    have h := Lib.run_append_grow_zeros w 22 3 ty 82 i0 (.agg #[.int .i64 0, .int .i64 0, .int .i64 0, .int .i64 0]) .i64 .i64 t24 t3 hi0 hz0 (some ⟨g, 0, none⟩) i c X1 hold (n + 1 - i) (by omega) (by omega) (by omega) (by omega) (by rw [hzb]; omega) (by rw [hzb, hik]; exact growslice_fits (by omega) (by omega))
    rw [hik, ← hG, ← hROW, ← hW1] at h
    rw [hkk]
    exact h
  have hGn : n + 1 ≤ G := by rw [hG]; exact grownCap_ge w _ _ _
  have hGm : G ≤ maxLen := by rw [hG]; exact grownCap_le_maxLen w (n + 1) c 82 (by unfold maxLen; omega)
  have hG63 : G ≤ 9223372036854775807 := by unfold maxLen at hGm; omega
  have hRl : ROW.size = G * 4 := by
    rw [hROW, Array.size_append, Array.size_append, size_zeroCells, size_zeroCells, List.size_toArray, hX1]
    simp [Value.cells]
    omega
  have hR1 : ROW.toList.take (i * 4) = X1 := by
    rw [hROW]
    simp only [Array.toList_append, List.append_assoc]
    exact List.take_left' hX1
  have hGi : ¬ (G = i) := by omega
  have hGim : ¬ (G = i + 1) := by omega
  have hci : ¬ (c = i) := by omega
  have hN : Hid (W1.heap[w.heap.size]? = some (.cells ROW 82 (0, 0))) := by rw [hW1]; exact heap_alloc_new w.drew _
  have hO : Hid (∀ k, k < w.heap.size → W1.heap[k]? = w.heap[k]?) := (show ∀ _ _, _ from fun k hk => by rw [hW1]; exact Below.heap_alloc w.drew _ k hk)
  have hgr1 : Hid (w.grownBy W1 (some g)) := by rw [hW1]; exact ⟨rfl, rfl, rfl, by simp, fun k hk _ => Below.heap_alloc w.drew _ k hk⟩
  obtain ⟨A1, hA1⟩ : ∃ A1, A1 = splice ROW.toList (i * 4) Y := ⟨_, rfl⟩
  have hA1l : A1.length = G * 4 := by rw [hA1, length_splice _ _ _ (by simp; omega)]; simpa using hRl
  obtain ⟨W2, hW2⟩ : ∃ W2, W2 = W1.setRow w.heap.size A1.toArray := ⟨_, rfl⟩
  have hcpA : ∀ ty dc, (Builtin.copy_ #[22, 22] ty #[.slice (some ⟨w.heap.size, i * 4, none⟩) (n + 1 - i) dc, .slice (some ⟨vb, 0, none⟩) 1 1]).run Tryz.prog W1 = .ok (goInt (1 : Nat)) W2 := fun ty dc => by
    rw [run_copy_k W1 22 22 ty 82 4 w.heap.size (i * 4) (n + 1 - i) dc ⟨vb, 0, none⟩ 1 1 ROW 82 Y t24 hsz hN.out (by rw [hm2, hY]) (fun j v hj => by rw [Addr.add_lit]; exact cells_of_blk (w := W1) ((hO.out vb hvw).trans hb.out) _ _ (by simpa using hj)) (by omega) h1y.out, hm2, hW2, hA1]
    simp [splice]
  have hN2 : Hid (W2.heap[w.heap.size]? = some (.cells A1.toArray 82 (0, 0))) := by rw [hW2]; exact setRow_heap W1 _ _ _ 82 _ hN.out
  have hg2 : Hid (W2.heap[g]? = some (.cells cur.toArray 82 (0, 0))) := by rw [hW2]; exact (setRow_other W1 _ g _ (by omega)).trans ((hO.out g hbw).trans hg.out)
  obtain ⟨A2, hA2⟩ : ∃ A2, A2 = splice A1 ((i + 1) * 4) X2 := ⟨_, rfl⟩
  obtain ⟨W3, hW3⟩ : ∃ W3, W3 = W2.drew.setRow w.heap.size A2.toArray := ⟨_, rfl⟩
  have hcpB : ∀ ty dc sc, (Builtin.copy_ #[22, 22] ty #[.slice (some ⟨w.heap.size, (i + 1) * 4, none⟩) (n - i) dc, .slice (some ⟨g, i * 4, none⟩) (n - i) sc]).run Tryz.prog W2.drew = .ok (goInt (n - i : Nat)) W3 := fun ty dc sc => by
    rw [run_copy_k W2.drew 22 22 ty 82 4 w.heap.size ((i + 1) * 4) (n - i) dc ⟨g, i * 4, none⟩ (n - i) sc A1.toArray 82 X2 t24 hsz hN2.out (by rw [hm1, hX2]) (fun j v hj => by rw [Addr.add_lit]; exact cells_of_blk (w := W2.drew) hg2.out _ _ (by simpa using hsrc.out j v hj)) (by simp; omega) h1.out, hm1, hW3, hA2]
    simp [splice]
  have fin : Hid (W3.ownsRow B 82 4 (.slice (some ⟨w.heap.size, 0, none⟩) (n + 1) G) (n + 1) (X1 ++ (Y ++ X2)) ∧ w.grownBy W3 (some g)) := by
    refine ⟨⟨?_, .inr ⟨w.heap.size, G, A2.toArray, rfl, hBw, ?_, hGn, hGm, ?_, ?_⟩⟩, ?_⟩
    · simp only [List.length_append]; omega
    · rw [hW3]; exact setRow_heap W2.drew _ _ _ 82 _ hN2.out
    · rw [hA2]; simp only [List.size_toArray]; rw [length_splice _ _ _ (by omega), hA1l]
    · rw [hA2, hA1]
      simp only []
      rw [splice, splice, hY, hR1]
      have e1 : (X1 ++ (Y ++ ROW.toList.drop (i * 4 + 1 * 4))).take ((i + 1) * 4) = X1 ++ Y := by
        rw [← List.append_assoc]; exact List.take_left' (by simp; omega)
      rw [e1, List.append_assoc, ← List.append_assoc Y, ← List.append_assoc X1]
      exact List.take_left' (by simp; omega)
    · rw [hW3, hW2]
      exact ⟨hgr1.out.os, hgr1.out.tape, hgr1.out.output, Nat.le_trans hgr1.out.size (by simp [World.setRow]), fun k hk hne => (setRow_other _ _ k _ (by omega)).trans ((setRow_other W1 _ k _ (by omega)).trans (hO.out k hk))⟩
  clear hg hb hsrc hsrc1 hN hO hgr1 hN2 hg2 h1 h1y hX2 hX1 hY hA1l hA1 hW1 hsz hA2 hW2 hW3 hR1 hRl hROW hG hold hkk hik hvw
  go_enter Tryz.func177, Tryz.ntmps177
  go_wp2_with (first
    | (at_builtin; refine Lib.wpList_append_run _ rfl _ _ _ _ rfl _ _ rfl rfl _ _ (hrz _) ?_)
    | (at_builtin; refine wpList_copy_runI _ rfl _ _ 22 22 rfl _ _ rfl rfl (hcpA _ _) ?_))
  go_region_law_o (refine step_copy_runI rfl _ _ 22 22 rfl _ _ (by simp [Act.eval, Act.put]) (by simp [Act.eval, Act.put]) (hcpB _ _ _) ?_)
  go_wp2
  go_ret
  exact ⟨_, rfl, fin.out⟩
theorem InsertHolder_any (B : Nat) (v : Value) (l : List (List Int)) (x : List Int) (i vb : Nat) (w : World) (hv : Hid (RowOwn w B 82 v 4 l)) (hB : B ≤ w.heap.size) (hl : l.length ≤ 1000000) (hi : i ≤ l.length) (hx : x.length = 4) (hb : Hid (w.heap[vb]? = some (.cells (x.map (Value.int .i64)).toArray 82 (0, 0)))) (hne : v.ownBlock ≠ some vb) :
    Calls Tryz.prog 177 #[v, .int .i64 i, .slice (some ⟨vb, 0, none⟩) 1 1] w fun e w' => ∃ v', e = .returned v' ∧ RowOwn w' B 82 v' 4 (l.take i ++ x :: l.drop i) ∧ w.grownBy w' v.ownBlock := by
  by_cases hin : i = l.length
  · subst hin
    rw [List.take_length, List.drop_length]
    exact InsertHolder_end B v l x vb w hv hB hl hx hb
  · obtain ⟨ho, hk⟩ := hv.out
    rcases ho.2 with ⟨_, h0⟩ | ⟨g, cap, cur, rfl, hBg, hg, hnc, hcm, hcs, ht⟩
    · omega
    · have hkt : ∀ r ∈ l.take i, r.length = 4 := fun r hr => hk r (List.mem_of_mem_take hr)
      have hkd : ∀ r ∈ l.drop i, r.length = 4 := fun r hr => hk r (List.mem_of_mem_drop hr)
      have hX1 : (flatC (l.take i)).length = i * 4 := by rw [flatC_len hkt, List.length_take, Nat.min_eq_left (by omega)]
      have hX2 : (flatC (l.drop i)).length = (l.length - i) * 4 := by rw [flatC_len hkd, List.length_drop]
      have hX : flatC (l.take i) ++ flatC (l.drop i) = flatC l := by rw [← flatC_append, List.take_append_drop]
      have hcur : cur.toList.length = cap * 4 := by simpa using hcs
      have hle : l.length * 4 ≤ cap * 4 := Nat.mul_le_mul_right _ hnc
      have hcg : ∀ (j : Nat) (u : Value), (flatC l)[j]? = some u → cur.toList[j]? = some u := fun j u hj => by
        rw [← ht, List.getElem?_take] at hj
        split at hj
        · exact hj
        · cases hj
      have hY : (x.map (Value.int .i64)).length = 1 * 4 := by rw [List.length_map, hx]
      have hY1 : ∀ u ∈ x.map (Value.int .i64), u.oneCell' = true := fun u hu => by obtain ⟨y, _, rfl⟩ := List.mem_map.1 hu; rfl
      have hs2 : ∀ (j : Nat) (u : Value), (flatC (l.drop i))[j]? = some u → cur.toList[i * 4 + j]? = some u := fun j u hj => hcg _ _ (by
        rw [← hX, List.getElem?_append_right (by omega), hX1, Nat.add_sub_cancel_left]; exact hj)
      have hlen : (l.take i ++ x :: l.drop i).length = l.length + 1 := by simp; omega
      have hflat : flatC (l.take i ++ x :: l.drop i) = flatC (l.take i) ++ (x.map (Value.int .i64) ++ flatC (l.drop i)) := by
        rw [flatC_append]; simp [flatC]
      have hrows : ∀ r ∈ l.take i ++ x :: l.drop i, r.length = 4 := fun r hr => by
        rcases List.mem_append.1 hr with hr | hr
        · exact hkt r hr
        · rcases List.mem_cons.1 hr with rfl | hr
          · exact hx
          · exact hkd r hr
      have hg' : Hid (w.heap[g]? = some (.cells cur.toList.toArray 82 (0, 0))) := (show _ = _ from by simpa using hg)
      have hvb : vb ≠ g := fun h => hne (by simp [Value.ownBlock, h])
      by_cases hroom : l.length + 1 ≤ cap
      · refine (InsertHolder_shift (flatC (l.take i)) (flatC (l.drop i)) (x.map (Value.int .i64)) l.length i cap g vb cur.toList w (by omega) hroom (by unfold maxLen at hcm; omega) hvb hX2 hg' hcur hs2 hb hY (flatC_one _) hY1).mono ?_
        rintro e w' ⟨rfl, h1, h2⟩
        refine ⟨_, rfl, ⟨⟨?_, .inr ⟨g, cap, _, ?_, hBg, h1, ?_, hcm, ?_, ?_⟩⟩, hrows⟩, h2⟩
        · rw [flatC_len hrows]
        · rw [hlen]
        · omega
        · rw [List.size_toArray, length_splice, length_splice, hcur]
          · omega
          · rw [length_splice _ _ _ (by omega)]; omega
        · have hp := ins_in_place cur.toList (flatC (l.take i)) (flatC (l.drop i)) (x.map (Value.int .i64)) 4 l.length (by omega) (by rw [hX, ← ht]; congr 1; omega) (by omega)
          rw [hX1] at hp
          rw [hflat, ← hp]
          simp only []
          rw [show (l.take i ++ x :: l.drop i).length * 4 = i * 4 + (4 + (flatC (l.drop i)).length) by omega, show (i + 1) * 4 = i * 4 + 4 by omega]
      · refine (InsertHolder_grow B (flatC (l.take i)) (flatC (l.drop i)) (x.map (Value.int .i64)) l.length i cap g vb cur.toList w hB (by omega) hl hnc (by omega) hX1 hX2 hg' ?_ hs2 hb hY (flatC_one _) hY1).mono ?_
        · intro j u hj
          exact hcg j u (by rw [← hX, List.getElem?_append_left (List.getElem?_eq_some_iff.1 hj).1]; exact hj)
        · rintro e w' ⟨v', rfl, h1, h2⟩
          exact ⟨v', rfl, ⟨by rw [hlen, hflat]; exact h1, hrows⟩, h2⟩
set_option maxRecDepth 100000 in
set_option maxHeartbeats 2000000 in
theorem InsertStake_end (B : Nat) (v : Value) (l : List (List Int)) (x : List Int) (vb : Nat) (w : World) (hv : Hid (RowOwn w B 84 v 3 l)) (hB : B ≤ w.heap.size) (hl : l.length ≤ 1000000) (hx : x.length = 3) (hb : Hid (w.heap[vb]? = some (.cells (x.map (Value.int .i64)).toArray 84 (0, 0)))) :
    Calls Tryz.prog 195 #[v, .int .i64 l.length, .slice (some ⟨vb, 0, none⟩) 1 1] w fun e w' => ∃ v', e = .returned v' ∧ RowOwn w' B 84 v' 3 (l ++ [x]) ∧ w.grownBy w' v.ownBlock := by
  obtain ⟨A, c, rfl⟩ := hv.out.form
  obtain ⟨i0, hi, hz0, hz1, hz2⟩ := el_Stake.info
  have ho : Hid (w.ownsRow B 84 3 (.slice A l.length c) l.length (flatC l)) := hv.out.1
  have hk := zH hv.out.2
  have hcap : l.length ≤ c := by
    rcases hv.out.1.2 with ⟨h, h0⟩ | ⟨g, cap, cur, h, _, _, hn, _⟩
    · rw [h0]; omega
    · cases h; exact hn
  have hA : Hid (A = none → l.length = 0) := (show _ → _ from fun h => by
    subst h
    rcases hv.out.1.2 with ⟨h, h0⟩ | ⟨g, cap, cur, h, _⟩
    · exact h0
    · cases h)
  have hc63 : c ≤ 9223372036854775807 := by
    rcases hv.out.1.2 with ⟨h, h0⟩ | ⟨g, cap, cur, h, _, _, hn, hm, _⟩
    · injection h with _ _ h3; omega
    · injection h with _ _ h3; unfold maxLen at hm; omega
  clear hv
  obtain ⟨X, hX⟩ : ∃ X, X = flatC l := ⟨_, rfl⟩
  obtain ⟨n, hn⟩ : ∃ n, l.length = n := ⟨_, rfl⟩
  rw [← hX] at ho
  rw [hn] at ho hl hcap hA ⊢
  replace hX := zH hX
  replace hn := zH hn
  obtain ⟨Y, hY⟩ : ∃ Y, Y = x.map (Value.int .i64) := ⟨_, rfl⟩
  have hYl : Hid (Y.length = 1 * 3) := by show _ = _; rw [hY, List.length_map, hx]
  have hY1 : Hid (∀ u ∈ Y, u.oneCell' = true) := (show ∀ _ _, _ from fun u hu => by
    rw [hY] at hu; obtain ⟨y, _, rfl⟩ := List.mem_map.1 hu; rfl)
  have hYc : Hid (∀ j u, Y[j]? = some u → w.cell? ((⟨vb, 0, none⟩ : Addr).add j) = some u) := (show ∀ _ _ _, _ from fun j u hj => by
    have := cells_of_blk hb.out j u (by rw [← hY]; simpa using hj)
    rw [Addr.add_lit, Nat.zero_add]; exact this)
  replace hY := zH hY
  replace hx := zH hx
  clear hb
  have hz : ((n : Int) == (n : Int)) = true := by simp
  have fin : ∀ v' w1, w1.ownsRow B 84 3 v' (n + 1) (X ++ Y) → w.grownBy w1 (Value.slice A n c).ownBlock → ∃ v'', (Ending.returned v') = .returned v'' ∧ RowOwn w1 B 84 v'' 3 (l ++ [x]) ∧ w.grownBy w1 (Value.slice A n c).ownBlock := by
    intro v' w1 h1 h2
    refine ⟨v', rfl, ⟨?_, ?_⟩, h2⟩
    · rw [List.length_append, hn.out, flatC_append, show flatC [x] = Y by rw [hY.out]; simp [flatC], ← hX.out]
      exact h1
    · intro r hr
      rcases List.mem_append.1 hr with hr | hr
      · exact hk.out r hr
      · simp at hr; rw [hr]; exact hx.out
  replace fin := zH fin
  cases A with
  | none =>
    obtain rfl := hA.out rfl
    go_enter Tryz.func195, Tryz.ntmps195
    go_wp2_with (at_builtin; refine wpList_append_own _ rfl _ _ 23 rfl B 84 i0 (.agg #[.int .i64 0, .int .i64 0, .int .i64 0]) 3 24 Tryz.underlying23 hi hz0 hz1 hz2 rfl (by decide) _ _ X rfl ho.out ⟨vb, 0, none⟩ 1 1 Y rfl hYl.out hYc.out hY1.out (by unfold maxLen; omega) (by omega) hB ?_)
    intro v' w1 hown hgrow hnil
    go_wp2
    go_ret
    exact fin.out v' w1 hown hgrow
  | some a =>
    obtain ⟨g, og, sp⟩ := a
    go_enter Tryz.func195, Tryz.ntmps195
    go_wp2_with (at_builtin; refine wpList_append_own _ rfl _ _ 23 rfl B 84 i0 (.agg #[.int .i64 0, .int .i64 0, .int .i64 0]) 3 24 Tryz.underlying23 hi hz0 hz1 hz2 rfl (by decide) _ _ X rfl ho.out ⟨vb, 0, none⟩ 1 1 Y rfl hYl.out hYc.out hY1.out (by unfold maxLen; omega) (by omega) hB ?_)
    all_goals
      intro v' w1 hown hgrow hnil
      go_wp2
      go_ret
      exact fin.out v' w1 hown hgrow
set_option maxRecDepth 100000 in
set_option maxHeartbeats 4000000 in
theorem InsertStake_shift (X1 X2 Y : List Value) (n i c g vb : Nat) (cur : List Value) (w : World) (hi : i < n) (hroom : n + 1 ≤ c) (hc63 : c ≤ 9223372036854775807) (hvb : vb ≠ g) (hX2 : X2.length = (n - i) * 3) (hg : Hid (w.heap[g]? = some (.cells cur.toArray 84 (0, 0)))) (hcur : cur.length = c * 3)
    (hsrc : Hid (∀ (j : Nat) (v : Value), X2[j]? = some v → cur[i * 3 + j]? = some v)) (hb : Hid (w.heap[vb]? = some (.cells Y.toArray 84 (0, 0)))) (hY : Y.length = 1 * 3) (h1 : Hid (∀ v ∈ X2, v.oneCell' = true)) (h1y : Hid (∀ v ∈ Y, v.oneCell' = true)) :
    Calls Tryz.prog 195 #[.slice (some ⟨g, 0, none⟩) n c, .int .i64 i, .slice (some ⟨vb, 0, none⟩) 1 1] w fun e w' => e = .returned (.slice (some ⟨g, 0, none⟩) (n + 1) c) ∧ w'.heap[g]? = some (.cells (splice (splice cur ((i + 1) * 3) X2) (i * 3) Y).toArray 84 (0, 0)) ∧ w.grownBy w' (some g) := by
  have hsz : (Tryz.prog.info? 84).map (·.size) = some 3 := by kernel_rfl
  have t24 := Tryz.underlying23
  have mixed : Tryz.prog.follows .mixedOrders = true := by kernel_rfl
  have hz2 : ((i : Int) == (n : Int)) = false := by simp; omega
  have hw0 : IntKind.i64.wrap ((n : Int) + 1) = (n : Int) + 1 := by rw [IntKind.wrap_i64]; omega
  have hw1 : IntKind.i64.wrap ((i : Int) + 1) = (i : Int) + 1 := by rw [IntKind.wrap_i64]; omega
  have hz3 : decide ((c : Int) < (n : Int) + 1) = false := decide_eq_false (by omega)
  have hz3' : decide ((n : Int) + 1 > (c : Int)) = false := decide_eq_false (by omega)
  have htn : ((i : Int) + 1).toNat = i + 1 := by omega
  have htn2 : ((n : Int) + 1).toNat = n + 1 := by omega
  have hb1 : (0 : Int) ≤ (i : Int) + 1 := by omega
  have hb2 : (i : Int) + 1 ≤ (n : Int) + 1 := by omega
  have hb3 : (i : Int) ≤ (n : Int) + 1 := by omega
  have hb4 : ¬ (c = i) := by omega
  have hb5 : ¬ (c = i + 1) := by omega
  have hm1 : Nat.min (n + 1 - i) (n - i) = n - i := by simp only [Nat.min_def]; split <;> omega
  have hm2 : Nat.min 1 (n + 1 - i) = 1 := by simp only [Nat.min_def]; split <;> omega
  have hov : ∀ lb cb, (callFunc 211 #[.slice (some ⟨vb, 0, none⟩) 1 1, .slice (some ⟨g, (i + 1) * 3, none⟩) lb cb]).run Tryz.prog w = .ok (.value (.bool false)) w := fun lb cb => by
    rw [run_callFunc_extern Tryz.func211 (by kernel_rfl) (by kernel_rfl) (by kernel_rfl) (e := Extern.SlicesOverlaps.overlaps #[23, 23] #[4]) (by kernel_rfl),
      Lib.run_overlaps_apart w 23 4 84 t24 3 Tryz.sizeOf84 ⟨vb, 0, none⟩ ⟨g, (i + 1) * 3, none⟩ 1 1 lb cb hvb 84 84 Y.length cur.length (by simp [World.shape?, hb.out]) (by simp [World.shape?, hg.out]) (by omega) (by simp [World.frozen?, hb.out]) (by simp [World.frozen?, hb.out])]
    rfl
  have hcp1 : ∀ ty dc sc, (Builtin.copy_ #[23, 23] ty #[.slice (some ⟨g, (i + 1) * 3, none⟩) (n - i) dc, .slice (some ⟨g, i * 3, none⟩) (n + 1 - i) sc]).run Tryz.prog w.drew = .ok (goInt (n - i : Nat)) (w.drew.setRow g (splice cur ((i + 1) * 3) X2).toArray) := fun ty dc sc => by
    rw [run_copy_k w.drew 23 23 ty 84 3 g ((i + 1) * 3) (n - i) dc ⟨g, i * 3, none⟩ (n + 1 - i) sc cur.toArray 84 X2 t24 hsz hg.out (by rw [hm1, hX2]) (fun j v hj => by rw [Addr.add_lit]; exact cells_of_blk (w := w.drew) hg.out _ _ (by simpa using hsrc.out j v hj)) (by simp; omega) h1.out, hm1]
    simp [splice]
  obtain ⟨A1, hA1⟩ : ∃ A1, A1 = splice cur ((i + 1) * 3) X2 := ⟨_, rfl⟩
  have hA1l : A1.length = c * 3 := by rw [hA1, length_splice _ _ _ (by omega), hcur]
  obtain ⟨W1, hW1⟩ : ∃ W1, W1 = w.drew.setRow g A1.toArray := ⟨_, rfl⟩
  rw [← hA1, ← hW1] at hcp1
  have hg1 : Hid (W1.heap[g]? = some (.cells A1.toArray 84 (0, 0))) := by rw [hW1]; exact setRow_heap w.drew g _ _ 84 _ hg.out
  have hb1' : Hid (W1.heap[vb]? = some (.cells Y.toArray 84 (0, 0))) := by rw [hW1]; exact (setRow_other w.drew g vb _ hvb).trans hb.out
  have hgr1 : Hid (w.grownBy W1 (some g)) := by rw [hW1]; exact ⟨rfl, rfl, rfl, by simp [World.setRow], fun k hk hne => setRow_other w.drew g k _ (fun e => hne (by simp [e]))⟩
  have hcp2 : ∀ ty dc, (Builtin.copy_ #[23, 23] ty #[.slice (some ⟨g, i * 3, none⟩) (n + 1 - i) dc, .slice (some ⟨vb, 0, none⟩) 1 1]).run Tryz.prog W1 = .ok (goInt (1 : Nat)) (W1.setRow g (splice A1 (i * 3) Y).toArray) := fun ty dc => by
    rw [run_copy_k W1 23 23 ty 84 3 g (i * 3) (n + 1 - i) dc ⟨vb, 0, none⟩ 1 1 A1.toArray 84 Y t24 hsz hg1.out (by rw [hm2, hY]) (fun j v hj => by rw [Addr.add_lit]; exact cells_of_blk hb1'.out _ _ (by simpa using hj)) (by simp; omega) h1y.out, hm2]
    simp [splice]
  have fin : Hid ((W1.setRow g (splice A1 (i * 3) Y).toArray).heap[g]? = some (.cells (splice A1 (i * 3) Y).toArray 84 (0, 0)) ∧ w.grownBy (W1.setRow g (splice A1 (i * 3) Y).toArray) (some g)) :=
    ⟨setRow_heap W1 g _ _ 84 _ hg1.out, grown_trans hgr1.out ⟨rfl, rfl, rfl, by simp [World.setRow], fun k hk hne => setRow_other W1 g k _ (fun e => hne (by simp [e]))⟩⟩
  rw [← hA1]
  clear hg hb hsrc hg1 hb1' hgr1 h1 h1y hX2 hY hcur hA1l hA1 hW1 hsz
  obtain ⟨A2, hA2⟩ : ∃ A2, A2 = splice A1 (i * 3) Y := ⟨_, rfl⟩
  rw [← hA2] at hcp2 fin ⊢
  clear hA2
  go_enter Tryz.func195, Tryz.ntmps195
  go_wp2_with (simp only [hov])
  go_region_law_o (refine step_copy_runI rfl _ _ 23 23 rfl _ _ (by simp [Act.eval, Act.put]) (by simp [Act.eval, Act.put]) (hcp1 _ _ _) ?_)
  go_wp2_with (at_builtin; refine wpList_copy_runI _ rfl _ _ 23 23 rfl _ _ rfl rfl (hcp2 _ _) ?_)
  go_ret
  exact ⟨rfl, fin.out⟩
set_option maxRecDepth 100000 in
set_option maxHeartbeats 4000000 in
theorem InsertStake_grow (B : Nat) (X1 X2 Y : List Value) (n i c g vb : Nat) (cur : List Value) (w : World) (hBw : B ≤ w.heap.size) (hi : i < n) (hn : n ≤ 1000000) (hnc : n ≤ c) (hroom : c < n + 1) (hX1 : X1.length = i * 3) (hX2 : X2.length = (n - i) * 3) (hg : Hid (w.heap[g]? = some (.cells cur.toArray 84 (0, 0))))
    (hsrc1 : Hid (∀ (j : Nat) (v : Value), X1[j]? = some v → cur[j]? = some v)) (hsrc : Hid (∀ (j : Nat) (v : Value), X2[j]? = some v → cur[i * 3 + j]? = some v)) (hb : Hid (w.heap[vb]? = some (.cells Y.toArray 84 (0, 0)))) (hY : Y.length = 1 * 3) (h1 : Hid (∀ v ∈ X2, v.oneCell' = true)) (h1y : Hid (∀ v ∈ Y, v.oneCell' = true)) :
    Calls Tryz.prog 195 #[.slice (some ⟨g, 0, none⟩) n c, .int .i64 i, .slice (some ⟨vb, 0, none⟩) 1 1] w fun e w' => ∃ v', e = .returned v' ∧ w'.ownsRow B 84 3 v' (n + 1) (X1 ++ (Y ++ X2)) ∧ w.grownBy w' (some g) := by
  have hsz : (Tryz.prog.info? 84).map (·.size) = some 3 := by kernel_rfl
  have t24 := Tryz.underlying23
  have t3 := Tryz.underlying3
  have mixed : Tryz.prog.follows .mixedOrders = true := by kernel_rfl
  obtain ⟨i0, hi0, hz0, hzs, hzb⟩ := el_Stake.info
  have hz2 : ((i : Int) == (n : Int)) = false := by simp; omega
  have hw0 : IntKind.i64.wrap ((n : Int) + 1) = (n : Int) + 1 := by rw [IntKind.wrap_i64]; omega
  have hw1 : IntKind.i64.wrap ((i : Int) + 1) = (i : Int) + 1 := by rw [IntKind.wrap_i64]; omega
  have hw2 : IntKind.i64.wrap ((n : Int) + 1 - (i : Int)) = (n : Int) + 1 - (i : Int) := by rw [IntKind.wrap_i64]; omega
  have hz3 : decide ((c : Int) < (n : Int) + 1) = true := decide_eq_true (by omega)
  have hz3' : decide ((n : Int) + 1 > (c : Int)) = true := decide_eq_true (by omega)
  have htn : ((i : Int) + 1).toNat = i + 1 := by omega
  have hb1 : (0 : Int) ≤ (i : Int) + 1 := by omega
  have hb2 : (i : Int) + 1 ≤ (n : Int) + 1 := by omega
  have hb3 : (i : Int) ≤ (n : Int) + 1 := by omega
  have hb5 : (i : Int) ≤ (n : Int) := by omega
  have hm1 : Nat.min (n - i) (n - i) = n - i := by simp only [Nat.min_def]; split <;> omega
  have hm2 : Nat.min 1 (n + 1 - i) = 1 := by simp only [Nat.min_def]; split <;> omega
  have hbw : g < w.heap.size := zL hg.out
  have hvw : vb < w.heap.size := zL hb.out
  have hkk : (n : Int) + 1 - (i : Int) = ((n + 1 - i : Nat) : Int) := by omega
  have hik : i + (n + 1 - i) = n + 1 := by omega
  have hold : (Builtin.firstCells i0.size i (.slice (some ⟨g, 0, none⟩) i c)).run Tryz.prog w.drew = .ok X1.toArray w.drew := by
    rw [hzs]
    exact run_firstCells_some w.drew 3 i ⟨g, 0, none⟩ i c X1 hX1 (fun j v hj => by
      rw [Addr.add_lit]
      exact cells_of_blk (w := w.drew) hg.out _ _ (by simpa using hsrc1.out j v hj))
  obtain ⟨G, hG⟩ : ∃ G, G = grownCap w (n + 1) c 84 := ⟨_, rfl⟩
  obtain ⟨ROW, hROW⟩ : ∃ ROW : Array Value, ROW = X1.toArray ++ Builtin.zeroCells (Value.agg #[.int .i64 0, .int .i64 0, .int .i64 0]).cells (n + 1 - i) ++ Builtin.zeroCells (Value.agg #[.int .i64 0, .int .i64 0, .int .i64 0]).cells (G - (n + 1)) := ⟨_, rfl⟩
  obtain ⟨W1, hW1⟩ : ∃ W1, W1 = w.drew.alloc (.cells ROW 84) := ⟨_, rfl⟩
  have hrz : ∀ ty, (Builtin.append_ #[23, 3] ty #[.slice (some ⟨g, 0, none⟩) i c, .int .i64 ((n : Int) + 1 - (i : Int))]).run Tryz.prog w =
      .ok (.slice (some ⟨w.heap.size, 0, none⟩) (n + 1) G) W1 := fun ty => by
    have h := Lib.run_append_grow_zeros w 23 3 ty 84 i0 (.agg #[.int .i64 0, .int .i64 0, .int .i64 0]) .i64 .i64 t24 t3 hi0 hz0 (some ⟨g, 0, none⟩) i c X1 hold (n + 1 - i) (by omega) (by omega) (by omega) (by omega) (by rw [hzb]; omega) (by rw [hzb, hik]; exact growslice_fits (by omega) (by omega))
    rw [hik, ← hG, ← hROW, ← hW1] at h
    rw [hkk]
    exact h
  have hGn : n + 1 ≤ G := by rw [hG]; exact grownCap_ge w _ _ _
  have hGm : G ≤ maxLen := by rw [hG]; exact grownCap_le_maxLen w (n + 1) c 84 (by unfold maxLen; omega)
  have hG63 : G ≤ 9223372036854775807 := by unfold maxLen at hGm; omega
  have hRl : ROW.size = G * 3 := by
    rw [hROW, Array.size_append, Array.size_append, size_zeroCells, size_zeroCells, List.size_toArray, hX1]
    simp [Value.cells]
    omega
  have hR1 : ROW.toList.take (i * 3) = X1 := by
    rw [hROW]
    simp only [Array.toList_append, List.append_assoc]
    exact List.take_left' hX1
  have hGi : ¬ (G = i) := by omega
  have hGim : ¬ (G = i + 1) := by omega
  have hci : ¬ (c = i) := by omega
  have hN : Hid (W1.heap[w.heap.size]? = some (.cells ROW 84 (0, 0))) := by rw [hW1]; exact heap_alloc_new w.drew _
  have hO : Hid (∀ k, k < w.heap.size → W1.heap[k]? = w.heap[k]?) := (show ∀ _ _, _ from fun k hk => by rw [hW1]; exact Below.heap_alloc w.drew _ k hk)
  have hgr1 : Hid (w.grownBy W1 (some g)) := by rw [hW1]; exact ⟨rfl, rfl, rfl, by simp, fun k hk _ => Below.heap_alloc w.drew _ k hk⟩
  obtain ⟨A1, hA1⟩ : ∃ A1, A1 = splice ROW.toList (i * 3) Y := ⟨_, rfl⟩
  have hA1l : A1.length = G * 3 := by rw [hA1, length_splice _ _ _ (by simp; omega)]; simpa using hRl
  obtain ⟨W2, hW2⟩ : ∃ W2, W2 = W1.setRow w.heap.size A1.toArray := ⟨_, rfl⟩
  have hcpA : ∀ ty dc, (Builtin.copy_ #[23, 23] ty #[.slice (some ⟨w.heap.size, i * 3, none⟩) (n + 1 - i) dc, .slice (some ⟨vb, 0, none⟩) 1 1]).run Tryz.prog W1 = .ok (goInt (1 : Nat)) W2 := fun ty dc => by
    rw [run_copy_k W1 23 23 ty 84 3 w.heap.size (i * 3) (n + 1 - i) dc ⟨vb, 0, none⟩ 1 1 ROW 84 Y t24 hsz hN.out (by rw [hm2, hY]) (fun j v hj => by rw [Addr.add_lit]; exact cells_of_blk (w := W1) ((hO.out vb hvw).trans hb.out) _ _ (by simpa using hj)) (by omega) h1y.out, hm2, hW2, hA1]
    simp [splice]
  have hN2 : Hid (W2.heap[w.heap.size]? = some (.cells A1.toArray 84 (0, 0))) := by rw [hW2]; exact setRow_heap W1 _ _ _ 84 _ hN.out
  have hg2 : Hid (W2.heap[g]? = some (.cells cur.toArray 84 (0, 0))) := by rw [hW2]; exact (setRow_other W1 _ g _ (by omega)).trans ((hO.out g hbw).trans hg.out)
  obtain ⟨A2, hA2⟩ : ∃ A2, A2 = splice A1 ((i + 1) * 3) X2 := ⟨_, rfl⟩
  obtain ⟨W3, hW3⟩ : ∃ W3, W3 = W2.drew.setRow w.heap.size A2.toArray := ⟨_, rfl⟩
  have hcpB : ∀ ty dc sc, (Builtin.copy_ #[23, 23] ty #[.slice (some ⟨w.heap.size, (i + 1) * 3, none⟩) (n - i) dc, .slice (some ⟨g, i * 3, none⟩) (n - i) sc]).run Tryz.prog W2.drew = .ok (goInt (n - i : Nat)) W3 := fun ty dc sc => by
    rw [run_copy_k W2.drew 23 23 ty 84 3 w.heap.size ((i + 1) * 3) (n - i) dc ⟨g, i * 3, none⟩ (n - i) sc A1.toArray 84 X2 t24 hsz hN2.out (by rw [hm1, hX2]) (fun j v hj => by rw [Addr.add_lit]; exact cells_of_blk (w := W2.drew) hg2.out _ _ (by simpa using hsrc.out j v hj)) (by simp; omega) h1.out, hm1, hW3, hA2]
    simp [splice]
  have fin : Hid (W3.ownsRow B 84 3 (.slice (some ⟨w.heap.size, 0, none⟩) (n + 1) G) (n + 1) (X1 ++ (Y ++ X2)) ∧ w.grownBy W3 (some g)) := by
    refine ⟨⟨?_, .inr ⟨w.heap.size, G, A2.toArray, rfl, hBw, ?_, hGn, hGm, ?_, ?_⟩⟩, ?_⟩
    · simp only [List.length_append]; omega
    · rw [hW3]; exact setRow_heap W2.drew _ _ _ 84 _ hN2.out
    · rw [hA2]; simp only [List.size_toArray]; rw [length_splice _ _ _ (by omega), hA1l]
    · rw [hA2, hA1]
      simp only []
      rw [splice, splice, hY, hR1]
      have e1 : (X1 ++ (Y ++ ROW.toList.drop (i * 3 + 1 * 3))).take ((i + 1) * 3) = X1 ++ Y := by
        rw [← List.append_assoc]; exact List.take_left' (by simp; omega)
      rw [e1, List.append_assoc, ← List.append_assoc Y, ← List.append_assoc X1]
      exact List.take_left' (by simp; omega)
    · rw [hW3, hW2]
      exact ⟨hgr1.out.os, hgr1.out.tape, hgr1.out.output, Nat.le_trans hgr1.out.size (by simp [World.setRow]), fun k hk hne => (setRow_other _ _ k _ (by omega)).trans ((setRow_other W1 _ k _ (by omega)).trans (hO.out k hk))⟩
  clear hg hb hsrc hsrc1 hN hO hgr1 hN2 hg2 h1 h1y hX2 hX1 hY hA1l hA1 hW1 hsz hA2 hW2 hW3 hR1 hRl hROW hG hold hkk hik hvw
  go_enter Tryz.func195, Tryz.ntmps195
  go_wp2_with (first
    | (at_builtin; refine Lib.wpList_append_run _ rfl _ _ _ _ rfl _ _ rfl rfl _ _ (hrz _) ?_)
    | (at_builtin; refine wpList_copy_runI _ rfl _ _ 23 23 rfl _ _ rfl rfl (hcpA _ _) ?_))
  go_region_law_o (refine step_copy_runI rfl _ _ 23 23 rfl _ _ (by simp [Act.eval, Act.put]) (by simp [Act.eval, Act.put]) (hcpB _ _ _) ?_)
  go_wp2
  go_ret
  exact ⟨_, rfl, fin.out⟩
theorem InsertStake_any (B : Nat) (v : Value) (l : List (List Int)) (x : List Int) (i vb : Nat) (w : World) (hv : Hid (RowOwn w B 84 v 3 l)) (hB : B ≤ w.heap.size) (hl : l.length ≤ 1000000) (hi : i ≤ l.length) (hx : x.length = 3) (hb : Hid (w.heap[vb]? = some (.cells (x.map (Value.int .i64)).toArray 84 (0, 0)))) (hne : v.ownBlock ≠ some vb) :
    Calls Tryz.prog 195 #[v, .int .i64 i, .slice (some ⟨vb, 0, none⟩) 1 1] w fun e w' => ∃ v', e = .returned v' ∧ RowOwn w' B 84 v' 3 (l.take i ++ x :: l.drop i) ∧ w.grownBy w' v.ownBlock := by
  by_cases hin : i = l.length
  · subst hin
    rw [List.take_length, List.drop_length]
    exact InsertStake_end B v l x vb w hv hB hl hx hb
  · obtain ⟨ho, hk⟩ := hv.out
    rcases ho.2 with ⟨_, h0⟩ | ⟨g, cap, cur, rfl, hBg, hg, hnc, hcm, hcs, ht⟩
    · omega
    · have hkt : ∀ r ∈ l.take i, r.length = 3 := fun r hr => hk r (List.mem_of_mem_take hr)
      have hkd : ∀ r ∈ l.drop i, r.length = 3 := fun r hr => hk r (List.mem_of_mem_drop hr)
      have hX1 : (flatC (l.take i)).length = i * 3 := by rw [flatC_len hkt, List.length_take, Nat.min_eq_left (by omega)]
      have hX2 : (flatC (l.drop i)).length = (l.length - i) * 3 := by rw [flatC_len hkd, List.length_drop]
      have hX : flatC (l.take i) ++ flatC (l.drop i) = flatC l := by rw [← flatC_append, List.take_append_drop]
      have hcur : cur.toList.length = cap * 3 := by simpa using hcs
      have hle : l.length * 3 ≤ cap * 3 := Nat.mul_le_mul_right _ hnc
      have hcg : ∀ (j : Nat) (u : Value), (flatC l)[j]? = some u → cur.toList[j]? = some u := fun j u hj => by
        rw [← ht, List.getElem?_take] at hj
        split at hj
        · exact hj
        · cases hj
      have hY : (x.map (Value.int .i64)).length = 1 * 3 := by rw [List.length_map, hx]
      have hY1 : ∀ u ∈ x.map (Value.int .i64), u.oneCell' = true := fun u hu => by obtain ⟨y, _, rfl⟩ := List.mem_map.1 hu; rfl
      have hs2 : ∀ (j : Nat) (u : Value), (flatC (l.drop i))[j]? = some u → cur.toList[i * 3 + j]? = some u := fun j u hj => hcg _ _ (by
        rw [← hX, List.getElem?_append_right (by omega), hX1, Nat.add_sub_cancel_left]; exact hj)
      have hlen : (l.take i ++ x :: l.drop i).length = l.length + 1 := by simp; omega
      have hflat : flatC (l.take i ++ x :: l.drop i) = flatC (l.take i) ++ (x.map (Value.int .i64) ++ flatC (l.drop i)) := by
        rw [flatC_append]; simp [flatC]
      have hrows : ∀ r ∈ l.take i ++ x :: l.drop i, r.length = 3 := fun r hr => by
        rcases List.mem_append.1 hr with hr | hr
        · exact hkt r hr
        · rcases List.mem_cons.1 hr with rfl | hr
          · exact hx
          · exact hkd r hr
      have hg' : Hid (w.heap[g]? = some (.cells cur.toList.toArray 84 (0, 0))) := (show _ = _ from by simpa using hg)
      have hvb : vb ≠ g := fun h => hne (by simp [Value.ownBlock, h])
      by_cases hroom : l.length + 1 ≤ cap
      · refine (InsertStake_shift (flatC (l.take i)) (flatC (l.drop i)) (x.map (Value.int .i64)) l.length i cap g vb cur.toList w (by omega) hroom (by unfold maxLen at hcm; omega) hvb hX2 hg' hcur hs2 hb hY (flatC_one _) hY1).mono ?_
        rintro e w' ⟨rfl, h1, h2⟩
        refine ⟨_, rfl, ⟨⟨?_, .inr ⟨g, cap, _, ?_, hBg, h1, ?_, hcm, ?_, ?_⟩⟩, hrows⟩, h2⟩
        · rw [flatC_len hrows]
        · rw [hlen]
        · omega
        · rw [List.size_toArray, length_splice, length_splice, hcur]
          · omega
          · rw [length_splice _ _ _ (by omega)]; omega
        · have hp := ins_in_place cur.toList (flatC (l.take i)) (flatC (l.drop i)) (x.map (Value.int .i64)) 3 l.length (by omega) (by rw [hX, ← ht]; congr 1; omega) (by omega)
          rw [hX1] at hp
          rw [hflat, ← hp]
          simp only []
          rw [show (l.take i ++ x :: l.drop i).length * 3 = i * 3 + (3 + (flatC (l.drop i)).length) by omega, show (i + 1) * 3 = i * 3 + 3 by omega]
      · refine (InsertStake_grow B (flatC (l.take i)) (flatC (l.drop i)) (x.map (Value.int .i64)) l.length i cap g vb cur.toList w hB (by omega) hl hnc (by omega) hX1 hX2 hg' ?_ hs2 hb hY (flatC_one _) hY1).mono ?_
        · intro j u hj
          exact hcg j u (by rw [← hX, List.getElem?_append_left (List.getElem?_eq_some_iff.1 hj).1]; exact hj)
        · rintro e w' ⟨v', rfl, h1, h2⟩
          exact ⟨v', rfl, ⟨by rw [hlen, hflat]; exact h1, hrows⟩, h2⟩
set_option maxRecDepth 100000 in
set_option maxHeartbeats 2000000 in
theorem InsertOpen_end (B : Nat) (v : Value) (l : List (List Int)) (x : List Int) (vb : Nat) (w : World) (hv : Hid (RowOwn w B 86 v 6 l)) (hB : B ≤ w.heap.size) (hl : l.length ≤ 1000000) (hx : x.length = 6) (hb : Hid (w.heap[vb]? = some (.cells (x.map (Value.int .i64)).toArray 86 (0, 0)))) :
    Calls Tryz.prog 192 #[v, .int .i64 l.length, .slice (some ⟨vb, 0, none⟩) 1 1] w fun e w' => ∃ v', e = .returned v' ∧ RowOwn w' B 86 v' 6 (l ++ [x]) ∧ w.grownBy w' v.ownBlock := by
  obtain ⟨A, c, rfl⟩ := hv.out.form
  obtain ⟨i0, hi, hz0, hz1, hz2⟩ := el_Open.info
  have ho : Hid (w.ownsRow B 86 6 (.slice A l.length c) l.length (flatC l)) := hv.out.1
  have hk := zH hv.out.2
  have hcap : l.length ≤ c := by
    rcases hv.out.1.2 with ⟨h, h0⟩ | ⟨g, cap, cur, h, _, _, hn, _⟩
    · rw [h0]; omega
    · cases h; exact hn
  have hA : Hid (A = none → l.length = 0) := (show _ → _ from fun h => by
    subst h
    rcases hv.out.1.2 with ⟨h, h0⟩ | ⟨g, cap, cur, h, _⟩
    · exact h0
    · cases h)
  have hc63 : c ≤ 9223372036854775807 := by
    rcases hv.out.1.2 with ⟨h, h0⟩ | ⟨g, cap, cur, h, _, _, hn, hm, _⟩
    · injection h with _ _ h3; omega
    · injection h with _ _ h3; unfold maxLen at hm; omega
  clear hv
  obtain ⟨X, hX⟩ : ∃ X, X = flatC l := ⟨_, rfl⟩
  obtain ⟨n, hn⟩ : ∃ n, l.length = n := ⟨_, rfl⟩
  rw [← hX] at ho
  rw [hn] at ho hl hcap hA ⊢
  replace hX := zH hX
  replace hn := zH hn
  obtain ⟨Y, hY⟩ : ∃ Y, Y = x.map (Value.int .i64) := ⟨_, rfl⟩
  have hYl : Hid (Y.length = 1 * 6) := by show _ = _; rw [hY, List.length_map, hx]
  have hY1 : Hid (∀ u ∈ Y, u.oneCell' = true) := (show ∀ _ _, _ from fun u hu => by
    rw [hY] at hu; obtain ⟨y, _, rfl⟩ := List.mem_map.1 hu; rfl)
  have hYc : Hid (∀ j u, Y[j]? = some u → w.cell? ((⟨vb, 0, none⟩ : Addr).add j) = some u) := (show ∀ _ _ _, _ from fun j u hj => by
    have := cells_of_blk hb.out j u (by rw [← hY]; simpa using hj)
    rw [Addr.add_lit, Nat.zero_add]; exact this)
  replace hY := zH hY
  replace hx := zH hx
  clear hb
  have hz : ((n : Int) == (n : Int)) = true := by simp
  have fin : ∀ v' w1, w1.ownsRow B 86 6 v' (n + 1) (X ++ Y) → w.grownBy w1 (Value.slice A n c).ownBlock → ∃ v'', (Ending.returned v') = .returned v'' ∧ RowOwn w1 B 86 v'' 6 (l ++ [x]) ∧ w.grownBy w1 (Value.slice A n c).ownBlock := by
    intro v' w1 h1 h2
    refine ⟨v', rfl, ⟨?_, ?_⟩, h2⟩
    · rw [List.length_append, hn.out, flatC_append, show flatC [x] = Y by rw [hY.out]; simp [flatC], ← hX.out]
      exact h1
    · intro r hr
      rcases List.mem_append.1 hr with hr | hr
      · exact hk.out r hr
      · simp at hr; rw [hr]; exact hx.out
  replace fin := zH fin
  cases A with
  | none =>
    obtain rfl := hA.out rfl
    go_enter Tryz.func192, Tryz.ntmps192
    go_wp2_with (at_builtin; refine wpList_append_own _ rfl _ _ 24 rfl B 86 i0 (.agg #[.int .i64 0, .int .i64 0, .int .i64 0, .int .i64 0, .int .i64 0, .int .i64 0]) 6 48 Tryz.underlying24 hi hz0 hz1 hz2 rfl (by decide) _ _ X rfl ho.out ⟨vb, 0, none⟩ 1 1 Y rfl hYl.out hYc.out hY1.out (by unfold maxLen; omega) (by omega) hB ?_)
    intro v' w1 hown hgrow hnil
    go_wp2
    go_ret
    exact fin.out v' w1 hown hgrow
  | some a =>
    obtain ⟨g, og, sp⟩ := a
    go_enter Tryz.func192, Tryz.ntmps192
    go_wp2_with (at_builtin; refine wpList_append_own _ rfl _ _ 24 rfl B 86 i0 (.agg #[.int .i64 0, .int .i64 0, .int .i64 0, .int .i64 0, .int .i64 0, .int .i64 0]) 6 48 Tryz.underlying24 hi hz0 hz1 hz2 rfl (by decide) _ _ X rfl ho.out ⟨vb, 0, none⟩ 1 1 Y rfl hYl.out hYc.out hY1.out (by unfold maxLen; omega) (by omega) hB ?_)
    all_goals
      intro v' w1 hown hgrow hnil
      go_wp2
      go_ret
      exact fin.out v' w1 hown hgrow
set_option maxRecDepth 100000 in
set_option maxHeartbeats 4000000 in
theorem InsertOpen_shift (X1 X2 Y : List Value) (n i c g vb : Nat) (cur : List Value) (w : World) (hi : i < n) (hroom : n + 1 ≤ c) (hc63 : c ≤ 9223372036854775807) (hvb : vb ≠ g) (hX2 : X2.length = (n - i) * 6) (hg : Hid (w.heap[g]? = some (.cells cur.toArray 86 (0, 0)))) (hcur : cur.length = c * 6)
    (hsrc : Hid (∀ (j : Nat) (v : Value), X2[j]? = some v → cur[i * 6 + j]? = some v)) (hb : Hid (w.heap[vb]? = some (.cells Y.toArray 86 (0, 0)))) (hY : Y.length = 1 * 6) (h1 : Hid (∀ v ∈ X2, v.oneCell' = true)) (h1y : Hid (∀ v ∈ Y, v.oneCell' = true)) :
    Calls Tryz.prog 192 #[.slice (some ⟨g, 0, none⟩) n c, .int .i64 i, .slice (some ⟨vb, 0, none⟩) 1 1] w fun e w' => e = .returned (.slice (some ⟨g, 0, none⟩) (n + 1) c) ∧ w'.heap[g]? = some (.cells (splice (splice cur ((i + 1) * 6) X2) (i * 6) Y).toArray 86 (0, 0)) ∧ w.grownBy w' (some g) := by
  have hsz : (Tryz.prog.info? 86).map (·.size) = some 6 := by kernel_rfl
  have t24 := Tryz.underlying24
  have mixed : Tryz.prog.follows .mixedOrders = true := by kernel_rfl
  have hz2 : ((i : Int) == (n : Int)) = false := by simp; omega
  have hw0 : IntKind.i64.wrap ((n : Int) + 1) = (n : Int) + 1 := by rw [IntKind.wrap_i64]; omega
  have hw1 : IntKind.i64.wrap ((i : Int) + 1) = (i : Int) + 1 := by rw [IntKind.wrap_i64]; omega
  have hz3 : decide ((c : Int) < (n : Int) + 1) = false := decide_eq_false (by omega)
  have hz3' : decide ((n : Int) + 1 > (c : Int)) = false := decide_eq_false (by omega)
  have htn : ((i : Int) + 1).toNat = i + 1 := by omega
  have htn2 : ((n : Int) + 1).toNat = n + 1 := by omega
  have hb1 : (0 : Int) ≤ (i : Int) + 1 := by omega
  have hb2 : (i : Int) + 1 ≤ (n : Int) + 1 := by omega
  have hb3 : (i : Int) ≤ (n : Int) + 1 := by omega
  have hb4 : ¬ (c = i) := by omega
  have hb5 : ¬ (c = i + 1) := by omega
  have hm1 : Nat.min (n + 1 - i) (n - i) = n - i := by simp only [Nat.min_def]; split <;> omega
  have hm2 : Nat.min 1 (n + 1 - i) = 1 := by simp only [Nat.min_def]; split <;> omega
  have hov : ∀ lb cb, (callFunc 209 #[.slice (some ⟨vb, 0, none⟩) 1 1, .slice (some ⟨g, (i + 1) * 6, none⟩) lb cb]).run Tryz.prog w = .ok (.value (.bool false)) w := fun lb cb => by
    rw [run_callFunc_extern Tryz.func209 (by kernel_rfl) (by kernel_rfl) (by kernel_rfl) (e := Extern.SlicesOverlaps.overlaps #[24, 24] #[4]) (by kernel_rfl),
      Lib.run_overlaps_apart w 24 4 86 t24 6 Tryz.sizeOf86 ⟨vb, 0, none⟩ ⟨g, (i + 1) * 6, none⟩ 1 1 lb cb hvb 86 86 Y.length cur.length (by simp [World.shape?, hb.out]) (by simp [World.shape?, hg.out]) (by omega) (by simp [World.frozen?, hb.out]) (by simp [World.frozen?, hb.out])]
    rfl
  have hcp1 : ∀ ty dc sc, (Builtin.copy_ #[24, 24] ty #[.slice (some ⟨g, (i + 1) * 6, none⟩) (n - i) dc, .slice (some ⟨g, i * 6, none⟩) (n + 1 - i) sc]).run Tryz.prog w.drew = .ok (goInt (n - i : Nat)) (w.drew.setRow g (splice cur ((i + 1) * 6) X2).toArray) := fun ty dc sc => by
    rw [run_copy_k w.drew 24 24 ty 86 6 g ((i + 1) * 6) (n - i) dc ⟨g, i * 6, none⟩ (n + 1 - i) sc cur.toArray 86 X2 t24 hsz hg.out (by rw [hm1, hX2]) (fun j v hj => by rw [Addr.add_lit]; exact cells_of_blk (w := w.drew) hg.out _ _ (by simpa using hsrc.out j v hj)) (by simp; omega) h1.out, hm1]
    simp [splice]
  obtain ⟨A1, hA1⟩ : ∃ A1, A1 = splice cur ((i + 1) * 6) X2 := ⟨_, rfl⟩
  have hA1l : A1.length = c * 6 := by rw [hA1, length_splice _ _ _ (by omega), hcur]
  obtain ⟨W1, hW1⟩ : ∃ W1, W1 = w.drew.setRow g A1.toArray := ⟨_, rfl⟩
  rw [← hA1, ← hW1] at hcp1
  have hg1 : Hid (W1.heap[g]? = some (.cells A1.toArray 86 (0, 0))) := by rw [hW1]; exact setRow_heap w.drew g _ _ 86 _ hg.out
  have hb1' : Hid (W1.heap[vb]? = some (.cells Y.toArray 86 (0, 0))) := by rw [hW1]; exact (setRow_other w.drew g vb _ hvb).trans hb.out
  have hgr1 : Hid (w.grownBy W1 (some g)) := by rw [hW1]; exact ⟨rfl, rfl, rfl, by simp [World.setRow], fun k hk hne => setRow_other w.drew g k _ (fun e => hne (by simp [e]))⟩
  have hcp2 : ∀ ty dc, (Builtin.copy_ #[24, 24] ty #[.slice (some ⟨g, i * 6, none⟩) (n + 1 - i) dc, .slice (some ⟨vb, 0, none⟩) 1 1]).run Tryz.prog W1 = .ok (goInt (1 : Nat)) (W1.setRow g (splice A1 (i * 6) Y).toArray) := fun ty dc => by
    rw [run_copy_k W1 24 24 ty 86 6 g (i * 6) (n + 1 - i) dc ⟨vb, 0, none⟩ 1 1 A1.toArray 86 Y t24 hsz hg1.out (by rw [hm2, hY]) (fun j v hj => by rw [Addr.add_lit]; exact cells_of_blk hb1'.out _ _ (by simpa using hj)) (by simp; omega) h1y.out, hm2]
    simp [splice]
  have fin : Hid ((W1.setRow g (splice A1 (i * 6) Y).toArray).heap[g]? = some (.cells (splice A1 (i * 6) Y).toArray 86 (0, 0)) ∧ w.grownBy (W1.setRow g (splice A1 (i * 6) Y).toArray) (some g)) :=
    ⟨setRow_heap W1 g _ _ 86 _ hg1.out, grown_trans hgr1.out ⟨rfl, rfl, rfl, by simp [World.setRow], fun k hk hne => setRow_other W1 g k _ (fun e => hne (by simp [e]))⟩⟩
  rw [← hA1]
  clear hg hb hsrc hg1 hb1' hgr1 h1 h1y hX2 hY hcur hA1l hA1 hW1 hsz
  obtain ⟨A2, hA2⟩ : ∃ A2, A2 = splice A1 (i * 6) Y := ⟨_, rfl⟩
  rw [← hA2] at hcp2 fin ⊢
  clear hA2
  go_enter Tryz.func192, Tryz.ntmps192
  go_wp2_with (simp only [hov])
  go_region_law_o (refine step_copy_runI rfl _ _ 24 24 rfl _ _ (by simp [Act.eval, Act.put]) (by simp [Act.eval, Act.put]) (hcp1 _ _ _) ?_)
  go_wp2_with (at_builtin; refine wpList_copy_runI _ rfl _ _ 24 24 rfl _ _ rfl rfl (hcp2 _ _) ?_)
  go_ret
  exact ⟨rfl, fin.out⟩
set_option maxRecDepth 100000 in
set_option maxHeartbeats 4000000 in
theorem InsertOpen_grow (B : Nat) (X1 X2 Y : List Value) (n i c g vb : Nat) (cur : List Value) (w : World) (hBw : B ≤ w.heap.size) (hi : i < n) (hn : n ≤ 1000000) (hnc : n ≤ c) (hroom : c < n + 1) (hX1 : X1.length = i * 6) (hX2 : X2.length = (n - i) * 6) (hg : Hid (w.heap[g]? = some (.cells cur.toArray 86 (0, 0))))
    (hsrc1 : Hid (∀ (j : Nat) (v : Value), X1[j]? = some v → cur[j]? = some v)) (hsrc : Hid (∀ (j : Nat) (v : Value), X2[j]? = some v → cur[i * 6 + j]? = some v)) (hb : Hid (w.heap[vb]? = some (.cells Y.toArray 86 (0, 0)))) (hY : Y.length = 1 * 6) (h1 : Hid (∀ v ∈ X2, v.oneCell' = true)) (h1y : Hid (∀ v ∈ Y, v.oneCell' = true)) :
    Calls Tryz.prog 192 #[.slice (some ⟨g, 0, none⟩) n c, .int .i64 i, .slice (some ⟨vb, 0, none⟩) 1 1] w fun e w' => ∃ v', e = .returned v' ∧ w'.ownsRow B 86 6 v' (n + 1) (X1 ++ (Y ++ X2)) ∧ w.grownBy w' (some g) := by
  have hsz : (Tryz.prog.info? 86).map (·.size) = some 6 := by kernel_rfl
  have t24 := Tryz.underlying24
  have t3 := Tryz.underlying3
  have mixed : Tryz.prog.follows .mixedOrders = true := by kernel_rfl
  obtain ⟨i0, hi0, hz0, hzs, hzb⟩ := el_Open.info
  have hz2 : ((i : Int) == (n : Int)) = false := by simp; omega
  have hw0 : IntKind.i64.wrap ((n : Int) + 1) = (n : Int) + 1 := by rw [IntKind.wrap_i64]; omega
  have hw1 : IntKind.i64.wrap ((i : Int) + 1) = (i : Int) + 1 := by rw [IntKind.wrap_i64]; omega
  have hw2 : IntKind.i64.wrap ((n : Int) + 1 - (i : Int)) = (n : Int) + 1 - (i : Int) := by rw [IntKind.wrap_i64]; omega
  have hz3 : decide ((c : Int) < (n : Int) + 1) = true := decide_eq_true (by omega)
  have hz3' : decide ((n : Int) + 1 > (c : Int)) = true := decide_eq_true (by omega)
  have htn : ((i : Int) + 1).toNat = i + 1 := by omega
  have hb1 : (0 : Int) ≤ (i : Int) + 1 := by omega
  have hb2 : (i : Int) + 1 ≤ (n : Int) + 1 := by omega
  have hb3 : (i : Int) ≤ (n : Int) + 1 := by omega
  have hb5 : (i : Int) ≤ (n : Int) := by omega
  have hm1 : Nat.min (n - i) (n - i) = n - i := by simp only [Nat.min_def]; split <;> omega
  have hm2 : Nat.min 1 (n + 1 - i) = 1 := by simp only [Nat.min_def]; split <;> omega
  have hbw : g < w.heap.size := zL hg.out
  have hvw : vb < w.heap.size := zL hb.out
  have hkk : (n : Int) + 1 - (i : Int) = ((n + 1 - i : Nat) : Int) := by omega
  have hik : i + (n + 1 - i) = n + 1 := by omega
  have hold : (Builtin.firstCells i0.size i (.slice (some ⟨g, 0, none⟩) i c)).run Tryz.prog w.drew = .ok X1.toArray w.drew := by
    rw [hzs]
    exact run_firstCells_some w.drew 6 i ⟨g, 0, none⟩ i c X1 hX1 (fun j v hj => by
      rw [Addr.add_lit]
      exact cells_of_blk (w := w.drew) hg.out _ _ (by simpa using hsrc1.out j v hj))
  obtain ⟨G, hG⟩ : ∃ G, G = grownCap w (n + 1) c 86 := ⟨_, rfl⟩
  obtain ⟨ROW, hROW⟩ : ∃ ROW : Array Value, ROW = X1.toArray ++ Builtin.zeroCells (Value.agg #[.int .i64 0, .int .i64 0, .int .i64 0, .int .i64 0, .int .i64 0, .int .i64 0]).cells (n + 1 - i) ++ Builtin.zeroCells (Value.agg #[.int .i64 0, .int .i64 0, .int .i64 0, .int .i64 0, .int .i64 0, .int .i64 0]).cells (G - (n + 1)) := ⟨_, rfl⟩
  obtain ⟨W1, hW1⟩ : ∃ W1, W1 = w.drew.alloc (.cells ROW 86) := ⟨_, rfl⟩
  have hrz : ∀ ty, (Builtin.append_ #[24, 3] ty #[.slice (some ⟨g, 0, none⟩) i c, .int .i64 ((n : Int) + 1 - (i : Int))]).run Tryz.prog w =
      .ok (.slice (some ⟨w.heap.size, 0, none⟩) (n + 1) G) W1 := fun ty => by
    have h := Lib.run_append_grow_zeros w 24 3 ty 86 i0 (.agg #[.int .i64 0, .int .i64 0, .int .i64 0, .int .i64 0, .int .i64 0, .int .i64 0]) .i64 .i64 t24 t3 hi0 hz0 (some ⟨g, 0, none⟩) i c X1 hold (n + 1 - i) (by omega) (by omega) (by omega) (by omega) (by rw [hzb]; omega) (by rw [hzb, hik]; exact growslice_fits (by omega) (by omega))
    rw [hik, ← hG, ← hROW, ← hW1] at h
    rw [hkk]
    exact h
  have hGn : n + 1 ≤ G := by rw [hG]; exact grownCap_ge w _ _ _
  have hGm : G ≤ maxLen := by rw [hG]; exact grownCap_le_maxLen w (n + 1) c 86 (by unfold maxLen; omega)
  have hG63 : G ≤ 9223372036854775807 := by unfold maxLen at hGm; omega
  have hRl : ROW.size = G * 6 := by
    rw [hROW, Array.size_append, Array.size_append, size_zeroCells, size_zeroCells, List.size_toArray, hX1]
    simp [Value.cells]
    omega
  have hR1 : ROW.toList.take (i * 6) = X1 := by
    rw [hROW]
    simp only [Array.toList_append, List.append_assoc]
    exact List.take_left' hX1
  have hGi : ¬ (G = i) := by omega
  have hGim : ¬ (G = i + 1) := by omega
  have hci : ¬ (c = i) := by omega
  have hN : Hid (W1.heap[w.heap.size]? = some (.cells ROW 86 (0, 0))) := by rw [hW1]; exact heap_alloc_new w.drew _
  have hO : Hid (∀ k, k < w.heap.size → W1.heap[k]? = w.heap[k]?) := (show ∀ _ _, _ from fun k hk => by rw [hW1]; exact Below.heap_alloc w.drew _ k hk)
  have hgr1 : Hid (w.grownBy W1 (some g)) := by rw [hW1]; exact ⟨rfl, rfl, rfl, by simp, fun k hk _ => Below.heap_alloc w.drew _ k hk⟩
  obtain ⟨A1, hA1⟩ : ∃ A1, A1 = splice ROW.toList (i * 6) Y := ⟨_, rfl⟩
  have hA1l : A1.length = G * 6 := by rw [hA1, length_splice _ _ _ (by simp; omega)]; simpa using hRl
  obtain ⟨W2, hW2⟩ : ∃ W2, W2 = W1.setRow w.heap.size A1.toArray := ⟨_, rfl⟩
  have hcpA : ∀ ty dc, (Builtin.copy_ #[24, 24] ty #[.slice (some ⟨w.heap.size, i * 6, none⟩) (n + 1 - i) dc, .slice (some ⟨vb, 0, none⟩) 1 1]).run Tryz.prog W1 = .ok (goInt (1 : Nat)) W2 := fun ty dc => by
    rw [run_copy_k W1 24 24 ty 86 6 w.heap.size (i * 6) (n + 1 - i) dc ⟨vb, 0, none⟩ 1 1 ROW 86 Y t24 hsz hN.out (by rw [hm2, hY]) (fun j v hj => by rw [Addr.add_lit]; exact cells_of_blk (w := W1) ((hO.out vb hvw).trans hb.out) _ _ (by simpa using hj)) (by omega) h1y.out, hm2, hW2, hA1]
    simp [splice]
  have hN2 : Hid (W2.heap[w.heap.size]? = some (.cells A1.toArray 86 (0, 0))) := by rw [hW2]; exact setRow_heap W1 _ _ _ 86 _ hN.out
  have hg2 : Hid (W2.heap[g]? = some (.cells cur.toArray 86 (0, 0))) := by rw [hW2]; exact (setRow_other W1 _ g _ (by omega)).trans ((hO.out g hbw).trans hg.out)
  obtain ⟨A2, hA2⟩ : ∃ A2, A2 = splice A1 ((i + 1) * 6) X2 := ⟨_, rfl⟩
  obtain ⟨W3, hW3⟩ : ∃ W3, W3 = W2.drew.setRow w.heap.size A2.toArray := ⟨_, rfl⟩
  have hcpB : ∀ ty dc sc, (Builtin.copy_ #[24, 24] ty #[.slice (some ⟨w.heap.size, (i + 1) * 6, none⟩) (n - i) dc, .slice (some ⟨g, i * 6, none⟩) (n - i) sc]).run Tryz.prog W2.drew = .ok (goInt (n - i : Nat)) W3 := fun ty dc sc => by
    rw [run_copy_k W2.drew 24 24 ty 86 6 w.heap.size ((i + 1) * 6) (n - i) dc ⟨g, i * 6, none⟩ (n - i) sc A1.toArray 86 X2 t24 hsz hN2.out (by rw [hm1, hX2]) (fun j v hj => by rw [Addr.add_lit]; exact cells_of_blk (w := W2.drew) hg2.out _ _ (by simpa using hsrc.out j v hj)) (by simp; omega) h1.out, hm1, hW3, hA2]
    simp [splice]
  have fin : Hid (W3.ownsRow B 86 6 (.slice (some ⟨w.heap.size, 0, none⟩) (n + 1) G) (n + 1) (X1 ++ (Y ++ X2)) ∧ w.grownBy W3 (some g)) := by
    refine ⟨⟨?_, .inr ⟨w.heap.size, G, A2.toArray, rfl, hBw, ?_, hGn, hGm, ?_, ?_⟩⟩, ?_⟩
    · simp only [List.length_append]; omega
    · rw [hW3]; exact setRow_heap W2.drew _ _ _ 86 _ hN2.out
    · rw [hA2]; simp only [List.size_toArray]; rw [length_splice _ _ _ (by omega), hA1l]
    · rw [hA2, hA1]
      simp only []
      rw [splice, splice, hY, hR1]
      have e1 : (X1 ++ (Y ++ ROW.toList.drop (i * 6 + 1 * 6))).take ((i + 1) * 6) = X1 ++ Y := by
        rw [← List.append_assoc]; exact List.take_left' (by simp; omega)
      rw [e1, List.append_assoc, ← List.append_assoc Y, ← List.append_assoc X1]
      exact List.take_left' (by simp; omega)
    · rw [hW3, hW2]
      exact ⟨hgr1.out.os, hgr1.out.tape, hgr1.out.output, Nat.le_trans hgr1.out.size (by simp [World.setRow]), fun k hk hne => (setRow_other _ _ k _ (by omega)).trans ((setRow_other W1 _ k _ (by omega)).trans (hO.out k hk))⟩
  clear hg hb hsrc hsrc1 hN hO hgr1 hN2 hg2 h1 h1y hX2 hX1 hY hA1l hA1 hW1 hsz hA2 hW2 hW3 hR1 hRl hROW hG hold hkk hik hvw
  go_enter Tryz.func192, Tryz.ntmps192
  go_wp2_with (first
    | (at_builtin; refine Lib.wpList_append_run _ rfl _ _ _ _ rfl _ _ rfl rfl _ _ (hrz _) ?_)
    | (at_builtin; refine wpList_copy_runI _ rfl _ _ 24 24 rfl _ _ rfl rfl (hcpA _ _) ?_))
  go_region_law_o (refine step_copy_runI rfl _ _ 24 24 rfl _ _ (by simp [Act.eval, Act.put]) (by simp [Act.eval, Act.put]) (hcpB _ _ _) ?_)
  go_wp2
  go_ret
  exact ⟨_, rfl, fin.out⟩
theorem InsertOpen_any (B : Nat) (v : Value) (l : List (List Int)) (x : List Int) (i vb : Nat) (w : World) (hv : Hid (RowOwn w B 86 v 6 l)) (hB : B ≤ w.heap.size) (hl : l.length ≤ 1000000) (hi : i ≤ l.length) (hx : x.length = 6) (hb : Hid (w.heap[vb]? = some (.cells (x.map (Value.int .i64)).toArray 86 (0, 0)))) (hne : v.ownBlock ≠ some vb) :
    Calls Tryz.prog 192 #[v, .int .i64 i, .slice (some ⟨vb, 0, none⟩) 1 1] w fun e w' => ∃ v', e = .returned v' ∧ RowOwn w' B 86 v' 6 (l.take i ++ x :: l.drop i) ∧ w.grownBy w' v.ownBlock := by
  by_cases hin : i = l.length
  · subst hin
    rw [List.take_length, List.drop_length]
    exact InsertOpen_end B v l x vb w hv hB hl hx hb
  · obtain ⟨ho, hk⟩ := hv.out
    rcases ho.2 with ⟨_, h0⟩ | ⟨g, cap, cur, rfl, hBg, hg, hnc, hcm, hcs, ht⟩
    · omega
    · have hkt : ∀ r ∈ l.take i, r.length = 6 := fun r hr => hk r (List.mem_of_mem_take hr)
      have hkd : ∀ r ∈ l.drop i, r.length = 6 := fun r hr => hk r (List.mem_of_mem_drop hr)
      have hX1 : (flatC (l.take i)).length = i * 6 := by rw [flatC_len hkt, List.length_take, Nat.min_eq_left (by omega)]
      have hX2 : (flatC (l.drop i)).length = (l.length - i) * 6 := by rw [flatC_len hkd, List.length_drop]
      have hX : flatC (l.take i) ++ flatC (l.drop i) = flatC l := by rw [← flatC_append, List.take_append_drop]
      have hcur : cur.toList.length = cap * 6 := by simpa using hcs
      have hle : l.length * 6 ≤ cap * 6 := Nat.mul_le_mul_right _ hnc
      have hcg : ∀ (j : Nat) (u : Value), (flatC l)[j]? = some u → cur.toList[j]? = some u := fun j u hj => by
        rw [← ht, List.getElem?_take] at hj
        split at hj
        · exact hj
        · cases hj
      have hY : (x.map (Value.int .i64)).length = 1 * 6 := by rw [List.length_map, hx]
      have hY1 : ∀ u ∈ x.map (Value.int .i64), u.oneCell' = true := fun u hu => by obtain ⟨y, _, rfl⟩ := List.mem_map.1 hu; rfl
      have hs2 : ∀ (j : Nat) (u : Value), (flatC (l.drop i))[j]? = some u → cur.toList[i * 6 + j]? = some u := fun j u hj => hcg _ _ (by
        rw [← hX, List.getElem?_append_right (by omega), hX1, Nat.add_sub_cancel_left]; exact hj)
      have hlen : (l.take i ++ x :: l.drop i).length = l.length + 1 := by simp; omega
      have hflat : flatC (l.take i ++ x :: l.drop i) = flatC (l.take i) ++ (x.map (Value.int .i64) ++ flatC (l.drop i)) := by
        rw [flatC_append]; simp [flatC]
      have hrows : ∀ r ∈ l.take i ++ x :: l.drop i, r.length = 6 := fun r hr => by
        rcases List.mem_append.1 hr with hr | hr
        · exact hkt r hr
        · rcases List.mem_cons.1 hr with rfl | hr
          · exact hx
          · exact hkd r hr
      have hg' : Hid (w.heap[g]? = some (.cells cur.toList.toArray 86 (0, 0))) := (show _ = _ from by simpa using hg)
      have hvb : vb ≠ g := fun h => hne (by simp [Value.ownBlock, h])
      by_cases hroom : l.length + 1 ≤ cap
      · refine (InsertOpen_shift (flatC (l.take i)) (flatC (l.drop i)) (x.map (Value.int .i64)) l.length i cap g vb cur.toList w (by omega) hroom (by unfold maxLen at hcm; omega) hvb hX2 hg' hcur hs2 hb hY (flatC_one _) hY1).mono ?_
        rintro e w' ⟨rfl, h1, h2⟩
        refine ⟨_, rfl, ⟨⟨?_, .inr ⟨g, cap, _, ?_, hBg, h1, ?_, hcm, ?_, ?_⟩⟩, hrows⟩, h2⟩
        · rw [flatC_len hrows]
        · rw [hlen]
        · omega
        · rw [List.size_toArray, length_splice, length_splice, hcur]
          · omega
          · rw [length_splice _ _ _ (by omega)]; omega
        · have hp := ins_in_place cur.toList (flatC (l.take i)) (flatC (l.drop i)) (x.map (Value.int .i64)) 6 l.length (by omega) (by rw [hX, ← ht]; congr 1; omega) (by omega)
          rw [hX1] at hp
          rw [hflat, ← hp]
          simp only []
          rw [show (l.take i ++ x :: l.drop i).length * 6 = i * 6 + (6 + (flatC (l.drop i)).length) by omega, show (i + 1) * 6 = i * 6 + 6 by omega]
      · refine (InsertOpen_grow B (flatC (l.take i)) (flatC (l.drop i)) (x.map (Value.int .i64)) l.length i cap g vb cur.toList w hB (by omega) hl hnc (by omega) hX1 hX2 hg' ?_ hs2 hb hY (flatC_one _) hY1).mono ?_
        · intro j u hj
          exact hcg j u (by rw [← hX, List.getElem?_append_left (List.getElem?_eq_some_iff.1 hj).1]; exact hj)
        · rintro e w' ⟨v', rfl, h1, h2⟩
          exact ⟨v', rfl, ⟨by rw [hlen, hflat]; exact h1, hrows⟩, h2⟩
set_option maxRecDepth 100000 in
set_option maxHeartbeats 2000000 in
theorem InsertRate_end (B : Nat) (v : Value) (l : List (List Int)) (x : List Int) (vb : Nat) (w : World) (hv : Hid (RowOwn w B 88 v 2 l)) (hB : B ≤ w.heap.size) (hl : l.length ≤ 1000000) (hx : x.length = 2) (hb : Hid (w.heap[vb]? = some (.cells (x.map (Value.int .i64)).toArray 88 (0, 0)))) :
    Calls Tryz.prog 179 #[v, .int .i64 l.length, .slice (some ⟨vb, 0, none⟩) 1 1] w fun e w' => ∃ v', e = .returned v' ∧ RowOwn w' B 88 v' 2 (l ++ [x]) ∧ w.grownBy w' v.ownBlock := by
  obtain ⟨A, c, rfl⟩ := hv.out.form
  obtain ⟨i0, hi, hz0, hz1, hz2⟩ := el_Rate.info
  have ho : Hid (w.ownsRow B 88 2 (.slice A l.length c) l.length (flatC l)) := hv.out.1
  have hk := zH hv.out.2
  have hcap : l.length ≤ c := by
    rcases hv.out.1.2 with ⟨h, h0⟩ | ⟨g, cap, cur, h, _, _, hn, _⟩
    · rw [h0]; omega
    · cases h; exact hn
  have hA : Hid (A = none → l.length = 0) := (show _ → _ from fun h => by
    subst h
    rcases hv.out.1.2 with ⟨h, h0⟩ | ⟨g, cap, cur, h, _⟩
    · exact h0
    · cases h)
  have hc63 : c ≤ 9223372036854775807 := by
    rcases hv.out.1.2 with ⟨h, h0⟩ | ⟨g, cap, cur, h, _, _, hn, hm, _⟩
    · injection h with _ _ h3; omega
    · injection h with _ _ h3; unfold maxLen at hm; omega
  clear hv
  obtain ⟨X, hX⟩ : ∃ X, X = flatC l := ⟨_, rfl⟩
  obtain ⟨n, hn⟩ : ∃ n, l.length = n := ⟨_, rfl⟩
  rw [← hX] at ho
  rw [hn] at ho hl hcap hA ⊢
  replace hX := zH hX
  replace hn := zH hn
  obtain ⟨Y, hY⟩ : ∃ Y, Y = x.map (Value.int .i64) := ⟨_, rfl⟩
  have hYl : Hid (Y.length = 1 * 2) := by show _ = _; rw [hY, List.length_map, hx]
  have hY1 : Hid (∀ u ∈ Y, u.oneCell' = true) := (show ∀ _ _, _ from fun u hu => by
    rw [hY] at hu; obtain ⟨y, _, rfl⟩ := List.mem_map.1 hu; rfl)
  have hYc : Hid (∀ j u, Y[j]? = some u → w.cell? ((⟨vb, 0, none⟩ : Addr).add j) = some u) := (show ∀ _ _ _, _ from fun j u hj => by
    have := cells_of_blk hb.out j u (by rw [← hY]; simpa using hj)
    rw [Addr.add_lit, Nat.zero_add]; exact this)
  replace hY := zH hY
  replace hx := zH hx
  clear hb
  have hz : ((n : Int) == (n : Int)) = true := by simp
  have fin : ∀ v' w1, w1.ownsRow B 88 2 v' (n + 1) (X ++ Y) → w.grownBy w1 (Value.slice A n c).ownBlock → ∃ v'', (Ending.returned v') = .returned v'' ∧ RowOwn w1 B 88 v'' 2 (l ++ [x]) ∧ w.grownBy w1 (Value.slice A n c).ownBlock := by
    intro v' w1 h1 h2
    refine ⟨v', rfl, ⟨?_, ?_⟩, h2⟩
    · rw [List.length_append, hn.out, flatC_append, show flatC [x] = Y by rw [hY.out]; simp [flatC], ← hX.out]
      exact h1
    · intro r hr
      rcases List.mem_append.1 hr with hr | hr
      · exact hk.out r hr
      · simp at hr; rw [hr]; exact hx.out
  replace fin := zH fin
  cases A with
  | none =>
    obtain rfl := hA.out rfl
    go_enter Tryz.func179, Tryz.ntmps179
    go_wp2_with (at_builtin; refine wpList_append_own _ rfl _ _ 25 rfl B 88 i0 (.agg #[.int .i64 0, .int .i64 0]) 2 16 Tryz.underlying25 hi hz0 hz1 hz2 rfl (by decide) _ _ X rfl ho.out ⟨vb, 0, none⟩ 1 1 Y rfl hYl.out hYc.out hY1.out (by unfold maxLen; omega) (by omega) hB ?_)
    intro v' w1 hown hgrow hnil
    go_wp2
    go_ret
    exact fin.out v' w1 hown hgrow
  | some a =>
    obtain ⟨g, og, sp⟩ := a
    go_enter Tryz.func179, Tryz.ntmps179
    go_wp2_with (at_builtin; refine wpList_append_own _ rfl _ _ 25 rfl B 88 i0 (.agg #[.int .i64 0, .int .i64 0]) 2 16 Tryz.underlying25 hi hz0 hz1 hz2 rfl (by decide) _ _ X rfl ho.out ⟨vb, 0, none⟩ 1 1 Y rfl hYl.out hYc.out hY1.out (by unfold maxLen; omega) (by omega) hB ?_)
    all_goals
      intro v' w1 hown hgrow hnil
      go_wp2
      go_ret
      exact fin.out v' w1 hown hgrow
set_option maxRecDepth 100000 in
set_option maxHeartbeats 4000000 in
theorem InsertRate_shift (X1 X2 Y : List Value) (n i c g vb : Nat) (cur : List Value) (w : World) (hi : i < n) (hroom : n + 1 ≤ c) (hc63 : c ≤ 9223372036854775807) (hvb : vb ≠ g) (hX2 : X2.length = (n - i) * 2) (hg : Hid (w.heap[g]? = some (.cells cur.toArray 88 (0, 0)))) (hcur : cur.length = c * 2)
    (hsrc : Hid (∀ (j : Nat) (v : Value), X2[j]? = some v → cur[i * 2 + j]? = some v)) (hb : Hid (w.heap[vb]? = some (.cells Y.toArray 88 (0, 0)))) (hY : Y.length = 1 * 2) (h1 : Hid (∀ v ∈ X2, v.oneCell' = true)) (h1y : Hid (∀ v ∈ Y, v.oneCell' = true)) :
    Calls Tryz.prog 179 #[.slice (some ⟨g, 0, none⟩) n c, .int .i64 i, .slice (some ⟨vb, 0, none⟩) 1 1] w fun e w' => e = .returned (.slice (some ⟨g, 0, none⟩) (n + 1) c) ∧ w'.heap[g]? = some (.cells (splice (splice cur ((i + 1) * 2) X2) (i * 2) Y).toArray 88 (0, 0)) ∧ w.grownBy w' (some g) := by
  have hsz : (Tryz.prog.info? 88).map (·.size) = some 2 := by kernel_rfl
  have t24 := Tryz.underlying25
  have mixed : Tryz.prog.follows .mixedOrders = true := by kernel_rfl
  have hz2 : ((i : Int) == (n : Int)) = false := by simp; omega
  have hw0 : IntKind.i64.wrap ((n : Int) + 1) = (n : Int) + 1 := by rw [IntKind.wrap_i64]; omega
  have hw1 : IntKind.i64.wrap ((i : Int) + 1) = (i : Int) + 1 := by rw [IntKind.wrap_i64]; omega
  have hz3 : decide ((c : Int) < (n : Int) + 1) = false := decide_eq_false (by omega)
  have hz3' : decide ((n : Int) + 1 > (c : Int)) = false := decide_eq_false (by omega)
  have htn : ((i : Int) + 1).toNat = i + 1 := by omega
  have htn2 : ((n : Int) + 1).toNat = n + 1 := by omega
  have hb1 : (0 : Int) ≤ (i : Int) + 1 := by omega
  have hb2 : (i : Int) + 1 ≤ (n : Int) + 1 := by omega
  have hb3 : (i : Int) ≤ (n : Int) + 1 := by omega
  have hb4 : ¬ (c = i) := by omega
  have hb5 : ¬ (c = i + 1) := by omega
  have hm1 : Nat.min (n + 1 - i) (n - i) = n - i := by simp only [Nat.min_def]; split <;> omega
  have hm2 : Nat.min 1 (n + 1 - i) = 1 := by simp only [Nat.min_def]; split <;> omega
  have hov : ∀ lb cb, (callFunc 206 #[.slice (some ⟨vb, 0, none⟩) 1 1, .slice (some ⟨g, (i + 1) * 2, none⟩) lb cb]).run Tryz.prog w = .ok (.value (.bool false)) w := fun lb cb => by
    rw [run_callFunc_extern Tryz.func206 (by kernel_rfl) (by kernel_rfl) (by kernel_rfl) (e := Extern.SlicesOverlaps.overlaps #[25, 25] #[4]) (by kernel_rfl),
      Lib.run_overlaps_apart w 25 4 88 t24 2 Tryz.sizeOf88 ⟨vb, 0, none⟩ ⟨g, (i + 1) * 2, none⟩ 1 1 lb cb hvb 88 88 Y.length cur.length (by simp [World.shape?, hb.out]) (by simp [World.shape?, hg.out]) (by omega) (by simp [World.frozen?, hb.out]) (by simp [World.frozen?, hb.out])]
    rfl
  have hcp1 : ∀ ty dc sc, (Builtin.copy_ #[25, 25] ty #[.slice (some ⟨g, (i + 1) * 2, none⟩) (n - i) dc, .slice (some ⟨g, i * 2, none⟩) (n + 1 - i) sc]).run Tryz.prog w.drew = .ok (goInt (n - i : Nat)) (w.drew.setRow g (splice cur ((i + 1) * 2) X2).toArray) := fun ty dc sc => by
    rw [run_copy_k w.drew 25 25 ty 88 2 g ((i + 1) * 2) (n - i) dc ⟨g, i * 2, none⟩ (n + 1 - i) sc cur.toArray 88 X2 t24 hsz hg.out (by rw [hm1, hX2]) (fun j v hj => by rw [Addr.add_lit]; exact cells_of_blk (w := w.drew) hg.out _ _ (by simpa using hsrc.out j v hj)) (by simp; omega) h1.out, hm1]
    simp [splice]
  obtain ⟨A1, hA1⟩ : ∃ A1, A1 = splice cur ((i + 1) * 2) X2 := ⟨_, rfl⟩
  have hA1l : A1.length = c * 2 := by rw [hA1, length_splice _ _ _ (by omega), hcur]
  obtain ⟨W1, hW1⟩ : ∃ W1, W1 = w.drew.setRow g A1.toArray := ⟨_, rfl⟩
  rw [← hA1, ← hW1] at hcp1
  have hg1 : Hid (W1.heap[g]? = some (.cells A1.toArray 88 (0, 0))) := by rw [hW1]; exact setRow_heap w.drew g _ _ 88 _ hg.out
  have hb1' : Hid (W1.heap[vb]? = some (.cells Y.toArray 88 (0, 0))) := by rw [hW1]; exact (setRow_other w.drew g vb _ hvb).trans hb.out
  have hgr1 : Hid (w.grownBy W1 (some g)) := by rw [hW1]; exact ⟨rfl, rfl, rfl, by simp [World.setRow], fun k hk hne => setRow_other w.drew g k _ (fun e => hne (by simp [e]))⟩
  have hcp2 : ∀ ty dc, (Builtin.copy_ #[25, 25] ty #[.slice (some ⟨g, i * 2, none⟩) (n + 1 - i) dc, .slice (some ⟨vb, 0, none⟩) 1 1]).run Tryz.prog W1 = .ok (goInt (1 : Nat)) (W1.setRow g (splice A1 (i * 2) Y).toArray) := fun ty dc => by
    rw [run_copy_k W1 25 25 ty 88 2 g (i * 2) (n + 1 - i) dc ⟨vb, 0, none⟩ 1 1 A1.toArray 88 Y t24 hsz hg1.out (by rw [hm2, hY]) (fun j v hj => by rw [Addr.add_lit]; exact cells_of_blk hb1'.out _ _ (by simpa using hj)) (by simp; omega) h1y.out, hm2]
    simp [splice]
  have fin : Hid ((W1.setRow g (splice A1 (i * 2) Y).toArray).heap[g]? = some (.cells (splice A1 (i * 2) Y).toArray 88 (0, 0)) ∧ w.grownBy (W1.setRow g (splice A1 (i * 2) Y).toArray) (some g)) :=
    ⟨setRow_heap W1 g _ _ 88 _ hg1.out, grown_trans hgr1.out ⟨rfl, rfl, rfl, by simp [World.setRow], fun k hk hne => setRow_other W1 g k _ (fun e => hne (by simp [e]))⟩⟩
  rw [← hA1]
  clear hg hb hsrc hg1 hb1' hgr1 h1 h1y hX2 hY hcur hA1l hA1 hW1 hsz
  obtain ⟨A2, hA2⟩ : ∃ A2, A2 = splice A1 (i * 2) Y := ⟨_, rfl⟩
  rw [← hA2] at hcp2 fin ⊢
  clear hA2
  go_enter Tryz.func179, Tryz.ntmps179
  go_wp2_with (simp only [hov])
  go_region_law_o (refine step_copy_runI rfl _ _ 25 25 rfl _ _ (by simp [Act.eval, Act.put]) (by simp [Act.eval, Act.put]) (hcp1 _ _ _) ?_)
  go_wp2_with (at_builtin; refine wpList_copy_runI _ rfl _ _ 25 25 rfl _ _ rfl rfl (hcp2 _ _) ?_)
  go_ret
  exact ⟨rfl, fin.out⟩
set_option maxRecDepth 100000 in
set_option maxHeartbeats 4000000 in
theorem InsertRate_grow (B : Nat) (X1 X2 Y : List Value) (n i c g vb : Nat) (cur : List Value) (w : World) (hBw : B ≤ w.heap.size) (hi : i < n) (hn : n ≤ 1000000) (hnc : n ≤ c) (hroom : c < n + 1) (hX1 : X1.length = i * 2) (hX2 : X2.length = (n - i) * 2) (hg : Hid (w.heap[g]? = some (.cells cur.toArray 88 (0, 0))))
    (hsrc1 : Hid (∀ (j : Nat) (v : Value), X1[j]? = some v → cur[j]? = some v)) (hsrc : Hid (∀ (j : Nat) (v : Value), X2[j]? = some v → cur[i * 2 + j]? = some v)) (hb : Hid (w.heap[vb]? = some (.cells Y.toArray 88 (0, 0)))) (hY : Y.length = 1 * 2) (h1 : Hid (∀ v ∈ X2, v.oneCell' = true)) (h1y : Hid (∀ v ∈ Y, v.oneCell' = true)) :
    Calls Tryz.prog 179 #[.slice (some ⟨g, 0, none⟩) n c, .int .i64 i, .slice (some ⟨vb, 0, none⟩) 1 1] w fun e w' => ∃ v', e = .returned v' ∧ w'.ownsRow B 88 2 v' (n + 1) (X1 ++ (Y ++ X2)) ∧ w.grownBy w' (some g) := by
  have hsz : (Tryz.prog.info? 88).map (·.size) = some 2 := by kernel_rfl
  have t24 := Tryz.underlying25
  have t3 := Tryz.underlying3
  have mixed : Tryz.prog.follows .mixedOrders = true := by kernel_rfl
  obtain ⟨i0, hi0, hz0, hzs, hzb⟩ := el_Rate.info
  have hz2 : ((i : Int) == (n : Int)) = false := by simp; omega
  have hw0 : IntKind.i64.wrap ((n : Int) + 1) = (n : Int) + 1 := by rw [IntKind.wrap_i64]; omega
  have hw1 : IntKind.i64.wrap ((i : Int) + 1) = (i : Int) + 1 := by rw [IntKind.wrap_i64]; omega
  have hw2 : IntKind.i64.wrap ((n : Int) + 1 - (i : Int)) = (n : Int) + 1 - (i : Int) := by rw [IntKind.wrap_i64]; omega
  have hz3 : decide ((c : Int) < (n : Int) + 1) = true := decide_eq_true (by omega)
  have hz3' : decide ((n : Int) + 1 > (c : Int)) = true := decide_eq_true (by omega)
  have htn : ((i : Int) + 1).toNat = i + 1 := by omega
  have hb1 : (0 : Int) ≤ (i : Int) + 1 := by omega
  have hb2 : (i : Int) + 1 ≤ (n : Int) + 1 := by omega
  have hb3 : (i : Int) ≤ (n : Int) + 1 := by omega
  have hb5 : (i : Int) ≤ (n : Int) := by omega
  have hm1 : Nat.min (n - i) (n - i) = n - i := by simp only [Nat.min_def]; split <;> omega
  have hm2 : Nat.min 1 (n + 1 - i) = 1 := by simp only [Nat.min_def]; split <;> omega
  have hbw : g < w.heap.size := zL hg.out
  have hvw : vb < w.heap.size := zL hb.out
  have hkk : (n : Int) + 1 - (i : Int) = ((n + 1 - i : Nat) : Int) := by omega
  have hik : i + (n + 1 - i) = n + 1 := by omega
  have hold : (Builtin.firstCells i0.size i (.slice (some ⟨g, 0, none⟩) i c)).run Tryz.prog w.drew = .ok X1.toArray w.drew := by
    rw [hzs]
    exact run_firstCells_some w.drew 2 i ⟨g, 0, none⟩ i c X1 hX1 (fun j v hj => by
      rw [Addr.add_lit]
      exact cells_of_blk (w := w.drew) hg.out _ _ (by simpa using hsrc1.out j v hj))
  obtain ⟨G, hG⟩ : ∃ G, G = grownCap w (n + 1) c 88 := ⟨_, rfl⟩
  obtain ⟨ROW, hROW⟩ : ∃ ROW : Array Value, ROW = X1.toArray ++ Builtin.zeroCells (Value.agg #[.int .i64 0, .int .i64 0]).cells (n + 1 - i) ++ Builtin.zeroCells (Value.agg #[.int .i64 0, .int .i64 0]).cells (G - (n + 1)) := ⟨_, rfl⟩
  obtain ⟨W1, hW1⟩ : ∃ W1, W1 = w.drew.alloc (.cells ROW 88) := ⟨_, rfl⟩
  have hrz : ∀ ty, (Builtin.append_ #[25, 3] ty #[.slice (some ⟨g, 0, none⟩) i c, .int .i64 ((n : Int) + 1 - (i : Int))]).run Tryz.prog w =
      .ok (.slice (some ⟨w.heap.size, 0, none⟩) (n + 1) G) W1 := fun ty => by
    have h := Lib.run_append_grow_zeros w 25 3 ty 88 i0 (.agg #[.int .i64 0, .int .i64 0]) .i64 .i64 t24 t3 hi0 hz0 (some ⟨g, 0, none⟩) i c X1 hold (n + 1 - i) (by omega) (by omega) (by omega) (by omega) (by rw [hzb]; omega) (by rw [hzb, hik]; exact growslice_fits (by omega) (by omega))
    rw [hik, ← hG, ← hROW, ← hW1] at h
    rw [hkk]
    exact h
  have hGn : n + 1 ≤ G := by rw [hG]; exact grownCap_ge w _ _ _
  have hGm : G ≤ maxLen := by rw [hG]; exact grownCap_le_maxLen w (n + 1) c 88 (by unfold maxLen; omega)
  have hG63 : G ≤ 9223372036854775807 := by unfold maxLen at hGm; omega
  have hRl : ROW.size = G * 2 := by
    rw [hROW, Array.size_append, Array.size_append, size_zeroCells, size_zeroCells, List.size_toArray, hX1]
    simp [Value.cells]
    omega
  have hR1 : ROW.toList.take (i * 2) = X1 := by
    rw [hROW]
    simp only [Array.toList_append, List.append_assoc]
    exact List.take_left' hX1
  have hGi : ¬ (G = i) := by omega
  have hGim : ¬ (G = i + 1) := by omega
  have hci : ¬ (c = i) := by omega
  have hN : Hid (W1.heap[w.heap.size]? = some (.cells ROW 88 (0, 0))) := by rw [hW1]; exact heap_alloc_new w.drew _
  have hO : Hid (∀ k, k < w.heap.size → W1.heap[k]? = w.heap[k]?) := (show ∀ _ _, _ from fun k hk => by rw [hW1]; exact Below.heap_alloc w.drew _ k hk)
  have hgr1 : Hid (w.grownBy W1 (some g)) := by rw [hW1]; exact ⟨rfl, rfl, rfl, by simp, fun k hk _ => Below.heap_alloc w.drew _ k hk⟩
  obtain ⟨A1, hA1⟩ : ∃ A1, A1 = splice ROW.toList (i * 2) Y := ⟨_, rfl⟩
  have hA1l : A1.length = G * 2 := by rw [hA1, length_splice _ _ _ (by simp; omega)]; simpa using hRl
  obtain ⟨W2, hW2⟩ : ∃ W2, W2 = W1.setRow w.heap.size A1.toArray := ⟨_, rfl⟩
  have hcpA : ∀ ty dc, (Builtin.copy_ #[25, 25] ty #[.slice (some ⟨w.heap.size, i * 2, none⟩) (n + 1 - i) dc, .slice (some ⟨vb, 0, none⟩) 1 1]).run Tryz.prog W1 = .ok (goInt (1 : Nat)) W2 := fun ty dc => by
    rw [run_copy_k W1 25 25 ty 88 2 w.heap.size (i * 2) (n + 1 - i) dc ⟨vb, 0, none⟩ 1 1 ROW 88 Y t24 hsz hN.out (by rw [hm2, hY]) (fun j v hj => by rw [Addr.add_lit]; exact cells_of_blk (w := W1) ((hO.out vb hvw).trans hb.out) _ _ (by simpa using hj)) (by omega) h1y.out, hm2, hW2, hA1]
    simp [splice]
  have hN2 : Hid (W2.heap[w.heap.size]? = some (.cells A1.toArray 88 (0, 0))) := by rw [hW2]; exact setRow_heap W1 _ _ _ 88 _ hN.out
  have hg2 : Hid (W2.heap[g]? = some (.cells cur.toArray 88 (0, 0))) := by rw [hW2]; exact (setRow_other W1 _ g _ (by omega)).trans ((hO.out g hbw).trans hg.out)
  obtain ⟨A2, hA2⟩ : ∃ A2, A2 = splice A1 ((i + 1) * 2) X2 := ⟨_, rfl⟩
  obtain ⟨W3, hW3⟩ : ∃ W3, W3 = W2.drew.setRow w.heap.size A2.toArray := ⟨_, rfl⟩
  have hcpB : ∀ ty dc sc, (Builtin.copy_ #[25, 25] ty #[.slice (some ⟨w.heap.size, (i + 1) * 2, none⟩) (n - i) dc, .slice (some ⟨g, i * 2, none⟩) (n - i) sc]).run Tryz.prog W2.drew = .ok (goInt (n - i : Nat)) W3 := fun ty dc sc => by
    rw [run_copy_k W2.drew 25 25 ty 88 2 w.heap.size ((i + 1) * 2) (n - i) dc ⟨g, i * 2, none⟩ (n - i) sc A1.toArray 88 X2 t24 hsz hN2.out (by rw [hm1, hX2]) (fun j v hj => by rw [Addr.add_lit]; exact cells_of_blk (w := W2.drew) hg2.out _ _ (by simpa using hsrc.out j v hj)) (by simp; omega) h1.out, hm1, hW3, hA2]
    simp [splice]
  have fin : Hid (W3.ownsRow B 88 2 (.slice (some ⟨w.heap.size, 0, none⟩) (n + 1) G) (n + 1) (X1 ++ (Y ++ X2)) ∧ w.grownBy W3 (some g)) := by
    refine ⟨⟨?_, .inr ⟨w.heap.size, G, A2.toArray, rfl, hBw, ?_, hGn, hGm, ?_, ?_⟩⟩, ?_⟩
    · simp only [List.length_append]; omega
    · rw [hW3]; exact setRow_heap W2.drew _ _ _ 88 _ hN2.out
    · rw [hA2]; simp only [List.size_toArray]; rw [length_splice _ _ _ (by omega), hA1l]
    · rw [hA2, hA1]
      simp only []
      rw [splice, splice, hY, hR1]
      have e1 : (X1 ++ (Y ++ ROW.toList.drop (i * 2 + 1 * 2))).take ((i + 1) * 2) = X1 ++ Y := by
        rw [← List.append_assoc]; exact List.take_left' (by simp; omega)
      rw [e1, List.append_assoc, ← List.append_assoc Y, ← List.append_assoc X1]
      exact List.take_left' (by simp; omega)
    · rw [hW3, hW2]
      exact ⟨hgr1.out.os, hgr1.out.tape, hgr1.out.output, Nat.le_trans hgr1.out.size (by simp [World.setRow]), fun k hk hne => (setRow_other _ _ k _ (by omega)).trans ((setRow_other W1 _ k _ (by omega)).trans (hO.out k hk))⟩
  clear hg hb hsrc hsrc1 hN hO hgr1 hN2 hg2 h1 h1y hX2 hX1 hY hA1l hA1 hW1 hsz hA2 hW2 hW3 hR1 hRl hROW hG hold hkk hik hvw
  go_enter Tryz.func179, Tryz.ntmps179
  go_wp2_with (first
    | (at_builtin; refine Lib.wpList_append_run _ rfl _ _ _ _ rfl _ _ rfl rfl _ _ (hrz _) ?_)
    | (at_builtin; refine wpList_copy_runI _ rfl _ _ 25 25 rfl _ _ rfl rfl (hcpA _ _) ?_))
  go_region_law_o (refine step_copy_runI rfl _ _ 25 25 rfl _ _ (by simp [Act.eval, Act.put]) (by simp [Act.eval, Act.put]) (hcpB _ _ _) ?_)
  go_wp2
  go_ret
  exact ⟨_, rfl, fin.out⟩
theorem InsertRate_any (B : Nat) (v : Value) (l : List (List Int)) (x : List Int) (i vb : Nat) (w : World) (hv : Hid (RowOwn w B 88 v 2 l)) (hB : B ≤ w.heap.size) (hl : l.length ≤ 1000000) (hi : i ≤ l.length) (hx : x.length = 2) (hb : Hid (w.heap[vb]? = some (.cells (x.map (Value.int .i64)).toArray 88 (0, 0)))) (hne : v.ownBlock ≠ some vb) :
    Calls Tryz.prog 179 #[v, .int .i64 i, .slice (some ⟨vb, 0, none⟩) 1 1] w fun e w' => ∃ v', e = .returned v' ∧ RowOwn w' B 88 v' 2 (l.take i ++ x :: l.drop i) ∧ w.grownBy w' v.ownBlock := by
  by_cases hin : i = l.length
  · subst hin
    rw [List.take_length, List.drop_length]
    exact InsertRate_end B v l x vb w hv hB hl hx hb
  · obtain ⟨ho, hk⟩ := hv.out
    rcases ho.2 with ⟨_, h0⟩ | ⟨g, cap, cur, rfl, hBg, hg, hnc, hcm, hcs, ht⟩
    · omega
    · have hkt : ∀ r ∈ l.take i, r.length = 2 := fun r hr => hk r (List.mem_of_mem_take hr)
      have hkd : ∀ r ∈ l.drop i, r.length = 2 := fun r hr => hk r (List.mem_of_mem_drop hr)
      have hX1 : (flatC (l.take i)).length = i * 2 := by rw [flatC_len hkt, List.length_take, Nat.min_eq_left (by omega)]
      have hX2 : (flatC (l.drop i)).length = (l.length - i) * 2 := by rw [flatC_len hkd, List.length_drop]
      have hX : flatC (l.take i) ++ flatC (l.drop i) = flatC l := by rw [← flatC_append, List.take_append_drop]
      have hcur : cur.toList.length = cap * 2 := by simpa using hcs
      have hle : l.length * 2 ≤ cap * 2 := Nat.mul_le_mul_right _ hnc
      have hcg : ∀ (j : Nat) (u : Value), (flatC l)[j]? = some u → cur.toList[j]? = some u := fun j u hj => by
        rw [← ht, List.getElem?_take] at hj
        split at hj
        · exact hj
        · cases hj
      have hY : (x.map (Value.int .i64)).length = 1 * 2 := by rw [List.length_map, hx]
      have hY1 : ∀ u ∈ x.map (Value.int .i64), u.oneCell' = true := fun u hu => by obtain ⟨y, _, rfl⟩ := List.mem_map.1 hu; rfl
      have hs2 : ∀ (j : Nat) (u : Value), (flatC (l.drop i))[j]? = some u → cur.toList[i * 2 + j]? = some u := fun j u hj => hcg _ _ (by
        rw [← hX, List.getElem?_append_right (by omega), hX1, Nat.add_sub_cancel_left]; exact hj)
      have hlen : (l.take i ++ x :: l.drop i).length = l.length + 1 := by simp; omega
      have hflat : flatC (l.take i ++ x :: l.drop i) = flatC (l.take i) ++ (x.map (Value.int .i64) ++ flatC (l.drop i)) := by
        rw [flatC_append]; simp [flatC]
      have hrows : ∀ r ∈ l.take i ++ x :: l.drop i, r.length = 2 := fun r hr => by
        rcases List.mem_append.1 hr with hr | hr
        · exact hkt r hr
        · rcases List.mem_cons.1 hr with rfl | hr
          · exact hx
          · exact hkd r hr
      have hg' : Hid (w.heap[g]? = some (.cells cur.toList.toArray 88 (0, 0))) := (show _ = _ from by simpa using hg)
      have hvb : vb ≠ g := fun h => hne (by simp [Value.ownBlock, h])
      by_cases hroom : l.length + 1 ≤ cap
      · refine (InsertRate_shift (flatC (l.take i)) (flatC (l.drop i)) (x.map (Value.int .i64)) l.length i cap g vb cur.toList w (by omega) hroom (by unfold maxLen at hcm; omega) hvb hX2 hg' hcur hs2 hb hY (flatC_one _) hY1).mono ?_
        rintro e w' ⟨rfl, h1, h2⟩
        refine ⟨_, rfl, ⟨⟨?_, .inr ⟨g, cap, _, ?_, hBg, h1, ?_, hcm, ?_, ?_⟩⟩, hrows⟩, h2⟩
        · rw [flatC_len hrows]
        · rw [hlen]
        · omega
        · rw [List.size_toArray, length_splice, length_splice, hcur]
          · omega
          · rw [length_splice _ _ _ (by omega)]; omega
        · have hp := ins_in_place cur.toList (flatC (l.take i)) (flatC (l.drop i)) (x.map (Value.int .i64)) 2 l.length (by omega) (by rw [hX, ← ht]; congr 1; omega) (by omega)
          rw [hX1] at hp
          rw [hflat, ← hp]
          simp only []
          rw [show (l.take i ++ x :: l.drop i).length * 2 = i * 2 + (2 + (flatC (l.drop i)).length) by omega, show (i + 1) * 2 = i * 2 + 2 by omega]
      · refine (InsertRate_grow B (flatC (l.take i)) (flatC (l.drop i)) (x.map (Value.int .i64)) l.length i cap g vb cur.toList w hB (by omega) hl hnc (by omega) hX1 hX2 hg' ?_ hs2 hb hY (flatC_one _) hY1).mono ?_
        · intro j u hj
          exact hcg j u (by rw [← hX, List.getElem?_append_left (List.getElem?_eq_some_iff.1 hj).1]; exact hj)
        · rintro e w' ⟨v', rfl, h1, h2⟩
          exact ⟨v', rfl, ⟨by rw [hlen, hflat]; exact h1, hrows⟩, h2⟩
end Go.Proofs.YtjcdpmianmgiaaaGreatDoor
