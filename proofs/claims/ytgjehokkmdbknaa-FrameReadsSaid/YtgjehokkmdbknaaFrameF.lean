/- The reference's Scan; rows alike; FrameReads. -/
import Derived.Test.YtgjehokkmdbknaaFrameE
namespace Go.Proofs.Ytgjehokkmdbknaa
open Go.RowKit

theorem own_keep {W X : World} {n₀ : Nat} {e : TypeId} {size k : Nat} {v : Value} {xs : List Value} (h : W.ownsRow n₀ e size v k xs) (hb : Below W.heap.size W X) : X.ownsRow n₀ e size v k xs := by
  refine h.kept (grown_below hb none) ?_
  rcases h.2 with ⟨rfl, _⟩ | ⟨g, cap, cur, rfl, _, _⟩
  · exact .inl rfl
  · exact .inr (by simp [Value.ownBlock])
/-- A row of another element type. -/
theorem own_apart {W X : World} {n₀ m₀ : Nat} {e e' : TypeId} {size size' k k' : Nat} {v v' : Value} {xs xs' : List Value} {tmp : Obj} (h : W.ownsRow n₀ e size v k xs) (h' : W.ownsRow m₀ e' size' v' k' xs') (hne : e ≠ e') (hg : (W.alloc tmp).grownBy X v'.ownBlock) : X.ownsRow n₀ e size v k xs := by
  refine (h.alloc tmp).kept hg ?_
  rcases h.2 with ⟨rfl, _⟩ | ⟨g, cap, cur, rfl, _, hgb, _⟩
  · exact .inl rfl
  · refine .inr fun e1 => ?_
    rcases h'.2 with ⟨rfl, _⟩ | ⟨g', cap', cur', rfl, _, hgb', _⟩
    · simp [Value.ownBlock] at e1
    · obtain rfl : g = g' := by simpa [Value.ownBlock] using e1
      rw [hgb] at hgb'
      injection hgb' with hgb'
      injection hgb' with _ ht _
      exact hne ht

/-- What a slice value says of its cells. -/
def RowIs (w : World) (v : Value) (n : Nat) (f : Nat → Value) : Prop := ∃ A c, v = .slice A n c ∧ ∀ i, i < n → ∃ b o, A = some ⟨b, o, none⟩ ∧ b < w.heap.size ∧ w.cell? ⟨b, o + i, none⟩ = some (f i)
theorem own_row {α : Type} {W : World} {n₀ : Nat} {e : TypeId} {k : Nat} {v : Value} (xs : List α) (f : α → Value) (d : α) (h : W.ownsRow n₀ e 1 v k (xs.map f)) : RowIs W v k (fun i => f (xs[i]?.getD d)) ∧ k = xs.length := by
  have hk : k = xs.length := by have := h.1; simpa using this.symm
  refine ⟨?_, hk⟩
  rcases h.2 with ⟨rfl, h0⟩ | ⟨g, cap, cur, rfl, _, hgb, _⟩
  · exact ⟨none, 0, by rw [h0], fun i hi => by omega⟩
  · refine ⟨_, _, rfl, fun i hi => ⟨g, 0, rfl, (Array.getElem?_eq_some_iff.1 hgb).1, ?_⟩⟩
    have hi' : i < xs.length := by omega
    have := h.cells (g := g) rfl i (f xs[i]) (by simp [hi'])
    rw [Addr.add_lit] at this
    rw [this]
    show some (f xs[i]) = some (f (xs[i]?.getD d))
    rw [List.getElem?_eq_getElem hi']
    rfl
theorem RowIs.below {w w' : World} {v : Value} {n : Nat} {f : Nat → Value} (h : RowIs w v n f) (hb : Below w.heap.size w w') : RowIs w' v n f := by
  obtain ⟨A, c, e, hc⟩ := h
  refine ⟨A, c, e, fun i hi => ?_⟩
  obtain ⟨b, o, e1, e2, e3⟩ := hc i hi
  exact ⟨b, o, e1, Nat.lt_of_lt_of_le e2 hb.size, (hb.cell (p := ⟨b, o + i, none⟩) e2).trans e3⟩

set_option maxRecDepth 100000 in
set_option maxHeartbeats 800000 in
theorem refScan_any (s0 : ByteArray) (w : World) (hs0 : Hid (s0.size ≤ 1099511627775)) :
    Calls Try.prog 43 #[.string s0] w fun e w' => ∃ v1 v2, e = .returned (.tuple #[v1, v2]) ∧ w'.ownsRow w.heap.size 9 1 v1 (framesOf s0).length ((framesOf s0).map (fun x => Value.string x.1)) ∧
      w'.ownsRow w.heap.size 3 1 v2 (framesOf s0).length ((framesOf s0).map (fun x => Value.int .i64 (x.2 : Int))) ∧ Below w.heap.size w w' := by
  go_enter Try.func43, Try.ntmps43
  go_wp2_with fail
  go_loopw [0, 4, 5] (fun sv v1 v2 wr => ∃ (s : ByteArray) (pre : List (ByteArray × Nat)), sv = .string s ∧ Hid (s.size ≤ 1099511627776) ∧ Hid (framesOf s0 = pre ++ framesOf s) ∧
      Hid (wr.ownsRow w.heap.size 9 1 v1 pre.length (pre.map (fun x => Value.string x.1))) ∧ Hid (wr.ownsRow w.heap.size 3 1 v2 pre.length (pre.map (fun x => Value.int .i64 (x.2 : Int)))) ∧ Hid (Below w.heap.size w wr))
    (fun sv _ _ _ => match sv with
      | .string s => s.size
      | _ => 0)
  case atStart => exact ⟨s0, [], rfl, by have := hs0.out; show _ ≤ _; omega, rfl, World.ownsRow_nil _ _ _ _, World.ownsRow_nil _ _ _ _, Below.refl _ _⟩
  case round =>
    obtain ⟨s, pre, rfl, hs, hx, h1, h2, HB⟩ := hrel
    have hsz0 := hs0.out
    by_cases h : (nextP s).2.2 = 0
    · have hok := Lib.hid (nextP_ok s h)
      have hcons := framesOf_ok s h
      have hx2 : framesOf s0 = pre ++ ((nextP s).1, (nextP s).2.1) :: framesOf (restOf s) := by rw [← hcons]; exact hx.out
      have hpb := pre_bounds (s := s0) (pre := pre) (x := ((nextP s).1, (nextP s).2.1)) (by rw [hx2]; exact ⟨framesOf (restOf s), by simp⟩)
      have hrs : s.extract (nextP s).2.1 s.size = restOf s := rfl
      have hrz := restOf_size s
      have hC : Hid (∀ w, Calls Try.prog 42 #[.string s] w _) := fun w => refNext_any s w hs
      generalize restOf s = rs at *
      generalize nextP s = np at *
      obtain ⟨row, n, e0⟩ := np
      simp only [] at h hok hcons hx2 hrs hrz hC hpb
      subst h
      have hok1 := hok.out.1
      have hok2 := hok.out.2.1
      have hsz := hs.out
      have hk : pre.length + 1 ≤ 1099511627776 := by omega
      have HX2 := Lib.hid hx2; have HRS := Lib.hid hrs; have HRZ := Lib.hid hrz; clear hx2 hrs hrz hcons hpb
      go_wp2_with (fail)
      refine (hC.out _).mono ?_
      rintro e w1 ⟨rfl, hb⟩
      have HB1 := Lib.hid (below_to (HB.out) (hb))
      have k1 := Lib.hid (own_keep h1.out hb); have k2 := Lib.hid (own_keep h2.out hb)
      have hbw := HB1.out.size
      clear hb
      go_wp2_with (first
        | (at_builtin; refine wpList_append_grow _ _ _ _ _ _ el_str _ _ _ _ k1 hbw rfl rfl rfl rfl rfl hk (by decide) ?_; intro v3 w3 hown3 hg3
           have m2 := Lib.hid (own_apart k2.out k1.out (by decide) hg3.out)
           have HB3 := Lib.hid (HB1.out.trans (app_keeps k1.out hbw hg3.out).2)
           have hbw3 := HB3.out.size
           clear hg3 hbw HB1 k1 k2)
        | (at_builtin; refine wpList_append_grow _ _ _ _ _ _ el_int _ _ _ _ m2 hbw3 rfl rfl rfl rfl rfl hk (by decide) ?_; intro v4 w4 hown4 hg4
           have m1 := Lib.hid (own_apart hown3.out m2.out (by decide) hg4.out)
           have HB4 := Lib.hid (HB3.out.trans (app_keeps m2.out hbw3 hg4.out).2)
           clear hg4 hbw3 HB3 m2 hown3))
      rw [HRS.out]
      go_roundw
      case rel => exact ⟨rs, pre ++ [(row, n)], rfl, by have := HRZ.out; show _ ≤ _; omega, by show _ = _; rw [HX2.out]; simp, Lib.hid (by have := m1.out; simpa using this), Lib.hid (by have := hown4.out; simpa using this), HB4.out⟩
      case measure => have := HRZ.out; simp only []; omega
    · have hC : Hid (∀ w, Calls Try.prog 42 #[.string s] w _) := fun w => refNext_any s w hs
      have hbad := Lib.hid (framesOf_bad s h)
      generalize nextP s = np at *
      obtain ⟨row, n, e0⟩ := np
      simp only [] at h hC
      have h' : (e0 != 0) = true := by simpa using h
      clear h
      go_wp2_with (fail)
      refine (hC.out _).mono ?_
      rintro e w1 ⟨rfl, hb⟩
      have HB1 := Lib.hid (below_to (HB.out) (hb))
      have k1 := Lib.hid (own_keep h1.out hb); have k2 := Lib.hid (own_keep h2.out hb)
      clear hb
      go_wp2_with (fail)
      go_ret2
      have hx3 : framesOf s0 = pre := by rw [hx.out, hbad.out, List.append_nil]
      rw [hx3]
      exact ⟨_, _, rfl, k1.out, k2.out, HB1.out⟩

set_option maxRecDepth 100000 in
set_option maxHeartbeats 800000 in
theorem Same_any (v1 v2 : Value) (n : Nat) (f : Nat → ByteArray) (w : World) (h1 : Hid (RowIs w v1 n (fun i => .string (f i)))) (h2 : Hid (RowIs w v2 n (fun i => .string (f i)))) (hn : n ≤ 1099511627776) :
    Calls Try.prog 45 #[v1, v2] w fun e w' => e = .returned (.bool true) ∧ ∃ k, w' = w.drewN k := by
  obtain ⟨A1, c1, rfl, k1⟩ := h1.out
  obtain ⟨A2, c2, rfl, k2⟩ := h2.out
  have K1 := Lib.hid k1; have K2 := Lib.hid k2; clear k1 k2 h1 h2
  go_enter Try.func45, Try.ntmps45
  go_wp2_with fail
  go_loopw [5] (fun si wr => ∃ i k : Nat, si = .int .i64 i ∧ Hid (i ≤ n) ∧ wr = w.drewN k) (fun si _ => n - (intOf si).toNat)
  case atStart => exact ⟨0, 0, rfl, Nat.zero_le _, rfl⟩
  case round =>
    obtain ⟨i, k, rfl, hi, rfl⟩ := hrel
    have hi2 := hi.out
    by_cases hlt : i < n
    · obtain ⟨b1, o1, rfl, _, e1⟩ := K1.out i hlt
      obtain ⟨b2, o2, rfl, _, e2⟩ := K2.out i hlt
      have e1' : (w.drewN k).cell? ⟨b1, o1 + i, none⟩ = some (.string (f i)) := e1
      have e2' : (w.drewN k).cell? ⟨b2, o2 + i, none⟩ = some (.string (f i)) := e2
      have hb := beq_self (f i)
      have hw : wrap64 ((i : Int) + 1) = ((i + 1 : Nat) : Int) := by simp only [wrap64]; omega
      generalize f i = fi at *
      go_wp2_with (fail)
      go_quiet (fail)
      go_wp2_with (fail)
      go_roundw
      case rel => exact ⟨i + 1, k + _, by first | rfl | (rw [← hw]; rfl), by show _ ≤ _; omega, rfl⟩
      case measure => simp [intOf]; omega
    · obtain rfl : i = n := by omega
      go_wp2_with (fail)
      go_ret
      exact ⟨rfl, _, rfl⟩
end Go.Proofs.Ytgjehokkmdbknaa
