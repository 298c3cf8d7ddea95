/- Like texts; are leaves great; the walk of TreeRoots. -/
import Derived.Test.YtaigngdlioplaaaDoorTreeG
namespace Go.Proofs.YtaigngdlioplaaaDoor
open Go Go.RowKit

theorem strs_ne {a b : ByteArray} (h : ¬ a = b) : (a.toList == b.toList) = false := by
  rw [beq_eq_false_iff_ne, ByteArray.toList_eq, ByteArray.toList_eq]
  intro h2
  exact h (ByteArray.ext (Array.toList_inj.1 h2))

set_option maxRecDepth 100000 in
set_option maxHeartbeats 1000000 in
theorem Same_any (v1 v2 : Value) (l1 l2 : List ByteArray) (w : World) (h1 : Hid (StrsAt w v1 l1)) (h2 : Hid (StrsAt w v2 l2)) (hn1 : l1.length ≤ 9223372036854775807) :
    Calls Tryd.prog 37 #[v1, v2] w fun e w' => e = .returned (.bool (decide (l1 = l2))) ∧ Below w.heap.size w w' := by
  obtain ⟨A1, c1, rfl, _, hi1⟩ := h1.out
  obtain ⟨A2, c2, rfl, _, hi2⟩ := h2.out
  by_cases hl : l1.length = l2.length
  · have H1 := Lib.hid hi1
    have H2 := Lib.hid hi2
    have hext : Hid ((∀ j : Nat, j < l1.length → l1[j]? = l2[j]?) → l1 = l2) := fun hh => by
      apply List.ext_getElem?
      intro i
      by_cases hi : i < l1.length
      · exact hh i hi
      · rw [List.getElem?_eq_none (by omega), List.getElem?_eq_none (by omega)]
    have hne : Hid (∀ (i : Nat) (s t : ByteArray), l1[i]? = some s → l2[i]? = some t → ¬ s = t → ¬ l1 = l2) := fun i s t hs ht hst he => by
      rw [he, ht] at hs
      exact hst (Option.some.inj hs).symm
    have hg1 : Hid (∀ i : Nat, i < l1.length → ∃ s, l1[i]? = some s) := fun i hi => ⟨_, List.getElem?_eq_getElem hi⟩
    have hg2 : Hid (∀ i : Nat, i < l1.length → ∃ s, l2[i]? = some s) := fun i hi => ⟨_, List.getElem?_eq_getElem (by omega)⟩
    rw [← hl]
    clear hi1 hi2 h1 h2
    obtain ⟨n, hn⟩ : ∃ n, l1.length = n := ⟨_, rfl⟩
    rw [hn] at hext hg1 hg2 hn1 ⊢
    obtain ⟨D, hD⟩ : ∃ D, decide (l1 = l2) = D := ⟨_, rfl⟩
    rw [hD]
    have HD := Lib.hid hD
    clear hl hn hD
    go_enter Tryd.func37, Tryd.ntmps37
    go_wp2_with fail
    go_loopw [5] (fun iv wr => ∃ i : Nat, iv = .int .i64 i ∧ Hid (i ≤ n) ∧ Hid (∀ j, j < i → l1[j]? = l2[j]?) ∧ Hid (∃ d, wr = w.drewN d)) (fun iv _ => n - (intOf iv).toNat)
    case atStart => exact ⟨0, rfl, Nat.zero_le _, fun j hj => by omega, ⟨0, rfl⟩⟩
    case round =>
      obtain ⟨i, rfl, hi, hj, hd⟩ := hrel
      obtain ⟨d, rfl⟩ := hd.out
      have hi2 := hi.out
      by_cases hlt : i < n
      · obtain ⟨s, hs⟩ := hg1.out i hlt
        obtain ⟨t, ht⟩ := hg2.out i hlt
        obtain ⟨b1, o1, rfl, hb1, k1⟩ := H1.out i s hs
        obtain ⟨b2, o2, rfl, hb2, k2⟩ := H2.out i t ht
        have HS := Lib.hid hs
        have HT := Lib.hid ht
        clear hs ht hi
        by_cases hst : s = t
        · have hbq : (s.toList == t.toList) = true := by rw [hst]; simp
          have hjn : Hid (∀ j, j < i + 1 → l1[j]? = l2[j]?) := fun j hj2 => by
            by_cases hji : j < i
            · exact hj.out j hji
            · obtain rfl : j = i := by omega
              rw [HS.out, HT.out, hst]
          clear hst hj
          go_wp2_with fail
          go_quiet (fail)
          go_wp2_with fail
          go_roundw
          case rel => exact ⟨i + 1, by go_num, by show _ ≤ _; omega, hjn, ⟨_, rfl⟩⟩
          case measure => simp [intOf]; omega
        · have hbq : (s.toList == t.toList) = false := strs_ne hst
          have hDf : D = false := by rw [← HD.out]; exact decide_eq_false (hne.out i s t HS.out HT.out hst)
          subst hDf
          clear hj
          go_wp2_with fail
          go_quiet (fail)
          go_wp2_with fail
          go_ret
          exact ⟨rfl, below_drewN (below_drewN (Below.refl _ _) _) _⟩
      · have hin : i = n := by omega
        subst hin
        have hDt : D = true := by rw [← HD.out]; exact decide_eq_true (hext.out hj.out)
        subst hDt
        clear hj hi
        go_wp2_with fail
        go_ret
        exact ⟨rfl, below_drewN (Below.refl _ _) _⟩
  · rw [decide_eq_false (show ¬ l1 = l2 from fun h => hl (by rw [h]))]
    clear hi1 hi2 h1 h2
    generalize l1.length = n1 at *
    generalize l2.length = n2 at *
    go_enter Tryd.func37, Tryd.ntmps37
    go_wp2_with fail
    go_ret
    exact ⟨rfl, Below.refl _ _⟩

theorem own_strs {w : World} {B : Nat} {e : TypeId} {v : Value} {l : List ByteArray} (h : w.ownsRow B e 1 v l.length (l.map Value.string)) : StrsAt w v l := by
  obtain ⟨a, cap, rfl⟩ := row_form h
  cases hl : l with
  | nil =>
    subst hl
    rcases h.2 with ⟨h', _⟩ | ⟨g, cap', cur, h', _, hg, hc, _⟩
    · cases h'
      exact StrsAt.nil w
    · cases h'
      exact ⟨_, cap, rfl, Nat.zero_le _, fun i s hs => by simp at hs⟩
  | cons x r =>
    rw [← hl]
    have h1 : l.length = (l.length - 1) + 1 := by rw [hl]; simp
    obtain ⟨g, cap', hs⟩ := ownsRow_succ (v := .slice a l.length cap) (k := l.length - 1) (xs := l.map Value.string) (by rw [← h1]; exact h)
    obtain rfl : a = some ⟨g, 0, none⟩ := by injection hs
    have hcap : l.length ≤ cap := by
      rcases h.2 with ⟨h', _⟩ | ⟨g', cap'', cur, h', _, hg, hc, _⟩
      · cases h'
      · injection h' with _ _ h3; omega
    refine ⟨_, cap, rfl, hcap, fun i s hs => ⟨g, 0, rfl, (h.lt g rfl).2, ?_⟩⟩
    have hi : i < l.length := (List.getElem?_eq_some_iff.1 hs).1
    rw [Nat.zero_add, h.cellAt i (by omega), List.getElem?_map, hs]
    rfl

set_option maxRecDepth 100000 in
set_option maxHeartbeats 1000000 in
theorem Great_any (v : Value) (l : List ByteArray) (w : World) (h1 : Hid (StrsAt w v l)) (hn : l.length ≤ 9223372036854775807) (hz : Hid (∀ (i : Nat) (s : ByteArray), l[i]? = some s → s.size ≤ 9223372036854775807)) :
    Calls Tryd.prog 33 #[v] w fun e w' => (∃ g, e = .returned (.bool g) ∧ (g = false → l.length ≤ 40 ∧ ∀ (i : Nat) (s : ByteArray), l[i]? = some s → s.size ≤ 200)) ∧ w = w' := by
  obtain ⟨A, c, rfl, _, hi⟩ := h1.out
  have H1 := Lib.hid hi
  have hg1 : Hid (∀ i : Nat, i < l.length → ∃ s, l[i]? = some s) := fun i hi => ⟨_, List.getElem?_eq_getElem hi⟩
  clear hi h1
  by_cases h40 : 40 < l.length
  · generalize l.length = n at *
    go_enter Tryd.func33, Tryd.ntmps33
    go_wp2_with fail
    go_ret
    exact ⟨⟨_, rfl, fun h => by cases h⟩, rfl⟩
  · have hfin : Hid ((∀ (i : Nat) (s : ByteArray), i < l.length → l[i]? = some s → s.size ≤ 200) → l.length ≤ 40 ∧ ∀ (i : Nat) (s : ByteArray), l[i]? = some s → s.size ≤ 200) := fun hh => ⟨by omega, fun i s hs => hh i s (List.getElem?_eq_some_iff.1 hs).1 hs⟩
    obtain ⟨n, hN⟩ : ∃ n, l.length = n := ⟨_, rfl⟩
    have HN := Lib.hid hN
    rw [hN] at hg1 hn h40 ⊢
    clear hN
    go_enter Tryd.func33, Tryd.ntmps33
    go_wp2_with fail
    go_loopw [3] (fun iv wr => ∃ i : Nat, iv = .int .i64 i ∧ Hid (i ≤ n) ∧ Hid (∀ (j : Nat) (s : ByteArray), j < i → l[j]? = some s → s.size ≤ 200) ∧ w = wr) (fun iv _ => n - (intOf iv).toNat)
    case atStart => exact ⟨0, rfl, Nat.zero_le _, fun j s hj => by omega, rfl⟩
    case round =>
      obtain ⟨i, rfl, hi, hj, rfl⟩ := hrel
      have hi2 := hi.out
      by_cases hlt : i < n
      · obtain ⟨s, hs⟩ := hg1.out i hlt
        obtain ⟨b1, o1, rfl, hb1, k1⟩ := H1.out i s hs
        have hzz := hz.out i s hs
        have HS := Lib.hid hs
        clear hs hi
        by_cases h200 : 200 < s.size
        · clear hj
          go_wp2_with fail
          go_ret
          exact ⟨⟨_, rfl, fun h => by cases h⟩, rfl⟩
        · have hjn : Hid (∀ (j : Nat) (s : ByteArray), j < i + 1 → l[j]? = some s → s.size ≤ 200) := fun j t hj2 ht => by
            by_cases hji : j < i
            · exact hj.out j t hji ht
            · obtain rfl : j = i := by omega
              rw [HS.out] at ht
              cases ht
              omega
          clear hj
          go_wp2_with fail
          go_roundw
          case rel => exact ⟨i + 1, by go_num, by show _ ≤ _; omega, hjn, trivial⟩
          case measure => simp [intOf]; omega
      · have hin : i = n := by omega
        subst hin
        have hF := Lib.hid (hfin.out (by rw [HN.out]; exact hj.out))
        clear hj hi
        go_wp2_with fail
        go_ret
        exact ⟨⟨_, rfl, fun _ => by have := hF.out; rw [HN.out] at this; exact this⟩, rfl⟩
end Go.Proofs.YtaigngdlioplaaaDoor
