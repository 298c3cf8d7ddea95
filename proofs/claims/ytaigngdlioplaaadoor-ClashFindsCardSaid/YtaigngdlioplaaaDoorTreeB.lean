/- The tree: sides, root. -/
import Derived.Test.YtaigngdlioplaaaDoorTreeA
namespace Go.Proofs.YtaigngdlioplaaaDoor
open Go Go.RowKit

/-- The texts lie in the slice. -/
def StrsAt (w : World) (v : Value) (l : List ByteArray) : Prop :=
  ∃ A c, v = .slice A l.length c ∧ l.length ≤ c ∧ ∀ (i : Nat) (s : ByteArray), l[i]? = some s → ∃ b o, A = some ⟨b, o, none⟩ ∧ b < w.heap.size ∧ w.cell? ⟨b, o + i, none⟩ = some (.string s)
theorem StrsAt.call {w w' : World} {v : Value} {l : List ByteArray} (h : StrsAt w v l) (hb : Below w.heap.size w w') : StrsAt w' v l := by
  obtain ⟨A, c, hv, hc, hi⟩ := h
  refine ⟨A, c, hv, hc, fun i s hs => ?_⟩
  obtain ⟨b, o, ha, hlt, hcell⟩ := hi i s hs
  exact ⟨b, o, ha, Nat.lt_of_lt_of_le hlt hb.size, (hb.cell (p := ⟨b, o + i, none⟩) hlt).trans hcell⟩
theorem StrsAt.drewN {w : World} {v : Value} {l : List ByteArray} (h : StrsAt w v l) (n : Nat) : StrsAt (w.drewN n) v l := h
theorem StrsAt.nil (w : World) : StrsAt w (.slice none 0 0) [] := ⟨none, 0, rfl, Nat.le_refl _, fun i s hs => by simp at hs⟩
theorem StrsAt.take {w : World} {A : Option Addr} {n c : Nat} {l : List ByteArray} (h : StrsAt w (.slice A n c) l) (k : Nat) (hk : k ≤ l.length) : StrsAt w (.slice A k k) (l.take k) := by
  obtain ⟨A', c', hv, hc, hi⟩ := h
  cases hv
  have hl : (l.take k).length = k := by rw [List.length_take]; omega
  refine ⟨A, k, by rw [hl], by omega, fun i s hs => ?_⟩
  rw [List.getElem?_take] at hs
  split at hs
  · exact hi i s hs
  · cases hs
theorem StrsAt.head {w : World} {A : Option Addr} {n c : Nat} {l : List ByteArray} (h : StrsAt w (.slice A n c) l) (k : Nat) (hk : k ≤ l.length) : StrsAt w (.slice A k c) (l.take k) := by
  obtain ⟨A', c', hv, hc, hi⟩ := h
  cases hv
  have hl : (l.take k).length = k := by rw [List.length_take]; omega
  refine ⟨A, c, by rw [hl], by omega, fun i s hs => ?_⟩
  rw [List.getElem?_take] at hs
  split at hs
  · exact hi i s hs
  · cases hs
theorem StrsAt.drop {w : World} {b o n c : Nat} {l : List ByteArray} (h : StrsAt w (.slice (some ⟨b, o, none⟩) n c) l) (k : Nat) (hk : k ≤ l.length) : StrsAt w (.slice (some ⟨b, o + k, none⟩) (n - k) (c - k)) (l.drop k) := by
  obtain ⟨A', c', hv, hc, hi⟩ := h
  cases hv
  refine ⟨_, c - k, by rw [List.length_drop], by rw [List.length_drop]; omega, fun i s hs => ?_⟩
  rw [List.getElem?_drop] at hs
  obtain ⟨b', o', ha, hlt, hcell⟩ := hi (k + i) s hs
  cases ha
  exact ⟨b, o + k, rfl, hlt, by rw [show o + k + i = o + (k + i) by omega]; exact hcell⟩

set_option maxRecDepth 100000 in
set_option maxHeartbeats 1000000 in
theorem sides_any (v : Value) (l : List ByteArray) (w : World) (hv : Hid (StrsAt w v l)) (h2 : 2 ≤ l.length) (hl : l.length ≤ 1099511627776) :
    Calls Tryd.prog 79 #[v] w fun e w' => ∃ A1 A2 c2 m, e = .returned (.tuple #[.slice A1 (splitN l.length) (splitN l.length), .slice A2 (l.length - splitN l.length) c2]) ∧ w' = w.drewN m ∧ ∀ W, StrsAt W v l → StrsAt W (.slice A1 (splitN l.length) (splitN l.length)) (l.take (splitN l.length)) ∧ StrsAt W (.slice A2 (l.length - splitN l.length) c2) (l.drop (splitN l.length)) := by
  obtain ⟨A, c, rfl, hc, hi⟩ := hv.out
  obtain ⟨s0, hs0⟩ : ∃ s0, l[0]? = some s0 := ⟨l[0], List.getElem?_eq_getElem (by omega)⟩
  obtain ⟨b, o, rfl, _, _⟩ := hi 0 s0 hs0
  have q := Lib.hid (fun w => Split_any (l.length : Nat) w (by show _ ∧ _; omega))
  rw [show splitI (l.length : Nat) = (splitN l.length : Nat) by unfold splitI; rw [if_neg (by omega), Int.toNat_natCast]] at q
  have hk := splitN_lt l.length h2
  generalize hK : splitN l.length = k at *
  have e1 := Lib.hid (fun W (hW : StrsAt W (.slice (some ⟨b, o, none⟩) l.length c) l) => hW.take k (by omega))
  have e2 := Lib.hid (fun W (hW : StrsAt W (.slice (some ⟨b, o, none⟩) l.length c) l) => hW.drop k (by omega))
  obtain ⟨hk1, hk2⟩ := hk
  clear hi hs0 hv hK
  generalize l.length = n at *
  go_enter Tryd.func79, Tryd.ntmps79
  go_wp2_with fail
  refine (q.out _).mono ?_
  rintro e w1 ⟨rfl, rfl⟩
  go_wp2_with fail
  go_quiet (fail)
  go_wp2_with fail
  go_ret2
  exact ⟨_, _, _, _, rfl, rfl, fun W hW => ⟨e1.out W hW, e2.out W hW⟩⟩

theorem cutS_le (K : Nat → Int) (H : St) (s : ByteArray) (n : Int) : (cutS K H s n).size ≤ 32 := by
  unfold cutS
  split
  · exact Nat.zero_le _
  · rw [ByteArray.size_extract, sumS_size]; omega
theorem rootS_le (K : Nat → Int) (H : St) (n : Int) (l : List ByteArray) : (rootS K H n l).size ≤ 32 := by
  rw [rootS]
  split
  · exact cutS_le K H _ n
  · split
    · exact cutS_le K H _ n
    · exact cutS_le K H _ n
/-- Leaves that are not great. -/
def Fine (l : List ByteArray) : Prop := ∀ (i : Nat) (s : ByteArray), l[i]? = some s → s.size ≤ 400
theorem Fine.take {l : List ByteArray} (h : Fine l) (k : Nat) : Fine (l.take k) := fun i s hs => by
  rw [List.getElem?_take] at hs
  split at hs
  · exact h i s hs
  · cases hs
theorem Fine.drop {l : List ByteArray} (h : Fine l) (k : Nat) : Fine (l.drop k) := fun i s hs => by
  rw [List.getElem?_drop] at hs
  exact h _ s hs

set_option maxRecDepth 100000 in
set_option maxHeartbeats 1000000 in
theorem troot_any (K : Nat → Int) (H : St) (n : Int) (hn : Hid (I64 n)) : ∀ (k : Nat) (l : List ByteArray) (v : Value) (w : World), l.length = k → Hid (ShaT w K H) → Hid (StrsAt w v l) → Hid (Fine l) → k ≤ 4096 →
    Calls Tryd.prog 78 #[v, .int .i64 n] w fun e w' => e = .returned (.string (rootS K H n l)) ∧ Below w.heap.size w w' := by
  intro k
  induction k using Nat.strongRecOn with
  | _ k ih =>
    intro l v w hk hT hv hF h4
    by_cases h0 : k = 0
    · rw [rootS_nil K H n l (by omega)]
      have q := Lib.hid (hash_any K H ⟨#[]⟩ n w hT (by show _ ≤ _; decide) hn)
      obtain ⟨A, c, rfl, hc, hi⟩ := hv.out
      have hl : l.length = 0 := by omega
      generalize cutS K H ⟨#[]⟩ n = S at *
      rw [hl]
      clear hi hv hF ih
      go_enter Tryd.func78, Tryd.ntmps78
      go_wp2_with fail
      refine q.out.mono ?_
      rintro e w1 ⟨rfl, hb⟩
      have HB := Lib.hid hb
      clear hb
      go_wp2_with fail
      go_ret
      exact ⟨rfl, HB.out⟩
    · by_cases h1 : k = 1
      · have hl : l.length = 1 := by omega
        rw [rootS_one K H n l hl]
        obtain ⟨A, c, rfl, hc, hi⟩ := hv.out
        have e0 : l[0]? = some (l[0]'(by omega)) := List.getElem?_eq_getElem _
        obtain ⟨b, o, rfl, hb, hcell⟩ := hi 0 _ e0
        have hz := hF.out 0 _ e0
        have q := Lib.hid (Leaf_any K H (l[0]'(by omega)) n w hT (by show _ ≤ _; omega) hn)
        rw [Nat.add_zero] at hcell
        generalize leafS K H n (l[0]'(by omega)) = S at *
        generalize l[0]'(by omega) = s at *
        rw [hl]
        clear hi hv hF ih e0
        go_enter Tryd.func78, Tryd.ntmps78
        go_wp2_with fail
        refine q.out.mono ?_
        rintro e w1 ⟨rfl, hb⟩
        have HB := Lib.hid hb
        clear hb
        go_wp2_with fail
        go_ret
        exact ⟨rfl, HB.out⟩
      · have h2 : 2 ≤ l.length := by omega
        have hs := splitN_lt l.length h2
        rw [rootS_two K H n l h2]
        have q1 := Lib.hid (sides_any v l w hv h2 (by omega))
        generalize hK : splitN l.length = m at *
        have l1 : (l.take m).length = m := by rw [List.length_take]; omega
        have l2 : (l.drop m).length = k - m := by rw [List.length_drop]; omega
        have q2 := Lib.hid (fun v w h1 h2 => ih m (by omega) (l.take m) v w l1 h1 h2 (Lib.hid (hF.out.take m)) (by omega))
        have q3 := Lib.hid (fun v w h1 h2 => ih (k - m) (by omega) (l.drop m) v w l2 h1 h2 (Lib.hid (hF.out.drop m)) (by omega))
        have z1 := rootS_le K H n (l.take m)
        have z2 := rootS_le K H n (l.drop m)
        have q4 := Lib.hid (fun w h => Node_any K H (rootS K H n (l.take m)) (rootS K H n (l.drop m)) n w h (by show _ ≤ _; omega) (by show _ ≤ _; omega) hn)
        have hL : Hid (l.length = k) := hk
        obtain ⟨A, c, rfl, hc, hi⟩ := hv.out
        have HV := hv
        rw [hk] at q1 HV ⊢
        clear hi hv hF ih hK hc z1 z2 hk l1 l2 h2
        generalize nodeS K H n (rootS K H n (l.take m)) (rootS K H n (l.drop m)) = S at *
        generalize rootS K H n (l.take m) = S1 at *
        generalize rootS K H n (l.drop m) = S2 at *
        go_enter Tryd.func78, Tryd.ntmps78
        go_wp2_with fail
        refine q1.out.mono ?_
        rintro e w1 ⟨A1, A2, c2, d, rfl, rfl, hs12⟩
        have HB0 := Lib.hid (below_drewN (Below.refl w.heap.size w) d)
        have S1h := Lib.hid ((hs12 w HV.out).1.drewN d)
        have S2h := Lib.hid ((hs12 w HV.out).2.drewN d)
        have hT1 := Lib.hid (hT.out.call HB0.out)
        clear hs12
        go_wp2_with fail
        refine (q2.out _ _ hT1 S1h).mono ?_
        rintro e w2 ⟨rfl, hb⟩
        have HB2 := Lib.hid (HB0.out.trans (hb.mono HB0.out.size))
        have hT2 := Lib.hid (hT1.out.call hb)
        have S2k := Lib.hid (S2h.out.call hb)
        clear hb
        go_wp2_with fail
        refine (q3.out _ _ hT2 S2k).mono ?_
        rintro e w3 ⟨rfl, hb⟩
        have HB3 := Lib.hid (HB2.out.trans (hb.mono HB2.out.size))
        have hT3 := Lib.hid (hT2.out.call hb)
        clear hb
        go_wp2_with fail
        refine (q4.out _ hT3).mono ?_
        rintro e w4 ⟨rfl, hb⟩
        have HB4 := Lib.hid (HB3.out.trans (hb.mono HB3.out.size))
        clear hb
        go_wp2_with fail
        go_ret
        exact ⟨rfl, HB4.out⟩

def rightE (k : Nat) (n : Int) : Int := if n < 1 ∨ 32 < n then 1 else if 4096 < k then 4 else 0
set_option maxRecDepth 100000 in
theorem right_any (A : Option Addr) (k c : Nat) (n : Int) (w : World) (hk : k ≤ 9223372036854775807) :
    Calls Tryd.prog 77 #[.slice A k c, .int .i64 n] w fun e w' => e = .returned (.int .i64 (rightE k n)) ∧ w = w' := by
  by_cases h1 : n < 1
  · rw [show rightE k n = 1 by unfold rightE; rw [if_pos (Or.inl h1)]]
    go_enter Tryd.func77, Tryd.ntmps77
    go_wp2_with fail
    go_ret
    exact ⟨rfl, rfl⟩
  · by_cases h2 : 32 < n
    · rw [show rightE k n = 1 by unfold rightE; rw [if_pos (Or.inr h2)]]
      go_enter Tryd.func77, Tryd.ntmps77
      go_wp2_with fail
      go_ret
      exact ⟨rfl, rfl⟩
    · by_cases h3 : 4096 < k
      · rw [show rightE k n = 4 by unfold rightE; rw [if_neg (by omega), if_pos h3]]
        go_enter Tryd.func77, Tryd.ntmps77
        go_wp2_with fail
        go_ret
        exact ⟨rfl, rfl⟩
      · rw [show rightE k n = 0 by unfold rightE; rw [if_neg (by omega), if_neg h3]]
        go_enter Tryd.func77, Tryd.ntmps77
        go_wp2_with fail
        go_ret
        exact ⟨rfl, rfl⟩

/-- What Root answers. -/
def rootV (K : Nat → Int) (H : St) (n : Int) (l : List ByteArray) : ByteArray := if rightE l.length n = 0 then rootS K H n l else ⟨#[]⟩
set_option maxRecDepth 100000 in
set_option maxHeartbeats 1000000 in
theorem Root_any (K : Nat → Int) (H : St) (n : Int) (l : List ByteArray) (v : Value) (w : World) (hn : Hid (I64 n)) (hT : Hid (ShaT w K H)) (hv : Hid (StrsAt w v l)) (hF : l.length ≤ 4096 → Hid (Fine l)) (hl : l.length ≤ 9223372036854775807) :
    Calls Tryd.prog 34 #[v, .int .i64 n] w fun e w' => e = .returned (.tuple #[.string (rootV K H n l), .int .i64 (rightE l.length n)]) ∧ Below w.heap.size w w' := by
  obtain ⟨A, c, rfl, _, _⟩ := hv.out
  have q1 := Lib.hid (fun w => right_any A l.length c n w hl)
  unfold rootV
  by_cases h0 : rightE l.length n = 0
  · have h4 : l.length ≤ 4096 := by
      unfold rightE at h0
      split at h0
      · cases h0
      · split at h0
        · cases h0
        · omega
    have q2 := Lib.hid (troot_any K H n hn l.length l _ w rfl hT hv (hF h4) h4)
    rw [h0] at q1 ⊢
    rw [if_pos rfl]
    clear hF hv hT h0
    generalize rootS K H n l = S at *
    generalize l.length = k at *
    go_enter Tryd.func34, Tryd.ntmps34
    go_wp2_with fail
    refine (q1.out _).mono ?_
    rintro e w1 ⟨rfl, rfl⟩
    go_wp2_with fail
    refine q2.out.mono ?_
    rintro e w1 ⟨rfl, hb⟩
    have HB := Lib.hid hb
    clear hb
    go_wp2_with fail
    go_ret2
    exact ⟨rfl, HB.out⟩
  · rw [if_neg h0]
    generalize rightE l.length n = E at *
    generalize l.length = k at *
    clear hF
    go_enter Tryd.func34, Tryd.ntmps34
    go_wp2_with fail
    refine (q1.out _).mono ?_
    rintro e w1 ⟨rfl, rfl⟩
    go_wp2_with fail
    go_ret2
    exact ⟨rfl, Below.refl _ _⟩
end Go.Proofs.YtaigngdlioplaaaDoor
