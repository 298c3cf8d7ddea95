/- The tree: Check. -/
import Derived.Test.YtaigngdlioplaaaDoorTreeJ
namespace Go.Proofs.YtaigngdlioplaaaDoor
open Go Go.RowKit

theorem StrsAt.cells {w : World} {A : Option Addr} {n c : Nat} {l : List ByteArray} (h : StrsAt w (.slice A n c) l) : ∀ (i : Nat) (s : ByteArray), l[i]? = some s → ∃ b o, A = some ⟨b, o, none⟩ ∧ b < w.heap.size ∧ w.cell? ⟨b, o + i, none⟩ = some (.string s) := by
  obtain ⟨A', c', hv, _, hi⟩ := h
  cases hv
  exact hi
/-- What has come out behind i hashes of a proof. -/
def midS (K : Nat → Int) (H : St) (n : Int) (h0 : ByteArray) (ways : List Bool) (p : List ByteArray) (i : Nat) : ByteArray := climbS K H n h0 (ways.reverse.take i) (p.take i)
theorem midS_zero (K : Nat → Int) (H : St) (n : Int) (h0 : ByteArray) (ways : List Bool) (p : List ByteArray) : midS K H n h0 ways p 0 = h0 := rfl
theorem midS_step (K : Nat → Int) (H : St) (n : Int) (h0 : ByteArray) (ways : List Bool) (p : List ByteArray) (i : Nat) (b : Bool) (o : ByteArray) (hl : ways.length = p.length) (hb : ways[ways.length - 1 - i]? = some b) (ho : p[i]? = some o) :
    midS K H n h0 ways p (i + 1) = joinS K H n (midS K H n h0 ways p i) b o := by
  have hi : i < p.length := (List.getElem?_eq_some_iff.1 ho).1
  unfold midS
  have hb2 : ways.reverse[i]? = some b := by rw [List.getElem?_reverse (by omega)]; exact hb
  rw [List.take_add_one, List.take_add_one, hb2, ho]
  exact climbS_snoc K H n _ _ h0 b o (by rw [List.length_take, List.length_take, List.length_reverse]; omega)
theorem midS_all (K : Nat → Int) (H : St) (n : Int) (h0 : ByteArray) (ways : List Bool) (p : List ByteArray) (hl : ways.length = p.length) : midS K H n h0 ways p p.length = climbS K H n h0 ways.reverse p := by
  unfold midS
  rw [List.take_of_length_le (by rw [List.length_reverse]; omega), List.take_of_length_le (Nat.le_refl _)]
theorem midS_le (K : Nat → Int) (H : St) (n : Int) (h0 : ByteArray) (ways : List Bool) (p : List ByteArray) (h : h0.size ≤ 32) : ∀ i, (midS K H n h0 ways p i).size ≤ 32 := by
  intro i
  unfold midS
  generalize ways.reverse.take i = bs
  generalize p.take i = os
  induction bs generalizing h0 os with
  | nil => rw [climbS]; exact h; intros; simp_all
  | cons b bs ih =>
    cases os with
    | nil => rw [climbS]; exact h; intros; simp_all
    | cons o os =>
      rw [climbS]
      refine ih _ ?_ os
      unfold joinS
      split
      · exact cutS_le K H _ n
      · exact cutS_le K H _ n

set_option maxRecDepth 100000 in
theorem Check_off (leaf : ByteArray) (k c : Int) (v : Value) (root : ByteArray) (n : Int) (w : World) (hb : n < 1 ∨ 32 < n ∨ c < 1 ∨ 4096 < c ∨ k < 0 ∨ c ≤ k) :
    Calls Tryd.prog 39 #[.string leaf, .int .i64 k, .int .i64 c, v, .string root, .int .i64 n] w fun e w' => e = .returned (.bool false) ∧ Below w.heap.size w w' := by
  have HB : Hid (∀ o, Below w.heap.size w (w.alloc o)) := fun o => below_alloc (Below.refl _ _) (Nat.le_refl _) o
  by_cases h1 : n < 1
  · go_enter Tryd.func39, Tryd.ntmps39
    go_wp2_with fail
    go_ret
    exact ⟨rfl, HB.out _⟩
  by_cases h2 : 32 < n
  · go_enter Tryd.func39, Tryd.ntmps39
    go_wp2_with fail
    go_ret
    exact ⟨rfl, HB.out _⟩
  by_cases h3 : c < 1
  · go_enter Tryd.func39, Tryd.ntmps39
    go_wp2_with fail
    go_ret
    exact ⟨rfl, HB.out _⟩
  by_cases h4 : 4096 < c
  · go_enter Tryd.func39, Tryd.ntmps39
    go_wp2_with fail
    go_ret
    exact ⟨rfl, HB.out _⟩
  by_cases h5 : k < 0
  · go_enter Tryd.func39, Tryd.ntmps39
    go_wp2_with fail
    go_ret
    exact ⟨rfl, HB.out _⟩
  have h6 : c ≤ k := by omega
  go_enter Tryd.func39, Tryd.ntmps39
  go_wp2_with fail
  go_ret
  exact ⟨rfl, HB.out _⟩

set_option maxRecDepth 100000 in
set_option maxHeartbeats 1000000 in
theorem Check_any (K : Nat → Int) (H : St) (leaf : ByteArray) (k c : Nat) (v : Value) (p : List ByteArray) (root : ByteArray) (m : Nat) (w : World) (hT : Hid (ShaT w K H)) (hm : Hid (1 ≤ m ∧ m ≤ 32)) (hk : k < c) (h4 : c ≤ 4096) (hleaf : Hid (leaf.size ≤ 1000000)) (hv : Hid (StrsAt w v p)) (hF : Hid (Fine p)) (hp : p.length ≤ 9223372036854775807) :
    Calls Tryd.prog 39 #[.string leaf, .int .i64 k, .int .i64 c, v, .string root, .int .i64 m] w fun e w' => e = .returned (.bool (checkS K H m leaf k c p root)) ∧ Below w.heap.size w w' := by
  obtain ⟨hm1, hm2⟩ := hm.out
  have qW := Lib.hid (fun w => ways_any k c w hk h4)
  have qL := Lib.hid (fun w h => Leaf_any K H leaf m w h (by show _ ≤ _; have := hleaf.out; omega) (by show _ ∧ _; omega))
  have hlen := waysS_len k c
  have hls : Hid ((leafS K H m leaf).size ≤ 32) := cutS_le K H _ m
  obtain ⟨A, cap, rfl⟩ := hv.out.slice_len
  by_cases hl : (waysS k c).length = p.length
  · have hCk : Hid (∀ R, checkS K H m leaf k c p R = (p.all (fun o => decide ((o.size : Int) = m)) && decide (climbS K H m (leafS K H m leaf) (waysS k c).reverse p = R))) := fun R => by unfold checkS; rw [decide_eq_true hl, Bool.true_and]
    have hst := Lib.hid (fun i b o => midS_step K H m (leafS K H m leaf) (waysS k c) p i b o hl)
    have hal := Lib.hid (midS_all K H m (leafS K H m leaf) (waysS k c) p hl)
    have hml := Lib.hid (midS_le K H m (leafS K H m leaf) (waysS k c) p hls.out)
    have hz0 : Hid (midS K H m (leafS K H m leaf) (waysS k c) p 0 = leafS K H m leaf) := rfl
    generalize climbS K H m (leafS K H m leaf) (waysS k c).reverse p = Z at *
    generalize midS K H m (leafS K H m leaf) (waysS k c) p = M at *
    generalize leafS K H m leaf = L0 at *
    generalize checkS K H m leaf k c p = CK at *
    generalize waysS k c = D at *
    have hgp : Hid (∀ i : Nat, i < p.length → ∃ o, p[i]? = some o) := fun i hi => ⟨_, List.getElem?_eq_getElem hi⟩
    have hgd : Hid (∀ i : Nat, i < D.length → ∃ b, D[i]? = some b) := fun i hi => ⟨_, List.getElem?_eq_getElem hi⟩
    have hbad : Hid (∀ (i : Nat) (o : ByteArray), p[i]? = some o → ¬ (o.size : Int) = m → p.all (fun o => decide ((o.size : Int) = m)) = false) := fun i o ho hx => by
      rw [List.all_eq_false]
      exact ⟨o, List.mem_of_getElem? ho, by simpa using hx⟩
    have hall : Hid ((∀ (i : Nat) (o : ByteArray), p[i]? = some o → (o.size : Int) = m) → p.all (fun o => decide ((o.size : Int) = m)) = true) := fun hh => by
      rw [List.all_eq_true]
      intro o ho
      obtain ⟨i, hi⟩ := List.getElem?_of_mem ho
      exact decide_eq_true (hh i o hi)
    have hle : Hid (∀ (i : Nat) (o : ByteArray), p[i]? = some o → i < p.length) := fun i o ho => (List.getElem?_eq_some_iff.1 ho).1
    obtain ⟨P, hP⟩ : ∃ P, p.length = P := ⟨_, rfl⟩
    rw [hP] at hl hp hgp hv hal hle ⊢
    have hDP : D.length = P := hl
    rw [hDP] at qW hgd hlen hst
    clear hP hl hDP
    obtain ⟨w1, hw1⟩ : ∃ w1, w.alloc (.cells #[.int .i64 m] 3) = w1 := ⟨_, rfl⟩
    have HN1 : Hid (w1.heap[w.heap.size]? = some (.cells #[.int .i64 m] 3 (0, 0))) := by rw [← hw1]; exact blk_new _ _ _ rfl
    have HB1 : Hid (Below w.heap.size w w1) := by rw [← hw1]; exact below_alloc (Below.refl _ _) (Nat.le_refl _) _
    have hlt1 : w.heap.size < w1.heap.size := (Array.getElem?_eq_some_iff.1 HN1.out).1
    have hc1 : w1.cell? ⟨w.heap.size, 0, none⟩ = some (.int .i64 m) := cells_of_blk HN1.out 0 _ rfl
    have HW1 := Lib.hid hw1
    clear hw1
    go_enter Tryd.func39, Tryd.ntmps39
    go_wp2_with fail
    rw [HW1.out]
    refine (qW.out _).mono ?_
    rintro e w2 ⟨⟨v', rfl, ho⟩, hb⟩
    obtain ⟨ga, gcap, rfl⟩ := row_form ho
    have hc2 : w2.cell? ⟨w.heap.size, 0, none⟩ = some (.int .i64 m) := (hb.cell (p := ⟨w.heap.size, 0, none⟩) hlt1).trans hc1
    have hs12 := hb.size
    have HB2 := Lib.hid (HB1.out.trans (hb.mono HB1.out.size))
    have HO := Lib.hid ho
    have hT2 := Lib.hid (hT.out.call HB2.out)
    clear ho hb hc1
    go_wp2_with fail
    refine (qL.out _ hT2).mono ?_
    rintro e w3 ⟨rfl, hb⟩
    have hc3 : w3.cell? ⟨w.heap.size, 0, none⟩ = some (.int .i64 m) := (hb.cell (p := ⟨w.heap.size, 0, none⟩) (show w.heap.size < _ by omega)).trans hc2
    have hs23 := hb.size
    have HX3 := Lib.hid hb
    have HB3 := Lib.hid (HB2.out.trans (hb.mono HB2.out.size))
    have HO3 := Lib.hid (HO.out.call hb)
    clear hb hc2 HO
    go_wp2_with fail
    obtain ⟨w4, hw4⟩ : ∃ w4, w3.alloc (.cells #[.string L0] 9) = w4 := ⟨_, rfl⟩
    obtain ⟨hb, hhb⟩ : ∃ hb, w3.heap.size = hb := ⟨_, rfl⟩
    have HH4 : Hid (w4.heap[hb]? = some (.cells #[.string (M 0)] 9 (0, 0))) := by rw [hz0.out, ← hw4]; exact blk_new _ _ _ hhb.symm
    have HB4 : Hid (Below hb w3 w4) := by rw [← hw4, ← hhb]; exact below_alloc (Below.refl _ _) (Nat.le_refl _) _
    have HHB := Lib.hid hhb
    rw [hw4, hhb]
    rw [hhb] at hs23
    clear hw4 hhb
    go_loopw [55] (fun iv wr => ∃ i : Nat, iv = .int .i64 i ∧ Hid (i ≤ P) ∧ Hid (wr.heap[hb]? = some (.cells #[.string (M i)] 9 (0, 0))) ∧ Hid (Below hb w3 wr) ∧ Hid (∀ (j : Nat) (o : ByteArray), j < i → p[j]? = some o → (o.size : Int) = m)) (fun iv _ => P - (intOf iv).toNat)
    case atStart => exact ⟨0, rfl, Nat.zero_le _, HH4, HB4, fun j o hj => by omega⟩
    case round =>
      clear HH4 HB4
      obtain ⟨i, rfl, hi, HH, HB, hj⟩ := hrel
      have hi2 := hi.out
      have HBw := Lib.hid (HB3.out.trans (HB.out.mono (show w.heap.size ≤ hb by omega)))
      have hlth := (Array.getElem?_eq_some_iff.1 HH.out).1
      have hcN : wr.cell? ⟨w.heap.size, 0, none⟩ = some (.int .i64 m) := (HB.out.cell (p := ⟨w.heap.size, 0, none⟩) (show w.heap.size < hb by omega)).trans hc3
      by_cases hlt : i < P
      · obtain ⟨o, hoo⟩ := hgp.out i hlt
        obtain ⟨d, hdd⟩ := hgd.out (P - 1 - i) (by omega)
        obtain ⟨b1, o1, rfl, hb1, k1⟩ := hv.out.cells i o hoo
        have hco : wr.cell? ⟨b1, o1 + i, none⟩ = some (.string o) := (HBw.out.cell (p := ⟨b1, o1 + i, none⟩) hb1).trans k1
        have hos := hF.out i o hoo
        by_cases hsz : (o.size : Int) = m
        · obtain ⟨g, gcap', hsl⟩ := ownsRow_succ (v := .slice ga P gcap) (k := P - 1) (xs := D.map Value.bool) (by rw [show P - 1 + 1 = P by omega]; exact HO3.out)
          obtain rfl : ga = some ⟨g, 0, none⟩ := by injection hsl
          have hO3 := HO3.out
          have hg3 : g < w3.heap.size := (hO3.lt g rfl).2
          have hcd3 : w3.cell? ⟨g, P - 1 - i, none⟩ = some (.bool d) := by rw [hO3.cellAt (P - 1 - i) (by omega), List.getElem?_map, hdd]; rfl
          have hcd : wr.cell? ⟨g, P - 1 - i, none⟩ = some (.bool d) := (HB.out.cell (p := ⟨g, P - 1 - i, none⟩) (show g < hb by rw [← HHB.out]; exact hg3)).trans hcd3
          have hidx : ((P - 1 - i : Nat) : Int) = (P : Int) - 1 - i := by omega
          have hMn : Hid (joinS K H m (M i) d o = M (i + 1)) := (hst.out i d o hdd hoo).symm
          have hjn : Hid (∀ (j : Nat) (o : ByteArray), j < i + 1 → p[j]? = some o → (o.size : Int) = m) := fun j q hj2 hq => by
            by_cases hji : j < i
            · exact hj.out j q hji hq
            · obtain rfl : j = i := by omega
              rw [hoo] at hq
              cases hq
              exact hsz
          have qJ := Lib.hid (join_any K H m hb w.heap.size (M i) o d wr (by show _ ∧ _; omega) (Lib.hid (hT.out.call HBw.out)) (by show _ ≤ _; have := hml.out i; omega) (by show _ ≤ _; omega) HH (Lib.hid hcN))
          rw [hMn.out] at qJ
          clear hO3 hcd3 hsl hoo hdd hj hi
          go_wp2_with fail
          refine qJ.out.mono ?_
          rintro e w5 ⟨rfl, hbx, hgr⟩
          have HH5 := Lib.hid hbx
          have HB5 := Lib.hid (HB.out.grown hgr (by omega) (fun k hk => by injection hk with hk; omega))
          clear hbx hgr
          go_wp2_with fail
          go_roundw
          case rel => exact ⟨i + 1, by go_num, by show _ ≤ _; omega, HH5, HB5, hjn⟩
          case measure => simp [intOf]; omega
        · have hE : Hid (CK root = false) := by show _ = _; rw [hCk.out, hbad.out i o hoo hsz, Bool.false_and]
          clear hj hi hoo hdd
          go_wp2_with fail
          go_ret
          exact ⟨by rw [hE.out]; rfl, HBw.out⟩
      · have hin : i = P := by omega
        subst hin
        have hA : Hid (CK root = decide (M i = root)) := by
          show _ = _
          rw [hCk.out, hall.out (fun j o ho => hj.out j o (hle.out j o ho) ho), Bool.true_and, hal.out]
        have hcH : wr.cell? ⟨hb, 0, none⟩ = some (.string (M i)) := cells_of_blk HH.out 0 _ rfl
        generalize M i = R at *
        clear hj hi
        by_cases hR : R = root
        · have hbq : (R.toList == root.toList) = true := by rw [hR]; simp
          have hE : Hid (CK root = true) := by show _ = _; rw [hA.out]; exact decide_eq_true hR
          clear hA hR
          go_wp2_with fail
          go_ret
          exact ⟨by rw [hE.out]; rfl, HBw.out⟩
        · have hbq : (R.toList == root.toList) = false := strs_ne hR
          have hE : Hid (CK root = false) := by show _ = _; rw [hA.out]; exact decide_eq_false hR
          clear hA hR
          go_wp2_with fail
          go_ret
          exact ⟨by rw [hE.out]; rfl, HBw.out⟩
  · have e1 : checkS K H m leaf k c p root = false := by unfold checkS; rw [decide_eq_false hl]; rfl
    rw [e1]
    generalize waysS k c = D at *
    generalize p.length = P at *
    have hne : ¬ (D.length : Int) = (P : Int) := by omega
    have HB0 : Hid (Below w.heap.size w (w.alloc (.cells #[.int .i64 m] 3))) := below_alloc (Below.refl _ _) (Nat.le_refl _) _
    clear e1 qL
    go_enter Tryd.func39, Tryd.ntmps39
    go_wp2_with fail
    refine (qW.out _).mono ?_
    rintro e w2 ⟨⟨v', rfl, ho⟩, hb⟩
    obtain ⟨ga, gcap, rfl⟩ := row_form ho
    have HB2 := Lib.hid (HB0.out.trans (hb.mono HB0.out.size))
    clear ho hb
    go_wp2_with fail
    go_ret
    exact ⟨rfl, HB2.out⟩
end Go.Proofs.YtaigngdlioplaaaDoor
