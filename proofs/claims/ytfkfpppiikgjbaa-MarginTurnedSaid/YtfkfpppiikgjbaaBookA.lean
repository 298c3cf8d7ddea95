/- Books: how things are held against keys. -/
import Derived.Test.YtfkfpppiikgjbaaChecked
import Derived.Test.YtfkfpppiikgjbaaLib
import Derived.Test.YtfkfpppiikgjbaaPlain
import Derived.Test.YtfkfpppiikgjbaaBlk
import Derived.BigQuiet
namespace Go.Proofs.Ytfkfpppiikgjbaa
open Go Go.RowKit
set_option linter.unusedVariables false
set_option linter.unusedSimpArgs false

def cmpI (a b : Int) : Int := if a < b then -1 else if b < a then 1 else 0
theorem isNaN_any (x : Int) (w : World) : Calls Try.prog 145 #[.int .i64 x] w fun e w' => e = .returned (.bool false) ∧ w = w' := by
  have t : (x != x) = false := by simp
  go_enter Try.func145, Try.ntmps145
  go_wp2_with fail
  go_ret
  exact ⟨rfl, rfl⟩

set_option maxRecDepth 100000 in
theorem Compare_any (a b : Int) (w : World) : Calls Try.prog 100 #[.int .i64 a, .int .i64 b] w fun e w' => e = .returned (.int .i64 (cmpI a b)) ∧ w = w' := by
  have q1 := Lib.hid (isNaN_any a w)
  have q2 := Lib.hid (isNaN_any b w)
  by_cases h1 : a < b
  · rw [show cmpI a b = -1 from if_pos h1]
    have t1 : decide (a < b) = true := decide_eq_true h1
    go_enter Try.func100, Try.ntmps100
    go_wp2_with fail
    with_reducible refine q1.out.mono ?_
    rintro e w1 ⟨rfl, rfl⟩
    go_wp2_with fail
    with_reducible refine q2.out.mono ?_
    rintro e w1 ⟨rfl, rfl⟩
    go_wp2_with fail
    go_ret
    exact ⟨rfl, rfl⟩
  · have t1 : decide (a < b) = false := decide_eq_false h1
    by_cases h2 : b < a
    · rw [show cmpI a b = 1 from (if_neg h1).trans (if_pos h2)]
      have t2 : decide (b < a) = true := decide_eq_true h2
      go_enter Try.func100, Try.ntmps100
      go_wp2_with fail
      with_reducible refine q1.out.mono ?_
      rintro e w1 ⟨rfl, rfl⟩
      go_wp2_with fail
      with_reducible refine q2.out.mono ?_
      rintro e w1 ⟨rfl, rfl⟩
      go_wp2_with fail
      go_ret
      exact ⟨rfl, rfl⟩
    · rw [show cmpI a b = 0 from (if_neg h1).trans (if_neg h2)]
      have t2 : decide (b < a) = false := decide_eq_false h2
      go_enter Try.func100, Try.ntmps100
      go_wp2_with fail
      with_reducible refine q1.out.mono ?_
      rintro e w1 ⟨rfl, rfl⟩
      go_wp2_with fail
      with_reducible refine q2.out.mono ?_
      rintro e w1 ⟨rfl, rfl⟩
      go_wp2_with fail
      go_ret
      exact ⟨rfl, rfl⟩

-- PRINTED FROM HERE ON BY genBookA.py
/-- A row of records of whole numbers. -/
def RecAt (w : World) (v : Value) (k : Nat) (l : List (List Int)) : Prop :=
  ∃ A c, v = .slice A l.length c ∧ ∀ (i : Nat) (r : List Int), l[i]? = some r → r.length = k ∧ ∃ b o, A = some ⟨b, o, none⟩ ∧ b < w.heap.size ∧ ∀ (j : Nat) (x : Int), r[j]? = some x → w.cell? ⟨b, o + i * k + j, none⟩ = some (.int .i64 x)
theorem RecAt.call {w w' : World} {v : Value} {k : Nat} {l : List (List Int)} (h : RecAt w v k l) (hb : Below w.heap.size w w') : RecAt w' v k l := by
  obtain ⟨A, c, rfl, hi⟩ := h
  refine ⟨A, c, rfl, fun i r hr => ?_⟩
  obtain ⟨h1, b, o, rfl, hl, hc⟩ := hi i r hr
  exact ⟨h1, b, o, rfl, Nat.lt_of_lt_of_le hl hb.size, fun j x hx => (hb.cell (p := ⟨b, o + i * k + j, none⟩) hl).trans (hc j x hx)⟩
theorem cmpI_lt (a b : Int) : decide (cmpI a b < 0) = decide (a < b) := by
  unfold cmpI
  split
  · rename_i h; simp [h]
  · rename_i h; split <;> simp [h]
theorem cmpI_eq (a b : Int) : (cmpI a b == 0) = decide (a = b) := by
  unfold cmpI
  split
  · rename_i h; rw [decide_eq_false (by omega)]; rfl
  · split
    · rw [decide_eq_false (by omega)]; rfl
    · rw [decide_eq_true (by omega)]; rfl

set_option maxRecDepth 100000 in
theorem byHolder_any (a b c d id : Int) (w : World) : Calls Try.prog 50 #[.agg #[.int .i64 a, .int .i64 b, .int .i64 c, .int .i64 d], .int .i64 id] w fun e w' => e = .returned (.int .i64 (cmpI a id)) ∧ Below w.heap.size w w' := by
  have q := Lib.hid (fun w => Compare_any a id w)
  have c0 := cells_of_blk (heap_new w (.cells #[.int .i64 a, .int .i64 b, .int .i64 c, .int .i64 d] 39)) 0 _ rfl
  go_enter Try.func50, Try.ntmps50
  go_wp2_with fail
  with_reducible refine (q.out _).mono ?_
  rintro e w1 ⟨rfl, rfl⟩
  go_wp2_with fail
  go_ret
  exact ⟨rfl, below_alloc (Below.refl _ _) (Nat.le_refl _) _⟩

set_option maxRecDepth 100000 in
set_option maxHeartbeats 2000000 in
theorem SearchHolder_any (v : Value) (l : List (List Int)) (id : Int) (p : Nat) (F : Bool) (w : World) (hv : Hid (RecAt w v 4 l)) (hl : l.length ≤ 1000000) (hp : p ≤ l.length) (hlt : Hid (∀ (h : Nat) (r : List Int), l[h]? = some r → (r.headD 0 < id ↔ h < p))) (hF : Hid (F = match l[p]? with | some r => decide (r.headD 0 = id) | none => false)) :
    Calls Try.prog 97 #[v, .int .i64 id, .func (.func 50) #[] #[]] w fun e w' => e = .returned (.tuple #[.int .i64 p, .bool F]) ∧ Below w.heap.size w w' := by
  obtain ⟨A, c, rfl, hi⟩ := hv.out
  have HI := Lib.hid hi
  clear hi
  have q := Lib.hid (fun x0 x1 x2 x3 w => byHolder_any x0 x1 x2 x3 id w)
  go_enter Try.func97, Try.ntmps97
  go_wp2_with fail
  go_loopw [9, 10] (fun s9 s10 wr => ∃ i j : Nat, s9 = .int .i64 i ∧ s10 = .int .i64 j ∧ Hid (i ≤ p) ∧ Hid (p ≤ j) ∧ Hid (j ≤ l.length) ∧ Hid (Below w.heap.size w wr)) (fun s9 s10 _ => (intOf s10).toNat - (intOf s9).toNat)
  case atStart => exact ⟨0, l.length, rfl, rfl, Nat.zero_le _, hp, Nat.le_refl _, Below.refl _ _⟩
  case round =>
    obtain ⟨i, j, rfl, rfl, hip, hpj, hjl, hB⟩ := hrel
    have hip := hip.out
    have hpj := hpj.out
    have hjl := hjl.out
    by_cases hij : i < j
    · have t0 : decide ((i : Int) < (j : Int)) = true := decide_eq_true (by omega)
      obtain ⟨h, hh⟩ : ∃ h, (i + j) / 2 = h := ⟨_, rfl⟩
      have hh1 : i ≤ h ∧ h < j := by omega
      have hge : l[h]? = some l[h] := List.getElem?_eq_getElem (by omega)
      obtain ⟨hk, b0, o0, rfl, hbl, hc⟩ := HI.out h _ hge
      have hs := Lib.hid (hlt.out h _ hge)
      clear hge
      generalize l[h] = r at *
      obtain ⟨x0, x1, x2, x3, rfl⟩ : ∃ x0 x1 x2 x3, r = [x0, x1, x2, x3] := by
        match r, hk with
        | [x0, x1, x2, x3], _ => exact ⟨x0, x1, x2, x3, rfl⟩
      have hs : Hid (x0 < id ↔ h < p) := hs
      have c0 := (hB.out.cell (p := ⟨b0, o0 + h * 4, none⟩) hbl).trans (hc 0 _ rfl)
      have c1 := (hB.out.cell (p := ⟨b0, o0 + h * 4 + 1, none⟩) hbl).trans (hc 1 _ rfl)
      have c2 := (hB.out.cell (p := ⟨b0, o0 + h * 4 + 2, none⟩) hbl).trans (hc 2 _ rfl)
      have c3 := (hB.out.cell (p := ⟨b0, o0 + h * 4 + 3, none⟩) hbl).trans (hc 3 _ rfl)
      have eh : ((i : Int) + (j : Int)) / 2 = (h : Int) := by omega
      clear hc hk
      go_wp2_with fail
      with_reducible refine (q.out _ _ _ _ _).mono ?_
      rintro e w2 ⟨rfl, hb⟩
      have HB2 := Lib.hid (hB.out.trans (hb.mono hB.out.size))
      clear hb
      have tt := cmpI_lt x0 id
      generalize cmpI x0 id = CC at *
      by_cases hx : x0 < id
      · have t1 : decide (CC < 0) = true := tt.trans (decide_eq_true hx)
        have hhp := hs.out.1 hx
        clear tt hx
        go_wp2_with fail
        go_roundw
        case rel => exact ⟨h + 1, j, by go_num, rfl, by show _ ≤ _; omega, hpj, hjl, HB2.out⟩
        case measure => simp [intOf]; omega
      · have t1 : decide (CC < 0) = false := tt.trans (decide_eq_false hx)
        have hhp : ¬ h < p := fun h2 => hx (hs.out.2 h2)
        clear tt hx
        go_wp2_with fail
        go_roundw
        case rel => exact ⟨i, h, rfl, rfl, hip, by show _ ≤ _; omega, by show _ ≤ _; omega, HB2.out⟩
        case measure => simp [intOf]; omega
    · obtain rfl : i = p := by omega
      obtain rfl : j = i := by omega
      have t0 : decide ((j : Int) < (j : Int)) = false := decide_eq_false (by omega)
      by_cases hjn : j < l.length
      · have t1 : decide ((j : Int) < (l.length : Int)) = true := decide_eq_true (by omega)
        have hge : l[j]? = some l[j] := List.getElem?_eq_getElem hjn
        obtain ⟨hk, b0, o0, rfl, hbl, hc⟩ := HI.out j _ hge
        rw [hge] at hF
        clear hge
        generalize l[j] = r at *
        obtain ⟨x0, x1, x2, x3, rfl⟩ : ∃ x0 x1 x2 x3, r = [x0, x1, x2, x3] := by
          match r, hk with
          | [x0, x1, x2, x3], _ => exact ⟨x0, x1, x2, x3, rfl⟩
        have hF : Hid (F = decide (x0 = id)) := hF
        have c0 := (hB.out.cell (p := ⟨b0, o0 + j * 4, none⟩) hbl).trans (hc 0 _ rfl)
        have c1 := (hB.out.cell (p := ⟨b0, o0 + j * 4 + 1, none⟩) hbl).trans (hc 1 _ rfl)
        have c2 := (hB.out.cell (p := ⟨b0, o0 + j * 4 + 2, none⟩) hbl).trans (hc 2 _ rfl)
        have c3 := (hB.out.cell (p := ⟨b0, o0 + j * 4 + 3, none⟩) hbl).trans (hc 3 _ rfl)
        clear hc hk
        go_wp2_with fail
        with_reducible refine (q.out _ _ _ _ _).mono ?_
        rintro e w2 ⟨rfl, hb⟩
        have HB2 := Lib.hid (hB.out.trans (hb.mono hB.out.size))
        clear hb
        have tt := cmpI_eq x0 id
        rw [← hF.out] at tt
        generalize cmpI x0 id = CC at *
        go_wp2_with fail
        go_ret2
        exact ⟨rfl, HB2.out⟩
      · have t1 : decide ((j : Int) < (l.length : Int)) = false := decide_eq_false (by omega)
        have hF : Hid (F = false) := by
          show F = false
          rw [hF.out, List.getElem?_eq_none (by omega)]
        obtain rfl : F = false := hF.out
        go_wp2_with fail
        go_ret2
        exact ⟨rfl, hB.out⟩

set_option maxRecDepth 100000 in
theorem byOpen_any (a b c d u v id : Int) (w : World) : Calls Try.prog 55 #[.agg #[.int .i64 a, .int .i64 b, .int .i64 c, .int .i64 d, .int .i64 u, .int .i64 v], .int .i64 id] w fun e w' => e = .returned (.int .i64 (cmpI a id)) ∧ Below w.heap.size w w' := by
  have q := Lib.hid (fun w => Compare_any a id w)
  have c0 := cells_of_blk (heap_new w (.cells #[.int .i64 a, .int .i64 b, .int .i64 c, .int .i64 d, .int .i64 u, .int .i64 v] 43)) 0 _ rfl
  go_enter Try.func55, Try.ntmps55
  go_wp2_with fail
  with_reducible refine (q.out _).mono ?_
  rintro e w1 ⟨rfl, rfl⟩
  go_wp2_with fail
  go_ret
  exact ⟨rfl, below_alloc (Below.refl _ _) (Nat.le_refl _) _⟩

set_option maxRecDepth 100000 in
set_option maxHeartbeats 2000000 in
theorem SearchOpen_any (v : Value) (l : List (List Int)) (id : Int) (p : Nat) (F : Bool) (w : World) (hv : Hid (RecAt w v 6 l)) (hl : l.length ≤ 1000000) (hp : p ≤ l.length) (hlt : Hid (∀ (h : Nat) (r : List Int), l[h]? = some r → (r.headD 0 < id ↔ h < p))) (hF : Hid (F = match l[p]? with | some r => decide (r.headD 0 = id) | none => false)) :
    Calls Try.prog 105 #[v, .int .i64 id, .func (.func 55) #[] #[]] w fun e w' => e = .returned (.tuple #[.int .i64 p, .bool F]) ∧ Below w.heap.size w w' := by
  obtain ⟨A, c, rfl, hi⟩ := hv.out
  have HI := Lib.hid hi
  clear hi
  have q := Lib.hid (fun x0 x1 x2 x3 x4 x5 w => byOpen_any x0 x1 x2 x3 x4 x5 id w)
  go_enter Try.func105, Try.ntmps105
  go_wp2_with fail
  go_loopw [9, 10] (fun s9 s10 wr => ∃ i j : Nat, s9 = .int .i64 i ∧ s10 = .int .i64 j ∧ Hid (i ≤ p) ∧ Hid (p ≤ j) ∧ Hid (j ≤ l.length) ∧ Hid (Below w.heap.size w wr)) (fun s9 s10 _ => (intOf s10).toNat - (intOf s9).toNat)
  case atStart => exact ⟨0, l.length, rfl, rfl, Nat.zero_le _, hp, Nat.le_refl _, Below.refl _ _⟩
  case round =>
    obtain ⟨i, j, rfl, rfl, hip, hpj, hjl, hB⟩ := hrel
    have hip := hip.out
    have hpj := hpj.out
    have hjl := hjl.out
    by_cases hij : i < j
    · have t0 : decide ((i : Int) < (j : Int)) = true := decide_eq_true (by omega)
      obtain ⟨h, hh⟩ : ∃ h, (i + j) / 2 = h := ⟨_, rfl⟩
      have hh1 : i ≤ h ∧ h < j := by omega
      have hge : l[h]? = some l[h] := List.getElem?_eq_getElem (by omega)
      obtain ⟨hk, b0, o0, rfl, hbl, hc⟩ := HI.out h _ hge
      have hs := Lib.hid (hlt.out h _ hge)
      clear hge
      generalize l[h] = r at *
      obtain ⟨x0, x1, x2, x3, x4, x5, rfl⟩ : ∃ x0 x1 x2 x3 x4 x5, r = [x0, x1, x2, x3, x4, x5] := by
        match r, hk with
        | [x0, x1, x2, x3, x4, x5], _ => exact ⟨x0, x1, x2, x3, x4, x5, rfl⟩
      have hs : Hid (x0 < id ↔ h < p) := hs
      have c0 := (hB.out.cell (p := ⟨b0, o0 + h * 6, none⟩) hbl).trans (hc 0 _ rfl)
      have c1 := (hB.out.cell (p := ⟨b0, o0 + h * 6 + 1, none⟩) hbl).trans (hc 1 _ rfl)
      have c2 := (hB.out.cell (p := ⟨b0, o0 + h * 6 + 2, none⟩) hbl).trans (hc 2 _ rfl)
      have c3 := (hB.out.cell (p := ⟨b0, o0 + h * 6 + 3, none⟩) hbl).trans (hc 3 _ rfl)
      have c4 := (hB.out.cell (p := ⟨b0, o0 + h * 6 + 4, none⟩) hbl).trans (hc 4 _ rfl)
      have c5 := (hB.out.cell (p := ⟨b0, o0 + h * 6 + 5, none⟩) hbl).trans (hc 5 _ rfl)
      have eh : ((i : Int) + (j : Int)) / 2 = (h : Int) := by omega
      clear hc hk
      go_wp2_with fail
      with_reducible refine (q.out _ _ _ _ _ _ _).mono ?_
      rintro e w2 ⟨rfl, hb⟩
      have HB2 := Lib.hid (hB.out.trans (hb.mono hB.out.size))
      clear hb
      have tt := cmpI_lt x0 id
      generalize cmpI x0 id = CC at *
      by_cases hx : x0 < id
      · have t1 : decide (CC < 0) = true := tt.trans (decide_eq_true hx)
        have hhp := hs.out.1 hx
        clear tt hx
        go_wp2_with fail
        go_roundw
        case rel => exact ⟨h + 1, j, by go_num, rfl, by show _ ≤ _; omega, hpj, hjl, HB2.out⟩
        case measure => simp [intOf]; omega
      · have t1 : decide (CC < 0) = false := tt.trans (decide_eq_false hx)
        have hhp : ¬ h < p := fun h2 => hx (hs.out.2 h2)
        clear tt hx
        go_wp2_with fail
        go_roundw
        case rel => exact ⟨i, h, rfl, rfl, hip, by show _ ≤ _; omega, by show _ ≤ _; omega, HB2.out⟩
        case measure => simp [intOf]; omega
    · obtain rfl : i = p := by omega
      obtain rfl : j = i := by omega
      have t0 : decide ((j : Int) < (j : Int)) = false := decide_eq_false (by omega)
      by_cases hjn : j < l.length
      · have t1 : decide ((j : Int) < (l.length : Int)) = true := decide_eq_true (by omega)
        have hge : l[j]? = some l[j] := List.getElem?_eq_getElem hjn
        obtain ⟨hk, b0, o0, rfl, hbl, hc⟩ := HI.out j _ hge
        rw [hge] at hF
        clear hge
        generalize l[j] = r at *
        obtain ⟨x0, x1, x2, x3, x4, x5, rfl⟩ : ∃ x0 x1 x2 x3 x4 x5, r = [x0, x1, x2, x3, x4, x5] := by
          match r, hk with
          | [x0, x1, x2, x3, x4, x5], _ => exact ⟨x0, x1, x2, x3, x4, x5, rfl⟩
        have hF : Hid (F = decide (x0 = id)) := hF
        have c0 := (hB.out.cell (p := ⟨b0, o0 + j * 6, none⟩) hbl).trans (hc 0 _ rfl)
        have c1 := (hB.out.cell (p := ⟨b0, o0 + j * 6 + 1, none⟩) hbl).trans (hc 1 _ rfl)
        have c2 := (hB.out.cell (p := ⟨b0, o0 + j * 6 + 2, none⟩) hbl).trans (hc 2 _ rfl)
        have c3 := (hB.out.cell (p := ⟨b0, o0 + j * 6 + 3, none⟩) hbl).trans (hc 3 _ rfl)
        have c4 := (hB.out.cell (p := ⟨b0, o0 + j * 6 + 4, none⟩) hbl).trans (hc 4 _ rfl)
        have c5 := (hB.out.cell (p := ⟨b0, o0 + j * 6 + 5, none⟩) hbl).trans (hc 5 _ rfl)
        clear hc hk
        go_wp2_with fail
        with_reducible refine (q.out _ _ _ _ _ _ _).mono ?_
        rintro e w2 ⟨rfl, hb⟩
        have HB2 := Lib.hid (hB.out.trans (hb.mono hB.out.size))
        clear hb
        have tt := cmpI_eq x0 id
        rw [← hF.out] at tt
        generalize cmpI x0 id = CC at *
        go_wp2_with fail
        go_ret2
        exact ⟨rfl, HB2.out⟩
      · have t1 : decide ((j : Int) < (l.length : Int)) = false := decide_eq_false (by omega)
        have hF : Hid (F = false) := by
          show F = false
          rw [hF.out, List.getElem?_eq_none (by omega)]
        obtain rfl : F = false := hF.out
        go_wp2_with fail
        go_ret2
        exact ⟨rfl, hB.out⟩

set_option maxRecDepth 100000 in
theorem byRate_any (a b id : Int) (w : World) : Calls Try.prog 57 #[.agg #[.int .i64 a, .int .i64 b], .int .i64 id] w fun e w' => e = .returned (.int .i64 (cmpI a id)) ∧ Below w.heap.size w w' := by
  have q := Lib.hid (fun w => Compare_any a id w)
  have c0 := cells_of_blk (heap_new w (.cells #[.int .i64 a, .int .i64 b] 45)) 0 _ rfl
  go_enter Try.func57, Try.ntmps57
  go_wp2_with fail
  with_reducible refine (q.out _).mono ?_
  rintro e w1 ⟨rfl, rfl⟩
  go_wp2_with fail
  go_ret
  exact ⟨rfl, below_alloc (Below.refl _ _) (Nat.le_refl _) _⟩

set_option maxRecDepth 100000 in
set_option maxHeartbeats 2000000 in
theorem SearchRate_any (v : Value) (l : List (List Int)) (id : Int) (p : Nat) (F : Bool) (w : World) (hv : Hid (RecAt w v 2 l)) (hl : l.length ≤ 1000000) (hp : p ≤ l.length) (hlt : Hid (∀ (h : Nat) (r : List Int), l[h]? = some r → (r.headD 0 < id ↔ h < p))) (hF : Hid (F = match l[p]? with | some r => decide (r.headD 0 = id) | none => false)) :
    Calls Try.prog 108 #[v, .int .i64 id, .func (.func 57) #[] #[]] w fun e w' => e = .returned (.tuple #[.int .i64 p, .bool F]) ∧ Below w.heap.size w w' := by
  obtain ⟨A, c, rfl, hi⟩ := hv.out
  have HI := Lib.hid hi
  clear hi
  have q := Lib.hid (fun x0 x1 w => byRate_any x0 x1 id w)
  go_enter Try.func108, Try.ntmps108
  go_wp2_with fail
  go_loopw [9, 10] (fun s9 s10 wr => ∃ i j : Nat, s9 = .int .i64 i ∧ s10 = .int .i64 j ∧ Hid (i ≤ p) ∧ Hid (p ≤ j) ∧ Hid (j ≤ l.length) ∧ Hid (Below w.heap.size w wr)) (fun s9 s10 _ => (intOf s10).toNat - (intOf s9).toNat)
  case atStart => exact ⟨0, l.length, rfl, rfl, Nat.zero_le _, hp, Nat.le_refl _, Below.refl _ _⟩
  case round =>
    obtain ⟨i, j, rfl, rfl, hip, hpj, hjl, hB⟩ := hrel
    have hip := hip.out
    have hpj := hpj.out
    have hjl := hjl.out
    by_cases hij : i < j
    · have t0 : decide ((i : Int) < (j : Int)) = true := decide_eq_true (by omega)
      obtain ⟨h, hh⟩ : ∃ h, (i + j) / 2 = h := ⟨_, rfl⟩
      have hh1 : i ≤ h ∧ h < j := by omega
      have hge : l[h]? = some l[h] := List.getElem?_eq_getElem (by omega)
      obtain ⟨hk, b0, o0, rfl, hbl, hc⟩ := HI.out h _ hge
      have hs := Lib.hid (hlt.out h _ hge)
      clear hge
      generalize l[h] = r at *
      obtain ⟨x0, x1, rfl⟩ : ∃ x0 x1, r = [x0, x1] := by
        match r, hk with
        | [x0, x1], _ => exact ⟨x0, x1, rfl⟩
      have hs : Hid (x0 < id ↔ h < p) := hs
      have c0 := (hB.out.cell (p := ⟨b0, o0 + h * 2, none⟩) hbl).trans (hc 0 _ rfl)
      have c1 := (hB.out.cell (p := ⟨b0, o0 + h * 2 + 1, none⟩) hbl).trans (hc 1 _ rfl)
      have eh : ((i : Int) + (j : Int)) / 2 = (h : Int) := by omega
      clear hc hk
      go_wp2_with fail
      with_reducible refine (q.out _ _ _).mono ?_
      rintro e w2 ⟨rfl, hb⟩
      have HB2 := Lib.hid (hB.out.trans (hb.mono hB.out.size))
      clear hb
      have tt := cmpI_lt x0 id
      generalize cmpI x0 id = CC at *
      by_cases hx : x0 < id
      · have t1 : decide (CC < 0) = true := tt.trans (decide_eq_true hx)
        have hhp := hs.out.1 hx
        clear tt hx
        go_wp2_with fail
        go_roundw
        case rel => exact ⟨h + 1, j, by go_num, rfl, by show _ ≤ _; omega, hpj, hjl, HB2.out⟩
        case measure => simp [intOf]; omega
      · have t1 : decide (CC < 0) = false := tt.trans (decide_eq_false hx)
        have hhp : ¬ h < p := fun h2 => hx (hs.out.2 h2)
        clear tt hx
        go_wp2_with fail
        go_roundw
        case rel => exact ⟨i, h, rfl, rfl, hip, by show _ ≤ _; omega, by show _ ≤ _; omega, HB2.out⟩
        case measure => simp [intOf]; omega
    · obtain rfl : i = p := by omega
      obtain rfl : j = i := by omega
      have t0 : decide ((j : Int) < (j : Int)) = false := decide_eq_false (by omega)
      by_cases hjn : j < l.length
      · have t1 : decide ((j : Int) < (l.length : Int)) = true := decide_eq_true (by omega)
        have hge : l[j]? = some l[j] := List.getElem?_eq_getElem hjn
        obtain ⟨hk, b0, o0, rfl, hbl, hc⟩ := HI.out j _ hge
        rw [hge] at hF
        clear hge
        generalize l[j] = r at *
        obtain ⟨x0, x1, rfl⟩ : ∃ x0 x1, r = [x0, x1] := by
          match r, hk with
          | [x0, x1], _ => exact ⟨x0, x1, rfl⟩
        have hF : Hid (F = decide (x0 = id)) := hF
        have c0 := (hB.out.cell (p := ⟨b0, o0 + j * 2, none⟩) hbl).trans (hc 0 _ rfl)
        have c1 := (hB.out.cell (p := ⟨b0, o0 + j * 2 + 1, none⟩) hbl).trans (hc 1 _ rfl)
        clear hc hk
        go_wp2_with fail
        with_reducible refine (q.out _ _ _).mono ?_
        rintro e w2 ⟨rfl, hb⟩
        have HB2 := Lib.hid (hB.out.trans (hb.mono hB.out.size))
        clear hb
        have tt := cmpI_eq x0 id
        rw [← hF.out] at tt
        generalize cmpI x0 id = CC at *
        go_wp2_with fail
        go_ret2
        exact ⟨rfl, HB2.out⟩
      · have t1 : decide ((j : Int) < (l.length : Int)) = false := decide_eq_false (by omega)
        have hF : Hid (F = false) := by
          show F = false
          rw [hF.out, List.getElem?_eq_none (by omega)]
        obtain rfl : F = false := hF.out
        go_wp2_with fail
        go_ret2
        exact ⟨rfl, hB.out⟩

end Go.Proofs.Ytfkfpppiikgjbaa
