/- Books: slices.Equal at the four records. PRINTED BY genBookW.py. -/
import Derived.Test.YtfkfpppiikgjbaaBookP
namespace Go.Proofs.Ytfkfpppiikgjbaa
open Go Go.RowKit
set_option linter.unusedVariables false
set_option linter.unusedSimpArgs false

set_option maxRecDepth 100000 in
set_option maxHeartbeats 2000000 in
theorem EqualHolder_any (v v' : Value) (l m : List (List Int)) (w : World) (hv : Hid (RecAt w v 4 l)) (hv' : Hid (RecAt w v' 4 m)) (hl : l.length ≤ 1000000) (hm : m.length ≤ 1000000) :
    Calls Try.prog 70 #[v, v'] w fun e w' => e = .returned (.bool (decide (l = m))) ∧ Below w.heap.size w w' := by
  obtain ⟨A, c, rfl, hi⟩ := hv.out
  obtain ⟨A', c', rfl, hi'⟩ := hv'.out
  have HI := Lib.hid hi
  have HI' := Lib.hid hi'
  clear hi hv hi' hv'
  obtain ⟨Res, hRes⟩ : ∃ Res, decide (l = m) = Res := ⟨_, rfl⟩
  rw [hRes]
  replace hRes := Lib.hid hRes
  by_cases hlm : l.length = m.length
  · have t0 : (((l.length : Nat) : Int) != ((m.length : Nat) : Int)) = false := by simp; omega
    have eh : Hid (l.length = m.length) := hlm
    clear hlm
    go_enter Try.func70, Try.ntmps70
    go_wp2_with fail
    clear t0
    go_loopw [5, 13] (fun _ s6 wr => ∃ j : Nat, s6 = .int .i64 j ∧ Hid (j ≤ l.length) ∧ Hid (l.take j = m.take j) ∧ Hid (Below w.heap.size w wr)) (fun _ s6 _ => l.length - (intOf s6).toNat)
    case atStart => exact ⟨0, rfl, Nat.zero_le _, rfl, Below.refl _ _⟩
    case round =>
      obtain ⟨j, rfl, hjl, hrest, hBr⟩ := hrel
      replace hjl := hjl.out
      by_cases hin : j < l.length
      · have tn : decide ((j : Int) < (l.length : Int)) = true := decide_eq_true (by omega)
        have hge : l[j]? = some l[j] := List.getElem?_eq_getElem hin
        have hge2 : m[j]? = some m[j] := List.getElem?_eq_getElem (by have := eh.out; omega)
        obtain ⟨hk, b0, o0, hA0, hbl, hc⟩ := HI.out j _ hge
        subst hA0
        obtain ⟨hk2, b2, o2, hA0, hbl2, hc2⟩ := HI'.out j _ hge2
        subst hA0
        have HG1 := Lib.hid hge
        have HG2 := Lib.hid hge2
        clear hge hge2
        have hjc : j < m.length := by have := eh.out; omega
        generalize l[j] = r at *
        generalize m[j] = r2 at *
        obtain ⟨y0, y1, y2, y3, rfl⟩ : ∃ y0 y1 y2 y3, r = [y0, y1, y2, y3] := by
          match r, hk with
          | [y0, y1, y2, y3], _ => exact ⟨y0, y1, y2, y3, rfl⟩
        obtain ⟨z0, z1, z2, z3, rfl⟩ : ∃ z0 z1 z2 z3, r2 = [z0, z1, z2, z3] := by
          match r2, hk2 with
          | [z0, z1, z2, z3], _ => exact ⟨z0, z1, z2, z3, rfl⟩
        have c0 : wr.cell? ⟨b0, o0 + j * 4, none⟩ = some (.int .i64 y0) := (hBr.out.cell (p := ⟨b0, o0 + j * 4 + 0, none⟩) hbl).trans (hc 0 _ rfl)
        have d0 : wr.cell? ⟨b2, o2 + j * 4, none⟩ = some (.int .i64 z0) := (hBr.out.cell (p := ⟨b2, o2 + j * 4 + 0, none⟩) hbl2).trans (hc2 0 _ rfl)
        have c1 : wr.cell? ⟨b0, o0 + j * 4 + 1, none⟩ = some (.int .i64 y1) := (hBr.out.cell (p := ⟨b0, o0 + j * 4 + 1, none⟩) hbl).trans (hc 1 _ rfl)
        have d1 : wr.cell? ⟨b2, o2 + j * 4 + 1, none⟩ = some (.int .i64 z1) := (hBr.out.cell (p := ⟨b2, o2 + j * 4 + 1, none⟩) hbl2).trans (hc2 1 _ rfl)
        have c2 : wr.cell? ⟨b0, o0 + j * 4 + 2, none⟩ = some (.int .i64 y2) := (hBr.out.cell (p := ⟨b0, o0 + j * 4 + 2, none⟩) hbl).trans (hc 2 _ rfl)
        have d2 : wr.cell? ⟨b2, o2 + j * 4 + 2, none⟩ = some (.int .i64 z2) := (hBr.out.cell (p := ⟨b2, o2 + j * 4 + 2, none⟩) hbl2).trans (hc2 2 _ rfl)
        have c3 : wr.cell? ⟨b0, o0 + j * 4 + 3, none⟩ = some (.int .i64 y3) := (hBr.out.cell (p := ⟨b0, o0 + j * 4 + 3, none⟩) hbl).trans (hc 3 _ rfl)
        have d3 : wr.cell? ⟨b2, o2 + j * 4 + 3, none⟩ = some (.int .i64 z3) := (hBr.out.cell (p := ⟨b2, o2 + j * 4 + 3, none⟩) hbl2).trans (hc2 3 _ rfl)
        have tc : (j : Int) < (m.length : Int) := by omega
        have tb : (j : Int) < (l.length : Int) := by omega
        clear hc hc2 hk hk2
        have hne := fun wz => neqHolder y0 y1 y2 y3 z0 z1 z2 z3 wz
        by_cases he : ([y0, y1, y2, y3] : List Int) = [z0, z1, z2, z3]
        · rw [decide_eq_true he] at hne
          have hst2 := Lib.hid (take_step HG1.out HG2.out hrest.out he)
          clear he HG1 HG2
          go_wp2_with fail
          go_quiet (fail)
          go_wp2_with fail
          go_roundw
          case rel => exact ⟨j + 1, by go_num, by show _ ≤ _; omega, hst2.out, below_drewN hBr.out _⟩
          case measure => simp [intOf]; omega
        · rw [decide_eq_false he] at hne
          have hR : Res = false := by
            rw [← hRes.out]
            refine decide_eq_false fun hh => ?_
            have h1 := HG1.out
            rw [hh, HG2.out] at h1
            injection h1 with h1
            exact absurd h1.symm he
          subst hR
          clear he HG1 HG2
          go_wp2_with fail
          go_quiet (fail)
          go_wp2_with fail
          go_ret
          exact ⟨rfl, below_drewN hBr.out _⟩
      · have tn : decide ((j : Int) < (l.length : Int)) = false := decide_eq_false (by omega)
        have hR : Res = true := by
          rw [← hRes.out]
          exact decide_eq_true (take_all hrest.out (by omega) (by have := eh.out; omega))
        subst hR
        clear hrest hjl hRes
        go_wp2_with fail
        go_ret
        exact ⟨rfl, hBr.out⟩
  · have t0 : (((l.length : Nat) : Int) != ((m.length : Nat) : Int)) = true := by simp; omega
    have hR : Res = false := by
      rw [← hRes.out]
      exact decide_eq_false fun hh => hlm (by rw [hh])
    subst hR
    clear hlm hRes HI HI'
    go_enter Try.func70, Try.ntmps70
    go_wp2_with fail
    go_ret
    exact ⟨rfl, Below.refl _ _⟩

set_option maxRecDepth 100000 in
set_option maxHeartbeats 2000000 in
theorem EqualStake_any (v v' : Value) (l m : List (List Int)) (w : World) (hv : Hid (RecAt w v 3 l)) (hv' : Hid (RecAt w v' 3 m)) (hl : l.length ≤ 1000000) (hm : m.length ≤ 1000000) :
    Calls Try.prog 71 #[v, v'] w fun e w' => e = .returned (.bool (decide (l = m))) ∧ Below w.heap.size w w' := by
  obtain ⟨A, c, rfl, hi⟩ := hv.out
  obtain ⟨A', c', rfl, hi'⟩ := hv'.out
  have HI := Lib.hid hi
  have HI' := Lib.hid hi'
  clear hi hv hi' hv'
  obtain ⟨Res, hRes⟩ : ∃ Res, decide (l = m) = Res := ⟨_, rfl⟩
  rw [hRes]
  replace hRes := Lib.hid hRes
  by_cases hlm : l.length = m.length
  · have t0 : (((l.length : Nat) : Int) != ((m.length : Nat) : Int)) = false := by simp; omega
    have eh : Hid (l.length = m.length) := hlm
    clear hlm
    go_enter Try.func71, Try.ntmps71
    go_wp2_with fail
    clear t0
    go_loopw [5, 13] (fun _ s6 wr => ∃ j : Nat, s6 = .int .i64 j ∧ Hid (j ≤ l.length) ∧ Hid (l.take j = m.take j) ∧ Hid (Below w.heap.size w wr)) (fun _ s6 _ => l.length - (intOf s6).toNat)
    case atStart => exact ⟨0, rfl, Nat.zero_le _, rfl, Below.refl _ _⟩
    case round =>
      obtain ⟨j, rfl, hjl, hrest, hBr⟩ := hrel
      replace hjl := hjl.out
      by_cases hin : j < l.length
      · have tn : decide ((j : Int) < (l.length : Int)) = true := decide_eq_true (by omega)
        have hge : l[j]? = some l[j] := List.getElem?_eq_getElem hin
        have hge2 : m[j]? = some m[j] := List.getElem?_eq_getElem (by have := eh.out; omega)
        obtain ⟨hk, b0, o0, hA0, hbl, hc⟩ := HI.out j _ hge
        subst hA0
        obtain ⟨hk2, b2, o2, hA0, hbl2, hc2⟩ := HI'.out j _ hge2
        subst hA0
        have HG1 := Lib.hid hge
        have HG2 := Lib.hid hge2
        clear hge hge2
        have hjc : j < m.length := by have := eh.out; omega
        generalize l[j] = r at *
        generalize m[j] = r2 at *
        obtain ⟨y0, y1, y2, rfl⟩ : ∃ y0 y1 y2, r = [y0, y1, y2] := by
          match r, hk with
          | [y0, y1, y2], _ => exact ⟨y0, y1, y2, rfl⟩
        obtain ⟨z0, z1, z2, rfl⟩ : ∃ z0 z1 z2, r2 = [z0, z1, z2] := by
          match r2, hk2 with
          | [z0, z1, z2], _ => exact ⟨z0, z1, z2, rfl⟩
        have c0 : wr.cell? ⟨b0, o0 + j * 3, none⟩ = some (.int .i64 y0) := (hBr.out.cell (p := ⟨b0, o0 + j * 3 + 0, none⟩) hbl).trans (hc 0 _ rfl)
        have d0 : wr.cell? ⟨b2, o2 + j * 3, none⟩ = some (.int .i64 z0) := (hBr.out.cell (p := ⟨b2, o2 + j * 3 + 0, none⟩) hbl2).trans (hc2 0 _ rfl)
        have c1 : wr.cell? ⟨b0, o0 + j * 3 + 1, none⟩ = some (.int .i64 y1) := (hBr.out.cell (p := ⟨b0, o0 + j * 3 + 1, none⟩) hbl).trans (hc 1 _ rfl)
        have d1 : wr.cell? ⟨b2, o2 + j * 3 + 1, none⟩ = some (.int .i64 z1) := (hBr.out.cell (p := ⟨b2, o2 + j * 3 + 1, none⟩) hbl2).trans (hc2 1 _ rfl)
        have c2 : wr.cell? ⟨b0, o0 + j * 3 + 2, none⟩ = some (.int .i64 y2) := (hBr.out.cell (p := ⟨b0, o0 + j * 3 + 2, none⟩) hbl).trans (hc 2 _ rfl)
        have d2 : wr.cell? ⟨b2, o2 + j * 3 + 2, none⟩ = some (.int .i64 z2) := (hBr.out.cell (p := ⟨b2, o2 + j * 3 + 2, none⟩) hbl2).trans (hc2 2 _ rfl)
        have tc : (j : Int) < (m.length : Int) := by omega
        have tb : (j : Int) < (l.length : Int) := by omega
        clear hc hc2 hk hk2
        have hne := fun wz => neqStake y0 y1 y2 z0 z1 z2 wz
        by_cases he : ([y0, y1, y2] : List Int) = [z0, z1, z2]
        · rw [decide_eq_true he] at hne
          have hst2 := Lib.hid (take_step HG1.out HG2.out hrest.out he)
          clear he HG1 HG2
          go_wp2_with fail
          go_quiet (fail)
          go_wp2_with fail
          go_roundw
          case rel => exact ⟨j + 1, by go_num, by show _ ≤ _; omega, hst2.out, below_drewN hBr.out _⟩
          case measure => simp [intOf]; omega
        · rw [decide_eq_false he] at hne
          have hR : Res = false := by
            rw [← hRes.out]
            refine decide_eq_false fun hh => ?_
            have h1 := HG1.out
            rw [hh, HG2.out] at h1
            injection h1 with h1
            exact absurd h1.symm he
          subst hR
          clear he HG1 HG2
          go_wp2_with fail
          go_quiet (fail)
          go_wp2_with fail
          go_ret
          exact ⟨rfl, below_drewN hBr.out _⟩
      · have tn : decide ((j : Int) < (l.length : Int)) = false := decide_eq_false (by omega)
        have hR : Res = true := by
          rw [← hRes.out]
          exact decide_eq_true (take_all hrest.out (by omega) (by have := eh.out; omega))
        subst hR
        clear hrest hjl hRes
        go_wp2_with fail
        go_ret
        exact ⟨rfl, hBr.out⟩
  · have t0 : (((l.length : Nat) : Int) != ((m.length : Nat) : Int)) = true := by simp; omega
    have hR : Res = false := by
      rw [← hRes.out]
      exact decide_eq_false fun hh => hlm (by rw [hh])
    subst hR
    clear hlm hRes HI HI'
    go_enter Try.func71, Try.ntmps71
    go_wp2_with fail
    go_ret
    exact ⟨rfl, Below.refl _ _⟩

set_option maxRecDepth 100000 in
set_option maxHeartbeats 2000000 in
theorem EqualOpen_any (v v' : Value) (l m : List (List Int)) (w : World) (hv : Hid (RecAt w v 6 l)) (hv' : Hid (RecAt w v' 6 m)) (hl : l.length ≤ 1000000) (hm : m.length ≤ 1000000) :
    Calls Try.prog 72 #[v, v'] w fun e w' => e = .returned (.bool (decide (l = m))) ∧ Below w.heap.size w w' := by
  obtain ⟨A, c, rfl, hi⟩ := hv.out
  obtain ⟨A', c', rfl, hi'⟩ := hv'.out
  have HI := Lib.hid hi
  have HI' := Lib.hid hi'
  clear hi hv hi' hv'
  obtain ⟨Res, hRes⟩ : ∃ Res, decide (l = m) = Res := ⟨_, rfl⟩
  rw [hRes]
  replace hRes := Lib.hid hRes
  by_cases hlm : l.length = m.length
  · have t0 : (((l.length : Nat) : Int) != ((m.length : Nat) : Int)) = false := by simp; omega
    have eh : Hid (l.length = m.length) := hlm
    clear hlm
    go_enter Try.func72, Try.ntmps72
    go_wp2_with fail
    clear t0
    go_loopw [5, 13] (fun _ s6 wr => ∃ j : Nat, s6 = .int .i64 j ∧ Hid (j ≤ l.length) ∧ Hid (l.take j = m.take j) ∧ Hid (Below w.heap.size w wr)) (fun _ s6 _ => l.length - (intOf s6).toNat)
    case atStart => exact ⟨0, rfl, Nat.zero_le _, rfl, Below.refl _ _⟩
    case round =>
      obtain ⟨j, rfl, hjl, hrest, hBr⟩ := hrel
      replace hjl := hjl.out
      by_cases hin : j < l.length
      · have tn : decide ((j : Int) < (l.length : Int)) = true := decide_eq_true (by omega)
        have hge : l[j]? = some l[j] := List.getElem?_eq_getElem hin
        have hge2 : m[j]? = some m[j] := List.getElem?_eq_getElem (by have := eh.out; omega)
        obtain ⟨hk, b0, o0, hA0, hbl, hc⟩ := HI.out j _ hge
        subst hA0
        obtain ⟨hk2, b2, o2, hA0, hbl2, hc2⟩ := HI'.out j _ hge2
        subst hA0
        have HG1 := Lib.hid hge
        have HG2 := Lib.hid hge2
        clear hge hge2
        have hjc : j < m.length := by have := eh.out; omega
        generalize l[j] = r at *
        generalize m[j] = r2 at *
        obtain ⟨y0, y1, y2, y3, y4, y5, rfl⟩ : ∃ y0 y1 y2 y3 y4 y5, r = [y0, y1, y2, y3, y4, y5] := by
          match r, hk with
          | [y0, y1, y2, y3, y4, y5], _ => exact ⟨y0, y1, y2, y3, y4, y5, rfl⟩
        obtain ⟨z0, z1, z2, z3, z4, z5, rfl⟩ : ∃ z0 z1 z2 z3 z4 z5, r2 = [z0, z1, z2, z3, z4, z5] := by
          match r2, hk2 with
          | [z0, z1, z2, z3, z4, z5], _ => exact ⟨z0, z1, z2, z3, z4, z5, rfl⟩
        have c0 : wr.cell? ⟨b0, o0 + j * 6, none⟩ = some (.int .i64 y0) := (hBr.out.cell (p := ⟨b0, o0 + j * 6 + 0, none⟩) hbl).trans (hc 0 _ rfl)
        have d0 : wr.cell? ⟨b2, o2 + j * 6, none⟩ = some (.int .i64 z0) := (hBr.out.cell (p := ⟨b2, o2 + j * 6 + 0, none⟩) hbl2).trans (hc2 0 _ rfl)
        have c1 : wr.cell? ⟨b0, o0 + j * 6 + 1, none⟩ = some (.int .i64 y1) := (hBr.out.cell (p := ⟨b0, o0 + j * 6 + 1, none⟩) hbl).trans (hc 1 _ rfl)
        have d1 : wr.cell? ⟨b2, o2 + j * 6 + 1, none⟩ = some (.int .i64 z1) := (hBr.out.cell (p := ⟨b2, o2 + j * 6 + 1, none⟩) hbl2).trans (hc2 1 _ rfl)
        have c2 : wr.cell? ⟨b0, o0 + j * 6 + 2, none⟩ = some (.int .i64 y2) := (hBr.out.cell (p := ⟨b0, o0 + j * 6 + 2, none⟩) hbl).trans (hc 2 _ rfl)
        have d2 : wr.cell? ⟨b2, o2 + j * 6 + 2, none⟩ = some (.int .i64 z2) := (hBr.out.cell (p := ⟨b2, o2 + j * 6 + 2, none⟩) hbl2).trans (hc2 2 _ rfl)
        have c3 : wr.cell? ⟨b0, o0 + j * 6 + 3, none⟩ = some (.int .i64 y3) := (hBr.out.cell (p := ⟨b0, o0 + j * 6 + 3, none⟩) hbl).trans (hc 3 _ rfl)
        have d3 : wr.cell? ⟨b2, o2 + j * 6 + 3, none⟩ = some (.int .i64 z3) := (hBr.out.cell (p := ⟨b2, o2 + j * 6 + 3, none⟩) hbl2).trans (hc2 3 _ rfl)
        have c4 : wr.cell? ⟨b0, o0 + j * 6 + 4, none⟩ = some (.int .i64 y4) := (hBr.out.cell (p := ⟨b0, o0 + j * 6 + 4, none⟩) hbl).trans (hc 4 _ rfl)
        have d4 : wr.cell? ⟨b2, o2 + j * 6 + 4, none⟩ = some (.int .i64 z4) := (hBr.out.cell (p := ⟨b2, o2 + j * 6 + 4, none⟩) hbl2).trans (hc2 4 _ rfl)
        have c5 : wr.cell? ⟨b0, o0 + j * 6 + 5, none⟩ = some (.int .i64 y5) := (hBr.out.cell (p := ⟨b0, o0 + j * 6 + 5, none⟩) hbl).trans (hc 5 _ rfl)
        have d5 : wr.cell? ⟨b2, o2 + j * 6 + 5, none⟩ = some (.int .i64 z5) := (hBr.out.cell (p := ⟨b2, o2 + j * 6 + 5, none⟩) hbl2).trans (hc2 5 _ rfl)
        have tc : (j : Int) < (m.length : Int) := by omega
        have tb : (j : Int) < (l.length : Int) := by omega
        clear hc hc2 hk hk2
        have hne := fun wz => neqOpen y0 y1 y2 y3 y4 y5 z0 z1 z2 z3 z4 z5 wz
        by_cases he : ([y0, y1, y2, y3, y4, y5] : List Int) = [z0, z1, z2, z3, z4, z5]
        · rw [decide_eq_true he] at hne
          have hst2 := Lib.hid (take_step HG1.out HG2.out hrest.out he)
          clear he HG1 HG2
          go_wp2_with fail
          go_quiet (fail)
          go_wp2_with fail
          go_roundw
          case rel => exact ⟨j + 1, by go_num, by show _ ≤ _; omega, hst2.out, below_drewN hBr.out _⟩
          case measure => simp [intOf]; omega
        · rw [decide_eq_false he] at hne
          have hR : Res = false := by
            rw [← hRes.out]
            refine decide_eq_false fun hh => ?_
            have h1 := HG1.out
            rw [hh, HG2.out] at h1
            injection h1 with h1
            exact absurd h1.symm he
          subst hR
          clear he HG1 HG2
          go_wp2_with fail
          go_quiet (fail)
          go_wp2_with fail
          go_ret
          exact ⟨rfl, below_drewN hBr.out _⟩
      · have tn : decide ((j : Int) < (l.length : Int)) = false := decide_eq_false (by omega)
        have hR : Res = true := by
          rw [← hRes.out]
          exact decide_eq_true (take_all hrest.out (by omega) (by have := eh.out; omega))
        subst hR
        clear hrest hjl hRes
        go_wp2_with fail
        go_ret
        exact ⟨rfl, hBr.out⟩
  · have t0 : (((l.length : Nat) : Int) != ((m.length : Nat) : Int)) = true := by simp; omega
    have hR : Res = false := by
      rw [← hRes.out]
      exact decide_eq_false fun hh => hlm (by rw [hh])
    subst hR
    clear hlm hRes HI HI'
    go_enter Try.func72, Try.ntmps72
    go_wp2_with fail
    go_ret
    exact ⟨rfl, Below.refl _ _⟩

set_option maxRecDepth 100000 in
set_option maxHeartbeats 2000000 in
theorem EqualRate_any (v v' : Value) (l m : List (List Int)) (w : World) (hv : Hid (RecAt w v 2 l)) (hv' : Hid (RecAt w v' 2 m)) (hl : l.length ≤ 1000000) (hm : m.length ≤ 1000000) :
    Calls Try.prog 73 #[v, v'] w fun e w' => e = .returned (.bool (decide (l = m))) ∧ Below w.heap.size w w' := by
  obtain ⟨A, c, rfl, hi⟩ := hv.out
  obtain ⟨A', c', rfl, hi'⟩ := hv'.out
  have HI := Lib.hid hi
  have HI' := Lib.hid hi'
  clear hi hv hi' hv'
  obtain ⟨Res, hRes⟩ : ∃ Res, decide (l = m) = Res := ⟨_, rfl⟩
  rw [hRes]
  replace hRes := Lib.hid hRes
  by_cases hlm : l.length = m.length
  · have t0 : (((l.length : Nat) : Int) != ((m.length : Nat) : Int)) = false := by simp; omega
    have eh : Hid (l.length = m.length) := hlm
    clear hlm
    go_enter Try.func73, Try.ntmps73
    go_wp2_with fail
    clear t0
    go_loopw [5, 13] (fun _ s6 wr => ∃ j : Nat, s6 = .int .i64 j ∧ Hid (j ≤ l.length) ∧ Hid (l.take j = m.take j) ∧ Hid (Below w.heap.size w wr)) (fun _ s6 _ => l.length - (intOf s6).toNat)
    case atStart => exact ⟨0, rfl, Nat.zero_le _, rfl, Below.refl _ _⟩
    case round =>
      obtain ⟨j, rfl, hjl, hrest, hBr⟩ := hrel
      replace hjl := hjl.out
      by_cases hin : j < l.length
      · have tn : decide ((j : Int) < (l.length : Int)) = true := decide_eq_true (by omega)
        have hge : l[j]? = some l[j] := List.getElem?_eq_getElem hin
        have hge2 : m[j]? = some m[j] := List.getElem?_eq_getElem (by have := eh.out; omega)
        obtain ⟨hk, b0, o0, hA0, hbl, hc⟩ := HI.out j _ hge
        subst hA0
        obtain ⟨hk2, b2, o2, hA0, hbl2, hc2⟩ := HI'.out j _ hge2
        subst hA0
        have HG1 := Lib.hid hge
        have HG2 := Lib.hid hge2
        clear hge hge2
        have hjc : j < m.length := by have := eh.out; omega
        generalize l[j] = r at *
        generalize m[j] = r2 at *
        obtain ⟨y0, y1, rfl⟩ : ∃ y0 y1, r = [y0, y1] := by
          match r, hk with
          | [y0, y1], _ => exact ⟨y0, y1, rfl⟩
        obtain ⟨z0, z1, rfl⟩ : ∃ z0 z1, r2 = [z0, z1] := by
          match r2, hk2 with
          | [z0, z1], _ => exact ⟨z0, z1, rfl⟩
        have c0 : wr.cell? ⟨b0, o0 + j * 2, none⟩ = some (.int .i64 y0) := (hBr.out.cell (p := ⟨b0, o0 + j * 2 + 0, none⟩) hbl).trans (hc 0 _ rfl)
        have d0 : wr.cell? ⟨b2, o2 + j * 2, none⟩ = some (.int .i64 z0) := (hBr.out.cell (p := ⟨b2, o2 + j * 2 + 0, none⟩) hbl2).trans (hc2 0 _ rfl)
        have c1 : wr.cell? ⟨b0, o0 + j * 2 + 1, none⟩ = some (.int .i64 y1) := (hBr.out.cell (p := ⟨b0, o0 + j * 2 + 1, none⟩) hbl).trans (hc 1 _ rfl)
        have d1 : wr.cell? ⟨b2, o2 + j * 2 + 1, none⟩ = some (.int .i64 z1) := (hBr.out.cell (p := ⟨b2, o2 + j * 2 + 1, none⟩) hbl2).trans (hc2 1 _ rfl)
        have tc : (j : Int) < (m.length : Int) := by omega
        have tb : (j : Int) < (l.length : Int) := by omega
        clear hc hc2 hk hk2
        have hne := fun wz => neqRate y0 y1 z0 z1 wz
        by_cases he : ([y0, y1] : List Int) = [z0, z1]
        · rw [decide_eq_true he] at hne
          have hst2 := Lib.hid (take_step HG1.out HG2.out hrest.out he)
          clear he HG1 HG2
          go_wp2_with fail
          go_quiet (fail)
          go_wp2_with fail
          go_roundw
          case rel => exact ⟨j + 1, by go_num, by show _ ≤ _; omega, hst2.out, below_drewN hBr.out _⟩
          case measure => simp [intOf]; omega
        · rw [decide_eq_false he] at hne
          have hR : Res = false := by
            rw [← hRes.out]
            refine decide_eq_false fun hh => ?_
            have h1 := HG1.out
            rw [hh, HG2.out] at h1
            injection h1 with h1
            exact absurd h1.symm he
          subst hR
          clear he HG1 HG2
          go_wp2_with fail
          go_quiet (fail)
          go_wp2_with fail
          go_ret
          exact ⟨rfl, below_drewN hBr.out _⟩
      · have tn : decide ((j : Int) < (l.length : Int)) = false := decide_eq_false (by omega)
        have hR : Res = true := by
          rw [← hRes.out]
          exact decide_eq_true (take_all hrest.out (by omega) (by have := eh.out; omega))
        subst hR
        clear hrest hjl hRes
        go_wp2_with fail
        go_ret
        exact ⟨rfl, hBr.out⟩
  · have t0 : (((l.length : Nat) : Int) != ((m.length : Nat) : Int)) = true := by simp; omega
    have hR : Res = false := by
      rw [← hRes.out]
      exact decide_eq_false fun hh => hlm (by rw [hh])
    subst hR
    clear hlm hRes HI HI'
    go_enter Try.func73, Try.ntmps73
    go_wp2_with fail
    go_ret
    exact ⟨rfl, Below.refl _ _⟩

end Go.Proofs.Ytfkfpppiikgjbaa
