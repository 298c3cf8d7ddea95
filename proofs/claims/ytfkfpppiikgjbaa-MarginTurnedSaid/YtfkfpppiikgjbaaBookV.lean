/- Books: slices.IndexFunc and ContainsFunc at the four records, at any predicate that makes memory alone. PRINTED BY genBookV.py. -/
import Derived.Test.YtfkfpppiikgjbaaBookM
import Derived.Shelf.GgClosure.Gives
namespace Go.Proofs.Ytfkfpppiikgjbaa
open Go Go.RowKit Go.Shelf
set_option linter.unusedVariables false
set_option linter.unusedSimpArgs false

def rowV (r : List Int) : Value := .agg (r.map (Value.int .i64)).toArray
/-- What is asked of a predicate. -/
def PredOn (g : Nat) (lb : Array Value) (l : List (List Int)) (p : List Int → Bool) (w : World) : Prop :=
  ∀ (W : World) (r : List Int), r ∈ l → Below w.heap.size w W → Calls Try.prog g (#[rowV r] ++ lb) W fun e w' => e = .returned (.bool (p r)) ∧ Below W.heap.size W w'
theorem PredOn.call {g : Nat} {lb : Array Value} {l : List (List Int)} {p : List Int → Bool} {w w' : World} (h : PredOn g lb l p w) (hb : Below w.heap.size w w') : PredOn g lb l p w' :=
  fun W r hr hB => h W r hr (hb.trans (hB.mono hb.size))

set_option maxRecDepth 100000 in
set_option maxHeartbeats 2000000 in
theorem IndexHolder_any (g : Nat) (lb : Array Value) (eg : ∀ args w, (callFunc g args).run Try.prog w = .ok (.enter g args) w) (v : Value) (l : List (List Int)) (p : List Int → Bool) (w : World) (hv : Hid (RecAt w v 4 l)) (hl : l.length ≤ 1000000) (hp : Hid (PredOn g lb l p w)) :
    Calls Try.prog 119 #[v, .func (.func g) #[] lb] w fun e w' => ∃ i : Int, e = .returned (.int .i64 i) ∧ decide (0 ≤ i) = l.any p ∧ Below w.heap.size w w' := by
  obtain ⟨A, c, rfl, hi⟩ := hv.out
  have HI := Lib.hid hi
  clear hi hv
  obtain ⟨Res, hRes⟩ : ∃ Res, l.any p = Res := ⟨_, rfl⟩
  rw [hRes]
  replace hRes := Lib.hid hRes
  go_enter Try.func119, Try.ntmps119
  go_wp2_with fail
  go_loopw [5, 8] (fun _ s8 wr => ∃ j : Nat, s8 = .int .i64 (j : Int) ∧ Hid (j ≤ l.length) ∧ Hid (l.any p = (l.drop j).any p) ∧ Hid (Below w.heap.size w wr)) (fun _ s8 _ => l.length - (intOf s8).toNat)
  case atStart => exact ⟨0, rfl, Nat.zero_le _, rfl, Below.refl _ _⟩
  case round =>
    obtain ⟨j, rfl, hjl, hrest, hBr⟩ := hrel
    replace hjl := hjl.out
    by_cases hin : j < l.length
    · have tn : decide ((j : Int) < (l.length : Int)) = true := decide_eq_true (by omega)
      have hge : l[j]? = some l[j] := List.getElem?_eq_getElem hin
      obtain ⟨hk, b0, o0, hA0, hbl, hc⟩ := HI.out j _ hge
      subst hA0
      have hst : Hid ((l.drop j).any p = (p l[j] || (l.drop (j + 1)).any p)) := (show _ = _ from by rw [List.drop_eq_getElem_cons hin, List.any_cons])
      have hcall := hp.out wr l[j] (List.getElem_mem hin) hBr.out
      clear hge
      generalize l[j] = r at *
      obtain ⟨y0, y1, y2, y3, rfl⟩ : ∃ y0 y1 y2 y3, r = [y0, y1, y2, y3] := by
        match r, hk with
        | [y0, y1, y2, y3], _ => exact ⟨y0, y1, y2, y3, rfl⟩
      have c0 : wr.cell? ⟨b0, o0 + j * 4, none⟩ = some (.int .i64 y0) := (hBr.out.cell (p := ⟨b0, o0 + j * 4 + 0, none⟩) hbl).trans (hc 0 _ rfl)
      have c1 : wr.cell? ⟨b0, o0 + j * 4 + 1, none⟩ = some (.int .i64 y1) := (hBr.out.cell (p := ⟨b0, o0 + j * 4 + 1, none⟩) hbl).trans (hc 1 _ rfl)
      have c2 : wr.cell? ⟨b0, o0 + j * 4 + 2, none⟩ = some (.int .i64 y2) := (hBr.out.cell (p := ⟨b0, o0 + j * 4 + 2, none⟩) hbl).trans (hc 2 _ rfl)
      have c3 : wr.cell? ⟨b0, o0 + j * 4 + 3, none⟩ = some (.int .i64 y3) := (hBr.out.cell (p := ⟨b0, o0 + j * 4 + 3, none⟩) hbl).trans (hc 3 _ rfl)
      have hcall : Calls Try.prog g (#[.agg #[.int .i64 y0, .int .i64 y1, .int .i64 y2, .int .i64 y3]] ++ lb) wr _ := hcall
      have hcall2 := Lib.hid hcall
      obtain ⟨F, hF⟩ : ∃ F, p [y0, y1, y2, y3] = F := ⟨_, rfl⟩
      rw [hF] at hcall2 hst
      clear hc hk hcall hF
      cases F with
      | true =>
        go_wp2_with (go_at_fn g; refine hcall2.out.mono ?_; rintro e w2 ⟨rfl, hb2⟩)
        go_ret
        have hR : Res = true := hRes.out.symm.trans (hrest.out.trans hst.out)
        subst hR
        exact ⟨_, rfl, by simp, hBr.out.trans (hb2.mono hBr.out.size)⟩
      | false =>
        have hst2 := Lib.hid (hrest.out.trans hst.out)
        go_wp2_with (go_at_fn g; refine hcall2.out.mono ?_; rintro e w2 ⟨rfl, hb2⟩)
        have HB2 := Lib.hid (hBr.out.trans (hb2.mono hBr.out.size))
        clear hb2
        go_roundw
        case rel => exact ⟨j + 1, by go_num, by show _ ≤ _; omega, hst2.out, HB2.out⟩
        case measure => simp [intOf]; omega
    · have tn : decide ((j : Int) < (l.length : Int)) = false := decide_eq_false (by omega)
      have hR : Res = false := hRes.out.symm.trans (hrest.out.trans (by rw [List.drop_eq_nil_of_le (by omega)]; rfl))
      subst hR
      clear hrest hjl hRes
      go_wp2_with fail
      go_ret
      exact ⟨_, rfl, rfl, hBr.out⟩
set_option maxRecDepth 100000 in
theorem ContainsHolder_any (g : Nat) (lb : Array Value) (eg : ∀ args w, (callFunc g args).run Try.prog w = .ok (.enter g args) w) (v : Value) (l : List (List Int)) (p : List Int → Bool) (w : World) (hv : Hid (RecAt w v 4 l)) (hl : l.length ≤ 1000000) (hp : Hid (PredOn g lb l p w)) :
    Calls Try.prog 65 #[v, .func (.func g) #[] lb] w fun e w' => e = .returned (.bool (l.any p)) ∧ Below w.heap.size w w' := by
  have q := Lib.hid (IndexHolder_any g lb eg v l p w hv hl hp)
  obtain ⟨A, c, rfl, hi⟩ := hv.out
  clear hv hp hi
  go_enter Try.func65, Try.ntmps65
  go_wp2_with fail
  with_reducible refine q.out.mono ?_
  rintro e w2 ⟨i, rfl, hi', hb⟩
  have hi := Lib.hid hi'
  clear hi'
  go_wp2_with fail
  go_ret
  refine ⟨?_, hb⟩
  show Ending.returned (.bool (decide (0 ≤ i))) = _
  rw [hi.out]


set_option maxRecDepth 100000 in
set_option maxHeartbeats 2000000 in
theorem IndexOpen_any (g : Nat) (lb : Array Value) (eg : ∀ args w, (callFunc g args).run Try.prog w = .ok (.enter g args) w) (v : Value) (l : List (List Int)) (p : List Int → Bool) (w : World) (hv : Hid (RecAt w v 6 l)) (hl : l.length ≤ 1000000) (hp : Hid (PredOn g lb l p w)) :
    Calls Try.prog 122 #[v, .func (.func g) #[] lb] w fun e w' => ∃ i : Int, e = .returned (.int .i64 i) ∧ decide (0 ≤ i) = l.any p ∧ Below w.heap.size w w' := by
  obtain ⟨A, c, rfl, hi⟩ := hv.out
  have HI := Lib.hid hi
  clear hi hv
  obtain ⟨Res, hRes⟩ : ∃ Res, l.any p = Res := ⟨_, rfl⟩
  rw [hRes]
  replace hRes := Lib.hid hRes
  go_enter Try.func122, Try.ntmps122
  go_wp2_with fail
  go_loopw [5, 8] (fun _ s8 wr => ∃ j : Nat, s8 = .int .i64 (j : Int) ∧ Hid (j ≤ l.length) ∧ Hid (l.any p = (l.drop j).any p) ∧ Hid (Below w.heap.size w wr)) (fun _ s8 _ => l.length - (intOf s8).toNat)
  case atStart => exact ⟨0, rfl, Nat.zero_le _, rfl, Below.refl _ _⟩
  case round =>
    obtain ⟨j, rfl, hjl, hrest, hBr⟩ := hrel
    replace hjl := hjl.out
    by_cases hin : j < l.length
    · have tn : decide ((j : Int) < (l.length : Int)) = true := decide_eq_true (by omega)
      have hge : l[j]? = some l[j] := List.getElem?_eq_getElem hin
      obtain ⟨hk, b0, o0, hA0, hbl, hc⟩ := HI.out j _ hge
      subst hA0
      have hst : Hid ((l.drop j).any p = (p l[j] || (l.drop (j + 1)).any p)) := (show _ = _ from by rw [List.drop_eq_getElem_cons hin, List.any_cons])
      have hcall := hp.out wr l[j] (List.getElem_mem hin) hBr.out
      clear hge
      generalize l[j] = r at *
      obtain ⟨y0, y1, y2, y3, y4, y5, rfl⟩ : ∃ y0 y1 y2 y3 y4 y5, r = [y0, y1, y2, y3, y4, y5] := by
        match r, hk with
        | [y0, y1, y2, y3, y4, y5], _ => exact ⟨y0, y1, y2, y3, y4, y5, rfl⟩
      have c0 : wr.cell? ⟨b0, o0 + j * 6, none⟩ = some (.int .i64 y0) := (hBr.out.cell (p := ⟨b0, o0 + j * 6 + 0, none⟩) hbl).trans (hc 0 _ rfl)
      have c1 : wr.cell? ⟨b0, o0 + j * 6 + 1, none⟩ = some (.int .i64 y1) := (hBr.out.cell (p := ⟨b0, o0 + j * 6 + 1, none⟩) hbl).trans (hc 1 _ rfl)
      have c2 : wr.cell? ⟨b0, o0 + j * 6 + 2, none⟩ = some (.int .i64 y2) := (hBr.out.cell (p := ⟨b0, o0 + j * 6 + 2, none⟩) hbl).trans (hc 2 _ rfl)
      have c3 : wr.cell? ⟨b0, o0 + j * 6 + 3, none⟩ = some (.int .i64 y3) := (hBr.out.cell (p := ⟨b0, o0 + j * 6 + 3, none⟩) hbl).trans (hc 3 _ rfl)
      have c4 : wr.cell? ⟨b0, o0 + j * 6 + 4, none⟩ = some (.int .i64 y4) := (hBr.out.cell (p := ⟨b0, o0 + j * 6 + 4, none⟩) hbl).trans (hc 4 _ rfl)
      have c5 : wr.cell? ⟨b0, o0 + j * 6 + 5, none⟩ = some (.int .i64 y5) := (hBr.out.cell (p := ⟨b0, o0 + j * 6 + 5, none⟩) hbl).trans (hc 5 _ rfl)
      have hcall : Calls Try.prog g (#[.agg #[.int .i64 y0, .int .i64 y1, .int .i64 y2, .int .i64 y3, .int .i64 y4, .int .i64 y5]] ++ lb) wr _ := hcall
      have hcall2 := Lib.hid hcall
      obtain ⟨F, hF⟩ : ∃ F, p [y0, y1, y2, y3, y4, y5] = F := ⟨_, rfl⟩
      rw [hF] at hcall2 hst
      clear hc hk hcall hF
      cases F with
      | true =>
        go_wp2_with (go_at_fn g; refine hcall2.out.mono ?_; rintro e w2 ⟨rfl, hb2⟩)
        go_ret
        have hR : Res = true := hRes.out.symm.trans (hrest.out.trans hst.out)
        subst hR
        exact ⟨_, rfl, by simp, hBr.out.trans (hb2.mono hBr.out.size)⟩
      | false =>
        have hst2 := Lib.hid (hrest.out.trans hst.out)
        go_wp2_with (go_at_fn g; refine hcall2.out.mono ?_; rintro e w2 ⟨rfl, hb2⟩)
        have HB2 := Lib.hid (hBr.out.trans (hb2.mono hBr.out.size))
        clear hb2
        go_roundw
        case rel => exact ⟨j + 1, by go_num, by show _ ≤ _; omega, hst2.out, HB2.out⟩
        case measure => simp [intOf]; omega
    · have tn : decide ((j : Int) < (l.length : Int)) = false := decide_eq_false (by omega)
      have hR : Res = false := hRes.out.symm.trans (hrest.out.trans (by rw [List.drop_eq_nil_of_le (by omega)]; rfl))
      subst hR
      clear hrest hjl hRes
      go_wp2_with fail
      go_ret
      exact ⟨_, rfl, rfl, hBr.out⟩
set_option maxRecDepth 100000 in
theorem ContainsOpen_any (g : Nat) (lb : Array Value) (eg : ∀ args w, (callFunc g args).run Try.prog w = .ok (.enter g args) w) (v : Value) (l : List (List Int)) (p : List Int → Bool) (w : World) (hv : Hid (RecAt w v 6 l)) (hl : l.length ≤ 1000000) (hp : Hid (PredOn g lb l p w)) :
    Calls Try.prog 68 #[v, .func (.func g) #[] lb] w fun e w' => e = .returned (.bool (l.any p)) ∧ Below w.heap.size w w' := by
  have q := Lib.hid (IndexOpen_any g lb eg v l p w hv hl hp)
  obtain ⟨A, c, rfl, hi⟩ := hv.out
  clear hv hp hi
  go_enter Try.func68, Try.ntmps68
  go_wp2_with fail
  with_reducible refine q.out.mono ?_
  rintro e w2 ⟨i, rfl, hi', hb⟩
  have hi := Lib.hid hi'
  clear hi'
  go_wp2_with fail
  go_ret
  refine ⟨?_, hb⟩
  show Ending.returned (.bool (decide (0 ≤ i))) = _
  rw [hi.out]


set_option maxRecDepth 100000 in
set_option maxHeartbeats 2000000 in
theorem IndexRate_any (g : Nat) (lb : Array Value) (eg : ∀ args w, (callFunc g args).run Try.prog w = .ok (.enter g args) w) (v : Value) (l : List (List Int)) (p : List Int → Bool) (w : World) (hv : Hid (RecAt w v 2 l)) (hl : l.length ≤ 1000000) (hp : Hid (PredOn g lb l p w)) :
    Calls Try.prog 120 #[v, .func (.func g) #[] lb] w fun e w' => ∃ i : Int, e = .returned (.int .i64 i) ∧ decide (0 ≤ i) = l.any p ∧ Below w.heap.size w w' := by
  obtain ⟨A, c, rfl, hi⟩ := hv.out
  have HI := Lib.hid hi
  clear hi hv
  obtain ⟨Res, hRes⟩ : ∃ Res, l.any p = Res := ⟨_, rfl⟩
  rw [hRes]
  replace hRes := Lib.hid hRes
  go_enter Try.func120, Try.ntmps120
  go_wp2_with fail
  go_loopw [5, 8] (fun _ s8 wr => ∃ j : Nat, s8 = .int .i64 (j : Int) ∧ Hid (j ≤ l.length) ∧ Hid (l.any p = (l.drop j).any p) ∧ Hid (Below w.heap.size w wr)) (fun _ s8 _ => l.length - (intOf s8).toNat)
  case atStart => exact ⟨0, rfl, Nat.zero_le _, rfl, Below.refl _ _⟩
  case round =>
    obtain ⟨j, rfl, hjl, hrest, hBr⟩ := hrel
    replace hjl := hjl.out
    by_cases hin : j < l.length
    · have tn : decide ((j : Int) < (l.length : Int)) = true := decide_eq_true (by omega)
      have hge : l[j]? = some l[j] := List.getElem?_eq_getElem hin
      obtain ⟨hk, b0, o0, hA0, hbl, hc⟩ := HI.out j _ hge
      subst hA0
      have hst : Hid ((l.drop j).any p = (p l[j] || (l.drop (j + 1)).any p)) := (show _ = _ from by rw [List.drop_eq_getElem_cons hin, List.any_cons])
      have hcall := hp.out wr l[j] (List.getElem_mem hin) hBr.out
      clear hge
      generalize l[j] = r at *
      obtain ⟨y0, y1, rfl⟩ : ∃ y0 y1, r = [y0, y1] := by
        match r, hk with
        | [y0, y1], _ => exact ⟨y0, y1, rfl⟩
      have c0 : wr.cell? ⟨b0, o0 + j * 2, none⟩ = some (.int .i64 y0) := (hBr.out.cell (p := ⟨b0, o0 + j * 2 + 0, none⟩) hbl).trans (hc 0 _ rfl)
      have c1 : wr.cell? ⟨b0, o0 + j * 2 + 1, none⟩ = some (.int .i64 y1) := (hBr.out.cell (p := ⟨b0, o0 + j * 2 + 1, none⟩) hbl).trans (hc 1 _ rfl)
      have hcall : Calls Try.prog g (#[.agg #[.int .i64 y0, .int .i64 y1]] ++ lb) wr _ := hcall
      have hcall2 := Lib.hid hcall
      obtain ⟨F, hF⟩ : ∃ F, p [y0, y1] = F := ⟨_, rfl⟩
      rw [hF] at hcall2 hst
      clear hc hk hcall hF
      cases F with
      | true =>
        go_wp2_with (go_at_fn g; refine hcall2.out.mono ?_; rintro e w2 ⟨rfl, hb2⟩)
        go_ret
        have hR : Res = true := hRes.out.symm.trans (hrest.out.trans hst.out)
        subst hR
        exact ⟨_, rfl, by simp, hBr.out.trans (hb2.mono hBr.out.size)⟩
      | false =>
        have hst2 := Lib.hid (hrest.out.trans hst.out)
        go_wp2_with (go_at_fn g; refine hcall2.out.mono ?_; rintro e w2 ⟨rfl, hb2⟩)
        have HB2 := Lib.hid (hBr.out.trans (hb2.mono hBr.out.size))
        clear hb2
        go_roundw
        case rel => exact ⟨j + 1, by go_num, by show _ ≤ _; omega, hst2.out, HB2.out⟩
        case measure => simp [intOf]; omega
    · have tn : decide ((j : Int) < (l.length : Int)) = false := decide_eq_false (by omega)
      have hR : Res = false := hRes.out.symm.trans (hrest.out.trans (by rw [List.drop_eq_nil_of_le (by omega)]; rfl))
      subst hR
      clear hrest hjl hRes
      go_wp2_with fail
      go_ret
      exact ⟨_, rfl, rfl, hBr.out⟩
set_option maxRecDepth 100000 in
theorem ContainsRate_any (g : Nat) (lb : Array Value) (eg : ∀ args w, (callFunc g args).run Try.prog w = .ok (.enter g args) w) (v : Value) (l : List (List Int)) (p : List Int → Bool) (w : World) (hv : Hid (RecAt w v 2 l)) (hl : l.length ≤ 1000000) (hp : Hid (PredOn g lb l p w)) :
    Calls Try.prog 66 #[v, .func (.func g) #[] lb] w fun e w' => e = .returned (.bool (l.any p)) ∧ Below w.heap.size w w' := by
  have q := Lib.hid (IndexRate_any g lb eg v l p w hv hl hp)
  obtain ⟨A, c, rfl, hi⟩ := hv.out
  clear hv hp hi
  go_enter Try.func66, Try.ntmps66
  go_wp2_with fail
  with_reducible refine q.out.mono ?_
  rintro e w2 ⟨i, rfl, hi', hb⟩
  have hi := Lib.hid hi'
  clear hi'
  go_wp2_with fail
  go_ret
  refine ⟨?_, hb⟩
  show Ending.returned (.bool (decide (0 ≤ i))) = _
  rw [hi.out]


set_option maxRecDepth 100000 in
set_option maxHeartbeats 2000000 in
theorem IndexStake_any (g : Nat) (lb : Array Value) (eg : ∀ args w, (callFunc g args).run Try.prog w = .ok (.enter g args) w) (v : Value) (l : List (List Int)) (p : List Int → Bool) (w : World) (hv : Hid (RecAt w v 3 l)) (hl : l.length ≤ 1000000) (hp : Hid (PredOn g lb l p w)) :
    Calls Try.prog 121 #[v, .func (.func g) #[] lb] w fun e w' => ∃ i : Int, e = .returned (.int .i64 i) ∧ decide (0 ≤ i) = l.any p ∧ Below w.heap.size w w' := by
  obtain ⟨A, c, rfl, hi⟩ := hv.out
  have HI := Lib.hid hi
  clear hi hv
  obtain ⟨Res, hRes⟩ : ∃ Res, l.any p = Res := ⟨_, rfl⟩
  rw [hRes]
  replace hRes := Lib.hid hRes
  go_enter Try.func121, Try.ntmps121
  go_wp2_with fail
  go_loopw [5, 8] (fun _ s8 wr => ∃ j : Nat, s8 = .int .i64 (j : Int) ∧ Hid (j ≤ l.length) ∧ Hid (l.any p = (l.drop j).any p) ∧ Hid (Below w.heap.size w wr)) (fun _ s8 _ => l.length - (intOf s8).toNat)
  case atStart => exact ⟨0, rfl, Nat.zero_le _, rfl, Below.refl _ _⟩
  case round =>
    obtain ⟨j, rfl, hjl, hrest, hBr⟩ := hrel
    replace hjl := hjl.out
    by_cases hin : j < l.length
    · have tn : decide ((j : Int) < (l.length : Int)) = true := decide_eq_true (by omega)
      have hge : l[j]? = some l[j] := List.getElem?_eq_getElem hin
      obtain ⟨hk, b0, o0, hA0, hbl, hc⟩ := HI.out j _ hge
      subst hA0
      have hst : Hid ((l.drop j).any p = (p l[j] || (l.drop (j + 1)).any p)) := (show _ = _ from by rw [List.drop_eq_getElem_cons hin, List.any_cons])
      have hcall := hp.out wr l[j] (List.getElem_mem hin) hBr.out
      clear hge
      generalize l[j] = r at *
      obtain ⟨y0, y1, y2, rfl⟩ : ∃ y0 y1 y2, r = [y0, y1, y2] := by
        match r, hk with
        | [y0, y1, y2], _ => exact ⟨y0, y1, y2, rfl⟩
      have c0 : wr.cell? ⟨b0, o0 + j * 3, none⟩ = some (.int .i64 y0) := (hBr.out.cell (p := ⟨b0, o0 + j * 3 + 0, none⟩) hbl).trans (hc 0 _ rfl)
      have c1 : wr.cell? ⟨b0, o0 + j * 3 + 1, none⟩ = some (.int .i64 y1) := (hBr.out.cell (p := ⟨b0, o0 + j * 3 + 1, none⟩) hbl).trans (hc 1 _ rfl)
      have c2 : wr.cell? ⟨b0, o0 + j * 3 + 2, none⟩ = some (.int .i64 y2) := (hBr.out.cell (p := ⟨b0, o0 + j * 3 + 2, none⟩) hbl).trans (hc 2 _ rfl)
      have hcall : Calls Try.prog g (#[.agg #[.int .i64 y0, .int .i64 y1, .int .i64 y2]] ++ lb) wr _ := hcall
      have hcall2 := Lib.hid hcall
      obtain ⟨F, hF⟩ : ∃ F, p [y0, y1, y2] = F := ⟨_, rfl⟩
      rw [hF] at hcall2 hst
      clear hc hk hcall hF
      cases F with
      | true =>
        go_wp2_with (go_at_fn g; refine hcall2.out.mono ?_; rintro e w2 ⟨rfl, hb2⟩)
        go_ret
        have hR : Res = true := hRes.out.symm.trans (hrest.out.trans hst.out)
        subst hR
        exact ⟨_, rfl, by simp, hBr.out.trans (hb2.mono hBr.out.size)⟩
      | false =>
        have hst2 := Lib.hid (hrest.out.trans hst.out)
        go_wp2_with (go_at_fn g; refine hcall2.out.mono ?_; rintro e w2 ⟨rfl, hb2⟩)
        have HB2 := Lib.hid (hBr.out.trans (hb2.mono hBr.out.size))
        clear hb2
        go_roundw
        case rel => exact ⟨j + 1, by go_num, by show _ ≤ _; omega, hst2.out, HB2.out⟩
        case measure => simp [intOf]; omega
    · have tn : decide ((j : Int) < (l.length : Int)) = false := decide_eq_false (by omega)
      have hR : Res = false := hRes.out.symm.trans (hrest.out.trans (by rw [List.drop_eq_nil_of_le (by omega)]; rfl))
      subst hR
      clear hrest hjl hRes
      go_wp2_with fail
      go_ret
      exact ⟨_, rfl, rfl, hBr.out⟩
set_option maxRecDepth 100000 in
theorem ContainsStake_any (g : Nat) (lb : Array Value) (eg : ∀ args w, (callFunc g args).run Try.prog w = .ok (.enter g args) w) (v : Value) (l : List (List Int)) (p : List Int → Bool) (w : World) (hv : Hid (RecAt w v 3 l)) (hl : l.length ≤ 1000000) (hp : Hid (PredOn g lb l p w)) :
    Calls Try.prog 67 #[v, .func (.func g) #[] lb] w fun e w' => e = .returned (.bool (l.any p)) ∧ Below w.heap.size w w' := by
  have q := Lib.hid (IndexStake_any g lb eg v l p w hv hl hp)
  obtain ⟨A, c, rfl, hi⟩ := hv.out
  clear hv hp hi
  go_enter Try.func67, Try.ntmps67
  go_wp2_with fail
  with_reducible refine q.out.mono ?_
  rintro e w2 ⟨i, rfl, hi', hb⟩
  have hi := Lib.hid hi'
  clear hi'
  go_wp2_with fail
  go_ret
  refine ⟨?_, hb⟩
  show Ending.returned (.bool (decide (0 ≤ i))) = _
  rw [hi.out]


end Go.Proofs.Ytfkfpppiikgjbaa
