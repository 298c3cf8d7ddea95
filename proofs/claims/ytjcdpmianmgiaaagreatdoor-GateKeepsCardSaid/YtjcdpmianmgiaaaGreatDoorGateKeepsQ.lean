/- GateKeeps: the book behind any event may be, and the one ahead is as it was; if the code is not Accept, all but Count is as it was. For every input; no condition. -/
import Derived.Test.YtjcdpmianmgiaaaGreatDoorP00
import Derived.Test.YtjcdpmianmgiaaaGreatDoorP05
import Derived.Test.YtjcdpmianmgiaaaGreatDoorP12
import Derived.Test.YtjcdpmianmgiaaaGreatDoorP13
import Derived.Test.YtjcdpmianmgiaaaGreatDoorP22
import Derived.Deep.DeepHandedRow
import Derived.Deep.Fields
import Derived.Deep.Slices
import Derived.Deep.Strs
import Derived.LaidHandle
import Derived.LaidMore
import Derived.LaidOnce
import Derived.Lib.LaidTab
import Derived.OpenShut
import Derived.ProofKit
import Derived.ShutString
import Derived.Test.YtjcdpmianmgiaaaGreatDoorCards
import Derived.Test.YtjcdpmianmgiaaaGreatDoorTie
namespace Go.Proofs.YtjcdpmianmgiaaaGreatDoor
open Go.ChangeShapes Go.WideShapes Go.ChangeAt Go.RowKit
section
variable {H : Type} {enc : TypeId × Value → H} {P : Program}
theorem trodAll_rest (hl : laidOutB P = true) {W W' : World} (hb : Below W.heap.size W W') :
    ∀ (ts : List TypeId) (vs : List Value) (ds : List (DataW H)) (ps : List MemPlace), (ts.all fun t => P.readableRec t && decide (t < P.types.size)) = true →
      (∀ x ∈ ps, x.block < W.heap.size) → DataW.TrodAll enc P W 0 (fun _ => true) true ts vs ds ps → DataW.TrodAll enc P W' 0 (fun b => decide (b < W.heap.size)) true ts vs ds ps := by
  intro ts
  induction ts with
  | nil =>
    intro vs ds ps _ _ h
    obtain ⟨rfl, rfl, rfl⟩ := trodAll_nil h
    exact trodAll_mk0
  | cons t ts ih =>
    intro vs ds ps hr hlt h
    obtain ⟨v, vs', d, ds', p, q, rfl, rfl, rfl, h1, h2⟩ := trodAll_cons h
    simp only [List.all_cons, Bool.and_eq_true, decide_eq_true_eq] at hr
    refine trodAll_cons_mk (Below.trod hl hr.1.1 hr.1.2 h1 hb (fun x hx => hlt x (by simp [hx]))) (ih _ _ _ ?_ (fun x hx => hlt x (by simp [hx])) h2)
    simpa using hr.2
theorem law_post {f : Func} {s : ChangeSpec} {W W' : World} {args : Array Value} {ds gs : List (DataW H)} {before : List MemPlace} {b : TypeId}
    (hl : laidOutB P = true) (hr : (f.params.toList.all fun t => P.readableRec t && decide (t < P.types.size)) = true) (hb1 : f.resultTypes = #[b]) (hb2 : P.underlying b = some .bool)
    (hv : s.vars = []) (hs : s.fn H (ds ++ gs) = { results := [.lit (.bool true)], args := ds, vars := [] })
    (hW : DataW.Whole enc P f.params.toList s.vars false W args.toList ds gs before) (hb : Below W.heap.size W W') :
    s.post enc P f false true false false W args (.bool true) W' := by
  have hlt : ∀ x ∈ before, x.block < W.heap.size := fun x hx => hW.lt x hx
  have hW' := hW
  obtain ⟨p, q, hA, hV, hpq, _, _⟩ := hW'
  rw [hv] at hV
  obtain ⟨hg, hq⟩ := trodVars_none hV
  refine ⟨ds, gs, before, [], p, [], hW, ?_, ?_, ?_, ?_, fun h => by cases h⟩
  · rw [hs, hb1]
    exact trodAll_cons_mk (shut_bool hb2 true) trodAll_mk0
  · rw [hs]
    exact trodAll_rest hl hb _ _ _ _ hr (fun x hx => hlt x (by rw [hpq]; simp [hx])) hA
  · rw [hs, hv]
    rfl
  · exact hb.frame _
end
end Go.Proofs.YtjcdpmianmgiaaaGreatDoor
namespace Go.Proofs.YtjcdpmianmgiaaaGreatDoor
open Go.ChangeShapes Go.WideShapes Go.Deep
section
variable {H : Type} {enc : TypeId × Value → H} {P : Program} {w : World}
theorem spot_none {a : Addr} {v : Value} (h : w.cell? a = some v) : a.spot = none := by
  unfold World.cell? at h
  split at h
  · split at h
    · simp at h
    · rename_i h1; simpa using h1
  · simp at h
theorem addr_none {a : Addr} (h : a.spot = none) : a = ⟨a.block, a.off, none⟩ := by
  cases a; simp at h; subst h; rfl
theorem add_at (b o i : Nat) : (⟨b, o, none⟩ : Addr).add i = ⟨b, o + i, none⟩ := Addr.add_lit b o i
end
end Go.Proofs.YtjcdpmianmgiaaaGreatDoor
namespace Go.Proofs.YtjcdpmianmgiaaaGreatDoor
open Go.ChangeShapes Go.WideShapes Go.Deep Go.ChangeAt Go.RowKit
def leavesOf (P : Program) : Nat → TypeId → List (Nat × TypeId)
  | 0, _ => []
  | n + 1, t =>
    match P.underlying t with
    | some (.struct fs) => fs.toList.flatMap fun f => (leavesOf P n f.type).map fun x => (f.offset + x.1, x.2)
    | some (.array k e) => (List.range k).flatMap fun i => (leavesOf P n e).map fun x => (i * P.cellsOf e + x.1, x.2)
    | _ => [(0, t)]
section
variable {H : Type} {enc : TypeId × Value → H} {P : Program} {w : World} {base : Nat} {sp : Nat → Bool} {held : Bool}
theorem at_sub {cs : List Value} {a k o : Nat} {c : Value} (h : ((cs.drop a).take k)[o]? = some c) : cs[a + o]? = some c := by
  rw [List.getElem?_take] at h
  split at h
  · rwa [List.getElem?_drop] at h
  · cases h
theorem leaf_single {fuel : Nat} {t : TypeId} {cs : List Value} {x : DataW H × List MemPlace} (h : DataW.trod enc P w base sp held fuel t cs = some x)
    (h1 : ∀ fs, P.underlying t ≠ some (.struct fs)) (h2 : ∀ k e, P.underlying t ≠ some (.array k e)) : ∃ c, cs = [c] := by
  cases fuel with
  | zero => simp [DataW.trod] at h
  | succ n =>
    unfold DataW.trod at h
    split at h
    all_goals first
      | exact ⟨_, rfl⟩
      | (exfalso; exact h1 _ (by assumption))
      | (exfalso; exact h2 _ _ (by assumption))
      | (exfalso; simp at h; done)
theorem trod_leaf : ∀ (n fuel : Nat) (t : TypeId) (cs : List Value) (x : DataW H × List MemPlace), DataW.trod enc P w base sp held fuel t cs = some x →
    ∀ o u, (o, u) ∈ leavesOf P n t → ∃ c m y, cs[o]? = some c ∧ DataW.trod enc P w base sp held m u [c] = some y := by
  intro n
  induction n with
  | zero => intro _ _ _ _ _ o u hm; simp [leavesOf] at hm
  | succ n ih =>
    intro fuel t cs x h o u hm
    unfold leavesOf at hm
    split at hm
    · rename_i fs hu
      obtain ⟨xs, m, rfl, _, _, hl, hf⟩ := DataW.trod_struct hu h
      simp only [List.mem_flatMap, List.mem_map, Prod.mk.injEq] at hm
      obtain ⟨f, hfm, ⟨o', u'⟩, hm', rfl, rfl⟩ := hm
      obtain ⟨i, hi, rfl⟩ := List.getElem_of_mem hfm
      have hi' : i < fs.size := by simpa using hi
      have hfi : fs[i]? = some fs.toList[i] := by rw [Array.getElem?_eq_getElem hi']; simp
      have h1 := hf i _ hfi
      rw [List.getElem?_eq_getElem (by omega)] at h1
      obtain ⟨c, m', y, hc, hy⟩ := ih _ _ _ _ h1 o' u' hm'
      exact ⟨c, m', y, at_sub hc, hy⟩
    · rename_i k e hu
      cases fuel with
      | zero => simp [DataW.trod] at h
      | succ m =>
        unfold DataW.trod at h
        rw [hu] at h
        simp only [List.mem_flatMap, List.mem_map, Prod.mk.injEq, List.mem_range] at hm
        obtain ⟨i, hi, ⟨o', u'⟩, hm', rfl, rfl⟩ := hm
        simp only at h
        split at h
        · obtain ⟨xs, hx, _⟩ := Option.map_eq_some_iff.1 h
          obtain ⟨b, hb, hff⟩ := Go.Lib.mapM_at hx i i (by simp [hi])
          obtain ⟨c, m', y, hc, hy⟩ := ih _ _ _ _ hff o' u' hm'
          exact ⟨c, m', y, at_sub hc, hy⟩
        · cases h
    · rename_i hn1 hn2
      simp only [List.mem_singleton, Prod.mk.injEq] at hm
      obtain ⟨rfl, rfl⟩ := hm
      obtain ⟨c, rfl⟩ := leaf_single h (fun fs e => hn1 fs e) (fun k e e' => hn2 k e e')
      exact ⟨c, fuel, x, rfl, h⟩
theorem open_agg {n : Nat} {t : TypeId} {fs : Array Field} {r : Reach} {b0 : Nat} {v : Value} {d : DataW H} {ps : List MemPlace} (hs : P.underlying t = some (.struct fs))
    (hv : Value.okWide P w r b0 t v) (h : DataW.Trod enc P w base sp held t v d ps) :
    ∃ cs : Array Value, v = .agg cs ∧ cs.size = P.cellsOf t ∧ ∀ o u, (o, u) ∈ leavesOf P n t → ∃ c m y, cs[o]? = some c ∧ DataW.trod enc P w base sp held m u [c] = some y := by
  obtain ⟨cs, rfl, hsz⟩ := okWide_struct hs hv
  obtain ⟨fuel, hf⟩ := h
  refine ⟨cs, rfl, hsz, fun o u hm => ?_⟩
  obtain ⟨c, m, y, hc, hy⟩ := trod_leaf n _ _ _ _ hf o u hm
  exact ⟨c, m, y, by simpa [Value.cells] using hc, hy⟩
theorem leaf_int {m : Nat} {u : TypeId} {k : IntKind} {c : Value} {y : DataW H × List MemPlace} (hu : P.underlying u = some (.int k)) (h : DataW.trod enc P w base sp held m u [c] = some y) :
    ∃ n, c = .int k n ∧ (Lit.int k n).wf = true := by
  cases m with
  | zero => simp [DataW.trod] at h
  | succ m =>
    unfold DataW.trod at h
    rw [hu] at h
    split at h <;> simp_all
def isI64 : Option TypeDesc → Bool
  | some (.int .i64) => true
  | _ => false
theorem isI64_spec {u : Option TypeDesc} (h : isI64 u = true) : u = some (.int .i64) := by
  unfold isI64 at h
  split at h
  · rfl
  · cases h
end
end Go.Proofs.YtjcdpmianmgiaaaGreatDoor
namespace Go.Proofs.YtjcdpmianmgiaaaGreatDoor
open Go Go.Lib Go.ChangeShapes Go.WideShapes Go.ChangeAt Go.RowKit
set_option linter.unusedVariables false
set_option linter.unusedSimpArgs false
theorem drop_take1 {α : Type} {l : List α} {i : Nat} {x : α} (h : (l.drop i).take 1 = [x]) : l[i]? = some x := by
  have := congrArg (·[0]?) h
  simpa [List.getElem?_take, List.getElem?_drop] using this
theorem sub_at {α : Type} {l : List α} {i k j : Nat} {x : α} (h : ((l.drop i).take k)[j]? = some x) : l[i + j]? = some x := by
  rw [List.getElem?_take] at h
  split at h
  · rwa [List.getElem?_drop] at h
  · cases h
theorem gRules : Tryz.prog.globalNamed "engross/rules.table" = some 3 := by kernel_rfl
theorem gRulesType : (Tryz.prog.globals[3]?).map (·.type) = some 222 := by kernel_rfl
theorem gRels : Tryz.prog.globalNamed "engross/rules.relations" = some 0 := by kernel_rfl
theorem gRelsType : (Tryz.prog.globals[0]?).map (·.type) = some 159 := by kernel_rfl
set_option maxRecDepth 100000 in
theorem rules_cells {H : Type} {enc : TypeId × Value → H} {W : World} {base : Nat} {sp : Nat → Bool} {held : Bool} {fuel : Nat} {cs : List Value} {p : List MemPlace}
    (h : DataW.trod enc Tryz.prog W base sp held fuel 222 cs = some (.agg (Rule.rows.map fun r => .agg [.lit (.string r.1), .lit (.int .i64 (r.2.1 : Nat)), .lit (.int .i64 (r.2.2 : Nat))]), p)) :
    ∀ n, n < 24 → cs[n * 3]? = some (.string ⟨(Rule.name n).toArray⟩) ∧ cs[n * 3 + 1]? = some (.int .i64 (Rule.rel n)) ∧ cs[n * 3 + 2]? = some (.int .i64 (Rule.code n)) := by
  obtain ⟨xs, m, _, hx, hl, hlen, hf⟩ := DataW.trod_array Tryz.underlying222 h
  have hxs := congrArg Prod.fst hx
  simp only [DataW.agg.injEq] at hxs
  intro n hn
  obtain ⟨y, hy⟩ : ∃ y, xs[n]? = some y := ⟨xs[n]'(by omega), List.getElem?_eq_getElem (by omega)⟩
  have hf := (hf n hn).trans hy
  rw [show Tryz.prog.cellsOf 161 = 3 by kernel_rfl] at hf
  obtain ⟨y0, y1, y2, k, hyy, _, h0, h1, h2⟩ := Go.Deep.trod_struct3 Tryz.underlying161 hf
  have h0 : DataW.trod enc Tryz.prog W base sp held k 9 ((((cs.drop (n * 3)).take 3).drop 0).take 1) = some y0 := h0
  have h1 : DataW.trod enc Tryz.prog W base sp held k 3 ((((cs.drop (n * 3)).take 3).drop 1).take 1) = some y1 := h1
  have h2 : DataW.trod enc Tryz.prog W base sp held k 3 ((((cs.drop (n * 3)).take 3).drop 2).take 1) = some y2 := h2
  obtain ⟨s, c0, rfl, _⟩ := DataW.trod_string Tryz.underlying9 h0
  obtain ⟨a, c1, rfl, _⟩ := DataW.trod_int Tryz.underlying3 h1
  obtain ⟨b, c2, rfl, _⟩ := DataW.trod_int Tryz.underlying3 h2
  have e0 := sub_at (drop_take1 c0)
  have e1 := sub_at (drop_take1 c1)
  have e2 := sub_at (drop_take1 c2)
  have hd := congrArg (·[n]?) hxs
  simp only [List.getElem?_map, hy, Option.map_some] at hd
  rw [hyy] at hd
  have hrow : Rule.rows[n]? = some (Rule.rows.getD n ([], 0, 0)) := by
    rw [List.getD_eq_getElem?_getD, List.getElem?_eq_getElem (show n < Rule.rows.length from hn)]; rfl
  rw [hrow] at hd
  simp only [Option.map_some, Option.some.injEq, DataW.agg.injEq, List.cons.injEq, DataW.lit.injEq, Lit.string.injEq, Lit.int.injEq, true_and, and_true] at hd
  obtain ⟨d0, d1, d2⟩ := hd
  rw [show n * 3 + 0 = n * 3 from rfl] at e0
  refine ⟨by rw [e0]; congr 2; apply ByteArray.ext; apply Array.toList_inj.1; exact d0.symm, by rw [e1, ← d1]; rfl, by rw [e2, ← d2]; rfl⟩
set_option maxRecDepth 100000 in
theorem rels_cells {W : World} {base : Nat} {sp : Nat → Bool} {fuel : Nat} {cs : List Value} {p : List MemPlace}
    (h : DataW.trod (funcToken Tryz.prog) Tryz.prog W base sp true fuel 159 cs = some ((.agg [.agg [.lit (.string [63]), .held [101, 110, 103, 114, 111, 115, 115, 47, 114, 117, 108, 101, 115, 46, 114, 101, 108, 97, 116, 105, 111, 110, 115, 36, 49]], .agg [.lit (.string [60, 61]), .held [101, 110, 103, 114, 111, 115, 115, 47, 114, 117, 108, 101, 115, 46, 114, 101, 108, 97, 116, 105, 111, 110, 115, 36, 50]], .agg [.lit (.string [62, 61]), .held [101, 110, 103, 114, 111, 115, 115, 47, 114, 117, 108, 101, 115, 46, 114, 101, 108, 97, 116, 105, 111, 110, 115, 36, 51]], .agg [.lit (.string [61]), .held [101, 110, 103, 114, 111, 115, 115, 47, 114, 117, 108, 101, 115, 46, 114, 101, 108, 97, 116, 105, 111, 110, 115, 36, 52]]]), p)) :
    (cs[0]? = some (.string ⟨#[63]⟩) ∧ cs[1]? = some (.func (.func 241) #[] #[])) ∧ (cs[2]? = some (.string ⟨#[60, 61]⟩) ∧ cs[3]? = some (.func (.func 242) #[] #[])) ∧
    (cs[4]? = some (.string ⟨#[62, 61]⟩) ∧ cs[5]? = some (.func (.func 243) #[] #[])) ∧ (cs[6]? = some (.string ⟨#[61]⟩) ∧ cs[7]? = some (.func (.func 244) #[] #[])) := by
  obtain ⟨xs, m, _, hx, hl, hlen, hf⟩ := DataW.trod_array Tryz.underlying159 h
  have hxs := congrArg Prod.fst hx
  simp only [DataW.agg.injEq] at hxs
  have r0 : cs[0 * 2]? = some (.string ⟨([63] : List UInt8).toArray⟩) ∧ cs[0 * 2 + 1]? = some (.func (.func 241) #[] #[]) := by
    obtain ⟨y, hy⟩ : ∃ y, xs[0]? = some y := ⟨xs[0]'(by omega), List.getElem?_eq_getElem (by omega)⟩
    have hf := (hf 0 (by omega)).trans hy
    rw [show Tryz.prog.cellsOf 158 = 2 by kernel_rfl] at hf
    obtain ⟨y0, y1, k, hyy, hln, h0, h1⟩ := trod_struct2 Tryz.underlying158 hf
    have h0 : DataW.trod (funcToken Tryz.prog) Tryz.prog W base sp true k 9 ((((cs.drop (0 * 2)).take 2).drop 0).take 1) = some y0 := h0
    have h1 : DataW.trod (funcToken Tryz.prog) Tryz.prog W base sp true k 126 ((((cs.drop (0 * 2)).take 2).drop 1).take 1) = some y1 := h1
    obtain ⟨s, c0, rfl, _⟩ := DataW.trod_string Tryz.underlying9 h0
    have e0 := sub_at (drop_take1 c0)
    have hln2 : ((cs.drop (0 * 2)).take 2).length = 2 := hln.trans (by kernel_rfl)
    obtain ⟨v, hv⟩ : ∃ v, (((cs.drop (0 * 2)).take 2).drop 1).take 1 = [v] := by
      match hq : (cs.drop (0 * 2)).take 2, hln2 with
      | [a, b], _ => exact ⟨b, rfl⟩
    rw [hv] at h1
    have e1 := sub_at (drop_take1 hv)
    have hd := congrArg (·[0]?) hxs
    simp only [List.getElem?_map, hy, Option.map_some, List.getElem?_cons_zero, List.getElem?_cons_succ] at hd
    rw [hyy] at hd
    simp only [Option.some.injEq, DataW.agg.injEq, List.cons.injEq, DataW.lit.injEq, Lit.string.injEq, and_true] at hd
    obtain ⟨d0, d1⟩ := hd
    obtain ⟨z1, z2⟩ := y1
    simp only [] at d1
    subst d1
    obtain rfl := func_of_trod (f0 := 241) Tryz.underlying126 (by kernel_rfl) h1
    refine ⟨?_, e1⟩
    refine e0.trans ?_
    congr 2; apply ByteArray.ext; apply Array.toList_inj.1; exact d0.symm
  have r1 : cs[1 * 2]? = some (.string ⟨([60, 61] : List UInt8).toArray⟩) ∧ cs[1 * 2 + 1]? = some (.func (.func 242) #[] #[]) := by
    obtain ⟨y, hy⟩ : ∃ y, xs[1]? = some y := ⟨xs[1]'(by omega), List.getElem?_eq_getElem (by omega)⟩
    have hf := (hf 1 (by omega)).trans hy
    rw [show Tryz.prog.cellsOf 158 = 2 by kernel_rfl] at hf
    obtain ⟨y0, y1, k, hyy, hln, h0, h1⟩ := trod_struct2 Tryz.underlying158 hf
    have h0 : DataW.trod (funcToken Tryz.prog) Tryz.prog W base sp true k 9 ((((cs.drop (1 * 2)).take 2).drop 0).take 1) = some y0 := h0
    have h1 : DataW.trod (funcToken Tryz.prog) Tryz.prog W base sp true k 126 ((((cs.drop (1 * 2)).take 2).drop 1).take 1) = some y1 := h1
    obtain ⟨s, c0, rfl, _⟩ := DataW.trod_string Tryz.underlying9 h0
    have e0 := sub_at (drop_take1 c0)
    have hln2 : ((cs.drop (1 * 2)).take 2).length = 2 := hln.trans (by kernel_rfl)
    obtain ⟨v, hv⟩ : ∃ v, (((cs.drop (1 * 2)).take 2).drop 1).take 1 = [v] := by
      match hq : (cs.drop (1 * 2)).take 2, hln2 with
      | [a, b], _ => exact ⟨b, rfl⟩
    rw [hv] at h1
    have e1 := sub_at (drop_take1 hv)
    have hd := congrArg (·[1]?) hxs
    simp only [List.getElem?_map, hy, Option.map_some, List.getElem?_cons_zero, List.getElem?_cons_succ] at hd
    rw [hyy] at hd
    simp only [Option.some.injEq, DataW.agg.injEq, List.cons.injEq, DataW.lit.injEq, Lit.string.injEq, and_true] at hd
    obtain ⟨d0, d1⟩ := hd
    obtain ⟨z1, z2⟩ := y1
    simp only [] at d1
    subst d1
    obtain rfl := func_of_trod (f0 := 242) Tryz.underlying126 (by kernel_rfl) h1
    refine ⟨?_, e1⟩
    refine e0.trans ?_
    congr 2; apply ByteArray.ext; apply Array.toList_inj.1; exact d0.symm
  have r2 : cs[2 * 2]? = some (.string ⟨([62, 61] : List UInt8).toArray⟩) ∧ cs[2 * 2 + 1]? = some (.func (.func 243) #[] #[]) := by
    obtain ⟨y, hy⟩ : ∃ y, xs[2]? = some y := ⟨xs[2]'(by omega), List.getElem?_eq_getElem (by omega)⟩
    have hf := (hf 2 (by omega)).trans hy
    rw [show Tryz.prog.cellsOf 158 = 2 by kernel_rfl] at hf
    obtain ⟨y0, y1, k, hyy, hln, h0, h1⟩ := trod_struct2 Tryz.underlying158 hf
    have h0 : DataW.trod (funcToken Tryz.prog) Tryz.prog W base sp true k 9 ((((cs.drop (2 * 2)).take 2).drop 0).take 1) = some y0 := h0
    have h1 : DataW.trod (funcToken Tryz.prog) Tryz.prog W base sp true k 126 ((((cs.drop (2 * 2)).take 2).drop 1).take 1) = some y1 := h1
    obtain ⟨s, c0, rfl, _⟩ := DataW.trod_string Tryz.underlying9 h0
    have e0 := sub_at (drop_take1 c0)
    have hln2 : ((cs.drop (2 * 2)).take 2).length = 2 := hln.trans (by kernel_rfl)
    obtain ⟨v, hv⟩ : ∃ v, (((cs.drop (2 * 2)).take 2).drop 1).take 1 = [v] := by
      match hq : (cs.drop (2 * 2)).take 2, hln2 with
      | [a, b], _ => exact ⟨b, rfl⟩
    rw [hv] at h1
    have e1 := sub_at (drop_take1 hv)
    have hd := congrArg (·[2]?) hxs
    simp only [List.getElem?_map, hy, Option.map_some, List.getElem?_cons_zero, List.getElem?_cons_succ] at hd
    rw [hyy] at hd
    simp only [Option.some.injEq, DataW.agg.injEq, List.cons.injEq, DataW.lit.injEq, Lit.string.injEq, and_true] at hd
    obtain ⟨d0, d1⟩ := hd
    obtain ⟨z1, z2⟩ := y1
    simp only [] at d1
    subst d1
    obtain rfl := func_of_trod (f0 := 243) Tryz.underlying126 (by kernel_rfl) h1
    refine ⟨?_, e1⟩
    refine e0.trans ?_
    congr 2; apply ByteArray.ext; apply Array.toList_inj.1; exact d0.symm
  have r3 : cs[3 * 2]? = some (.string ⟨([61] : List UInt8).toArray⟩) ∧ cs[3 * 2 + 1]? = some (.func (.func 244) #[] #[]) := by
    obtain ⟨y, hy⟩ : ∃ y, xs[3]? = some y := ⟨xs[3]'(by omega), List.getElem?_eq_getElem (by omega)⟩
    have hf := (hf 3 (by omega)).trans hy
    rw [show Tryz.prog.cellsOf 158 = 2 by kernel_rfl] at hf
    obtain ⟨y0, y1, k, hyy, hln, h0, h1⟩ := trod_struct2 Tryz.underlying158 hf
    have h0 : DataW.trod (funcToken Tryz.prog) Tryz.prog W base sp true k 9 ((((cs.drop (3 * 2)).take 2).drop 0).take 1) = some y0 := h0
    have h1 : DataW.trod (funcToken Tryz.prog) Tryz.prog W base sp true k 126 ((((cs.drop (3 * 2)).take 2).drop 1).take 1) = some y1 := h1
    obtain ⟨s, c0, rfl, _⟩ := DataW.trod_string Tryz.underlying9 h0
    have e0 := sub_at (drop_take1 c0)
    have hln2 : ((cs.drop (3 * 2)).take 2).length = 2 := hln.trans (by kernel_rfl)
    obtain ⟨v, hv⟩ : ∃ v, (((cs.drop (3 * 2)).take 2).drop 1).take 1 = [v] := by
      match hq : (cs.drop (3 * 2)).take 2, hln2 with
      | [a, b], _ => exact ⟨b, rfl⟩
    rw [hv] at h1
    have e1 := sub_at (drop_take1 hv)
    have hd := congrArg (·[3]?) hxs
    simp only [List.getElem?_map, hy, Option.map_some, List.getElem?_cons_zero, List.getElem?_cons_succ] at hd
    rw [hyy] at hd
    simp only [Option.some.injEq, DataW.agg.injEq, List.cons.injEq, DataW.lit.injEq, Lit.string.injEq, and_true] at hd
    obtain ⟨d0, d1⟩ := hd
    obtain ⟨z1, z2⟩ := y1
    simp only [] at d1
    subst d1
    obtain rfl := func_of_trod (f0 := 244) Tryz.underlying126 (by kernel_rfl) h1
    refine ⟨?_, e1⟩
    refine e0.trans ?_
    congr 2; apply ByteArray.ext; apply Array.toList_inj.1; exact d0.symm
  exact ⟨r0, r1, r2, r3⟩
set_option maxRecDepth 100000 in
theorem law16_of {W : World} (h : laidMetH Tryz.prog [("engross/rules.table", Rows.laid_engross_rules_table), ("engross/rules.relations", Rows.laid_engross_rules_relations)] W) : Hid (Law16 W) := by
  have hrel := h.funcs (n := "engross/rules.relations") (d := .agg [.agg [.lit (.string [63]), .iface "func" (.lit (.string [101, 110, 103, 114, 111, 115, 115, 47, 114, 117, 108, 101, 115, 46, 114, 101, 108, 97, 116, 105, 111, 110, 115, 36, 49]))], .agg [.lit (.string [60, 61]), .iface "func" (.lit (.string [101, 110, 103, 114, 111, 115, 115, 47, 114, 117, 108, 101, 115, 46, 114, 101, 108, 97, 116, 105, 111, 110, 115, 36, 50]))], .agg [.lit (.string [62, 61]), .iface "func" (.lit (.string [101, 110, 103, 114, 111, 115, 115, 47, 114, 117, 108, 101, 115, 46, 114, 101, 108, 97, 116, 105, 111, 110, 115, 36, 51]))], .agg [.lit (.string [61]), .iface "func" (.lit (.string [101, 110, 103, 114, 111, 115, 115, 47, 114, 117, 108, 101, 115, 46, 114, 101, 108, 97, 116, 105, 111, 110, 115, 36, 52]))]]) (by simp [Rows.laid_engross_rules_relations])
  obtain ⟨g, t, cs, fuel, p, hg, ht, hv, hd⟩ := hrel
  obtain rfl := Option.some.inj (gRels.symm.trans hg)
  obtain rfl := Option.some.inj (gRelsType.symm.trans ht)
  obtain ⟨⟨a0, a1⟩, ⟨b0, b1⟩, ⟨c0, c1⟩, ⟨d0, d1⟩⟩ := rels_cells hd
  have hcell : ∀ i v, cs.toList[i]? = some v → W.cell? ⟨0, i, none⟩ = some v := fun i v hi => by
    rw [World.var?_cell hg hv i, ← Array.getElem?_toList]; exact hi
  have hltr : 0 < W.heap.size := World.block_lt_of_cell? _ _ (hcell 0 _ a0)
  have hp := (show laidMet Tryz.prog [("engross/rules.table", Rows.laid_engross_rules_table)] W ∧ handlesMet Tryz.prog _ W from h).1
  obtain ⟨ps, hl, _⟩ := hp
  have hl' : DataW.LaidVars Tryz.prog W [("engross/rules.table", .agg (Rule.rows.map fun r => .agg [.lit (.string r.1), .lit (.int .i64 (r.2.1 : Nat)), .lit (.int .i64 (r.2.2 : Nat))]))] ps := hl
  obtain ⟨g2, t2, cs2, fuel2, p2, q2, hg2, ht2, hv2, hd2, _⟩ := hl'
  obtain rfl := Option.some.inj (gRules.symm.trans hg2)
  obtain rfl := Option.some.inj (gRulesType.symm.trans ht2)
  have hcell2 : ∀ i v, cs2.toList[i]? = some v → W.cell? ⟨3, i, none⟩ = some v := fun i v hi => by
    rw [World.var?_cell hg2 hv2 i, ← Array.getElem?_toList]; exact hi
  have hrc := rules_cells hd2
  refine zH ⟨⟨fun n hn => ⟨hcell2 _ _ (hrc n hn).1, hcell2 _ _ (hrc n hn).2.1, hcell2 _ _ (hrc n hn).2.2⟩, World.block_lt_of_cell? _ _ (hcell2 _ _ (hrc 0 (by decide)).1)⟩, ⟨⟨hcell _ _ a0, hcell _ _ a1⟩, ⟨hcell _ _ b0, hcell _ _ b1⟩, ⟨hcell _ _ c0, hcell _ _ c1⟩, ⟨hcell _ _ d0, hcell _ _ d1⟩, hltr⟩⟩
set_option maxRecDepth 100000 in
theorem open_ev {H : Type} {enc : TypeId × Value → H} {w : World} {base : Nat} {sp : Nat → Bool} {held : Bool} {r : Reach} {b0 : Nat} {v : Value} {d : DataW H} {ps : List MemPlace}
    (hv : Value.okWide Tryz.prog w r b0 29 v) (h : DataW.Trod enc Tryz.prog w base sp held 29 v d ps) : ∃ e : Ev, v = e.val ∧ e.I64s := by
  obtain ⟨cs, rfl, hsz, hl⟩ := open_agg (n := 2) Tryz.underlying29 hv h
  have hlv : leavesOf Tryz.prog 2 29 = [(0, 3), (1, 2), (2, 2), (3, 2), (4, 3), (5, 2), (6, 2)] := by kernel_rfl
  rw [hlv] at hl
  rw [show Tryz.prog.cellsOf 29 = 7 by kernel_rfl] at hsz
  obtain ⟨c0, m0, y0, e0, t0⟩ := hl 0 3 (by simp)
  obtain ⟨x0, rfl, w0⟩ := leaf_int Tryz.underlying3 t0
  obtain ⟨c1, m1, y1, e1, t1⟩ := hl 1 2 (by simp)
  obtain ⟨x1, rfl, w1⟩ := leaf_int Tryz.underlying2 t1
  obtain ⟨c2, m2, y2, e2, t2⟩ := hl 2 2 (by simp)
  obtain ⟨x2, rfl, w2⟩ := leaf_int Tryz.underlying2 t2
  obtain ⟨c3, m3, y3, e3, t3⟩ := hl 3 2 (by simp)
  obtain ⟨x3, rfl, w3⟩ := leaf_int Tryz.underlying2 t3
  obtain ⟨c4, m4, y4, e4, t4⟩ := hl 4 3 (by simp)
  obtain ⟨x4, rfl, w4⟩ := leaf_int Tryz.underlying3 t4
  obtain ⟨c5, m5, y5, e5, t5⟩ := hl 5 2 (by simp)
  obtain ⟨x5, rfl, w5⟩ := leaf_int Tryz.underlying2 t5
  obtain ⟨c6, m6, y6, e6, t6⟩ := hl 6 2 (by simp)
  obtain ⟨x6, rfl, w6⟩ := leaf_int Tryz.underlying2 t6
  refine ⟨⟨x0, x1, x2, x3, x4, x5, x6⟩, ?_, (wf_i64 w0).out, (wf_i64 w1).out, (wf_i64 w2).out, (wf_i64 w3).out, (wf_i64 w4).out, (wf_i64 w5).out, (wf_i64 w6).out⟩
  show Value.agg cs = .agg #[_, _, _, _, _, _, _]
  congr 1
  apply Array.ext_getElem?
  intro i
  match i with
  | 0 => rw [e0]; rfl
  | 1 => rw [e1]; rfl
  | 2 => rw [e2]; rfl
  | 3 => rw [e3]; rfl
  | 4 => rw [e4]; rfl
  | 5 => rw [e5]; rfl
  | 6 => rw [e6]; rfl
  | i + 7 => rw [Array.getElem?_eq_none (by omega)]; rfl
def tabCells (cs : Array Value) : Obj → Obj
  | .cells _ t frozen => .cells cs t frozen
  | o => o
def ruleCells : List Value := Rule.rows.flatMap fun r => [.string ⟨r.1.toArray⟩, .int .i64 (r.2.1 : Nat), .int .i64 (r.2.2 : Nat)]
def relsCells : List Value := [.string ⟨#[63]⟩, .func (.func 241) #[] #[], .string ⟨#[60, 61]⟩, .func (.func 242) #[] #[], .string ⟨#[62, 61]⟩, .func (.func 243) #[] #[], .string ⟨#[61]⟩, .func (.func 244) #[] #[]]
noncomputable def gateWorld (os : Os) : World :=
  { World.holding Tryz.prog os ⟨#[], #[], []⟩ with heap := ((World.holding Tryz.prog os ⟨#[], #[], []⟩).heap.modify 3 (tabCells ruleCells.toArray)).modify 0 (tabCells relsCells.toArray) }
end Go.Proofs.YtjcdpmianmgiaaaGreatDoor
namespace Go.Proofs.YtjcdpmianmgiaaaGreatDoor
open Go Go.ChangeShapes Go.WideShapes Go.Deep Go.ChangeAt Go.RowKit
set_option linter.unusedVariables false
section
variable {H : Type} {enc : TypeId × Value → H} {P : Program} {w : World}
theorem open_recs {t e : TypeId} {fs : Array Field} (ht : P.underlying t = some (.slice e)) (he : P.underlying e = some (.struct fs)) (hone : oneCellFields P fs = true) (hC : P.cellsOf e = fs.size) (hpos : 0 < fs.size)
    (hI : ∀ (j : Nat) (f : Field), fs[j]? = some f → P.underlying f.type = some (.int .i64)) {m : Nat} {c : Value} {y : DataW H × List MemPlace} (hf : DataW.trod enc P w 0 (fun _ => true) true m t [c] = some y) :
    ∃ l : List (List Int), RowAt w c fs.size l ∧ l.length ≤ maxLen ∧ ∀ r ∈ l, ∀ x ∈ r, I64 x := by
  rcases open_slice ht hf with ⟨hcs, _⟩ | ⟨a, len, cap, m', n, D, Pl, hcs, hb, hl, hm, hmm, _, hi⟩
  · have hcs := List.cons.inj hcs |>.1
    subst hcs
    exact ⟨[], ⟨none, 0, rfl, fun r hr => by simp at hr, .inl rfl⟩, Nat.zero_le _, fun r hr => by simp at hr⟩
  · have hcs := List.cons.inj hcs |>.1
    subst hcs
    simp only [if_true] at hmm
    subst hmm
    have hA : ∀ ij : Nat × Nat, ∃ x : Int, ij.1 < len → ij.2 < fs.size → ((∃ b o, a = ⟨b, o, none⟩ ∧ b < w.heap.size ∧ w.cell? ⟨b, o + ij.1 * fs.size + ij.2, none⟩ = some (.int .i64 x)) ∧ I64 x) := by
      rintro ⟨i, j⟩
      by_cases hin : i < len
      · by_cases hjn : j < fs.size
        · obtain ⟨cs', hc, ht'⟩ := hi i (by omega)
          rw [hC] at hc
          obtain ⟨_, hcl, hat⟩ := World.cells?_some hc
          obtain ⟨ys, n', _, _, _, hyl, hff⟩ := DataW.trod_struct he ht'
          have hfj : fs[j]? = some fs[j] := Array.getElem?_eq_getElem hjn
          obtain ⟨ho, hk⟩ := hone_of hone j _ hfj
          have hcell := hat j hjn
          rw [List.getElem?_eq_getElem (by omega)] at hcell
          have h1 := hff j _ hfj
          rw [ho, hk] at h1
          have hone' : (cs'.drop j).take 1 = [cs'[j]'(by omega)] := by
            rw [List.drop_eq_getElem_cons (by omega)]
            rfl
          rw [hone', List.getElem?_eq_getElem (by omega)] at h1
          obtain ⟨x, hx, hwf⟩ := leaf_int (hI j _ hfj) h1
          rw [hx] at hcell
          have hsp0 : a.spot = none := by
            obtain ⟨cs0, hc0, _⟩ := hi 0 (by omega)
            rw [hC] at hc0
            obtain ⟨_, hcl0, hat0⟩ := World.cells?_some hc0
            have h2 := hat0 0 hpos
            rw [Nat.zero_mul] at h2
            have e0 : (a.add 0).add 0 = a := by simp [Addr.add]
            rw [e0, List.getElem?_eq_getElem (by omega)] at h2
            exact spot_none h2
          have h0 := addr_none hsp0
          generalize a.block = b at h0
          generalize a.off = o at h0
          subst h0
          rw [add_at, add_at] at hcell
          exact ⟨x, fun _ _ => ⟨⟨b, o, rfl, World.block_lt_of_cell? w _ hcell, hcell⟩, (wf_i64 hwf).out⟩⟩
        · exact ⟨0, fun _ h => absurd h hjn⟩
      · exact ⟨0, fun h => absurd h hin⟩
    obtain ⟨g, hg⟩ := Classical.axiomOfChoice hA
    have hk : ∀ r ∈ (List.range len).map (fun i => (List.range fs.size).map fun j => g (i, j)), r.length = fs.size := fun r hr => by
      obtain ⟨i, _, rfl⟩ := List.mem_map.1 hr
      simp
    have hlen : ((List.range len).map (fun i => (List.range fs.size).map fun j => g (i, j))).length = len := by simp
    refine ⟨(List.range len).map (fun i => (List.range fs.size).map fun j => g (i, j)), ⟨some a, m', by rw [hlen], hk, ?_⟩, by rw [hlen]; omega, fun r hr x hx => ?_⟩
    · by_cases h0 : len = 0
      · subst h0; exact .inl rfl
      · obtain ⟨⟨b, o, rfl, hbl, _⟩, _⟩ := hg (0, 0) (by show 0 < len; omega) hpos
        refine .inr ⟨b, o, rfl, hbl, fun j x hj => ?_⟩
        have hjl := (List.getElem?_eq_some_iff.1 hj).1
        rw [flat_len hk, hlen] at hjl
        have hd : j / fs.size < len := (Nat.div_lt_iff_lt_mul hpos).2 hjl
        have hmd : j % fs.size < fs.size := Nat.mod_lt _ hpos
        have h1 := flat_get (l := (List.range len).map (fun i => (List.range fs.size).map fun j => g (i, j))) (i := j / fs.size) (j := j % fs.size) hk (by rw [List.getElem?_map, List.getElem?_range hd]; rfl) (x := g (j / fs.size, j % fs.size)) (by rw [List.getElem?_map, List.getElem?_range hmd]; rfl)
        have hj' : j / fs.size * fs.size + j % fs.size = j := by rw [Nat.mul_comm]; exact Nat.div_add_mod j fs.size
        rw [hj', hj] at h1
        injection h1 with h1
        obtain ⟨⟨b', o', he', _, hcell⟩, _⟩ := hg (j / fs.size, j % fs.size) hd hmd
        injection he' with hb' ho'
        subst hb' ho' h1
        simp only at hcell
        rw [Nat.add_assoc, hj'] at hcell
        exact hcell
    · obtain ⟨i, hi', rfl⟩ := List.mem_map.1 hr
      obtain ⟨j, hj', rfl⟩ := List.mem_map.1 hx
      exact (hg (i, j) (by simpa using hi') (by simpa using hj')).2
end
def Bk.Ints (b : Bk) : Prop := (∀ r ∈ b.h, ∀ x ∈ r, I64 x) ∧ (∀ r ∈ b.s, ∀ x ∈ r, I64 x) ∧ (∀ r ∈ b.o, ∀ x ∈ r, I64 x) ∧ (∀ r ∈ b.r, ∀ x ∈ r, I64 x) ∧ I64 b.n
def intF (P : Program) (fs : Array Field) : Bool := (List.range fs.size).all fun j => match fs[j]? with | some f => isI64 (P.underlying f.type) | none => true
theorem intF_spec {P : Program} {fs : Array Field} (h : intF P fs = true) (j : Nat) (f : Field) (hj : fs[j]? = some f) : P.underlying f.type = some (.int .i64) := by
  have h1 := List.all_eq_true.1 h j (List.mem_range.2 (zL hj))
  rw [hj] at h1
  exact isI64_spec h1
set_option maxRecDepth 100000 in
theorem open_book {H : Type} {enc : TypeId × Value → H} {W : World} {r : Reach} {b0 : Nat} {v : Value} {d : DataW H} {ps : List MemPlace} (hv : Value.okWide Tryz.prog W r b0 27 v) (h : DataW.Trod enc Tryz.prog W 0 (fun _ => true) true 27 v d ps) :
    ∃ b : Bk, BkAt W v b ∧ b.Ints := by
  obtain ⟨cs, rfl, hsz, hc⟩ := open_agg (n := 2) Tryz.underlying27 hv h
  obtain ⟨v0, m0, y0, e0, t0⟩ := hc 0 22 (by decide +kernel)
  obtain ⟨v1, m1, y1, e1, t1⟩ := hc 1 23 (by decide +kernel)
  obtain ⟨v2, m2, y2, e2, t2⟩ := hc 2 24 (by decide +kernel)
  obtain ⟨v3, m3, y3, e3, t3⟩ := hc 3 25 (by decide +kernel)
  obtain ⟨v4, m4, y4, e4, t4⟩ := hc 4 2 (by decide +kernel)
  obtain ⟨lh, h1, _, i1⟩ := open_recs Tryz.underlying22 Tryz.underlying82 (by kernel_rfl) (by kernel_rfl) (by decide) (fun j f hj => intF_spec (P := Tryz.prog) (by kernel_rfl) j f hj) t0
  obtain ⟨ls, h2, _, i2⟩ := open_recs Tryz.underlying23 Tryz.underlying84 (by kernel_rfl) (by kernel_rfl) (by decide) (fun j f hj => intF_spec (P := Tryz.prog) (by kernel_rfl) j f hj) t1
  obtain ⟨lo, h3, _, i3⟩ := open_recs Tryz.underlying24 Tryz.underlying86 (by kernel_rfl) (by kernel_rfl) (by decide) (fun j f hj => intF_spec (P := Tryz.prog) (by kernel_rfl) j f hj) t2
  obtain ⟨lr, h4, _, i4⟩ := open_recs Tryz.underlying25 Tryz.underlying88 (by kernel_rfl) (by kernel_rfl) (by decide) (fun j f hj => intF_spec (P := Tryz.prog) (by kernel_rfl) j f hj) t3
  obtain ⟨n, hn, wn⟩ := leaf_int Tryz.underlying2 t4
  have hcs : cs = #[v0, v1, v2, v3, .int .i64 n] := by
    have hz : cs.size = 5 := hsz.trans (by kernel_rfl)
    apply Array.ext_getElem?
    intro i
    match i with
    | 0 => rw [e0]; rfl
    | 1 => rw [e1]; rfl
    | 2 => rw [e2]; rfl
    | 3 => rw [e3]; rfl
    | 4 => rw [e4, hn]; rfl
    | i + 5 => rw [Array.getElem?_eq_none (by omega), Array.getElem?_eq_none (by simp)]
  subst hcs
  exact ⟨⟨lh, ls, lo, lr, n⟩, ⟨v0, v1, v2, v3, rfl, h1, h2, h3, h4⟩, i1, i2, i3, i4, (wf_i64 wn).out⟩
end Go.Proofs.YtjcdpmianmgiaaaGreatDoor
namespace Go.Proofs.YtjcdpmianmgiaaaGreatDoor
open Go Go.RowKit Mon
set_option linter.unusedVariables false
set_option linter.unusedSimpArgs false
set_option maxRecDepth 100000 in
set_option maxHeartbeats 16000000 in
theorem GateKeeps_walk (v : Value) (b : Bk) (e : Ev) (rate : Int) (w0 : World) (hT : Hid (Law16 w0)) (B0 : Hid (BkAt w0 v b)) (hi : Hid b.I64s) (hE : Hid e.I64s) (hrt : Hid (I64 rate)) :
    Calls Tryz.prog 4 #[v, e.val, .int .i64 rate] w0 fun r w' => r = .returned (.bool true) ∧ Below w0.heap.size w0 w' := by
  unfold Ev.val
  obtain ⟨vh, vs, vo, vr, rfl, r1, r2, r3, r4⟩ := B0.out
  have h6 : Hid (∀ r ∈ b.o, r.length = 6) := (by obtain ⟨_, _, _, h, _⟩ := r3; exact h)
  have h2r : Hid (∀ r ∈ b.r, r.length = 2) := (by obtain ⟨_, _, _, h, _⟩ := r4; exact h)
  obtain ⟨Ah, ch, rfl, _⟩ := r1
  obtain ⟨As, cs, rfl, _⟩ := r2
  obtain ⟨Ao, co, rfl, _⟩ := r3
  obtain ⟨Ar, cr, rfl, _⟩ := r4
  obtain ⟨wb, hwb⟩ : ∃ wb : World, (w0.alloc (.cells #[.slice Ah b.h.length ch, .slice As b.s.length cs, .slice Ao b.o.length co, .slice Ar b.r.length cr, .int .i64 b.n] 27)).alloc (.cells #[.int .i64 e.kind, .int .i64 e.acc, .int .i64 e.ord, .int .i64 e.sym, .int .i64 e.side, .int .i64 e.qty, .int .i64 e.px] 29) = wb := ⟨_, rfl⟩
  have HB : Hid (Below w0.heap.size w0 wb) := by rw [← hwb]; exact below_alloc (below_alloc (Below.refl _ _) (Nat.le_refl _) _) (by simp) _
  have Kb : Hid (wb.heap[w0.heap.size]? = some (.cells #[.slice Ah b.h.length ch, .slice As b.s.length cs, .slice Ao b.o.length co, .slice Ar b.r.length cr, .int .i64 b.n] 27 (0, 0))) := by rw [← hwb]; exact blk_old (heap_new _ _) _
  have Ke : Hid (wb.heap[w0.heap.size + 1]? = some (.cells #[.int .i64 e.kind, .int .i64 e.acc, .int .i64 e.ord, .int .i64 e.sym, .int .i64 e.side, .int .i64 e.qty, .int .i64 e.px] 29 (0, 0))) := by rw [← hwb]; exact blk_new _ _ _ (by simp)
  replace hwb := zH hwb
  go_enter Tryz.func4, Tryz.ntmps4
  go_wp2_with fail
  rw [hwb.out]
  clear hwb
  with_reducible refine (alive17 _ (zH (hT.out.call HB.out))).mono ?_
  rintro r wc1 ⟨rfl, hb⟩
  replace Kb := zK Kb hb
  replace Ke := zK Ke hb
  replace HB := zB HB hb
  clear hb
  have c_b_0 := zC Kb.out
  have lt_b := zL Kb.out
  go_wp2_with fail
  clear c_b_0 lt_b
  with_reducible refine (Great_any _ b _ (zH (B0.out.call HB.out))).mono ?_
  rintro r wc2 ⟨g, rfl, hg, hb⟩
  replace Kb := zK Kb hb
  replace Ke := zK Ke hb
  replace HB := zB HB hb
  clear hb
  cases g with
  | true =>
    clear hg
    go_wp2_with fail
    go_ret
    exact ⟨rfl, HB.out⟩
  | false =>
  have HFit := zH (hg rfl)
  clear hg
  have hs := zH HFit.out.small
  have hsS : Hid (b.s.length ≤ 900000) := (show b.s.length ≤ 900000 by have := HFit.out; unfold Bk.Fit at this; omega)
  have t0 : ∀ x : Int, (x == x) = true := fun x => by simp
  obtain ⟨M, hM⟩ : ∃ M, (b.mayB && (decide (0 ≤ rate) && decide (rate ≤ 1000))) = M := ⟨_, rfl⟩
  cases M with
  | false =>
    have qm : Hid (∀ (u : Value) (wz : World), Hid (BkAt wz u b) → Calls Tryz.prog 15 #[u, .int .i64 rate] wz fun r w' => r = .returned (.bool false) ∧ Below wz.heap.size wz w') := (show _ from fun u wz hu => by rw [← hM]; exact may17_any u b rate wz hu hs)
    have c_b_0 := zC Kb.out
    have lt_b := zL Kb.out
    go_wp2_with fail
    clear c_b_0 lt_b
    with_reducible refine (qm.out _ _ (zH (B0.out.call HB.out))).mono ?_
    rintro r wc3 ⟨rfl, hb⟩
    replace Kb := zK Kb hb
    replace Ke := zK Ke hb
    replace HB := zB HB hb
    clear hb
    go_wp2_with fail
    go_ret
    exact ⟨rfl, HB.out⟩
  | true =>
    have hmr := may_good hM
    have qm : Hid (∀ (u : Value) (wz : World), Hid (BkAt wz u b) → Calls Tryz.prog 15 #[u, .int .i64 rate] wz fun r w' => r = .returned (.bool true) ∧ Below wz.heap.size wz w') := (show _ from fun u wz hu => by rw [← hM]; exact may17_any u b rate wz hu hs)
    clear hM
    have c_b_0 := zC Kb.out
    have lt_b := zL Kb.out
    go_wp2_with fail
    clear c_b_0 lt_b
    with_reducible refine (qm.out _ _ (zH (B0.out.call HB.out))).mono ?_
    rintro r wc4 ⟨rfl, hb⟩
    replace Kb := zK Kb hb
    replace Ke := zK Ke hb
    replace HB := zB HB hb
    clear hb
    by_cases hn : b.n = 1099511627776
    · have hn2 : (b.n == 1099511627776) = true := by simp [hn]
      clear hn
      have c_b_0 := zC Kb.out
      have lt_b := zL Kb.out
      go_wp2_with fail
      go_ret
      exact ⟨rfl, HB.out⟩
    · skip
      have hn2 : (b.n == 1099511627776) = false := beq_eq_false_iff_ne.2 hn
      have hm : Hid (b.mayB = true) := hmr.1
      have hr0 : 0 ≤ rate ∧ rate ≤ 1000 := hmr.2
      have hpr : Hid (∀ sym, 0 ≤ priceOf b sym) := (show ∀ sym, 0 ≤ priceOf b sym from fun sym => mayB_price hmr.1 h2r.out sym)
      have hfine := (Bk.mayB_iff b).1 hmr.1
      have hN : Hid (0 ≤ b.n ∧ b.n ≤ 1099511627776) := ⟨hfine.n0, hfine.n1⟩
      clear hfine
      have q1 := zH (fun wz hz hv => gStep_ok (.slice Ah b.h.length ch) (.slice As b.s.length cs) (.slice Ao b.o.length co) (.slice Ar b.r.length cr) b e rate wz hz hv hs hi hm hE hsS hr0 hn)
      unfold Ev.val at q1
      have hnbs0 := gate_small hmr.1 h6.out hsS.out e rate
      have hLl0 := gateL_len b e rate
      have hmay := gateB_may hmr.1 h6.out hn e rate
      have hgood := @gateV_good b e rate
      have hbad := @gateV_bad b e rate
      have hgn : (gateB b e rate).n = b.n + 1 := rfl
      have hgd : ({ gateB b e rate with n := b.n } : Bk) = { doneB b e rate with n := b.n } := rfl
      obtain ⟨nb, hnb⟩ : ∃ nb, gateB b e rate = nb := ⟨_, rfl⟩
      obtain ⟨⟨V1, V2⟩, hV⟩ : ∃ V, gateV b e rate = V := ⟨_, rfl⟩
      obtain ⟨L, hL⟩ : ∃ L, gateL b e rate = L := ⟨_, rfl⟩
      rw [hnb, hV, hL] at q1
      rw [hnb] at hnbs0
      rw [hL] at hLl0
      have hnbs := zH hnbs0
      have hLl := zH hLl0
      have q1 : Hid (∀ wz : World, Hid (Law16 wz) → Hid (BkAt wz (.agg #[.slice Ah b.h.length ch, .slice As b.s.length cs, .slice Ao b.o.length co, .slice Ar b.r.length cr, .int .i64 b.n]) b) → Calls Tryz.prog 14 #[.agg #[.slice Ah b.h.length ch, .slice As b.s.length cs, .slice Ao b.o.length co, .slice Ar b.r.length cr, .int .i64 b.n], .agg #[.int .i64 e.kind, .int .i64 e.acc, .int .i64 e.ord, .int .i64 e.sym, .int .i64 e.side, .int .i64 e.qty, .int .i64 e.px], .int .i64 rate] wz fun r w' => ∃ v vS, r = .returned (.tuple #[v, .agg #[.int .i64 V1, .int .i64 V2], vS, .int .i64 0]) ∧ BkOwn w' wz.heap.size v nb ∧ StepsAt w' vS L ∧ Below wz.heap.size wz w') := q1
      clear hnbs0 hLl0 hr0
      rw [hnb] at hmay hgn hgd
      rw [hV] at hgood hbad
      have hnbn := zH hgn
      have hwr : IntKind.i64.wrap (b.n + 1) = b.n + 1 := by rw [IntKind.wrap_i64]; have := hN.out; omega
      have qM : Hid (∀ (u : Value) (wz : World), Hid (BkAt wz u nb) → Calls Tryz.prog 20 #[u] wz fun r w' => r = .returned (.bool true) ∧ Below wz.heap.size wz w') := (show _ from fun u wz h => by have h1 := rBkMay_any u nb wz h hnbs; rw [hmay] at h1; exact h1)
      clear hmay hgn hnb hV hL hmr hn
      have qs : Hid (∀ (u u2 : Value) (wz : World), Hid (BkAt wz u b) → Hid (BkAt wz u2 b) → Calls Tryz.prog 16 #[u, u2] wz fun r w' => r = .returned (.bool true) ∧ Below wz.heap.size wz w') := (show _ from fun u u2 wz h1 h2 => by have h := rSame_any u u2 b b wz h1 h2 hs; rw [(sameB_iff b b).2 rfl] at h; exact h)
      have c_b_0 := zC Kb.out
      have lt_b := zL Kb.out
      go_wp2_with fail
      clear c_b_0 lt_b
      with_reducible refine (Copy_any _ b _ (zH (B0.out.call HB.out)) hs).mono ?_
      rintro r wc5 ⟨v6, rfl, hOw, hb⟩
      replace Kb := zK Kb hb
      replace Ke := zK Ke hb
      replace HB := zB HB hb
      clear hb
      obtain ⟨U1w, u1w, U2w, u2w, U3w, u3w, U4w, u4w, hv6⟩ := hOw.at.forms
      subst hv6
      have HOw := zH hOw
      clear hOw
      have c_b_0 := zC Kb.out
      have lt_b := zL Kb.out
      have c_e_0 := zC Ke.out
      have lt_e := zL Ke.out
      go_wp2_with fail
      clear c_b_0 lt_b c_e_0 lt_e
      obtain ⟨wa6, hwa6⟩ : ∃ wa6 : World, wc5.alloc (.cells #[.slice U1w b.h.length u1w, .slice U2w b.s.length u2w, .slice U3w b.o.length u3w, .slice U4w b.r.length u4w, .int .i64 b.n] 27) = wa6 := ⟨_, rfl⟩
      rw [hwa6]
      have hbwa6 : Below wc5.heap.size wc5 wa6 := by rw [← hwa6]; exact below_alloc (Below.refl _ _) (Nat.le_refl _) _
      replace Kb := zK Kb hbwa6
      replace Ke := zK Ke hbwa6
      replace HB := zB HB hbwa6
      replace HOw := zH (HOw.out.kept hbwa6)
      have Kw : Hid (wa6.heap[wc5.heap.size]? = some (.cells #[.slice U1w b.h.length u1w, .slice U2w b.s.length u2w, .slice U3w b.o.length u3w, .slice U4w b.r.length u4w, .int .i64 b.n] 27 (0, 0))) := by rw [← hwa6]; exact heap_new _ _
      clear hwa6 hbwa6
      with_reducible refine (q1.out _ (zH (hT.out.call HB.out)) (zH (B0.out.call HB.out))).mono ?_
      rintro r wc7 ⟨v5, vS, rfl, hO, hS, hb⟩
      replace Kb := zK Kb hb
      replace Ke := zK Ke hb
      replace Kw := zK Kw hb
      replace HB := zB HB hb
      replace HOw := zH (HOw.out.kept hb)
      clear hb
      obtain ⟨U1, u1, U2, u2, U3, u3, U4, u4, hv5⟩ := hO.at.forms
      rw [hnbn.out] at hv5
      subst hv5
      have HO := zH hO
      clear hO
      obtain ⟨AS, cS, hvS⟩ := hS.formS
      subst hvS
      clear hS
      have Lc : Hid (w0.heap.size ≤ wc7.heap.size) := HB.out.size
      have NBC : Hid (w0.heap.size ≠ wc7.heap.size) := Nat.ne_of_lt (zL Kb.out)
      have c_b_0 := zC Kb.out
      have lt_b := zL Kb.out
      go_wp2_with fail
      clear c_b_0 lt_b
      obtain ⟨wa8, hwa8⟩ : ∃ wa8 : World, (wc7.alloc (.cells #[.slice U1 nb.h.length u1, .slice U2 nb.s.length u2, .slice U3 nb.o.length u3, .slice U4 nb.r.length u4, .int .i64 (b.n + 1)] 27)).alloc (.cells #[.int .i64 V1, .int .i64 V2] 33) = wa8 := ⟨_, rfl⟩
      rw [hwa8]
      have hb : Below wc7.heap.size wc7 wa8 := by rw [← hwa8]; exact below_alloc (below_alloc (Below.refl _ _) (Nat.le_refl _) _) (by simp) _
      replace Kb := zK Kb hb
      replace Ke := zK Ke hb
      replace Kw := zK Kw hb
      replace HB := zB HB hb
      replace HOw := zH (HOw.out.kept hb)
      replace HO := zH (HO.out.kept hb)
      have Kc : Hid (wa8.heap[wc7.heap.size]? = some (.cells #[.slice U1 nb.h.length u1, .slice U2 nb.s.length u2, .slice U3 nb.o.length u3, .slice U4 nb.r.length u4, .int .i64 (b.n + 1)] 27 (0, 0))) := by rw [← hwa8]; exact blk_old (heap_new _ _) _
      have Kv : Hid (wa8.heap[wc7.heap.size + 1]? = some (.cells #[.int .i64 V1, .int .i64 V2] 33 (0, 0))) := by rw [← hwa8]; exact blk_new _ _ _ (by simp)
      clear hwa8 hb
      with_reducible refine (qM.out _ _ (zH HO.out.at)).mono ?_
      rintro r wc9 ⟨rfl, hb⟩
      replace Kb := zK Kb hb
      replace Ke := zK Ke hb
      replace Kw := zK Kw hb
      replace Kc := zK Kc hb
      replace Kv := zK Kv hb
      replace HB := zB HB hb
      replace HOw := zH (HOw.out.kept hb)
      replace HO := zH (HO.out.kept hb)
      clear hb
      clear qM
      have c_b_0 := zC Kb.out
      have lt_b := zL Kb.out
      have c_w_0 := zC Kw.out
      have lt_w := zL Kw.out
      go_wp2_with fail
      clear c_b_0 lt_b c_w_0 lt_w
      with_reducible refine (qs.out _ _ _ (zH (B0.out.call HB.out)) (zH HOw.out.at)).mono ?_
      rintro r wc10 ⟨rfl, hb⟩
      replace Kb := zK Kb hb
      replace Ke := zK Ke hb
      replace Kw := zK Kw hb
      replace Kc := zK Kc hb
      replace Kv := zK Kv hb
      replace HB := zB HB hb
      replace HOw := zH (HOw.out.kept hb)
      replace HO := zH (HO.out.kept hb)
      clear hb
      clear HOw
      clear Kw
      by_cases hV1 : V1 = 0
      · skip
        obtain ⟨_, hp, h4⟩ := hgood hV1
        try simp only [] at hp h4
        have hp2 : decide (0 ≤ V2) = true := decide_eq_true hp
        have hv1 : (V1 == 0) = true := by simp [hV1]
        clear hgood hbad hgd hV1
        cases hk : (e.kind == 4) with
        | true =>
          clear h4
          have c_b_0 := zC Kb.out
          have lt_b := zL Kb.out
          have c_c_0 := zC Kc.out
          have lt_c := zL Kc.out
          have c_v_0 := zC Kv.out
          have lt_v := zL Kv.out
          have c_e_0 := zC Ke.out
          have lt_e := zL Ke.out
          go_wp2_with fail
          go_ret
          exact ⟨rfl, HB.out⟩
        | false =>
          have hz : (V2 == 0) = true := by
            rcases h4 with h | h
            · simp [h] at hk
            · simp [h]
          clear h4
          have c_b_0 := zC Kb.out
          have lt_b := zL Kb.out
          have c_c_0 := zC Kc.out
          have lt_c := zL Kc.out
          have c_v_0 := zC Kv.out
          have lt_v := zL Kv.out
          have c_e_0 := zC Ke.out
          have lt_e := zL Ke.out
          go_wp2_with fail
          go_ret
          exact ⟨rfl, HB.out⟩
      · skip
        obtain ⟨hz, hd⟩ := hbad hV1
        try simp only [] at hz
        subst hz
        have hv1 : (V1 == 0) = false := beq_eq_false_iff_ne.2 hV1
        rw [hd] at hgd
        have hgd2 : ({ nb with n := b.n } : Bk) = b := hgd
        have HGD := zH hgd2
        clear hgood hbad hgd hV1 hd hgd2
        have NE : Hid (w0.heap.size ≠ wc7.heap.size) := NBC.out
        have c_b_0 := zC Kb.out
        have lt_b := zL Kb.out
        have c_c_0 := zC Kc.out
        have fc_c_0 := zF Kc.out
        have lt_c := zL Kc.out
        have c_v_0 := zC Kv.out
        have lt_v := zL Kv.out
        have nb1 := NE.out
        have nb2 := nb1.symm
        go_wp2_with fail
        obtain ⟨ws11, hws11⟩ : ∃ ws11 : World, wc10.setCell ⟨wc7.heap.size, 4, none⟩ (.int .i64 b.n) = ws11 := ⟨_, rfl⟩
        rw [hws11]
        clear c_b_0 lt_b c_c_0 fc_c_0 lt_c c_v_0 lt_v nb1 nb2
        have zE : putC wc10 (wc7.heap.size) 4 [(.int .i64 b.n : Value)] = ws11 := hws11
        replace HO := zH (BkOwn.put HO.out Kc.out 4 [(.int .i64 b.n : Value)])
        rw [zE] at HO
        replace HB := zQ zE Lc HB
        replace Kb := zN zE Kb NE.out
        replace Ke := zO zE Kc Ke
        replace Kv := zO zE Kc Kv
        replace Kc := zP zE Kc
        clear zE
        replace Kc : Hid (ws11.heap[wc7.heap.size]? = some (.cells #[.slice U1 nb.h.length u1, .slice U2 nb.s.length u2, .slice U3 nb.o.length u3, .slice U4 nb.r.length u4, .int .i64 b.n] 27 (0, 0))) := Kc.out
        clear hws11
        have HC : Hid (BkAt ws11 (.agg #[.slice U1 nb.h.length u1, .slice U2 nb.s.length u2, .slice U3 nb.o.length u3, .slice U4 nb.r.length u4, .int .i64 b.n]) b) := (show BkAt _ _ _ by have h := (HO.out.at).count b.n; rw [HGD.out] at h; exact h)
        with_reducible refine (qs.out _ _ _ (zH (B0.out.call HB.out)) HC).mono ?_
        rintro r wc12 ⟨rfl, hb⟩
        replace Kb := zK Kb hb
        replace Ke := zK Ke hb
        replace Kc := zK Kc hb
        replace Kv := zK Kv hb
        replace HB := zB HB hb
        replace HO := zH (HO.out.kept hb)
        clear hb
        go_wp2_with fail
        go_ret
        exact ⟨rfl, HB.out⟩
end Go.Proofs.YtjcdpmianmgiaaaGreatDoor
namespace Go.Proofs.YtjcdpmianmgiaaaGreatDoor.gateKeeps
open Go.ChangeShapes Go.WideShapes Go.ChangeAt Go.RowKit
open Go.ChangeMaps (open_string shut_string)
set_option linter.unusedVariables false
theorem own : ownKnob Tryz.prog.godebug = none := by kernel_rfl
set_option maxRecDepth 100000 in
theorem contract (H : Type) (enc : TypeId × Value → H) (W : World) (base : Nat) (args : Array Value) (ds gs : List (DataW H)) (before : List MemPlace)
    (hval : ∀ (j : Nat) t v, Tryz.f4.params[j]? = some t → args[j]? = some v → Value.okWide Tryz.prog W .any base t v)
    (hW : DataW.Whole enc Tryz.prog Tryz.f4.params.toList Rows.gateKeepsSpec.vars false W args.toList ds gs before) (hsz : (DataW.weightsEach Tryz.prog (Tryz.f4.params.toList ++ (OpenSpec.ofChange Rows.gateKeepsSpec).bare.plain.varTypes Tryz.prog) (ds ++ gs)).all (· ≤ reachBytes) = true) (hL : laidMetH Tryz.prog Rows.gateKeepsRow.laid W) :
    Calls Tryz.prog 4 args W fun e W' => ∃ v, e = .returned v ∧ Rows.gateKeepsSpec.post enc Tryz.prog Tryz.f4 false true false false W args v W' := by
  have hW' := hW
  obtain ⟨p, q, hA0, hV, rfl, hfz, hnd⟩ := hW
  have hA : DataW.TrodAll enc Tryz.prog W 0 (fun _ => true) true Tryz.f4.params.toList args.toList ds p := hA0
  rw [Tryz.params4] at hA hval hsz
  obtain ⟨v0, vs0, d0, ds0, p0, q0, hargs, rfl, rfl, h0, r0⟩ := trodAll_cons hA
  obtain ⟨v1, vs1, d1, ds1, p1, q1, rfl, rfl, rfl, h1, r1⟩ := trodAll_cons r0
  obtain ⟨v2, vs2, d2, ds2, p2, q2, rfl, rfl, rfl, h2, r2⟩ := trodAll_cons r1
  obtain ⟨rfl, rfl, rfl⟩ := trodAll_nil r2
  obtain rfl : args = #[v0, v1, v2] := by cases args; simp_all
  obtain ⟨rfl, rfl⟩ := trodVars_none hV
  obtain ⟨b0, hb0, hi0⟩ := open_book (hval 0 27 v0 rfl rfl) h0
  obtain ⟨e1, rfl, he1⟩ := open_ev (hval 1 29 v1 rfl rfl) h1
  obtain ⟨a2, rfl, rfl, rfl, w2⟩ := open_int Tryz.underlying3 (hval 2 3 v2 rfl rfl) h2
  refine (GateKeeps_walk v0 b0 e1 a2 W (law16_of hL) (zH hb0) (zH ⟨hi0.1, hi0.2.1, hi0.2.2.1, hi0.2.2.2.1⟩) (zH he1) (wf_i64 w2)).mono fun e W' ⟨he, hg⟩ => ?_
  exact ⟨_, he, law_post (by kernel_rfl) (by kernel_rfl) rfl Tryz.underlying4 rfl rfl hW' hg⟩
theorem laid_met (os : Os) : laidMetH Tryz.prog Rows.gateKeepsRow.laid ((gateWorld os).forCall (fun _ _ => 0) ⟨#[], #[.agg #[.slice none 0 0, .slice none 0 0, .slice none 0 0, .slice none 0 0, .int .i64 0], .agg #[.int .i64 0, .int .i64 0, .int .i64 0, .int .i64 0, .int .i64 0, .int .i64 0, .int .i64 0], .int .i64 0], []⟩).memory :=
  laidMetH_of_parts3 (fuel := 8) (laidMet_of_run' 8 (by kernel_rfl) (by kernel_rfl)) (by kernel_rfl) (by kernel_rfl)
theorem reads (os : Os) {H : Type} (enc : TypeId × Value → H) : ∃ places, DataW.whole enc Tryz.prog ((gateWorld os).forCall (fun _ _ => 0) ⟨#[], #[.agg #[.slice none 0 0, .slice none 0 0, .slice none 0 0, .slice none 0 0, .int .i64 0], .agg #[.int .i64 0, .int .i64 0, .int .i64 0, .int .i64 0, .int .i64 0, .int .i64 0, .int .i64 0], .int .i64 0], []⟩).memory Tryz.f4.params.toList Rows.gateKeepsSpec.vars false (#[.agg #[.slice none 0 0, .slice none 0 0, .slice none 0 0, .slice none 0 0, .int .i64 0], .agg #[.int .i64 0, .int .i64 0, .int .i64 0, .int .i64 0, .int .i64 0, .int .i64 0, .int .i64 0], .int .i64 0] : Array Value).toList 8 = some ([.agg [.nil, .nil, .nil, .nil, .lit (.int .i64 0)], .agg [.lit (.int .i64 0), .lit (.int .i64 0), .lit (.int .i64 0), .lit (.int .i64 0), .lit (.int .i64 0), .lit (.int .i64 0), .lit (.int .i64 0)], .lit (.int .i64 0)], [], places) :=
  ⟨[], by kernel_rfl⟩
set_option maxRecDepth 100000 in
theorem lifted (os : Os) (started : os.Started) (H : Type) (enc : TypeId × Value → H) (F : Stop.Interp) :
    ReturnsInHanded {} Tryz.checked os 4 .any ((OpenSpec.ofChange Rows.gateKeepsSpec).preRow enc Tryz.prog Tryz.f4 Rows.gateKeepsRow.domain false Rows.gateKeepsRow.laid) (((OpenSpec.ofChange Rows.gateKeepsSpec).at F).post enc Tryz.prog Tryz.f4 false true false false) := by
  obtain ⟨places, hx⟩ := reads os enc
  refine returnsInHanded_of_row (C := Tryz.checked) (s := OpenSpec.ofChange Rows.gateKeepsSpec) own started (by kernel_rfl) Tryz.func4
    (witness_row_at (enc := enc) (C := Tryz.checked) false (gateWorld os) #[.agg #[.slice none 0 0, .slice none 0 0, .slice none 0 0, .slice none 0 0, .int .i64 0], .agg #[.int .i64 0, .int .i64 0, .int .i64 0, .int .i64 0, .int .i64 0, .int .i64 0, .int .i64 0], .int .i64 0] rfl (by kernel_rfl) (by kernel_rfl) (by kernel_rfl)
      (OpenSpec.preRow_of_cond 8 hx (by kernel_rfl) (fun k hk => by cases hk) (by kernel_rfl) (laid_met os))) ?_
  intro W base args ds gs before hval hW _ _ hsz hL _ _
  exact contract H enc W base args ds gs before hval hW hsz hL
theorem said : Rows.GateKeepsSaid :=
  OpenClaim.holds_of_cond 4 Tryz.f4 rfl rfl rfl rfl rfl rfl rfl ⟨rfl, rfl, rfl, rfl, rfl⟩ rfl rfl rfl rfl rfl (by kernel_rfl) Tryz.func4 (by kernel_rfl)
    (of_decide_eq_true (by kernel_rfl)) (by unfold Func.isWrapper; first | (rw [if_pos (by decide +kernel)]; kernel_rfl) | (rw [if_neg (by decide +kernel)]; exact ⟨rfl, rfl⟩))
    (fun os started H enc _ F => by rw [OpenClaim.pre_eq_preRow]; exact lifted os started H enc F)
theorem plain (f : FuncId) (fn : Func) (hf : Tryz.pinned.checked.prog.funcNamed "engross/engrosslaw17.GateKeeps" = some f) (hfn : Tryz.pinned.checked.prog.funcs[f]? = some fn) :
    false = Tryz.pinned.checked.prog.looks [] ∧ ∀ (j : Nat) t, fn.params[j]? = some t → Tryz.pinned.checked.prog.wantsStandIn t = false := by
  obtain rfl : f = 4 := Option.some.inj ((show Tryz.prog.funcNamed "engross/engrosslaw17.GateKeeps" = some 4 by kernel_rfl).symm.trans hf) |>.symm
  obtain rfl : fn = Tryz.f4 := (Option.some.inj (Tryz.func4.symm.trans hfn)).symm
  refine ⟨by kernel_rfl, fun j t ht => ?_⟩
  rw [Tryz.params4] at ht
  have hm := Array.mem_of_getElem? ht
  have hall : (#[27, 29, 3] : Array TypeId).toList.all (fun t => ! Tryz.prog.wantsStandIn t) = true := by kernel_rfl
  have := List.all_eq_true.1 hall t (by simpa using hm)
  exact (show Tryz.prog.wantsStandIn t = false by simpa using this)
theorem proved : Rows.GateKeepsCardSaid :=
  Claim7.holds_tied_plain_at .later [] _ _ _ _ said (fun _ h => by cases h) (by kernel_rfl) (fun _ h => by cases h) gateKeeps_row_tie rfl ⟨rfl, rfl⟩ (by kernel_rfl) rfl plain (by kernel_rfl)
#print axioms proved
end Go.Proofs.YtjcdpmianmgiaaaGreatDoor.gateKeeps
