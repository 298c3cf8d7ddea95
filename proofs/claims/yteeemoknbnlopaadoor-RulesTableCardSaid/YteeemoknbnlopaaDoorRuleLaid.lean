/- What the rows' list gives: the tables of rules and relations; the steps that come in. -/
import Derived.Test.YteeemoknbnlopaaDoorShelfLaid
import Derived.Test.YteeemoknbnlopaaDoorRuleN
import Derived.Test.YteeemoknbnlopaaDoorLeaf
import Derived.LaidMore
import Derived.LaidHandle
import Derived.LaidOnce
import Derived.Deep.Strs
import Derived.Test.YteeemoknbnlopaaDoorOpen
namespace Go.Proofs.YteeemoknbnlopaaDoor
open Go Go.Lib Go.ChangeShapes Go.WideShapes Go.ChangeAt Go.RowKit
set_option linter.unusedVariables false
set_option linter.unusedSimpArgs false

theorem drop_take1 {α : Type} {l : List α} {i : Nat} {x : α} (h : (l.drop i).take 1 = [x]) : l[i]? = some x := by
  have := congrArg (·[0]?) h
  simpa [List.getElem?_take, List.getElem?_drop] using this
theorem sub_at {α : Type} {l : List α} {i k j : Nat} {x : α} (h : ((l.drop i).take k)[j]? = some x) : l[i + j]? = some x := by
  rw [List.getElem?_take] at h
  split at h
  · rwa [List.getElem?_drop] at h
  · cases h

def ruleData : List (List UInt8 × Nat × Nat) → List (DataW Unit) := List.map fun r => .agg [.lit (.string r.1), .lit (.int .i64 (r.2.1 : Nat)), .lit (.int .i64 (r.2.2 : Nat))]
theorem rule_data_eq : (Rows.laid_engross_rules_table : DataW Unit) = .agg (ruleData Rule.rows) := by kernel_rfl
theorem gRules : Tryd.prog.globalNamed "engross/rules.table" = some 1 := by kernel_rfl
theorem gRulesType : (Tryd.prog.globals[1]?).map (·.type) = some 72 := by kernel_rfl
theorem gRels : Tryd.prog.globalNamed "engross/rules.relations" = some 0 := by kernel_rfl
theorem gRelsType : (Tryd.prog.globals[0]?).map (·.type) = some 67 := by kernel_rfl

theorem rules_cells {H : Type} {enc : TypeId × Value → H} {W : World} {base : Nat} {sp : Nat → Bool} {held : Bool} {fuel : Nat} {cs : List Value} {p : List MemPlace}
    (h : DataW.trod enc Tryd.prog W base sp held fuel 72 cs = some (.agg (Rule.rows.map fun r => .agg [.lit (.string r.1), .lit (.int .i64 (r.2.1 : Nat)), .lit (.int .i64 (r.2.2 : Nat))]), p)) :
    ∀ n, n < 24 → cs[n * 3]? = some (.string ⟨(Rule.name n).toArray⟩) ∧ cs[n * 3 + 1]? = some (.int .i64 (Rule.rel n)) ∧ cs[n * 3 + 2]? = some (.int .i64 (Rule.code n)) := by
  obtain ⟨xs, m, _, hx, hl, hlen, hf⟩ := DataW.trod_array Tryd.underlying72 h
  have hxs := congrArg Prod.fst hx
  simp only [DataW.agg.injEq] at hxs
  intro n hn
  obtain ⟨y, hy⟩ : ∃ y, xs[n]? = some y := ⟨xs[n]'(by omega), List.getElem?_eq_getElem (by omega)⟩
  have hf := (hf n hn).trans hy
  rw [show Tryd.prog.cellsOf 62 = 3 by kernel_rfl] at hf
  obtain ⟨y0, y1, y2, k, hyy, _, h0, h1, h2⟩ := Go.Deep.trod_struct3 Tryd.underlying62 hf
  have h0 : DataW.trod enc Tryd.prog W base sp held k 9 ((((cs.drop (n * 3)).take 3).drop 0).take 1) = some y0 := h0
  have h1 : DataW.trod enc Tryd.prog W base sp held k 3 ((((cs.drop (n * 3)).take 3).drop 1).take 1) = some y1 := h1
  have h2 : DataW.trod enc Tryd.prog W base sp held k 3 ((((cs.drop (n * 3)).take 3).drop 2).take 1) = some y2 := h2
  obtain ⟨s, c0, rfl, _⟩ := DataW.trod_string Tryd.underlying9 h0
  obtain ⟨a, c1, rfl, _⟩ := DataW.trod_int Tryd.underlying3 h1
  obtain ⟨b, c2, rfl, _⟩ := DataW.trod_int Tryd.underlying3 h2
  have e0 := sub_at (drop_take1 c0)
  have e1 := sub_at (drop_take1 c1)
  have e2 := sub_at (drop_take1 c2)
  have hd := congrArg (·[n]?) hxs
  simp only [List.getElem?_map, hy, Option.map_some] at hd
  rw [hyy] at hd
  have hrow : Rule.rows[n]? = some (Rule.rows.getD n ([], 0, 0)) := by
    rw [List.getD_eq_getElem?_getD, List.getElem?_eq_getElem (show n < Rule.rows.length from hn)]; rfl
  rw [hrow] at hd
  simp only [Option.map_some, Option.some.injEq, DataW.agg.injEq, List.cons.injEq, DataW.lit.injEq, Lit.string.injEq, Lit.int.injEq, true_and, and_true] at hd
  obtain ⟨d0, d1, d2⟩ := hd
  rw [show n * 3 + 0 = n * 3 from rfl] at e0
  refine ⟨by rw [e0]; congr 2; apply ByteArray.ext; apply Array.toList_inj.1; exact d0.symm, by rw [e1, ← d1]; rfl, by rw [e2, ← d2]; rfl⟩

theorem rels_cells {W : World} {base : Nat} {sp : Nat → Bool} {fuel : Nat} {cs : List Value} {p : List MemPlace}
    (h : DataW.trod (funcToken Tryd.prog) Tryd.prog W base sp true fuel 67 cs = some ((.agg [.agg [.lit (.string [63]), .held [101, 110, 103, 114, 111, 115, 115, 47, 114, 117, 108, 101, 115, 46, 114, 101, 108, 97, 116, 105, 111, 110, 115, 36, 49]], .agg [.lit (.string [60, 61]), .held [101, 110, 103, 114, 111, 115, 115, 47, 114, 117, 108, 101, 115, 46, 114, 101, 108, 97, 116, 105, 111, 110, 115, 36, 50]], .agg [.lit (.string [62, 61]), .held [101, 110, 103, 114, 111, 115, 115, 47, 114, 117, 108, 101, 115, 46, 114, 101, 108, 97, 116, 105, 111, 110, 115, 36, 51]], .agg [.lit (.string [61]), .held [101, 110, 103, 114, 111, 115, 115, 47, 114, 117, 108, 101, 115, 46, 114, 101, 108, 97, 116, 105, 111, 110, 115, 36, 52]]]), p)) :
    (cs[0]? = some (.string ⟨#[63]⟩) ∧ cs[1]? = some (.func (.func 79) #[] #[])) ∧ (cs[2]? = some (.string ⟨#[60, 61]⟩) ∧ cs[3]? = some (.func (.func 80) #[] #[])) ∧
    (cs[4]? = some (.string ⟨#[62, 61]⟩) ∧ cs[5]? = some (.func (.func 81) #[] #[])) ∧ (cs[6]? = some (.string ⟨#[61]⟩) ∧ cs[7]? = some (.func (.func 82) #[] #[])) := by
  obtain ⟨xs, m, _, hx, hl, hlen, hf⟩ := DataW.trod_array Tryd.underlying67 h
  have hxs := congrArg Prod.fst hx
  simp only [DataW.agg.injEq] at hxs
  have r0 : cs[0 * 2]? = some (.string ⟨([63] : List UInt8).toArray⟩) ∧ cs[0 * 2 + 1]? = some (.func (.func 79) #[] #[]) := by
    obtain ⟨y, hy⟩ : ∃ y, xs[0]? = some y := ⟨xs[0]'(by omega), List.getElem?_eq_getElem (by omega)⟩
    have hf := (hf 0 (by omega)).trans hy
    rw [show Tryd.prog.cellsOf 66 = 2 by kernel_rfl] at hf
    obtain ⟨y0, y1, k, hyy, hln, h0, h1⟩ := trod_struct2 Tryd.underlying66 hf
    have h0 : DataW.trod (funcToken Tryd.prog) Tryd.prog W base sp true k 9 ((((cs.drop (0 * 2)).take 2).drop 0).take 1) = some y0 := h0
    have h1 : DataW.trod (funcToken Tryd.prog) Tryd.prog W base sp true k 64 ((((cs.drop (0 * 2)).take 2).drop 1).take 1) = some y1 := h1
    obtain ⟨s, c0, rfl, _⟩ := DataW.trod_string Tryd.underlying9 h0
    have e0 := sub_at (drop_take1 c0)
    have hln2 : ((cs.drop (0 * 2)).take 2).length = 2 := hln.trans (by kernel_rfl)
    obtain ⟨v, hv⟩ : ∃ v, (((cs.drop (0 * 2)).take 2).drop 1).take 1 = [v] := by
      match hq : (cs.drop (0 * 2)).take 2, hln2 with
      | [a, b], _ => exact ⟨b, rfl⟩
    rw [hv] at h1
    have e1 := sub_at (drop_take1 hv)
    have hd := congrArg (·[0]?) hxs
    simp only [List.getElem?_map, hy, Option.map_some, List.getElem?_cons_zero, List.getElem?_cons_succ] at hd
    rw [hyy] at hd
    simp only [Option.some.injEq, DataW.agg.injEq, List.cons.injEq, DataW.lit.injEq, Lit.string.injEq, and_true] at hd
    obtain ⟨d0, d1⟩ := hd
    obtain ⟨z1, z2⟩ := y1
    simp only [] at d1
    subst d1
    obtain rfl := func_of_trod (f0 := 79) Tryd.underlying64 (by kernel_rfl) h1
    refine ⟨?_, e1⟩
    refine e0.trans ?_
    congr 2; apply ByteArray.ext; apply Array.toList_inj.1; exact d0.symm
  have r1 : cs[1 * 2]? = some (.string ⟨([60, 61] : List UInt8).toArray⟩) ∧ cs[1 * 2 + 1]? = some (.func (.func 80) #[] #[]) := by
    obtain ⟨y, hy⟩ : ∃ y, xs[1]? = some y := ⟨xs[1]'(by omega), List.getElem?_eq_getElem (by omega)⟩
    have hf := (hf 1 (by omega)).trans hy
    rw [show Tryd.prog.cellsOf 66 = 2 by kernel_rfl] at hf
    obtain ⟨y0, y1, k, hyy, hln, h0, h1⟩ := trod_struct2 Tryd.underlying66 hf
    have h0 : DataW.trod (funcToken Tryd.prog) Tryd.prog W base sp true k 9 ((((cs.drop (1 * 2)).take 2).drop 0).take 1) = some y0 := h0
    have h1 : DataW.trod (funcToken Tryd.prog) Tryd.prog W base sp true k 64 ((((cs.drop (1 * 2)).take 2).drop 1).take 1) = some y1 := h1
    obtain ⟨s, c0, rfl, _⟩ := DataW.trod_string Tryd.underlying9 h0
    have e0 := sub_at (drop_take1 c0)
    have hln2 : ((cs.drop (1 * 2)).take 2).length = 2 := hln.trans (by kernel_rfl)
    obtain ⟨v, hv⟩ : ∃ v, (((cs.drop (1 * 2)).take 2).drop 1).take 1 = [v] := by
      match hq : (cs.drop (1 * 2)).take 2, hln2 with
      | [a, b], _ => exact ⟨b, rfl⟩
    rw [hv] at h1
    have e1 := sub_at (drop_take1 hv)
    have hd := congrArg (·[1]?) hxs
    simp only [List.getElem?_map, hy, Option.map_some, List.getElem?_cons_zero, List.getElem?_cons_succ] at hd
    rw [hyy] at hd
    simp only [Option.some.injEq, DataW.agg.injEq, List.cons.injEq, DataW.lit.injEq, Lit.string.injEq, and_true] at hd
    obtain ⟨d0, d1⟩ := hd
    obtain ⟨z1, z2⟩ := y1
    simp only [] at d1
    subst d1
    obtain rfl := func_of_trod (f0 := 80) Tryd.underlying64 (by kernel_rfl) h1
    refine ⟨?_, e1⟩
    refine e0.trans ?_
    congr 2; apply ByteArray.ext; apply Array.toList_inj.1; exact d0.symm
  have r2 : cs[2 * 2]? = some (.string ⟨([62, 61] : List UInt8).toArray⟩) ∧ cs[2 * 2 + 1]? = some (.func (.func 81) #[] #[]) := by
    obtain ⟨y, hy⟩ : ∃ y, xs[2]? = some y := ⟨xs[2]'(by omega), List.getElem?_eq_getElem (by omega)⟩
    have hf := (hf 2 (by omega)).trans hy
    rw [show Tryd.prog.cellsOf 66 = 2 by kernel_rfl] at hf
    obtain ⟨y0, y1, k, hyy, hln, h0, h1⟩ := trod_struct2 Tryd.underlying66 hf
    have h0 : DataW.trod (funcToken Tryd.prog) Tryd.prog W base sp true k 9 ((((cs.drop (2 * 2)).take 2).drop 0).take 1) = some y0 := h0
    have h1 : DataW.trod (funcToken Tryd.prog) Tryd.prog W base sp true k 64 ((((cs.drop (2 * 2)).take 2).drop 1).take 1) = some y1 := h1
    obtain ⟨s, c0, rfl, _⟩ := DataW.trod_string Tryd.underlying9 h0
    have e0 := sub_at (drop_take1 c0)
    have hln2 : ((cs.drop (2 * 2)).take 2).length = 2 := hln.trans (by kernel_rfl)
    obtain ⟨v, hv⟩ : ∃ v, (((cs.drop (2 * 2)).take 2).drop 1).take 1 = [v] := by
      match hq : (cs.drop (2 * 2)).take 2, hln2 with
      | [a, b], _ => exact ⟨b, rfl⟩
    rw [hv] at h1
    have e1 := sub_at (drop_take1 hv)
    have hd := congrArg (·[2]?) hxs
    simp only [List.getElem?_map, hy, Option.map_some, List.getElem?_cons_zero, List.getElem?_cons_succ] at hd
    rw [hyy] at hd
    simp only [Option.some.injEq, DataW.agg.injEq, List.cons.injEq, DataW.lit.injEq, Lit.string.injEq, and_true] at hd
    obtain ⟨d0, d1⟩ := hd
    obtain ⟨z1, z2⟩ := y1
    simp only [] at d1
    subst d1
    obtain rfl := func_of_trod (f0 := 81) Tryd.underlying64 (by kernel_rfl) h1
    refine ⟨?_, e1⟩
    refine e0.trans ?_
    congr 2; apply ByteArray.ext; apply Array.toList_inj.1; exact d0.symm
  have r3 : cs[3 * 2]? = some (.string ⟨([61] : List UInt8).toArray⟩) ∧ cs[3 * 2 + 1]? = some (.func (.func 82) #[] #[]) := by
    obtain ⟨y, hy⟩ : ∃ y, xs[3]? = some y := ⟨xs[3]'(by omega), List.getElem?_eq_getElem (by omega)⟩
    have hf := (hf 3 (by omega)).trans hy
    rw [show Tryd.prog.cellsOf 66 = 2 by kernel_rfl] at hf
    obtain ⟨y0, y1, k, hyy, hln, h0, h1⟩ := trod_struct2 Tryd.underlying66 hf
    have h0 : DataW.trod (funcToken Tryd.prog) Tryd.prog W base sp true k 9 ((((cs.drop (3 * 2)).take 2).drop 0).take 1) = some y0 := h0
    have h1 : DataW.trod (funcToken Tryd.prog) Tryd.prog W base sp true k 64 ((((cs.drop (3 * 2)).take 2).drop 1).take 1) = some y1 := h1
    obtain ⟨s, c0, rfl, _⟩ := DataW.trod_string Tryd.underlying9 h0
    have e0 := sub_at (drop_take1 c0)
    have hln2 : ((cs.drop (3 * 2)).take 2).length = 2 := hln.trans (by kernel_rfl)
    obtain ⟨v, hv⟩ : ∃ v, (((cs.drop (3 * 2)).take 2).drop 1).take 1 = [v] := by
      match hq : (cs.drop (3 * 2)).take 2, hln2 with
      | [a, b], _ => exact ⟨b, rfl⟩
    rw [hv] at h1
    have e1 := sub_at (drop_take1 hv)
    have hd := congrArg (·[3]?) hxs
    simp only [List.getElem?_map, hy, Option.map_some, List.getElem?_cons_zero, List.getElem?_cons_succ] at hd
    rw [hyy] at hd
    simp only [Option.some.injEq, DataW.agg.injEq, List.cons.injEq, DataW.lit.injEq, Lit.string.injEq, and_true] at hd
    obtain ⟨d0, d1⟩ := hd
    obtain ⟨z1, z2⟩ := y1
    simp only [] at d1
    subst d1
    obtain rfl := func_of_trod (f0 := 82) Tryd.underlying64 (by kernel_rfl) h1
    refine ⟨?_, e1⟩
    refine e0.trans ?_
    congr 2; apply ByteArray.ext; apply Array.toList_inj.1; exact d0.symm
  exact ⟨r0, r1, r2, r3⟩

theorem law16_of {W : World} (h : laidMetH Tryd.prog [("math/bits.deBruijn32tab", Rows.laid_math_bits_deBruijn32tab), ("math/bits.deBruijn64tab", Rows.laid_math_bits_deBruijn64tab), ("internal/strconv.uint64pow10", Rows.laid_internal_strconv_uint64pow10), ("engross/rules.table", Rows.laid_engross_rules_table), ("engross/rules.relations", Rows.laid_engross_rules_relations)] W) : Hid (Law16 W) := by
  have hrel := h.funcs (n := "engross/rules.relations") (d := .agg [.agg [.lit (.string [63]), .iface "func" (.lit (.string [101, 110, 103, 114, 111, 115, 115, 47, 114, 117, 108, 101, 115, 46, 114, 101, 108, 97, 116, 105, 111, 110, 115, 36, 49]))], .agg [.lit (.string [60, 61]), .iface "func" (.lit (.string [101, 110, 103, 114, 111, 115, 115, 47, 114, 117, 108, 101, 115, 46, 114, 101, 108, 97, 116, 105, 111, 110, 115, 36, 50]))], .agg [.lit (.string [62, 61]), .iface "func" (.lit (.string [101, 110, 103, 114, 111, 115, 115, 47, 114, 117, 108, 101, 115, 46, 114, 101, 108, 97, 116, 105, 111, 110, 115, 36, 51]))], .agg [.lit (.string [61]), .iface "func" (.lit (.string [101, 110, 103, 114, 111, 115, 115, 47, 114, 117, 108, 101, 115, 46, 114, 101, 108, 97, 116, 105, 111, 110, 115, 36, 52]))]]) (by simp [Rows.laid_engross_rules_relations])
  obtain ⟨g, t, cs, fuel, p, hg, ht, hv, hd⟩ := hrel
  obtain rfl := Option.some.inj (gRels.symm.trans hg)
  obtain rfl := Option.some.inj (gRelsType.symm.trans ht)
  obtain ⟨⟨a0, a1⟩, ⟨b0, b1⟩, ⟨c0, c1⟩, ⟨d0, d1⟩⟩ := rels_cells hd
  have hcell : ∀ i v, cs.toList[i]? = some v → W.cell? ⟨0, i, none⟩ = some v := fun i v hi => by
    rw [World.var?_cell hg hv i, ← Array.getElem?_toList]; exact hi
  have hltr : 0 < W.heap.size := World.block_lt_of_cell? _ _ (hcell 0 _ a0)
  have hp := (show laidMet Tryd.prog [("math/bits.deBruijn32tab", Rows.laid_math_bits_deBruijn32tab), ("math/bits.deBruijn64tab", Rows.laid_math_bits_deBruijn64tab), ("internal/strconv.uint64pow10", Rows.laid_internal_strconv_uint64pow10), ("engross/rules.table", Rows.laid_engross_rules_table)] W ∧ handlesMet Tryd.prog _ W from h).1
  obtain ⟨ps, hl, _⟩ := hp
  have hl' : DataW.LaidVars Tryd.prog W [("math/bits.deBruijn32tab", tabData .u8 d32List), ("math/bits.deBruijn64tab", tabData .u8 d64List), ("internal/strconv.uint64pow10", tabData .u64 p10List), ("engross/rules.table", .agg (Rule.rows.map fun r => .agg [.lit (.string r.1), .lit (.int .i64 (r.2.1 : Nat)), .lit (.int .i64 (r.2.2 : Nat))]))] ps := hl
  obtain ⟨h0, qs0, r0⟩ := laid_tab gD32 gD32Type Tryd.underlying99 Tryd.underlying5 (by kernel_rfl) (by kernel_rfl) hl'
  obtain ⟨h1, qs1, r1⟩ := laid_tab gD64 gD64Type Tryd.underlying100 Tryd.underlying5 (by kernel_rfl) (by kernel_rfl) r0
  obtain ⟨h2, qs2, r2⟩ := laid_tab gP10 gP10Type Tryd.underlying90 Tryd.underlying83 (by kernel_rfl) (by kernel_rfl) r1
  obtain ⟨g2, t2, cs2, fuel2, p2, q2, hg2, ht2, hv2, hd2, _⟩ := r2
  obtain rfl := Option.some.inj (gRules.symm.trans hg2)
  obtain rfl := Option.some.inj (gRulesType.symm.trans ht2)
  have hcell2 : ∀ i v, cs2.toList[i]? = some v → W.cell? ⟨1, i, none⟩ = some v := fun i v hi => by
    rw [World.var?_cell hg2 hv2 i, ← Array.getElem?_toList]; exact hi
  have hrc := rules_cells hd2
  refine Lib.hid ⟨⟨fun n hn => ⟨hcell2 _ _ (hrc n hn).1, hcell2 _ _ (hrc n hn).2.1, hcell2 _ _ (hrc n hn).2.2⟩, World.block_lt_of_cell? _ _ (hcell2 _ _ (hrc 0 (by decide)).1)⟩, ⟨⟨hcell _ _ a0, hcell _ _ a1⟩, ⟨hcell _ _ b0, hcell _ _ b1⟩, ⟨hcell _ _ c0, hcell _ _ c1⟩, ⟨hcell _ _ d0, hcell _ _ d1⟩, hltr⟩, ?_⟩
  show TabIs _ _ _ _ _
  rw [← p10_eq]
  exact h2

/-- A step that comes in by value. -/
theorem open_stp {H : Type} {enc : TypeId × Value → H} {w : World} {base : Nat} {sp : Nat → Bool} {held : Bool} {r : Reach} {b0 : Nat} {v : Value} {d : DataW H} {ps : List MemPlace}
    (hv : Value.okWide Tryd.prog w r b0 39 v) (h : DataW.Trod enc Tryd.prog w base sp held 39 v d ps) : ∃ s : Stp, v = s.val ∧ s.fit := by
  obtain ⟨cs, rfl, hsz, hl⟩ := open_agg (n := 2) Tryd.underlying39 hv h
  have hlv : leavesOf Tryd.prog 2 39 = [(0, 3), (1, 2), (2, 2), (3, 4)] := by kernel_rfl
  rw [hlv] at hl
  rw [show Tryd.prog.cellsOf 39 = 4 by kernel_rfl] at hsz
  obtain ⟨c0, m0, y0, e0, t0⟩ := hl 0 3 (by simp)
  obtain ⟨c1, m1, y1, e1, t1⟩ := hl 1 2 (by simp)
  obtain ⟨c2, m2, y2, e2, t2⟩ := hl 2 2 (by simp)
  obtain ⟨c3, m3, y3, e3, t3⟩ := hl 3 4 (by simp)
  obtain ⟨x0, rfl, w0⟩ := leaf_int Tryd.underlying3 t0
  obtain ⟨x1, rfl, w1⟩ := leaf_int Tryd.underlying2 t1
  obtain ⟨x2, rfl, w2⟩ := leaf_int Tryd.underlying2 t2
  obtain ⟨x3, rfl⟩ := leaf_bool Tryd.underlying4 t3
  refine ⟨⟨x0, x1, x2, x3⟩, ?_, (wf_i64 w0).out, (wf_i64 w1).out, (wf_i64 w2).out⟩
  show Value.agg cs = .agg #[_, _, _, _]
  congr 1
  apply Array.ext_getElem?
  intro i
  match i with
  | 0 => rw [e0]; rfl
  | 1 => rw [e1]; rfl
  | 2 => rw [e2]; rfl
  | 3 => rw [e3]; rfl
  | i + 4 => rw [Array.getElem?_eq_none (by omega)]; rfl

/-- Steps that come in. -/
theorem open_steps {H : Type} {enc : TypeId × Value → H} {W : World} {r : Reach} {b0 : Nat} {v : Value} {d : DataW H} {ps : List MemPlace}
    (hv : Value.okWide Tryd.prog W r b0 47 v) (h : DataW.Trod enc Tryd.prog W 0 (fun _ => true) true 47 v d ps) : ∃ l : List Stp, StepsAt W v l ∧ l.length ≤ 9223372036854775807 := by
  obtain ⟨A, n, c, rfl, hn, hQ⟩ := open_rows Tryd.underlying47 Tryd.underlying39 (by kernel_rfl) (by kernel_rfl) (by decide) hv h
  have hA2 : ∀ i, ∃ s : Stp, i < n → s.fit ∧ ∃ b o, A = some ⟨b, o, none⟩ ∧ b < W.heap.size ∧ W.cell? ⟨b, o + i * 4, none⟩ = some (.int .i64 s.rule) ∧ W.cell? ⟨b, o + i * 4 + 1, none⟩ = some (.int .i64 s.left) ∧ W.cell? ⟨b, o + i * 4 + 2, none⟩ = some (.int .i64 s.right) ∧ W.cell? ⟨b, o + i * 4 + 3, none⟩ = some (.bool s.over) := by
    intro i
    by_cases hi : i < n
    · obtain ⟨b, o, ha, hb, hF⟩ := hQ i hi
      obtain ⟨u0, y0, m0, k0, t0⟩ := hF 0 _ rfl
      obtain ⟨u1, y1, m1, k1, t1⟩ := hF 1 _ rfl
      obtain ⟨u2, y2, m2, k2, t2⟩ := hF 2 _ rfl
      obtain ⟨u3, y3, m3, k3, t3⟩ := hF 3 _ rfl
      obtain ⟨z0, rfl, f0⟩ := leaf_int Tryd.underlying3 t0
      obtain ⟨z1, rfl, f1⟩ := leaf_int Tryd.underlying2 t1
      obtain ⟨z2, rfl, f2⟩ := leaf_int Tryd.underlying2 t2
      obtain ⟨z3, rfl⟩ := leaf_bool Tryd.underlying4 t3
      exact ⟨⟨z0, z1, z2, z3⟩, fun _ => ⟨⟨(wf_i64 f0).out, (wf_i64 f1).out, (wf_i64 f2).out⟩, b, o, ha, hb, k0, k1, k2, k3⟩⟩
    · exact ⟨⟨0, 0, 0, false⟩, fun h => absurd h hi⟩
  obtain ⟨f, hf⟩ := Classical.axiomOfChoice hA2
  have hlen : ((List.range n).map f).length = n := by simp
  refine ⟨(List.range n).map f, ⟨A, c, by rw [hlen], fun i s hs => ?_⟩, by rw [hlen]; unfold maxLen at hn; exact hn⟩
  obtain ⟨hi, he⟩ := List.getElem?_eq_some_iff.1 hs
  rw [hlen] at hi
  have : f i = s := by simpa using he
  rw [← this]
  exact hf i hi

def ruleCells : List Value := Rule.rows.flatMap fun r => [.string ⟨r.1.toArray⟩, .int .i64 (r.2.1 : Nat), .int .i64 (r.2.2 : Nat)]
def relsCells : List Value := [.string ⟨#[63]⟩, .func (.func 79) #[] #[], .string ⟨#[60, 61]⟩, .func (.func 80) #[] #[], .string ⟨#[62, 61]⟩, .func (.func 81) #[] #[], .string ⟨#[61]⟩, .func (.func 82) #[] #[]]
noncomputable def ruleWorld (os : Os) : World :=
  { tabWorld os with heap := ((tabWorld os).heap.modify 1 (tabCells ruleCells.toArray)).modify 0 (tabCells relsCells.toArray) }
end Go.Proofs.YteeemoknbnlopaaDoor
