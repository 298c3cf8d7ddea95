/- Rows of steps; the map of rules seen. -/
import Derived.Test.YteeemoknbnlopaaDoorRuleC
import Derived.Test.YteeemoknbnlopaaDoorLib
import Derived.Maps.OwnOps
import Derived.Maps.Views
namespace Go.Proofs.YteeemoknbnlopaaDoor
open Go Go.RowKit Go.Maps Go.WideMaps Go.MapKept
set_option linter.unusedVariables false

theorem keyR : Keyed Tryd.prog 3 := int_keyed Tryd.underlying3
theorem i64_wfR {x : Int} (h : I64 x) : (Lit.int .i64 x).wf = true := by
  unfold I64 at h
  simp [Lit.wf, IntKind.min, IntKind.max, IntKind.signed, IntKind.bits]
  omega
theorem zero_boolR (w : World) : (zeroValue 4).run Tryd.prog w = .ok (.bool false) w := by kernel_rfl
theorem grownR {w w' : World} (h : Below w.heap.size w w') : w.grownBy w' none := ⟨h.os, h.tape, h.output, h.size, fun k hk _ => h.block k hk⟩
theorem below_grownR {w w' : World} {B b : Nat} (h : w.grownBy w' (some b)) (hb : B ≤ b) (hl : b < w.heap.size) : Below B w w' :=
  ⟨h.os, h.tape, h.output, h.size, fun k hk => h.block k (by omega) (fun e => by cases e; omega)⟩
theorem key_litR (κ : Int) : WideAt.IsKeyLit (.int .i64 κ) := by first | trivial | exact ⟨_, _, rfl⟩ | simp [WideAt.IsKeyLit]

/-- The map holds just these rules. -/
def SeenAt (w : World) (b n : Nat) (L : List Int) : Prop :=
  ∃ D : DataW Unit, w.ownsMap Tryd.prog 3 (plainElem Tryd.prog 4) b n D ∧ ∀ x, D.atKey (.int .i64 x) (.lit (.bool false)) = .lit (.bool (L.any fun y => y == x))
theorem SeenAt.made (w : World) : SeenAt (w.alloc (.map #[] 0)) w.heap.size 0 [] := ⟨.map [], World.ownsMap_made _ _ _ _, fun x => rfl⟩
theorem SeenAt.lt {w : World} {b n : Nat} {L : List Int} (h : SeenAt w b n L) : b < w.heap.size := by
  obtain ⟨D, h1, _⟩ := h
  exact h1.lt
theorem SeenAt.call {w w' : World} {b n : Nat} {L : List Int} (h : SeenAt w b n L) (hb : Below w.heap.size w w') : SeenAt w' b n L := by
  obtain ⟨D, h1, h2⟩ := h
  exact ⟨D, h1.kept (grownR hb) (by simp), h2⟩

theorem SeenAt.look {w : World} {b n : Nat} {L : List Int} (h : SeenAt w b n L) {r : Int} (hr : I64 r) {z : Bool} (hz : (L.any fun y => y == r) = z) : (Instr.lookup 71 (.map (some b)) (.int .i64 r) false).run Tryd.prog w = .ok (.bool z) w := by
  obtain ⟨D, h1, h2⟩ := h
  obtain ⟨v, ps, hrun, hv⟩ := h1.lookup keyR Tryd.underlying71 (zero_boolR w) (plainElem_bool Tryd.underlying4 false) (keyOf_int_mk Tryd.underlying3 (i64_wfR hr))
  rw [h2 r, hz] at hv
  have hvz : v = .bool z := by
    unfold plainElem at hv
    rw [Tryd.underlying4] at hv
    cases v <;> simp at hv
    obtain ⟨h1, _⟩ := hv
    rw [h1]
  subst hvz
  exact hrun
section
variable {ops : Array Oper} {rest : List Oper} {o : Oper} {a : Act} {Q : Exit → Act → World → Prop}
theorem any_snoc (L : List Int) (r x : Int) : ((L ++ [r]).any fun y => y == x) = ((L.any fun y => y == x) || (r == x)) := by simp
theorem wpList_update_seen (w : World) (hgd : o.guard = none) (m x v : Operand) (hop : o.op = Op.mapUpdate 71 m x v) {b n : Nat} {L : List Int} (h : Hid (SeenAt w b n L)) (hn : n ≤ 1000) (r : Int) (hr : I64 r)
    (hm : a.eval m = .map (some b)) (hx : a.eval x = .int .i64 r) (hv : a.eval v = .bool true) (hK : ∀ w', Hid (SeenAt w' b (n + 1) (L ++ [r])) → Hid (w.grownBy w' (some b)) → wpList Tryd.prog ops Q rest (a.put o.dst undef) w') : wpList Tryd.prog ops Q (o :: rest) a w := by
  obtain ⟨D, h1, h2⟩ := h.out
  refine wpList_mapUpdate_own _ hgd _ _ _ 71 hop 3 4 keyR Tryd.underlying71 _ b n D hm h1 (by unfold maxLen; omega) _ _ (.int .i64 r) hx hv (keyOf_int_mk Tryd.underlying3 (i64_wfR hr)) (.lit (.bool true)) [] (plainElem_bool Tryd.underlying4 true) ?_
  intro w' h3 h4
  refine hK w' ⟨_, h3, fun y => ?_⟩ h4
  rw [any_snoc]
  by_cases hy : y = r
  · subst hy
    rw [atKey_put_same h1.isMap (key_litR _)]
    simp
  · rw [atKey_put_other (by intro e; cases e; exact hy rfl), h2 y]
    have : (r == y) = false := beq_eq_false_iff_ne.2 (Ne.symm hy)
    rw [this, Bool.or_false]
end

/-- A row of steps. -/
def StepsAt (w : World) (v : Value) (l : List Stp) : Prop :=
  ∃ A c, v = .slice A l.length c ∧ ∀ (i : Nat) (s : Stp), l[i]? = some s → s.fit ∧ ∃ b o, A = some ⟨b, o, none⟩ ∧ b < w.heap.size ∧ w.cell? ⟨b, o + i * 4, none⟩ = some (.int .i64 s.rule) ∧ w.cell? ⟨b, o + i * 4 + 1, none⟩ = some (.int .i64 s.left) ∧ w.cell? ⟨b, o + i * 4 + 2, none⟩ = some (.int .i64 s.right) ∧ w.cell? ⟨b, o + i * 4 + 3, none⟩ = some (.bool s.over)
theorem StepsAt.call {w w' : World} {v : Value} {l : List Stp} (h : StepsAt w v l) (hb : Below w.heap.size w w') : StepsAt w' v l := by
  obtain ⟨A, c, hv, hi⟩ := h
  refine ⟨A, c, hv, fun i s hs => ?_⟩
  obtain ⟨hf, b, o, ha, hlt, h1, h2, h3, h4⟩ := hi i s hs
  exact ⟨hf, b, o, ha, Nat.lt_of_lt_of_le hlt hb.size, (hb.cell (p := ⟨b, o + i * 4, none⟩) hlt).trans h1, (hb.cell (p := ⟨b, o + i * 4 + 1, none⟩) hlt).trans h2, (hb.cell (p := ⟨b, o + i * 4 + 2, none⟩) hlt).trans h3, (hb.cell (p := ⟨b, o + i * 4 + 3, none⟩) hlt).trans h4⟩
theorem StepsAt.below {w w' : World} {B : Nat} {v : Value} {l : List Stp} (h : StepsAt w v l) (hB : w.heap.size ≤ B) (hb : Below B w w') : StepsAt w' v l := h.call (hb.mono hB)
end Go.Proofs.YteeemoknbnlopaaDoor
