/- What the walk of ShelfSorts takes: texts that come in, a file appended, a look-up, a length. -/
import Derived.Test.YteeemoknbnlopaaDoorShelfH
import Derived.Maps.OwnSet
namespace Go.Proofs.YteeemoknbnlopaaDoor
open Go Go.RowKit Go.Maps Go.WideMaps Go.MapKept Shelf
open Go.ChangeShapes (lits)
set_option linter.unusedVariables false

def StrsAt (w : World) (v : Value) (l : List ByteArray) : Prop :=
  ∃ A c, v = .slice A l.length c ∧ l.length ≤ c ∧ ∀ (i : Nat) (s : ByteArray), l[i]? = some s → ∃ b o, A = some ⟨b, o, none⟩ ∧ b < w.heap.size ∧ w.cell? ⟨b, o + i, none⟩ = some (.string s)
theorem StrsAt.call {w w' : World} {v : Value} {l : List ByteArray} (h : StrsAt w v l) (hb : Below w.heap.size w w') : StrsAt w' v l := by
  obtain ⟨A, c, hv, hc, hi⟩ := h
  refine ⟨A, c, hv, hc, fun i s hs => ?_⟩
  obtain ⟨b, o, ha, hlt, hcell⟩ := hi i s hs
  exact ⟨b, o, ha, Nat.lt_of_lt_of_le hlt hb.size, (hb.cell (p := ⟨b, o + i, none⟩) hlt).trans hcell⟩

theorem ints_form {w : World} {B : Nat} {e : TypeId} {v : Value} {n : Nat} {xs : List Value} (h : w.ownsRow B e 1 v n xs) :
    ∃ A c, v = .slice A n c ∧ n ≤ c ∧ ∀ (i : Nat) (u : Value), i < n → xs[i]? = some u → ∃ b o, A = some ⟨b, o, none⟩ ∧ b < w.heap.size ∧ w.cell? ⟨b, o + i, none⟩ = some u := by
  have hlt := h.lt
  rcases h.2 with ⟨rfl, rfl⟩ | ⟨g, cap, cur, rfl, _, _, hn, _⟩
  · exact ⟨none, 0, rfl, Nat.le_refl _, fun i u hi _ => by omega⟩
  · refine ⟨_, cap, rfl, hn, fun i u hi hu => ?_⟩
    have c1 := h.cells (g := g) rfl i u hu
    rw [Addr.add_lit] at c1
    exact ⟨g, 0, rfl, (hlt g rfl).2, c1⟩

section
variable {P : Program} {ops : Array Oper} {rest : List Oper} {o : Oper} {a : Act} {Q : Exit → Act → World → Prop}
/-- 'append(out, x)', x of two cells, which lies in the block that was just laid. -/
theorem wpList_append_two {wr : World} {B : Nat} {W : World} (s x : Operand) (t e : TypeId) (z : Value) (bytes : Nat) (he : Elt P t e z 2 bytes) (u u2 : Value) (v : Value) (n : Nat) (xs : List Value)
    (hb : Below B W wr) (hown : Hid (wr.ownsRow B e 2 v n xs)) (hB : B ≤ wr.heap.size)
    (hgd : o.guard = none) (ho : o.op = .call { callee := .builtin .append, args := #[s, x], argTypes := #[t, t] })
    (hs : a.eval s = v) (hx : a.eval x = .slice (some ⟨wr.heap.size, 0, none⟩) 1 1) (hu : u.oneCell' = true) (hu2 : u2.oneCell' = true) (hn : n + 1 ≤ 1099511627776) (hby : bytes ≤ 64)
    (h : ∀ v' w', Hid (w'.ownsRow B e 2 v' (n + 1) (xs ++ [u, u2])) → Below B W w' → B ≤ w'.heap.size → wpList P ops Q rest (a.put o.dst v') w') :
    wpList P ops Q (o :: rest) a (wr.alloc (.cells #[u, u2] e)) := by
  obtain ⟨i, hi, hz, hsz, hbs⟩ := he.info
  have hown := hown.out
  refine wpList_append_own _ hgd s x t ho B e i z 2 bytes he.und hi hz hsz hbs he.zs he.pos v n xs hs (hown.alloc _) ⟨wr.heap.size, 0, none⟩ 1 1 [u, u2] hx rfl ?_ ?_ ?_ ?_ ?_ ?_
  · intro j w' hj
    match j with
    | 0 => simp at hj; subst hj; rw [Addr.add_lit]; exact World.cell?_alloc_at _ _ _ _ rfl
    | 1 => simp at hj; subst hj; rw [Addr.add_lit]; exact World.cell?_alloc_at _ _ _ _ rfl
    | j+2 => simp at hj
  · intro u' hu'
    simp at hu'
    rcases hu' with rfl | rfl
    · exact hu
    · exact hu2
  · unfold maxLen; omega
  · have h1 := Nat.mul_le_mul (show n + 1 ≤ 1099511627776 from hn) hby; omega
  · simp; omega
  · intro v' w' h1 h2 _
    refine h v' w' h1 ?_ ?_
    · refine (hb.alloc hB _).grown h2 (by simp; omega) ?_
      intro k hk; exact (hown.lt k hk).1
    · have := h2.size; simp at this; omega
end

theorem Grp.own {w : World} {B k : Nat} {D : DataW Unit} (h : Grp w B k D) : w.ownsMap Tryd.prog 3 (rowElem w (B + 1) 3 .i64) B k D := by
  obtain ⟨es, clock, hb, F, hs, hD, _⟩ := h
  exact ⟨es, clock, hb, F, hs, hD⟩

section
variable {ops : Array Oper} {rest : List Oper} {o : Oper} {a : Act} {Q : Exit → Act → World → Prop}
theorem lookup_grp {w : World} {B n : Nat} {D : DataW Unit} {l : List ByteArray} (hown : Hid (Grp w B n D)) (hD : Hid (IsG D l)) (κ : Int) (h0 : 0 ≤ κ) (h4 : κ ≤ 4) (Z : List Int) (hZ : numsP κ l = Z) (bz : Bool) (hbz : decide (Z ≠ []) = bz) (m x : Operand)
    (hg : o.guard = none) (hop : o.op = Op.lookup 32 m x true) (hm : a.eval m = .map (some B)) (hx : a.eval x = .int .i64 κ)
    (hK : ∀ A c, Hid (w.ownsRow (B + 1) 3 1 (.slice A Z.length c) Z.length (Z.map (Value.int .i64))) → wpList Tryd.prog ops Q rest (a.put o.dst (.tuple #[.slice A Z.length c, .bool bz])) w) :
    wpList Tryd.prog ops Q (o :: rest) a w := by
  subst hZ hbz
  refine wpList_lookup_own_ok w hg m x _ hop 3 34 keyI Tryd.underlying32 _ (zero_ints w) .nil [] (rowElem_mk (World.ownsInts_nil w (B + 1) 3 .i64)) B n D hm hown.out.own (.int .i64 κ) (.int .i64 κ) hx (keyOf_int_mk Tryd.underlying3 (i64_wf h0 (by omega))) fun v ps hR => ?_
  obtain ⟨zs, ho, he⟩ := rowElem_inv hR
  have hzs := hD.out.found κ ho (congrArg Prod.fst he)
  rw [hD.out.has' κ]
  subst hzs
  obtain ⟨A, c, rfl, _⟩ := ints_form ho.1
  exact hK A c ho.1
theorem len_grp {w : World} {B n : Nat} {D : DataW Unit} {l : List ByteArray} (hown : Hid (Grp w B n D)) (hD : Hid (IsG D l)) (m : Operand)
    (hg : o.guard = none) (hop : o.op = Op.call { callee := Callee.builtin Builtin.len, args := #[m], argTypes := #[32] }) (hm : a.eval m = .map (some B))
    (hK : wpList Tryd.prog ops Q rest (a.put o.dst (.int .i64 (cntTo l 4))) w) :
    wpList Tryd.prog ops Q (o :: rest) a w := by
  refine wpList_len_own w hg m _ hop 3 34 Tryd.underlying32 _ B n D hm hown.out.own ?_
  rw [hD.out.size']
  exact hK
end
end Go.Proofs.YteeemoknbnlopaaDoor
