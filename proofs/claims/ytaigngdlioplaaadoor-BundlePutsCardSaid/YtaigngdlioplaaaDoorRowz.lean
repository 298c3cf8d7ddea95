/- Rows of the call's own that grow; variables' boxes. Over any program. -/
import Derived.Test.YtaigngdlioplaaaDoorPlain
import Derived.RangeFuncBox
import Derived.RangeFuncNested
import Derived.OwnWalkIn
namespace Go.Proofs.YtaigngdlioplaaaDoor
open Go.RowKit

section
variable {P : Program} {ops : Array Oper} {rest : List Oper} {o : Oper} {a : Act} {Q : Exit → Act → World → Prop}
theorem wpList_append_grow {wr : World} {B : Nat} (s x : Operand) (t e : TypeId) (z : Value) (bytes : Nat) (he : Elt P t e z 1 bytes) (u : Value) (v : Value) (n : Nat) (xs : List Value)
    (hown : Hid (wr.ownsRow B e 1 v n xs)) (hB : B ≤ wr.heap.size)
    (hgd : o.guard = none) (ho : o.op = .call { callee := .builtin .append, args := #[s, x], argTypes := #[t, t] })
    (hs : a.eval s = v) (hx : a.eval x = .slice (some ⟨wr.heap.size, 0, none⟩) 1 1) (hu : u.oneCell' = true) (hn : n + 1 ≤ 1099511627776) (hby : bytes ≤ 64)
    (h : ∀ v' w', Hid (w'.ownsRow B e 1 v' (n + 1) (xs ++ [u])) → Hid ((wr.alloc (.cells #[u] e)).grownBy w' v.ownBlock) → wpList P ops Q rest (a.put o.dst v') w') :
    wpList P ops Q (o :: rest) a (wr.alloc (.cells #[u] e)) := by
  obtain ⟨i, hi, hz, hsz, hbs⟩ := he.info
  have hown := hown.out
  refine wpList_append_own _ hgd s x t ho B e i z 1 bytes he.und hi hz hsz hbs he.zs he.pos v n xs hs (hown.alloc _) ⟨wr.heap.size, 0, none⟩ 1 1 [u] hx rfl ?_ ?_ ?_ ?_ ?_ ?_
  · intro j w' hj
    match j with
    | 0 => simp at hj; subst hj; rw [Addr.add_lit]; exact World.cell?_alloc_at _ _ _ _ rfl
    | j+1 => simp at hj
  · intro u' hu'; simp at hu'; subst hu'; exact hu
  · unfold maxLen; omega
  · have h1 := Nat.mul_le_mul (show n + 1 ≤ 1099511627776 from hn) hby; omega
  · simp; omega
  · intro v' w' h1 h2 _
    exact h v' w' h1 h2
end

section
variable {P : Program} {ops : Array Oper} {rest : List Oper} {o : Oper} {a : Act} {Q : Exit → Act → World → Prop} {F : Fence} {m : Nat}
theorem wpListIn_append_grow {wr : World} {B : Nat} (s x : Operand) (t e : TypeId) (z : Value) (bytes : Nat) (he : Elt P t e z 1 bytes) (u : Value) (v : Value) (n : Nat) (xs : List Value)
    (hown : Hid (wr.ownsRow B e 1 v n xs)) (hB : B ≤ wr.heap.size)
    (hgd : o.guard = none) (ho : o.op = .call { callee := .builtin .append, args := #[s, x], argTypes := #[t, t] })
    (hs : a.eval s = v) (hx : a.eval x = .slice (some ⟨wr.heap.size, 0, none⟩) 1 1) (hu : u.oneCell' = true) (hn : n + 1 ≤ 1099511627776) (hby : bytes ≤ 64)
    (h : ∀ v' w', Hid (w'.ownsRow B e 1 v' (n + 1) (xs ++ [u])) → Hid ((wr.alloc (.cells #[u] e)).grownBy w' v.ownBlock) → wpListIn F m P ops Q rest (a.put o.dst v') w') :
    wpListIn F m P ops Q (o :: rest) a (wr.alloc (.cells #[u] e)) := by
  obtain ⟨i, hi, hz, hsz, hbs⟩ := he.info
  have hown := hown.out
  refine wpListIn_append_own _ hgd s x t ho B e i z 1 bytes he.und hi hz hsz hbs he.zs he.pos v n xs hs (hown.alloc _) ⟨wr.heap.size, 0, none⟩ 1 1 [u] hx rfl ?_ ?_ ?_ ?_ ?_ ?_
  · intro j w' hj
    match j with
    | 0 => simp at hj; subst hj; rw [Addr.add_lit]; exact World.cell?_alloc_at _ _ _ _ rfl
    | j+1 => simp at hj
  · intro u' hu'; simp at hu'; subst hu'; exact hu
  · unfold maxLen; omega
  · have h1 := Nat.mul_le_mul (show n + 1 ≤ 1099511627776 from hn) hby; omega
  · simp; omega
  · intro v' w' h1 h2 _
    exact h v' w' h1 h2
end

theorem own_ge {W : World} {n₀ : Nat} {e : TypeId} {size k : Nat} {v : Value} {xs : List Value} (h : W.ownsRow n₀ e size v k xs) : ∀ g, v.ownBlock = some g → n₀ ≤ g ∧ ∃ o : Obj, W.heap[g]? = some o ∧ o.isCells = true := by
  intro g hg
  rcases h.2 with ⟨rfl, _⟩ | ⟨g', cap, cur, rfl, hb, hgb, _⟩
  · simp [Value.ownBlock] at hg
  · obtain rfl : g' = g := by simpa [Value.ownBlock] using hg
    exact ⟨hb, _, hgb, rfl⟩
theorem app_keeps {W w1 : World} {n₀ : Nat} {e : TypeId} {size k : Nat} {v : Value} {xs : List Value} {tmp : Obj} (hrow : W.ownsRow n₀ e size v k xs) (hn : n₀ ≤ W.heap.size) (hg : (W.alloc tmp).grownBy w1 v.ownBlock) :
    KeepsOthers W w1 ∧ Below n₀ W w1 := by
  refine ⟨(KeepsOthers.alloc W tmp).trans (KeepsOthers.of_grownBy hg fun j o ej hj => ?_), ((Below.refl n₀ W).alloc hn tmp).grown hg (by simp; omega) fun j ej => (own_ge hrow j ej).1⟩
  obtain ⟨_, o', ho', hc⟩ := own_ge (hrow.alloc tmp) j ej
  rw [hj] at ho'; cases ho'; exact hc
theorem own_base {W : World} {n₀ m : Nat} {e : TypeId} {size k : Nat} {v : Value} {xs : List Value} (h : W.ownsRow n₀ e size v k xs) (hm : m ≤ n₀) : W.ownsRow m e size v k xs := by
  refine ⟨h.1, ?_⟩
  rcases h.2 with h' | ⟨g, cap, cur, e1, e2, e3⟩
  · exact .inl h'
  · exact .inr ⟨g, cap, cur, e1, by omega, e3⟩
theorem own_drewN {W : World} {n₀ : Nat} {e : TypeId} {size k : Nat} {v : Value} {xs : List Value} (h : W.ownsRow n₀ e size v k xs) (n : Nat) : (W.drewN n).ownsRow n₀ e size v k xs := h
theorem own_kept {A B : World} {base Bs N : Nat} {e : TypeId} {size k : Nat} {v : Value} {xs : List Value} {row : Option Nat} (h : A.ownsRow base e size v k xs) (hg : A.grownBy B row)
    (hr : ∀ r, row = some r → r = Bs ∨ (N ≤ r ∧ ∃ o : Obj, A.heap[r]? = some o ∧ o.isCells = false)) (hb : Bs < base) : B.ownsRow base e size v k xs := by
  refine h.kept hg ?_
  cases hv : v.ownBlock with
  | none =>
    rcases h.2 with ⟨rfl, _⟩ | ⟨g, cap, cur, rfl, _, _⟩
    · exact .inl rfl
    · simp [Value.ownBlock] at hv
  | some g =>
    refine .inr fun e' => ?_
    obtain ⟨hge, o, ho, hc⟩ := own_ge h g hv
    rcases hr g (by rw [← e']) with h' | ⟨_, o', ho', hc'⟩
    · omega
    · rw [ho] at ho'; cases ho'; rw [hc] at hc'; cases hc'
theorem own_set {W : World} {n₀ : Nat} {e : TypeId} {size k : Nat} {v : Value} {xs : List Value} (h : W.ownsRow n₀ e size v k xs) (b : Nat) (hb : b < n₀) (u : Value) : (W.setCell ⟨b, 0, none⟩ u).ownsRow n₀ e size v k xs :=
  h.kept (grownBy_setCell' W b u) (.inr fun e' => by have := (own_ge h b e').1; omega)
theorem boxed_low {W w1 : World} {n B : Nat} {t : TypeId} {v : Value} (h : Boxed W B t v) (hb : Below n W w1) (hB : B < n) : Boxed w1 B t v := (hb.block B hB).trans h
theorem boxed_else {W : World} {B b : Nat} {t : TypeId} {v : Value} (h : Boxed W B t v) (u : Value) (hB : B ≠ b) : Boxed (W.setCell ⟨b, 0, none⟩ u) B t v := h.kept (grownBy_setCell' W b u) (by simpa using hB)

end Go.Proofs.YtaigngdlioplaaaDoor
