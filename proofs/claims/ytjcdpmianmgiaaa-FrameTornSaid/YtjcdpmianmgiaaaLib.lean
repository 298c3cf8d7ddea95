/- General lemmas over any program: appending to a row of the call's own, reading it back as a string. No condition. -/
import Derived.WalkKit
import Derived.WalkLawsBesides
import Derived.WalkSpells
import Derived.Lib.LazyBuf
import Derived.Lib.Hide
import Derived.BigQuiet
import Derived.Deep.RegionWith
namespace Go.Proofs.Ytjcdpmianmgiaaa
open Go.RowKit

section
variable {P : Program} {ops : Array Oper} {rest : List Oper} {o : Oper} {a : Act} {Q : Exit → Act → World → Prop}

/-- What the table says of an element type, kept from the walk. -/
structure Elt (P : Program) (t e : TypeId) (z : Value) (size bytes : Nat) : Prop where
  und : P.underlying t = some (.slice e)
  info : ∃ i, P.info? e = some i ∧ i.zero = some z ∧ i.size = size ∧ i.bytes = bytes
  zs : z.cells.size = size
  pos : 0 < size

theorem Elt.mk' {t e : TypeId} {z : Value} {size bytes : Nat} (ht : P.underlying t = some (.slice e)) (hi : (P.info? e).map (fun i => (i.zero, i.size, i.bytes)) = some (some z, size, bytes)) (hz : z.cells.size = size) (hp : 0 < size) : Elt P t e z size bytes :=
  ⟨ht, info_parts hi, hz, hp⟩

/-- 'append(out, x)', x of one cell, which lies in the block that was just laid. -/
theorem wpList_append_one {wr : World} {B : Nat} {W : World} (s x : Operand) (t e : TypeId) (z : Value) (bytes : Nat) (he : Elt P t e z 1 bytes) (u : Value) (v : Value) (n : Nat) (xs : List Value)
    (hb : Below B W wr) (hown : Hid (wr.ownsRow B e 1 v n xs)) (hB : B ≤ wr.heap.size)
    (hgd : o.guard = none) (ho : o.op = .call { callee := .builtin .append, args := #[s, x], argTypes := #[t, t] })
    (hs : a.eval s = v) (hx : a.eval x = .slice (some ⟨wr.heap.size, 0, none⟩) 1 1) (hu : u.oneCell' = true) (hn : n + 1 ≤ 1099511627776) (hby : bytes ≤ 64)
    (h : ∀ v' w', Hid (w'.ownsRow B e 1 v' (n + 1) (xs ++ [u])) → Below B W w' → B ≤ w'.heap.size → wpList P ops Q rest (a.put o.dst v') w') :
    wpList P ops Q (o :: rest) a (wr.alloc (.cells #[u] e)) := by
  obtain ⟨i, hi, hz, hsz, hbs⟩ := he.info
  have hown := hown.out
  refine wpList_append_own _ hgd s x t ho B e i z 1 bytes he.und hi hz hsz hbs he.zs he.pos v n xs hs (hown.alloc _) ⟨wr.heap.size, 0, none⟩ 1 1 [u] hx rfl ?_ ?_ ?_ ?_ ?_ ?_
  · intro j w' hj
    match j with
    | 0 => simp at hj; subst hj; rw [Addr.add_lit]; exact World.cell?_alloc_at _ _ _ _ rfl
    | j+1 => simp at hj
  · intro u' hu'; simp at hu'; subst hu'; exact hu
  · unfold maxLen; omega
  · have h1 := Nat.mul_le_mul (show n + 1 ≤ 1099511627776 from hn) hby; omega
  · simp; omega
  · intro v' w' h1 h2 _
    refine h v' w' h1 ?_ ?_
    · refine (hb.alloc hB _).grown h2 (by simp; omega) ?_
      intro k hk; exact (hown.lt k hk).1
    · have := h2.size; simp at this; omega

/-- The same, the row told by a list of things that are one cell each. -/
theorem wpList_append_map {α : Type} {wr : World} {B : Nat} {W : World} (s x : Operand) (t e : TypeId) (z : Value) (bytes : Nat) (he : Elt P t e z 1 bytes) (f : α → Value) (u : α) (v : Value) (n : Nat) (xs : List α)
    (hb : Below B W wr) (hown : Hid (wr.ownsRow B e 1 v n (xs.map f))) (hB : B ≤ wr.heap.size)
    (hgd : o.guard = none) (ho : o.op = .call { callee := .builtin .append, args := #[s, x], argTypes := #[t, t] })
    (hs : a.eval s = v) (hx : a.eval x = .slice (some ⟨wr.heap.size, 0, none⟩) 1 1) (hu : (f u).oneCell' = true) (hn : n + 1 ≤ 1099511627776) (hby : bytes ≤ 64)
    (h : ∀ v' w', Hid (w'.ownsRow B e 1 v' (n + 1) ((xs ++ [u]).map f)) → Below B W w' → B ≤ w'.heap.size → wpList P ops Q rest (a.put o.dst v') w') :
    wpList P ops Q (o :: rest) a (wr.alloc (.cells #[f u] e)) :=
  wpList_append_one s x t e z bytes he (f u) v n (xs.map f) hb hown hB hgd ho hs hx hu hn hby fun v' w' h1 h2 h3 => h v' w' (by rw [List.map_append]; exact h1) h2 h3

/-- 'string(out)' of a row of bytes of the call's own. -/
theorem run_string_own {w : World} {B n : Nat} {v : Value} (xs : List Int) (t e dst : TypeId) (ht : P.underlying t = some (.slice e)) (he : P.underlying e = some (.int .u8)) (hd : P.underlying dst = some .string)
    (hown : w.ownsRow B e 1 v n (xs.map (Value.int .u8))) : (convert t dst v).run P w = .ok (.string (strOfNums xs)) w := by
  rcases hown.2 with ⟨rfl, hn⟩ | ⟨g, cap, cur, rfl, _, _⟩
  · have h1 := hown.1
    subst hn
    simp at h1
    subst h1
    rw [run_convert_bytes_nil w t e ht he 0 0 dst hd]
    rfl
  · refine run_convert_bytes_arg w t e ht he g 0 n cap xs ?_ ?_ dst hd
    · have := hown.1; simpa using this
    · intro i hi
      have h1 := hown.1
      simp at h1
      have := hown.cells (g := g) rfl i (.int .u8 (xs.getD i 0)) (by simp [List.getD, show i < xs.length by omega])
      rwa [Addr.add_lit] at this

theorem wpList_string_own {w : World} {B n : Nat} (x : Operand) (v : Value) (xs : List Int) (t e dst : TypeId) (hd : P.underlying dst = some .string)
    (z : Value) (bytes : Nat) (he : Elt P t e z 1 bytes) (he8 : P.underlying e = some (.int .u8))
    (hown : w.ownsRow B e 1 v n (xs.map (Value.int .u8)))
    (hgd : o.guard = none) (ho : o.op = .convert t dst x) (hx : a.eval x = v)
    (h : wpList P ops Q rest (a.put o.dst (.string (strOfNums xs))) w) : wpList P ops Q (o :: rest) a w := by
  refine wpList_plain hgd fun K hK => ?_
  have hr := run_string_own (P := P) xs t e dst he.und he8 hd hown
  unfold Oper.wp
  simp [execOp, ho, hx, hr, Result.andThen]
  exact hK _ _ h

/-- 'string([]byte{x})'. -/
theorem run_string_one (w : World) (x : Int) (t e dst : TypeId) (hd : P.underlying dst = some .string) (ht : P.underlying t = some (.slice e)) (he : P.underlying e = some (.int .u8)) :
    (convert t dst (.slice (some ⟨w.heap.size, 0, none⟩) 1 1)).run P (w.alloc (.cells #[.int .u8 x] e)) = .ok (.string (strOfNums [x])) (w.alloc (.cells #[.int .u8 x] e)) := by
  refine run_convert_bytes_arg _ t e ht he w.heap.size 0 1 1 [x] rfl ?_ dst hd
  intro i hi
  obtain rfl : i = 0 := by omega
  rw [Nat.add_zero]
  exact World.cell?_alloc_at _ _ _ _ rfl
/-- The same behind worlds that only grew. -/
theorem run_string_at (w1 : World) (x : Int) (t e dst : TypeId) (hd : P.underlying dst = some .string) (ht : P.underlying t = some (.slice e)) (he : P.underlying e = some (.int .u8))
    (g : Nat) (hc : w1.cell? ⟨g, 0, none⟩ = some (.int .u8 x)) :
    (convert t dst (.slice (some ⟨g, 0, none⟩) 1 1)).run P w1 = .ok (.string (strOfNums [x])) w1 := by
  refine run_convert_bytes_arg _ t e ht he g 0 1 1 [x] rfl ?_ dst hd
  intro i hi
  obtain rfl : i = 0 := by omega
  exact hc
end

theorem strOfNums_append (xs ys : List Int) : strOfNums (xs ++ ys) = strOfNums xs ++ strOfNums ys := by
  apply ByteArray.ext
  apply Array.toList_inj.1
  simp [strOfNums, ByteArray.data_append]
/-- Growth, put together. -/
theorem below_to {w a b : World} (h : Below w.heap.size w a) (hb : Below a.heap.size a b) : Below w.heap.size w b := h.trans (hb.mono h.size)

/-- The worlds that only grew out of one. -/
structure ExtOf (w0 : World) where
  w : World
  below : Below w0.heap.size w0 w
instance (w0 : World) : Nonempty (ExtOf w0) := ⟨⟨w0, Below.refl _ _⟩⟩
@[go_sem] theorem ExtOf.cell (w0 : World) (x : ExtOf w0) (b o : Nat) (s : Option Nat) (h : b < w0.heap.size) : x.w.cell? ⟨b, o, s⟩ = w0.cell? ⟨b, o, s⟩ := x.below.cell (p := ⟨b, o, s⟩) h
@[go_sem] theorem ExtOf.frozen (w0 : World) (x : ExtOf w0) (b o : Nat) (s : Option Nat) (h : b < w0.heap.size) : x.w.frozen? ⟨b, o, s⟩ = w0.frozen? ⟨b, o, s⟩ := x.below.frozen (p := ⟨b, o, s⟩) h
theorem ext_call {P : Program} {f : FuncId} {args : Array Value} {w0 : World} {x : ExtOf w0} {v : Value}
    (h : Calls P f args x.w fun e w' => e = .returned v ∧ Below x.w.heap.size x.w w') : Calls P f args x.w fun e w'' => e = .returned v ∧ ∃ y : ExtOf w0, w'' = y.w :=
  h.mono fun _ w' ⟨he, hb⟩ => ⟨he, ⟨w', x.below.trans (hb.mono x.below.size)⟩, rfl⟩
theorem ext_call_same {P : Program} {f : FuncId} {args : Array Value} {w0 : World} {x : ExtOf w0} {v : Value}
    (h : Calls P f args x.w fun e w' => e = .returned v ∧ x.w = w') : Calls P f args x.w fun e w'' => e = .returned v ∧ ∃ y : ExtOf w0, w'' = y.w :=
  h.mono fun _ _ ⟨he, hb⟩ => ⟨he, x, hb.symm⟩
/-- A region that draws its order, whose operations read what was there and whose calls only make new memory. -/
theorem wp_region_ext {P : Program} {id : Nat} {Q : Exit → Act → World → Prop} {a : Act} {w : World} {l : List Oper} (hm : P.follows .mixedOrders = true) (hB : Region.lexB .any l.toArray = true)
    (h : wpQuiet P l.toArray (fun w' => ∃ x : ExtOf w, w' = x.w) (fun a' => ∀ w', (∃ x : ExtOf w, w' = x.w) → Q .normal a' w') l a) : (Code.region id l.toArray true).wp P Q a w :=
  wp_region_quiet (C := fun w' => ∃ x : ExtOf w, w' = x.w) hm hB ⟨⟨w.drew, (Below.refl _ _).drew⟩, rfl⟩ (by simpa using h)
end Go.Proofs.Ytjcdpmianmgiaaa
