/- Part 1 of what the claim rests on. -/
import Derived.BigQuiet
import Derived.Deep.Quiet
import Derived.Deep.RegionWith
import Derived.Laws.RangeAny
import Derived.Lib.AppendIntMem
import Derived.Lib.Hide
import Derived.Lib.ItoaNum
import Derived.Lib.LazyBuf
import Derived.Lib.OthersKept
import Derived.Shelf.LaysM
import Derived.Shelf.Strconv.Itoa3
import Derived.StillTail
import Derived.Test.YtajogedbacpohaaGreatDoorChecked
import Derived.WalkKit
import Derived.WalkLawsBesides
import Derived.WalkSpells
set_option linter.unusedVariables false
set_option linter.unusedSimpArgs false
set_option maxRecDepth 1000000
set_option maxHeartbeats 32000000
namespace Go.Proofs.YtajogedbacpohaaGreatDoor
section
open Go.RowKit
section
variable {P : Program} {ops : Array Oper} {rest : List Oper} {o : Oper} {a : Act} {Q : Exit → Act → World → Prop}
structure Elt (P : Program) (t e : TypeId) (z : Value) (size bytes : Nat) : Prop where
 und : P.underlying t = some (.slice e)
 info : ∃ i, P.info? e = some i ∧ i.zero = some z ∧ i.size = size ∧ i.bytes = bytes
 zs : z.cells.size = size
 pos : 0 < size
theorem Elt.mk' {t e : TypeId} {z : Value} {size bytes : Nat} (ht : P.underlying t = some (.slice e)) (hi : (P.info? e).map (fun i => (i.zero, i.size, i.bytes)) = some (some z, size, bytes)) (hz : z.cells.size = size) (hp : 0 < size) : Elt P t e z size bytes :=
 ⟨ht, info_parts hi, hz, hp⟩
theorem zz3n {wr : World} {B : Nat} {W : World} (s x : Operand) (t e : TypeId) (z : Value) (bytes : Nat) (he : Elt P t e z 1 bytes) (u : Value) (v : Value) (n : Nat) (xs : List Value)
  (hb : Below B W wr) (hown : Hid (wr.ownsRow B e 1 v n xs)) (hB : B ≤ wr.heap.size)
  (hgd : o.guard = none) (ho : o.op = .call { callee := .builtin .append, args := #[s, x], argTypes := #[t, t] })
  (hs : a.eval s = v) (hx : a.eval x = .slice (some ⟨wr.heap.size, 0, none⟩) 1 1) (hu : u.oneCell' = true) (hn : n + 1 ≤ 1099511627776) (hby : bytes ≤ 64)
  (h : ∀ v' w', Hid (w'.ownsRow B e 1 v' (n + 1) (xs ++ [u])) → Below B W w' → B ≤ w'.heap.size → wpList P ops Q rest (a.put o.dst v') w') :
  wpList P ops Q (o :: rest) a (wr.alloc (.cells #[u] e)) := by
 obtain ⟨i, hi, hz, hsz, hbs⟩ := he.info;have hown := hown.out;refine wpList_append_own _ hgd s x t ho B e i z 1 bytes he.und hi hz hsz hbs he.zs he.pos v n xs hs (hown.alloc _) ⟨wr.heap.size, 0, none⟩ 1 1 [u] hx rfl ?_ ?_ ?_ ?_ ?_ ?_
 ·intro j w' hj
  match j with
  | 0 => simp at hj; subst hj; rw [Addr.add_lit]; exact World.cell?_alloc_at _ _ _ _ rfl
  | j+1 => simp at hj
 ·intro u' hu'; simp at hu'; subst hu'; exact hu
 ·unfold maxLen; omega
 ·have h1 := Nat.mul_le_mul (show n + 1 ≤ 1099511627776 from hn) hby; omega
 ·simp; omega
 ·intro v' w' h1 h2 _
  refine h v' w' h1 ?_ ?_
  ·refine (hb.alloc hB _).grown h2 (by simp; omega) ?_
   intro k hk; exact (hown.lt k hk).1
  ·have := h2.size; simp at this; omega
theorem zz0k {α : Type} {wr : World} {B : Nat} {W : World} (s x : Operand) (t e : TypeId) (z : Value) (bytes : Nat) (he : Elt P t e z 1 bytes) (f : α → Value) (u : α) (v : Value) (n : Nat) (xs : List α)
  (hb : Below B W wr) (hown : Hid (wr.ownsRow B e 1 v n (xs.map f))) (hB : B ≤ wr.heap.size)
  (hgd : o.guard = none) (ho : o.op = .call { callee := .builtin .append, args := #[s, x], argTypes := #[t, t] })
  (hs : a.eval s = v) (hx : a.eval x = .slice (some ⟨wr.heap.size, 0, none⟩) 1 1) (hu : (f u).oneCell' = true) (hn : n + 1 ≤ 1099511627776) (hby : bytes ≤ 64)
  (h : ∀ v' w', Hid (w'.ownsRow B e 1 v' (n + 1) ((xs ++ [u]).map f)) → Below B W w' → B ≤ w'.heap.size → wpList P ops Q rest (a.put o.dst v') w') :
  wpList P ops Q (o :: rest) a (wr.alloc (.cells #[f u] e)) :=
 zz3n s x t e z bytes he (f u) v n (xs.map f) hb hown hB hgd ho hs hx hu hn hby fun v' w' h1 h2 h3 => h v' w' (by rw [List.map_append]; exact h1) h2 h3
end
structure ExtOf (w0 : World) where
 w : World
 below : Below w0.heap.size w0 w
instance (w0 : World) : Nonempty (ExtOf w0) := ⟨⟨w0, Below.refl _ _⟩⟩
@[go_sem] theorem ExtOf.cell (w0 : World) (x : ExtOf w0) (b o : Nat) (s : Option Nat) (h : b < w0.heap.size) : x.w.cell? ⟨b, o, s⟩ = w0.cell? ⟨b, o, s⟩ := x.below.cell (p := ⟨b, o, s⟩) h
theorem zz1r {P : Program} {f : FuncId} {args : Array Value} {w0 : World} {x : ExtOf w0} {v : Value}
  (h : Calls P f args x.w fun e w' => e = .returned v ∧ Below x.w.heap.size x.w w') : Calls P f args x.w fun e w'' => e = .returned v ∧ ∃ y : ExtOf w0, w'' = y.w :=
 h.mono fun _ w' ⟨he, hb⟩ => ⟨he, ⟨w', x.below.trans (hb.mono x.below.size)⟩, rfl⟩
theorem zz0r {P : Program} {id : Nat} {Q : Exit → Act → World → Prop} {a : Act} {w : World} {l : List Oper} (hm : P.follows .mixedOrders = true) (hB : Region.lexB .any l.toArray = true)
  (h : wpQuiet P l.toArray (fun w' => ∃ x : ExtOf w, w' = x.w) (fun a' => ∀ w', (∃ x : ExtOf w, w' = x.w) → Q .normal a' w') l a) : (Code.region id l.toArray true).wp P Q a w :=
 wp_region_quiet (C := fun w' => ∃ x : ExtOf w, w' = x.w) hm hB ⟨⟨w.drew, (Below.refl _ _).drew⟩, rfl⟩ (by simpa using h)
end
end Go.Proofs.YtajogedbacpohaaGreatDoor
namespace Go.Proofs.YtajogedbacpohaaGreatDoor
open Go Go.Lib
namespace Shelf
end Shelf
section
open Go Go.RowKit
theorem zz00 {w : World} {g : Nat} {cs : Array Value} {t : TypeId} (h : w.heap[g]? = some (.cells cs t (0, 0))) (i : Nat) (v : Value) (hi : cs[i]? = some v) : w.cell? ⟨g, i, none⟩ = some v := by
 rw [cell_of_row w g i cs t (0, 0) h, hi]
theorem zz05 {w : World} {g : Nat} {cs : Array Value} {t : TypeId} (h : w.heap[g]? = some (.cells cs t (0, 0))) (i : Nat) : w.frozen? ⟨g, i, none⟩ = false := by simp [World.frozen?, h]
theorem zz8u {w wr : World} {g : Nat} (h : w.grownBy wr (some g)) (m o : Nat) (v : Value) : w.grownBy ((wr.drewN m).setCell ⟨g, o, none⟩ v) (some g) :=
 ⟨h.os, h.tape, h.output, by simpa [World.setCell] using h.size, fun k hk hne => by
  have : k ≠ g := fun e => hne (by rw [e])
  rw [Below.heap_setCell _ _ _ _ this];exact h.block k hk hne⟩
theorem zz0b {B : Nat} {a w : World} (h : Below B a w) (n : Nat) : Below B a (w.drewN n) := ⟨h.os, h.tape, h.output, h.size, h.block⟩
theorem zzbe {w wr : World} {g : Nat} (h : w.grownBy wr (some g)) (o : Nat) (v : Value) : w.grownBy (wr.setCell ⟨g, o, none⟩ v) (some g) := zz8u h 0 o v
theorem zz1k {a b c : World} {g : Nat} (h : a.grownBy b (some g)) (k : b.grownBy c (some g)) : a.grownBy c (some g) :=
 ⟨k.os.trans h.os, k.tape.trans h.tape, k.output.trans h.output, Nat.le_trans h.size k.size, fun i hi hne => (k.block i (Nat.lt_of_lt_of_le hi h.size) hne).trans (h.block i hi hne)⟩
theorem zz0d {w : World} {b : Nat} {cs : Array Value} {t : TypeId} {fr : Nat × Nat} (h : w.heap[b]? = some (.cells cs t fr)) (i : Nat) (v : Value) : (w.setCell ⟨b, i, none⟩ v).heap[b]? = some (.cells (cs.setIfInBounds i v) t fr) := by
 obtain ⟨hlt, hk⟩ := Array.getElem?_eq_some_iff.1 h;show (w.heap.modify b _)[b]? = _;rw [Array.getElem?_eq_getElem (by rw [Array.size_modify]; exact hlt), Array.getElem_modify_self, hk]
 rfl
theorem zz09 {w : World} {b c : Nat} {o : Option Obj} (h : w.heap[b]? = o) (i : Nat) (v : Value) (hne : b ≠ c) : (w.setCell ⟨c, i, none⟩ v).heap[b]? = o := (Below.heap_setCell _ _ _ b hne).trans h
theorem zz0e (w : World) (o : Obj) (k : Nat) (h : k = w.heap.size) : (w.alloc o).heap[k]? = some o := by subst h; exact heap_alloc_new w o
theorem zz04 {w : World} {k : Nat} {x : Obj} (h : w.heap[k]? = some x) (o : Obj) : (w.alloc o).heap[k]? = some x := (Below.heap_alloc w o k (Array.getElem?_eq_some_iff.1 h).1).trans h
theorem zz01 {n : Nat} {a b : World} (h : Below n a b) (hn : n ≤ b.heap.size) (o : Obj) : Below n a (b.alloc o) := h.alloc hn o
theorem zz02 (w : World) (o : Obj) : (w.alloc o).heap[w.heap.size]? = some o := heap_alloc_new w o
theorem zz06 {w w' : World} {p : Nat} {o : Obj} (h : w.heap[p]? = some o) (hb : Below w.heap.size w w') : w'.heap[p]? = some o := (hb.block p (Array.getElem?_eq_some_iff.1 h).1).trans h
theorem zC {w : World} {g : Nat} {cs : Array Value} {t : TypeId} (h : w.heap[g]? = some (.cells cs t (0, 0))) : ∀ i, w.cell? ⟨g, i, none⟩ = cs[i]? := fun i => cell_of_row w g i cs t (0, 0) h
theorem zF {w : World} {g : Nat} {cs : Array Value} {t : TypeId} (h : w.heap[g]? = some (.cells cs t (0, 0))) : ∀ i, w.frozen? ⟨g, i, none⟩ = false := fun i => by simp [World.frozen?, h]
theorem zL {α : Type} {l : Array α} {i : Nat} {x : α} (h : l[i]? = some x) : i < l.size := (Array.getElem?_eq_some_iff.1 h).1
theorem zT {a w : World} {B g : Nat} {cs : Array Value} {t : TypeId} (h : a.heap[g]? = some (.cells cs t (0, 0))) (hb : Below B a w) (hB : g < B := by exact zL ‹_›) : ∀ i, w.cell? ⟨g, i, none⟩ = cs[i]? := fun i => (hb.cell (p := ⟨g, i, none⟩) hB).trans (cell_of_row a g i cs t (0, 0) h)
theorem zK {w w' : World} {p : Nat} {o : Obj} (h : Hid (w.heap[p]? = some o)) (hb : Below w.heap.size w w') : Hid (w'.heap[p]? = some o) := (hb.block p (zL h.out)).trans h.out
theorem zB {a b c : World} (h : Hid (Below a.heap.size a b)) (hb : Below b.heap.size b c) : Hid (Below a.heap.size a c) := h.out.trans (hb.mono h.out.size)
theorem zR2 {a w : World} {B b o : Nat} {y0 y1 : Int} (hb : Below B a w) (hl : b < B) (h : ∀ (j : Nat) (x : Int), ([y0, y1] : List Int)[j]? = some x → a.cell? ⟨b, o + j, none⟩ = some (.int .i64 x)) : w.cell? ⟨b, o, none⟩ = some (.int .i64 y0) ∧ w.cell? ⟨b, o + 1, none⟩ = some (.int .i64 y1) := ⟨(hb.cell (p := ⟨b, o + 0, none⟩) hl).trans (h 0 _ rfl), (hb.cell (p := ⟨b, o + 1, none⟩) hl).trans (h 1 _ rfl)⟩
theorem zR3 {a w : World} {B b o : Nat} {y0 y1 y2 : Int} (hb : Below B a w) (hl : b < B) (h : ∀ (j : Nat) (x : Int), ([y0, y1, y2] : List Int)[j]? = some x → a.cell? ⟨b, o + j, none⟩ = some (.int .i64 x)) : w.cell? ⟨b, o, none⟩ = some (.int .i64 y0) ∧ w.cell? ⟨b, o + 1, none⟩ = some (.int .i64 y1) ∧ w.cell? ⟨b, o + 2, none⟩ = some (.int .i64 y2) := ⟨(hb.cell (p := ⟨b, o + 0, none⟩) hl).trans (h 0 _ rfl), (hb.cell (p := ⟨b, o + 1, none⟩) hl).trans (h 1 _ rfl), (hb.cell (p := ⟨b, o + 2, none⟩) hl).trans (h 2 _ rfl)⟩
theorem zR4 {a w : World} {B b o : Nat} {y0 y1 y2 y3 : Int} (hb : Below B a w) (hl : b < B) (h : ∀ (j : Nat) (x : Int), ([y0, y1, y2, y3] : List Int)[j]? = some x → a.cell? ⟨b, o + j, none⟩ = some (.int .i64 x)) : w.cell? ⟨b, o, none⟩ = some (.int .i64 y0) ∧ w.cell? ⟨b, o + 1, none⟩ = some (.int .i64 y1) ∧ w.cell? ⟨b, o + 2, none⟩ = some (.int .i64 y2) ∧ w.cell? ⟨b, o + 3, none⟩ = some (.int .i64 y3) := ⟨(hb.cell (p := ⟨b, o + 0, none⟩) hl).trans (h 0 _ rfl), (hb.cell (p := ⟨b, o + 1, none⟩) hl).trans (h 1 _ rfl), (hb.cell (p := ⟨b, o + 2, none⟩) hl).trans (h 2 _ rfl), (hb.cell (p := ⟨b, o + 3, none⟩) hl).trans (h 3 _ rfl)⟩
theorem zR6 {a w : World} {B b o : Nat} {y0 y1 y2 y3 y4 y5 : Int} (hb : Below B a w) (hl : b < B) (h : ∀ (j : Nat) (x : Int), ([y0, y1, y2, y3, y4, y5] : List Int)[j]? = some x → a.cell? ⟨b, o + j, none⟩ = some (.int .i64 x)) : w.cell? ⟨b, o, none⟩ = some (.int .i64 y0) ∧ w.cell? ⟨b, o + 1, none⟩ = some (.int .i64 y1) ∧ w.cell? ⟨b, o + 2, none⟩ = some (.int .i64 y2) ∧ w.cell? ⟨b, o + 3, none⟩ = some (.int .i64 y3) ∧ w.cell? ⟨b, o + 4, none⟩ = some (.int .i64 y4) ∧ w.cell? ⟨b, o + 5, none⟩ = some (.int .i64 y5) := ⟨(hb.cell (p := ⟨b, o + 0, none⟩) hl).trans (h 0 _ rfl), (hb.cell (p := ⟨b, o + 1, none⟩) hl).trans (h 1 _ rfl), (hb.cell (p := ⟨b, o + 2, none⟩) hl).trans (h 2 _ rfl), (hb.cell (p := ⟨b, o + 3, none⟩) hl).trans (h 3 _ rfl), (hb.cell (p := ⟨b, o + 4, none⟩) hl).trans (h 4 _ rfl), (hb.cell (p := ⟨b, o + 5, none⟩) hl).trans (h 5 _ rfl)⟩
theorem zH {p : Prop} (h : p) : Hid p := h
abbrev ZB (w : World) (g : Nat) (cs : Array Value) (t : TypeId) : Prop := Hid (w.heap[g]? = some (.cells cs t (0, 0)))
instance : Coe Int Value := ⟨fun x => .int .i64 x⟩
instance : Coe Nat Value := ⟨fun x => .int .i64 (x : Int)⟩
def BZ : Unit := ()
instance : CoeDep Unit BZ (Array Value) := ⟨#[.slice none 0 0, .slice none 0 0, .slice none 0 0, .slice none 0 0, .int .i64 0]⟩
theorem zM0 {w a : World} {o : Obj} (h : w.alloc o = a) : Below w.heap.size w a := h ▸ zz01 (Below.refl _ _) (Nat.le_refl _) _
theorem zM1 {w a : World} {cs : Array Value} {t : TypeId} (h : w.alloc (.cells cs t) = a) : ZB a w.heap.size cs t := h ▸ zz02 _ _
theorem zk {p : Prop} (h : p := by kernel_rfl) : p := h
theorem zw {p : Prop} (h : p := by omega) : p := h
theorem zx {p : Prop} (h : p := by decide) : p := h
theorem zo {p : Prop} (h : p := by first | (simp; done) | (simp; omega)) : p := h
theorem zsm {p : Prop} (h : p := by have := hs.out; unfold Bk.Small at this; omega) : p := h
theorem zle {p : Prop} (h : p := by first | exact Nat.le_refl _ | (simp; done) | omega) : p := h
def zb (n m : Nat) : Array Bool := ((List.range n).map m.testBit).toArray
theorem zBa {w : World} {o : Obj} : Below w.heap.size w (w.alloc o) := zz01 (Below.refl _ _) (Nat.le_refl _) _
theorem zKx {w w' : World} {g : Nat} {C : Value → Obj} (h : Hid (∃ v, w.heap[g]? = some (C v))) (hb : Below w.heap.size w w') : Hid (∃ v, w'.heap[g]? = some (C v)) := h.out.imp fun _ h => zz06 h hb
end
section
open Go.RowKit
def I64 (n : Int) : Prop := -9223372036854775808 ≤ n ∧ n < 9223372036854775808
def U64 (n : Int) : Prop := 0 ≤ n ∧ n < 18446744073709551616
theorem zz7h (x : Int) (h : U64 x) : bits .xor .u64 x 18446744073709551615 = 18446744073709551615 - x := by
 unfold U64 at h;obtain ⟨a, rfl⟩ := Int.eq_ofNat_of_zero_le h.1;have ha : a < 18446744073709551616 := by omega
 have e : (18446744073709551615 : Int) = ((18446744073709551615 : Nat) : Int) := rfl;rw [e, u64_xor_nat a _ ha zx];have e2 : a ^^^ 18446744073709551615 = 18446744073709551615 - a := by
  have h1 : (BitVec.ofNat 64 a ^^^ BitVec.allOnes 64).toNat = (~~~ (BitVec.ofNat 64 a)).toNat := by rw [BitVec.xor_allOnes]
  rw [BitVec.toNat_not, BitVec.toNat_xor, BitVec.toNat_ofNat, BitVec.toNat_allOnes, Nat.mod_eq_of_lt ha] at h1;exact h1
 rw [e2]; omega
theorem zz4z {n : Int} (h : (Lit.int .i64 n).wf = true) : Hid (I64 n) := by
 simp [Lit.wf, IntKind.min, IntKind.max, IntKind.signed, IntKind.bits] at h;show I64 n;unfold I64; omega
end
section
open Go Go.RowKit Shelf

abbrev TabW (w : World) : Prop := Lib.TabIs Tryz.prog w "internal/strconv.uint64pow10" .u64 Lib.pow10Tab
theorem TabW.call {w w' : World} (h : TabW w) (hb : Below w.heap.size w w') : TabW w' := Lib.tabBelow_of_tabIs h _ hb
theorem zz76 (c : UInt8) (l : List UInt8) : (⟨#[c]⟩ ++ ⟨l.toArray⟩ : ByteArray) = ⟨(c :: l).toArray⟩ := by
 apply ByteArray.ext;simp
theorem zz0c (l r : List UInt8) : (⟨l.toArray⟩ ++ ⟨r.toArray⟩ : ByteArray) = ⟨(l ++ r).toArray⟩ := by
 apply ByteArray.ext;simp
end
end Go.Proofs.YtajogedbacpohaaGreatDoor
namespace Go.Proofs.YtajogedbacpohaaGreatDoor
open Go Go.RowKit
namespace Rule
def rows : List (List UInt8 × Nat × Nat) := [([], 0, 0), ([107, 105, 110, 100, 32, 97, 116, 32, 108, 101, 97, 115, 116], 2, 1), ([107, 105, 110, 100, 32, 97, 116, 32, 109, 111, 115, 116], 1, 1), ([115, 105, 100, 101, 32, 97, 116, 32, 108, 101, 97, 115, 116], 2, 2), ([115, 105, 100, 101, 32, 97, 116, 32, 109, 111, 115, 116], 1, 2), ([113, 117, 97, 110, 116, 105, 116, 121], 2, 2), ([112, 114, 105, 99, 101], 2, 2), ([99, 97, 115, 104], 2, 2), ([108, 105, 109, 105, 116, 32, 111, 102, 32, 112, 111, 115, 105, 116, 105, 111, 110], 2, 2), ([108, 105, 109, 105, 116, 32, 111, 102, 32, 111, 114, 100, 101, 114], 2, 2), ([97, 99, 99, 111, 117, 110, 116, 32, 107, 110, 111, 119, 110], 3, 3), ([97, 99, 99, 111, 117, 110, 116, 32, 110, 101, 119], 3, 4), ([111, 114, 100, 101, 114, 32, 110, 101, 119], 3, 5), ([111, 114, 100, 101, 114, 32, 107, 110, 111, 119, 110], 3, 6), ([115, 121, 109, 98, 111, 108, 32, 112, 114, 105, 99, 101, 100], 3, 7), ([114, 111, 111, 109, 32, 111, 102, 32, 97, 99, 99, 111, 117, 110, 116, 115], 1, 8), ([114, 111, 111, 109, 32, 111, 102, 32, 111, 114, 100, 101, 114, 115], 1, 8), ([114, 111, 111, 109, 32, 111, 102, 32, 112, 114, 105, 99, 101, 115], 1, 8), ([119, 111, 114, 116, 104], 1, 9), ([114, 101, 97, 99, 104], 1, 10), ([109, 97, 114, 103, 105, 110], 1, 11), ([102, 105, 108, 108, 101, 100], 1, 2), ([99, 97, 115, 104, 32, 98, 101, 104, 105, 110, 100], 3, 12), ([112, 111, 115, 105, 116, 105, 111, 110, 32, 98, 101, 104, 105, 110, 100], 3, 12)]
def name (n : Nat) : List UInt8 := (rows.getD n ([], 0, 0)).1
def rel (n : Nat) : Nat := (rows.getD n ([], 0, 0)).2.1
def code (n : Nat) : Nat := (rows.getD n ([], 0, 0)).2.2
theorem rel_out {n : Nat} (h : 24 ≤ n) : rel n = 0 := by unfold rel; rw [List.getD_eq_getElem?_getD, List.getElem?_eq_none (by exact h)]; rfl
theorem fine : ∀ n, n < 24 → rel n < 4 ∧ code n < 13 ∧ (name n).length ≤ 20 := by decide
theorem rel_lt (n : Nat) : rel n < 4 := by
 rcases Nat.lt_or_ge n 24 with h | h
 ·exact (fine n h).1
 ·rw [rel_out h]; decide
def is (r : Nat) (a b : Int) : Bool := match r with
 | 1 => decide (a ≤ b)
 | 2 => decide (b ≤ a)
 | 3 => a == b
 | _ => false
end Rule
def numR (n : Int) : Nat := if 0 < n ∧ n < 24 then n.toNat else 0
theorem numR_lt (n : Int) : numR n < 24 := by unfold numR; split <;> omega
structure RulesT (w : World) : Prop where
 tab : ∀ n, n < 24 → w.cell? ⟨3, n * 3, none⟩ = some (.string ⟨(Rule.name n).toArray⟩) ∧ w.cell? ⟨3, n * 3 + 1, none⟩ = some (.int .i64 (Rule.rel n)) ∧ w.cell? ⟨3, n * 3 + 2, none⟩ = some (.int .i64 (Rule.code n))
 lt : 3 < w.heap.size
theorem RulesT.call {w w' : World} (h : RulesT w) (hb : Below w.heap.size w w') : RulesT w' :=
 ⟨fun n hn => ⟨(hb.cell (p := ⟨3, n * 3, none⟩) h.lt).trans (h.tab n hn).1, (hb.cell (p := ⟨3, n * 3 + 1, none⟩) h.lt).trans (h.tab n hn).2.1, (hb.cell (p := ⟨3, n * 3 + 2, none⟩) h.lt).trans (h.tab n hn).2.2⟩, Nat.lt_of_lt_of_le h.lt hb.size⟩
theorem zz0n {fn : Func} {p : Tmp} {ty : TypeId} (h : fn.results = #[.cell p ty]) (tmps : Array Value) (P : Program) (w : World) :
  (results fn tmps).run P w = ((asAddr (tmps.getD p undef)).run P w).andThen fun a w₁ => (loadVar ty a).run P w₁ := by
 simp only [results, h];simp [Sem.run_bind, Result.andThen]
theorem zz5k (n : Int) (hn : I64 n) (w : World) : Calls Tryz.prog 155 #[.int .i64 n] w fun e w' => e = .returned (.bool (decide (0 < n ∧ n < 24))) ∧ w' = w := by
 unfold I64 at hn;by_cases h0 : 0 < n
 ·have t1 : decide (0 < n) = true := decide_eq_true h0
  by_cases h1 : n < 24
  ·have t2 : decide (n < 24) = true := decide_eq_true h1
   have hd : Hid (decide (0 < n ∧ n < 24) = true) := decide_eq_true ⟨h0, h1⟩;clear h0 h1;go_in;go_wp2_with fail;go_ret;exact ⟨by rw [hd.out]; rfl, rfl⟩
  ·have t2 : decide (n < 24) = false := decide_eq_false h1
   have hd : Hid (decide (0 < n ∧ n < 24) = false) := decide_eq_false (fun h => h1 h.2)
   clear h0 h1;go_in;go_wp2_with fail;go_ret;exact ⟨by rw [hd.out]; rfl, rfl⟩
 ·have t1 : decide (0 < n) = false := decide_eq_false h0
  have hd : Hid (decide (0 < n ∧ n < 24) = false) := decide_eq_false (fun h => h0 h.1)
  clear h0;go_in;go_wp2_with fail;go_ret;exact ⟨by rw [hd.out]; rfl, rfl⟩
theorem of_any (n : Int) (hn : I64 n) (w : World) (hT : Hid (RulesT w)) : Calls Tryz.prog 156 #[.int .i64 n] w fun e w' => e = .returned (.agg #[.string ⟨(Rule.name (numR n)).toArray⟩, .int .i64 (Rule.rel (numR n)), .int .i64 (Rule.code (numR n))]) ∧ Below w.heap.size w w' := by
 have q := zH (fun w => zz5k n hn w)
 by_cases h : 0 < n ∧ n < 24
 ·rw [decide_eq_true h] at q
  obtain ⟨m, rfl⟩ : ∃ m : Nat, n = m := ⟨n.toNat, by omega⟩
  have hm : m < 24 := by omega
  have hnm : numR (m : Int) = m := by unfold numR; rw [if_pos h]; rfl
  rw [hnm];obtain ⟨k1, k2, k3⟩ := hT.out.tab m hm;have hlt := hT.out.lt;clear hnm h;generalize Rule.name m = nm at *;generalize Rule.rel m = rl at *;generalize Rule.code m = cd at *;go_in;go_wp2_with fail;refine (q.out _).mono ?_;rintro e w' ⟨rfl, rfl⟩;go_wp2_with fail;refine bodyPost_ret (v := .agg #[.string ⟨nm.toArray⟩, rl, cd]) ?_ rfl ⟨rfl, (Below.refl _ w).alloc (Nat.le_refl _) _⟩;rw [zz0n rfl];go_simp
 ·rw [decide_eq_false h] at q
  have hnm : numR n = 0 := by unfold numR; rw [if_neg h]
  rw [hnm];go_in;go_wp2_with fail;refine (q.out _).mono ?_;rintro e w' ⟨rfl, rfl⟩;go_wp2_with fail;refine bodyPost_ret (v := .agg #[.string ⟨#[]⟩, .int .i64 0, .int .i64 0]) ?_ rfl ⟨rfl, (Below.refl _ w).alloc (Nat.le_refl _) _⟩;rw [zz0n rfl];go_simp
section
open Go Go.RowKit
structure Stp where
 rule : Int
 left : Int
 right : Int
 over : Bool
def Stp.val (s : Stp) : Value := .agg #[s.rule, s.left, s.right, .bool s.over]
def Stp.fit (s : Stp) : Prop := I64 s.rule ∧ I64 s.left ∧ I64 s.right
def relS (n : Int) : Nat := Rule.rel (numR n)
def codeS (n : Int) : Nat := Rule.code (numR n)
def nameS (n : Int) : List UInt8 := if 0 < n ∧ n < 24 then Rule.name (numR n) else [63]
def Stp.holds (s : Stp) : Bool := !s.over && Rule.is (relS s.rule) s.left s.right
theorem zz8h (n : Int) : relS n < 4 := Rule.rel_lt _
theorem zz3u (n : Int) : (nameS n).length ≤ 20 := by
 unfold nameS
 split
 ·exact (Rule.fine _ (numR_lt n)).2.2
 ·decide
def signS : Nat → List UInt8
 | 1 => [60, 61]
 | 2 => [62, 61]
 | 3 => [61]
 | _ => [63]
structure RelsT (w : World) : Prop where
 c0 : w.cell? ⟨1, 0, none⟩ = some (.string ⟨#[63]⟩) ∧ w.cell? ⟨1, 1, none⟩ = some (.func (.func 236) #[] #[])
 c1 : w.cell? ⟨1, 2, none⟩ = some (.string ⟨#[60, 61]⟩) ∧ w.cell? ⟨1, 3, none⟩ = some (.func (.func 237) #[] #[])
 c2 : w.cell? ⟨1, 4, none⟩ = some (.string ⟨#[62, 61]⟩) ∧ w.cell? ⟨1, 5, none⟩ = some (.func (.func 238) #[] #[])
 c3 : w.cell? ⟨1, 6, none⟩ = some (.string ⟨#[61]⟩) ∧ w.cell? ⟨1, 7, none⟩ = some (.func (.func 239) #[] #[])
 lt : 1 < w.heap.size
theorem RelsT.call {w w' : World} (h : RelsT w) (hb : Below w.heap.size w w') : RelsT w' :=
 ⟨⟨(hb.cell (p := ⟨1, 0, none⟩) h.lt).trans h.c0.1, (hb.cell (p := ⟨1, 1, none⟩) h.lt).trans h.c0.2⟩,
  ⟨(hb.cell (p := ⟨1, 2, none⟩) h.lt).trans h.c1.1, (hb.cell (p := ⟨1, 3, none⟩) h.lt).trans h.c1.2⟩,
  ⟨(hb.cell (p := ⟨1, 4, none⟩) h.lt).trans h.c2.1, (hb.cell (p := ⟨1, 5, none⟩) h.lt).trans h.c2.2⟩,
  ⟨(hb.cell (p := ⟨1, 6, none⟩) h.lt).trans h.c3.1, (hb.cell (p := ⟨1, 7, none⟩) h.lt).trans h.c3.2⟩, Nat.lt_of_lt_of_le h.lt hb.size⟩
structure Law16 (w : World) : Prop where
 rules : RulesT w
 rels : RelsT w
theorem Law16.call {w w' : World} (h : Law16 w) (hb : Below w.heap.size w w') : Law16 w' := ⟨h.rules.call hb, h.rels.call hb⟩
structure Law16T (w : World) : Prop where
 law : Law16 w
 tab : TabW w
theorem Law16T.call {w w' : World} (h : Law16T w) (hb : Below w.heap.size w w') : Law16T w' := ⟨h.law.call hb, h.tab.call hb⟩
theorem rule_f0 (s : ByteArray) (a b : Int) (w : World) : (Instr.field 214 (.agg #[.string s, a, b]) 0).run Tryz.prog w = .ok (.string s) w := by kernel_rfl
theorem rule_f1 (s : ByteArray) (a b : Int) (w : World) : (Instr.field 214 (.agg #[.string s, a, b]) 1).run Tryz.prog w = .ok (.int .i64 a) w := by kernel_rfl
theorem rule_f2 (s : ByteArray) (a b : Int) (w : World) : (Instr.field 214 (.agg #[.string s, a, b]) 2).run Tryz.prog w = .ok (.int .i64 b) w := by kernel_rfl
theorem zt74 {p : Prop} (h : p := by
 go_in;go_wp2_with fail;refine q.out.mono ?_;rintro e w' ⟨rfl, hb⟩;have HB := zH hb;clear hb;go_wp2_with fail;go_ret;exact ⟨rfl, HB.out⟩) : p := h
theorem zz4s (n : Int) (hn : I64 n) (w : World) (hT : Hid (RulesT w)) : Calls Tryz.prog 117 #[.int .i64 n] w fun e w' => e = .returned (.int .i64 (relS n)) ∧ Below w.heap.size w w' := by
 have q := zH (of_any n hn w hT);have hr : Hid ((Rule.rel (numR n) : Nat) = relS n) := rfl;have hc : Hid ((Rule.code (numR n) : Nat) = codeS n) := rfl;have hf := rule_f1 ⟨(Rule.name (numR n)).toArray⟩ (Rule.rel (numR n)) (Rule.code (numR n));exact zt74
theorem Code_any (n : Int) (hn : I64 n) (w : World) (hT : Hid (RulesT w)) : Calls Tryz.prog 93 #[.int .i64 n] w fun e w' => e = .returned (.int .i64 (codeS n)) ∧ Below w.heap.size w w' := by
 have q := zH (of_any n hn w hT);have hr : Hid ((Rule.rel (numR n) : Nat) = relS n) := rfl;have hc : Hid ((Rule.code (numR n) : Nat) = codeS n) := rfl;have hf := rule_f2 ⟨(Rule.name (numR n)).toArray⟩ (Rule.rel (numR n)) (Rule.code (numR n));exact zt74
theorem zzc0 (n : Int) (hn : I64 n) (w : World) (hT : Hid (RulesT w)) : Calls Tryz.prog 115 #[.int .i64 n] w fun e w' => e = .returned (.string ⟨(nameS n).toArray⟩) ∧ Below w.heap.size w w' := by
 have q := zH (fun w => zz5k n hn w)
 have q2 := zH (of_any n hn w hT);by_cases h : 0 < n ∧ n < 24
 ·rw [decide_eq_true h] at q
  have hN : Hid (nameS n = Rule.name (numR n)) := if_pos h;have hf := rule_f0 ⟨(Rule.name (numR n)).toArray⟩ (Rule.rel (numR n)) (Rule.code (numR n));clear h;go_in;go_wp2_with fail;refine (q.out _).mono ?_;rintro e w' ⟨rfl, rfl⟩;go_wp2_with fail;refine q2.out.mono ?_;rintro e w' ⟨rfl, hb⟩;have HB := zH hb;clear hb;go_wp2_with fail;go_ret;exact ⟨by rw [hN.out]; rfl, HB.out⟩
 ·rw [decide_eq_false h] at q
  have hN : Hid (nameS n = [63]) := if_neg h;clear h;go_in;go_wp2_with fail;refine (q.out _).mono ?_;rintro e w' ⟨rfl, rfl⟩;go_wp2_with fail;go_ret;exact ⟨by rw [hN.out]; rfl, Below.refl _ _⟩
theorem rel1_any (a b : Int) (w : World) : Calls Tryz.prog 236 #[.int .i64 a, .int .i64 b] w fun e w' => e = .returned (.bool (false)) ∧ w' = w := by
 obtain ⟨z, hz⟩ : ∃ z, (false) = z := ⟨_, rfl⟩;go_in;go_wp2_with fail;go_ret;exact ⟨by rw [hz]; rfl, rfl⟩
theorem rel2_any (a b : Int) (w : World) : Calls Tryz.prog 237 #[.int .i64 a, .int .i64 b] w fun e w' => e = .returned (.bool (decide (a ≤ b))) ∧ w' = w := by
 obtain ⟨z, hz⟩ : ∃ z, (decide (a ≤ b)) = z := ⟨_, rfl⟩;go_in;go_wp2_with fail;go_ret;exact ⟨by rw [hz]; rfl, rfl⟩
theorem rel3_any (a b : Int) (w : World) : Calls Tryz.prog 238 #[.int .i64 a, .int .i64 b] w fun e w' => e = .returned (.bool (decide (b ≤ a))) ∧ w' = w := by
 obtain ⟨z, hz⟩ : ∃ z, (decide (b ≤ a)) = z := ⟨_, rfl⟩;go_in;go_wp2_with fail;go_ret;exact ⟨by rw [hz]; rfl, rfl⟩
theorem rel4_any (a b : Int) (w : World) : Calls Tryz.prog 239 #[.int .i64 a, .int .i64 b] w fun e w' => e = .returned (.bool (a == b)) ∧ w' = w := by
 obtain ⟨z, hz⟩ : ∃ z, (a == b) = z := ⟨_, rfl⟩;go_in;go_wp2_with fail;go_ret;exact ⟨by rw [hz]; rfl, rfl⟩
def Stp.bare (s : Stp) : Bool := s.over && (s.left != 0 || s.right != 0)
def Stp.known (s : Stp) : Bool := decide (0 < s.rule ∧ s.rule < 24)
def okB (l : List Stp) (k : Nat) (s : Stp) : Bool := s.known && !s.bare && !((l.take k).any fun t => t.rule == s.rule) && (!decide (k + 1 < l.length) || s.holds)
def mayB (l : List Stp) : Nat → Bool
 | 0 => true
 | k + 1 => mayB l k && (match l[k]? with | some s => okB l k s | none => true)
def mayS (l : List Stp) : Bool := mayB l l.length
theorem mayB_step {l : List Stp} {k : Nat} {s : Stp} (h : l[k]? = some s) (hk : mayB l k = true) (ho : okB l k s = true) : mayB l (k + 1) = true := by
 unfold mayB; rw [hk, h]; simpa using ho
theorem zz71 {l : List Stp} {k : Nat} {s : Stp} (h : l[k]? = some s) (ho : okB l k s = false) : ∀ n, k < n → mayB l n = false
 | 0, hn => absurd hn zw
 | n + 1, hn => by
  unfold mayB;by_cases he : k = n
  ·subst he; rw [h]; simp [ho]
  ·rw [zz71 h ho n zw]; rfl
theorem zzb5 {l : List Stp} {k : Nat} {s : Stp} (h : l[k]? = some s) (ho : okB l k s = false) : mayS l = false :=
 zz71 h ho _ (List.getElem?_eq_some_iff.1 h).1
theorem zzb6 {l : List Stp} : ∀ {n : Nat}, mayB l n = true → ∀ k s, k < n → l[k]? = some s → okB l k s = true
 | 0, _, k, s, hk, _ => absurd hk zw
 | n + 1, h, k, s, hk, hs => by
  unfold mayB at h;rw [Bool.and_eq_true] at h;by_cases he : k = n
  ·subst he; rw [hs] at h; exact h.2
  ·exact zzb6 h.1 k s zw hs
theorem zzb4 {l : List Stp} (h : mayS l = true) : ∀ s, s ∈ l → s.known = true := by
 intro s hs;obtain ⟨k, hk, rfl⟩ := List.getElem_of_mem hs;have := zzb6 h k _ hk (List.getElem?_eq_getElem hk);unfold okB at this;simp only [Bool.and_eq_true] at this;exact this.1.1.1
def goW : List Stp → Int → Int × Int
 | [], need => (0, need)
 | s :: r, need => if s.over then (12, 0) else if s.holds then (if s.rule = 20 then goW r s.left else goW r need) else (((codeS s.rule : Nat) : Int), 0)
theorem codeS_pos {s : Stp} (h : s.known = true) : 0 < codeS s.rule := by
 have h := of_decide_eq_true h;have key : ∀ n, n < 24 → 0 < n → 0 < Rule.code n := by decide
 unfold codeS numR;rw [if_pos h];exact key _ zw zw
theorem goW_all : ∀ (l : List Stp) (need : Int), (∀ s, s ∈ l → s.known = true) → ((goW l need).1 == 0) = l.all (·.holds)
 | [], _, _ => rfl
 | s :: r, need, h => by
  have ih := fun need => goW_all r need (fun s hs => h s (List.mem_cons_of_mem _ hs))
  have hp := codeS_pos (h s (List.mem_cons_self ..));unfold goW;rw [List.all_cons];by_cases ho : s.over = true
  ·rw [if_pos ho]
   have : s.holds = false := by unfold Stp.holds; rw [ho]; rfl
   rw [this]; rfl
  ·rw [if_neg ho]
   by_cases hh : s.holds = true
   ·rw [if_pos hh, hh]
    split
    ·rw [ih]; rfl
    ·rw [ih]; rfl
   ·rw [if_neg hh]
    have : s.holds = false := by simpa using hh
    rw [this];simp; omega
theorem zzbf {l : List Stp} {k : Nat} {s : Stp} (h : l[k]? = some s) (need : Int) : goW (l.drop k) need = if s.over then (12, 0) else if s.holds then (if s.rule = 20 then goW (l.drop (k + 1)) s.left else goW (l.drop (k + 1)) need) else (((codeS s.rule : Nat) : Int), 0) := by
 obtain ⟨hk, rfl⟩ := List.getElem?_eq_some_iff.1 h;rw [List.drop_eq_getElem_cons hk]
 rfl
def cmpI (a b : Int) : Int := if a < b then -1 else if b < a then 1 else 0
theorem zz8r (x : Int) (w : World) : Calls Tryz.prog 198 #[.int .i64 x] w fun e w' => e = .returned (.bool false) ∧ w = w' := by
 have t : (x != x) = false := by simp
 go_in;go_wp2_with fail;go_ret;exact ⟨rfl, rfl⟩
theorem zt59 {p : Prop} (h : p := by
 go_in;go_wp2_with fail;(with_reducible refine q1.out.mono ?_);rintro e w1 ⟨rfl, rfl⟩;go_wp2_with fail;(with_reducible refine q2.out.mono ?_);rintro e w1 ⟨rfl, rfl⟩;go_wp2_with fail;go_ret;exact ⟨rfl, rfl⟩) : p := h
theorem zz1w (a b : Int) (w : World) : Calls Tryz.prog 167 #[.int .i64 a, .int .i64 b] w fun e w' => e = .returned (.int .i64 (cmpI a b)) ∧ w = w' := by
 have q1 := zH (zz8r a w);have q2 := zH (zz8r b w);by_cases h1 : a < b
 ·rw [show cmpI a b = -1 from if_pos h1]
  have t1 : decide (a < b) = true := decide_eq_true h1;exact zt59
 ·have t1 : decide (a < b) = false := decide_eq_false h1
  by_cases h2 : b < a
  ·rw [show cmpI a b = 1 from (if_neg h1).trans (if_pos h2)]
   have t2 : decide (b < a) = true := decide_eq_true h2;exact zt59
  ·rw [show cmpI a b = 0 from (if_neg h1).trans (if_neg h2)]
   have t2 : decide (b < a) = false := decide_eq_false h2;exact zt59
-- PRINTED FROM HERE ON BY genBookA.py
def RecAt (w : World) (v : Value) (k : Nat) (l : List (List Int)) : Prop :=
 ∃ A c, v = .slice A l.length c ∧ ∀ (i : Nat) (r : List Int), l[i]? = some r → r.length = k ∧ ∃ b o, A = some ⟨b, o, none⟩ ∧ b < w.heap.size ∧ ∀ (j : Nat) (x : Int), r[j]? = some x → w.cell? ⟨b, o + i * k + j, none⟩ = some (.int .i64 x)
theorem RecAt.call {w w' : World} {v : Value} {k : Nat} {l : List (List Int)} (h : RecAt w v k l) (hb : Below w.heap.size w w') : RecAt w' v k l := by
 obtain ⟨A, c, rfl, hi⟩ := h;refine ⟨A, c, rfl, fun i r hr => ?_⟩
 obtain ⟨h1, b, o, rfl, hl, hc⟩ := hi i r hr;exact ⟨h1, b, o, rfl, Nat.lt_of_lt_of_le hl hb.size, fun j x hx => (hb.cell (p := ⟨b, o + i * k + j, none⟩) hl).trans (hc j x hx)⟩
theorem cmpI_lt (a b : Int) : decide (cmpI a b < 0) = decide (a < b) := by
 unfold cmpI
 split
 ·rename_i h; simp [h]
 ·rename_i h; split <;> simp [h]
theorem cmpI_eq (a b : Int) : (cmpI a b == 0) = decide (a = b) := by
 unfold cmpI
 split
 ·rename_i h; rw [decide_eq_false zw]; rfl
 ·split
  ·rw [decide_eq_false zw]; rfl
  ·rw [decide_eq_true zw]; rfl
theorem zt76 {p : Prop} (h : p := by
 go_in;go_wp2_with fail;(with_reducible refine (q.out _).mono ?_);rintro e w1 ⟨rfl, rfl⟩;go_wp2_with fail;go_ret;exact ⟨rfl, zBa⟩) : p := h
theorem zz4q (a b c d id : Int) (w : World) : Calls Tryz.prog 125 #[.agg #[a, b, c, d], .int .i64 id] w fun e w' => e = .returned (.int .i64 (cmpI a id)) ∧ Below w.heap.size w w' := by
 have q := zH (fun w => zz1w a id w)
 have c0 := zz00 (zz02 w (.cells #[a, b, c, d] 78)) 0 _ rfl;exact zt76
theorem zt16 {p : Prop} (h : p := by
 rintro e w2 ⟨rfl, hb⟩;have HB2 := zB hB hb;clear hb;have tt := cmpI_lt x0 id;generalize cmpI x0 id = CC at *;by_cases hx : x0 < id
 ·have t1 : decide (CC < 0) = true := tt.trans (decide_eq_true hx)
  have hhp := hs.out.1 hx;clear tt hx;go_wp2_with fail;go_roundw
  case rel => exact ⟨h + 1, j, by go_num, rfl, by show _ ≤ _; omega, hpj, hjl, HB2.out⟩
  case measure => simp [intOf]; omega
 ·have t1 : decide (CC < 0) = false := tt.trans (decide_eq_false hx)
  have hhp : ¬ h < p := fun h2 => hx (hs.out.2 h2)
  clear tt hx;go_wp2_with fail;go_roundw
  case rel => exact ⟨i, h, rfl, rfl, hip, by show _ ≤ _; omega, by show _ ≤ _; omega, HB2.out⟩
  case measure => simp [intOf]; omega) : p := h
theorem zt54 {p : Prop} (h : p := by
 have t1 : decide ((j : Int) < (l.length : Int)) = false := decide_eq_false zw;have hF : Hid (F = false) := by
  show F = false;rw [hF.out, List.getElem?_eq_none zw]
 obtain rfl : F = false := hF.out;go_wp2_with fail;go_ret2;exact ⟨rfl, hB.out⟩) : p := h
theorem zt62 {p : Prop} (h : p := by
 rintro e w2 ⟨rfl, hb⟩;have HB2 := zB hB hb;clear hb;have tt := cmpI_eq x0 id;rw [← hF.out] at tt;generalize cmpI x0 id = CC at *;go_wp2_with fail;go_ret2;exact ⟨rfl, HB2.out⟩) : p := h
theorem zz18 (v : Value) (l : List (List Int)) (id : Int) (p : Nat) (F : Bool) (w : World) (hv : Hid (RecAt w v 4 l)) (hl : l.length ≤ 1000000) (hp : p ≤ l.length) (hlt : Hid (∀ (h : Nat) (r : List Int), l[h]? = some r → (r.headD 0 < id ↔ h < p))) (hF : Hid (F = match l[p]? with | some r => decide (r.headD 0 = id) | none => false)) :
  Calls Tryz.prog 169 #[v, .int .i64 id, .func (.func 125) #[] #[]] w fun e w' => e = .returned (.tuple #[.int .i64 p, .bool F]) ∧ Below w.heap.size w w' := by
 obtain ⟨A, c, rfl, hi⟩ := hv.out;have HI := zH hi;clear hi;have q := zH (fun x0 x1 x2 x3 w => zz4q x0 x1 x2 x3 id w)
 go_in;go_wp2_with fail;go_loopw [9, 10] (fun s9 s10 wr => ∃ i j : Nat, s9 = .int .i64 i ∧ s10 = .int .i64 j ∧ Hid (i ≤ p) ∧ Hid (p ≤ j) ∧ Hid (j ≤ l.length) ∧ Hid (Below w.heap.size w wr)) (fun s9 s10 _ => (intOf s10).toNat - (intOf s9).toNat)
 case atStart => exact ⟨0, l.length, rfl, rfl, Nat.zero_le _, hp, Nat.le_refl _, Below.refl _ _⟩
 case round =>
  obtain ⟨i, j, rfl, rfl, hip, hpj, hjl, hB⟩ := hrel;have hip := hip.out;have hpj := hpj.out;have hjl := hjl.out;by_cases hij : i < j
  ·have t0 : decide ((i : Int) < (j : Int)) = true := decide_eq_true zw
   obtain ⟨h, hh⟩ : ∃ h, (i + j) / 2 = h := ⟨_, rfl⟩;have hh1 : i ≤ h ∧ h < j := by omega
   have hge : l[h]? = some l[h] := List.getElem?_eq_getElem zw;obtain ⟨hk, b0, o0, rfl, hbl, hc⟩ := HI.out h _ hge;have hs := zH (hlt.out h _ hge);clear hge;generalize l[h] = r at *;obtain ⟨x0, x1, x2, x3, rfl⟩ : ∃ x0 x1 x2 x3, r = [x0, x1, x2, x3] := by
    match r, hk with
    | [x0, x1, x2, x3], _ => exact ⟨x0, x1, x2, x3, rfl⟩
   have hs : Hid (x0 < id ↔ h < p) := hs;have c0 := (hB.out.cell (p := ⟨b0, o0 + h * 4, none⟩) hbl).trans (hc 0 _ rfl);have c1 := (hB.out.cell (p := ⟨b0, o0 + h * 4 + 1, none⟩) hbl).trans (hc 1 _ rfl);have c2 := (hB.out.cell (p := ⟨b0, o0 + h * 4 + 2, none⟩) hbl).trans (hc 2 _ rfl);have c3 := (hB.out.cell (p := ⟨b0, o0 + h * 4 + 3, none⟩) hbl).trans (hc 3 _ rfl);have eh : ((i : Int) + (j : Int)) / 2 = (h : Int) := by omega
   clear hc hk;go_wp2_with fail;(with_reducible refine (q.out _ _ _ _ _).mono ?_);exact zt16
  ·obtain rfl : i = p := by omega
   obtain rfl : j = i := by omega
   have t0 : decide ((j : Int) < (j : Int)) = false := decide_eq_false zw;by_cases hjn : j < l.length
   ·have t1 : decide ((j : Int) < (l.length : Int)) = true := decide_eq_true zw
    have hge : l[j]? = some l[j] := List.getElem?_eq_getElem hjn;obtain ⟨hk, b0, o0, rfl, hbl, hc⟩ := HI.out j _ hge;rw [hge] at hF;clear hge;generalize l[j] = r at *;obtain ⟨x0, x1, x2, x3, rfl⟩ : ∃ x0 x1 x2 x3, r = [x0, x1, x2, x3] := by
     match r, hk with
     | [x0, x1, x2, x3], _ => exact ⟨x0, x1, x2, x3, rfl⟩
    have hF : Hid (F = decide (x0 = id)) := hF;have c0 := (hB.out.cell (p := ⟨b0, o0 + j * 4, none⟩) hbl).trans (hc 0 _ rfl);have c1 := (hB.out.cell (p := ⟨b0, o0 + j * 4 + 1, none⟩) hbl).trans (hc 1 _ rfl);have c2 := (hB.out.cell (p := ⟨b0, o0 + j * 4 + 2, none⟩) hbl).trans (hc 2 _ rfl);have c3 := (hB.out.cell (p := ⟨b0, o0 + j * 4 + 3, none⟩) hbl).trans (hc 3 _ rfl);clear hc hk;go_wp2_with fail;(with_reducible refine (q.out _ _ _ _ _).mono ?_);exact zt62
   ·exact zt54
theorem zz78 (a b c d u v id : Int) (w : World) : Calls Tryz.prog 128 #[.agg #[a, b, c, d, u, v], .int .i64 id] w fun e w' => e = .returned (.int .i64 (cmpI a id)) ∧ Below w.heap.size w w' := by
 have q := zH (fun w => zz1w a id w)
 have c0 := zz00 (zz02 w (.cells #[a, b, c, d, u, v] 82)) 0 _ rfl;exact zt76
theorem zz13 (v : Value) (l : List (List Int)) (id : Int) (p : Nat) (F : Bool) (w : World) (hv : Hid (RecAt w v 6 l)) (hl : l.length ≤ 1000000) (hp : p ≤ l.length) (hlt : Hid (∀ (h : Nat) (r : List Int), l[h]? = some r → (r.headD 0 < id ↔ h < p))) (hF : Hid (F = match l[p]? with | some r => decide (r.headD 0 = id) | none => false)) :
  Calls Tryz.prog 175 #[v, .int .i64 id, .func (.func 128) #[] #[]] w fun e w' => e = .returned (.tuple #[.int .i64 p, .bool F]) ∧ Below w.heap.size w w' := by
 obtain ⟨A, c, rfl, hi⟩ := hv.out;have HI := zH hi;clear hi;have q := zH (fun x0 x1 x2 x3 x4 x5 w => zz78 x0 x1 x2 x3 x4 x5 id w)
 go_in;go_wp2_with fail;go_loopw [9, 10] (fun s9 s10 wr => ∃ i j : Nat, s9 = .int .i64 i ∧ s10 = .int .i64 j ∧ Hid (i ≤ p) ∧ Hid (p ≤ j) ∧ Hid (j ≤ l.length) ∧ Hid (Below w.heap.size w wr)) (fun s9 s10 _ => (intOf s10).toNat - (intOf s9).toNat)
 case atStart => exact ⟨0, l.length, rfl, rfl, Nat.zero_le _, hp, Nat.le_refl _, Below.refl _ _⟩
 case round =>
  obtain ⟨i, j, rfl, rfl, hip, hpj, hjl, hB⟩ := hrel;have hip := hip.out;have hpj := hpj.out;have hjl := hjl.out;by_cases hij : i < j
  ·have t0 : decide ((i : Int) < (j : Int)) = true := decide_eq_true zw
   obtain ⟨h, hh⟩ : ∃ h, (i + j) / 2 = h := ⟨_, rfl⟩;have hh1 : i ≤ h ∧ h < j := by omega
   have hge : l[h]? = some l[h] := List.getElem?_eq_getElem zw;obtain ⟨hk, b0, o0, rfl, hbl, hc⟩ := HI.out h _ hge;have hs := zH (hlt.out h _ hge);clear hge;generalize l[h] = r at *;obtain ⟨x0, x1, x2, x3, x4, x5, rfl⟩ : ∃ x0 x1 x2 x3 x4 x5, r = [x0, x1, x2, x3, x4, x5] := by
    match r, hk with
    | [x0, x1, x2, x3, x4, x5], _ => exact ⟨x0, x1, x2, x3, x4, x5, rfl⟩
   have hs : Hid (x0 < id ↔ h < p) := hs;have c0 := (hB.out.cell (p := ⟨b0, o0 + h * 6, none⟩) hbl).trans (hc 0 _ rfl);have c1 := (hB.out.cell (p := ⟨b0, o0 + h * 6 + 1, none⟩) hbl).trans (hc 1 _ rfl);have c2 := (hB.out.cell (p := ⟨b0, o0 + h * 6 + 2, none⟩) hbl).trans (hc 2 _ rfl);have c3 := (hB.out.cell (p := ⟨b0, o0 + h * 6 + 3, none⟩) hbl).trans (hc 3 _ rfl);have c4 := (hB.out.cell (p := ⟨b0, o0 + h * 6 + 4, none⟩) hbl).trans (hc 4 _ rfl);have c5 := (hB.out.cell (p := ⟨b0, o0 + h * 6 + 5, none⟩) hbl).trans (hc 5 _ rfl);have eh : ((i : Int) + (j : Int)) / 2 = (h : Int) := by omega
   clear hc hk;go_wp2_with fail;(with_reducible refine (q.out _ _ _ _ _ _ _).mono ?_);exact zt16
  ·obtain rfl : i = p := by omega
   obtain rfl : j = i := by omega
   have t0 : decide ((j : Int) < (j : Int)) = false := decide_eq_false zw;by_cases hjn : j < l.length
   ·have t1 : decide ((j : Int) < (l.length : Int)) = true := decide_eq_true zw
    have hge : l[j]? = some l[j] := List.getElem?_eq_getElem hjn;obtain ⟨hk, b0, o0, rfl, hbl, hc⟩ := HI.out j _ hge;rw [hge] at hF;clear hge;generalize l[j] = r at *;obtain ⟨x0, x1, x2, x3, x4, x5, rfl⟩ : ∃ x0 x1 x2 x3 x4 x5, r = [x0, x1, x2, x3, x4, x5] := by
     match r, hk with
     | [x0, x1, x2, x3, x4, x5], _ => exact ⟨x0, x1, x2, x3, x4, x5, rfl⟩
    have hF : Hid (F = decide (x0 = id)) := hF;have c0 := (hB.out.cell (p := ⟨b0, o0 + j * 6, none⟩) hbl).trans (hc 0 _ rfl);have c1 := (hB.out.cell (p := ⟨b0, o0 + j * 6 + 1, none⟩) hbl).trans (hc 1 _ rfl);have c2 := (hB.out.cell (p := ⟨b0, o0 + j * 6 + 2, none⟩) hbl).trans (hc 2 _ rfl);have c3 := (hB.out.cell (p := ⟨b0, o0 + j * 6 + 3, none⟩) hbl).trans (hc 3 _ rfl);have c4 := (hB.out.cell (p := ⟨b0, o0 + j * 6 + 4, none⟩) hbl).trans (hc 4 _ rfl);have c5 := (hB.out.cell (p := ⟨b0, o0 + j * 6 + 5, none⟩) hbl).trans (hc 5 _ rfl);clear hc hk;go_wp2_with fail;(with_reducible refine (q.out _ _ _ _ _ _ _).mono ?_);exact zt62
   ·exact zt54
theorem zz77 (a b id : Int) (w : World) : Calls Tryz.prog 131 #[.agg #[a, b], .int .i64 id] w fun e w' => e = .returned (.int .i64 (cmpI a id)) ∧ Below w.heap.size w w' := by
 have q := zH (fun w => zz1w a id w)
 have c0 := zz00 (zz02 w (.cells #[a, b] 84)) 0 _ rfl;exact zt76
theorem zz1h (v : Value) (l : List (List Int)) (id : Int) (p : Nat) (F : Bool) (w : World) (hv : Hid (RecAt w v 2 l)) (hl : l.length ≤ 1000000) (hp : p ≤ l.length) (hlt : Hid (∀ (h : Nat) (r : List Int), l[h]? = some r → (r.headD 0 < id ↔ h < p))) (hF : Hid (F = match l[p]? with | some r => decide (r.headD 0 = id) | none => false)) :
  Calls Tryz.prog 170 #[v, .int .i64 id, .func (.func 131) #[] #[]] w fun e w' => e = .returned (.tuple #[.int .i64 p, .bool F]) ∧ Below w.heap.size w w' := by
 obtain ⟨A, c, rfl, hi⟩ := hv.out;have HI := zH hi;clear hi;have q := zH (fun x0 x1 w => zz77 x0 x1 id w)
 go_in;go_wp2_with fail;go_loopw [9, 10] (fun s9 s10 wr => ∃ i j : Nat, s9 = .int .i64 i ∧ s10 = .int .i64 j ∧ Hid (i ≤ p) ∧ Hid (p ≤ j) ∧ Hid (j ≤ l.length) ∧ Hid (Below w.heap.size w wr)) (fun s9 s10 _ => (intOf s10).toNat - (intOf s9).toNat)
 case atStart => exact ⟨0, l.length, rfl, rfl, Nat.zero_le _, hp, Nat.le_refl _, Below.refl _ _⟩
 case round =>
  obtain ⟨i, j, rfl, rfl, hip, hpj, hjl, hB⟩ := hrel;have hip := hip.out;have hpj := hpj.out;have hjl := hjl.out;by_cases hij : i < j
  ·have t0 : decide ((i : Int) < (j : Int)) = true := decide_eq_true zw
   obtain ⟨h, hh⟩ : ∃ h, (i + j) / 2 = h := ⟨_, rfl⟩;have hh1 : i ≤ h ∧ h < j := by omega
   have hge : l[h]? = some l[h] := List.getElem?_eq_getElem zw;obtain ⟨hk, b0, o0, rfl, hbl, hc⟩ := HI.out h _ hge;have hs := zH (hlt.out h _ hge);clear hge;generalize l[h] = r at *;obtain ⟨x0, x1, rfl⟩ : ∃ x0 x1, r = [x0, x1] := by
    match r, hk with
    | [x0, x1], _ => exact ⟨x0, x1, rfl⟩
   have hs : Hid (x0 < id ↔ h < p) := hs;have c0 := (hB.out.cell (p := ⟨b0, o0 + h * 2, none⟩) hbl).trans (hc 0 _ rfl);have c1 := (hB.out.cell (p := ⟨b0, o0 + h * 2 + 1, none⟩) hbl).trans (hc 1 _ rfl);have eh : ((i : Int) + (j : Int)) / 2 = (h : Int) := by omega
   clear hc hk;go_wp2_with fail;(with_reducible refine (q.out _ _ _).mono ?_);exact zt16
  ·obtain rfl : i = p := by omega
   obtain rfl : j = i := by omega
   have t0 : decide ((j : Int) < (j : Int)) = false := decide_eq_false zw;by_cases hjn : j < l.length
   ·have t1 : decide ((j : Int) < (l.length : Int)) = true := decide_eq_true zw
    have hge : l[j]? = some l[j] := List.getElem?_eq_getElem hjn;obtain ⟨hk, b0, o0, rfl, hbl, hc⟩ := HI.out j _ hge;rw [hge] at hF;clear hge;generalize l[j] = r at *;obtain ⟨x0, x1, rfl⟩ : ∃ x0 x1, r = [x0, x1] := by
     match r, hk with
     | [x0, x1], _ => exact ⟨x0, x1, rfl⟩
    have hF : Hid (F = decide (x0 = id)) := hF;have c0 := (hB.out.cell (p := ⟨b0, o0 + j * 2, none⟩) hbl).trans (hc 0 _ rfl);have c1 := (hB.out.cell (p := ⟨b0, o0 + j * 2 + 1, none⟩) hbl).trans (hc 1 _ rfl);clear hc hk;go_wp2_with fail;(with_reducible refine (q.out _ _ _).mono ?_);exact zt62
   ·exact zt54
section
variable {P : Program} {ops : Array Oper} {md : Region.Mode} {C : World → Prop}
def wpAnyQL (P : Program) (md : Region.Mode) (ops : Array Oper) (C : World → Prop) (n : Nat) (L : Array Bool → Act → Prop) : Nat → Array Bool → Act → Prop
 | 0, listed, a => L listed a
 | f + 1, listed, a =>
  Region.ready md ops listed ≠ [] ∧ ∀ i ∈ Region.ready md ops listed, i < n ∧ qOp P ops C i (wpAnyQL P md ops C n L f (listed.setIfInBounds i true)) a
theorem zz2s {n g : Nat} {L : Array Bool → Act → Prop} {Q' : Exit → Act → World → Prop} (hL : ∀ listed a w, C w → L listed a → wpAny P md ops Q' g listed a w) :
  ∀ (f : Nat) (listed : Array Bool) (a : Act) (w : World), C w → wpAnyQL P md ops C n L f listed a → wpAny P md ops Q' (f + g) listed a w
 | 0, listed, a, w, hw, h => by rw [Nat.zero_add]; exact hL _ _ _ hw h
 | f + 1, listed, a, w, hw, h => by
  rw [show f + 1 + g = (f + g) + 1 by omega]
  exact ⟨fun h0 => absurd h0 h.1, fun i hi => wpOp_of_qOp hw (fun a' w' hw' h' => zz2s hL f _ a' w' hw' h') (h.2 i hi).2⟩
def SinkAt (md : Region.Mode) (ops : Array Oper) (n : Nat) (listed : Array Bool) : Prop := ∀ i, i < n → listed.getD i true = false → ∃ j, j < n + 1 ∧ i < j ∧ Region.waitsFor md ops j i = true
theorem SinkAt.set {n : Nat} {listed : Array Bool} (h : SinkAt md ops n listed) (k : Nat) : SinkAt md ops n (listed.setIfInBounds k true) := fun i hi hu => by
 by_cases e : k = i
 ·subst e
  rcases Nat.lt_or_ge k listed.size with h' | h'
  ·rw [Array.getD_eq_getD_getElem?, Array.getElem?_setIfInBounds, if_pos rfl, if_pos h'] at hu
   cases hu
  ·rw [Array.getD_eq_getD_getElem?, Array.getElem?_eq_none (by rw [Array.size_setIfInBounds]; exact h')] at hu
   cases hu
 ·rw [getD_set_ne true e] at hu
  exact h i hi hu
theorem zz3k {n : Nat} {listed : Array Bool} (hs : SinkAt md ops n listed) (hc : Region.chainB md ops n = true) (hn : n < ops.size) (inv : HeadInv md ops n listed) :
  ∀ (d i : Nat), n - i = d → i < n → listed.getD i true = false → ∀ t, n ≤ t → t ∉ Region.ready md ops listed := by
 intro d;induction d using Nat.strongRecOn with
 | _ d ih =>
  intro i hd hi hun t ht hr;obtain ⟨_, ot, hot, hall⟩ := mem_ready.1 hr;have htlt : t < ops.size := zL hot;by_cases htn : t = n
  ·subst htn
   obtain ⟨j, hj, hij, hw⟩ := hs i hi hun;obtain ⟨oj, hoj, e, he, hb, hon⟩ := Region.waitsFor_spec hw;have hjle : j ≤ t := by omega
   by_cases hjt : j = t
   ·subst hjt
    have : oj = ot := Option.some.inj (hoj.symm.trans hot);subst this;have h2 := hall e he hb;rw [hon, getD_both hun] at h2;cases h2
   ·cases hl : listed.getD j false with
    | true =>
     have h2 := inv.closed j oj hoj hl e he hb;rw [hon, getD_both hun] at h2;cases h2
    | false =>
     have hjs : j < listed.size := by rw [inv.size]; omega
     exact ih (t - j) zw j rfl zw (getD_in hjs hl) t (Nat.le_refl _) hr
  ·have h1 := List.all_eq_true.1 hc t (List.mem_range.2 htlt)
   simp only [Bool.or_eq_true, decide_eq_true_eq] at h1;rcases h1 with h1 | h1
   ·omega
   ·obtain ⟨o', ho', e, he, hb, hon⟩ := Region.waitsFor_spec h1
    have : o' = ot := Option.some.inj (ho'.symm.trans hot);subst this;have h2 := hall e he hb;rw [hon, getD_both (inv.tail (t - 1) zw zw)] at h2;cases h2
theorem zt80 {p : Prop} (h : p := by
 refine hfree k ok hk hki ?_ hno;by_cases hjk : j = k
 ·subst hjk; exact hjun
 ·rw [getD_set_ne true hjk] at hun; exact hun) : p := h
theorem zz6h {n i : Nat} {oi : Oper} {v : Value} {L : Array Bool → Act → Prop} (hi : ops[i]? = some oi) (hsel : ∀ (j : Nat) (o : Oper) cs b, ops[j]? = some o → o.op ≠ .select cs b)
  (hc : Region.chainB md ops n = true) (hn : n < ops.size) (hin : i < n)
  (hdone : ∀ listed a, L listed a → ∀ j ∈ Region.ready md ops listed, n ≤ j) :
  ∀ (f : Nat) (listed : Array Bool) (a : Act), HeadInv md ops n listed → SinkAt md ops n listed →
   (∀ j oj, ops[j]? = some oj → j ≠ i → listed.getD j true = false → (∀ e ∈ oj.after, Region.binds md e = true → e.on ≠ i) → oi.apart ops oj = true) →
   i ∈ Region.ready md ops listed → YieldsIn P ops C oi v a →
   wpAnyQL P md ops C n L f (listed.setIfInBounds i true) (a.put oi.dst v) → wpAnyQL P md ops C n L (f + 1) listed a := by
 intro f;induction f with
 | zero =>
  intro listed a inv hs _ hr hy H;have hun := (mem_ready.1 hr).1;refine ⟨fun h => (by rw [h] at hr; cases hr), fun j hj => ?_⟩
  have hjn : j < n := by
   rcases Nat.lt_or_ge j n with h | h
   ·exact h
   ·exact absurd hj (zz3k hs hc hn inv _ i rfl hin hun j h)
  refine ⟨hjn, ?_⟩;by_cases hji : j = i
  ·subst hji; exact hy.qOp hi H
  ·have := hdone _ _ H j (ready_mono hj hji)
   omega
 | succ f ih =>
  intro listed a inv hs hfree hr hy H;have hun := (mem_ready.1 hr).1;refine ⟨fun h => (by rw [h] at hr; cases hr), fun j hj => ?_⟩
  have hjn : j < n := by
   rcases Nat.lt_or_ge j n with h | h
   ·exact h
   ·exact absurd hj (zz3k hs hc hn inv _ i rfl hin hun j h)
  refine ⟨hjn, ?_⟩;by_cases hji : j = i
  ·subst hji; exact hy.qOp hi H
  ·have h1 := (H.2 j (ready_mono hj hji)).2
   obtain ⟨hjun, oj, hoj, hall⟩ := mem_ready.1 hj;have hnot : ∀ e ∈ oj.after, Region.binds md e = true → e.on ≠ i := fun e he hb heq => by
    have h1 := hall e he hb;rw [heq, getD_both hun] at h1;cases h1
   have h2 := qOp_put hoj (hfree j oj hoj hji hjun hnot) (fun cs b => hsel i oi cs b hi) (fun cs b => hsel j oj cs b hoj) hy h1
   have hfree' : ∀ k ok, ops[k]? = some ok → k ≠ i → (listed.setIfInBounds j true).getD k true = false →
     (∀ e ∈ ok.after, Region.binds md e = true → e.on ≠ i) → oi.apart ops ok = true := fun k ok hk hki hun hno => by
    exact zt80
   refine qOp_mono (fun a' h3 => ih (listed.setIfInBounds j true) a' (inv.set hj hjn) (hs.set j) hfree' (ready_mono hr (Ne.symm hji)) h3.1 ?_) h2
   rw [Array.setIfInBounds_comm _ _ hji];exact h3.2
theorem zz55 {n g : Nat} {Lq : Act → Prop} (hsel : Region.noSelect ops = true) (hc : Region.chainB md ops n = true) (hn : n < ops.size) :
  ∀ (l : List Oper) (k : Nat) (listed : Array Bool) (a : Act), (∀ j, j < l.length → l[j]? = ops[k + j]?) → k + l.length = n → HeadInv md ops n listed → SinkAt md ops n listed →
  Region.lexHead md ops g l.length k listed = true → wpQuiet P ops C Lq l a →
  wpAnyQL P md ops C n (fun listed' a' => Region.seqB md ops g n listed' = true ∧ Lq a') l.length listed a
 | [], k, listed, a, _, hk, _, _, hB, h => by
  have : k = n := by simpa using hk
  subst this;exact ⟨by simpa [Region.lexHead] using hB, h⟩
 | o :: l, k, listed, a, hl, hk, inv, hs, hB, h => by
  have h0 : ops[k]? = some o := by simpa using (hl 0 (by simp)).symm
  simp only [List.length_cons, Region.lexHead, Bool.and_eq_true] at hB;obtain ⟨⟨hr, hf⟩, hB'⟩ := hB;have hkn : k < n := by simp only [List.length_cons] at hk; omega
  have hr' : k ∈ Region.ready md ops listed := by simpa using hr
  have hst : qOp P ops C k (wpQuiet P ops C Lq l) a := by unfold qOp; simp only [h0]; exact h
  obtain ⟨v, hy, hK⟩ := yieldsIn_of_qOp h0 hst;exact zz6h h0 (Region.noSelect_spec hsel) hc hn hkn (fun listed' a' hL => seqB_ready hL.1) l.length listed a inv hs (Region.free_spec h0 hf) hr' hy
   (zz55 hsel hc hn l (k + 1) _ _ (fun j hj => by have := hl (j + 1) (by simp; omega); simpa [Nat.add_assoc, Nat.add_comm 1 j] using this) (by simp only [List.length_cons] at hk; omega) (inv.set hr' hkn) (hs.set k) hB' hK)
theorem sinkAt_of {n : Nat} (h : Region.sinkB md ops n = true) (listed : Array Bool) : SinkAt md ops n listed := fun i hi _ => by
 obtain ⟨j, hj, hj2⟩ := List.any_eq_true.1 (List.all_eq_true.1 h i (List.mem_range.2 hi));simp only [Bool.and_eq_true, decide_eq_true_eq] at hj2;exact ⟨j, List.mem_range.1 hj, hj2.1, hj2.2⟩
theorem zz2l {id : Nat} {Q : Exit → Act → World → Prop} {a : Act} {w : World} {l : List Oper} (n : Nat) (hm : P.follows .mixedOrders = true) (hB : Region.lexTailB .any l.toArray n = true) (hC : C { w with drawn := w.drawn + 1 })
  (h : wpQuiet P l.toArray C (fun a' => ∀ w', C w' → wpList P l.toArray Q (l.drop n) a' w') (l.take n) a) : (Code.region id l.toArray true).wp P Q a w := by
 simp only [Region.lexTailB, Bool.and_eq_true, decide_eq_true_eq] at hB;obtain ⟨⟨⟨⟨hsel, hn⟩, hs⟩, hc⟩, hlex⟩ := hB;have hn' : n < l.length := by simpa using hn
 have htl : (l.take n).length = n := by simp; omega
 have hdl : (l.drop n).length = l.toArray.size - n := by simp
 have inv0 : HeadInv .any l.toArray n (Array.replicate l.toArray.size false) :=
  ⟨by simp, fun j oj _ hl => (by rw [getD_replicate_false] at hl; cases hl), fun t _ ht => getD_in (by simpa using ht) (getD_replicate_false _ _)⟩
 have H := zz55 (C := C) (md := .any) (g := l.toArray.size - n) hsel hc hn (l.take n) 0 _ a (fun j hj => by
  have hj' : j < n := by rw [htl] at hj; exact hj
  simp [hj']) (by simpa using htl) inv0 (sinkAt_of hs _) (by rw [htl]; exact hlex) h
 refine wp_region_any hm ?_;have := zz2s (Q' := Q) (g := l.toArray.size - n) (fun listed a' w' hw' hL => by
  have := wpAny_of_seq (md := .any) (Q' := Q) (l.drop n) n listed a' w' (fun j => by simp [List.getElem?_drop]) (by rw [hdl]; exact hL.1) (hL.2 w' hw')
  rwa [hdl] at this) _ _ _ _ hC H
 rw [htl, show n + (l.toArray.size - n) = l.toArray.size by omega] at this
 exact this
def OnlyN (Q : Exit → Act → World → Prop) : Exit → Act → World → Prop
 | .normal, a, w => Q .normal a w
 | .outgrown, a, w => Q .outgrown a w
 | _, _, _ => False
theorem zz1e (Q : Exit → Act → World → Prop) (a : Act) (w : World) : OnlyN Q .normal a w = Q .normal a w := rfl
theorem OnlyN.to {Q : Exit → Act → World → Prop} : ∀ (x : Exit) (a : Act) (w : World), OnlyN Q x a w → Q x a w
 | .normal, _, _, h => h
 | .outgrown, _, _, h => h
 | .exit _, _, _, h => h.elim
 | .goto _, _, _, h => h.elim
 | .ret, _, _, h => h.elim
 | .panic _, _, _, h => h.elim
theorem zz4k {Q Q' : Exit → Act → World → Prop} (h : ∀ x a w, Q x a w → Q' x a w) (hh : LetsOut Q) : LetsOut Q' :=
 let ⟨a, w, h1⟩ := hh
 ⟨a, w, h _ _ _ h1⟩
theorem upon_exit {Q Q' : Exit → Act → World → Prop} (h : ∀ x a w, Q x a w → Q' x a w) {o : Oper} {a : Act} {K : Act → World → Prop} {r : Result Next} (hh : o.upon P a K Q r) : o.upon P a K Q' r := by
 cases r with
 | ok n w' =>
  cases n with
  | enter f args =>
   refine Calls.mono (R := fun e w'' => match e, w'' with
    | .returned v, w'' => K (a.put o.dst v) w''
    | .panicked chain, w'' => Q (.panic chain) a w''
    | .outgrown, _ => LetsOut Q) hh ?_
   intro e w'' he;cases e with
   | returned v => exact he
   | panicked c => exact h _ _ _ he
   | outgrown => exact zz4k h he
  | _ => exact hh
 | halt x w' =>
  cases x with
  | panic v => exact h _ _ _ hh
  | _ => exact hh
theorem wpOp_exit {Q Q' : Exit → Act → World → Prop} (h : ∀ x a w, Q x a w → Q' x a w) {i : Nat} {K : Act → World → Prop} {a : Act} {w : World} (hh : wpOp P ops Q i K a w) : wpOp P ops Q' i K a w := by
 unfold wpOp at *
 split
 ·simpa [*] using hh
 ·rename_i o ho
  simp only [ho] at hh
  split
  ·rename_i hw; simp only [hw, if_true] at hh
   exact hh.imp (fun h1 => upon_exit h h1) (fun h1 => ⟨h1.1, zz4k h h1.2⟩)
  ·rename_i hw; simp only [hw] at hh; exact hh
theorem zz40 {Q Q' : Exit → Act → World → Prop} (h : ∀ x a w, Q x a w → Q' x a w) : ∀ (f : Nat) (listed : Array Bool) (a : Act) (w : World), wpAny P md ops Q f listed a w → wpAny P md ops Q' f listed a w
 | 0, _, _, _, hh => ⟨hh.1, h _ _ _ hh.2⟩
 | f + 1, _, _, _, hh => ⟨fun h0 => h _ _ _ (hh.1 h0), fun i hi => wpOp_mono (fun a' w' h' => zz40 h f _ a' w' h') (wpOp_exit h (hh.2 i hi))⟩
theorem upon_put {Q : Exit → Act → World → Prop} {oi oj : Oper} {v : Value} {K : Act → World → Prop} {a : Act} {r : Result Next} (h2 : ∀ d, oi.dst = some d → oj.dst ≠ some d)
  (h : oj.upon P (a.put oi.dst v) K (OnlyN Q) r) : oj.upon P a (fun a' w' => K (a'.put oi.dst v) w') (OnlyN Q) r := by
 have hc : ∀ u, (a.put oi.dst v).put oj.dst u = (a.put oj.dst u).put oi.dst v := fun u => Act.put_comm a v u h2
 cases r with
 | ok n w' =>
  cases n with
  | value u => show K _ _; rw [← hc]; exact h
  | skip => show K _ _; rw [← hc]; exact h
  | defer d =>
   show K _ _;have h' : K (({ (a.put oi.dst v) with defers := d :: (a.put oi.dst v).defers } : Act).put oj.dst undef) w' := h
   have e : (({ (a.put oi.dst v) with defers := d :: (a.put oi.dst v).defers } : Act).put oj.dst undef) = (({ a with defers := d :: a.defers } : Act).put oj.dst undef).put oi.dst v := by
    have e0 : ({ (a.put oi.dst v) with defers := d :: (a.put oi.dst v).defers } : Act) = ({ a with defers := d :: a.defers } : Act).put oi.dst v := by
     cases hd : oi.dst <;> rfl
    rw [e0];exact Act.put_comm _ v undef h2
   rw [← e];exact h'
  | enter f args =>
   refine Calls.mono (R := fun e w'' => match e, w'' with
    | .returned u, w'' => K ((a.put oi.dst v).put oj.dst u) w''
    | .panicked chain, w'' => OnlyN Q (.panic chain) (a.put oi.dst v) w''
    | .outgrown, _ => LetsOut (OnlyN Q)) h ?_
   intro e w'' he;cases e with
   | returned u => show K _ _; rw [← hc]; exact he
   | panicked c => exact he.elim
   | outgrown => exact he
  | row row args =>
   have h' : Rows P row args w' fun u w'' => K ((a.put oi.dst v).put oj.dst u) w'' := h
   show Rows P row args w' fun u w'' => K ((a.put oj.dst u).put oi.dst v) w''
   have e : (fun u w'' => K ((a.put oj.dst u).put oi.dst v) w'') = fun u w'' => K ((a.put oi.dst v).put oj.dst u) w'' := by funext u w''; rw [hc]
   rw [e];exact h'
  | _ => exact h
 | halt x w' =>
  cases x with
  | panic u => exact h.elim
  | _ => exact h
theorem zza9 {j : Nat} {Q : Exit → Act → World → Prop} {oi oj : Oper} {v : Value} (hj : ops[j]? = some oj) (hap : oi.apart ops oj = true) (hsj : ∀ cs b, oj.op ≠ .select cs b) {K : Act → World → Prop} {a : Act} {w : World}
  (h : wpOp P ops (OnlyN Q) j K (a.put oi.dst v) w) : wpOp P ops (OnlyN Q) j (fun a' w' => K (a'.put oi.dst v) w') a w := by
 obtain ⟨h1, h2, h3⟩ := Oper.apart_spec hap;unfold wpOp at *;simp only [hj] at *;rw [wanted_put oj a oi.dst v h1] at h
 split
 ·rename_i hw
  simp only [hw, if_true] at h;refine h.imp (fun h => ?_) (fun h => ?_)
  ·unfold Oper.wp at *
   rw [execOp_put oj hsj a oi.dst v h1] at h;exact upon_put h2 h
  ·unfold Oper.asks at *
   rw [execOp_put oj hsj a oi.dst v h1] at h;exact h
 ·rename_i hw
  simp only [hw] at h;show K _ _;rw [← Act.put_comm a v undef h2];exact h
theorem upon_and {Q : Exit → Act → World → Prop} {o : Oper} {a : Act} {K : Act → World → Prop} {F : Act → Prop} (hF : ∀ u, F (a.put o.dst u)) (hD : ∀ d, F (({ a with defers := d :: a.defers } : Act).put o.dst undef)) {r : Result Next} (h : o.upon P a K Q r) :
  o.upon P a (fun a' w' => F a' ∧ K a' w') Q r := by
 cases r with
 | ok n w' =>
  cases n with
  | value u => exact ⟨hF u, h⟩
  | skip => exact ⟨hF _, h⟩
  | defer d => exact ⟨hD d, h⟩
  | enter f args =>
   refine Calls.mono (R := fun e w'' => match e, w'' with
    | .returned u, w'' => K (a.put o.dst u) w''
    | .panicked chain, w'' => Q (.panic chain) a w''
    | .outgrown, _ => LetsOut Q) h ?_
   intro e w'' he;cases e with
   | returned u => exact ⟨hF u, he⟩
   | panicked c => exact he
   | outgrown => exact he
  | row row args =>
   have h' : Rows P row args w' fun u w'' => K (a.put o.dst u) w'' := h
   exact h'.mono fun u w'' hk => ⟨hF u, hk⟩
  | _ => exact h
 | halt x w' =>
  cases x with
  | panic u => exact h
  | _ => exact h
theorem zzaa {j : Nat} {Q : Exit → Act → World → Prop} {oj : Oper} (hj : ops[j]? = some oj) {K : Act → World → Prop} {F : Act → Prop} {a : Act} {w : World} (hF : ∀ u, F (a.put oj.dst u)) (hD : ∀ d, F (({ a with defers := d :: a.defers } : Act).put oj.dst undef))
  (h : wpOp P ops Q j K a w) : wpOp P ops Q j (fun a' w' => F a' ∧ K a' w') a w := by
 unfold wpOp at *;simp only [hj] at *
 split
 ·rename_i hw
  simp only [hw, if_true] at h;exact h.imp (fun h => upon_and hF hD h) id
 ·rename_i hw
  simp only [hw] at h;exact ⟨hF _, h⟩
theorem zz35 {id : Nat} {Q : Exit → Act → World → Prop} {a : Act} {w : World} {l : List Oper} (n : Nat) (hm : P.follows .mixedOrders = true) (hB : Region.lexTailB .any l.toArray n = true)
  (h : wpQuiet P l.toArray (fun w' => ∃ x : ExtOf w, w' = x.w) (fun a' => ∀ w', (∃ x : ExtOf w, w' = x.w) → wpList P l.toArray Q (l.drop n) a' w') (l.take n) a) : (Code.region id l.toArray true).wp P Q a w :=
 zz2l (C := fun w' => ∃ x : ExtOf w, w' = x.w) n hm hB ⟨⟨w.drew, (Below.refl _ _).drew⟩, rfl⟩ h
end
section
variable {P : Program} {ops : Array Oper} {md : Region.Mode} {C : World → Prop}
def isMv (o : Oper) : Bool := match o.op, o.guard with
 | .move _, none => true
 | _, _ => false
theorem zzb3 {o : Oper} {x : Operand} (h : o.op = .move x) (a : Act) (w : World) : (execOp a.eval o).run P w = .ok (.value (a.eval x)) w := by
 unfold execOp;rw [h]
 rfl
theorem zz36 {o : Oper} (h : o.guard = none) (Y : Nat → Option Bool) : Region.wanted o Y = true := by
 unfold Region.wanted;rw [h]
def setAll : List Nat → Array Bool → Array Bool
 | [], L => L
 | i :: hs, L => setAll hs (L.setIfInBounds i true)
def hoistB (md : Region.Mode) (ops : Array Oper) (n : Nat) : List Nat → Array Bool → Bool
 | [], _ => true
 | i :: hs, L => decide (i < n) && (Region.ready md ops L).contains i && Region.free md ops L i && (match ops[i]? with | some o => isMv o | none => false) && hoistB md ops n hs (L.setIfInBounds i true)
def opsAt (ops : Array Oper) : List Nat → List Oper
 | [] => []
 | k :: ks => match ops[k]? with
  | some o => o :: opsAt ops ks
  | none => []
end
end
end Go.Proofs.YtajogedbacpohaaGreatDoor
