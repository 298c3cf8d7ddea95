/- Part 1 of what the claim rests on. -/
import Derived.BigQuiet
import Derived.Deep.Quiet
import Derived.Deep.RegionWith
import Derived.Laws.RangeAny
import Derived.Lib.AppendIntMem
import Derived.Lib.Hide
import Derived.Lib.ItoaNum
import Derived.Lib.LazyBuf
import Derived.Lib.OthersKept
import Derived.Shelf.LaysM
import Derived.Shelf.Strconv.Itoa3
import Derived.StillTail
import Derived.Test.YtjcdpmianmgiaaaGreatDoorChecked
import Derived.WalkKit
import Derived.WalkLawsBesides
import Derived.WalkSpells
namespace Go.Proofs.YtjcdpmianmgiaaaGreatDoor
open Go.RowKit
section
variable {P : Program} {ops : Array Oper} {rest : List Oper} {o : Oper} {a : Act} {Q : Exit → Act → World → Prop}
structure Elt (P : Program) (t e : TypeId) (z : Value) (size bytes : Nat) : Prop where
  und : P.underlying t = some (.slice e)
  info : ∃ i, P.info? e = some i ∧ i.zero = some z ∧ i.size = size ∧ i.bytes = bytes
  zs : z.cells.size = size
  pos : 0 < size
theorem Elt.mk' {t e : TypeId} {z : Value} {size bytes : Nat} (ht : P.underlying t = some (.slice e)) (hi : (P.info? e).map (fun i => (i.zero, i.size, i.bytes)) = some (some z, size, bytes)) (hz : z.cells.size = size) (hp : 0 < size) : Elt P t e z size bytes :=
  ⟨ht, info_parts hi, hz, hp⟩
end
structure ExtOf (w0 : World) where
  w : World
  below : Below w0.heap.size w0 w
instance (w0 : World) : Nonempty (ExtOf w0) := ⟨⟨w0, Below.refl _ _⟩⟩
@[go_sem] theorem ExtOf.cell (w0 : World) (x : ExtOf w0) (b o : Nat) (s : Option Nat) (h : b < w0.heap.size) : x.w.cell? ⟨b, o, s⟩ = w0.cell? ⟨b, o, s⟩ := x.below.cell (p := ⟨b, o, s⟩) h
theorem ext_call {P : Program} {f : FuncId} {args : Array Value} {w0 : World} {x : ExtOf w0} {v : Value}
    (h : Calls P f args x.w fun e w' => e = .returned v ∧ Below x.w.heap.size x.w w') : Calls P f args x.w fun e w'' => e = .returned v ∧ ∃ y : ExtOf w0, w'' = y.w :=
  h.mono fun _ w' ⟨he, hb⟩ => ⟨he, ⟨w', x.below.trans (hb.mono x.below.size)⟩, rfl⟩
theorem wp_region_ext {P : Program} {id : Nat} {Q : Exit → Act → World → Prop} {a : Act} {w : World} {l : List Oper} (hm : P.follows .mixedOrders = true) (hB : Region.lexB .any l.toArray = true)
    (h : wpQuiet P l.toArray (fun w' => ∃ x : ExtOf w, w' = x.w) (fun a' => ∀ w', (∃ x : ExtOf w, w' = x.w) → Q .normal a' w') l a) : (Code.region id l.toArray true).wp P Q a w :=
  wp_region_quiet (C := fun w' => ∃ x : ExtOf w, w' = x.w) hm hB ⟨⟨w.drew, (Below.refl _ _).drew⟩, rfl⟩ (by simpa using h)
end Go.Proofs.YtjcdpmianmgiaaaGreatDoor
namespace Go.Proofs.YtjcdpmianmgiaaaGreatDoor
open Go Go.Lib
set_option linter.unusedVariables false
namespace Shelf
end Shelf
end Go.Proofs.YtjcdpmianmgiaaaGreatDoor
namespace Go.Proofs.YtjcdpmianmgiaaaGreatDoor
open Go Go.RowKit
theorem cells_of_blk {w : World} {g : Nat} {cs : Array Value} {t : TypeId} (h : w.heap[g]? = some (.cells cs t (0, 0))) (i : Nat) (v : Value) (hi : cs[i]? = some v) : w.cell? ⟨g, i, none⟩ = some v := by
  rw [cell_of_row w g i cs t (0, 0) h, hi]
theorem free_of_blk {w : World} {g : Nat} {cs : Array Value} {t : TypeId} (h : w.heap[g]? = some (.cells cs t (0, 0))) (i : Nat) : w.frozen? ⟨g, i, none⟩ = false := by simp [World.frozen?, h]
theorem grown_set {w wr : World} {g : Nat} (h : w.grownBy wr (some g)) (m o : Nat) (v : Value) : w.grownBy ((wr.drewN m).setCell ⟨g, o, none⟩ v) (some g) :=
  ⟨h.os, h.tape, h.output, by simpa [World.setCell] using h.size, fun k hk hne => by
    have : k ≠ g := fun e => hne (by rw [e])
    rw [Below.heap_setCell _ _ _ _ this]
    exact h.block k hk hne⟩
theorem below_drewN {B : Nat} {a w : World} (h : Below B a w) (n : Nat) : Below B a (w.drewN n) := ⟨h.os, h.tape, h.output, h.size, h.block⟩
theorem grown_set0 {w wr : World} {g : Nat} (h : w.grownBy wr (some g)) (o : Nat) (v : Value) : w.grownBy (wr.setCell ⟨g, o, none⟩ v) (some g) := grown_set h 0 o v
theorem grown_trans {a b c : World} {g : Nat} (h : a.grownBy b (some g)) (k : b.grownBy c (some g)) : a.grownBy c (some g) :=
  ⟨k.os.trans h.os, k.tape.trans h.tape, k.output.trans h.output, Nat.le_trans h.size k.size, fun i hi hne => (k.block i (Nat.lt_of_lt_of_le hi h.size) hne).trans (h.block i hi hne)⟩
theorem set_blk {w : World} {b : Nat} {cs : Array Value} {t : TypeId} {fr : Nat × Nat} (h : w.heap[b]? = some (.cells cs t fr)) (i : Nat) (v : Value) : (w.setCell ⟨b, i, none⟩ v).heap[b]? = some (.cells (cs.setIfInBounds i v) t fr) := by
  obtain ⟨hlt, hk⟩ := Array.getElem?_eq_some_iff.1 h
  show (w.heap.modify b _)[b]? = _
  rw [Array.getElem?_eq_getElem (by rw [Array.size_modify]; exact hlt), Array.getElem_modify_self, hk]
  rfl
theorem set_oth {w : World} {b c : Nat} {o : Option Obj} (h : w.heap[b]? = o) (i : Nat) (v : Value) (hne : b ≠ c) : (w.setCell ⟨c, i, none⟩ v).heap[b]? = o := (Below.heap_setCell _ _ _ b hne).trans h
theorem blk_new (w : World) (o : Obj) (k : Nat) (h : k = w.heap.size) : (w.alloc o).heap[k]? = some o := by subst h; exact heap_alloc_new w o
theorem blk_old {w : World} {k : Nat} {x : Obj} (h : w.heap[k]? = some x) (o : Obj) : (w.alloc o).heap[k]? = some x := (Below.heap_alloc w o k (Array.getElem?_eq_some_iff.1 h).1).trans h
theorem below_alloc {n : Nat} {a b : World} (h : Below n a b) (hn : n ≤ b.heap.size) (o : Obj) : Below n a (b.alloc o) := h.alloc hn o
theorem heap_new (w : World) (o : Obj) : (w.alloc o).heap[w.heap.size]? = some o := heap_alloc_new w o
theorem blk_call {w w' : World} {p : Nat} {o : Obj} (h : w.heap[p]? = some o) (hb : Below w.heap.size w w') : w'.heap[p]? = some o := (hb.block p (Array.getElem?_eq_some_iff.1 h).1).trans h
theorem zC {w : World} {g : Nat} {cs : Array Value} {t : TypeId} (h : w.heap[g]? = some (.cells cs t (0, 0))) : ∀ i, w.cell? ⟨g, i, none⟩ = cs[i]? := fun i => cell_of_row w g i cs t (0, 0) h
theorem zF {w : World} {g : Nat} {cs : Array Value} {t : TypeId} (h : w.heap[g]? = some (.cells cs t (0, 0))) : ∀ i, w.frozen? ⟨g, i, none⟩ = false := fun i => by simp [World.frozen?, h]
theorem zL {α : Type} {l : Array α} {i : Nat} {x : α} (h : l[i]? = some x) : i < l.size := (Array.getElem?_eq_some_iff.1 h).1
theorem zT {a w : World} {B g : Nat} {cs : Array Value} {t : TypeId} (h : a.heap[g]? = some (.cells cs t (0, 0))) (hb : Below B a w) (hB : g < B := by exact zL ‹_›) : ∀ i, w.cell? ⟨g, i, none⟩ = cs[i]? := fun i => (hb.cell (p := ⟨g, i, none⟩) hB).trans (cell_of_row a g i cs t (0, 0) h)
theorem zK {w w' : World} {p : Nat} {o : Obj} (h : Hid (w.heap[p]? = some o)) (hb : Below w.heap.size w w') : Hid (w'.heap[p]? = some o) := (hb.block p (zL h.out)).trans h.out
theorem zB {a b c : World} (h : Hid (Below a.heap.size a b)) (hb : Below b.heap.size b c) : Hid (Below a.heap.size a c) := h.out.trans (hb.mono h.out.size)
theorem zR2 {a w : World} {B b o : Nat} {y0 y1 : Int} (hb : Below B a w) (hl : b < B) (h : ∀ (j : Nat) (x : Int), ([y0, y1] : List Int)[j]? = some x → a.cell? ⟨b, o + j, none⟩ = some (.int .i64 x)) : w.cell? ⟨b, o, none⟩ = some (.int .i64 y0) ∧ w.cell? ⟨b, o + 1, none⟩ = some (.int .i64 y1) := ⟨(hb.cell (p := ⟨b, o + 0, none⟩) hl).trans (h 0 _ rfl), (hb.cell (p := ⟨b, o + 1, none⟩) hl).trans (h 1 _ rfl)⟩
theorem zR3 {a w : World} {B b o : Nat} {y0 y1 y2 : Int} (hb : Below B a w) (hl : b < B) (h : ∀ (j : Nat) (x : Int), ([y0, y1, y2] : List Int)[j]? = some x → a.cell? ⟨b, o + j, none⟩ = some (.int .i64 x)) : w.cell? ⟨b, o, none⟩ = some (.int .i64 y0) ∧ w.cell? ⟨b, o + 1, none⟩ = some (.int .i64 y1) ∧ w.cell? ⟨b, o + 2, none⟩ = some (.int .i64 y2) := ⟨(hb.cell (p := ⟨b, o + 0, none⟩) hl).trans (h 0 _ rfl), (hb.cell (p := ⟨b, o + 1, none⟩) hl).trans (h 1 _ rfl), (hb.cell (p := ⟨b, o + 2, none⟩) hl).trans (h 2 _ rfl)⟩
theorem zR4 {a w : World} {B b o : Nat} {y0 y1 y2 y3 : Int} (hb : Below B a w) (hl : b < B) (h : ∀ (j : Nat) (x : Int), ([y0, y1, y2, y3] : List Int)[j]? = some x → a.cell? ⟨b, o + j, none⟩ = some (.int .i64 x)) : w.cell? ⟨b, o, none⟩ = some (.int .i64 y0) ∧ w.cell? ⟨b, o + 1, none⟩ = some (.int .i64 y1) ∧ w.cell? ⟨b, o + 2, none⟩ = some (.int .i64 y2) ∧ w.cell? ⟨b, o + 3, none⟩ = some (.int .i64 y3) := ⟨(hb.cell (p := ⟨b, o + 0, none⟩) hl).trans (h 0 _ rfl), (hb.cell (p := ⟨b, o + 1, none⟩) hl).trans (h 1 _ rfl), (hb.cell (p := ⟨b, o + 2, none⟩) hl).trans (h 2 _ rfl), (hb.cell (p := ⟨b, o + 3, none⟩) hl).trans (h 3 _ rfl)⟩
theorem zR6 {a w : World} {B b o : Nat} {y0 y1 y2 y3 y4 y5 : Int} (hb : Below B a w) (hl : b < B) (h : ∀ (j : Nat) (x : Int), ([y0, y1, y2, y3, y4, y5] : List Int)[j]? = some x → a.cell? ⟨b, o + j, none⟩ = some (.int .i64 x)) : w.cell? ⟨b, o, none⟩ = some (.int .i64 y0) ∧ w.cell? ⟨b, o + 1, none⟩ = some (.int .i64 y1) ∧ w.cell? ⟨b, o + 2, none⟩ = some (.int .i64 y2) ∧ w.cell? ⟨b, o + 3, none⟩ = some (.int .i64 y3) ∧ w.cell? ⟨b, o + 4, none⟩ = some (.int .i64 y4) ∧ w.cell? ⟨b, o + 5, none⟩ = some (.int .i64 y5) := ⟨(hb.cell (p := ⟨b, o + 0, none⟩) hl).trans (h 0 _ rfl), (hb.cell (p := ⟨b, o + 1, none⟩) hl).trans (h 1 _ rfl), (hb.cell (p := ⟨b, o + 2, none⟩) hl).trans (h 2 _ rfl), (hb.cell (p := ⟨b, o + 3, none⟩) hl).trans (h 3 _ rfl), (hb.cell (p := ⟨b, o + 4, none⟩) hl).trans (h 4 _ rfl), (hb.cell (p := ⟨b, o + 5, none⟩) hl).trans (h 5 _ rfl)⟩
theorem zH {p : Prop} (h : p) : Hid p := h
end Go.Proofs.YtjcdpmianmgiaaaGreatDoor
namespace Go.Proofs.YtjcdpmianmgiaaaGreatDoor
open Go.RowKit
def I64 (n : Int) : Prop := -9223372036854775808 ≤ n ∧ n < 9223372036854775808
def U64 (n : Int) : Prop := 0 ≤ n ∧ n < 18446744073709551616
theorem u64_xor_ones (x : Int) (h : U64 x) : bits .xor .u64 x 18446744073709551615 = 18446744073709551615 - x := by
  unfold U64 at h
  obtain ⟨a, rfl⟩ := Int.eq_ofNat_of_zero_le h.1
  have ha : a < 18446744073709551616 := by omega
  have e : (18446744073709551615 : Int) = ((18446744073709551615 : Nat) : Int) := rfl
  rw [e, u64_xor_nat a _ ha (by decide)]
  have e2 : a ^^^ 18446744073709551615 = 18446744073709551615 - a := by
    have h1 : (BitVec.ofNat 64 a ^^^ BitVec.allOnes 64).toNat = (~~~ (BitVec.ofNat 64 a)).toNat := by rw [BitVec.xor_allOnes]
    rw [BitVec.toNat_not, BitVec.toNat_xor, BitVec.toNat_ofNat, BitVec.toNat_allOnes, Nat.mod_eq_of_lt ha] at h1
    exact h1
  rw [e2]; omega
theorem wf_u16 {n : Int} (h : (Lit.int .u16 n).wf = true) : Hid (0 ≤ n ∧ n ≤ 65535) := by
  simp [Lit.wf, IntKind.min, IntKind.max, IntKind.signed, IntKind.bits] at h
  show _ ∧ _
  omega
theorem wf_i64 {n : Int} (h : (Lit.int .i64 n).wf = true) : Hid (I64 n) := by
  simp [Lit.wf, IntKind.min, IntKind.max, IntKind.signed, IntKind.bits] at h
  show I64 n
  unfold I64; omega
end Go.Proofs.YtjcdpmianmgiaaaGreatDoor
namespace Go.Proofs.YtjcdpmianmgiaaaGreatDoor
open Go Go.RowKit Shelf
set_option linter.unusedVariables false
end Go.Proofs.YtjcdpmianmgiaaaGreatDoor
namespace Go.Proofs.YtjcdpmianmgiaaaGreatDoor
open Go Go.RowKit Shelf
set_option linter.unusedVariables false
end Go.Proofs.YtjcdpmianmgiaaaGreatDoor
namespace Go.Proofs.YtjcdpmianmgiaaaGreatDoor
open Go Go.RowKit
set_option linter.unusedVariables false
namespace Rule
def rows : List (List UInt8 × Nat × Nat) := [([], 0, 0), ([107, 105, 110, 100, 32, 97, 116, 32, 108, 101, 97, 115, 116], 2, 1), ([107, 105, 110, 100, 32, 97, 116, 32, 109, 111, 115, 116], 1, 1), ([115, 105, 100, 101, 32, 97, 116, 32, 108, 101, 97, 115, 116], 2, 2), ([115, 105, 100, 101, 32, 97, 116, 32, 109, 111, 115, 116], 1, 2), ([113, 117, 97, 110, 116, 105, 116, 121], 2, 2), ([112, 114, 105, 99, 101], 2, 2), ([99, 97, 115, 104], 2, 2), ([108, 105, 109, 105, 116, 32, 111, 102, 32, 112, 111, 115, 105, 116, 105, 111, 110], 2, 2), ([108, 105, 109, 105, 116, 32, 111, 102, 32, 111, 114, 100, 101, 114], 2, 2), ([97, 99, 99, 111, 117, 110, 116, 32, 107, 110, 111, 119, 110], 3, 3), ([97, 99, 99, 111, 117, 110, 116, 32, 110, 101, 119], 3, 4), ([111, 114, 100, 101, 114, 32, 110, 101, 119], 3, 5), ([111, 114, 100, 101, 114, 32, 107, 110, 111, 119, 110], 3, 6), ([115, 121, 109, 98, 111, 108, 32, 112, 114, 105, 99, 101, 100], 3, 7), ([114, 111, 111, 109, 32, 111, 102, 32, 97, 99, 99, 111, 117, 110, 116, 115], 1, 8), ([114, 111, 111, 109, 32, 111, 102, 32, 111, 114, 100, 101, 114, 115], 1, 8), ([114, 111, 111, 109, 32, 111, 102, 32, 112, 114, 105, 99, 101, 115], 1, 8), ([119, 111, 114, 116, 104], 1, 9), ([114, 101, 97, 99, 104], 1, 10), ([109, 97, 114, 103, 105, 110], 1, 11), ([102, 105, 108, 108, 101, 100], 1, 2), ([99, 97, 115, 104, 32, 98, 101, 104, 105, 110, 100], 3, 12), ([112, 111, 115, 105, 116, 105, 111, 110, 32, 98, 101, 104, 105, 110, 100], 3, 12)]
def name (n : Nat) : List UInt8 := (rows.getD n ([], 0, 0)).1
def rel (n : Nat) : Nat := (rows.getD n ([], 0, 0)).2.1
def code (n : Nat) : Nat := (rows.getD n ([], 0, 0)).2.2
theorem rel_out {n : Nat} (h : 24 ≤ n) : rel n = 0 := by unfold rel; rw [List.getD_eq_getElem?_getD, List.getElem?_eq_none (by exact h)]; rfl
theorem fine : ∀ n, n < 24 → rel n < 4 ∧ code n < 13 ∧ (name n).length ≤ 20 := by decide
theorem rel_lt (n : Nat) : rel n < 4 := by
  rcases Nat.lt_or_ge n 24 with h | h
  · exact (fine n h).1
  · rw [rel_out h]; decide
def is (r : Nat) (a b : Int) : Bool := match r with
  | 1 => decide (a ≤ b)
  | 2 => decide (b ≤ a)
  | 3 => a == b
  | _ => false
end Rule
def numR (n : Int) : Nat := if 0 < n ∧ n < 24 then n.toNat else 0
structure RulesT (w : World) : Prop where
  tab : ∀ n, n < 24 → w.cell? ⟨3, n * 3, none⟩ = some (.string ⟨(Rule.name n).toArray⟩) ∧ w.cell? ⟨3, n * 3 + 1, none⟩ = some (.int .i64 (Rule.rel n)) ∧ w.cell? ⟨3, n * 3 + 2, none⟩ = some (.int .i64 (Rule.code n))
  lt : 3 < w.heap.size
theorem RulesT.call {w w' : World} (h : RulesT w) (hb : Below w.heap.size w w') : RulesT w' :=
  ⟨fun n hn => ⟨(hb.cell (p := ⟨3, n * 3, none⟩) h.lt).trans (h.tab n hn).1, (hb.cell (p := ⟨3, n * 3 + 1, none⟩) h.lt).trans (h.tab n hn).2.1, (hb.cell (p := ⟨3, n * 3 + 2, none⟩) h.lt).trans (h.tab n hn).2.2⟩, Nat.lt_of_lt_of_le h.lt hb.size⟩
theorem results_cell_one {fn : Func} {p : Tmp} {ty : TypeId} (h : fn.results = #[.cell p ty]) (tmps : Array Value) (P : Program) (w : World) :
    (results fn tmps).run P w = ((asAddr (tmps.getD p undef)).run P w).andThen fun a w₁ => (loadVar ty a).run P w₁ := by
  simp only [results, h]
  simp [Sem.run_bind, Result.andThen]
set_option maxRecDepth 100000 in
theorem there_any (n : Int) (hn : I64 n) (w : World) : Calls Tryz.prog 119 #[.int .i64 n] w fun e w' => e = .returned (.bool (decide (0 < n ∧ n < 24))) ∧ w' = w := by
  unfold I64 at hn
  by_cases h0 : 0 < n
  · have t1 : decide (0 < n) = true := decide_eq_true h0
    by_cases h1 : n < 24
    · have t2 : decide (n < 24) = true := decide_eq_true h1
      have hd : Hid (decide (0 < n ∧ n < 24) = true) := decide_eq_true ⟨h0, h1⟩
      clear h0 h1
      go_enter Tryz.func119, Tryz.ntmps119
      go_wp2_with fail
      go_ret
      exact ⟨by rw [hd.out]; rfl, rfl⟩
    · have t2 : decide (n < 24) = false := decide_eq_false h1
      have hd : Hid (decide (0 < n ∧ n < 24) = false) := decide_eq_false (fun h => h1 h.2)
      clear h0 h1
      go_enter Tryz.func119, Tryz.ntmps119
      go_wp2_with fail
      go_ret
      exact ⟨by rw [hd.out]; rfl, rfl⟩
  · have t1 : decide (0 < n) = false := decide_eq_false h0
    have hd : Hid (decide (0 < n ∧ n < 24) = false) := decide_eq_false (fun h => h0 h.1)
    clear h0
    go_enter Tryz.func119, Tryz.ntmps119
    go_wp2_with fail
    go_ret
    exact ⟨by rw [hd.out]; rfl, rfl⟩
set_option maxRecDepth 100000 in
set_option maxHeartbeats 1000000 in
theorem of_any (n : Int) (hn : I64 n) (w : World) (hT : Hid (RulesT w)) : Calls Tryz.prog 121 #[.int .i64 n] w fun e w' => e = .returned (.agg #[.string ⟨(Rule.name (numR n)).toArray⟩, .int .i64 (Rule.rel (numR n)), .int .i64 (Rule.code (numR n))]) ∧ Below w.heap.size w w' := by
  have q := zH (fun w => there_any n hn w)
  by_cases h : 0 < n ∧ n < 24
  · rw [decide_eq_true h] at q
    obtain ⟨m, rfl⟩ : ∃ m : Nat, n = m := ⟨n.toNat, by omega⟩
    have hm : m < 24 := by omega
    have hnm : numR (m : Int) = m := by unfold numR; rw [if_pos h]; rfl
    rw [hnm]
    obtain ⟨k1, k2, k3⟩ := hT.out.tab m hm
    have hlt := hT.out.lt
    clear hnm h
    generalize Rule.name m = nm at *
    generalize Rule.rel m = rl at *
    generalize Rule.code m = cd at *
    go_enter Tryz.func121, Tryz.ntmps121
    go_wp2_with fail
    refine (q.out _).mono ?_
    rintro e w' ⟨rfl, rfl⟩
    go_wp2_with fail
    refine bodyPost_ret (v := .agg #[.string ⟨nm.toArray⟩, .int .i64 rl, .int .i64 cd]) ?_ rfl ⟨rfl, (Below.refl _ w).alloc (Nat.le_refl _) _⟩
    rw [results_cell_one rfl]
    go_simp
  · rw [decide_eq_false h] at q
    have hnm : numR n = 0 := by unfold numR; rw [if_neg h]
    rw [hnm]
    go_enter Tryz.func121, Tryz.ntmps121
    go_wp2_with fail
    refine (q.out _).mono ?_
    rintro e w' ⟨rfl, rfl⟩
    go_wp2_with fail
    refine bodyPost_ret (v := .agg #[.string ⟨#[]⟩, .int .i64 0, .int .i64 0]) ?_ rfl ⟨rfl, (Below.refl _ w).alloc (Nat.le_refl _) _⟩
    rw [results_cell_one rfl]
    go_simp
end Go.Proofs.YtjcdpmianmgiaaaGreatDoor
namespace Go.Proofs.YtjcdpmianmgiaaaGreatDoor
open Go Go.RowKit
set_option linter.unusedVariables false
structure Stp where
  rule : Int
  left : Int
  right : Int
  over : Bool
def Stp.val (s : Stp) : Value := .agg #[.int .i64 s.rule, .int .i64 s.left, .int .i64 s.right, .bool s.over]
def Stp.fit (s : Stp) : Prop := I64 s.rule ∧ I64 s.left ∧ I64 s.right
def relS (n : Int) : Nat := Rule.rel (numR n)
def codeS (n : Int) : Nat := Rule.code (numR n)
def Stp.holds (s : Stp) : Bool := !s.over && Rule.is (relS s.rule) s.left s.right
theorem relS_lt (n : Int) : relS n < 4 := Rule.rel_lt _
structure RelsT (w : World) : Prop where
  c0 : w.cell? ⟨0, 0, none⟩ = some (.string ⟨#[63]⟩) ∧ w.cell? ⟨0, 1, none⟩ = some (.func (.func 241) #[] #[])
  c1 : w.cell? ⟨0, 2, none⟩ = some (.string ⟨#[60, 61]⟩) ∧ w.cell? ⟨0, 3, none⟩ = some (.func (.func 242) #[] #[])
  c2 : w.cell? ⟨0, 4, none⟩ = some (.string ⟨#[62, 61]⟩) ∧ w.cell? ⟨0, 5, none⟩ = some (.func (.func 243) #[] #[])
  c3 : w.cell? ⟨0, 6, none⟩ = some (.string ⟨#[61]⟩) ∧ w.cell? ⟨0, 7, none⟩ = some (.func (.func 244) #[] #[])
  lt : 0 < w.heap.size
theorem RelsT.call {w w' : World} (h : RelsT w) (hb : Below w.heap.size w w') : RelsT w' :=
  ⟨⟨(hb.cell (p := ⟨0, 0, none⟩) h.lt).trans h.c0.1, (hb.cell (p := ⟨0, 1, none⟩) h.lt).trans h.c0.2⟩,
   ⟨(hb.cell (p := ⟨0, 2, none⟩) h.lt).trans h.c1.1, (hb.cell (p := ⟨0, 3, none⟩) h.lt).trans h.c1.2⟩,
   ⟨(hb.cell (p := ⟨0, 4, none⟩) h.lt).trans h.c2.1, (hb.cell (p := ⟨0, 5, none⟩) h.lt).trans h.c2.2⟩,
   ⟨(hb.cell (p := ⟨0, 6, none⟩) h.lt).trans h.c3.1, (hb.cell (p := ⟨0, 7, none⟩) h.lt).trans h.c3.2⟩, Nat.lt_of_lt_of_le h.lt hb.size⟩
structure Law16 (w : World) : Prop where
  rules : RulesT w
  rels : RelsT w
theorem Law16.call {w w' : World} (h : Law16 w) (hb : Below w.heap.size w w') : Law16 w' := ⟨h.rules.call hb, h.rels.call hb⟩
theorem rule_f1 (s : ByteArray) (a b : Int) (w : World) : (Instr.field 161 (.agg #[.string s, .int .i64 a, .int .i64 b]) 1).run Tryz.prog w = .ok (.int .i64 a) w := by kernel_rfl
theorem rule_f2 (s : ByteArray) (a b : Int) (w : World) : (Instr.field 161 (.agg #[.string s, .int .i64 a, .int .i64 b]) 2).run Tryz.prog w = .ok (.int .i64 b) w := by kernel_rfl
set_option maxRecDepth 100000 in
set_option maxHeartbeats 1000000 in
theorem Relation_any (n : Int) (hn : I64 n) (w : World) (hT : Hid (RulesT w)) : Calls Tryz.prog 120 #[.int .i64 n] w fun e w' => e = .returned (.int .i64 (relS n)) ∧ Below w.heap.size w w' := by
  have q := zH (of_any n hn w hT)
  have hr : Hid ((Rule.rel (numR n) : Nat) = relS n) := rfl
  have hc : Hid ((Rule.code (numR n) : Nat) = codeS n) := rfl
  have hf := rule_f1 ⟨(Rule.name (numR n)).toArray⟩ (Rule.rel (numR n)) (Rule.code (numR n))
  go_enter Tryz.func120, Tryz.ntmps120
  go_wp2_with fail
  refine q.out.mono ?_
  rintro e w' ⟨rfl, hb⟩
  have HB := zH hb
  clear hb
  go_wp2_with fail
  go_ret
  exact ⟨rfl, HB.out⟩
set_option maxRecDepth 100000 in
set_option maxHeartbeats 1000000 in
theorem Code_any (n : Int) (hn : I64 n) (w : World) (hT : Hid (RulesT w)) : Calls Tryz.prog 62 #[.int .i64 n] w fun e w' => e = .returned (.int .i64 (codeS n)) ∧ Below w.heap.size w w' := by
  have q := zH (of_any n hn w hT)
  have hr : Hid ((Rule.rel (numR n) : Nat) = relS n) := rfl
  have hc : Hid ((Rule.code (numR n) : Nat) = codeS n) := rfl
  have hf := rule_f2 ⟨(Rule.name (numR n)).toArray⟩ (Rule.rel (numR n)) (Rule.code (numR n))
  go_enter Tryz.func62, Tryz.ntmps62
  go_wp2_with fail
  refine q.out.mono ?_
  rintro e w' ⟨rfl, hb⟩
  have HB := zH hb
  clear hb
  go_wp2_with fail
  go_ret
  exact ⟨rfl, HB.out⟩
set_option maxRecDepth 100000 in
theorem rel1_any (a b : Int) (w : World) : Calls Tryz.prog 241 #[.int .i64 a, .int .i64 b] w fun e w' => e = .returned (.bool (false)) ∧ w' = w := by
  obtain ⟨z, hz⟩ : ∃ z, (false) = z := ⟨_, rfl⟩
  go_enter Tryz.func241, Tryz.ntmps241
  go_wp2_with fail
  go_ret
  exact ⟨by rw [hz]; rfl, rfl⟩
set_option maxRecDepth 100000 in
theorem rel2_any (a b : Int) (w : World) : Calls Tryz.prog 242 #[.int .i64 a, .int .i64 b] w fun e w' => e = .returned (.bool (decide (a ≤ b))) ∧ w' = w := by
  obtain ⟨z, hz⟩ : ∃ z, (decide (a ≤ b)) = z := ⟨_, rfl⟩
  go_enter Tryz.func242, Tryz.ntmps242
  go_wp2_with fail
  go_ret
  exact ⟨by rw [hz]; rfl, rfl⟩
set_option maxRecDepth 100000 in
theorem rel3_any (a b : Int) (w : World) : Calls Tryz.prog 243 #[.int .i64 a, .int .i64 b] w fun e w' => e = .returned (.bool (decide (b ≤ a))) ∧ w' = w := by
  obtain ⟨z, hz⟩ : ∃ z, (decide (b ≤ a)) = z := ⟨_, rfl⟩
  go_enter Tryz.func243, Tryz.ntmps243
  go_wp2_with fail
  go_ret
  exact ⟨by rw [hz]; rfl, rfl⟩
set_option maxRecDepth 100000 in
theorem rel4_any (a b : Int) (w : World) : Calls Tryz.prog 244 #[.int .i64 a, .int .i64 b] w fun e w' => e = .returned (.bool (a == b)) ∧ w' = w := by
  obtain ⟨z, hz⟩ : ∃ z, (a == b) = z := ⟨_, rfl⟩
  go_enter Tryz.func244, Tryz.ntmps244
  go_wp2_with fail
  go_ret
  exact ⟨by rw [hz]; rfl, rfl⟩
end Go.Proofs.YtjcdpmianmgiaaaGreatDoor
namespace Go.Proofs.YtjcdpmianmgiaaaGreatDoor
open Go Go.RowKit
set_option linter.unusedVariables false
def Stp.bare (s : Stp) : Bool := s.over && (s.left != 0 || s.right != 0)
def Stp.known (s : Stp) : Bool := decide (0 < s.rule ∧ s.rule < 24)
def okB (l : List Stp) (k : Nat) (s : Stp) : Bool := s.known && !s.bare && !((l.take k).any fun t => t.rule == s.rule) && (!decide (k + 1 < l.length) || s.holds)
def mayB (l : List Stp) : Nat → Bool
  | 0 => true
  | k + 1 => mayB l k && (match l[k]? with | some s => okB l k s | none => true)
def mayS (l : List Stp) : Bool := mayB l l.length
theorem mayB_step {l : List Stp} {k : Nat} {s : Stp} (h : l[k]? = some s) (hk : mayB l k = true) (ho : okB l k s = true) : mayB l (k + 1) = true := by
  unfold mayB; rw [hk, h]; simpa using ho
theorem mayB_false {l : List Stp} {k : Nat} {s : Stp} (h : l[k]? = some s) (ho : okB l k s = false) : ∀ n, k < n → mayB l n = false
  | 0, hn => absurd hn (by omega)
  | n + 1, hn => by
    unfold mayB
    by_cases he : k = n
    · subst he; rw [h]; simp [ho]
    · rw [mayB_false h ho n (by omega)]; rfl
theorem mayS_false {l : List Stp} {k : Nat} {s : Stp} (h : l[k]? = some s) (ho : okB l k s = false) : mayS l = false :=
  mayB_false h ho _ (List.getElem?_eq_some_iff.1 h).1
def goW : List Stp → Int → Int × Int
  | [], need => (0, need)
  | s :: r, need => if s.over then (12, 0) else if s.holds then (if s.rule = 20 then goW r s.left else goW r need) else (((codeS s.rule : Nat) : Int), 0)
theorem goW_drop {l : List Stp} {k : Nat} {s : Stp} (h : l[k]? = some s) (need : Int) : goW (l.drop k) need = if s.over then (12, 0) else if s.holds then (if s.rule = 20 then goW (l.drop (k + 1)) s.left else goW (l.drop (k + 1)) need) else (((codeS s.rule : Nat) : Int), 0) := by
  obtain ⟨hk, rfl⟩ := List.getElem?_eq_some_iff.1 h
  rw [List.drop_eq_getElem_cons hk]
  rfl
end Go.Proofs.YtjcdpmianmgiaaaGreatDoor
namespace Go.Proofs.YtjcdpmianmgiaaaGreatDoor
open Go Go.RowKit
set_option linter.unusedVariables false
set_option linter.unusedSimpArgs false
def cmpI (a b : Int) : Int := if a < b then -1 else if b < a then 1 else 0
theorem isNaN_any (x : Int) (w : World) : Calls Tryz.prog 203 #[.int .i64 x] w fun e w' => e = .returned (.bool false) ∧ w = w' := by
  have t : (x != x) = false := by simp
  go_enter Tryz.func203, Tryz.ntmps203
  go_wp2_with fail
  go_ret
  exact ⟨rfl, rfl⟩
set_option maxRecDepth 100000 in
theorem Compare_any (a b : Int) (w : World) : Calls Tryz.prog 172 #[.int .i64 a, .int .i64 b] w fun e w' => e = .returned (.int .i64 (cmpI a b)) ∧ w = w' := by
  have q1 := zH (isNaN_any a w)
  have q2 := zH (isNaN_any b w)
  by_cases h1 : a < b
  · rw [show cmpI a b = -1 from if_pos h1]
    have t1 : decide (a < b) = true := decide_eq_true h1
    go_enter Tryz.func172, Tryz.ntmps172
    go_wp2_with fail
    with_reducible refine q1.out.mono ?_
    rintro e w1 ⟨rfl, rfl⟩
    go_wp2_with fail
    with_reducible refine q2.out.mono ?_
    rintro e w1 ⟨rfl, rfl⟩
    go_wp2_with fail
    go_ret
    exact ⟨rfl, rfl⟩
  · have t1 : decide (a < b) = false := decide_eq_false h1
    by_cases h2 : b < a
    · rw [show cmpI a b = 1 from (if_neg h1).trans (if_pos h2)]
      have t2 : decide (b < a) = true := decide_eq_true h2
      go_enter Tryz.func172, Tryz.ntmps172
      go_wp2_with fail
      with_reducible refine q1.out.mono ?_
      rintro e w1 ⟨rfl, rfl⟩
      go_wp2_with fail
      with_reducible refine q2.out.mono ?_
      rintro e w1 ⟨rfl, rfl⟩
      go_wp2_with fail
      go_ret
      exact ⟨rfl, rfl⟩
    · rw [show cmpI a b = 0 from (if_neg h1).trans (if_neg h2)]
      have t2 : decide (b < a) = false := decide_eq_false h2
      go_enter Tryz.func172, Tryz.ntmps172
      go_wp2_with fail
      with_reducible refine q1.out.mono ?_
      rintro e w1 ⟨rfl, rfl⟩
      go_wp2_with fail
      with_reducible refine q2.out.mono ?_
      rintro e w1 ⟨rfl, rfl⟩
      go_wp2_with fail
      go_ret
      exact ⟨rfl, rfl⟩
-- PRINTED FROM HERE ON BY genBookA.py
def RecAt (w : World) (v : Value) (k : Nat) (l : List (List Int)) : Prop :=
  ∃ A c, v = .slice A l.length c ∧ ∀ (i : Nat) (r : List Int), l[i]? = some r → r.length = k ∧ ∃ b o, A = some ⟨b, o, none⟩ ∧ b < w.heap.size ∧ ∀ (j : Nat) (x : Int), r[j]? = some x → w.cell? ⟨b, o + i * k + j, none⟩ = some (.int .i64 x)
theorem RecAt.call {w w' : World} {v : Value} {k : Nat} {l : List (List Int)} (h : RecAt w v k l) (hb : Below w.heap.size w w') : RecAt w' v k l := by
  obtain ⟨A, c, rfl, hi⟩ := h
  refine ⟨A, c, rfl, fun i r hr => ?_⟩
  obtain ⟨h1, b, o, rfl, hl, hc⟩ := hi i r hr
  exact ⟨h1, b, o, rfl, Nat.lt_of_lt_of_le hl hb.size, fun j x hx => (hb.cell (p := ⟨b, o + i * k + j, none⟩) hl).trans (hc j x hx)⟩
theorem cmpI_lt (a b : Int) : decide (cmpI a b < 0) = decide (a < b) := by
  unfold cmpI
  split
  · rename_i h; simp [h]
  · rename_i h; split <;> simp [h]
theorem cmpI_eq (a b : Int) : (cmpI a b == 0) = decide (a = b) := by
  unfold cmpI
  split
  · rename_i h; rw [decide_eq_false (by omega)]; rfl
  · split
    · rw [decide_eq_false (by omega)]; rfl
    · rw [decide_eq_true (by omega)]; rfl
set_option maxRecDepth 100000 in
theorem byHolder_any (a b c d id : Int) (w : World) : Calls Tryz.prog 132 #[.agg #[.int .i64 a, .int .i64 b, .int .i64 c, .int .i64 d], .int .i64 id] w fun e w' => e = .returned (.int .i64 (cmpI a id)) ∧ Below w.heap.size w w' := by
  have q := zH (fun w => Compare_any a id w)
  have c0 := cells_of_blk (heap_new w (.cells #[.int .i64 a, .int .i64 b, .int .i64 c, .int .i64 d] 82)) 0 _ rfl
  go_enter Tryz.func132, Tryz.ntmps132
  go_wp2_with fail
  with_reducible refine (q.out _).mono ?_
  rintro e w1 ⟨rfl, rfl⟩
  go_wp2_with fail
  go_ret
  exact ⟨rfl, below_alloc (Below.refl _ _) (Nat.le_refl _) _⟩
set_option maxRecDepth 100000 in
set_option maxHeartbeats 2000000 in
theorem SearchHolder_any (v : Value) (l : List (List Int)) (id : Int) (p : Nat) (F : Bool) (w : World) (hv : Hid (RecAt w v 4 l)) (hl : l.length ≤ 1000000) (hp : p ≤ l.length) (hlt : Hid (∀ (h : Nat) (r : List Int), l[h]? = some r → (r.headD 0 < id ↔ h < p))) (hF : Hid (F = match l[p]? with | some r => decide (r.headD 0 = id) | none => false)) :
    Calls Tryz.prog 174 #[v, .int .i64 id, .func (.func 132) #[] #[]] w fun e w' => e = .returned (.tuple #[.int .i64 p, .bool F]) ∧ Below w.heap.size w w' := by
  obtain ⟨A, c, rfl, hi⟩ := hv.out
  have HI := zH hi
  clear hi
  have q := zH (fun x0 x1 x2 x3 w => byHolder_any x0 x1 x2 x3 id w)
  go_enter Tryz.func174, Tryz.ntmps174
  go_wp2_with fail
  go_loopw [9, 10] (fun s9 s10 wr => ∃ i j : Nat, s9 = .int .i64 i ∧ s10 = .int .i64 j ∧ Hid (i ≤ p) ∧ Hid (p ≤ j) ∧ Hid (j ≤ l.length) ∧ Hid (Below w.heap.size w wr)) (fun s9 s10 _ => (intOf s10).toNat - (intOf s9).toNat)
  case atStart => exact ⟨0, l.length, rfl, rfl, Nat.zero_le _, hp, Nat.le_refl _, Below.refl _ _⟩
  case round =>
    obtain ⟨i, j, rfl, rfl, hip, hpj, hjl, hB⟩ := hrel
    have hip := hip.out
    have hpj := hpj.out
    have hjl := hjl.out
    by_cases hij : i < j
    · have t0 : decide ((i : Int) < (j : Int)) = true := decide_eq_true (by omega)
      obtain ⟨h, hh⟩ : ∃ h, (i + j) / 2 = h := ⟨_, rfl⟩
      have hh1 : i ≤ h ∧ h < j := by omega
      have hge : l[h]? = some l[h] := List.getElem?_eq_getElem (by omega)
      obtain ⟨hk, b0, o0, rfl, hbl, hc⟩ := HI.out h _ hge
      have hs := zH (hlt.out h _ hge)
      clear hge
      generalize l[h] = r at *
      obtain ⟨x0, x1, x2, x3, rfl⟩ : ∃ x0 x1 x2 x3, r = [x0, x1, x2, x3] := by
        match r, hk with
        | [x0, x1, x2, x3], _ => exact ⟨x0, x1, x2, x3, rfl⟩
      have hs : Hid (x0 < id ↔ h < p) := hs
      have c0 := (hB.out.cell (p := ⟨b0, o0 + h * 4, none⟩) hbl).trans (hc 0 _ rfl)
      have c1 := (hB.out.cell (p := ⟨b0, o0 + h * 4 + 1, none⟩) hbl).trans (hc 1 _ rfl)
      have c2 := (hB.out.cell (p := ⟨b0, o0 + h * 4 + 2, none⟩) hbl).trans (hc 2 _ rfl)
      have c3 := (hB.out.cell (p := ⟨b0, o0 + h * 4 + 3, none⟩) hbl).trans (hc 3 _ rfl)
      have eh : ((i : Int) + (j : Int)) / 2 = (h : Int) := by omega
      clear hc hk
      go_wp2_with fail
      with_reducible refine (q.out _ _ _ _ _).mono ?_
      rintro e w2 ⟨rfl, hb⟩
      have HB2 := zB hB hb
      clear hb
      have tt := cmpI_lt x0 id
      generalize cmpI x0 id = CC at *
      by_cases hx : x0 < id
      · have t1 : decide (CC < 0) = true := tt.trans (decide_eq_true hx)
        have hhp := hs.out.1 hx
        clear tt hx
        go_wp2_with fail
        go_roundw
        case rel => exact ⟨h + 1, j, by go_num, rfl, by show _ ≤ _; omega, hpj, hjl, HB2.out⟩
        case measure => simp [intOf]; omega
      · have t1 : decide (CC < 0) = false := tt.trans (decide_eq_false hx)
        have hhp : ¬ h < p := fun h2 => hx (hs.out.2 h2)
        clear tt hx
        go_wp2_with fail
        go_roundw
        case rel => exact ⟨i, h, rfl, rfl, hip, by show _ ≤ _; omega, by show _ ≤ _; omega, HB2.out⟩
        case measure => simp [intOf]; omega
    · obtain rfl : i = p := by omega
      obtain rfl : j = i := by omega
      have t0 : decide ((j : Int) < (j : Int)) = false := decide_eq_false (by omega)
      by_cases hjn : j < l.length
      · have t1 : decide ((j : Int) < (l.length : Int)) = true := decide_eq_true (by omega)
        have hge : l[j]? = some l[j] := List.getElem?_eq_getElem hjn
        obtain ⟨hk, b0, o0, rfl, hbl, hc⟩ := HI.out j _ hge
        rw [hge] at hF
        clear hge
        generalize l[j] = r at *
        obtain ⟨x0, x1, x2, x3, rfl⟩ : ∃ x0 x1 x2 x3, r = [x0, x1, x2, x3] := by
          match r, hk with
          | [x0, x1, x2, x3], _ => exact ⟨x0, x1, x2, x3, rfl⟩
        have hF : Hid (F = decide (x0 = id)) := hF
        have c0 := (hB.out.cell (p := ⟨b0, o0 + j * 4, none⟩) hbl).trans (hc 0 _ rfl)
        have c1 := (hB.out.cell (p := ⟨b0, o0 + j * 4 + 1, none⟩) hbl).trans (hc 1 _ rfl)
        have c2 := (hB.out.cell (p := ⟨b0, o0 + j * 4 + 2, none⟩) hbl).trans (hc 2 _ rfl)
        have c3 := (hB.out.cell (p := ⟨b0, o0 + j * 4 + 3, none⟩) hbl).trans (hc 3 _ rfl)
        clear hc hk
        go_wp2_with fail
        with_reducible refine (q.out _ _ _ _ _).mono ?_
        rintro e w2 ⟨rfl, hb⟩
        have HB2 := zB hB hb
        clear hb
        have tt := cmpI_eq x0 id
        rw [← hF.out] at tt
        generalize cmpI x0 id = CC at *
        go_wp2_with fail
        go_ret2
        exact ⟨rfl, HB2.out⟩
      · have t1 : decide ((j : Int) < (l.length : Int)) = false := decide_eq_false (by omega)
        have hF : Hid (F = false) := by
          show F = false
          rw [hF.out, List.getElem?_eq_none (by omega)]
        obtain rfl : F = false := hF.out
        go_wp2_with fail
        go_ret2
        exact ⟨rfl, hB.out⟩
set_option maxRecDepth 100000 in
theorem byOpen_any (a b c d u v id : Int) (w : World) : Calls Tryz.prog 135 #[.agg #[.int .i64 a, .int .i64 b, .int .i64 c, .int .i64 d, .int .i64 u, .int .i64 v], .int .i64 id] w fun e w' => e = .returned (.int .i64 (cmpI a id)) ∧ Below w.heap.size w w' := by
  have q := zH (fun w => Compare_any a id w)
  have c0 := cells_of_blk (heap_new w (.cells #[.int .i64 a, .int .i64 b, .int .i64 c, .int .i64 d, .int .i64 u, .int .i64 v] 86)) 0 _ rfl
  go_enter Tryz.func135, Tryz.ntmps135
  go_wp2_with fail
  with_reducible refine (q.out _).mono ?_
  rintro e w1 ⟨rfl, rfl⟩
  go_wp2_with fail
  go_ret
  exact ⟨rfl, below_alloc (Below.refl _ _) (Nat.le_refl _) _⟩
set_option maxRecDepth 100000 in
set_option maxHeartbeats 2000000 in
theorem SearchOpen_any (v : Value) (l : List (List Int)) (id : Int) (p : Nat) (F : Bool) (w : World) (hv : Hid (RecAt w v 6 l)) (hl : l.length ≤ 1000000) (hp : p ≤ l.length) (hlt : Hid (∀ (h : Nat) (r : List Int), l[h]? = some r → (r.headD 0 < id ↔ h < p))) (hF : Hid (F = match l[p]? with | some r => decide (r.headD 0 = id) | none => false)) :
    Calls Tryz.prog 180 #[v, .int .i64 id, .func (.func 135) #[] #[]] w fun e w' => e = .returned (.tuple #[.int .i64 p, .bool F]) ∧ Below w.heap.size w w' := by
  obtain ⟨A, c, rfl, hi⟩ := hv.out
  have HI := zH hi
  clear hi
  have q := zH (fun x0 x1 x2 x3 x4 x5 w => byOpen_any x0 x1 x2 x3 x4 x5 id w)
  go_enter Tryz.func180, Tryz.ntmps180
  go_wp2_with fail
  go_loopw [9, 10] (fun s9 s10 wr => ∃ i j : Nat, s9 = .int .i64 i ∧ s10 = .int .i64 j ∧ Hid (i ≤ p) ∧ Hid (p ≤ j) ∧ Hid (j ≤ l.length) ∧ Hid (Below w.heap.size w wr)) (fun s9 s10 _ => (intOf s10).toNat - (intOf s9).toNat)
  case atStart => exact ⟨0, l.length, rfl, rfl, Nat.zero_le _, hp, Nat.le_refl _, Below.refl _ _⟩
  case round =>
    obtain ⟨i, j, rfl, rfl, hip, hpj, hjl, hB⟩ := hrel
    have hip := hip.out
    have hpj := hpj.out
    have hjl := hjl.out
    by_cases hij : i < j
    · have t0 : decide ((i : Int) < (j : Int)) = true := decide_eq_true (by omega)
      obtain ⟨h, hh⟩ : ∃ h, (i + j) / 2 = h := ⟨_, rfl⟩
      have hh1 : i ≤ h ∧ h < j := by omega
      have hge : l[h]? = some l[h] := List.getElem?_eq_getElem (by omega)
      obtain ⟨hk, b0, o0, rfl, hbl, hc⟩ := HI.out h _ hge
      have hs := zH (hlt.out h _ hge)
      clear hge
      generalize l[h] = r at *
      obtain ⟨x0, x1, x2, x3, x4, x5, rfl⟩ : ∃ x0 x1 x2 x3 x4 x5, r = [x0, x1, x2, x3, x4, x5] := by
        match r, hk with
        | [x0, x1, x2, x3, x4, x5], _ => exact ⟨x0, x1, x2, x3, x4, x5, rfl⟩
      have hs : Hid (x0 < id ↔ h < p) := hs
      have c0 := (hB.out.cell (p := ⟨b0, o0 + h * 6, none⟩) hbl).trans (hc 0 _ rfl)
      have c1 := (hB.out.cell (p := ⟨b0, o0 + h * 6 + 1, none⟩) hbl).trans (hc 1 _ rfl)
      have c2 := (hB.out.cell (p := ⟨b0, o0 + h * 6 + 2, none⟩) hbl).trans (hc 2 _ rfl)
      have c3 := (hB.out.cell (p := ⟨b0, o0 + h * 6 + 3, none⟩) hbl).trans (hc 3 _ rfl)
      have c4 := (hB.out.cell (p := ⟨b0, o0 + h * 6 + 4, none⟩) hbl).trans (hc 4 _ rfl)
      have c5 := (hB.out.cell (p := ⟨b0, o0 + h * 6 + 5, none⟩) hbl).trans (hc 5 _ rfl)
      have eh : ((i : Int) + (j : Int)) / 2 = (h : Int) := by omega
      clear hc hk
      go_wp2_with fail
      with_reducible refine (q.out _ _ _ _ _ _ _).mono ?_
      rintro e w2 ⟨rfl, hb⟩
      have HB2 := zB hB hb
      clear hb
      have tt := cmpI_lt x0 id
      generalize cmpI x0 id = CC at *
      by_cases hx : x0 < id
      · have t1 : decide (CC < 0) = true := tt.trans (decide_eq_true hx)
        have hhp := hs.out.1 hx
        clear tt hx
        go_wp2_with fail
        go_roundw
        case rel => exact ⟨h + 1, j, by go_num, rfl, by show _ ≤ _; omega, hpj, hjl, HB2.out⟩
        case measure => simp [intOf]; omega
      · have t1 : decide (CC < 0) = false := tt.trans (decide_eq_false hx)
        have hhp : ¬ h < p := fun h2 => hx (hs.out.2 h2)
        clear tt hx
        go_wp2_with fail
        go_roundw
        case rel => exact ⟨i, h, rfl, rfl, hip, by show _ ≤ _; omega, by show _ ≤ _; omega, HB2.out⟩
        case measure => simp [intOf]; omega
    · obtain rfl : i = p := by omega
      obtain rfl : j = i := by omega
      have t0 : decide ((j : Int) < (j : Int)) = false := decide_eq_false (by omega)
      by_cases hjn : j < l.length
      · have t1 : decide ((j : Int) < (l.length : Int)) = true := decide_eq_true (by omega)
        have hge : l[j]? = some l[j] := List.getElem?_eq_getElem hjn
        obtain ⟨hk, b0, o0, rfl, hbl, hc⟩ := HI.out j _ hge
        rw [hge] at hF
        clear hge
        generalize l[j] = r at *
        obtain ⟨x0, x1, x2, x3, x4, x5, rfl⟩ : ∃ x0 x1 x2 x3 x4 x5, r = [x0, x1, x2, x3, x4, x5] := by
          match r, hk with
          | [x0, x1, x2, x3, x4, x5], _ => exact ⟨x0, x1, x2, x3, x4, x5, rfl⟩
        have hF : Hid (F = decide (x0 = id)) := hF
        have c0 := (hB.out.cell (p := ⟨b0, o0 + j * 6, none⟩) hbl).trans (hc 0 _ rfl)
        have c1 := (hB.out.cell (p := ⟨b0, o0 + j * 6 + 1, none⟩) hbl).trans (hc 1 _ rfl)
        have c2 := (hB.out.cell (p := ⟨b0, o0 + j * 6 + 2, none⟩) hbl).trans (hc 2 _ rfl)
        have c3 := (hB.out.cell (p := ⟨b0, o0 + j * 6 + 3, none⟩) hbl).trans (hc 3 _ rfl)
        have c4 := (hB.out.cell (p := ⟨b0, o0 + j * 6 + 4, none⟩) hbl).trans (hc 4 _ rfl)
        have c5 := (hB.out.cell (p := ⟨b0, o0 + j * 6 + 5, none⟩) hbl).trans (hc 5 _ rfl)
        clear hc hk
        go_wp2_with fail
        with_reducible refine (q.out _ _ _ _ _ _ _).mono ?_
        rintro e w2 ⟨rfl, hb⟩
        have HB2 := zB hB hb
        clear hb
        have tt := cmpI_eq x0 id
        rw [← hF.out] at tt
        generalize cmpI x0 id = CC at *
        go_wp2_with fail
        go_ret2
        exact ⟨rfl, HB2.out⟩
      · have t1 : decide ((j : Int) < (l.length : Int)) = false := decide_eq_false (by omega)
        have hF : Hid (F = false) := by
          show F = false
          rw [hF.out, List.getElem?_eq_none (by omega)]
        obtain rfl : F = false := hF.out
        go_wp2_with fail
        go_ret2
        exact ⟨rfl, hB.out⟩
set_option maxRecDepth 100000 in
theorem byRate_any (a b id : Int) (w : World) : Calls Tryz.prog 138 #[.agg #[.int .i64 a, .int .i64 b], .int .i64 id] w fun e w' => e = .returned (.int .i64 (cmpI a id)) ∧ Below w.heap.size w w' := by
  have q := zH (fun w => Compare_any a id w)
  have c0 := cells_of_blk (heap_new w (.cells #[.int .i64 a, .int .i64 b] 88)) 0 _ rfl
  go_enter Tryz.func138, Tryz.ntmps138
  go_wp2_with fail
  with_reducible refine (q.out _).mono ?_
  rintro e w1 ⟨rfl, rfl⟩
  go_wp2_with fail
  go_ret
  exact ⟨rfl, below_alloc (Below.refl _ _) (Nat.le_refl _) _⟩
set_option maxRecDepth 100000 in
set_option maxHeartbeats 2000000 in
theorem SearchRate_any (v : Value) (l : List (List Int)) (id : Int) (p : Nat) (F : Bool) (w : World) (hv : Hid (RecAt w v 2 l)) (hl : l.length ≤ 1000000) (hp : p ≤ l.length) (hlt : Hid (∀ (h : Nat) (r : List Int), l[h]? = some r → (r.headD 0 < id ↔ h < p))) (hF : Hid (F = match l[p]? with | some r => decide (r.headD 0 = id) | none => false)) :
    Calls Tryz.prog 175 #[v, .int .i64 id, .func (.func 138) #[] #[]] w fun e w' => e = .returned (.tuple #[.int .i64 p, .bool F]) ∧ Below w.heap.size w w' := by
  obtain ⟨A, c, rfl, hi⟩ := hv.out
  have HI := zH hi
  clear hi
  have q := zH (fun x0 x1 w => byRate_any x0 x1 id w)
  go_enter Tryz.func175, Tryz.ntmps175
  go_wp2_with fail
  go_loopw [9, 10] (fun s9 s10 wr => ∃ i j : Nat, s9 = .int .i64 i ∧ s10 = .int .i64 j ∧ Hid (i ≤ p) ∧ Hid (p ≤ j) ∧ Hid (j ≤ l.length) ∧ Hid (Below w.heap.size w wr)) (fun s9 s10 _ => (intOf s10).toNat - (intOf s9).toNat)
  case atStart => exact ⟨0, l.length, rfl, rfl, Nat.zero_le _, hp, Nat.le_refl _, Below.refl _ _⟩
  case round =>
    obtain ⟨i, j, rfl, rfl, hip, hpj, hjl, hB⟩ := hrel
    have hip := hip.out
    have hpj := hpj.out
    have hjl := hjl.out
    by_cases hij : i < j
    · have t0 : decide ((i : Int) < (j : Int)) = true := decide_eq_true (by omega)
      obtain ⟨h, hh⟩ : ∃ h, (i + j) / 2 = h := ⟨_, rfl⟩
      have hh1 : i ≤ h ∧ h < j := by omega
      have hge : l[h]? = some l[h] := List.getElem?_eq_getElem (by omega)
      obtain ⟨hk, b0, o0, rfl, hbl, hc⟩ := HI.out h _ hge
      have hs := zH (hlt.out h _ hge)
      clear hge
      generalize l[h] = r at *
      obtain ⟨x0, x1, rfl⟩ : ∃ x0 x1, r = [x0, x1] := by
        match r, hk with
        | [x0, x1], _ => exact ⟨x0, x1, rfl⟩
      have hs : Hid (x0 < id ↔ h < p) := hs
      have c0 := (hB.out.cell (p := ⟨b0, o0 + h * 2, none⟩) hbl).trans (hc 0 _ rfl)
      have c1 := (hB.out.cell (p := ⟨b0, o0 + h * 2 + 1, none⟩) hbl).trans (hc 1 _ rfl)
      have eh : ((i : Int) + (j : Int)) / 2 = (h : Int) := by omega
      clear hc hk
      go_wp2_with fail
      with_reducible refine (q.out _ _ _).mono ?_
      rintro e w2 ⟨rfl, hb⟩
      have HB2 := zB hB hb
      clear hb
      have tt := cmpI_lt x0 id
      generalize cmpI x0 id = CC at *
      by_cases hx : x0 < id
      · have t1 : decide (CC < 0) = true := tt.trans (decide_eq_true hx)
        have hhp := hs.out.1 hx
        clear tt hx
        go_wp2_with fail
        go_roundw
        case rel => exact ⟨h + 1, j, by go_num, rfl, by show _ ≤ _; omega, hpj, hjl, HB2.out⟩
        case measure => simp [intOf]; omega
      · have t1 : decide (CC < 0) = false := tt.trans (decide_eq_false hx)
        have hhp : ¬ h < p := fun h2 => hx (hs.out.2 h2)
        clear tt hx
        go_wp2_with fail
        go_roundw
        case rel => exact ⟨i, h, rfl, rfl, hip, by show _ ≤ _; omega, by show _ ≤ _; omega, HB2.out⟩
        case measure => simp [intOf]; omega
    · obtain rfl : i = p := by omega
      obtain rfl : j = i := by omega
      have t0 : decide ((j : Int) < (j : Int)) = false := decide_eq_false (by omega)
      by_cases hjn : j < l.length
      · have t1 : decide ((j : Int) < (l.length : Int)) = true := decide_eq_true (by omega)
        have hge : l[j]? = some l[j] := List.getElem?_eq_getElem hjn
        obtain ⟨hk, b0, o0, rfl, hbl, hc⟩ := HI.out j _ hge
        rw [hge] at hF
        clear hge
        generalize l[j] = r at *
        obtain ⟨x0, x1, rfl⟩ : ∃ x0 x1, r = [x0, x1] := by
          match r, hk with
          | [x0, x1], _ => exact ⟨x0, x1, rfl⟩
        have hF : Hid (F = decide (x0 = id)) := hF
        have c0 := (hB.out.cell (p := ⟨b0, o0 + j * 2, none⟩) hbl).trans (hc 0 _ rfl)
        have c1 := (hB.out.cell (p := ⟨b0, o0 + j * 2 + 1, none⟩) hbl).trans (hc 1 _ rfl)
        clear hc hk
        go_wp2_with fail
        with_reducible refine (q.out _ _ _).mono ?_
        rintro e w2 ⟨rfl, hb⟩
        have HB2 := zB hB hb
        clear hb
        have tt := cmpI_eq x0 id
        rw [← hF.out] at tt
        generalize cmpI x0 id = CC at *
        go_wp2_with fail
        go_ret2
        exact ⟨rfl, HB2.out⟩
      · have t1 : decide ((j : Int) < (l.length : Int)) = false := decide_eq_false (by omega)
        have hF : Hid (F = false) := by
          show F = false
          rw [hF.out, List.getElem?_eq_none (by omega)]
        obtain rfl : F = false := hF.out
        go_wp2_with fail
        go_ret2
        exact ⟨rfl, hB.out⟩
end Go.Proofs.YtjcdpmianmgiaaaGreatDoor
namespace Go.Proofs.YtjcdpmianmgiaaaGreatDoor
open Go Go.RowKit
section
variable {P : Program} {ops : Array Oper} {md : Region.Mode} {C : World → Prop}
def OnlyN (Q : Exit → Act → World → Prop) : Exit → Act → World → Prop
  | .normal, a, w => Q .normal a w
  | .outgrown, a, w => Q .outgrown a w
  | _, _, _ => False
theorem OnlyN_normal (Q : Exit → Act → World → Prop) (a : Act) (w : World) : OnlyN Q .normal a w = Q .normal a w := rfl
theorem OnlyN.to {Q : Exit → Act → World → Prop} : ∀ (x : Exit) (a : Act) (w : World), OnlyN Q x a w → Q x a w
  | .normal, _, _, h => h
  | .outgrown, _, _, h => h
  | .exit _, _, _, h => h.elim
  | .goto _, _, _, h => h.elim
  | .ret, _, _, h => h.elim
  | .panic _, _, _, h => h.elim
theorem letsOut_mono {Q Q' : Exit → Act → World → Prop} (h : ∀ x a w, Q x a w → Q' x a w) (hh : LetsOut Q) : LetsOut Q' :=
  let ⟨a, w, h1⟩ := hh
  ⟨a, w, h _ _ _ h1⟩
theorem upon_exit {Q Q' : Exit → Act → World → Prop} (h : ∀ x a w, Q x a w → Q' x a w) {o : Oper} {a : Act} {K : Act → World → Prop} {r : Result Next} (hh : o.upon P a K Q r) : o.upon P a K Q' r := by
  cases r with
  | ok n w' =>
    cases n with
    | enter f args =>
      refine Calls.mono (R := fun e w'' => match e, w'' with
        | .returned v, w'' => K (a.put o.dst v) w''
        | .panicked chain, w'' => Q (.panic chain) a w''
        | .outgrown, _ => LetsOut Q) hh ?_
      intro e w'' he
      cases e with
      | returned v => exact he
      | panicked c => exact h _ _ _ he
      | outgrown => exact letsOut_mono h he
    | _ => exact hh
  | halt x w' =>
    cases x with
    | panic v => exact h _ _ _ hh
    | _ => exact hh
theorem wpOp_exit {Q Q' : Exit → Act → World → Prop} (h : ∀ x a w, Q x a w → Q' x a w) {i : Nat} {K : Act → World → Prop} {a : Act} {w : World} (hh : wpOp P ops Q i K a w) : wpOp P ops Q' i K a w := by
  unfold wpOp at *
  split
  · simpa [*] using hh
  · rename_i o ho
    simp only [ho] at hh
    split
    · rename_i hw; simp only [hw, if_true] at hh
      exact hh.imp (fun h1 => upon_exit h h1) (fun h1 => ⟨h1.1, letsOut_mono h h1.2⟩)
    · rename_i hw; simp only [hw] at hh; exact hh
theorem wpAny_exit {Q Q' : Exit → Act → World → Prop} (h : ∀ x a w, Q x a w → Q' x a w) : ∀ (f : Nat) (listed : Array Bool) (a : Act) (w : World), wpAny P md ops Q f listed a w → wpAny P md ops Q' f listed a w
  | 0, _, _, _, hh => ⟨hh.1, h _ _ _ hh.2⟩
  | f + 1, _, _, _, hh => ⟨fun h0 => h _ _ _ (hh.1 h0), fun i hi => wpOp_mono (fun a' w' h' => wpAny_exit h f _ a' w' h') (wpOp_exit h (hh.2 i hi))⟩
theorem upon_put {Q : Exit → Act → World → Prop} {oi oj : Oper} {v : Value} {K : Act → World → Prop} {a : Act} {r : Result Next} (h2 : ∀ d, oi.dst = some d → oj.dst ≠ some d)
    (h : oj.upon P (a.put oi.dst v) K (OnlyN Q) r) : oj.upon P a (fun a' w' => K (a'.put oi.dst v) w') (OnlyN Q) r := by
  have hc : ∀ u, (a.put oi.dst v).put oj.dst u = (a.put oj.dst u).put oi.dst v := fun u => Act.put_comm a v u h2
  cases r with
  | ok n w' =>
    cases n with
    | value u => show K _ _; rw [← hc]; exact h
    | skip => show K _ _; rw [← hc]; exact h
    | defer d =>
      show K _ _
      have h' : K (({ (a.put oi.dst v) with defers := d :: (a.put oi.dst v).defers } : Act).put oj.dst undef) w' := h
      have e : (({ (a.put oi.dst v) with defers := d :: (a.put oi.dst v).defers } : Act).put oj.dst undef) = (({ a with defers := d :: a.defers } : Act).put oj.dst undef).put oi.dst v := by
        have e0 : ({ (a.put oi.dst v) with defers := d :: (a.put oi.dst v).defers } : Act) = ({ a with defers := d :: a.defers } : Act).put oi.dst v := by
          cases hd : oi.dst <;> rfl
        rw [e0]
        exact Act.put_comm _ v undef h2
      rw [← e]
      exact h'
    | enter f args =>
      refine Calls.mono (R := fun e w'' => match e, w'' with
        | .returned u, w'' => K ((a.put oi.dst v).put oj.dst u) w''
        | .panicked chain, w'' => OnlyN Q (.panic chain) (a.put oi.dst v) w''
        | .outgrown, _ => LetsOut (OnlyN Q)) h ?_
      intro e w'' he
      cases e with
      | returned u => show K _ _; rw [← hc]; exact he
      | panicked c => exact he.elim
      | outgrown => exact he
    | row row args =>
      have h' : Rows P row args w' fun u w'' => K ((a.put oi.dst v).put oj.dst u) w'' := h
      show Rows P row args w' fun u w'' => K ((a.put oj.dst u).put oi.dst v) w''
      have e : (fun u w'' => K ((a.put oj.dst u).put oi.dst v) w'') = fun u w'' => K ((a.put oi.dst v).put oj.dst u) w'' := by funext u w''; rw [hc]
      rw [e]
      exact h'
    | _ => exact h
  | halt x w' =>
    cases x with
    | panic u => exact h.elim
    | _ => exact h
theorem wpOp_put {j : Nat} {Q : Exit → Act → World → Prop} {oi oj : Oper} {v : Value} (hj : ops[j]? = some oj) (hap : oi.apart ops oj = true) (hsj : ∀ cs b, oj.op ≠ .select cs b) {K : Act → World → Prop} {a : Act} {w : World}
    (h : wpOp P ops (OnlyN Q) j K (a.put oi.dst v) w) : wpOp P ops (OnlyN Q) j (fun a' w' => K (a'.put oi.dst v) w') a w := by
  obtain ⟨h1, h2, h3⟩ := Oper.apart_spec hap
  unfold wpOp at *
  simp only [hj] at *
  rw [wanted_put oj a oi.dst v h1] at h
  split
  · rename_i hw
    simp only [hw, if_true] at h
    refine h.imp (fun h => ?_) (fun h => ?_)
    · unfold Oper.wp at *
      rw [execOp_put oj hsj a oi.dst v h1] at h
      exact upon_put h2 h
    · unfold Oper.asks at *
      rw [execOp_put oj hsj a oi.dst v h1] at h
      exact h
  · rename_i hw
    simp only [hw] at h
    show K _ _
    rw [← Act.put_comm a v undef h2]
    exact h
theorem upon_and {Q : Exit → Act → World → Prop} {o : Oper} {a : Act} {K : Act → World → Prop} {F : Act → Prop} (hF : ∀ u, F (a.put o.dst u)) (hD : ∀ d, F (({ a with defers := d :: a.defers } : Act).put o.dst undef)) {r : Result Next} (h : o.upon P a K Q r) :
    o.upon P a (fun a' w' => F a' ∧ K a' w') Q r := by
  cases r with
  | ok n w' =>
    cases n with
    | value u => exact ⟨hF u, h⟩
    | skip => exact ⟨hF _, h⟩
    | defer d => exact ⟨hD d, h⟩
    | enter f args =>
      refine Calls.mono (R := fun e w'' => match e, w'' with
        | .returned u, w'' => K (a.put o.dst u) w''
        | .panicked chain, w'' => Q (.panic chain) a w''
        | .outgrown, _ => LetsOut Q) h ?_
      intro e w'' he
      cases e with
      | returned u => exact ⟨hF u, he⟩
      | panicked c => exact he
      | outgrown => exact he
    | row row args =>
      have h' : Rows P row args w' fun u w'' => K (a.put o.dst u) w'' := h
      exact h'.mono fun u w'' hk => ⟨hF u, hk⟩
    | _ => exact h
  | halt x w' =>
    cases x with
    | panic u => exact h
    | _ => exact h
theorem wpOp_and {j : Nat} {Q : Exit → Act → World → Prop} {oj : Oper} (hj : ops[j]? = some oj) {K : Act → World → Prop} {F : Act → Prop} {a : Act} {w : World} (hF : ∀ u, F (a.put oj.dst u)) (hD : ∀ d, F (({ a with defers := d :: a.defers } : Act).put oj.dst undef))
    (h : wpOp P ops Q j K a w) : wpOp P ops Q j (fun a' w' => F a' ∧ K a' w') a w := by
  unfold wpOp at *
  simp only [hj] at *
  split
  · rename_i hw
    simp only [hw, if_true] at h
    exact h.imp (fun h => upon_and hF hD h) id
  · rename_i hw
    simp only [hw] at h
    exact ⟨hF _, h⟩
end
end Go.Proofs.YtjcdpmianmgiaaaGreatDoor
namespace Go.Proofs.YtjcdpmianmgiaaaGreatDoor
open Go Go.RowKit
section
variable {P : Program} {ops : Array Oper} {md : Region.Mode} {C : World → Prop}
def isMv (o : Oper) : Bool := match o.op, o.guard with
  | .move _, none => true
  | _, _ => false
theorem move_run {o : Oper} {x : Operand} (h : o.op = .move x) (a : Act) (w : World) : (execOp a.eval o).run P w = .ok (.value (a.eval x)) w := by
  unfold execOp
  rw [h]
  rfl
theorem wanted_none {o : Oper} (h : o.guard = none) (Y : Nat → Option Bool) : Region.wanted o Y = true := by
  unfold Region.wanted
  rw [h]
def setAll : List Nat → Array Bool → Array Bool
  | [], L => L
  | i :: hs, L => setAll hs (L.setIfInBounds i true)
def hoistB (md : Region.Mode) (ops : Array Oper) (n : Nat) : List Nat → Array Bool → Bool
  | [], _ => true
  | i :: hs, L => decide (i < n) && (Region.ready md ops L).contains i && Region.free md ops L i && (match ops[i]? with | some o => isMv o | none => false) && hoistB md ops n hs (L.setIfInBounds i true)
def opsAt (ops : Array Oper) : List Nat → List Oper
  | [] => []
  | k :: ks => match ops[k]? with
    | some o => o :: opsAt ops ks
    | none => []
end
end Go.Proofs.YtjcdpmianmgiaaaGreatDoor
namespace Go.Proofs.YtjcdpmianmgiaaaGreatDoor
open Go Go.RowKit
section
variable {P : Program} {ops : Array Oper} {md : Region.Mode} {C : World → Prop}
def PureC (P : Program) (ops : Array Oper) (C : World → Prop) (o : Oper) (v : Value) (a : Act) : Prop :=
  (Region.wanted o (yielded ops a.tmps) = true ∧ ∀ w, C w → (execOp a.eval o).run P w = .ok (.value v) w) ∨ (Region.wanted o (yielded ops a.tmps) = false ∧ v = undef)
theorem PureC.keep {oi oj : Oper} {v : Value} (hap : oi.apart ops oj = true) (hsi : ∀ cs b, oi.op ≠ .select cs b) {a : Act} (hy : PureC P ops C oi v a) (u : Value) : PureC P ops C oi v (a.put oj.dst u) := by
  obtain ⟨_, _, h3⟩ := Oper.apart_spec hap
  unfold PureC at *
  rw [execOp_put oi hsi a oj.dst u h3, wanted_put oi a oj.dst u h3]
  exact hy
theorem PureC.keepD {oi oj : Oper} {v : Value} (hap : oi.apart ops oj = true) (hsi : ∀ cs b, oi.op ≠ .select cs b) {a : Act} (hy : PureC P ops C oi v a) (d : Deferred) : PureC P ops C oi v (({ a with defers := d :: a.defers } : Act).put oj.dst undef) := by
  obtain ⟨_, _, h3⟩ := Oper.apart_spec hap
  have hy' : PureC P ops C oi v ({ a with defers := d :: a.defers } : Act) := hy
  exact PureC.keep hap hsi hy' undef
theorem PureC.wpOp {i : Nat} {Q : Exit → Act → World → Prop} {o : Oper} {v : Value} {a : Act} {w : World} {K : Act → World → Prop} (hi : ops[i]? = some o) (hw : C w) (hy : PureC P ops C o v a) (h : K (a.put o.dst v) w) : wpOp P ops Q i K a w := by
  unfold Go.wpOp
  simp only [hi]
  rcases hy with ⟨hwd, hr⟩ | ⟨hwd, rfl⟩
  · simp only [hwd, if_true]
    left
    unfold Oper.wp
    rw [hr w hw]
    exact h
  · simp only [hwd, Bool.false_eq_true, if_false]
    exact h
def wpAnyC (P : Program) (md : Region.Mode) (ops : Array Oper) (C : World → Prop) (Q : Exit → Act → World → Prop) : Nat → Array Bool → Act → World → Prop
  | 0, listed, a, w => Region.ready md ops listed = [] ∧ Q .normal a w
  | f + 1, listed, a, w =>
    (Region.ready md ops listed = [] → Q .normal a w) ∧
    ∀ i ∈ Region.ready md ops listed, wpOp P ops Q i (fun a' w' => C w' ∧ wpAnyC P md ops C Q f (listed.setIfInBounds i true) a' w') a w
theorem wpAny_of_C {Q : Exit → Act → World → Prop} : ∀ (f : Nat) (listed : Array Bool) (a : Act) (w : World), wpAnyC P md ops C Q f listed a w → wpAny P md ops Q f listed a w
  | 0, _, _, _, h => h
  | f + 1, _, _, _, h => ⟨h.1, fun i hi => wpOp_mono (fun a' w' h' => wpAny_of_C f _ a' w' h'.2) (h.2 i hi)⟩
theorem wpAnyC_hoist {i : Nat} {oi : Oper} {v : Value} {Q : Exit → Act → World → Prop} (hi : ops[i]? = some oi) (hsel : ∀ (j : Nat) (o : Oper) cs b, ops[j]? = some o → o.op ≠ .select cs b) :
    ∀ (f : Nat) (listed : Array Bool) (a : Act) (w : World), C w →
      (∀ j oj, ops[j]? = some oj → j ≠ i → listed.getD j true = false → (∀ e ∈ oj.after, Region.binds md e = true → e.on ≠ i) → oi.apart ops oj = true) →
      i ∈ Region.ready md ops listed → PureC P ops C oi v a →
      wpAnyC P md ops C (OnlyN Q) f (listed.setIfInBounds i true) (a.put oi.dst v) w → wpAnyC P md ops C (OnlyN Q) (f + 1) listed a w := by
  intro f
  induction f with
  | zero =>
    intro listed a w hw _ hr hy H
    refine ⟨fun h => (by rw [h] at hr; cases hr), fun j hj => ?_⟩
    by_cases hji : j = i
    · subst hji; exact hy.wpOp hi hw ⟨hw, H⟩
    · have := ready_mono hj hji
      rw [H.1] at this
      cases this
  | succ f ih =>
    intro listed a w hw hfree hr hy H
    refine ⟨fun h => (by rw [h] at hr; cases hr), fun j hj => ?_⟩
    by_cases hji : j = i
    · subst hji; exact hy.wpOp hi hw ⟨hw, H⟩
    · have h1 := H.2 j (ready_mono hj hji)
      obtain ⟨hjun, oj, hoj, hall⟩ := mem_ready.1 hj
      have hnot : ∀ e ∈ oj.after, Region.binds md e = true → e.on ≠ i := fun e he hb heq => by
        have h1 := hall e he hb
        have h0 := (mem_ready.1 hr).1
        rw [heq, getD_both h0] at h1
        cases h1
      have hap := hfree j oj hoj hji hjun hnot
      have h2 := wpOp_put hoj hap (fun cs b => hsel j oj cs b hoj) h1
      have h3 := wpOp_and hoj (F := fun a' => PureC P ops C oi v a') (fun u => hy.keep hap (fun cs b => hsel i oi cs b hi) u) (fun d => hy.keepD hap (fun cs b => hsel i oi cs b hi) d) h2
      have hfree' : ∀ k ok, ops[k]? = some ok → k ≠ i → (listed.setIfInBounds j true).getD k true = false →
          (∀ e ∈ ok.after, Region.binds md e = true → e.on ≠ i) → oi.apart ops ok = true := fun k ok hk hki hun hno => by
        refine hfree k ok hk hki ?_ hno
        by_cases hjk : j = k
        · subst hjk; exact hjun
        · rw [getD_set_ne true hjk] at hun; exact hun
      refine wpOp_mono (fun a' w' h4 => ⟨h4.2.1, ih (listed.setIfInBounds j true) a' w' h4.2.1 hfree' (ready_mono hr (Ne.symm hji)) h4.1 ?_⟩) h3
      rw [Array.setIfInBounds_comm _ _ hji]
      exact h4.2.2
def StepQ (C : World → Prop) (Q : Exit → Act → World → Prop) (K : Act → World → Prop) : Exit → Act → World → Prop
  | .normal, a, w => C w ∧ K a w
  | x, a, w => Q x a w
theorem StepQ_normal (C : World → Prop) (Q : Exit → Act → World → Prop) (K : Act → World → Prop) (a : Act) (w : World) : StepQ C Q K .normal a w = (C w ∧ K a w) := rfl
def seqT (md : Region.Mode) (ops : Array Oper) : List Nat → Array Bool → Bool
  | [], L => (Region.ready md ops L).isEmpty
  | t :: ts, L => (Region.ready md ops L == [t]) && seqT md ops ts (L.setIfInBounds t true)
def wpPure (P : Program) (ops : Array Oper) (C : World → Prop) (K : Act → Prop) : List Oper → Act → Prop
  | [], a => K a
  | o :: l, a => ∃ v, PureC P ops C o v a ∧ wpPure P ops C K l (a.put o.dst v)
def headT (md : Region.Mode) (ops : Array Oper) : List Nat → Array Bool → Bool
  | [], _ => true
  | i :: hs, L => decide (i < ops.size) && (Region.ready md ops L).contains i && Region.free md ops L i && headT md ops hs (L.setIfInBounds i true)
theorem pure_all {Q : Exit → Act → World → Prop} {K : Act → Prop} {w : World} (hsel : Region.noSelect ops = true) (hw : C w) (f : Nat) :
    ∀ (hs : List Nat) (listed : Array Bool) (a : Act), headT md ops hs listed = true → wpPure P ops C K (opsAt ops hs) a →
    (∀ a', K a' → wpAnyC P md ops C (OnlyN Q) f (setAll hs listed) a' w) → wpAnyC P md ops C (OnlyN Q) (f + hs.length) listed a w
  | [], listed, a, _, h, H => H a (by simpa [opsAt, wpPure] using h)
  | i :: hs, listed, a, hB, h, H => by
    simp only [headT, Bool.and_eq_true, decide_eq_true_eq] at hB
    obtain ⟨⟨⟨hin, hr⟩, hf⟩, hB'⟩ := hB
    obtain ⟨o, h0⟩ : ∃ o, ops[i]? = some o := ⟨ops[i], Array.getElem?_eq_getElem hin⟩
    unfold opsAt at h
    rw [h0] at h
    obtain ⟨v, hy, h⟩ := h
    have hr' : i ∈ Region.ready md ops listed := by simpa using hr
    have := pure_all (Q := Q) hsel hw f hs _ _ hB' h H
    exact wpAnyC_hoist h0 (Region.noSelect_spec hsel) _ _ _ _ hw (Region.free_spec h0 hf) hr' hy this
theorem pure_move {K : Act → Prop} {o : Oper} {l : List Oper} {a : Act} {x : Operand} (ho : o.op = .move x) (hg : o.guard = none) (h : wpPure P ops C K l (a.put o.dst (a.eval x))) : wpPure P ops C K (o :: l) a :=
  ⟨_, .inl ⟨wanted_none hg _, fun w _ => move_run ho a w⟩, h⟩
theorem pure_at {K : Act → Prop} {o : Oper} {l : List Oper} {a : Act} (v : Value) (hg : o.guard = none) (hr : ∀ w, C w → (execOp a.eval o).run P w = .ok (.value v) w) (h : wpPure P ops C K l (a.put o.dst v)) : wpPure P ops C K (o :: l) a :=
  ⟨_, .inl ⟨wanted_none hg _, hr⟩, h⟩
end
end Go.Proofs.YtjcdpmianmgiaaaGreatDoor
namespace Go.Proofs.YtjcdpmianmgiaaaGreatDoor
open Go Go.RowKit
section
variable {P : Program} {ops : Array Oper} {md : Region.Mode} {C : World → Prop}
theorem wpOp_of_list {Q : Exit → Act → World → Prop} {K : Act → World → Prop} {i : Nat} {o : Oper} {a : Act} {w : World} (h0 : ops[i]? = some o) (hg : o.guard = none) (h : wpList P ops (StepQ C (OnlyN Q) K) [o] a w) :
    wpOp P ops (OnlyN Q) i (fun a' w' => C w' ∧ K a' w') a w := by
  unfold wpOp
  simp only [h0]
  unfold wpList at h
  rw [if_pos (wanted_none hg _)] at h ⊢
  rcases h with h | ⟨h1, a', w', h⟩
  · left
    unfold Oper.wp at h ⊢
    generalize (execOp a.eval o).run P w = r at h ⊢
    cases r with
    | ok n w' =>
      cases n with
      | value u => exact h
      | skip => exact h
      | defer d => exact h
      | enter f args =>
        refine Calls.mono (R := fun e w'' => match e, w'' with
          | .returned u, w'' => wpList P ops (StepQ C (OnlyN Q) K) [] (a.put o.dst u) w''
          | .panicked chain, w'' => (StepQ C (OnlyN Q) K) (.panic chain) a w''
          | .outgrown, _ => LetsOut (StepQ C (OnlyN Q) K)) h ?_
        intro e' w'' he
        cases e' with
        | returned u => exact he
        | panicked c => exact he
        | outgrown => obtain ⟨a1, w1, h1⟩ := he; exact ⟨a1, w1, h1⟩
      | row row args =>
        have h' : Rows P row args w' fun u w'' => wpList P ops (StepQ C (OnlyN Q) K) [] (a.put o.dst u) w'' := h
        exact h'.mono fun u w'' hk => hk
      | _ => exact h
    | halt x w' =>
      cases x with
      | panic u => exact h
      | _ => exact h
  · exact .inr ⟨h1, a', w', h⟩
theorem wpAnyC_one {Q : Exit → Act → World → Prop} (i : Nat) {o : Oper} {f : Nat} {L L' : Array Bool} {a : Act} {w : World} (hr : Region.ready md ops L = [i]) (hL : L.setIfInBounds i true = L') (h0 : ops[i]? = some o) (hg : o.guard = none)
    (h : wpList P ops (StepQ C (OnlyN Q) (wpAnyC P md ops C (OnlyN Q) f L')) [o] a w) : wpAnyC P md ops C (OnlyN Q) (f + 1) L a w := by
  subst hL
  refine ⟨fun h1 => (by rw [hr] at h1; cases h1), fun j hj => ?_⟩
  rw [hr] at hj
  obtain rfl : j = i := by simpa using hj
  exact wpOp_of_list h0 hg h
def headB (ops : Array Oper) (hs : List Nat) : Bool := Region.noSelect ops && headT .any ops hs (Array.replicate ops.size false)
theorem wp_region_branch {id : Nat} {Q : Exit → Act → World → Prop} {a : Act} {w : World} {l : List Oper} (hs : List Nat) (f : Nat) (L : Array Bool) (hm : P.follows .mixedOrders = true) (hB : headB l.toArray hs = true) (hf : f + hs.length = l.length) (hL : setAll hs (Array.replicate l.toArray.size false) = L) (C : World → Prop) (hC : C { w with drawn := w.drawn + 1 })
    (h : wpPure P l.toArray C (fun a' => wpAnyC P .any l.toArray C (OnlyN Q) f L a' { w with drawn := w.drawn + 1 }) (opsAt l.toArray hs) a) : (Code.region id l.toArray true).wp P Q a w := by
  subst hL
  simp only [headB, Bool.and_eq_true] at hB
  refine wp_region_any hm (wpAny_exit OnlyN.to _ _ _ _ (wpAny_of_C (C := C) _ _ _ _ ?_))
  have H := pure_all (P := P) (Q := Q) (C := C) (w := { w with drawn := w.drawn + 1 }) hB.1 hC f hs _ a hB.2 h (fun a' hq => hq)
  rw [hf] at H
  simpa using H
end
end Go.Proofs.YtjcdpmianmgiaaaGreatDoor
