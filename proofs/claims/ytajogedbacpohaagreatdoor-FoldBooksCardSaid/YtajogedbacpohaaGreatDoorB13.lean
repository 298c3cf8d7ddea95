/- Part 14 of what the claim rests on. -/
import Derived.Test.YtajogedbacpohaaGreatDoorB00
import Derived.Test.YtajogedbacpohaaGreatDoorB01
import Derived.Test.YtajogedbacpohaaGreatDoorB12
set_option linter.unusedVariables false
set_option linter.unusedSimpArgs false
set_option maxRecDepth 1000000
set_option maxHeartbeats 32000000
namespace Go.Proofs.YtajogedbacpohaaGreatDoor
section
open Go Go.RowKit
def stpC (s : Stp) : List Value := [.int .i64 s.rule, .int .i64 s.left, .int .i64 s.right, .bool s.over]
def flatS (l : List Stp) : List Value := l.flatMap stpC
theorem zz87 (l m : List Stp) : flatS (l ++ m) = flatS l ++ flatS m := by simp [flatS]
theorem zz91 : ∀ {l : List Stp} {i j : Nat} {s : Stp} {x : Value}, l[i]? = some s → (stpC s)[j]? = some x → (flatS l)[i * 4 + j]? = some x
 | [], i, j, s, x, hi, _ => by simp at hi
 | a :: t, 0, j, s, x, hi, hj => by
  obtain rfl : a = s := by simpa using hi
  rw [flatS, List.flatMap_cons, Nat.zero_mul, Nat.zero_add, List.getElem?_append_left (List.getElem?_eq_some_iff.1 hj).1, hj]
 | a :: t, i + 1, j, s, x, hi, hj => by
  rw [flatS, List.flatMap_cons, List.getElem?_append_right (by show 4 ≤ _; omega), show (i + 1) * 4 + j - (stpC a).length = i * 4 + j by show (i + 1) * 4 + j - 4 = _; omega]
  exact zz91 (by simpa using hi) hj
def StepsOwn (w : World) (B : Nat) (v : Value) (l : List Stp) : Prop := w.ownsRow B 65 4 v l.length (flatS l) ∧ ∀ s ∈ l, s.fit
theorem StepsOwn.nil (w : World) (B : Nat) : StepsOwn w B (.slice none 0 0) [] := ⟨World.ownsRow_nil _ _ _ _, fun s hs => by simp at hs⟩
theorem StepsOwn.form {w : World} {B : Nat} {v : Value} {l : List Stp} (h : StepsOwn w B v l) : ∃ A c, v = .slice A l.length c := by
 rcases h.1.2 with ⟨rfl, h0⟩ | ⟨g, cap, cur, rfl, _⟩
 ·exact ⟨none, 0, by rw [h0]⟩
 ·exact ⟨_, _, rfl⟩
theorem StepsOwn.kept {w w' : World} {B : Nat} {v : Value} {l : List Stp} (h : StepsOwn w B v l) (hb : Below w.heap.size w w') : StepsOwn w' B v l := by
 exact zt84
theorem StepsOwn.at {w : World} {B : Nat} {v : Value} {l : List Stp} (h : StepsOwn w B v l) : StepsAt w v l := by
 obtain ⟨ho, hk⟩ := h;rcases ho.2 with ⟨rfl, h0⟩ | ⟨g, cap, cur, rfl, hB, hg, hn, hm, hs, ht⟩
 ·obtain rfl : l = [] := List.eq_nil_of_length_eq_zero h0
  exact ⟨none, 0, rfl, fun i s hi => by simp at hi⟩
 ·refine ⟨some ⟨g, 0, none⟩, cap, rfl, fun i s hi => ⟨hk s (List.mem_of_getElem? hi), g, 0, rfl, (zL hg), ?_⟩⟩
  have key : ∀ j x, (stpC s)[j]? = some x → w.cell? ⟨g, 0 + (i * 4 + j), none⟩ = some x := fun j x hj => by
   have := ho.cells (g := g) rfl (i * 4 + j) x (zz91 hi hj)
   rwa [Addr.add_lit] at this
  refine ⟨key 0 _ rfl, ?_, ?_, ?_⟩
  ·have := key 1 _ rfl; rwa [← Nat.add_assoc] at this
  ·have := key 2 _ rfl; rwa [← Nat.add_assoc] at this
  ·have := key 3 _ rfl; rwa [← Nat.add_assoc] at this
theorem StepsOwn.ne {w : World} {B : Nat} {v : Value} {l : List Stp} (h : StepsOwn w B v l) {g : Nat} {cs : Array Value} {t : TypeId} {fr : Nat × Nat} (hg : w.heap[g]? = some (.cells cs t fr)) (hne : t ≠ 65) : v.ownBlock ≠ some g := by
 rcases h.1.2 with h | ⟨g', cap, cur, h1, h2, h3, h4⟩
 ·rw [h.1]; intro e'; cases e'
 ·rw [h1]
  intro e';have e2 : g' = g := by simpa [Value.ownBlock] using e'
  subst e2;rw [hg] at h3;injection h3 with h3
  injection h3 with _ h3 _
  exact hne h3
theorem StepsOwn.setOther {w : World} {B : Nat} {v : Value} {l : List Stp} (h : StepsOwn w B v l) {g : Nat} {cs : Array Value} {t : TypeId} {fr : Nat × Nat} (hg : w.heap[g]? = some (.cells cs t fr)) (hne : t ≠ 65) (i : Nat) (u : Value) : StepsOwn (w.setCell ⟨g, i, none⟩ u) B v l := by
 have hn := h.ne hg hne;refine ⟨h.1.kept (row := some g) (zzbc ⟨rfl, rfl, rfl, Nat.le_refl _, fun _ _ _ => rfl⟩ i u) ?_, h.2⟩
 exact .inr hn
theorem zz93 : Elt Tryz.prog 34 65 (.agg #[.int .i64 0, .int .i64 0, .int .i64 0, .bool false]) 4 32 := Elt.mk' Tryz.underlying34 zk rfl zx
structure Off (w w' : World) : Prop where
 size : w.heap.size ≤ w'.heap.size
 blk : ∀ (p : Nat) (cs : Array Value) (t : TypeId) (fr : Nat × Nat), w.heap[p]? = some (.cells cs t fr) → t ≠ 68 → t ≠ 65 → w'.heap[p]? = some (.cells cs t fr)
 map : ∀ (p clock : Nat) (es : Array MapEntry), w.heap[p]? = some (.map es clock) → w'.heap[p]? = some (.map es clock)
theorem Off.refl (w : World) : Off w w := ⟨Nat.le_refl _, fun _ _ _ _ h _ _ => h, fun _ _ _ h => h⟩
theorem Off.trans {a b c : World} (h : Off a b) (k : Off b c) : Off a c := ⟨Nat.le_trans h.size k.size, fun p cs t fr hp h1 h2 => k.blk p cs t fr (h.blk p cs t fr hp h1 h2) h1 h2, fun p c es hp => k.map p c es (h.map p c es hp)⟩
theorem Off.of {w w' : World} (h : Below w.heap.size w w') : Off w w' := ⟨h.size, fun p cs t fr hp _ _ => zz06 hp h, fun p c es hp => zz06 hp h⟩
theorem Off.set {w : World} {g : Nat} {cs : Array Value} {fr : Nat × Nat} (hg : w.heap[g]? = some (.cells cs 68 fr)) (i : Nat) (u : Value) : Off w (w.setCell ⟨g, i, none⟩ u) := by
 refine ⟨by simp [World.setCell], fun p cs' t fr' hp h1 h2 => zz09 hp i u (fun e => ?_), fun p c es hp => zz09 hp i u (fun e => ?_)⟩
 ·subst e
  rw [hg] at hp;injection hp with hp
  injection hp with _ hp _
  exact h1 hp.symm
 ·subst e
  rw [hg] at hp;injection hp with hp
  cases hp
theorem Off.fresh {w w' : World} (h : Off w w') {g : Nat} (hg : w.heap.size ≤ g) (i : Nat) (u : Value) : Off w (w'.setCell ⟨g, i, none⟩ u) := by
 refine ⟨by have := h.size; simpa [World.setCell] using this, fun p cs t fr hp h1 h2 => zz09 (h.blk p cs t fr hp h1 h2) i u (fun e => ?_), fun p c es hp => zz09 (h.map p c es hp) i u (fun e => ?_)⟩
 ·have := zL hp
  omega
 ·have := zL hp
  omega
theorem Off.fresh2 {w w' : World} (h : Off w w') {g : Nat} (hg : w.heap.size ≤ g) (i j : Nat) (u v : Value) : Off w ((w'.setCell ⟨g, i, none⟩ u).setCell ⟨g, j, none⟩ v) := (h.fresh hg i u).fresh hg j v
theorem Off.app {w w' : World} {B : Nat} {v : Value} {l : List Stp} (h : StepsOwn w B v l) (hs : w.heap.size ≤ w'.heap.size) (ho : ∀ (g : Nat) (ob : Obj), v.ownBlock ≠ some g → w.heap[g]? = some ob → w'.heap[g]? = some ob) : Off w w' :=
 ⟨hs, fun p cs t fr hp _ h2 => ho p _ (h.ne hp h2) hp, fun p c es hp => ho p _ (fun e => by
  rcases h.1.2 with h | ⟨g', cap, cur, h1, h2, h3, h4⟩
  ·rw [h.1] at e; cases e
  ·rw [h1] at e
   have e2 : g' = p := by simpa [Value.ownBlock] using e
   subst e2;rw [hp] at h3;injection h3 with h3
   cases h3) hp⟩
section
variable {P : Program} {ops : Array Oper} {rest : List Oper} {o : Oper} {a : Act} {Q : Exit → Act → World → Prop}
theorem zz12 {wr W : World} {B p : Nat} (s x : Operand) (t : TypeId) (he : Elt P t 65 (.agg #[.int .i64 0, .int .i64 0, .int .i64 0, .bool false]) 4 32) (r : Stp) (v : Value) (l : List Stp)
  (hb : Below B W wr) (hown : Hid (StepsOwn wr B v l)) (hB : B ≤ wr.heap.size) (hgd : o.guard = none) (ho : o.op = .call { callee := .builtin .append, args := #[s, x], argTypes := #[t, t] })
  (hs : a.eval s = v) (hx : a.eval x = .slice (some ⟨p, 0, none⟩) 1 1) (hp : p = wr.heap.size) (hr : r.fit) (hn : l.length + 1 ≤ 4000000)
  (h : ∀ v' w', Hid (StepsOwn w' B v' (l ++ [r])) → Hid (Below B W w') → B ≤ w'.heap.size → Hid (Off wr w') → Hid (∀ (g : Nat) (ob : Obj), v.ownBlock ≠ some g → wr.heap[g]? = some ob → w'.heap[g]? = some ob) → wpList P ops Q rest (a.put o.dst v') w') :
  wpList P ops Q (o :: rest) a (wr.alloc (.cells #[r.rule, r.left, r.right, .bool r.over] 65)) := by
 subst hp;obtain ⟨i, hi, hz, hsz, hbs⟩ := he.info;obtain ⟨ho', hk⟩ := hown.out;refine wpList_append_own _ hgd s x t ho B 65 i _ 4 32 he.und hi hz hsz hbs he.zs he.pos v l.length (flatS l) hs (ho'.alloc _) ⟨wr.heap.size, 0, none⟩ 1 1 (stpC r) hx rfl ?_ ?_ ?_ ?_ ?_ ?_
 ·intro j u hj
  rw [Addr.add_lit, Nat.zero_add];exact zz00 (zz02 wr (.cells (stpC r).toArray 65)) j u (by simpa using hj)
 ·intro u hu
  simp only [stpC, List.mem_cons, List.not_mem_nil, or_false] at hu;rcases hu with rfl | rfl | rfl | rfl <;> rfl
 ·unfold maxLen; omega
 ·omega
 ·simp; omega
 ·intro v' w' h1 h2 _
  have hoth : ∀ (g : Nat) (ob : Obj), v.ownBlock ≠ some g → wr.heap[g]? = some ob → w'.heap[g]? = some ob := by
   intro g ob hne hg;have hlt := zL hg;rw [h2.block g (by simp; omega) (fun e => hne e.symm)]
   exact zz05 hg _
  have hsz : wr.heap.size ≤ w'.heap.size := by have := h2.size; simp at this; omega
  refine h v' w' ⟨?_, ?_⟩ ((hb.alloc hB _).grown h2 (by simp; omega) (fun q hq => (ho'.lt q hq).1)) ?_ (Off.app hown.out hsz hoth) hoth
  ·rw [List.length_append, zz87, show flatS [r] = stpC r by simp [flatS]]
   exact h1
  ·exact zt68
  ·omega
end
theorem zz0a {w : World} {g h : Nat} {cs cs' : Array Value} {t t' : TypeId} {fr fr' : Nat × Nat} (hg : w.heap[g]? = some (.cells cs t fr)) (hh : w.heap[h]? = some (.cells cs' t' fr')) (hne : t ≠ t') : g ≠ h := by
 intro e;subst e;rw [hg] at hh;injection hh with hh
 injection hh with _ hh _
 exact hne hh
theorem zt88 {p : Prop} (h : p := by
 have hp' : tmps[p]?.getD undef = .pointer (some ⟨g, 0, none⟩) := by simpa using hp
 simp [results, h, hp', asAddr, run_loadVar_row w g t ty cs (0, 0) d hg hu hd hi]) : p := h
theorem zz3l {P : Program} {fn : Func} {p : Tmp} {ty : TypeId} (h : fn.results = #[.cell p ty]) (tmps : Array Value) (w : World) (g : Nat) (t : TypeId) (cs : Array Value) (d : TypeDesc)
  (hp : tmps.getD p undef = .pointer (some ⟨g, 0, none⟩)) (hg : w.heap[g]? = some (.cells cs t (0, 0)))
  (hu : P.underlying ty = some d) (hd : (match d with | .struct _ | .array _ _ => true | _ => false) = true) (hi : (P.info? ty).map (·.size) = some cs.size) : (results fn tmps).run P w = .ok (.agg cs) w := by
 exact zt88
structure Gt (w0 : World) (g : Nat) (vh vs vo vr : Value) (b : Bk) (e : Ev) (rate : Int) (l : List Stp) (w : World) : Prop where
 blk : ∃ v, w.heap[g]? = some (.cells #[vh, vs, vo, vr, b.n, e.kind, e.acc, e.ord, e.sym, e.side, e.qty, e.px, rate, v] 68 (0, 0)) ∧ StepsOwn w w0.heap.size v l
 below : Below w0.heap.size w0 w
 le : w0.heap.size ≤ g
theorem Gt.kept {w0 : World} {g : Nat} {vh vs vo vr : Value} {b : Bk} {e : Ev} {rate : Int} {l : List Stp} {w w' : World} (h : Gt w0 g vh vs vo vr b e rate l w) (hb : Below w.heap.size w w') : Gt w0 g vh vs vo vr b e rate l w' := by
 obtain ⟨v, h1, h2⟩ := h.blk;exact ⟨⟨v, zz06 h1 hb, h2.kept hb⟩, h.below.trans (hb.mono h.below.size), h.le⟩
def putC (w : World) (g : Nat) : Nat → List Value → World
 | _, [] => w
 | o, v :: t => putC (w.setCell ⟨g, o, none⟩ v) g (o + 1) t
def putA (cs : Array Value) : Nat → List Value → Array Value
 | _, [] => cs
 | o, v :: t => putA (cs.setIfInBounds o v) (o + 1) t
theorem zz0v {g : Nat} {t : TypeId} {fr : Nat × Nat} : ∀ {vs : List Value} {o : Nat} {w : World} {cs : Array Value}, w.heap[g]? = some (.cells cs t fr) → (putC w g o vs).heap[g]? = some (.cells (putA cs o vs) t fr)
 | [], _, _, _, h => h
 | v :: us, o, w, cs, h => by
  show (putC (w.setCell ⟨g, o, none⟩ v) g (o + 1) us).heap[g]? = some (.cells (putA (cs.setIfInBounds o v) (o + 1) us) t fr);exact zz0v (zz0b h _ _)
theorem zz03 {g p : Nat} {x : Option Obj} (hne : p ≠ g) : ∀ {vs : List Value} {o : Nat} {w : World}, w.heap[p]? = x → (putC w g o vs).heap[p]? = x
 | [], _, _, h => h
 | v :: us, o, w, h => by
  show (putC (w.setCell ⟨g, o, none⟩ v) g (o + 1) us).heap[p]? = x;exact zz03 hne (zz09 h _ _ hne)
theorem zz0y {g B : Nat} {a : World} (hg : B ≤ g) : ∀ {vs : List Value} {o : Nat} {w : World}, Below B a w → Below B a (putC w g o vs)
 | [], _, _, h => h
 | v :: us, o, w, h => by
  show Below B a (putC (w.setCell ⟨g, o, none⟩ v) g (o + 1) us);exact zz0y hg (h.setCell (p := ⟨g, o, none⟩) hg _)
theorem zz0p {g B : Nat} {v : Value} {l : List Stp} {t : TypeId} {fr : Nat × Nat} (hne : t ≠ 65) : ∀ {vs : List Value} {o : Nat} {w : World} {cs : Array Value}, w.heap[g]? = some (.cells cs t fr) → StepsOwn w B v l → StepsOwn (putC w g o vs) B v l
 | [], _, _, _, _, h => h
 | u :: us, o, w, cs, hg, h => by
  show StepsOwn (putC (w.setCell ⟨g, o, none⟩ u) g (o + 1) us) B v l;exact zz0p hne (zz0b hg _ _) (h.setOther hg hne _ _)
theorem zO {w s : World} {g p o : Nat} {vs : List Value} (E : putC w g o vs = s) {cs cs' : Array Value} {t t' : TypeId} {fr fr' : Nat × Nat} (hg : Hid (w.heap[g]? = some (.cells cs t fr))) (hp : Hid (w.heap[p]? = some (.cells cs' t' fr'))) (hne : t' ≠ t := by decide) : Hid (s.heap[p]? = some (.cells cs' t' fr')) := E ▸ zz03 (zz0a hp.out hg.out hne) hp.out
theorem zN {w s : World} {g p o : Nat} {vs : List Value} (E : putC w g o vs = s) {x : Option Obj} (hp : Hid (w.heap[p]? = x)) (hne : p ≠ g) : Hid (s.heap[p]? = x) := E ▸ zz03 hne hp.out
theorem zP {w s : World} {g o : Nat} {vs : List Value} (E : putC w g o vs = s) {cs : Array Value} {t : TypeId} {fr : Nat × Nat} (hg : Hid (w.heap[g]? = some (.cells cs t fr))) : Hid (s.heap[g]? = some (.cells (putA cs o vs) t fr)) := E ▸ zz0v hg.out
theorem zQ {w s a : World} {g o B : Nat} {vs : List Value} (E : putC w g o vs = s) (hg : Hid (B ≤ g)) (h : Hid (Below B a w)) : Hid (Below B a s) := E ▸ zz0y hg.out h.out
theorem zD {w w' : World} {g : Nat} {cs : Array Value} {t : TypeId} {fr : Nat × Nat} (ho : Off w w') (h : Hid (w.heap[g]? = some (.cells cs t fr))) (h1 : t ≠ 68 := by decide) (h2 : t ≠ 65 := by decide) : Hid (w'.heap[g]? = some (.cells cs t fr)) := ho.blk _ _ _ _ h.out h1 h2
theorem zX {a w w' : World} (h : Hid (Off a w)) (hb : Below w.heap.size w w') : Hid (Off a w') := h.out.trans (Off.of hb)
theorem zV1 {w s : World} {g : Nat} {a : Value} (h : w.setCell ⟨g, 0, none⟩ a = s) : ∃ vs, putC w g 0 vs = s ∧ vs = [a] := ⟨[a], h, rfl⟩
theorem zV2 {w s : World} {g : Nat} {a b : Value} (h : (w.setCell ⟨g, 0, none⟩ a).setCell ⟨g, 1, none⟩ b = s) : ∃ vs, putC w g 0 vs = s ∧ vs = [a, b] := ⟨[a, b], h, rfl⟩
theorem zV4 {w s : World} {g : Nat} {a b c d : Value} (h : (((w.setCell ⟨g, 0, none⟩ a).setCell ⟨g, 1, none⟩ b).setCell ⟨g, 2, none⟩ c).setCell ⟨g, 3, none⟩ d = s) : ∃ vs, putC w g 0 vs = s ∧ vs = [a, b, c, d] := ⟨[a, b, c, d], h, rfl⟩
theorem zV5 {w s : World} {g : Nat} {a b c d e : Value} (h : ((((w.setCell ⟨g, 0, none⟩ a).setCell ⟨g, 1, none⟩ b).setCell ⟨g, 2, none⟩ c).setCell ⟨g, 3, none⟩ d).setCell ⟨g, 4, none⟩ e = s) : ∃ vs, putC w g 0 vs = s ∧ vs = [a, b, c, d, e] := ⟨[a, b, c, d, e], h, rfl⟩
theorem zV6 {w s : World} {g : Nat} {a b c d e f : Value} (h : (((((w.setCell ⟨g, 0, none⟩ a).setCell ⟨g, 1, none⟩ b).setCell ⟨g, 2, none⟩ c).setCell ⟨g, 3, none⟩ d).setCell ⟨g, 4, none⟩ e).setCell ⟨g, 5, none⟩ f = s) : ∃ vs, putC w g 0 vs = s ∧ vs = [a, b, c, d, e, f] := ⟨[a, b, c, d, e, f], h, rfl⟩
abbrev zG (w : World) (g : Nat) (A : Option Addr) (a : Nat) (B : Option Addr) (b : Nat) (C : Option Addr) (c : Nat) (D : Option Addr) (d : Nat) (k : Bk) (e : Ev) (rate : Int) : Prop := Hid (∃ vX : Value, w.heap[g]? = some (.cells #[.slice A k.h.length a, .slice B k.s.length b, .slice C k.o.length c, .slice D k.r.length d, .int .i64 k.n, .int .i64 e.kind, .int .i64 e.acc, .int .i64 e.ord, .int .i64 e.sym, .int .i64 e.side, .int .i64 e.qty, .int .i64 e.px, .int .i64 rate, vX] 68 (0, 0)))
theorem Gt.put {w0 : World} {g : Nat} {vh vs vo vr : Value} {b : Bk} {e : Ev} {rate : Int} {l : List Stp} {w : World} (h : Gt w0 g vh vs vo vr b e rate l w) {p : Nat} {cs : Array Value} {t : TypeId} {fr : Nat × Nat} (hp : w.heap[p]? = some (.cells cs t fr)) (h1 : t ≠ 68) (h2 : t ≠ 65) (hge : w0.heap.size ≤ p) (o : Nat) (us : List Value) : Gt w0 g vh vs vo vr b e rate l (putC w p o us) := by
 obtain ⟨v, hg, ho⟩ := h.blk;exact ⟨⟨v, zz03 (zz0a hg hp (fun e => h1 e.symm)) hg, zz0p h2 hp ho⟩, zz0y hge h.below, h.le⟩
def LookOn (I : List Stp → World → Prop) (W : World) (K : Nat) (caps : Array Value) (s : Stp) : Prop :=
 ∀ (w : World) (l : List Stp), l.length ≤ 100 → I l w → Off W w → Calls Tryz.prog K caps w fun e w' => e = .returned (.bool s.holds) ∧ I (l ++ [s]) w' ∧ Off w w'
def LookIs (I : List Stp → World → Prop) (W : World) (f : Value) (s : Stp) : Prop :=
 ∃ K caps, f = .func (.func K) #[] caps ∧ (∀ args w, (callFunc K args).run Tryz.prog w = .ok (.enter K args) w) ∧ LookOn I W K caps s
theorem LookIs.off {I : List Stp → World → Prop} {W W' : World} {f : Value} {s : Stp} (h : LookIs I W f s) (ho : Off W W') : LookIs I W' f s := by
 obtain ⟨K, caps, h1, h2, h3⟩ := h;exact ⟨K, caps, h1, h2, fun w l hl hI hW => h3 w l hl hI (ho.trans hW)⟩
theorem zz6n {α β : Type} (f : α → β) {l : List α} {i : Nat} (h : i < l.length) : (l.take (i + 1)).map f = (l.take i).map f ++ [f l[i]] := by
 rw [List.take_add_one, List.getElem?_eq_getElem h, List.map_append]; rfl
theorem zzbw (I : List Stp → World → Prop) (p n cap : Nat) (l : List (Value × Stp)) (cs : Array Value) (S0 : List Stp) (w : World) (hn : l.length = n) (hcs : Hid (∀ (i : Nat) (h : i < l.length), cs[i]? = some l[i].1)) (hp : Hid (w.heap[p]? = some (.cells cs 72 (0, 0)))) (hl : Hid (∀ x ∈ l, LookIs I w x.1 x.2)) (hI : Hid (I S0 w)) (hS : Hid (S0.length + n ≤ 100)) :
  Calls Tryz.prog 35 #[.slice (some ⟨p, 0, none⟩) n cap] w fun e w' => e = .returned (.bool ((l.map (·.2)).all (·.holds))) ∧ I (S0 ++ cutL (l.map (·.2))) w' ∧ Off w w' := by
 subst hn;obtain ⟨Res, hRes⟩ : ∃ Res, (l.map (·.2)).all (·.holds) = Res := ⟨_, rfl⟩;rw [hRes];replace hRes := zH hRes;obtain ⟨n, hn⟩ : ∃ n, l.length = n := ⟨_, rfl⟩;rw [hn] at hS ⊢;replace hn := zH hn;have hn60 : n ≤ 100 := by have := hS.out; omega
 go_in;go_wp2_with fail;go_loopw [7] (fun s7 wr => ∃ i : Nat, s7 = .int .i64 (i : Int) ∧ Hid (i ≤ n) ∧ Hid (((l.take i).map (·.2)).all (·.holds) = true) ∧ Hid (I (S0 ++ (l.take i).map (·.2)) wr) ∧ Hid (Off w wr)) (fun s7 _ => n - (intOf s7).toNat)
 case atStart => exact ⟨0, rfl, Nat.zero_le _, rfl, (show I (S0 ++ []) w from by rw [List.append_nil]; exact hI.out), Off.refl _⟩
 case round =>
  obtain ⟨i, rfl, hil, hall, HI, HO⟩ := hrel;replace hil := hil.out;by_cases hin : i < n
  ·have tn : decide ((i : Int) < (n : Int)) = true := decide_eq_true zw
   have hlt : i < l.length := by rw [hn.out]; exact hin
   have hblk : Hid (wr.heap[p]? = some (.cells cs 72 (0, 0))) := HO.out.blk p _ _ _ hp.out zx zx;have hc : wr.cell? ⟨p, i, none⟩ = some l[i].1 := zz00 hblk.out i _ (hcs.out i hlt);have HT : Hid ((l.take (i + 1)).map (·.2) = (l.take i).map (·.2) ++ [l[i].2]) := zz6n _ hlt;have hk := (hl.out l[i] (List.getElem_mem hlt)).off HO.out;have HD : Hid (∃ m, l.map (·.2) = ((l.take i).map (·.2) ++ [l[i].2]) ++ m) := ⟨(l.drop (i + 1)).map (·.2), by rw [← HT.out, ← List.map_append, List.take_append_drop]⟩
   have hlen : (S0 ++ (l.take i).map (·.2)).length ≤ 100 := by have := hS.out; simp; omega
   generalize l[i] = x at *;obtain ⟨f, s⟩ := x;simp only [] at hc hk HT HD;obtain ⟨K, caps, rfl, eg, hlook⟩ := hk;have hcall := zH (hlook wr _ hlen HI.out (Off.refl _));obtain ⟨F, hF⟩ : ∃ F, s.holds = F := ⟨_, rfl⟩;rw [hF] at hcall;replace hF := zH hF;clear hlook hlen hblk;cases F with
   | true =>
    go_wp2_with (go_at_fn K; refine hcall.out.mono ?_; rintro e w2 ⟨rfl, hI2, ho2⟩);have HI2 := zH hI2;have HO2 := zH (HO.out.trans ho2);clear hI2 ho2;go_roundw
    case rel => exact ⟨i + 1, by go_num, by show _ ≤ _; omega, (show _ = _ from by rw [HT.out, List.all_append, hall.out]; simp [hF.out]), (show I _ _ from by rw [HT.out, ← List.append_assoc]; exact HI2.out), HO2.out⟩
    case measure => simp [intOf]; omega
   | false =>
    go_wp2_with (go_at_fn K; refine hcall.out.mono ?_; rintro e w2 ⟨rfl, hI2, ho2⟩);go_ret;obtain ⟨m, hm⟩ := HD.out;have hcut : cutL (l.map (·.2)) = (l.take i).map (·.2) ++ [s] := by
     rw [hm, List.append_assoc, zz8a, hall.out, if_pos rfl, zzbr hall.out]
     congr 1
     rw [List.cons_append, cutL, hF.out]
     rfl
    have hR : Res = false := by rw [← hRes.out, hm]; simp [hF.out]
    subst hR;rw [hcut, ← List.append_assoc];exact ⟨rfl, hI2, HO.out.trans ho2⟩
  ·have tn : decide ((i : Int) < (n : Int)) = false := decide_eq_false zw
   have hz : l.take i = l := List.take_of_length_le (by rw [hn.out]; omega)
   rw [hz] at hall HI;have hR : Res = true := hRes.out.symm.trans hall.out;subst hR;go_wp2_with fail;go_ret;rw [zzbr hall.out];exact ⟨rfl, HI.out, HO.out⟩
theorem zz5h (I : List Stp → World → Prop) (p n : Nat) (l : List (Value × Stp)) (cs : Array Value) (S0 : List Stp) (w : World) (hn : l.length = n) (hcs : (l.map (·.1)).toArray = cs) (hp : Hid (w.heap[p]? = some (.cells cs 72 (0, 0)))) (hl : Hid (∀ x ∈ l, LookIs I w x.1 x.2)) (hI : Hid (I S0 w)) (hS : Hid (S0.length + n ≤ 100)) :
  Calls Tryz.prog 35 #[.slice (some ⟨p, 0, none⟩) n n] w fun e w' => e = .returned (.bool ((l.map (·.2)).all (·.holds))) ∧ I (S0 ++ cutL (l.map (·.2))) w' ∧ Off w w' :=
 zzbw I p n n l cs S0 w hn (show _ from fun i h => by rw [← hcs]; simp [h]) hp hl hI hS
section
variable (w0 : World) (g : Nat) (vh vs vo vr : Value) (b : Bk) (e : Ev) (rate : Int)
theorem Gt.law {w0 : World} {g : Nat} {vh vs vo vr : Value} {b : Bk} {e : Ev} {rate : Int} {l : List Stp} {w : World} (h : Gt w0 g vh vs vo vr b e rate l w) (hT : Law16 w0) : Law16 w := hT.call h.below
theorem Holds_ag (r a b : Int) (o : Bool) (hs : Stp.fit ⟨r, a, b, o⟩) (w : World) (hT : Hid (Law16 w)) : Calls Tryz.prog 91 #[.agg #[r, a, b, .bool o]] w fun e w' => e = .returned (.bool (Stp.mk r a b o).holds) ∧ Below w.heap.size w w' := zz6b ⟨r, a, b, o⟩ hs w hT
theorem sides1_on (hT : Hid (Law16 w0)) (n x y : Int) (hs : Hid ((sS n x y).fit)) (W : World) (p1 p2 p3 p4 : Nat) (h1 : ZB W p1 #[n] 3) (h2 : ZB W p2 #[x] 2) (h3 : ZB W p3 #[y] 2) (h4 : ZB W p4 #[.pointer (some ⟨g, 0, none⟩)] 66) :
  LookOn (Gt w0 g vh vs vo vr b e rate) W 90 #[.pointer (some ⟨p1, 0, none⟩), .pointer (some ⟨p2, 0, none⟩), .pointer (some ⟨p3, 0, none⟩), .pointer (some ⟨p4, 0, none⟩)] (sS n x y) := by
 intro w l hl hI hW;have HG := zH hI;have K1 : ZB w p1 #[n] 3 := hW.blk _ _ _ _ h1.out zx zx;have K2 : ZB w p2 #[x] 2 := hW.blk _ _ _ _ h2.out zx zx;have K3 : ZB w p3 #[y] 2 := hW.blk _ _ _ _ h3.out zx zx;have K4 : ZB w p4 #[.pointer (some ⟨g, 0, none⟩)] 66 := hW.blk _ _ _ _ h4.out zx zx;clear hI hW h1 h2 h3 h4;obtain ⟨vS, hg, ho⟩ := HG.out.blk;obtain ⟨A, c, rfl⟩ := ho.form;have KG := zH hg;have OS := zH ho;clear hg ho;obtain ⟨w1, hw1⟩ : ∃ w1, w.alloc (.cells #[n, x, y, .bool false] 65) = w1 := ⟨_, rfl⟩;have HB1 : Hid (Below w.heap.size w w1) := by rw [← hw1]; exact zBa
 have S1 : ZB w1 w.heap.size #[n, x, y, .bool false] 65 := by rw [← hw1]; exact zz02 _ _
 have G1 := zH (zz06 KG.out HB1.out);have P1 := zH (zz06 K4.out HB1.out);have O1 := zH (OS.out.kept HB1.out);have HI1 := zH (HG.out.kept HB1.out);have HW1 := zH hw1;clear hw1;have a1 := zz00 K1.out 0 _ rfl;have a2 := zz00 K2.out 0 _ rfl;have a3 := zz00 K3.out 0 _ rfl;have a4 := zz00 K4.out 0 _ rfl;go_in;go_wp2_with fail;rw [HW1.out];clear a1 a2 a3 a4 HW1;replace KG := G1;clear G1;have HF : Hid (Off w w1) := Off.of HB1.out;have hneS : (Value.slice A l.length c).ownBlock ≠ some w.heap.size := fun h => by
  have := (OS.out.1.lt _ h).2;omega
 clear OS K1 K2 K3 K4;refine zS3 [10] 11 P1 KG S1 ?_;intro wd1 hbwd1;replace P1 := zK P1 hbwd1;replace KG := zK KG hbwd1;replace S1 := zK S1 hbwd1;replace O1 := zH (O1.out.kept hbwd1);replace HI1 := zH (HI1.out.kept hbwd1);replace HF := zX HF hbwd1;clear hbwd1;refine zM [0, 1, 2, 3, 4, 5] 5 ⟨P1, KG, S1⟩ ?_;simp only [opsAt, zA];refine zq (fun wz hC => zC hC.1.out) ?_
 refine zq (fun wz hC => zC hC.1.out) ?_
 iterate 2 refine zp ?_
 refine zq (fun wz hC => zC hC.2.1.out) ?_
 refine zq (fun wz hC => zC hC.2.2.out) ?_
 unfold wpPure;go_simp;refine zW 6 ?_;go_wp2_with fail;refine zQs (fun _ => ⟨zz05 P1.out _, zz05 KG.out _, zz05 S1.out _⟩) ?_
 refine zW 7 ?_;refine zz12 (W := w0) (B := w0.heap.size) _ _ 34 zz93 (⟨n, x, y, false⟩ : Stp) (.slice A l.length c) l HI1.out.below (zH O1.out) HI1.out.below.size rfl rfl rfl rfl rfl hs.out zw ?_;intro v2 wg2 ho2 hb2 hB2 hoff hoth;have hneG : (Value.slice A l.length c).ownBlock ≠ some g := O1.out.ne KG.out zx;replace P1 := zH (hoff.out.blk _ _ _ _ P1.out zx zx);replace KG := zH (hoth.out _ _ hneG KG.out);replace S1 := zH (hoth.out _ _ hneS S1.out);replace HF := zH (HF.out.trans hoff.out);clear hoth hoff hneG;obtain ⟨A2, c2, hA2⟩ := ho2.out.form;obtain ⟨k2, hk2⟩ : ∃ k2, (l ++ [(⟨n, x, y, false⟩ : Stp)]).length = k2 := ⟨_, rfl⟩;rw [hk2] at hA2;subst hA2;clear hk2;go_wp2_with fail;refine zQs (fun _ => ⟨P1, KG, S1⟩) ?_
 refine zW 8 ?_;go_wp2_with fail;refine zQs (fun _ => ⟨P1, KG, S1⟩) ?_
 refine zW 9 ?_;go_wp2_with fail;refine zQs (fun _ => ⟨P1, KG, S1⟩) ?_
 have c_g_0 := zC KG.out;have fc_g_0 := zF KG.out;refine zW 10 ?_;go_wp2_with fail;clear c_g_0 fc_g_0;refine zQs (fun h => absurd h zx) ?_
 refine zQe ?_;generalize hw3 : World.setCell _ _ _ = wg3;have HG3 : Hid (Gt w0 g vh vs vo vr b e rate (l ++ [(⟨n, x, y, false⟩ : Stp)]) wg3) := ⟨⟨_, by rw [← hw3]; exact zz0b KG.out 13 _, by rw [← hw3]; exact ho2.out.setOther KG.out zx 13 _⟩, by rw [← hw3]; exact hb2.out.setCell (p := ⟨g, 13, none⟩) HI1.out.le _, HI1.out.le⟩
 have HF3 : Hid (Off w wg3) := HF.out.trans (by rw [← hw3]; exact Off.set KG.out 13 _)
 have S3 := zH (zz09 S1.out 13 (.slice A2 k2 c2) (zz0a S1.out KG.out zx));rw [hw3] at S3;clear hw3 KG S1 P1;have s0 := zC S3.out;go_wp2_with fail;have hfit : Stp.fit ⟨n, x, y, false⟩ := hs.out;(with_reducible refine (Holds_ag n x y false hfit _ (zH (HG3.out.law hT.out))).mono ?_);rintro e w9 ⟨rfl, hb⟩;clear s0;go_wp2_with fail;go_ret;exact ⟨rfl, HG3.out.kept hb, HF3.out.trans (Off.of hb)⟩
end
def SideOn (I : List Stp → World → Prop) (W : World) (f : Value) (x y : Int) (fits : Bool) : Prop :=
 ∃ K caps, f = .func (.func K) #[] caps ∧ (∀ args w, (callFunc K args).run Tryz.prog w = .ok (.enter K args) w) ∧
  ∀ (w : World) (l : List Stp), I l w → Off W w → Calls Tryz.prog K caps w fun e w' => e = .returned (.tuple #[.int .i64 x, .int .i64 y, .bool fits]) ∧ Below w.heap.size w w'
section
variable (w0 : World) (g : Nat) (vh vs vo vr : Value) (b : Bk) (e : Ev) (rate : Int)
theorem zz0h (hT : Hid (Law16 w0)) (n x y : Int) (hs : Hid ((sS n x y).fit)) (w : World) :
  Calls Tryz.prog 36 #[.pointer (some ⟨g, 0, none⟩), .int .i64 n, .int .i64 x, .int .i64 y] w fun r w' => ∃ f, r = .returned f ∧ LookIs (Gt w0 g vh vs vo vr b e rate) w' f (sS n x y) ∧ Below w.heap.size w w' := by
 have K1 : Hid (((((w.alloc (.cells #[.pointer (some ⟨g, 0, none⟩)] 66)).alloc (.cells #[n] 3)).alloc (.cells #[x] 2)).alloc (.cells #[y] 2)).heap[w.heap.size]? = some (.cells #[.pointer (some ⟨g, 0, none⟩)] 66 (0, 0))) := zz05 (zz05 (zz05 (zz02 _ _) _) _) _;have K2 : Hid (((((w.alloc (.cells #[.pointer (some ⟨g, 0, none⟩)] 66)).alloc (.cells #[n] 3)).alloc (.cells #[x] 2)).alloc (.cells #[y] 2)).heap[w.heap.size + 1]? = some (.cells #[n] 3 (0, 0))) := zz05 (zz05 (zz0c _ _ _ (by simp)) _) _
 have K3 : Hid (((((w.alloc (.cells #[.pointer (some ⟨g, 0, none⟩)] 66)).alloc (.cells #[n] 3)).alloc (.cells #[x] 2)).alloc (.cells #[y] 2)).heap[w.heap.size + 2]? = some (.cells #[x] 2 (0, 0))) := zz05 (zz0c _ _ _ (by simp)) _
 have K4 : Hid (((((w.alloc (.cells #[.pointer (some ⟨g, 0, none⟩)] 66)).alloc (.cells #[n] 3)).alloc (.cells #[x] 2)).alloc (.cells #[y] 2)).heap[w.heap.size + 3]? = some (.cells #[y] 2 (0, 0))) := zz0c _ _ _ (by simp)
 have HB : Hid (Below w.heap.size w ((((w.alloc (.cells #[.pointer (some ⟨g, 0, none⟩)] 66)).alloc (.cells #[n] 3)).alloc (.cells #[x] 2)).alloc (.cells #[y] 2))) := zz01 (zz01 (zz01 zBa zo _) zo _) zo _;go_in;go_wp2_with fail;go_ret;exact ⟨_, rfl, ⟨90, _, rfl, fun args w => enters_of Tryz.func90 zk rfl _ w, sides1_on w0 g vh vs vo vr b e rate hT n x y hs _ _ _ _ _ K2 K3 K4 K1⟩, HB.out⟩
theorem exact1_on (hT : Hid (Law16 w0)) (n x y : Int) (fits : Bool) (fS : Value) (hn : Hid (I64 n)) (hs : Hid ((sS n x y).fit)) (W : World) (p1 p2 p3 : Nat) (hS : Hid (SideOn (Gt w0 g vh vs vo vr b e rate) W fS x y fits)) (h1 : ZB W p1 #[fS] 127) (h2 : ZB W p2 #[.pointer (some ⟨g, 0, none⟩)] 66) (h3 : ZB W p3 #[n] 3) :
  LookOn (Gt w0 g vh vs vo vr b e rate) W 144 #[.pointer (some ⟨p1, 0, none⟩), .pointer (some ⟨p2, 0, none⟩), .pointer (some ⟨p3, 0, none⟩)] (oS n x y fits) := by
 intro w l hl hI hW;have HG := zH hI;have K1 : ZB w p1 #[fS] 127 := hW.blk _ _ _ _ h1.out zx zx;have K2 : ZB w p2 #[.pointer (some ⟨g, 0, none⟩)] 66 := hW.blk _ _ _ _ h2.out zx zx;have K3 : ZB w p3 #[n] 3 := hW.blk _ _ _ _ h3.out zx zx;obtain ⟨K, caps, rfl, eg, hcall⟩ := hS.out;have hcall2 := zH (hcall w l hI hW);clear hI hW h1 h2 h3 hS hcall;have a1 := zz00 K1.out 0 _ rfl;have a2 := zz00 K2.out 0 _ rfl;have a3 := zz00 K3.out 0 _ rfl;cases fits with
 | true =>
  go_in;go_wp2_with (go_at_fn K; refine hcall2.out.mono ?_; rintro r w1 ⟨rfl, hb⟩; have J2 := zH (zz06 K2.out hb); have J3 := zH (zz06 K3.out hb); have HG1 := zH (HG.out.kept hb); have HO1 := zH (Off.of hb); clear hb; have b2 := zz00 J2.out 0 _ rfl; have b3 := zz00 J3.out 0 _ rfl);(with_reducible refine (zz0h w0 g vh vs vo vr b e rate hT n x y hs _).mono ?_);rintro r w2 ⟨f2, rfl, ⟨K', caps', rfl, eg', hlook⟩, hb⟩;have hc := zH (hlook w2 l hl (HG1.out.kept hb) (Off.refl _));have HO2 := zH (HO1.out.trans (Off.of hb));clear hb b2 b3 a1 a2 a3 J2 J3 HG1 HO1 hlook;obtain ⟨R, hR⟩ : ∃ R, (sS n x y).holds = R := ⟨_, rfl⟩;rw [hR] at hc;have hR2 : Hid ((oS n x y true).holds = R) := hR;clear hR;go_wp2_with (go_at_fn K'; refine hc.out.mono ?_; rintro r w3 ⟨rfl, hI3, ho3⟩);go_ret;rw [hR2.out];exact ⟨rfl, hI3, HO2.out.trans ho3⟩
 | false =>
  clear hs;obtain ⟨vS, hg, ho⟩ := HG.out.blk;obtain ⟨A, c, rfl⟩ := ho.form;have KG := zH hg;have OS := zH ho;clear hg ho;go_in;go_wp2_with (go_at_fn K; refine hcall2.out.mono ?_; rintro r w1 ⟨rfl, hb⟩);replace KG := zK KG hb;replace K2 := zK K2 hb;replace K3 := zK K3 hb;have O1 := zH (OS.out.kept hb);have HI1 := zH (HG.out.kept hb);have HF : Hid (Off w w1) := Off.of hb;clear hb a1 a2 a3 K1 HG hcall2 OS;go_wp2_with fail;refine zS3 [11] 12 K2 K3 KG ?_;intro wd1 hbwd1;replace K2 := zK K2 hbwd1;replace K3 := zK K3 hbwd1;replace KG := zK KG hbwd1;replace O1 := zH (O1.out.kept hbwd1);replace HI1 := zH (HI1.out.kept hbwd1);replace HF := zX HF hbwd1;clear hbwd1;refine zM [0, 1, 2, 3, 4, 5, 6] 5 ⟨K2, K3, KG⟩ ?_;simp only [opsAt, zA];refine zq (fun wz hC => zC hC.1.out) ?_
  refine zq (fun wz hC => zC hC.1.out) ?_
  iterate 2 refine zp ?_
  refine zq (fun wz hC => zC hC.2.2.out) ?_
  refine zq (fun wz hC => zC hC.2.1.out) ?_
  refine zp ?_;unfold wpPure;go_simp;have hfit : Stp.fit ⟨n, 0, 0, true⟩ := ⟨hn.out, by show I64 0; unfold I64; omega, by show I64 0; unfold I64; omega⟩
  refine zW 7 ?_;go_wp2_with fail;refine zQs (fun _ => ⟨zz05 K2.out _, zz05 K3.out _, zz05 KG.out _⟩) ?_
  refine zW 8 ?_;refine zz12 (W := w0) (B := w0.heap.size) _ _ 34 zz93 (⟨n, 0, 0, true⟩ : Stp) (.slice A l.length c) l HI1.out.below (zH O1.out) HI1.out.below.size rfl rfl rfl rfl rfl hfit zw ?_;intro v2 wg2 ho2 hb2 hB2 hoff hoth;have hneG : (Value.slice A l.length c).ownBlock ≠ some g := O1.out.ne KG.out zx;replace K2 := zH (hoff.out.blk _ _ _ _ K2.out zx zx);replace K3 := zH (hoff.out.blk _ _ _ _ K3.out zx zx);replace KG := zH (hoth.out _ _ hneG KG.out);replace HF := zH (HF.out.trans hoff.out);clear hoth hoff hneG;obtain ⟨A2, c2, hA2⟩ := ho2.out.form;obtain ⟨k2, hk2⟩ : ∃ k2, (l ++ [(⟨n, 0, 0, true⟩ : Stp)]).length = k2 := ⟨_, rfl⟩;rw [hk2] at hA2;subst hA2;clear hk2;go_wp2_with fail;refine zQs (fun _ => ⟨K2, K3, KG⟩) ?_
  refine zW 9 ?_;go_wp2_with fail;refine zQs (fun _ => ⟨K2, K3, KG⟩) ?_
  refine zW 10 ?_;go_wp2_with fail;refine zQs (fun _ => ⟨K2, K3, KG⟩) ?_
  have c_g_0 := zC KG.out;have fc_g_0 := zF KG.out;refine zW 11 ?_;go_wp2_with fail;clear c_g_0 fc_g_0;refine zQs (fun h => absurd h zx) ?_
  refine zQe ?_;generalize hw3 : World.setCell _ _ _ = wg3;have HG3 : Hid (Gt w0 g vh vs vo vr b e rate (l ++ [(⟨n, 0, 0, true⟩ : Stp)]) wg3) := ⟨⟨_, by rw [← hw3]; exact zz0b KG.out 13 _, by rw [← hw3]; exact ho2.out.setOther KG.out zx 13 _⟩, by rw [← hw3]; exact hb2.out.setCell (p := ⟨g, 13, none⟩) HI1.out.le _, HI1.out.le⟩
  have HF3 : Hid (Off w wg3) := HF.out.trans (by rw [← hw3]; exact Off.set KG.out 13 _)
  go_wp2_with fail;go_ret;exact ⟨rfl, HG3.out, HF3.out⟩
theorem zz3a (hT : Hid (Law16 w0)) (n x y : Int) (fits : Bool) (fS : Value) (hn : Hid (I64 n)) (hs : Hid ((sS n x y).fit)) (w : World) (hS : Hid (SideOn (Gt w0 g vh vs vo vr b e rate) w fS x y fits)) :
  Calls Tryz.prog 77 #[.pointer (some ⟨g, 0, none⟩), .int .i64 n, fS] w fun r w' => ∃ f, r = .returned f ∧ LookIs (Gt w0 g vh vs vo vr b e rate) w' f (oS n x y fits) ∧ Below w.heap.size w w' := by
 obtain ⟨K, caps, rfl, eg, hcall⟩ := hS.out;obtain ⟨w3, hw3⟩ : ∃ w3, ((w.alloc (.cells #[.pointer (some ⟨g, 0, none⟩)] 66)).alloc (.cells #[n] 3)).alloc (.cells #[.func (.func K) #[] caps] 127) = w3 := ⟨_, rfl⟩;have K1 : ZB w3 w.heap.size #[.pointer (some ⟨g, 0, none⟩)] 66 := by rw [← hw3]; exact zz05 (zz05 (zz02 _ _) _) _
 have K2 : ZB w3 (w.heap.size + 1) #[n] 3 := by rw [← hw3]; exact zz05 (zz0c _ _ _ (by simp)) _
 have K3 : ZB w3 (w.heap.size + 2) #[.func (.func K) #[] caps] 127 := by rw [← hw3]; exact zz0c _ _ _ (by simp)
 have HB : Hid (Below w.heap.size w w3) := by rw [← hw3]; exact zz01 (zz01 zBa zo _) zo _
 have HS3 : Hid (SideOn (Gt w0 g vh vs vo vr b e rate) w3 (.func (.func K) #[] caps) x y fits) := ⟨K, caps, rfl, eg, fun wz l hI hO => hcall wz l hI ((Off.of HB.out).trans hO)⟩
 have HW3 := zH hw3;clear hw3 hcall hS;go_in;go_wp2_with fail;rw [HW3.out];go_ret;exact ⟨_, rfl, ⟨144, _, rfl, fun args w => enters_of Tryz.func144 zk rfl _ w, exact1_on w0 g vh vs vo vr b e rate hT n x y fits _ hn hs _ _ _ _ HS3 K3 K1 K2⟩, HB.out⟩
end
structure FreeC where
 i : Nat
 d : Tmp
 R : Nat → Nat → Value → World → Prop
structure RunC where
 lo : Nat
 hi : Nat
 v : Value
def putsE : List FreeC → List RunC → Act → Act
 | e :: es, v :: vs, a => putsE es vs (a.put (some e.d) v.v)
 | _, _, a => a
theorem zz3x (e : FreeC) (v : RunC) (l2 : List FreeC) (v2 : List RunC) : ∀ (l1 : List FreeC) (v1 : List RunC) (a : Act), l1.length = v1.length → (∀ x ∈ l1, x.d ≠ e.d) → putsE (l1 ++ e :: l2) (v1 ++ v :: v2) a = putsE (l1 ++ l2) (v1 ++ v2) (a.put (some e.d) v.v)
 | [], [], a, _, _ => rfl
 | x :: l1, u :: v1, a, hl, hd => by
  show putsE (l1 ++ e :: l2) (v1 ++ v :: v2) (a.put (some x.d) u.v) = putsE (l1 ++ l2) (v1 ++ v2) ((a.put (some e.d) v.v).put (some x.d) u.v);rw [zz3x e v l2 v2 l1 v1 _ (by simpa using hl) (fun y hy => hd y (by simp [hy])), Act.put_comm a u.v v.v (fun d h1 h2 => hd x (by simp) (by injection h1 with h1; injection h2 with h2; rw [h1, h2]))]
def Holds (B : Nat) : List FreeC → List RunC → World → Prop
 | e :: es, v :: vs, w => (e.R v.lo v.hi v.v w ∧ B ≤ v.lo) ∧ Holds B es vs w
 | [], [], _ => True
 | _, _, _ => False
theorem Holds.len {B : Nat} : ∀ {es : List FreeC} {vs : List RunC} {w : World}, Holds B es vs w → es.length = vs.length
 | [], [], _, _ => rfl
 | e :: es, v :: vs, w, h => by simp [Holds.len h.2]
theorem Holds.split {B : Nat} : ∀ {l1 l2 : List FreeC} {vs : List RunC} {w : World}, Holds B (l1 ++ l2) vs w → ∃ v1 v2, vs = v1 ++ v2 ∧ Holds B l1 v1 w ∧ Holds B l2 v2 w
 | [], l2, vs, w, h => ⟨[], vs, rfl, trivial, h⟩
 | e :: l1, l2, v :: vs, w, h => by
  obtain ⟨v1, v2, rfl, h1, h2⟩ := Holds.split h.2;exact ⟨v :: v1, v2, rfl, ⟨h.1, h1⟩, h2⟩
theorem Holds.join {B : Nat} : ∀ {l1 l2 : List FreeC} {v1 v2 : List RunC} {w : World}, Holds B l1 v1 w → Holds B l2 v2 w → Holds B (l1 ++ l2) (v1 ++ v2) w
 | [], _, [], _, _, _, h => h
 | e :: l1, l2, v :: v1, v2, w, h, h2 => ⟨h.1, Holds.join h.2 h2⟩
theorem Holds.lower {B B' : Nat} (hB : B' ≤ B) : ∀ {es : List FreeC} {vs : List RunC} {w : World}, Holds B es vs w → Holds B' es vs w
 | [], [], _, _ => trivial
 | e :: es, v :: vs, w, h => ⟨⟨h.1.1, Nat.le_trans hB h.1.2⟩, Holds.lower hB h.2⟩
theorem Holds.all {B : Nat} : ∀ {es : List FreeC} {vs : List RunC} {w : World}, Holds B es vs w → ∀ v ∈ vs, B ≤ v.lo
 | [], [], _, _, x, hx => by simp at hx
 | e :: es, v :: vs, w, h, x, hx => by
  rcases List.mem_cons.1 hx with rfl | hx
  ·exact h.1.2
  ·exact Holds.all h.2 x hx
def Apart (bf : Nat → Nat → Bool) : List FreeC → List RunC → Prop
 | e :: es, v :: vs => (∀ (k : Nat) (e' : FreeC) (v' : RunC), es[k]? = some e' → vs[k]? = some v' → (v.hi ≤ v'.lo ∨ v'.hi ≤ v.lo) ∧ (bf e.i e'.i = true → v.hi ≤ v'.lo) ∧ (bf e'.i e.i = true → v'.hi ≤ v.lo)) ∧ Apart bf es vs
 | _, _ => True
theorem Apart.mid {bf : Nat → Nat → Bool} {e : FreeC} {v : RunC} {l2 : List FreeC} {v2 : List RunC} : ∀ {l1 : List FreeC} {v1 : List RunC}, l1.length = v1.length → Apart bf (l1 ++ l2) (v1 ++ v2) → (∀ x ∈ v1 ++ v2, v.hi ≤ x.lo) → (∀ x ∈ l1 ++ l2, bf x.i e.i = false) → Apart bf (l1 ++ e :: l2) (v1 ++ v :: v2)
 | [], [], _, h, hx, hb => ⟨fun k e' v' he hv => ⟨.inl (hx v' (List.mem_of_getElem? hv)), fun _ => hx v' (List.mem_of_getElem? hv), fun h' => by rw [hb e' (List.mem_of_getElem? he)] at h'; cases h'⟩, h⟩
 | x :: l1, u :: v1, hl, h, hx, hb => by
  refine ⟨fun k e' v' he hv => ?_, Apart.mid (by simpa using hl) h.2 (fun y hy => hx y (List.mem_cons_of_mem _ hy)) (fun y hy => hb y (List.mem_cons_of_mem _ hy))⟩
  have hl' : l1.length = v1.length := by simpa using hl
  replace he : (l1 ++ e :: l2)[k]? = some e' := he;replace hv : (v1 ++ v :: v2)[k]? = some v' := hv;have h1 : ∀ (k : Nat) (e' : FreeC) (v' : RunC), (l1 ++ l2)[k]? = some e' → (v1 ++ v2)[k]? = some v' → (u.hi ≤ v'.lo ∨ v'.hi ≤ u.lo) ∧ (bf x.i e'.i = true → u.hi ≤ v'.lo) ∧ (bf e'.i x.i = true → v'.hi ≤ u.lo) := h.1;rw [List.getElem?_append] at he hv;by_cases hk : k < l1.length
  ·rw [if_pos hk] at he
   rw [if_pos zw] at hv;exact h1 k e' v' (by rw [List.getElem?_append, if_pos hk]; exact he) (by rw [List.getElem?_append, if_pos zw]; exact hv)
  ·rw [if_neg hk] at he
   rw [if_neg zw] at hv;by_cases h0 : k - l1.length = 0
   ·rw [h0] at he
    rw [show k - v1.length = 0 by omega] at hv
    obtain rfl : e = e' := by simpa using he
    obtain rfl : v = v' := by simpa using hv
    have hux := hx u (by simp)
    have hbx := hb x (by simp)
    refine ⟨.inr hux, ?_, fun _ => hux⟩
    intro h';rw [hbx] at h';cases h'
   ·obtain ⟨m, hm⟩ : ∃ m, k - l1.length = m + 1 := ⟨k - l1.length - 1, by omega⟩
    rw [hm, List.getElem?_cons_succ] at he;rw [show k - v1.length = m + 1 by omega, List.getElem?_cons_succ] at hv
    exact h1 (l1.length + m) e' v' (by rw [List.getElem?_append_right zw, Nat.add_sub_cancel_left]; exact he) (by rw [List.getElem?_append_right zw, hl', Nat.add_sub_cancel_left]; exact hv)
section
variable {P : Program} {ops : Array Oper} {md : Region.Mode} {C : World → Prop} {ex : List Nat}
def readyAll (md : Region.Mode) (ops : Array Oper) (bf : Nat → Nat → Bool) (Lf : Array Bool) : Nat → List Nat → Array Bool → Bool
 | 0, is, L => is.isEmpty && L == Lf
 | n + 1, is, L => !(Region.ready md ops L).isEmpty && (Region.ready md ops L).all fun i => is.contains i && is.all (fun j => !bf j i) && readyAll md ops bf Lf n (is.erase i) (L.setIfInBounds i true)
theorem zz0f (a : Act) (x : Operand) (t : Tmp) (v : Value) (h : x ≠ .tmp t) : (a.put (some t) v).eval x = a.eval x := by
 cases x with
 | tmp s =>
  have hs : t ≠ s := fun e => h (by rw [e])
  simp [Act.put, Act.eval, Array.getD_eq_getD_getElem?, Array.getElem?_setIfInBounds, hs]
 | _ => rfl
structure CanC (P : Program) (ops : Array Oper) (T : List Tmp) (W0 : World) (e : FreeC) (a : Act) : Prop where
 ex : ∃ o, ops[e.i]? = some o ∧ o.dst = some e.d ∧ o.guard = none
 run : ∀ (Q : Exit → Act → World → Prop) (a' : Act) (w : World) (K : Act → World → Prop), (∀ x : Operand, (∀ t ∈ T, x ≠ .tmp t) → a'.eval x = a.eval x) → Below W0.heap.size W0 w → (∀ v w', e.R w.heap.size w'.heap.size v w' → Below w.heap.size w w' → K (a'.put (some e.d) v) w') → wpOp P ops Q e.i K a' w
theorem CanC.put {T : List Tmp} {W0 : World} {e : FreeC} {a : Act} (h : CanC P ops T W0 e a) {t : Tmp} (ht : t ∈ T) (v : Value) : CanC P ops T W0 e (a.put (some t) v) :=
 ⟨h.ex, fun Q a' w K ha hB hK => h.run Q a' w K (fun x hx => (ha x hx).trans (zz0f a x t v (hx t ht))) hB hK⟩
theorem zz30 {T : List Tmp} {W0 : World} {e : FreeC} {a : Act} (f : FuncId) (args : Array Value) (ho : ∃ o az ats, ops[e.i]? = some o ∧ o.dst = some e.d ∧ o.guard = none ∧ o.op = .call { callee := .value (.func f), args := az, argTypes := ats } ∧ az.map a.eval = args ∧ ∀ x ∈ az.toList, ∀ t ∈ T, x ≠ .tmp t)
  (hen : ∀ w, (callFunc f args).run P w = .ok (.enter f args) w)
  (hc : ∀ w, Below W0.heap.size W0 w → Calls P f args w fun x w' => ∃ v, x = .returned v ∧ e.R w.heap.size w'.heap.size v w' ∧ Below w.heap.size w w') : CanC P ops T W0 e a := by
 obtain ⟨o, az, ats, h0, h1, h2, ho, ha, hn⟩ := ho;refine ⟨⟨o, h0, h1, h2⟩, fun Q a' w K haa hB hK => ?_⟩
 have ha' : az.map a'.eval = args := by
  rw [← ha];exact Array.map_congr_left fun x hx => haa x (hn x (by simpa using hx))
 unfold wpOp;simp only [h0];rw [if_pos (by simp [Region.wanted, h2])]
 left
 have he := hen w;have hrun : (execOp a'.eval o).run P w = .ok (.enter f args) w := by simp [execOp, ho, resolve, invoke, Act.eval, ha', he, Result.andThen, Deferred.ofValue]
 unfold Oper.wp;rw [hrun];refine Calls.mono (hc w hB) ?_;rintro x w' ⟨v, rfl, hv, hb⟩;simp only [h1];exact hK v w' hv hb
theorem zz24 {T : List Tmp} {W0 : World} {e : FreeC} {a : Act} (o : Oper) (h0 : ops[e.i]? = some o) (h1 : o.dst = some e.d) (h2 : o.guard = none) (cs : Array Value) (t : TypeId)
  (hr : ∀ (ev : Operand → Value) w, (execOp ev o).run P w = .ok (.value (.pointer (some ⟨w.heap.size, 0, none⟩))) (w.alloc (.cells cs t)))
  (hR : ∀ w, Below W0.heap.size W0 w → e.R w.heap.size (w.alloc (.cells cs t)).heap.size (.pointer (some ⟨w.heap.size, 0, none⟩)) (w.alloc (.cells cs t))) : CanC P ops T W0 e a := by
 refine ⟨⟨o, h0, h1, h2⟩, fun Q a' w K haa hB hK => ?_⟩
 unfold wpOp;simp only [h0];rw [if_pos (by simp [Region.wanted, h2])]
 left
 unfold Oper.wp;rw [hr];show K (a'.put o.dst _) _;rw [h1];exact hK _ _ (hR w hB) ((Below.refl _ _).alloc (Nat.le_refl _) _)
theorem zt73 {p : Prop} (h : p := by
 rcases List.mem_append.1 hx with h | h
 ·exact List.mem_append_left _ h
 ·exact List.mem_append_right _ (List.mem_cons_of_mem _ h)) : p := h
theorem zz84 {Q : Exit → Act → World → Prop} {W0 : World} (f : Nat) (Lf : Array Bool) (bf : Nat → Nat → Bool) (hC : ∀ w, Below W0.heap.size W0 w → C w) (T : List Tmp) :
  ∀ (n : Nat) (es : List FreeC) (L : Array Bool) (a : Act) (w : World), es.length = n → Below W0.heap.size W0 w → readyAll md ops bf Lf n (es.map (·.i)) L = true → (es.map (·.i)).Nodup → (es.map (·.d)).Nodup →
  (∀ e ∈ es, CanC P ops T W0 e a ∧ e.d ∈ T) →
  (∀ e ∈ es, ∀ lo hi v w1 w2, e.R lo hi v w1 → Below w1.heap.size w1 w2 → e.R lo hi v w2) →
  (∀ vs w', Holds w.heap.size es vs w' → Apart bf es vs → Below w.heap.size w w' → wpAnyD P md ops C ex (OnlyN Q) f Lf (putsE es vs a) w') →
  wpAnyD P md ops C ex (OnlyN Q) (f + n) L a w
 | 0, es, L, a, w, hn, hB, hr, _, _, _, _, K => by
  obtain rfl : es = [] := List.eq_nil_of_length_eq_zero hn;simp only [readyAll, Bool.and_eq_true, beq_iff_eq] at hr;obtain rfl := hr.2;exact K [] w trivial trivial (Below.refl _ _)
 | n + 1, es, L, a, w, hn, hB, hr, hni, hnd, hga, hst, K => by
  simp only [readyAll, Bool.and_eq_true, List.all_eq_true] at hr;obtain ⟨hr0, hr2⟩ := hr;refine ⟨fun h0 => ?_, fun i hi => ?_⟩
  ·rw [h0] at hr0
   simp at hr0
  ·obtain ⟨⟨hin0, hbf⟩, h2⟩ := hr2 _ hi
   obtain ⟨e, he, rfl⟩ := List.mem_map.1 (show i ∈ es.map (·.i) by simpa using hin0)
   obtain ⟨l1, l2, rfl⟩ := List.append_of_mem he;have hni' := hni;have hnd' := hnd;rw [List.map_append, List.map_cons] at hni' hnd' h2;have hi1 : e.i ∉ l1.map (·.i) := fun h => (List.nodup_append.1 hni').2.2 _ h _ (by simp) rfl
   have hi2 : e.i ∉ l2.map (·.i) := (List.nodup_cons.1 (List.nodup_append.1 hni').2.1).1;have hd1 : e.d ∉ l1.map (·.d) := fun h => (List.nodup_append.1 hnd').2.2 _ h _ (by simp) rfl
   rw [List.erase_append_right _ hi1, List.erase_cons_head, ← List.map_append] at h2;have hin : ∀ x ∈ l1 ++ l2, x ∈ l1 ++ e :: l2 := fun x hx => by
    exact zt73
   have hsub : List.Sublist (l1 ++ l2) (l1 ++ e :: l2) := List.Sublist.append (List.Sublist.refl l1) (List.sublist_cons_self e l2);refine (hga e (by simp)).1.run _ a w _ (fun _ _ => rfl) hB fun v w1 hv hb => ?_
   have hB1 := hB.trans (hb.mono hB.size);refine ⟨fun _ => hC _ hB1, ?_⟩
   refine zz84 f Lf bf hC T n (l1 ++ l2) (L.setIfInBounds e.i true) (a.put (some e.d) v) w1 (by simp at hn ⊢; omega) hB1 h2 ((hsub.map _).nodup hni) ((hsub.map _).nodup hnd) (fun x hx => ⟨(hga x (hin x hx)).1.put (hga e (by simp)).2 v, (hga x (hin x hx)).2⟩) (fun x hx => hst x (hin x hx)) ?_
   intro vs w' hh hap hb';obtain ⟨v1, v2, rfl, h1, h2'⟩ := Holds.split hh;have hall := hh.all;have := K (v1 ++ ⟨w.heap.size, w1.heap.size, v⟩ :: v2) w' (Holds.join (h1.lower hb.size) ⟨⟨hst e (by simp) _ _ v w1 w' hv hb', Nat.le_refl _⟩, h2'.lower hb.size⟩)
    (Apart.mid h1.len hap hall (fun x hx => by have := hbf x.i (List.mem_map_of_mem (hin x hx)); simpa using this)) (hb.trans (hb'.mono hb.size))
   rw [zz3x e _ l2 v2 l1 v1 a h1.len (fun x hx h => hd1 (h ▸ List.mem_map_of_mem hx))] at this
   exact this
end
section
variable {P : Program} {ops : Array Oper} {md : Region.Mode} {C : World → Prop} {ex : List Nat}
end
def putsV (a : Act) : List (Tmp × Value) → Act
 | [] => a
 | p :: l => putsV (a.put (some p.1) p.2) l
theorem zz3w (t : Tmp) (v : Value) : ∀ (l : List (Tmp × Value)) (a : Act), (∀ p ∈ l, p.1 ≠ t) → putsV (a.put (some t) v) l = (putsV a l).put (some t) v
 | [], _, _ => rfl
 | p :: l, a, h => by
  show putsV ((a.put (some t) v).put (some p.1) p.2) l = (putsV (a.put (some p.1) p.2) l).put (some t) v;rw [← zz3w t v l _ (fun q hq => h q (by simp [hq])), Act.put_comm a v p.2 (fun d h1 h2 => h p (by simp) (by injection h1 with h1; injection h2 with h2; rw [h1, h2]))]
theorem zz35 (T : List Tmp) : ∀ (l : List (Tmp × Value)) (a : Act), (∀ p ∈ l, p.1 ∈ T) → ∀ x : Operand, (∀ t ∈ T, x ≠ .tmp t) → (putsV a l).eval x = a.eval x
 | [], _, _, _, _ => rfl
 | p :: l, a, h, x, hx => by
  show (putsV (a.put (some p.1) p.2) l).eval x = _;rw [zz35 T l _ (fun q hq => h q (by simp [hq])) x hx, zz0f a x p.1 p.2 (hx _ (h p (by simp)))]
section
variable {P : Program} {ops : Array Oper} {md : Region.Mode} {C : World → Prop} {ex : List Nat}
theorem zz1w {Q : Exit → Act → World → Prop} (i j : Nat) (hs : List Nat) (di dj : Tmp) (f : Nat) {L L2 : Array Bool} {a : Act} {w : World} (v : Value) (cs : Array Value) (t : TypeId) (vs : List (Tmp × Value)) (T : List Tmp)
  (hr0 : ((Region.ready md ops L).all (fun k => k == i || k == j) && !(Region.ready md ops L).isEmpty) = true)
  (hr1 : Region.ready md ops (L.setIfInBounds j true) = [i]) (hr2 : Region.ready md ops (setAll hs (L.setIfInBounds i true)) = [j])
  (hB1 : (Region.noSelect ops && headDB md ops ex hs (L.setIfInBounds i true)) = true) (hB2 : (Region.noSelect ops && headDB md ops ex hs ((L.setIfInBounds j true).setIfInBounds i true)) = true)
  (hL1 : (setAll hs (L.setIfInBounds i true)).setIfInBounds j true = L2) (hL2 : setAll hs ((L.setIfInBounds j true).setIfInBounds i true) = L2)
  (hT : (T.contains di && T.contains dj && vs.all (fun p => T.contains p.1) && vs.all (fun p => p.1 != dj) && (di != dj)) = true)
  (hi : CanC P ops T w ⟨i, di, fun _ _ u _ => u = v⟩ a) (hj : CanC P ops T w ⟨j, dj, fun lo _ u wz => u = .pointer (some ⟨lo, 0, none⟩) ∧ wz.heap[lo]? = some (.cells cs t (0, 0))⟩ a)
  (hC : ∀ w', Below w.heap.size w w' → C w')
  (hp : ∀ (a' : Act) (K : Act → Prop), (a' = a.put (some di) v ∨ ∃ p : Nat, a' = (a.put (some dj) (.pointer (some ⟨p, 0, none⟩))).put (some di) v) → K (putsV a' vs) → wpPure P ops C K (opsAt ops hs) a')
  (cont : ∀ (p : Nat) (w' : World), w.heap.size ≤ p → w'.heap[p]? = some (.cells cs t (0, 0)) → Below w.heap.size w w' → wpAnyD P md ops C ex (OnlyN Q) f L2 ((putsV (a.put (some di) v) vs).put (some dj) (.pointer (some ⟨p, 0, none⟩))) w') :
  wpAnyD P md ops C ex (OnlyN Q) (f + hs.length + 2) L a w := by
 simp only [Bool.and_eq_true, List.all_eq_true, List.contains_iff_mem, bne_iff_ne, ne_eq] at hT;obtain ⟨⟨⟨⟨hTi, hTj⟩, hTv⟩, hvj⟩, hij⟩ := hT;simp only [Bool.and_eq_true] at hr0;refine ⟨fun h => ?_, fun k hk => ?_⟩
 ·rw [h] at hr0
  simp at hr0
 have hk' : k = i ∨ k = j := by simpa using List.all_eq_true.1 hr0.1 k hk
 rcases hk' with rfl | rfl
 ·refine hi.run _ a w _ (fun _ _ => rfl) (Below.refl _ _) fun u w1 hu hb => ⟨fun _ => hC _ hb, ?_⟩
  obtain rfl : u = v := hu;rw [show f + hs.length + 1 = (f + 1) + hs.length by omega]
  refine zz1k hs (f + 1) hB1 rfl (hC _ hb) (hp _ _ (.inl rfl) ?_);refine ⟨fun h => (by rw [hr2] at h; cases h), fun k' hk' => ?_⟩
  rw [hr2] at hk';obtain rfl : k' = j := by simpa using hk'
  refine hj.run _ _ w1 _ (fun x hx => ?_) hb fun u1 w2 hu1 hb1 => ⟨fun _ => hC _ (hb.trans (hb1.mono hb.size)), ?_⟩
  ·rw [zz35 T vs _ (fun p hp => hTv p hp) x hx, zz0f a x di u (hx _ hTi)]
  ·obtain ⟨rfl, hg⟩ := hu1
   rw [hL1];exact cont _ _ hb.size hg (hb.trans (hb1.mono hb.size))
 ·refine hj.run _ a w _ (fun _ _ => rfl) (Below.refl _ _) fun u1 w1 hu1 hb => ⟨fun _ => hC _ hb, ?_⟩
  obtain ⟨rfl, hg⟩ := hu1;refine ⟨fun h => (by rw [hr1] at h; cases h), fun k' hk' => ?_⟩
  rw [hr1] at hk';obtain rfl : k' = i := by simpa using hk'
  refine hi.run _ _ w1 _ (fun x hx => zz0f a x dj _ (hx _ hTj)) hb fun u w2 hu hb1 => ⟨fun _ => hC _ (hb.trans (hb1.mono hb.size)), ?_⟩
  obtain rfl : u = v := hu;refine zz1k hs f hB2 hL2 (hC _ (hb.trans (hb1.mono hb.size))) (hp _ _ (.inr ⟨_, rfl⟩) ?_);have hcomm : (a.put (some dj) (.pointer (some ⟨w.heap.size, 0, none⟩))).put (some di) u = (a.put (some di) u).put (some dj) (.pointer (some ⟨w.heap.size, 0, none⟩)) := Act.put_comm a _ u (fun d h1 h2 => hij (by injection h1 with h1; injection h2 with h2; rw [h1, h2]))
  show wpAnyD P md ops C ex (OnlyN Q) f L2 (putsV ((a.put (some dj) (.pointer (some ⟨w.heap.size, 0, none⟩))).put (some di) u) vs) w2;rw [hcomm, zz3w _ _ _ _ (fun p hp => hvj p hp)]
  exact cont _ _ (Nat.le_refl _) (zz06 hg hb1) (hb.trans (hb1.mono hb.size))
end
end
section
open Go Go.RowKit Go.Maps Go.WideMaps Go.MapKept
theorem zt8 {p : Prop} (h : p := by
 cases kb with
 | false =>
  clear q2;go_wp2_with fail;(with_reducible refine (q1.out _).mono ?_);rintro e w2 ⟨rfl, rfl⟩;go_wp2_with fail;go_ret;exact ⟨by rw [hex.out (by rw [hok.out]; rfl)]; rfl, HB1.out⟩
 | true =>
  have hlook := hS1.out.look hr2.out HZ.out;cases z with
  | true =>
   clear q2;go_wp2_with fail;(with_reducible refine (q1.out _).mono ?_);rintro e w2 ⟨rfl, rfl⟩;go_wp2_with fail;go_ret;exact ⟨by rw [hex.out (by rw [hok.out]; simp)]; rfl, HB1.out⟩
  | false =>
   by_cases hlast : k + 1 < l.length
   ·have t9 : decide ((k : Int) < (l.length : Int) - 1) = true := decide_eq_true zw
    rw [decide_eq_true hlast] at hok;cases hb with
    | false =>
     go_wp2_with fail;(with_reducible refine (q1.out _).mono ?_);rintro e w2 ⟨rfl, rfl⟩;go_wp2_with fail;(with_reducible refine (q2.out _ hT1).mono ?_);rintro e w3 ⟨rfl, hb3⟩;have HB3 := zB HB1 hb3;clear hb3;go_wp2_with fail;go_ret;exact ⟨by rw [hex.out (by rw [hok.out]; simp)]; rfl, HB3.out⟩
    | true =>
     go_wp2_with fail;(with_reducible refine (q1.out _).mono ?_);rintro e w2 ⟨rfl, rfl⟩;go_wp2_with fail;(with_reducible refine (q2.out _ hT1).mono ?_);rintro e w3 ⟨rfl, hb3⟩;have HB3 := zB HB1 hb3;have hS3 := zH (hS1.out.call hb3);have c0 := zz00 (zz06 hblk.out hb3) 0 _ rfl;clear hb3;go_wp2_with (at_mapUpdate; refine zz1t _ rfl _ _ _ rfl hS3 zw r hr2.out rfl rfl rfl ?_; intro w4 hS4 hg4);have HB4 := zH (HB3.out.trans (zz4v (B := w.heap.size) hg4.out (Nat.le_refl _) hS3.out.lt));go_roundw
     case rel => exact ⟨k + 1, by go_num, by show _ ≤ _; omega, by rw [htk.out, List.map_append]; exact hS4.out, hgo.out (by rw [hok.out]; simp), HB4.out⟩
     case measure => simp [intOf]; omega
   ·have t9 : decide ((k : Int) < (l.length : Int) - 1) = false := decide_eq_false zw
    rw [decide_eq_false hlast] at hok;have c0 := zz00 hblk.out 0 _ rfl;go_wp2_with fail;(with_reducible refine (q1.out _).mono ?_);rintro e w2 ⟨rfl, rfl⟩;go_wp2_with (at_mapUpdate; refine zz1t _ rfl _ _ _ rfl hS1 zw r hr2.out rfl rfl rfl ?_; intro w4 hS4 hg4);have HB4 := zH (HB1.out.trans (zz4v (B := w.heap.size) hg4.out (Nat.le_refl _) hS1.out.lt));go_roundw
    case rel => exact ⟨k + 1, by go_num, by show _ ≤ _; omega, by rw [htk.out, List.map_append]; exact hS4.out, hgo.out (by rw [hok.out]; simp), HB4.out⟩
    case measure => simp [intOf]; omega) : p := h
theorem zt47 {p : Prop} (h : p := by
 clear q2;go_wp2_with fail;(with_reducible refine (q1.out _).mono ?_);rintro e w2 ⟨rfl, rfl⟩;go_wp2_with fail;go_ret;exact ⟨by rw [hex.out (by rw [hok.out]; rfl)]; rfl, HB1.out⟩) : p := h
theorem zt85 {p : Prop} (h : p := by
 clear q2;go_wp2_with fail;(with_reducible refine (q1.out _).mono ?_);rintro e w2 ⟨rfl, rfl⟩;go_wp2_with fail;go_ret;exact ⟨by rw [hex.out (by rw [hok.out]; simp_all)]; rfl, HB1.out⟩) : p := h
theorem May_any (v : Value) (l : List Stp) (w : World) (hT : Hid (Law16 w)) (hv : Hid (StepsAt w v l)) (hl : l.length ≤ 1000) :
  Calls Tryz.prog 92 #[v] w fun e w' => e = .returned (.bool (mayS l)) ∧ Below w.heap.size w w' := by
 have qT := zH (fun n hn w => zz8h n hn w)
 have qH := zH (fun s hs w h => zz6b s hs w h)
 have hmm := @run_makeMap Tryz.prog;obtain ⟨A, c, rfl, _⟩ := hv.out;go_in;go_wp2_with fail;go_loopw [10] (fun s10 wr => ∃ (k : Nat), s10 = .int .i64 k ∧ Hid (k ≤ l.length) ∧ Hid (SeenAt wr w.heap.size k ((l.take k).map (·.rule))) ∧ Hid (mayB l k = true) ∧ Hid (Below w.heap.size w wr)) (fun s10 _ => l.length - (intOf s10).toNat)
 case atStart => exact ⟨0, rfl, Nat.zero_le _, SeenAt.made w, rfl, (Below.refl _ _).alloc (Nat.le_refl _) _⟩
 case round =>
  obtain ⟨k, rfl, hk, hS, hM, hB⟩ := hrel;clear hmm;by_cases hkl : k < l.length
  ·obtain ⟨A', c', hA', hci⟩ := (hv.out.call hB.out)
   cases hA';have hge : l[k]? = some l[k] := List.getElem?_eq_getElem hkl;obtain ⟨hf, b, o, rfl, hbl, h0, h1, h2, h3⟩ := hci k _ hge;have htk : Hid (l.take (k + 1) = l.take k ++ [l[k]]) := List.take_succ_eq_append_getElem hkl;have HG := zH hge;clear hci hge;generalize l[k] = s at *;obtain ⟨r, x, y, ov⟩ := s;have h0 : wr.cell? ⟨b, o + k * 4, none⟩ = some (.int .i64 r) := h0;have h1 : wr.cell? ⟨b, o + k * 4 + 1, none⟩ = some (.int .i64 x) := h1;have h2 : wr.cell? ⟨b, o + k * 4 + 2, none⟩ = some (.int .i64 y) := h2;have h3 : wr.cell? ⟨b, o + k * 4 + 3, none⟩ = some (.bool ov) := h3;have hr : I64 r := hf.1;have hr2 : Hid (I64 r) := hr;have q1 := zH (fun w => qT.out r hr w)
   have q2 : Hid (∀ w, Hid (Law16 w) → Calls Tryz.prog 91 #[.agg #[r, x, y, .bool ov]] w fun e w' => e = .returned (.bool (Stp.mk r x y ov).holds) ∧ Below w.heap.size w w') := fun w h => qH.out ⟨r, x, y, ov⟩ hf w h
   have hkn : Hid ((Stp.mk r x y ov).known = decide (0 < r ∧ r < 24)) := rfl;have hba : Hid ((Stp.mk r x y ov).bare = (ov && (x != 0 || y != 0))) := rfl
   have hkw : w.heap.size < wr.heap.size := hS.out.lt;have hS1 := zH (hS.out.call ((Below.refl wr.heap.size wr).alloc (Nat.le_refl _) (.cells #[r, x, y, .bool ov] 65)));have HB1 := zH (zz01 hB.out hB.out.size (.cells #[r, x, y, .bool ov] 65));have hblk : Hid ((wr.alloc (.cells #[r, x, y, .bool ov] 65)).heap[wr.heap.size]? = some (.cells #[r, x, y, .bool ov] 65 (0, 0))) := zz02 _ _;have hT1 := zH (hT.out.call HB1.out);obtain ⟨z, hz⟩ : ∃ z, (((l.take k).map (·.rule)).any fun t => t == r) = z := ⟨_, rfl⟩
   have hse : Hid (((l.take k).any fun t => t.rule == r) = z) := by show _ = _; rw [← hz, List.any_map]; rfl
   have HZ := zH hz;obtain ⟨kb, hkb⟩ : ∃ kb, decide (0 < r ∧ r < 24) = kb := ⟨_, rfl⟩;rw [hkb] at q1 hkn;obtain ⟨hb, hhb⟩ : ∃ hb, (Stp.mk r x y ov).holds = hb := ⟨_, rfl⟩;rw [hhb] at q2;have HH := zH hhb;have hok : Hid (okB l k ⟨r, x, y, ov⟩ = (kb && !(ov && (x != 0 || y != 0)) && !z && (!decide (k + 1 < l.length) || hb))) := by
    show _ = _;unfold okB;rw [hkn.out, hba.out, hhb];show (kb && !(ov && (x != 0 || y != 0)) && !((l.take k).any fun t => t.rule == r) && _) = _
    rw [hse.out]
   have hex : Hid (okB l k ⟨r, x, y, ov⟩ = false → mayS l = false) := fun h => zzb4 HG.out h
   have hgo : Hid (okB l k ⟨r, x, y, ov⟩ = true → mayB l (k + 1) = true) := fun h => mayB_step HG.out hM.out h
   clear hkb hhb hz hkn hba hse qT qH hf HG hS hM;by_cases hov : ov = true
   ·by_cases hx : x = 0
    ·by_cases hy : y = 0
     ·subst hov hx hy
      exact zt8
     ·have t1 : (y != 0) = true := by simp [hy]
      subst hov hx;clear hy;cases kb with
      | false =>
       exact zt47
      | true =>
       exact zt85
    ·have t1 : (x != 0) = true := by simp [hx]
     subst hov;clear hx;cases kb with
     | false =>
      exact zt47
     | true =>
      exact zt85
   ·obtain rfl : ov = false := by simpa using hov
    clear hov;exact zt8
  ·have hkk : k = l.length := by have := hk.out; omega
   subst hkk;go_wp2_with fail;go_ret;exact ⟨by rw [show mayS l = true from hM.out]; rfl, hB.out⟩
def VerBlk (w : World) (g : Nat) (c n : Int) : Prop := w.heap[g]? = some (.cells #[c, n] 33 (0, 0))
theorem VerBlk.call {w w' : World} {g : Nat} {c n : Int} (h : VerBlk w g c n) (hb : Below w.heap.size w w') : VerBlk w' g c n := zz06 h hb
theorem VerBlk.old {w : World} {g : Nat} {c n : Int} (h : VerBlk w g c n) (o : Obj) : VerBlk (w.alloc o) g c n := zz05 h o
theorem VerBlk.lt {w : World} {g : Nat} {c n : Int} (h : VerBlk w g c n) : g < w.heap.size := zL h
theorem VerBlk.c0 {w : World} {g : Nat} {c n : Int} (h : VerBlk w g c n) : w.cell? ⟨g, 0, none⟩ = some (.int .i64 c) := zz00 h 0 _ rfl
theorem VerBlk.c1 {w : World} {g : Nat} {c n : Int} (h : VerBlk w g c n) : w.cell? ⟨g, 1, none⟩ = some (.int .i64 n) := zz00 h 1 _ rfl
theorem VerBlk.z {w : World} {g : Nat} {c n : Int} (h : VerBlk w g c n) (i : Nat) : w.frozen? ⟨g, i, none⟩ = false := zz04 h i
theorem VerBlk.s0 {w : World} {g : Nat} {c n : Int} (h : VerBlk w g c n) (d : Int) : VerBlk (w.setCell ⟨g, 0, none⟩ (.int .i64 d)) g d n := zz0b h 0 _
theorem VerBlk.s1 {w : World} {g : Nat} {c n : Int} (h : VerBlk w g c n) (d : Int) : VerBlk (w.setCell ⟨g, 1, none⟩ (.int .i64 d)) g c d := zz0b h 1 _
theorem VerBlk.oth {w : World} {g q : Nat} {c n : Int} (h : VerBlk w g c n) (i : Nat) (u : Value) (hne : g ≠ q) : VerBlk (w.setCell ⟨q, i, none⟩ u) g c n := zz09 h i u hne
theorem zz1m {w w1 : World} {g : Nat} {B : Nat} (h : Below B w w1) (hg : B ≤ g) (u v : Value) : Below B w ((w1.setCell ⟨g, 0, none⟩ u).setCell ⟨g, 1, none⟩ v) := (h.setCell hg u).setCell hg v
theorem zz99 (v : Value) (l : List Stp) (w : World) (hT : Hid (Law16 w)) (hv : Hid (StepsAt w v l)) (hl : l.length ≤ 1000) :
  Calls Tryz.prog 37 #[v] w fun e w' => e = .returned (if mayS l then .tuple #[.agg #[.int .i64 (goW l 0).1, .int .i64 (goW l 0).2], .int .i64 0] else .tuple #[.agg #[.int .i64 0, .int .i64 0], .int .i64 3]) ∧ Below w.heap.size w w' := by
 have qM : Hid (∀ w, Hid (Law16 w) → Hid (StepsAt w v l) → Calls Tryz.prog 92 #[v] w fun e w' => e = .returned (.bool (mayS l)) ∧ Below w.heap.size w w') := fun w hT hv => May_any v l w hT hv hl
 have qH := zH (fun s hs w h => zz6b s hs w h)
 have qC := zH (fun n hn w h => Code_any n hn w h)
 have hb0 := (Below.refl w.heap.size w).alloc (Nat.le_refl _) (.cells #[.int .i64 0, .int .i64 0] 33);have hT0 := zH (hT.out.call hb0);have hv0 := zH (hv.out.call hb0);have hblk0 : Hid (VerBlk (w.alloc (.cells #[.int .i64 0, .int .i64 0] 33)) w.heap.size 0 0) := zz02 _ _;have HB0 := zH hb0;clear hb0;obtain ⟨A, c, rfl, _⟩ := hv.out;obtain ⟨m, hm⟩ : ∃ m, mayS l = m := ⟨_, rfl⟩;rw [hm] at qM ⊢;clear hm;cases m with
 | false =>
  rw [if_neg (by simp)]
  go_in;go_wp2_with fail;(with_reducible refine (qM.out _ hT0 hv0).mono ?_);rintro e w1 ⟨rfl, hb1⟩;have HB1 := zB HB0 hb1;have hblk1 := zH (hblk0.out.call hb1);clear hb1 hT0 hv0 hblk0 HB0;have e0 := hblk1.out.c0; have e1 := hblk1.out.c1; have z0 := hblk1.out.z;go_wp2_with fail;have hk := (hblk1.out.s0 0).s1 0;have HB2 := zH (zz1m HB1.out (Nat.le_refl _) (.int .i64 0) (.int .i64 0));generalize (w1.setCell ⟨w.heap.size, 0, none⟩ (.int .i64 0)).setCell ⟨w.heap.size, 1, none⟩ (.int .i64 0) = w9 at *;clear e0 e1 z0;have e0 := hk.c0; have e1 := hk.c1;refine bodyPost_ret (v := .tuple #[.agg #[.int .i64 0, .int .i64 0], .int .i64 3]) ?_ rfl ⟨rfl, HB2.out⟩;rw [results_cell_tmp rfl]; go_simp
 | true =>
  rw [if_pos rfl];go_in;go_wp2_with fail;(with_reducible refine (qM.out _ hT0 hv0).mono ?_);rintro e w1 ⟨rfl, hb1⟩;have HB1 := zB HB0 hb1;have hblk1 := zH (hblk0.out.call hb1);have hG0 : w.heap.size < w1.heap.size := hblk1.out.lt;have hk2 : Hid (VerBlk (w1.alloc (.cells #[.int .i64 0, .int .i64 0] 33)) w1.heap.size 0 0) := zz02 _ _;have hk1 := zH (hblk1.out.old (.cells #[.int .i64 0, .int .i64 0] 33));have HB2 := zH (zz01 HB1.out HB1.out.size (.cells #[.int .i64 0, .int .i64 0] 33));clear hb1 hT0 hv0 hblk0 HB0 hblk1 HB1 qM;go_wp2_with fail;go_loopw [13] (fun s13 wr => ∃ (k : Nat) (need : Int), s13 = .int .i64 k ∧ Hid (k ≤ l.length) ∧ Hid (I64 need) ∧ Hid (VerBlk wr w.heap.size 0 0) ∧ Hid (VerBlk wr w1.heap.size 0 need) ∧ Hid (goW (l.drop k) need = goW l 0) ∧ Hid (Below w.heap.size w wr)) (fun s13 _ => l.length - (intOf s13).toNat)
  case atStart => exact ⟨0, 0, rfl, Nat.zero_le _, by show I64 0; unfold I64; omega, hk1.out, hk2.out, rfl, HB2.out⟩
  case round =>
   obtain ⟨k, need, rfl, hk, hn, hR, hV, hW, hB⟩ := hrel;generalize hG1 : w1.heap.size = G1 at *;clear hk1 hk2 HB2 hG1;by_cases hkl : k < l.length
   ·obtain ⟨A', c', hA', hci⟩ := (hv.out.call hB.out)
    cases hA';have hge : l[k]? = some l[k] := List.getElem?_eq_getElem hkl;obtain ⟨hf, b, o, rfl, hbl, h0, h1, h2, h3⟩ := hci k _ hge;have hst := zH (zzbd hge need);clear hci hge;generalize l[k] = s at *;obtain ⟨r, x, y, ov⟩ := s;have h0 : wr.cell? ⟨b, o + k * 4, none⟩ = some (.int .i64 r) := h0;have h1 : wr.cell? ⟨b, o + k * 4 + 1, none⟩ = some (.int .i64 x) := h1;have h2 : wr.cell? ⟨b, o + k * 4 + 2, none⟩ = some (.int .i64 y) := h2;have h3 : wr.cell? ⟨b, o + k * 4 + 3, none⟩ = some (.bool ov) := h3;have hr2 : Hid (I64 r) := hf.1;have hx2 : Hid (I64 x) := hf.2.1;have q2 : Hid (∀ w, Hid (Law16 w) → Calls Tryz.prog 91 #[.agg #[r, x, y, .bool ov]] w fun e w' => e = .returned (.bool (Stp.mk r x y ov).holds) ∧ Below w.heap.size w w') := fun w h => qH.out ⟨r, x, y, ov⟩ hf w h
    have HB1 := zH (zz01 hB.out hB.out.size (.cells #[r, x, y, .bool ov] 65));have hblk : Hid ((wr.alloc (.cells #[r, x, y, .bool ov] 65)).heap[wr.heap.size]? = some (.cells #[r, x, y, .bool ov] 65 (0, 0))) := zz02 _ _;have hT1 := zH (hT.out.call HB1.out);have hR1 := zH (hR.out.old (.cells #[r, x, y, .bool ov] 65));have hV1 := zH (hV.out.old (.cells #[r, x, y, .bool ov] 65));clear qH hf hR hV;cases ov with
    | true =>
     have hs1 : Hid (goW l 0 = (12, 0)) := hW.out.symm.trans (hst.out.trans (if_pos rfl));have e0 := hR1.out.c0; have e1 := hR1.out.c1; have z0 := hR1.out.z;clear hst q2;go_wp2_with fail;have hk := (hR1.out.s0 (12)).s1 (0);have HB9 := zH (zz1m HB1.out (Nat.le_refl _) (.int .i64 (12)) (.int .i64 (0)));generalize ((wr.alloc (.cells #[r, x, y, .bool true] 65)).setCell ⟨w.heap.size, 0, none⟩ (.int .i64 (12))).setCell ⟨w.heap.size, 1, none⟩ (.int .i64 (0)) = w9 at *;clear e0 e1 z0;have e0 := hk.c0; have e1 := hk.c1;rw [hs1.out];refine bodyPost_ret (v := .tuple #[.agg #[.int .i64 (12), .int .i64 (0)], .int .i64 0]) ?_ rfl ⟨rfl, HB9.out⟩;rw [results_cell_tmp rfl]; go_simp
    | false =>
     obtain ⟨hb, hhb⟩ : ∃ hb, (Stp.mk r x y false).holds = hb := ⟨_, rfl⟩;rw [hhb] at q2;have hst2 : Hid (goW l 0 = if hb then (if r = 20 then goW (l.drop (k + 1)) x else goW (l.drop (k + 1)) need) else (((codeS r : Nat) : Int), 0)) := by
      show _ = _;rw [← hW.out, hst.out, if_neg (by simp), hhb]
     have c0 := zz00 hblk.out 0 _ rfl;clear hhb hst hW;cases hb with
     | false =>
      have hs1 : Hid (goW l 0 = (((codeS r : Nat) : Int), 0)) := hst2.out.trans (if_neg (by simp))
      clear hst2;go_wp2_with fail;(with_reducible refine (q2.out _ hT1).mono ?_);rintro e w3 ⟨rfl, hb3⟩;have HB3 := zB HB1 hb3;have hT3 := zH (hT1.out.call hb3).rules;have hR3 := zH (hR1.out.call hb3);have d0 := zz00 (zz06 hblk.out hb3) 0 _ rfl;clear hb3 c0;go_wp2_with fail;(with_reducible refine (qC.out r hr2.out _ hT3).mono ?_);rintro e w4 ⟨rfl, hb4⟩;have HB4 := zB HB3 hb4;have hR4 := zH (hR3.out.call hb4);clear hb4 d0;generalize ((codeS r : Nat) : Int) = cd at *;have e0 := hR4.out.c0; have e1 := hR4.out.c1; have z0 := hR4.out.z;go_wp2_with fail;have hk := (hR4.out.s0 (cd)).s1 (0);have HB9 := zH (zz1m HB4.out (Nat.le_refl _) (.int .i64 (cd)) (.int .i64 (0)));generalize (w4.setCell ⟨w.heap.size, 0, none⟩ (.int .i64 (cd))).setCell ⟨w.heap.size, 1, none⟩ (.int .i64 (0)) = w9 at *;clear e0 e1 z0;have e0 := hk.c0; have e1 := hk.c1;rw [hs1.out];refine bodyPost_ret (v := .tuple #[.agg #[.int .i64 (cd), .int .i64 (0)], .int .i64 0]) ?_ rfl ⟨rfl, HB9.out⟩;rw [results_cell_tmp rfl]; go_simp
     | true =>
      have hs1 := zH (hst2.out.trans (if_pos rfl));clear hst2;by_cases h20 : r = 20
      ·have hs2 : Hid (goW (l.drop (k + 1)) x = goW l 0) := (hs1.out.trans (if_pos h20)).symm
       subst h20;go_wp2_with fail;(with_reducible refine (q2.out _ hT1).mono ?_);rintro e w3 ⟨rfl, hb3⟩;have HB3 := zB HB1 hb3;have hR3 := zH (hR1.out.call hb3);have hV3 := zH (hV1.out.call hb3);have d0 := zz00 (zz06 hblk.out hb3) 0 _ rfl;have d1 := zz00 (zz06 hblk.out hb3) 1 _ rfl;clear hb3 c0;have e1 := hV3.out.c1; have z1 := hV3.out.z;go_wp2_with fail;go_roundw
       case rel => exact ⟨k + 1, x, by go_num, by show _ ≤ _; omega, hx2.out, hR3.out.oth _ _ zw, hV3.out.s1 x, hs2.out, HB3.out.setCell (Nat.le_of_lt hG0) _⟩
       case measure => simp [intOf]; omega
      ·have hs2 : Hid (goW (l.drop (k + 1)) need = goW l 0) := (hs1.out.trans (if_neg h20)).symm
       have t2 : (r == 20) = false := beq_eq_false_iff_ne.2 h20;clear h20 hs1;go_wp2_with fail;(with_reducible refine (q2.out _ hT1).mono ?_);rintro e w3 ⟨rfl, hb3⟩;have HB3 := zB HB1 hb3;have hR3 := zH (hR1.out.call hb3);have hV3 := zH (hV1.out.call hb3);have d0 := zz00 (zz06 hblk.out hb3) 0 _ rfl;clear hb3 c0;go_wp2_with fail;go_roundw
       case rel => exact ⟨k + 1, need, by go_num, by show _ ≤ _; omega, hn.out, hR3.out, hV3.out, hs2.out, HB3.out⟩
       case measure => simp [intOf]; omega
   ·have hkk : k = l.length := by have := hk.out; omega
    subst hkk;have hs1 : Hid (goW l 0 = (0, need)) := by
     have := hW.out;rw [List.drop_length] at this;exact this.symm
    have e0 := hR.out.c0; have e1 := hR.out.c1; have z0 := hR.out.z;have e2 := hV.out.c0; have e3 := hV.out.c1;go_wp2_with fail;have hk := (hR.out.s0 (0)).s1 (need);have HB9 := zH (zz1m hB.out (Nat.le_refl _) (.int .i64 (0)) (.int .i64 (need)));generalize (wr.setCell ⟨w.heap.size, 0, none⟩ (.int .i64 (0))).setCell ⟨w.heap.size, 1, none⟩ (.int .i64 (need)) = w9 at *;clear e0 e1 z0;have e0 := hk.c0; have e1 := hk.c1;rw [hs1.out];refine bodyPost_ret (v := .tuple #[.agg #[.int .i64 (0), .int .i64 (need)], .int .i64 0]) ?_ rfl ⟨rfl, HB9.out⟩;rw [results_cell_tmp rfl]; go_simp
end
end Go.Proofs.YtajogedbacpohaaGreatDoor
