/- Books: rows of records of whole numbers, read and owned; copy at records. -/
import Derived.Test.YtfkfpppiikgjbaaBookD
import Derived.Laws.CopyOwn
import Derived.Maps.AppendAt
namespace Go.Proofs.Ytfkfpppiikgjbaa
open Go Go.RowKit
set_option linter.unusedVariables false
set_option linter.unusedSimpArgs false

theorem flat_len {k : Nat} : ∀ {l : List (List Int)}, (∀ r ∈ l, r.length = k) → l.flatten.length = l.length * k
  | [], _ => by simp
  | r :: t, h => by
    rw [List.flatten_cons, List.length_append, flat_len (fun r hr => h r (by simp [hr])), h r (by simp), List.length_cons, Nat.succ_mul, Nat.add_comm]
theorem flat_get {k : Nat} : ∀ {l : List (List Int)} {i j : Nat} {r : List Int} {x : Int}, (∀ r ∈ l, r.length = k) → l[i]? = some r → r[j]? = some x → l.flatten[i * k + j]? = some x
  | [], i, j, r, x, _, hi, _ => by simp at hi
  | a :: t, 0, j, r, x, h, hi, hj => by
    obtain rfl : a = r := by simpa using hi
    rw [List.flatten_cons, Nat.zero_mul, Nat.zero_add, List.getElem?_append_left (List.getElem?_eq_some_iff.1 hj).1, hj]
  | a :: t, i + 1, j, r, x, h, hi, hj => by
    rw [List.flatten_cons, List.getElem?_append_right (by rw [h a (by simp), Nat.succ_mul]; omega), h a (by simp), show (i + 1) * k + j - k = i * k + j by rw [Nat.succ_mul]; omega]
    exact flat_get (fun r hr => h r (by simp [hr])) (by simpa using hi) hj
/-- A row of records, as it may be read. -/
def RowAt (w : World) (v : Value) (k : Nat) (l : List (List Int)) : Prop :=
  ∃ A c, v = .slice A l.length c ∧ (∀ r ∈ l, r.length = k) ∧ (l = [] ∨ ∃ b o, A = some ⟨b, o, none⟩ ∧ b < w.heap.size ∧ ∀ (j : Nat) (x : Int), l.flatten[j]? = some x → w.cell? ⟨b, o + j, none⟩ = some (.int .i64 x))
theorem RowAt.rec' {w : World} {v : Value} {k : Nat} {l : List (List Int)} (h : RowAt w v k l) : RecAt w v k l := by
  obtain ⟨A, c, rfl, hk, h⟩ := h
  refine ⟨A, c, rfl, fun i r hi => ?_⟩
  have hk' := hk r (List.mem_of_getElem? hi)
  rcases h with rfl | ⟨b, o, rfl, hb, hc⟩
  · simp at hi
  · exact ⟨hk', b, o, rfl, hb, fun j x hj => by rw [show o + i * k + j = o + (i * k + j) by omega]; exact hc _ _ (flat_get hk hi hj)⟩
theorem RowAt.call {w w' : World} {v : Value} {k : Nat} {l : List (List Int)} (h : RowAt w v k l) (hb : Below w.heap.size w w') : RowAt w' v k l := by
  obtain ⟨A, c, rfl, hk, h⟩ := h
  refine ⟨A, c, rfl, hk, ?_⟩
  rcases h with h | ⟨b, o, rfl, hl, hc⟩
  · exact .inl h
  · exact .inr ⟨b, o, rfl, Nat.lt_of_lt_of_le hl hb.size, fun j x hj => (hb.cell (p := ⟨b, o + j, none⟩) hl).trans (hc j x hj)⟩
theorem RowAt.upto {B : Nat} {w w' : World} {v : Value} {k : Nat} {l : List (List Int)} (h : RowAt w v k l) (hB : ∀ b, v.ownBlock = some b → b < B) (hs : w.heap.size ≤ w'.heap.size) (hb : ∀ j, j < B → w'.heap[j]? = w.heap[j]?) : RowAt w' v k l := by
  obtain ⟨A, c, rfl, hk, h⟩ := h
  refine ⟨A, c, rfl, hk, ?_⟩
  rcases h with h | ⟨b, o, rfl, hl, hc⟩
  · exact .inl h
  · exact .inr ⟨b, o, rfl, Nat.lt_of_lt_of_le hl hs, fun j x hj => (World.cell?_of_block (hb b (hB b rfl))).trans (hc j x hj)⟩
def flatC (l : List (List Int)) : List Value := l.flatten.map (Value.int .i64)
theorem flatC_append (l m : List (List Int)) : flatC (l ++ m) = flatC l ++ flatC m := by simp [flatC]
theorem flatC_len {k : Nat} {l : List (List Int)} (h : ∀ r ∈ l, r.length = k) : (flatC l).length = l.length * k := by rw [flatC, List.length_map, flat_len h]
theorem flatC_one (l : List (List Int)) : ∀ u ∈ flatC l, u.oneCell' = true := by
  intro u hu
  obtain ⟨x, _, rfl⟩ := List.mem_map.1 hu
  rfl
theorem flatC_take {k : Nat} {l : List (List Int)} (h : ∀ r ∈ l, r.length = k) (i : Nat) (hi : i ≤ l.length) : flatC (l.take i) = (flatC l).take (i * k) := by
  have e := flatC_append (l.take i) (l.drop i)
  rw [List.take_append_drop] at e
  rw [e, List.take_left' (by rw [flatC_len (fun r hr => h r (List.mem_of_mem_take hr)), List.length_take, Nat.min_eq_left hi])]
theorem flatC_drop {k : Nat} {l : List (List Int)} (h : ∀ r ∈ l, r.length = k) (i : Nat) (hi : i ≤ l.length) : flatC (l.drop i) = (flatC l).drop (i * k) := by
  have e := flatC_append (l.take i) (l.drop i)
  rw [List.take_append_drop] at e
  rw [e, List.drop_left' (by rw [flatC_len (fun r hr => h r (List.mem_of_mem_take hr)), List.length_take, Nat.min_eq_left hi])]
/-- A row of records of the call's own. -/
def RowOwn (w : World) (B : Nat) (e : TypeId) (v : Value) (k : Nat) (l : List (List Int)) : Prop := w.ownsRow B e k v l.length (flatC l) ∧ ∀ r ∈ l, r.length = k
theorem RowOwn.row {w : World} {B : Nat} {e : TypeId} {v : Value} {k : Nat} {l : List (List Int)} (h : RowOwn w B e v k l) : RowAt w v k l := by
  obtain ⟨ho, hk⟩ := h
  rcases ho.2 with ⟨rfl, h0⟩ | ⟨g, cap, cur, rfl, hB, hg, hn, hm, hs, ht⟩
  · obtain rfl : l = [] := List.eq_nil_of_length_eq_zero h0
    exact ⟨none, 0, rfl, hk, .inl rfl⟩
  · refine ⟨some ⟨g, 0, none⟩, cap, rfl, hk, .inr ⟨g, 0, rfl, (Array.getElem?_eq_some_iff.1 hg).1, fun j x hj => ?_⟩⟩
    have := ho.cells (g := g) rfl j (.int .i64 x) (by rw [flatC, List.getElem?_map, hj]; rfl)
    rwa [Addr.add_lit] at this
theorem RowOwn.kept {w w' : World} {B : Nat} {e : TypeId} {v : Value} {k : Nat} {l : List (List Int)} (h : RowOwn w B e v k l) (hb : Below w.heap.size w w') : RowOwn w' B e v k l := by
  refine ⟨h.1.kept (row := none) ⟨hb.os, hb.tape, hb.output, hb.size, fun j hj _ => hb.block j hj⟩ ?_, h.2⟩
  cases hv : v.ownBlock with
  | none => exact .inl rfl
  | some b => exact .inr (by simp)
theorem RowOwn.form {w : World} {B : Nat} {e : TypeId} {v : Value} {k : Nat} {l : List (List Int)} (h : RowOwn w B e v k l) : ∃ A c, v = .slice A l.length c := by
  rcases h.1.2 with ⟨rfl, h0⟩ | ⟨g, cap, cur, rfl, _⟩
  · exact ⟨none, 0, by rw [h0]⟩
  · exact ⟨_, _, rfl⟩

variable {P : Program}
/-- 'copy' of records of k cells into a row that is known whole. -/
theorem run_copy_k (w : World) (dT sT ty elem : TypeId) (k g o dLen dCap : Nat) (a : Addr) (sLen sCap : Nat) (cur : Array Value) (t : TypeId) (cs : List Value)
    (hu : P.underlying dT = some (.slice elem)) (hs : (P.info? elem).map (·.size) = some k)
    (hg : w.heap[g]? = some (.cells cur t (0, 0))) (hn : cs.length = Nat.min sLen dLen * k)
    (hsrc : ∀ j v, cs[j]? = some v → w.cell? (a.add j) = some v) (hfit : o + cs.length ≤ cur.size) (h1 : ∀ v ∈ cs, v.oneCell' = true) :
    (Builtin.copy_ #[dT, sT] ty #[.slice (some ⟨g, o, none⟩) dLen dCap, .slice (some a) sLen sCap]).run P w =
      .ok (goInt (Nat.min sLen dLen)) (w.setRow g (cur.toList.take o ++ cs ++ cur.toList.drop (o + cs.length)).toArray) := by
  have hl := run_loadCells_list (P := P) w a cs hsrc
  have hst := run_storeCells_at P g o t cs 0 cur w hg (by simpa using hfit) h1
  cases hq : P.info? elem with
  | none => simp [hq] at hs
  | some i =>
    have hi : i.size = k := by simpa [hq] using hs
    simp [Builtin.copy_, run_underlying hu, Builtin.lenOf, Builtin.firstCells, sizeOf, typeInfo, hq, hi, ← hn, hl, hst]

/-- .. as an operation of a straight list. -/
theorem wpList_copy_k {w : World} {ops : Array Oper} {rest : List Oper} {o : Oper} {a : Act} {Q : Exit → Act → World → Prop} (hgd : o.guard = none) (d s : Operand) (dT sT : TypeId)
    (ho : o.op = .call { callee := .builtin .copy, args := #[d, s], argTypes := #[dT, sT] }) (elem : TypeId) (k : Nat) (hu : P.underlying dT = some (.slice elem)) (hsz : (P.info? elem).map (·.size) = some k)
    (g off dLen dCap : Nat) (ad : Addr) (sLen sCap : Nat) (hd : a.eval d = .slice (some ⟨g, off, none⟩) dLen dCap) (hs : a.eval s = .slice (some ad) sLen sCap)
    (cur : Array Value) (t : TypeId) (hg : w.heap[g]? = some (.cells cur t (0, 0))) (cs : List Value) (hn : cs.length = Nat.min sLen dLen * k)
    (hsrc : ∀ j v, cs[j]? = some v → w.cell? (ad.add j) = some v) (hfit : off + cs.length ≤ cur.size) (h1 : ∀ v ∈ cs, v.oneCell' = true)
    (h : ∀ w', Hid (w'.heap[g]? = some (.cells (splice cur.toList off cs).toArray t (0, 0))) → Hid (w.grownBy w' (some g)) → wpList P ops Q rest (a.put o.dst (goInt (Nat.min sLen dLen))) w') : wpList P ops Q (o :: rest) a w := by
  refine wpList_plain hgd fun K hK => ?_
  have hrun := run_copy_k (P := P) w dT sT o.type elem k g off dLen dCap ad sLen sCap cur t cs hu hsz hg hn hsrc hfit h1
  unfold Oper.wp
  simp [execOp, ho, resolve, invoke, builtin, hd, hs, hrun, Result.andThen]
  refine hK _ _ (h _ (by show _ = _; simpa [splice, List.append_assoc] using setRow_heap w g _ _ t _ hg) ?_)
  exact ⟨rfl, rfl, rfl, by simp [World.setRow], fun k hk hne => setRow_other w g k _ (fun e => hne (by simp [e]))⟩
end Go.Proofs.Ytfkfpppiikgjbaa
