/- A slice of bytes that the call owns, anywhere in its block: appending a string, cutting off its head. Over any program. -/
import Derived.Test.YtaigngdlioplaaaDoorBlk
import Derived.Test.YtaigngdlioplaaaDoorRowz
import Derived.Deep.AppendSrc
import Derived.Lib.AppendStr
import Derived.Laws.AppendOwnNone
namespace Go.Proofs.YtaigngdlioplaaaDoor
open Go Go.RowKit

/-- The slice owns these cells. -/
def OwnAt (w : World) (B : Nat) (e : TypeId) (v : Value) (n : Nat) (xs : List Value) : Prop :=
  xs.length = n ∧ ((v = .slice none 0 0 ∧ n = 0) ∨
    ∃ g off cap cur, v = .slice (some ⟨g, off, none⟩) n cap ∧ B ≤ g ∧ w.heap[g]? = some (.cells cur e (0, 0)) ∧ n ≤ cap ∧ off + cap ≤ cur.size ∧ (cur.toList.drop off).take n = xs)
theorem OwnAt.nil (w : World) (B : Nat) (e : TypeId) : OwnAt w B e (.slice none 0 0) 0 [] := ⟨rfl, .inl ⟨rfl, rfl⟩⟩
theorem OwnAt.of_row {w : World} {B : Nat} {e : TypeId} {v : Value} {n : Nat} {xs : List Value} (h : w.ownsRow B e 1 v n xs) : OwnAt w B e v n xs := by
  refine ⟨by have := h.1; omega, ?_⟩
  rcases h.2 with h | ⟨g, cap, cur, rfl, hb, hg, hn, _, hs, ht⟩
  · exact .inl h
  · exact .inr ⟨g, 0, cap, cur, rfl, hb, hg, hn, by omega, by rw [List.drop_zero]; simpa using ht⟩
theorem OwnAt.form {w : World} {B : Nat} {e : TypeId} {v : Value} {n : Nat} {xs : List Value} (h : OwnAt w B e v n xs) : ∃ a cap, v = .slice a n cap := by
  rcases h.2 with ⟨rfl, rfl⟩ | ⟨g, off, cap, cur, rfl, _⟩
  · exact ⟨none, 0, rfl⟩
  · exact ⟨_, _, rfl⟩
theorem OwnAt.lt {w : World} {B : Nat} {e : TypeId} {v : Value} {n : Nat} {xs : List Value} (h : OwnAt w B e v n xs) : ∀ k, v.ownBlock = some k → B ≤ k ∧ k < w.heap.size := by
  intro k hk
  rcases h.2 with ⟨rfl, _⟩ | ⟨g, off, cap, cur, rfl, hb, hg, _⟩
  · simp [Value.ownBlock] at hk
  · simp [Value.ownBlock] at hk
    subst hk
    exact ⟨hb, (Array.getElem?_eq_some_iff.1 hg).1⟩
theorem OwnAt.keep {w w' : World} {B : Nat} {e : TypeId} {v : Value} {n : Nat} {xs : List Value} (h : OwnAt w B e v n xs) (hk : ∀ k, v.ownBlock = some k → w'.heap[k]? = w.heap[k]?) : OwnAt w' B e v n xs := by
  refine ⟨h.1, ?_⟩
  rcases h.2 with h' | ⟨g, off, cap, cur, rfl, hb, hg, hr⟩
  · exact .inl h'
  · exact .inr ⟨g, off, cap, cur, rfl, hb, (hk g rfl).trans hg, hr⟩
theorem OwnAt.call {w w' : World} {B : Nat} {e : TypeId} {v : Value} {n : Nat} {xs : List Value} (h : OwnAt w B e v n xs) (hb : Below w.heap.size w w') : OwnAt w' B e v n xs :=
  h.keep fun k hk => hb.block k (h.lt k hk).2
theorem OwnAt.cell {w : World} {B : Nat} {e : TypeId} {g off n cap : Nat} {xs : List Value} (h : OwnAt w B e (.slice (some ⟨g, off, none⟩) n cap) n xs) (i : Nat) (hi : i < n) : w.cell? ⟨g, off + i, none⟩ = some (xs[i]'(by rw [h.1]; exact hi)) := by
  obtain ⟨hl, h⟩ := h
  rcases h with ⟨h, _⟩ | ⟨g', off', cap', cur, h, hb, hg, hn, hs, ht⟩
  · cases h
  · injection h with h1 h2 h3
    injection h1 with h1
    injection h1 with h4 h5
    subst h4; subst h5; subst h3
    refine cells_of_blk hg _ _ ?_
    subst ht
    rw [List.getElem_take, List.getElem_drop, Array.getElem?_eq_getElem (by omega)]
    simp
theorem OwnAt.drop {w : World} {B : Nat} {e : TypeId} {g off n cap : Nat} {xs : List Value} (h : OwnAt w B e (.slice (some ⟨g, off, none⟩) n cap) n xs) (m : Nat) (hm : m ≤ n) :
    OwnAt w B e (.slice (some ⟨g, off + m, none⟩) (n - m) (cap - m)) (n - m) (xs.drop m) := by
  obtain ⟨hl, h⟩ := h
  refine ⟨by rw [List.length_drop, hl], ?_⟩
  rcases h with ⟨h, _⟩ | ⟨g', off', cap', cur, h, hb, hg, hn, hs, ht⟩
  · cases h
  · injection h with h1 h2 h3
    injection h1 with h1
    injection h1 with h4 h5
    subst h4; subst h5; subst h3
    refine .inr ⟨g, off + m, cap - m, cur, rfl, hb, hg, by omega, by omega, ?_⟩
    rw [← ht, List.drop_take, List.drop_drop]
/-- Cut to nothing at the end of its capacity: the address stays. -/
theorem OwnAt.drop_all {w : World} {B : Nat} {e : TypeId} {g off n : Nat} {xs : List Value} (h : OwnAt w B e (.slice (some ⟨g, off, none⟩) n n) n xs) :
    OwnAt w B e (.slice (some ⟨g, off, none⟩) 0 0) 0 (xs.drop n) := by
  obtain ⟨hl, h⟩ := h
  refine ⟨by rw [List.length_drop, hl]; omega, ?_⟩
  rcases h with ⟨h, _⟩ | ⟨g', off', cap', cur, h, hb, hg, hn, hs, ht⟩
  · cases h
  · injection h with h1 h2 h3
    injection h1 with h1
    injection h1 with h4 h5
    subst h4; subst h5; subst h3
    refine .inr ⟨g, off, 0, cur, rfl, hb, hg, Nat.le_refl _, by omega, ?_⟩
    rw [List.take_zero, List.drop_of_length_le (by omega)]

theorem row_form {w : World} {B : Nat} {e : TypeId} {v : Value} {n : Nat} {xs : List Value} (h : w.ownsRow B e 1 v n xs) : ∃ a cap, v = .slice a n cap := (OwnAt.of_row h).form
def putL : Array Value → Nat → List Value → Array Value
  | cur, _, [] => cur
  | cur, o, v :: r => putL (cur.setIfInBounds o v) (o + 1) r
theorem putL_size : ∀ (vs : List Value) (cur : Array Value) (o : Nat), (putL cur o vs).size = cur.size
  | [], _, _ => rfl
  | v :: r, cur, o => by unfold putL; rw [putL_size r, Array.size_setIfInBounds]
theorem putL_out : ∀ (vs : List Value) (cur : Array Value) (o i : Nat), i < o → (putL cur o vs)[i]? = cur[i]?
  | [], _, _, _, _ => rfl
  | v :: r, cur, o, i, h => by
    unfold putL
    rw [putL_out r _ _ i (by omega), Array.getElem?_setIfInBounds, if_neg (by omega)]
theorem putL_in : ∀ (vs : List Value) (cur : Array Value) (o j : Nat), o + vs.length ≤ cur.size → j < vs.length → (putL cur o vs)[o + j]? = vs[j]?
  | [], _, _, _, _, h => by simp at h
  | v :: r, cur, o, j, hs, h => by
    unfold putL
    simp only [List.length_cons] at hs h
    cases j with
    | zero =>
      show (putL (cur.setIfInBounds o v) (o + 1) r)[o]? = _
      rw [putL_out r (cur.setIfInBounds o v) (o + 1) o (by omega), Array.getElem?_setIfInBounds, if_pos rfl, if_pos (by omega)]
      rfl
    | succ j =>
      rw [show o + (j + 1) = (o + 1) + j by omega, putL_in r _ (o + 1) j (by rw [Array.size_setIfInBounds]; omega) (by omega)]
      rfl
theorem setCells_heap : ∀ (vs : List Value) (w : World) (b o : Nat) (cur : Array Value) (e : TypeId), w.heap[b]? = some (.cells cur e (0, 0)) → (w.setCells b o vs).heap[b]? = some (.cells (putL cur o vs) e (0, 0))
  | [], _, _, _, _, _, h => h
  | v :: r, w, b, o, cur, e, h => by
    unfold World.setCells putL
    exact setCells_heap r _ b (o + 1) _ e (set_blk h o v)
theorem setCells_else : ∀ (vs : List Value) (w : World) (b o k : Nat), k ≠ b → (w.setCells b o vs).heap[k]? = w.heap[k]?
  | [], _, _, _, _, _ => rfl
  | v :: r, w, b, o, k, h => by
    unfold World.setCells
    rw [setCells_else r _ b (o + 1) k h, Below.heap_setCell _ _ _ k h]
theorem setCells_grown : ∀ (vs : List Value) (w : World) (b o : Nat), w.grownBy (w.setCells b o vs) (some b)
  | [], w, b, _ => World.grownBy.refl w (some b)
  | v :: r, w, b, o => by
    unfold World.setCells
    exact grown_trans (grown_set0 (World.grownBy.refl w (some b)) o v) (setCells_grown r _ b (o + 1))

section
variable {P : Program} (w : World)
/-- 'append(b, s...)', b a slice of bytes that the call owns, s a string. -/
theorem run_append_at_string (base : Nat) (t u ty e : TypeId) (i : TypeInfo) (ht : P.underlying t = some (.slice e)) (hu : P.underlying u = some .string) (hi : P.info? e = some i) (hz : i.zero = some (.int .u8 0))
    (hsize : i.size = 1) (hby : i.bytes = 1) (v : Value) (n : Nat) (xs : List Value) (hown : OwnAt w base e v n xs) (s : ByteArray)
    (hbytes : n + s.size ≤ 140737488355328) (hbase : base ≤ w.heap.size) :
    ∃ v' w', (Builtin.append_ #[t, u] ty #[v, .string s]).run P w = .ok v' w' ∧ OwnAt w' base e v' (n + s.size) (xs ++ Lib.strCells s) ∧ w.grownBy w' v.ownBlock := by
  have hb := byteCells_length s
  have hbc : byteCells s = Lib.strCells s := rfl
  rcases hown.2 with ⟨rfl, rfl⟩ | ⟨g, off, cap, cur, rfl, hbg, hg, hnc, hcs, htake⟩
  · have hx : xs = [] := List.eq_nil_of_length_eq_zero hown.1
    subst hx
    obtain ⟨v', w', hr, h1, h2, _⟩ := Lib.run_append_own_string (P := P) w base t u ty e i ht hu hi hz hsize hby (.slice none 0 0) 0 [] (World.ownsRow_nil w base e 1) s (by unfold maxLen; omega) (by omega) hbase
    exact ⟨v', w', hr, OwnAt.of_row h1, h2⟩
  · have hsrc := Src.ofString (P := P) w hu s
    rw [← hsize] at hsrc
    by_cases hroom : n + s.size ≤ cap
    · have hr := run_append_room_src (P := P) w t u ty e i ht hi g off n cap (.string s) s.size (byteCells s) hsrc hroom
        (fun j hj => by
          rw [hsize, Nat.mul_one]
          have : off + n + j < cur.size := by omega
          rw [cells_of_blk hg _ _ (Array.getElem?_eq_getElem this)]; rfl)
        (fun j hj => free_of_blk hg _)
      rw [hsize, Nat.mul_one] at hr
      refine ⟨_, _, hr, ⟨by rw [List.length_append, hown.1, ← hbc, hb], .inr ⟨g, off, cap, _, rfl, hbg, setCells_heap _ w g _ cur e hg, hroom, by rw [putL_size]; exact hcs, ?_⟩⟩, setCells_grown _ w g _⟩
      apply List.ext_getElem?
      intro j
      by_cases h1 : j < n
      · rw [List.getElem?_take, if_pos (by omega), List.getElem?_drop, Array.getElem?_toList, putL_out _ _ _ _ (by omega), List.getElem?_append_left (by rw [hown.1]; exact h1), ← htake, List.getElem?_take, if_pos h1, List.getElem?_drop, Array.getElem?_toList]
      · by_cases h2 : j < n + s.size
        · rw [List.getElem?_take, if_pos h2, List.getElem?_drop, Array.getElem?_toList, List.getElem?_append_right (by rw [hown.1]; omega), hown.1, show off + j = (off + n) + (j - n) by omega, putL_in _ _ _ _ (by omega) (by omega), hbc]
        · rw [List.getElem?_eq_none (by rw [List.length_take]; omega), List.getElem?_eq_none (by rw [List.length_append, hown.1, ← hbc, hb]; omega)]
    · have holds : (Builtin.firstCells i.size n (.slice (some ⟨g, off, none⟩) n cap)).run P w.drew = .ok xs.toArray w.drew :=
        run_firstCells_some w.drew i.size n ⟨g, off, none⟩ n cap xs (by rw [hown.1, hsize, Nat.mul_one]) (fun j u hj => by
          have hjl : j < n := by have := (List.getElem?_eq_some_iff.1 hj).1; rw [hown.1] at this; exact this
          rw [Addr.add_lit]
          have := hown.cell j hjl
          rw [← hj, List.getElem?_eq_getElem (by rw [hown.1]; exact hjl)]
          exact this)
      have hr := run_append_grow_src (P := P) w t u ty e i (.int .u8 0) ht hi hz (some ⟨g, off, none⟩) n cap xs holds (.string s) s.size (byteCells s) hsrc (by omega) (by omega) (by rw [hby]; exact growslice_fits (by omega) (by omega))
      have hge := grownCap_ge w (n + s.size) cap e
      refine ⟨_, _, hr, ⟨by rw [List.length_append, hown.1, ← hbc, hb], .inr ⟨w.heap.size, 0, _, _, rfl, hbase, heap_alloc_new w.drew _, hge, ?_, ?_⟩⟩, ⟨rfl, rfl, rfl, by simp, fun k hk _ => Below.heap_alloc w.drew _ k hk⟩⟩
      · have hz1 : (Value.int IntKind.u8 0).cells.size = 1 := rfl
        simp only [Array.size_append, List.size_toArray, List.length_append, size_zeroCells, hz1, hown.1, hb]
        omega
      · rw [List.drop_zero, Array.toList_append, ← hbc]
        simp only []
        have hl : (xs ++ byteCells s).length = n + s.size := by rw [List.length_append, hown.1, hb]
        rw [← hl]
        exact List.take_left

theorem wpList_append_at_string {ops : Array Oper} {rest : List Oper} {o : Oper} {a : Act} {Q : Exit → Act → World → Prop} (hgd : o.guard = none) (sl x : Operand) (t u : TypeId)
    (ho : o.op = .call { callee := .builtin .append, args := #[sl, x], argTypes := #[t, u] })
    (base : Nat) (e : TypeId) (he : Elt P t e (.int .u8 0) 1 1) (hu : P.underlying u = some .string)
    (v : Value) (n : Nat) (xs : List Value) (hs : a.eval sl = v) (hown : OwnAt w base e v n xs) (s : ByteArray) (hx : a.eval x = .string s)
    (hbytes : n + s.size ≤ 140737488355328) (hbase : base ≤ w.heap.size)
    (h : ∀ v' w', Hid (OwnAt w' base e v' (n + s.size) (xs ++ Lib.strCells s)) → Hid (w.grownBy w' v.ownBlock) → wpList P ops Q rest (a.put o.dst v') w') : wpList P ops Q (o :: rest) a w := by
  obtain ⟨i, hi, hz, hsize, hby⟩ := he.info
  refine wpList_plain hgd fun K hK => ?_
  obtain ⟨v', w', hr, h2, h3⟩ := run_append_at_string (P := P) w base t u o.type e i he.und hu hi hz hsize hby v n xs hown s hbytes hbase
  unfold Oper.wp execOp
  simp only [ho, resolve, invoke, builtin, Sem.run_bind, Sem.run_pure, Result.andThen_ok, List.map_toArray, List.map_cons, List.map_nil, hs, hx, hr]
  exact hK _ _ (h v' w' h2 h3)
/-- 'append(a, b...)', a a row of the call's own, b a slice that the call owns. -/
theorem wpList_append_row_at {ops : Array Oper} {rest : List Oper} {o : Oper} {a : Act} {Q : Exit → Act → World → Prop} (s x : Operand) (t e : TypeId) (z : Value) (bytes : Nat) (he : Elt P t e z 1 bytes) {B B2 : Nat} (v : Value) (n : Nat) (xs : List Value) (x2 : Value) (m : Nat) (news : List Value)
    (hown : Hid (w.ownsRow B e 1 v n xs)) (hB : B ≤ w.heap.size) (hsrc : Hid (OwnAt w B2 e x2 m news)) (hone : Hid (∀ u ∈ news, u.oneCell' = true))
    (hgd : o.guard = none) (ho : o.op = .call { callee := .builtin .append, args := #[s, x], argTypes := #[t, t] })
    (hs : a.eval s = v) (hx : a.eval x = x2) (hn : n + m ≤ 1099511627776) (hby : bytes ≤ 64)
    (h : ∀ v' w', Hid (w'.ownsRow B e 1 v' (n + m) (xs ++ news)) → Hid (w.grownBy w' v.ownBlock) → wpList P ops Q rest (a.put o.dst v') w') : wpList P ops Q (o :: rest) a w := by
  obtain ⟨i, hi, hz, hsz, hbs⟩ := he.info
  have hs' := hsrc.out
  rcases hs'.2 with ⟨rfl, h0⟩ | ⟨g, off, cap, cur, rfl, _⟩
  · have hnn : news = [] := List.eq_nil_of_length_eq_zero (by rw [hs'.1, h0])
    refine wpList_append_own_none hgd s x t ho B e i 1 he.und hi v n xs hs hown.out hx (h v w ?_ (World.grownBy.refl w _))
    rw [h0, hnn, List.append_nil]
    exact hown
  · refine wpList_append_own w hgd s x t ho B e i z 1 bytes he.und hi hz hsz hbs he.zs he.pos v n xs hs hown.out ⟨g, off, none⟩ m cap news hx (by rw [hs'.1, Nat.mul_one]) ?_ hone.out (by unfold maxLen; omega) ?_ hB ?_
    · intro j u hj
      have hjl : j < m := by have := (List.getElem?_eq_some_iff.1 hj).1; rw [hs'.1] at this; exact this
      rw [Addr.add_lit, hs'.cell j hjl, ← hj, List.getElem?_eq_getElem]
    · have h1 := Nat.mul_le_mul (show n + m ≤ 1099511627776 from hn) hby; omega
    · intro v' w' h1 h2 _
      exact h v' w' h1 h2
/-- 'append(out, x, y ..)', one cell each, which lie in the block that was just laid. -/
theorem wpList_append_cells {P : Program} {wr : World} {ops : Array Oper} {rest : List Oper} {o : Oper} {a : Act} {Q : Exit → Act → World → Prop} {B : Nat} (s x : Operand) (t e : TypeId) (z : Value) (bytes : Nat) (he : Elt P t e z 1 bytes) (us : Array Value) (v : Value) (n : Nat) (xs : List Value)
    (hown : Hid (wr.ownsRow B e 1 v n xs)) (hB : B ≤ wr.heap.size)
    (hgd : o.guard = none) (ho : o.op = .call { callee := .builtin .append, args := #[s, x], argTypes := #[t, t] })
    (hs : a.eval s = v) (hx : a.eval x = .slice (some ⟨wr.heap.size, 0, none⟩) us.size us.size) (hu : us.toList.all (fun u => u.oneCell') = true) (hn : n + us.size ≤ 1099511627776) (hby : bytes ≤ 64)
    (h : ∀ v' w', Hid (w'.ownsRow B e 1 v' (n + us.size) (xs ++ us.toList)) → Hid ((wr.alloc (.cells us e)).grownBy w' v.ownBlock) → wpList P ops Q rest (a.put o.dst v') w') :
    wpList P ops Q (o :: rest) a (wr.alloc (.cells us e)) := by
  obtain ⟨i, hi, hz, hsz, hbs⟩ := he.info
  have hown := hown.out
  refine wpList_append_own _ hgd s x t ho B e i z 1 bytes he.und hi hz hsz hbs he.zs he.pos v n xs hs (hown.alloc _) ⟨wr.heap.size, 0, none⟩ us.size us.size us.toList hx (by rw [Array.length_toList, Nat.mul_one]) ?_ ?_ ?_ ?_ ?_ ?_
  · intro j w' hj
    rw [Addr.add_lit, Nat.zero_add]
    exact cells_of_blk (blk_new wr _ _ rfl) j w' (by rwa [Array.getElem?_toList] at hj)
  · intro u hu'
    exact List.all_eq_true.1 hu u hu'
  · unfold maxLen; omega
  · have h1 := Nat.mul_le_mul (show n + us.size ≤ 1099511627776 from hn) hby; omega
  · simp; omega
  · intro v' w' h1 h2 _
    exact h v' w' h1 h2
end
end Go.Proofs.YtaigngdlioplaaaDoor
