/- A slice that the call owns, out of '[]byte(s)' or not: its block may bear the mark of a conversion behind its cells. Over any program. -/
import Derived.Test.YtaigngdlioplaaaDoorOwn
import Derived.Lib.ConvBytes
namespace Go.Proofs.YtaigngdlioplaaaDoor
open Go Go.RowKit

/-- The slice owns these cells; what is marked lies behind the block's cells. -/
def OwnZ (w : World) (B : Nat) (e : TypeId) (v : Value) (n : Nat) (xs : List Value) : Prop :=
  xs.length = n ∧ ((v = .slice none 0 0 ∧ n = 0) ∨
    ∃ g off cap cur fz, v = .slice (some ⟨g, off, none⟩) n cap ∧ B ≤ g ∧ w.heap[g]? = some (.cells cur e fz) ∧ (fz.2 = 0 ∨ cur.size ≤ fz.1) ∧ n ≤ cap ∧ off + cap ≤ cur.size ∧ (cur.toList.drop off).take n = xs)
theorem OwnZ.of_at {w : World} {B : Nat} {e : TypeId} {v : Value} {n : Nat} {xs : List Value} (h : OwnAt w B e v n xs) : OwnZ w B e v n xs := by
  refine ⟨h.1, ?_⟩
  rcases h.2 with h | ⟨g, off, cap, cur, rfl, hb, hg, hn, hs, ht⟩
  · exact .inl h
  · exact .inr ⟨g, off, cap, cur, (0, 0), rfl, hb, hg, .inl rfl, hn, hs, ht⟩
theorem OwnZ.form {w : World} {B : Nat} {e : TypeId} {v : Value} {n : Nat} {xs : List Value} (h : OwnZ w B e v n xs) : ∃ a cap, v = .slice a n cap := by
  rcases h.2 with ⟨rfl, rfl⟩ | ⟨g, off, cap, cur, fz, rfl, _⟩
  · exact ⟨none, 0, rfl⟩
  · exact ⟨_, _, rfl⟩
theorem OwnZ.lt {w : World} {B : Nat} {e : TypeId} {v : Value} {n : Nat} {xs : List Value} (h : OwnZ w B e v n xs) : ∀ k, v.ownBlock = some k → B ≤ k ∧ k < w.heap.size := by
  intro k hk
  rcases h.2 with ⟨rfl, _⟩ | ⟨g, off, cap, cur, fz, rfl, hb, hg, _⟩
  · simp [Value.ownBlock] at hk
  · simp [Value.ownBlock] at hk
    subst hk
    exact ⟨hb, (Array.getElem?_eq_some_iff.1 hg).1⟩
theorem OwnZ.keep {w w' : World} {B : Nat} {e : TypeId} {v : Value} {n : Nat} {xs : List Value} (h : OwnZ w B e v n xs) (hk : ∀ k, v.ownBlock = some k → w'.heap[k]? = w.heap[k]?) : OwnZ w' B e v n xs := by
  refine ⟨h.1, ?_⟩
  rcases h.2 with h' | ⟨g, off, cap, cur, fz, rfl, hb, hg, hr⟩
  · exact .inl h'
  · exact .inr ⟨g, off, cap, cur, fz, rfl, hb, (hk g rfl).trans hg, hr⟩
theorem OwnZ.call {w w' : World} {B : Nat} {e : TypeId} {v : Value} {n : Nat} {xs : List Value} (h : OwnZ w B e v n xs) (hb : Below w.heap.size w w') : OwnZ w' B e v n xs :=
  h.keep fun k hk => hb.block k (h.lt k hk).2
/-- One that is not empty: its address, and its cells. -/
theorem OwnZ.cells {w : World} {B : Nat} {e : TypeId} {v : Value} {n : Nat} {xs : List Value} (h : OwnZ w B e v n xs) (hn : 0 < n) :
    ∃ g off cap, v = .slice (some ⟨g, off, none⟩) n cap ∧ B ≤ g ∧ g < w.heap.size ∧ n ≤ cap ∧ ∀ i u, xs[i]? = some u → w.cell? ⟨g, off + i, none⟩ = some u := by
  obtain ⟨hl, h⟩ := h
  rcases h with ⟨_, h0⟩ | ⟨g, off, cap, cur, fz, rfl, hb, hg, _, hnc, hs, ht⟩
  · omega
  · refine ⟨g, off, cap, rfl, hb, (Array.getElem?_eq_some_iff.1 hg).1, hnc, fun i u hu => ?_⟩
    have hi : i < n := by have := (List.getElem?_eq_some_iff.1 hu).1; omega
    rw [cell_of_row w g (off + i) cur e fz hg]
    rw [← hu, ← ht, List.getElem?_take, if_pos hi, List.getElem?_drop, Array.getElem?_toList]

/-- '[]byte(s)'. -/
theorem OwnZ.of_bytes (w : World) (e : TypeId) (s : ByteArray) : OwnZ (Lib.bytesWorld w e s) w.heap.size e (.slice (some ⟨w.heap.size, 0, none⟩) s.size (grownCap w s.size 0 e)) s.size (Lib.strCells s) := by
  have hge := grownCap_ge w s.size 0 e
  have hsz : (Lib.bytesCells w e s).size = grownCap w s.size 0 e := by
    unfold Lib.bytesCells
    rw [Array.size_append, Array.size_map, Array.size_replicate]
    have : s.data.size = s.size := rfl
    omega
  refine ⟨Lib.strCells_length s, .inr ⟨w.heap.size, 0, _, _, _, rfl, Nat.le_refl _, Lib.bytesWorld_at_new w e s, .inr (Nat.le_refl _), hge, by rw [hsz]; omega, ?_⟩⟩
  rw [List.drop_zero]
  unfold Lib.bytesCells
  rw [Array.toList_append, Array.toList_map]
  have hl : (s.data.toList.map fun b => Value.int .u8 b.toNat).length = s.size := Lib.strCells_length s
  conv => lhs; arg 1; rw [← hl]
  exact List.take_left
theorem below_bytes {B : Nat} {w0 w : World} (h : Below B w0 w) (hB : B ≤ w.heap.size) (e : TypeId) (s : ByteArray) : Below B w0 (Lib.bytesWorld w e s) :=
  ⟨h.os, h.tape, h.output, by rw [Lib.bytesWorld_size]; exact Nat.le_succ_of_le h.size, fun k hk => (Lib.bytesWorld_at_old w e s k (by omega)).trans (h.block k hk)⟩

section
variable {P : Program} (w : World)
theorem wpList_bytes_of {ops : Array Oper} {rest : List Oper} {o : Oper} {a : Act} {Q : Exit → Act → World → Prop} (src dst e : TypeId) (x : Operand) (hgd : o.guard = none) (ho : o.op = .convert src dst x) (s : ByteArray) (hx : a.eval x = .string s)
    (hs : P.underlying src = some .string) (hd : P.underlying dst = some (.slice e)) (he : P.underlying e = some (.int .u8))
    (h : ∀ v w', Hid (OwnZ w' w.heap.size e v s.size (Lib.strCells s)) → (∀ B w0, Below B w0 w → B ≤ w.heap.size → Below B w0 w') → wpList P ops Q rest (a.put o.dst v) w') : wpList P ops Q (o :: rest) a w := by
  refine wpList_plain hgd fun K hK => ?_
  have hr := Lib.run_convert_string_bytes (P := P) w src dst e s hs hd he
  unfold Oper.wp
  simp [execOp, ho, hx, hr, Result.andThen]
  exact hK _ _ (h _ _ (OwnZ.of_bytes w e s) fun B w0 hb hB => below_bytes hb hB e s)

/-- 'append(out, x, y ..)', one cell each, which lie in the block that was just laid. -/
theorem run_append_z (base : Nat) (t ty e : TypeId) (i : TypeInfo) (z : Value) (bytes : Nat) (ht : P.underlying t = some (.slice e)) (hi : P.info? e = some i) (hz : i.zero = some z) (hsize : i.size = 1) (hby : i.bytes = bytes) (hzs : z.cells.size = 1)
    (v : Value) (n : Nat) (xs : List Value) (hown : OwnZ w base e v n xs) (ad : Addr) (m c : Nat) (news : List Value) (hl : news.length = m) (hnews : ∀ j u, news[j]? = some u → w.cell? (ad.add j) = some u) (h1 : ∀ u ∈ news, u.oneCell' = true) (hm : 0 < m)
    (h63 : n + m ≤ maxLen) (hbytes : (n + m) * bytes ≤ 140737488355328) (hbase : base ≤ w.heap.size) :
    ∃ v' w', (Builtin.append_ #[t, t] ty #[v, .slice (some ad) m c]).run P w = .ok v' w' ∧ OwnZ w' base e v' (n + m) (xs ++ news) ∧ w.grownBy w' v.ownBlock := by
  rcases hown.2 with ⟨rfl, rfl⟩ | ⟨g, off, cap, cur, fz, rfl, hbg, hg, hfz, hnc, hcs, htake⟩
  · have hx : xs = [] := List.eq_nil_of_length_eq_zero hown.1
    subst hx
    obtain ⟨v', w', hr, h2, h3, _⟩ := run_append_own (P := P) w base t ty e i z 1 bytes ht hi hz hsize hby hzs (by omega) (.slice none 0 0) 0 [] (World.ownsRow_nil w base e 1) ad m c news (by omega) hnews h1 h63 hbytes hbase
    exact ⟨v', w', hr, OwnZ.of_at (OwnAt.of_row h2), h3⟩
  · have hsrc := Src.ofSlice (P := P) (size := i.size) w ht ad m c news (by rw [hl, hsize, Nat.mul_one]) hnews h1
    by_cases hroom : n + m ≤ cap
    · have hr := run_append_room_src (P := P) w t t ty e i ht hi g off n cap (.slice (some ad) m c) m news hsrc hroom
        (fun j hj => by
          rw [hsize, Nat.mul_one]
          have hlt : off + n + j < cur.size := by omega
          rw [cell_of_row w g _ cur e fz hg, Array.getElem?_eq_getElem hlt]; rfl)
        (fun j hj => by
          rw [hsize, Nat.mul_one]
          have hlt : off + n + j < cur.size := by omega
          simp only [World.frozen?, hg]
          rcases hfz with h | h
          · simp [h]
          · simp; omega)
      rw [hsize, Nat.mul_one] at hr
      have hheap : (w.setCells g (off + n) news).heap[g]? = some (.cells (putL cur (off + n) news) e fz) := by
        have : ∀ (vs : List Value) (w : World) (o : Nat) (cur : Array Value), w.heap[g]? = some (.cells cur e fz) → (w.setCells g o vs).heap[g]? = some (.cells (putL cur o vs) e fz) := by
          intro vs
          induction vs with
          | nil => intro w o cur h; exact h
          | cons v r ih => intro w o cur h; exact ih _ _ _ (set_blk h o v)
        exact this news w (off + n) cur hg
      refine ⟨_, _, hr, ⟨by rw [List.length_append, hown.1, hl], .inr ⟨g, off, cap, _, fz, rfl, hbg, hheap, by rw [putL_size]; exact hfz, hroom, by rw [putL_size]; exact hcs, ?_⟩⟩, setCells_grown _ w g _⟩
      apply List.ext_getElem?
      intro j
      by_cases h1 : j < n
      · rw [List.getElem?_take, if_pos (by omega), List.getElem?_drop, Array.getElem?_toList, putL_out _ _ _ _ (by omega), List.getElem?_append_left (by rw [hown.1]; exact h1), ← htake, List.getElem?_take, if_pos h1, List.getElem?_drop, Array.getElem?_toList]
      · by_cases h2 : j < n + m
        · rw [List.getElem?_take, if_pos h2, List.getElem?_drop, Array.getElem?_toList, List.getElem?_append_right (by rw [hown.1]; omega), hown.1, show off + j = (off + n) + (j - n) by omega, putL_in _ _ _ _ (by omega) (by omega)]
        · rw [List.getElem?_eq_none (by rw [List.length_take]; omega), List.getElem?_eq_none (by rw [List.length_append, hown.1, hl]; omega)]
    · have holds : (Builtin.firstCells i.size n (.slice (some ⟨g, off, none⟩) n cap)).run P w.drew = .ok xs.toArray w.drew :=
        run_firstCells_some w.drew i.size n ⟨g, off, none⟩ n cap xs (by rw [hown.1, hsize, Nat.mul_one]) (fun j u hj => by
          have hjl : j < n := by have := (List.getElem?_eq_some_iff.1 hj).1; rw [hown.1] at this; exact this
          rw [Addr.add_lit]
          show w.cell? _ = _
          rw [cell_of_row w g (off + j) cur e fz hg, ← hj, ← htake, List.getElem?_take, if_pos hjl, List.getElem?_drop, Array.getElem?_toList])
      have hr := run_append_grow_src (P := P) w t t ty e i z ht hi hz (some ⟨g, off, none⟩) n cap xs holds (.slice (some ad) m c) m news hsrc (by omega) (by simp only [maxLen] at h63; omega) (by rw [hby]; exact growslice_fits (by omega) hbytes)
      have hge := grownCap_ge w (n + m) cap e
      refine ⟨_, _, hr, ⟨by rw [List.length_append, hown.1, hl], .inr ⟨w.heap.size, 0, _, _, _, rfl, hbase, heap_alloc_new w.drew _, .inl rfl, hge, ?_, ?_⟩⟩, ⟨rfl, rfl, rfl, by simp, fun k hk _ => Below.heap_alloc w.drew _ k hk⟩⟩
      · simp only [Array.size_append, List.size_toArray, List.length_append, size_zeroCells, hzs, hown.1, hl]
        omega
      · rw [List.drop_zero, Array.toList_append]
        simp only []
        have hl2 : (xs ++ news).length = n + m := by rw [List.length_append, hown.1, hl]
        rw [← hl2]
        exact List.take_left
end
theorem wpList_append_z {P : Program} {wr : World} {ops : Array Oper} {rest : List Oper} {o : Oper} {a : Act} {Q : Exit → Act → World → Prop} {B : Nat} {W : World} (s x : Operand) (t e : TypeId) (z : Value) (bytes : Nat) (he : Elt P t e z 1 bytes) (us : Array Value) (v : Value) (n : Nat) (xs : List Value)
    (hb : Hid (Below B W wr)) (hown : Hid (OwnZ wr B e v n xs)) (hB : B ≤ wr.heap.size)
    (hgd : o.guard = none) (ho : o.op = .call { callee := .builtin .append, args := #[s, x], argTypes := #[t, t] })
    (hs : a.eval s = v) (hx : a.eval x = .slice (some ⟨wr.heap.size, 0, none⟩) us.size us.size) (hu : us.toList.all (fun u => u.oneCell') = true) (hu0 : 0 < us.size) (hn : n + us.size ≤ 1099511627776) (hby : bytes ≤ 64)
    (h : ∀ v' w', Hid (OwnZ w' B e v' (n + us.size) (xs ++ us.toList)) → Hid (Below B W w') → wpList P ops Q rest (a.put o.dst v') w') :
    wpList P ops Q (o :: rest) a (wr.alloc (.cells us e)) := by
  obtain ⟨i, hi, hz, hsz, hbs⟩ := he.info
  have hown1 := hown.out.call (below_alloc (Below.refl _ wr) (Nat.le_refl _) (.cells us e))
  refine wpList_plain hgd fun K hK => ?_
  obtain ⟨v', w', hr, h2, h3⟩ := run_append_z (P := P) _ B t o.type e i z bytes he.und hi hz hsz hbs he.zs v n xs hown1 ⟨wr.heap.size, 0, none⟩ us.size us.size us.toList (by rw [Array.length_toList]) (fun j u hj => by
      rw [Addr.add_lit, Nat.zero_add]
      exact cells_of_blk (blk_new wr _ _ rfl) j u (by rwa [Array.getElem?_toList] at hj)) (fun u hu' => List.all_eq_true.1 hu u hu') hu0 (by unfold maxLen; omega) (by have h1 := Nat.mul_le_mul (show n + us.size ≤ 1099511627776 from hn) hby; omega) (by simp; omega)
  unfold Oper.wp execOp
  simp only [ho, resolve, invoke, builtin, Sem.run_bind, Sem.run_pure, Result.andThen_ok, List.map_toArray, List.map_cons, List.map_nil, hs, hx, hr]
  exact hK _ _ (h v' w' h2 ((below_alloc hb.out hB _).grown h3 (by simp; omega) fun k hk => (hown.out.lt k hk).1))
end Go.Proofs.YtaigngdlioplaaaDoor
