/- Books: the reference's SetHolder, SetRate, SetOpen. PRINTED BY genBookR.py. -/
import Derived.Test.YtfkfpppiikgjbaaBookL
namespace Go.Proofs.Ytfkfpppiikgjbaa
open Go Go.RowKit
set_option linter.unusedVariables false
set_option linter.unusedSimpArgs false

section
variable {P : Program} {ops : Array Oper} {rest : List Oper} {o : Oper} {a : Act} {Q : Exit → Act → World → Prop}
/-- 'append(out, x)', x a record that lies in the block that was just laid. -/
theorem wpList_append_rec {wr W : World} {B : Nat} (s x : Operand) (t e : TypeId) (z : Value) (k bytes : Nat) (he : Elt P t e z k bytes) (r : List Int) (v : Value) (l : List (List Int))
    (hb : Below B W wr) (hown : Hid (RowOwn wr B e v k l)) (hB : B ≤ wr.heap.size) (hgd : o.guard = none) (ho : o.op = .call { callee := .builtin .append, args := #[s, x], argTypes := #[t, t] })
    (hs : a.eval s = v) (hx : a.eval x = .slice (some ⟨wr.heap.size, 0, none⟩) 1 1) (hr : r.length = k) (hn : l.length + 1 ≤ 4000000) (hby : bytes ≤ 64)
    (h : ∀ v' w', Hid (RowOwn w' B e v' k (l ++ [r])) → Hid (Below B W w') → B ≤ w'.heap.size → wpList P ops Q rest (a.put o.dst v') w') :
    wpList P ops Q (o :: rest) a (wr.alloc (.cells (r.map (Value.int .i64)).toArray e)) := by
  obtain ⟨i, hi, hz, hsz, hbs⟩ := he.info
  obtain ⟨ho', hk⟩ := hown.out
  refine wpList_append_own _ hgd s x t ho B e i z k bytes he.und hi hz hsz hbs he.zs he.pos v l.length (flatC l) hs (ho'.alloc _) ⟨wr.heap.size, 0, none⟩ 1 1 (r.map (Value.int .i64)) hx (by rw [List.length_map, hr, Nat.one_mul]) ?_ ?_ ?_ ?_ ?_ ?_
  · intro j u hj
    rw [Addr.add_lit, Nat.zero_add]
    exact cells_of_blk (heap_new wr (.cells (r.map (Value.int .i64)).toArray e)) j u (by simpa using hj)
  · intro u hu; obtain ⟨y, _, rfl⟩ := List.mem_map.1 hu; rfl
  · unfold maxLen; omega
  · have h1 := Nat.mul_le_mul hn hby; omega
  · simp; omega
  · intro v' w' h1 h2 _
    refine h v' w' ⟨?_, ?_⟩ ((hb.alloc hB _).grown h2 (by simp; omega) (fun q hq => (ho'.lt q hq).1)) ?_
    · rw [List.length_append, flatC_append, show flatC [r] = r.map (Value.int .i64) by simp [flatC]]
      exact h1
    · intro u hu
      rcases List.mem_append.1 hu with hu | hu
      · exact hk u hu
      · simp at hu; rw [hu]; exact hr
    · have := h2.size; simp at this; omega
end
def set5R (w : World) (g : Nat) (a0 a1 a2 a3 a4 : Value) : World := ((((w.setCell ⟨g, 0, none⟩ a0).setCell ⟨g, 1, none⟩ a1).setCell ⟨g, 2, none⟩ a2).setCell ⟨g, 3, none⟩ a3).setCell ⟨g, 4, none⟩ a4
theorem set5_belowR {B : Nat} {a w : World} {g : Nat} (h : Below B a w) (hg : B ≤ g) (a0 a1 a2 a3 a4 : Value) : Below B a (set5R w g a0 a1 a2 a3 a4) :=
  ((((h.setCell (p := ⟨g, 0, none⟩) hg a0).setCell (p := ⟨g, 1, none⟩) hg a1).setCell (p := ⟨g, 2, none⟩) hg a2).setCell (p := ⟨g, 3, none⟩) hg a3).setCell (p := ⟨g, 4, none⟩) hg a4
theorem RowOwn.set5R {w : World} {B : Nat} {e : TypeId} {v : Value} {k : Nat} {l : List (List Int)} (h : RowOwn w B e v k l) {g : Nat} (hg : g < B) (a0 a1 a2 a3 a4 : Value) : RowOwn (set5R w g a0 a1 a2 a3 a4) B e v k l :=
  ((((h.setBelow (a := ⟨g, 0, none⟩) hg a0).setBelow (a := ⟨g, 1, none⟩) hg a1).setBelow (a := ⟨g, 2, none⟩) hg a2).setBelow (a := ⟨g, 3, none⟩) hg a3).setBelow (a := ⟨g, 4, none⟩) hg a4
theorem setK_step {ge ne : List Int → Bool} {x : List Int} {d : Bool} {l : List (List Int)} {i : Nat} {r : List Int} (h : l[i]? = some r) : setK ge ne x d (l.drop i) = (if !d && ge r then [x] else []) ++ ((if ne r then [r] else []) ++ setK ge ne x (d || ge r) (l.drop (i + 1))) := by
  obtain ⟨hi, rfl⟩ := List.getElem?_eq_some_iff.1 h
  rw [List.drop_eq_getElem_cons hi, setK]

set_option maxRecDepth 100000 in
set_option maxHeartbeats 8000000 in
theorem rSetHolder_any (v : Value) (b : Bk) (x0 x1 x2 x3 : Int) (w : World) (hb : Hid (BkAt w v b)) (hl : b.h.length ≤ 1000000) :
    Calls Try.prog 23 #[v, .agg #[.int .i64 x0, .int .i64 x1, .int .i64 x2, .int .i64 x3]] w fun e w' => ∃ v', e = .returned v' ∧ BkAt w' v' { b with h := setH x0 [x0, x1, x2, x3] false b.h } ∧ Below w.heap.size w w' := by
  obtain ⟨vh, vs, vo, vr, rfl, h1, h2, h3, h4⟩ := hb.out
  obtain ⟨Ah, ch, rfl, _⟩ := h1.rec'
  obtain ⟨As, cs, rfl, _⟩ := h2.rec'
  obtain ⟨Ao, co, rfl, _⟩ := h3.rec'
  obtain ⟨Ar, cr, rfl, _⟩ := h4.rec'
  obtain ⟨w0, hw0⟩ : ∃ w0, ((w.alloc (.cells #[.slice Ah b.h.length ch, .slice As b.s.length cs, .slice Ao b.o.length co, .slice Ar b.r.length cr, .int .i64 b.n] 37)).alloc (.cells #[.int .i64 x0, .int .i64 x1, .int .i64 x2, .int .i64 x3] 39)).alloc (.cells #[.slice none 0 0, .slice none 0 0, .slice none 0 0, .slice none 0 0, .int .i64 0] 37) = w0 := ⟨_, rfl⟩
  have HB0 : Hid (Below w.heap.size w w0) := by rw [← hw0]; exact below_alloc (below_alloc (below_alloc (Below.refl _ _) (Nat.le_refl _) _) (by simp) _) (by first | (simp; done) | (simp; omega)) _
  have K1 : Hid (w0.heap[w.heap.size]? = some (.cells #[.slice Ah b.h.length ch, .slice As b.s.length cs, .slice Ao b.o.length co, .slice Ar b.r.length cr, .int .i64 b.n] 37 (0, 0))) := by rw [← hw0]; exact blk_old (blk_old (heap_new _ _) _) _
  have K2 : Hid (w0.heap[w.heap.size + 1]? = some (.cells #[.int .i64 x0, .int .i64 x1, .int .i64 x2, .int .i64 x3] 39 (0, 0))) := by rw [← hw0]; exact blk_old (blk_new _ _ _ (by simp)) _
  have K3 : Hid (w0.heap[w.heap.size + 2]? = some (.cells #[.slice none 0 0, .slice none 0 0, .slice none 0 0, .slice none 0 0, .int .i64 0] 37 (0, 0))) := by rw [← hw0]; exact blk_new _ _ _ (by simp)
  obtain ⟨A', c', hA', hi⟩ := (h1.call HB0.out).rec'
  injection hA' with hA1 _ hA3
  subst hA1 hA3
  have HI := Lib.hid hi
  have HBK : Hid (BkAt w (.agg #[.slice Ah b.h.length ch, .slice As b.s.length cs, .slice Ao b.o.length co, .slice Ar b.r.length cr, .int .i64 b.n]) b) := hb
  replace hw0 := Lib.hid hw0
  clear hb h1 h2 h3 h4 hi
  have x0c := cells_of_blk K2.out 0 _ rfl
  have x1c := cells_of_blk K2.out 1 _ rfl
  have x2c := cells_of_blk K2.out 2 _ rfl
  have x3c := cells_of_blk K2.out 3 _ rfl
  rw [← hw0.out] at x0c x1c x2c x3c
  go_enter Try.func23, Try.ntmps23
  go_wp2_with fail
  rw [hw0.out]
  clear x0c x1c x2c x3c
  go_loopw [5, 6, 7] (fun s5 s6 s7 wr => ∃ (i : Nat) (acc : List (List Int)) (done : Bool), s7 = .int .i64 i ∧ s6 = .bool done ∧ Hid (RowOwn wr w0.heap.size 39 s5 4 acc) ∧ Hid (i ≤ b.h.length) ∧ Hid (acc.length ≤ 2 * i) ∧ Hid (acc ++ setK (fun r => !decide (r.headD 0 < x0)) (fun r => !isId x0 r) [x0, x1, x2, x3] done (b.h.drop i) = setH x0 [x0, x1, x2, x3] false b.h) ∧ Hid (Below w0.heap.size w0 wr)) (fun _ _ s7 _ => b.h.length - (intOf s7).toNat)
  case atStart => exact ⟨0, [], _, rfl, rfl, ⟨World.ownsRow_nil _ _ _ _, fun r hr => by simp at hr⟩, Nat.zero_le _, Nat.zero_le _, rfl, Below.refl _ _⟩
  case round =>
    obtain ⟨i, acc, done, rfl, rfl, HO, hil, hal, hrest, hBr⟩ := hrel
    replace hil := hil.out
    have cb := (hBr.out.cell (p := ⟨w.heap.size, 0, none⟩) (Array.getElem?_eq_some_iff.1 K1.out).1).trans (cells_of_blk K1.out 0 _ rfl)
    have q0 := (hBr.out.cell (p := ⟨w.heap.size + 1, 0, none⟩) (Array.getElem?_eq_some_iff.1 K2.out).1).trans (cells_of_blk K2.out 0 _ rfl)
    have q1 := (hBr.out.cell (p := ⟨w.heap.size + 1, 1, none⟩) (Array.getElem?_eq_some_iff.1 K2.out).1).trans (cells_of_blk K2.out 1 _ rfl)
    have q2 := (hBr.out.cell (p := ⟨w.heap.size + 1, 2, none⟩) (Array.getElem?_eq_some_iff.1 K2.out).1).trans (cells_of_blk K2.out 2 _ rfl)
    have q3 := (hBr.out.cell (p := ⟨w.heap.size + 1, 3, none⟩) (Array.getElem?_eq_some_iff.1 K2.out).1).trans (cells_of_blk K2.out 3 _ rfl)
    by_cases hin : i < b.h.length
    · have tn : decide ((i : Int) < (b.h.length : Int)) = true := decide_eq_true (by omega)
      have hge : b.h[i]? = some b.h[i] := List.getElem?_eq_getElem hin
      obtain ⟨hk, b0, o0, hA0, hbl, hc⟩ := HI.out i _ hge
      subst hA0
      have HGE := Lib.hid hge
      have HCC := Lib.hid hc
      have HS := Lib.hid (setK_step (ge := (fun r => !decide (r.headD 0 < x0))) (ne := (fun r => !isId x0 r)) (x := [x0, x1, x2, x3]) (d := done) hge)
      clear hge hc
      generalize b.h[i] = r at *
      obtain ⟨y0, y1, y2, y3, rfl⟩ : ∃ y0 y1 y2 y3, r = [y0, y1, y2, y3] := by
        match r, hk with
        | [y0, y1, y2, y3], _ => exact ⟨y0, y1, y2, y3, rfl⟩
      clear hk cb q0 q1 q2 q3
      cases done with
      | true =>
        by_cases hlt : y0 < x0
        · have tg : decide (x0 ≤ y0) = false := decide_eq_false (by omega)
          have tg' : ¬ x0 ≤ y0 := by omega
          have tne : (y0 != x0) = true := by simp; omega
          have eg : (!decide (([y0, y1, y2, y3] : List Int).headD 0 < x0)) = false := by simp; omega
          have en : (!isId x0 ([y0, y1, y2, y3] : List Int)) = true := by simp [isId]; try omega
          have hR2 : Hid ((acc ++ [[y0, y1, y2, y3]]) ++ setK (fun r => !decide (r.headD 0 < x0)) (fun r => !isId x0 r) [x0, x1, x2, x3] true (b.h.drop (i + 1)) = setH x0 [x0, x1, x2, x3] false b.h) := (by
            have h := hrest.out
            rw [HS.out, eg, en] at h
            show _ = _
            simpa using h)
          have hal2 : Hid ((acc ++ [[y0, y1, y2, y3]]).length ≤ 2 * (i + 1)) := (by have := hal.out; show _ ≤ _; first | omega | (simp; omega))
          clear eg en
          have cb := (hBr.out.cell (p := ⟨w.heap.size, 0, none⟩) (Array.getElem?_eq_some_iff.1 K1.out).1).trans (cells_of_blk K1.out 0 _ rfl)
          have q0 := (hBr.out.cell (p := ⟨w.heap.size + 1, 0, none⟩) (Array.getElem?_eq_some_iff.1 K2.out).1).trans (cells_of_blk K2.out 0 _ rfl)
          have q1 := (hBr.out.cell (p := ⟨w.heap.size + 1, 1, none⟩) (Array.getElem?_eq_some_iff.1 K2.out).1).trans (cells_of_blk K2.out 1 _ rfl)
          have q2 := (hBr.out.cell (p := ⟨w.heap.size + 1, 2, none⟩) (Array.getElem?_eq_some_iff.1 K2.out).1).trans (cells_of_blk K2.out 2 _ rfl)
          have q3 := (hBr.out.cell (p := ⟨w.heap.size + 1, 3, none⟩) (Array.getElem?_eq_some_iff.1 K2.out).1).trans (cells_of_blk K2.out 3 _ rfl)
          have c0 : wr.cell? ⟨b0, o0 + i * 4, none⟩ = some (.int .i64 y0) := (hBr.out.cell (p := ⟨b0, o0 + i * 4 + 0, none⟩) hbl).trans (HCC.out 0 _ rfl)
          have c1 : wr.cell? ⟨b0, o0 + i * 4 + 1, none⟩ = some (.int .i64 y1) := (hBr.out.cell (p := ⟨b0, o0 + i * 4 + 1, none⟩) hbl).trans (HCC.out 1 _ rfl)
          have c2 : wr.cell? ⟨b0, o0 + i * 4 + 2, none⟩ = some (.int .i64 y2) := (hBr.out.cell (p := ⟨b0, o0 + i * 4 + 2, none⟩) hbl).trans (HCC.out 2 _ rfl)
          have c3 : wr.cell? ⟨b0, o0 + i * 4 + 3, none⟩ = some (.int .i64 y3) := (hBr.out.cell (p := ⟨b0, o0 + i * 4 + 3, none⟩) hbl).trans (HCC.out 3 _ rfl)
          go_wp2_with fail
          go_quiet (fail)
          have HBq := Lib.hid (below_drewN hBr.out nq)
          have HOq := Lib.hid (HO.out.kept (below_drewN (Below.refl _ _) nq))
          have hSq : w0.heap.size ≤ (wr.drewN nq).heap.size := hBr.out.size
          generalize wr.drewN nq = wq at *
          clear cb q0 c0 q1 c1 q2 c2 q3 c3
          have cb := (HBq.out.cell (p := ⟨w.heap.size, 0, none⟩) (Array.getElem?_eq_some_iff.1 K1.out).1).trans (cells_of_blk K1.out 0 _ rfl)
          have q0 := (HBq.out.cell (p := ⟨w.heap.size + 1, 0, none⟩) (Array.getElem?_eq_some_iff.1 K2.out).1).trans (cells_of_blk K2.out 0 _ rfl)
          have q1 := (HBq.out.cell (p := ⟨w.heap.size + 1, 1, none⟩) (Array.getElem?_eq_some_iff.1 K2.out).1).trans (cells_of_blk K2.out 1 _ rfl)
          have q2 := (HBq.out.cell (p := ⟨w.heap.size + 1, 2, none⟩) (Array.getElem?_eq_some_iff.1 K2.out).1).trans (cells_of_blk K2.out 2 _ rfl)
          have q3 := (HBq.out.cell (p := ⟨w.heap.size + 1, 3, none⟩) (Array.getElem?_eq_some_iff.1 K2.out).1).trans (cells_of_blk K2.out 3 _ rfl)
          have c0 : wq.cell? ⟨b0, o0 + i * 4, none⟩ = some (.int .i64 y0) := (HBq.out.cell (p := ⟨b0, o0 + i * 4 + 0, none⟩) hbl).trans (HCC.out 0 _ rfl)
          have c1 : wq.cell? ⟨b0, o0 + i * 4 + 1, none⟩ = some (.int .i64 y1) := (HBq.out.cell (p := ⟨b0, o0 + i * 4 + 1, none⟩) hbl).trans (HCC.out 1 _ rfl)
          have c2 : wq.cell? ⟨b0, o0 + i * 4 + 2, none⟩ = some (.int .i64 y2) := (HBq.out.cell (p := ⟨b0, o0 + i * 4 + 2, none⟩) hbl).trans (HCC.out 2 _ rfl)
          have c3 : wq.cell? ⟨b0, o0 + i * 4 + 3, none⟩ = some (.int .i64 y3) := (HBq.out.cell (p := ⟨b0, o0 + i * 4 + 3, none⟩) hbl).trans (HCC.out 3 _ rfl)
          go_wp2_with fail
          go_quiet (fail)
          have HBp := Lib.hid (below_drewN HBq.out nq)
          have HOp := Lib.hid (HOq.out.kept (below_drewN (Below.refl _ _) nq))
          have hSp : w0.heap.size ≤ (wq.drewN nq).heap.size := HBq.out.size
          generalize wq.drewN nq = wp at *
          clear cb q0 c0 q1 c1 q2 c2 q3 c3
          have cb := (HBp.out.cell (p := ⟨w.heap.size, 0, none⟩) (Array.getElem?_eq_some_iff.1 K1.out).1).trans (cells_of_blk K1.out 0 _ rfl)
          have q0 := (HBp.out.cell (p := ⟨w.heap.size + 1, 0, none⟩) (Array.getElem?_eq_some_iff.1 K2.out).1).trans (cells_of_blk K2.out 0 _ rfl)
          have q1 := (HBp.out.cell (p := ⟨w.heap.size + 1, 1, none⟩) (Array.getElem?_eq_some_iff.1 K2.out).1).trans (cells_of_blk K2.out 1 _ rfl)
          have q2 := (HBp.out.cell (p := ⟨w.heap.size + 1, 2, none⟩) (Array.getElem?_eq_some_iff.1 K2.out).1).trans (cells_of_blk K2.out 2 _ rfl)
          have q3 := (HBp.out.cell (p := ⟨w.heap.size + 1, 3, none⟩) (Array.getElem?_eq_some_iff.1 K2.out).1).trans (cells_of_blk K2.out 3 _ rfl)
          have c0 : wp.cell? ⟨b0, o0 + i * 4, none⟩ = some (.int .i64 y0) := (HBp.out.cell (p := ⟨b0, o0 + i * 4 + 0, none⟩) hbl).trans (HCC.out 0 _ rfl)
          have c1 : wp.cell? ⟨b0, o0 + i * 4 + 1, none⟩ = some (.int .i64 y1) := (HBp.out.cell (p := ⟨b0, o0 + i * 4 + 1, none⟩) hbl).trans (HCC.out 1 _ rfl)
          have c2 : wp.cell? ⟨b0, o0 + i * 4 + 2, none⟩ = some (.int .i64 y2) := (HBp.out.cell (p := ⟨b0, o0 + i * 4 + 2, none⟩) hbl).trans (HCC.out 2 _ rfl)
          have c3 : wp.cell? ⟨b0, o0 + i * 4 + 3, none⟩ = some (.int .i64 y3) := (HBp.out.cell (p := ⟨b0, o0 + i * 4 + 3, none⟩) hbl).trans (HCC.out 3 _ rfl)
          go_wp2_with (at_builtin; refine wpList_append_rec (W := w0) _ _ 32 39 (.agg #[.int .i64 0, .int .i64 0, .int .i64 0, .int .i64 0]) 4 32 el_Holder [y0, y1, y2, y3] _ (acc) HBp.out HOp hSp rfl rfl rfl rfl rfl (by have := hal.out; first | omega | (simp; omega)) (by decide) ?_)
          intro v3 w3 hO3 hB3 hS3
          clear cb q0 c0 q1 c1 q2 c2 q3 c3
          go_wp2_with fail
          go_roundw
          case rel => exact ⟨i + 1, _, true, by go_num, rfl, hO3.out, by show _ ≤ _; omega, hal2.out, hR2.out, hB3.out⟩
          case measure => simp [intOf]; omega
        · have tg : decide (x0 ≤ y0) = true := decide_eq_true (by omega)
          have tg' : x0 ≤ y0 := by omega
          by_cases heq : y0 = x0
          · have tne : (y0 != x0) = false := by simp [heq]
            have eg : (!decide (([y0, y1, y2, y3] : List Int).headD 0 < x0)) = true := by simp; omega
            have en : (!isId x0 ([y0, y1, y2, y3] : List Int)) = false := by simp [isId]; try omega
            have hR2 : Hid ((acc) ++ setK (fun r => !decide (r.headD 0 < x0)) (fun r => !isId x0 r) [x0, x1, x2, x3] true (b.h.drop (i + 1)) = setH x0 [x0, x1, x2, x3] false b.h) := (by
              have h := hrest.out
              rw [HS.out, eg, en] at h
              show _ = _
              simpa using h)
            have hal2 : Hid ((acc).length ≤ 2 * (i + 1)) := (by have := hal.out; show _ ≤ _; first | omega | (simp; omega))
            clear eg en
            have cb := (hBr.out.cell (p := ⟨w.heap.size, 0, none⟩) (Array.getElem?_eq_some_iff.1 K1.out).1).trans (cells_of_blk K1.out 0 _ rfl)
            have q0 := (hBr.out.cell (p := ⟨w.heap.size + 1, 0, none⟩) (Array.getElem?_eq_some_iff.1 K2.out).1).trans (cells_of_blk K2.out 0 _ rfl)
            have q1 := (hBr.out.cell (p := ⟨w.heap.size + 1, 1, none⟩) (Array.getElem?_eq_some_iff.1 K2.out).1).trans (cells_of_blk K2.out 1 _ rfl)
            have q2 := (hBr.out.cell (p := ⟨w.heap.size + 1, 2, none⟩) (Array.getElem?_eq_some_iff.1 K2.out).1).trans (cells_of_blk K2.out 2 _ rfl)
            have q3 := (hBr.out.cell (p := ⟨w.heap.size + 1, 3, none⟩) (Array.getElem?_eq_some_iff.1 K2.out).1).trans (cells_of_blk K2.out 3 _ rfl)
            have c0 : wr.cell? ⟨b0, o0 + i * 4, none⟩ = some (.int .i64 y0) := (hBr.out.cell (p := ⟨b0, o0 + i * 4 + 0, none⟩) hbl).trans (HCC.out 0 _ rfl)
            have c1 : wr.cell? ⟨b0, o0 + i * 4 + 1, none⟩ = some (.int .i64 y1) := (hBr.out.cell (p := ⟨b0, o0 + i * 4 + 1, none⟩) hbl).trans (HCC.out 1 _ rfl)
            have c2 : wr.cell? ⟨b0, o0 + i * 4 + 2, none⟩ = some (.int .i64 y2) := (hBr.out.cell (p := ⟨b0, o0 + i * 4 + 2, none⟩) hbl).trans (HCC.out 2 _ rfl)
            have c3 : wr.cell? ⟨b0, o0 + i * 4 + 3, none⟩ = some (.int .i64 y3) := (hBr.out.cell (p := ⟨b0, o0 + i * 4 + 3, none⟩) hbl).trans (HCC.out 3 _ rfl)
            go_wp2_with fail
            go_quiet (fail)
            have HBq := Lib.hid (below_drewN hBr.out nq)
            have HOq := Lib.hid (HO.out.kept (below_drewN (Below.refl _ _) nq))
            have hSq : w0.heap.size ≤ (wr.drewN nq).heap.size := hBr.out.size
            generalize wr.drewN nq = wq at *
            clear cb q0 c0 q1 c1 q2 c2 q3 c3
            have cb := (HBq.out.cell (p := ⟨w.heap.size, 0, none⟩) (Array.getElem?_eq_some_iff.1 K1.out).1).trans (cells_of_blk K1.out 0 _ rfl)
            have q0 := (HBq.out.cell (p := ⟨w.heap.size + 1, 0, none⟩) (Array.getElem?_eq_some_iff.1 K2.out).1).trans (cells_of_blk K2.out 0 _ rfl)
            have q1 := (HBq.out.cell (p := ⟨w.heap.size + 1, 1, none⟩) (Array.getElem?_eq_some_iff.1 K2.out).1).trans (cells_of_blk K2.out 1 _ rfl)
            have q2 := (HBq.out.cell (p := ⟨w.heap.size + 1, 2, none⟩) (Array.getElem?_eq_some_iff.1 K2.out).1).trans (cells_of_blk K2.out 2 _ rfl)
            have q3 := (HBq.out.cell (p := ⟨w.heap.size + 1, 3, none⟩) (Array.getElem?_eq_some_iff.1 K2.out).1).trans (cells_of_blk K2.out 3 _ rfl)
            have c0 : wq.cell? ⟨b0, o0 + i * 4, none⟩ = some (.int .i64 y0) := (HBq.out.cell (p := ⟨b0, o0 + i * 4 + 0, none⟩) hbl).trans (HCC.out 0 _ rfl)
            have c1 : wq.cell? ⟨b0, o0 + i * 4 + 1, none⟩ = some (.int .i64 y1) := (HBq.out.cell (p := ⟨b0, o0 + i * 4 + 1, none⟩) hbl).trans (HCC.out 1 _ rfl)
            have c2 : wq.cell? ⟨b0, o0 + i * 4 + 2, none⟩ = some (.int .i64 y2) := (HBq.out.cell (p := ⟨b0, o0 + i * 4 + 2, none⟩) hbl).trans (HCC.out 2 _ rfl)
            have c3 : wq.cell? ⟨b0, o0 + i * 4 + 3, none⟩ = some (.int .i64 y3) := (HBq.out.cell (p := ⟨b0, o0 + i * 4 + 3, none⟩) hbl).trans (HCC.out 3 _ rfl)
            go_wp2_with fail
            go_quiet (fail)
            have HBp := Lib.hid (below_drewN HBq.out nq)
            have HOp := Lib.hid (HOq.out.kept (below_drewN (Below.refl _ _) nq))
            have hSp : w0.heap.size ≤ (wq.drewN nq).heap.size := HBq.out.size
            generalize wq.drewN nq = wp at *
            clear cb q0 c0 q1 c1 q2 c2 q3 c3
            have cb := (HBp.out.cell (p := ⟨w.heap.size, 0, none⟩) (Array.getElem?_eq_some_iff.1 K1.out).1).trans (cells_of_blk K1.out 0 _ rfl)
            have q0 := (HBp.out.cell (p := ⟨w.heap.size + 1, 0, none⟩) (Array.getElem?_eq_some_iff.1 K2.out).1).trans (cells_of_blk K2.out 0 _ rfl)
            have q1 := (HBp.out.cell (p := ⟨w.heap.size + 1, 1, none⟩) (Array.getElem?_eq_some_iff.1 K2.out).1).trans (cells_of_blk K2.out 1 _ rfl)
            have q2 := (HBp.out.cell (p := ⟨w.heap.size + 1, 2, none⟩) (Array.getElem?_eq_some_iff.1 K2.out).1).trans (cells_of_blk K2.out 2 _ rfl)
            have q3 := (HBp.out.cell (p := ⟨w.heap.size + 1, 3, none⟩) (Array.getElem?_eq_some_iff.1 K2.out).1).trans (cells_of_blk K2.out 3 _ rfl)
            have c0 : wp.cell? ⟨b0, o0 + i * 4, none⟩ = some (.int .i64 y0) := (HBp.out.cell (p := ⟨b0, o0 + i * 4 + 0, none⟩) hbl).trans (HCC.out 0 _ rfl)
            have c1 : wp.cell? ⟨b0, o0 + i * 4 + 1, none⟩ = some (.int .i64 y1) := (HBp.out.cell (p := ⟨b0, o0 + i * 4 + 1, none⟩) hbl).trans (HCC.out 1 _ rfl)
            have c2 : wp.cell? ⟨b0, o0 + i * 4 + 2, none⟩ = some (.int .i64 y2) := (HBp.out.cell (p := ⟨b0, o0 + i * 4 + 2, none⟩) hbl).trans (HCC.out 2 _ rfl)
            have c3 : wp.cell? ⟨b0, o0 + i * 4 + 3, none⟩ = some (.int .i64 y3) := (HBp.out.cell (p := ⟨b0, o0 + i * 4 + 3, none⟩) hbl).trans (HCC.out 3 _ rfl)
            go_wp2_with fail
            go_roundw
            case rel => exact ⟨i + 1, _, true, by go_num, rfl, HOp.out, by show _ ≤ _; omega, hal2.out, hR2.out, HBp.out⟩
            case measure => simp [intOf]; omega
          · have tne : (y0 != x0) = true := by simp [heq]
            have eg : (!decide (([y0, y1, y2, y3] : List Int).headD 0 < x0)) = true := by simp; omega
            have en : (!isId x0 ([y0, y1, y2, y3] : List Int)) = true := by simp [isId]; try omega
            have hR2 : Hid ((acc ++ [[y0, y1, y2, y3]]) ++ setK (fun r => !decide (r.headD 0 < x0)) (fun r => !isId x0 r) [x0, x1, x2, x3] true (b.h.drop (i + 1)) = setH x0 [x0, x1, x2, x3] false b.h) := (by
              have h := hrest.out
              rw [HS.out, eg, en] at h
              show _ = _
              simpa using h)
            have hal2 : Hid ((acc ++ [[y0, y1, y2, y3]]).length ≤ 2 * (i + 1)) := (by have := hal.out; show _ ≤ _; first | omega | (simp; omega))
            clear eg en
            have cb := (hBr.out.cell (p := ⟨w.heap.size, 0, none⟩) (Array.getElem?_eq_some_iff.1 K1.out).1).trans (cells_of_blk K1.out 0 _ rfl)
            have q0 := (hBr.out.cell (p := ⟨w.heap.size + 1, 0, none⟩) (Array.getElem?_eq_some_iff.1 K2.out).1).trans (cells_of_blk K2.out 0 _ rfl)
            have q1 := (hBr.out.cell (p := ⟨w.heap.size + 1, 1, none⟩) (Array.getElem?_eq_some_iff.1 K2.out).1).trans (cells_of_blk K2.out 1 _ rfl)
            have q2 := (hBr.out.cell (p := ⟨w.heap.size + 1, 2, none⟩) (Array.getElem?_eq_some_iff.1 K2.out).1).trans (cells_of_blk K2.out 2 _ rfl)
            have q3 := (hBr.out.cell (p := ⟨w.heap.size + 1, 3, none⟩) (Array.getElem?_eq_some_iff.1 K2.out).1).trans (cells_of_blk K2.out 3 _ rfl)
            have c0 : wr.cell? ⟨b0, o0 + i * 4, none⟩ = some (.int .i64 y0) := (hBr.out.cell (p := ⟨b0, o0 + i * 4 + 0, none⟩) hbl).trans (HCC.out 0 _ rfl)
            have c1 : wr.cell? ⟨b0, o0 + i * 4 + 1, none⟩ = some (.int .i64 y1) := (hBr.out.cell (p := ⟨b0, o0 + i * 4 + 1, none⟩) hbl).trans (HCC.out 1 _ rfl)
            have c2 : wr.cell? ⟨b0, o0 + i * 4 + 2, none⟩ = some (.int .i64 y2) := (hBr.out.cell (p := ⟨b0, o0 + i * 4 + 2, none⟩) hbl).trans (HCC.out 2 _ rfl)
            have c3 : wr.cell? ⟨b0, o0 + i * 4 + 3, none⟩ = some (.int .i64 y3) := (hBr.out.cell (p := ⟨b0, o0 + i * 4 + 3, none⟩) hbl).trans (HCC.out 3 _ rfl)
            go_wp2_with fail
            go_quiet (fail)
            have HBq := Lib.hid (below_drewN hBr.out nq)
            have HOq := Lib.hid (HO.out.kept (below_drewN (Below.refl _ _) nq))
            have hSq : w0.heap.size ≤ (wr.drewN nq).heap.size := hBr.out.size
            generalize wr.drewN nq = wq at *
            clear cb q0 c0 q1 c1 q2 c2 q3 c3
            have cb := (HBq.out.cell (p := ⟨w.heap.size, 0, none⟩) (Array.getElem?_eq_some_iff.1 K1.out).1).trans (cells_of_blk K1.out 0 _ rfl)
            have q0 := (HBq.out.cell (p := ⟨w.heap.size + 1, 0, none⟩) (Array.getElem?_eq_some_iff.1 K2.out).1).trans (cells_of_blk K2.out 0 _ rfl)
            have q1 := (HBq.out.cell (p := ⟨w.heap.size + 1, 1, none⟩) (Array.getElem?_eq_some_iff.1 K2.out).1).trans (cells_of_blk K2.out 1 _ rfl)
            have q2 := (HBq.out.cell (p := ⟨w.heap.size + 1, 2, none⟩) (Array.getElem?_eq_some_iff.1 K2.out).1).trans (cells_of_blk K2.out 2 _ rfl)
            have q3 := (HBq.out.cell (p := ⟨w.heap.size + 1, 3, none⟩) (Array.getElem?_eq_some_iff.1 K2.out).1).trans (cells_of_blk K2.out 3 _ rfl)
            have c0 : wq.cell? ⟨b0, o0 + i * 4, none⟩ = some (.int .i64 y0) := (HBq.out.cell (p := ⟨b0, o0 + i * 4 + 0, none⟩) hbl).trans (HCC.out 0 _ rfl)
            have c1 : wq.cell? ⟨b0, o0 + i * 4 + 1, none⟩ = some (.int .i64 y1) := (HBq.out.cell (p := ⟨b0, o0 + i * 4 + 1, none⟩) hbl).trans (HCC.out 1 _ rfl)
            have c2 : wq.cell? ⟨b0, o0 + i * 4 + 2, none⟩ = some (.int .i64 y2) := (HBq.out.cell (p := ⟨b0, o0 + i * 4 + 2, none⟩) hbl).trans (HCC.out 2 _ rfl)
            have c3 : wq.cell? ⟨b0, o0 + i * 4 + 3, none⟩ = some (.int .i64 y3) := (HBq.out.cell (p := ⟨b0, o0 + i * 4 + 3, none⟩) hbl).trans (HCC.out 3 _ rfl)
            go_wp2_with fail
            go_quiet (fail)
            have HBp := Lib.hid (below_drewN HBq.out nq)
            have HOp := Lib.hid (HOq.out.kept (below_drewN (Below.refl _ _) nq))
            have hSp : w0.heap.size ≤ (wq.drewN nq).heap.size := HBq.out.size
            generalize wq.drewN nq = wp at *
            clear cb q0 c0 q1 c1 q2 c2 q3 c3
            have cb := (HBp.out.cell (p := ⟨w.heap.size, 0, none⟩) (Array.getElem?_eq_some_iff.1 K1.out).1).trans (cells_of_blk K1.out 0 _ rfl)
            have q0 := (HBp.out.cell (p := ⟨w.heap.size + 1, 0, none⟩) (Array.getElem?_eq_some_iff.1 K2.out).1).trans (cells_of_blk K2.out 0 _ rfl)
            have q1 := (HBp.out.cell (p := ⟨w.heap.size + 1, 1, none⟩) (Array.getElem?_eq_some_iff.1 K2.out).1).trans (cells_of_blk K2.out 1 _ rfl)
            have q2 := (HBp.out.cell (p := ⟨w.heap.size + 1, 2, none⟩) (Array.getElem?_eq_some_iff.1 K2.out).1).trans (cells_of_blk K2.out 2 _ rfl)
            have q3 := (HBp.out.cell (p := ⟨w.heap.size + 1, 3, none⟩) (Array.getElem?_eq_some_iff.1 K2.out).1).trans (cells_of_blk K2.out 3 _ rfl)
            have c0 : wp.cell? ⟨b0, o0 + i * 4, none⟩ = some (.int .i64 y0) := (HBp.out.cell (p := ⟨b0, o0 + i * 4 + 0, none⟩) hbl).trans (HCC.out 0 _ rfl)
            have c1 : wp.cell? ⟨b0, o0 + i * 4 + 1, none⟩ = some (.int .i64 y1) := (HBp.out.cell (p := ⟨b0, o0 + i * 4 + 1, none⟩) hbl).trans (HCC.out 1 _ rfl)
            have c2 : wp.cell? ⟨b0, o0 + i * 4 + 2, none⟩ = some (.int .i64 y2) := (HBp.out.cell (p := ⟨b0, o0 + i * 4 + 2, none⟩) hbl).trans (HCC.out 2 _ rfl)
            have c3 : wp.cell? ⟨b0, o0 + i * 4 + 3, none⟩ = some (.int .i64 y3) := (HBp.out.cell (p := ⟨b0, o0 + i * 4 + 3, none⟩) hbl).trans (HCC.out 3 _ rfl)
            go_wp2_with (at_builtin; refine wpList_append_rec (W := w0) _ _ 32 39 (.agg #[.int .i64 0, .int .i64 0, .int .i64 0, .int .i64 0]) 4 32 el_Holder [y0, y1, y2, y3] _ (acc) HBp.out HOp hSp rfl rfl rfl rfl rfl (by have := hal.out; first | omega | (simp; omega)) (by decide) ?_)
            intro v3 w3 hO3 hB3 hS3
            clear cb q0 c0 q1 c1 q2 c2 q3 c3
            go_wp2_with fail
            go_roundw
            case rel => exact ⟨i + 1, _, true, by go_num, rfl, hO3.out, by show _ ≤ _; omega, hal2.out, hR2.out, hB3.out⟩
            case measure => simp [intOf]; omega
      | false =>
        by_cases hlt : y0 < x0
        · have tg : decide (x0 ≤ y0) = false := decide_eq_false (by omega)
          have tg' : ¬ x0 ≤ y0 := by omega
          have tne : (y0 != x0) = true := by simp; omega
          have eg : (!decide (([y0, y1, y2, y3] : List Int).headD 0 < x0)) = false := by simp; omega
          have en : (!isId x0 ([y0, y1, y2, y3] : List Int)) = true := by simp [isId]; try omega
          have hR2 : Hid ((acc ++ [[y0, y1, y2, y3]]) ++ setK (fun r => !decide (r.headD 0 < x0)) (fun r => !isId x0 r) [x0, x1, x2, x3] false (b.h.drop (i + 1)) = setH x0 [x0, x1, x2, x3] false b.h) := (by
            have h := hrest.out
            rw [HS.out, eg, en] at h
            show _ = _
            simpa using h)
          have hal2 : Hid ((acc ++ [[y0, y1, y2, y3]]).length ≤ 2 * (i + 1)) := (by have := hal.out; show _ ≤ _; first | omega | (simp; omega))
          clear eg en
          have cb := (hBr.out.cell (p := ⟨w.heap.size, 0, none⟩) (Array.getElem?_eq_some_iff.1 K1.out).1).trans (cells_of_blk K1.out 0 _ rfl)
          have q0 := (hBr.out.cell (p := ⟨w.heap.size + 1, 0, none⟩) (Array.getElem?_eq_some_iff.1 K2.out).1).trans (cells_of_blk K2.out 0 _ rfl)
          have q1 := (hBr.out.cell (p := ⟨w.heap.size + 1, 1, none⟩) (Array.getElem?_eq_some_iff.1 K2.out).1).trans (cells_of_blk K2.out 1 _ rfl)
          have q2 := (hBr.out.cell (p := ⟨w.heap.size + 1, 2, none⟩) (Array.getElem?_eq_some_iff.1 K2.out).1).trans (cells_of_blk K2.out 2 _ rfl)
          have q3 := (hBr.out.cell (p := ⟨w.heap.size + 1, 3, none⟩) (Array.getElem?_eq_some_iff.1 K2.out).1).trans (cells_of_blk K2.out 3 _ rfl)
          have c0 : wr.cell? ⟨b0, o0 + i * 4, none⟩ = some (.int .i64 y0) := (hBr.out.cell (p := ⟨b0, o0 + i * 4 + 0, none⟩) hbl).trans (HCC.out 0 _ rfl)
          have c1 : wr.cell? ⟨b0, o0 + i * 4 + 1, none⟩ = some (.int .i64 y1) := (hBr.out.cell (p := ⟨b0, o0 + i * 4 + 1, none⟩) hbl).trans (HCC.out 1 _ rfl)
          have c2 : wr.cell? ⟨b0, o0 + i * 4 + 2, none⟩ = some (.int .i64 y2) := (hBr.out.cell (p := ⟨b0, o0 + i * 4 + 2, none⟩) hbl).trans (HCC.out 2 _ rfl)
          have c3 : wr.cell? ⟨b0, o0 + i * 4 + 3, none⟩ = some (.int .i64 y3) := (hBr.out.cell (p := ⟨b0, o0 + i * 4 + 3, none⟩) hbl).trans (HCC.out 3 _ rfl)
          go_wp2_with fail
          go_quiet (fail)
          have HBq := Lib.hid (below_drewN hBr.out nq)
          have HOq := Lib.hid (HO.out.kept (below_drewN (Below.refl _ _) nq))
          have hSq : w0.heap.size ≤ (wr.drewN nq).heap.size := hBr.out.size
          generalize wr.drewN nq = wq at *
          clear cb q0 c0 q1 c1 q2 c2 q3 c3
          have cb := (HBq.out.cell (p := ⟨w.heap.size, 0, none⟩) (Array.getElem?_eq_some_iff.1 K1.out).1).trans (cells_of_blk K1.out 0 _ rfl)
          have q0 := (HBq.out.cell (p := ⟨w.heap.size + 1, 0, none⟩) (Array.getElem?_eq_some_iff.1 K2.out).1).trans (cells_of_blk K2.out 0 _ rfl)
          have q1 := (HBq.out.cell (p := ⟨w.heap.size + 1, 1, none⟩) (Array.getElem?_eq_some_iff.1 K2.out).1).trans (cells_of_blk K2.out 1 _ rfl)
          have q2 := (HBq.out.cell (p := ⟨w.heap.size + 1, 2, none⟩) (Array.getElem?_eq_some_iff.1 K2.out).1).trans (cells_of_blk K2.out 2 _ rfl)
          have q3 := (HBq.out.cell (p := ⟨w.heap.size + 1, 3, none⟩) (Array.getElem?_eq_some_iff.1 K2.out).1).trans (cells_of_blk K2.out 3 _ rfl)
          have c0 : wq.cell? ⟨b0, o0 + i * 4, none⟩ = some (.int .i64 y0) := (HBq.out.cell (p := ⟨b0, o0 + i * 4 + 0, none⟩) hbl).trans (HCC.out 0 _ rfl)
          have c1 : wq.cell? ⟨b0, o0 + i * 4 + 1, none⟩ = some (.int .i64 y1) := (HBq.out.cell (p := ⟨b0, o0 + i * 4 + 1, none⟩) hbl).trans (HCC.out 1 _ rfl)
          have c2 : wq.cell? ⟨b0, o0 + i * 4 + 2, none⟩ = some (.int .i64 y2) := (HBq.out.cell (p := ⟨b0, o0 + i * 4 + 2, none⟩) hbl).trans (HCC.out 2 _ rfl)
          have c3 : wq.cell? ⟨b0, o0 + i * 4 + 3, none⟩ = some (.int .i64 y3) := (HBq.out.cell (p := ⟨b0, o0 + i * 4 + 3, none⟩) hbl).trans (HCC.out 3 _ rfl)
          go_wp2_with fail
          go_quiet (fail)
          have HBp := Lib.hid (below_drewN HBq.out nq)
          have HOp := Lib.hid (HOq.out.kept (below_drewN (Below.refl _ _) nq))
          have hSp : w0.heap.size ≤ (wq.drewN nq).heap.size := HBq.out.size
          generalize wq.drewN nq = wp at *
          clear cb q0 c0 q1 c1 q2 c2 q3 c3
          have cb := (HBp.out.cell (p := ⟨w.heap.size, 0, none⟩) (Array.getElem?_eq_some_iff.1 K1.out).1).trans (cells_of_blk K1.out 0 _ rfl)
          have q0 := (HBp.out.cell (p := ⟨w.heap.size + 1, 0, none⟩) (Array.getElem?_eq_some_iff.1 K2.out).1).trans (cells_of_blk K2.out 0 _ rfl)
          have q1 := (HBp.out.cell (p := ⟨w.heap.size + 1, 1, none⟩) (Array.getElem?_eq_some_iff.1 K2.out).1).trans (cells_of_blk K2.out 1 _ rfl)
          have q2 := (HBp.out.cell (p := ⟨w.heap.size + 1, 2, none⟩) (Array.getElem?_eq_some_iff.1 K2.out).1).trans (cells_of_blk K2.out 2 _ rfl)
          have q3 := (HBp.out.cell (p := ⟨w.heap.size + 1, 3, none⟩) (Array.getElem?_eq_some_iff.1 K2.out).1).trans (cells_of_blk K2.out 3 _ rfl)
          have c0 : wp.cell? ⟨b0, o0 + i * 4, none⟩ = some (.int .i64 y0) := (HBp.out.cell (p := ⟨b0, o0 + i * 4 + 0, none⟩) hbl).trans (HCC.out 0 _ rfl)
          have c1 : wp.cell? ⟨b0, o0 + i * 4 + 1, none⟩ = some (.int .i64 y1) := (HBp.out.cell (p := ⟨b0, o0 + i * 4 + 1, none⟩) hbl).trans (HCC.out 1 _ rfl)
          have c2 : wp.cell? ⟨b0, o0 + i * 4 + 2, none⟩ = some (.int .i64 y2) := (HBp.out.cell (p := ⟨b0, o0 + i * 4 + 2, none⟩) hbl).trans (HCC.out 2 _ rfl)
          have c3 : wp.cell? ⟨b0, o0 + i * 4 + 3, none⟩ = some (.int .i64 y3) := (HBp.out.cell (p := ⟨b0, o0 + i * 4 + 3, none⟩) hbl).trans (HCC.out 3 _ rfl)
          go_wp2_with (at_builtin; refine wpList_append_rec (W := w0) _ _ 32 39 (.agg #[.int .i64 0, .int .i64 0, .int .i64 0, .int .i64 0]) 4 32 el_Holder [y0, y1, y2, y3] _ (acc) HBp.out HOp hSp rfl rfl rfl rfl rfl (by have := hal.out; first | omega | (simp; omega)) (by decide) ?_)
          intro v3 w3 hO3 hB3 hS3
          clear cb q0 c0 q1 c1 q2 c2 q3 c3
          go_wp2_with fail
          go_roundw
          case rel => exact ⟨i + 1, _, false, by go_num, rfl, hO3.out, by show _ ≤ _; omega, hal2.out, hR2.out, hB3.out⟩
          case measure => simp [intOf]; omega
        · have tg : decide (x0 ≤ y0) = true := decide_eq_true (by omega)
          have tg' : x0 ≤ y0 := by omega
          by_cases heq : y0 = x0
          · have tne : (y0 != x0) = false := by simp [heq]
            have eg : (!decide (([y0, y1, y2, y3] : List Int).headD 0 < x0)) = true := by simp; omega
            have en : (!isId x0 ([y0, y1, y2, y3] : List Int)) = false := by simp [isId]; try omega
            have hR2 : Hid (((acc ++ [[x0, x1, x2, x3]])) ++ setK (fun r => !decide (r.headD 0 < x0)) (fun r => !isId x0 r) [x0, x1, x2, x3] true (b.h.drop (i + 1)) = setH x0 [x0, x1, x2, x3] false b.h) := (by
              have h := hrest.out
              rw [HS.out, eg, en] at h
              show _ = _
              simpa using h)
            have hal2 : Hid (((acc ++ [[x0, x1, x2, x3]])).length ≤ 2 * (i + 1)) := (by have := hal.out; show _ ≤ _; first | omega | (simp; omega))
            clear eg en
            have cb := (hBr.out.cell (p := ⟨w.heap.size, 0, none⟩) (Array.getElem?_eq_some_iff.1 K1.out).1).trans (cells_of_blk K1.out 0 _ rfl)
            have q0 := (hBr.out.cell (p := ⟨w.heap.size + 1, 0, none⟩) (Array.getElem?_eq_some_iff.1 K2.out).1).trans (cells_of_blk K2.out 0 _ rfl)
            have q1 := (hBr.out.cell (p := ⟨w.heap.size + 1, 1, none⟩) (Array.getElem?_eq_some_iff.1 K2.out).1).trans (cells_of_blk K2.out 1 _ rfl)
            have q2 := (hBr.out.cell (p := ⟨w.heap.size + 1, 2, none⟩) (Array.getElem?_eq_some_iff.1 K2.out).1).trans (cells_of_blk K2.out 2 _ rfl)
            have q3 := (hBr.out.cell (p := ⟨w.heap.size + 1, 3, none⟩) (Array.getElem?_eq_some_iff.1 K2.out).1).trans (cells_of_blk K2.out 3 _ rfl)
            have c0 : wr.cell? ⟨b0, o0 + i * 4, none⟩ = some (.int .i64 y0) := (hBr.out.cell (p := ⟨b0, o0 + i * 4 + 0, none⟩) hbl).trans (HCC.out 0 _ rfl)
            have c1 : wr.cell? ⟨b0, o0 + i * 4 + 1, none⟩ = some (.int .i64 y1) := (hBr.out.cell (p := ⟨b0, o0 + i * 4 + 1, none⟩) hbl).trans (HCC.out 1 _ rfl)
            have c2 : wr.cell? ⟨b0, o0 + i * 4 + 2, none⟩ = some (.int .i64 y2) := (hBr.out.cell (p := ⟨b0, o0 + i * 4 + 2, none⟩) hbl).trans (HCC.out 2 _ rfl)
            have c3 : wr.cell? ⟨b0, o0 + i * 4 + 3, none⟩ = some (.int .i64 y3) := (hBr.out.cell (p := ⟨b0, o0 + i * 4 + 3, none⟩) hbl).trans (HCC.out 3 _ rfl)
            go_wp2_with fail
            go_quiet (fail)
            have HBq := Lib.hid (below_drewN hBr.out nq)
            have HOq := Lib.hid (HO.out.kept (below_drewN (Below.refl _ _) nq))
            have hSq : w0.heap.size ≤ (wr.drewN nq).heap.size := hBr.out.size
            generalize wr.drewN nq = wq at *
            clear cb q0 c0 q1 c1 q2 c2 q3 c3
            have cb := (HBq.out.cell (p := ⟨w.heap.size, 0, none⟩) (Array.getElem?_eq_some_iff.1 K1.out).1).trans (cells_of_blk K1.out 0 _ rfl)
            have q0 := (HBq.out.cell (p := ⟨w.heap.size + 1, 0, none⟩) (Array.getElem?_eq_some_iff.1 K2.out).1).trans (cells_of_blk K2.out 0 _ rfl)
            have q1 := (HBq.out.cell (p := ⟨w.heap.size + 1, 1, none⟩) (Array.getElem?_eq_some_iff.1 K2.out).1).trans (cells_of_blk K2.out 1 _ rfl)
            have q2 := (HBq.out.cell (p := ⟨w.heap.size + 1, 2, none⟩) (Array.getElem?_eq_some_iff.1 K2.out).1).trans (cells_of_blk K2.out 2 _ rfl)
            have q3 := (HBq.out.cell (p := ⟨w.heap.size + 1, 3, none⟩) (Array.getElem?_eq_some_iff.1 K2.out).1).trans (cells_of_blk K2.out 3 _ rfl)
            have c0 : wq.cell? ⟨b0, o0 + i * 4, none⟩ = some (.int .i64 y0) := (HBq.out.cell (p := ⟨b0, o0 + i * 4 + 0, none⟩) hbl).trans (HCC.out 0 _ rfl)
            have c1 : wq.cell? ⟨b0, o0 + i * 4 + 1, none⟩ = some (.int .i64 y1) := (HBq.out.cell (p := ⟨b0, o0 + i * 4 + 1, none⟩) hbl).trans (HCC.out 1 _ rfl)
            have c2 : wq.cell? ⟨b0, o0 + i * 4 + 2, none⟩ = some (.int .i64 y2) := (HBq.out.cell (p := ⟨b0, o0 + i * 4 + 2, none⟩) hbl).trans (HCC.out 2 _ rfl)
            have c3 : wq.cell? ⟨b0, o0 + i * 4 + 3, none⟩ = some (.int .i64 y3) := (HBq.out.cell (p := ⟨b0, o0 + i * 4 + 3, none⟩) hbl).trans (HCC.out 3 _ rfl)
            go_wp2_with (at_builtin; refine wpList_append_rec (W := w0) _ _ 32 39 (.agg #[.int .i64 0, .int .i64 0, .int .i64 0, .int .i64 0]) 4 32 el_Holder [x0, x1, x2, x3] _ acc HBq.out HOq hSq rfl rfl rfl rfl rfl (by have := hal.out; omega) (by decide) ?_)
            intro v2 w2 hO2 hB2 hS2
            clear cb q0 c0 q1 c1 q2 c2 q3 c3
            have cb := (hB2.out.cell (p := ⟨w.heap.size, 0, none⟩) (Array.getElem?_eq_some_iff.1 K1.out).1).trans (cells_of_blk K1.out 0 _ rfl)
            have q0 := (hB2.out.cell (p := ⟨w.heap.size + 1, 0, none⟩) (Array.getElem?_eq_some_iff.1 K2.out).1).trans (cells_of_blk K2.out 0 _ rfl)
            have q1 := (hB2.out.cell (p := ⟨w.heap.size + 1, 1, none⟩) (Array.getElem?_eq_some_iff.1 K2.out).1).trans (cells_of_blk K2.out 1 _ rfl)
            have q2 := (hB2.out.cell (p := ⟨w.heap.size + 1, 2, none⟩) (Array.getElem?_eq_some_iff.1 K2.out).1).trans (cells_of_blk K2.out 2 _ rfl)
            have q3 := (hB2.out.cell (p := ⟨w.heap.size + 1, 3, none⟩) (Array.getElem?_eq_some_iff.1 K2.out).1).trans (cells_of_blk K2.out 3 _ rfl)
            have c0 : w2.cell? ⟨b0, o0 + i * 4, none⟩ = some (.int .i64 y0) := (hB2.out.cell (p := ⟨b0, o0 + i * 4 + 0, none⟩) hbl).trans (HCC.out 0 _ rfl)
            have c1 : w2.cell? ⟨b0, o0 + i * 4 + 1, none⟩ = some (.int .i64 y1) := (hB2.out.cell (p := ⟨b0, o0 + i * 4 + 1, none⟩) hbl).trans (HCC.out 1 _ rfl)
            have c2 : w2.cell? ⟨b0, o0 + i * 4 + 2, none⟩ = some (.int .i64 y2) := (hB2.out.cell (p := ⟨b0, o0 + i * 4 + 2, none⟩) hbl).trans (HCC.out 2 _ rfl)
            have c3 : w2.cell? ⟨b0, o0 + i * 4 + 3, none⟩ = some (.int .i64 y3) := (hB2.out.cell (p := ⟨b0, o0 + i * 4 + 3, none⟩) hbl).trans (HCC.out 3 _ rfl)
            go_wp2_with fail
            go_quiet (fail)
            have HBp := Lib.hid (below_drewN hB2.out nq)
            have HOp := Lib.hid (hO2.out.kept (below_drewN (Below.refl _ _) nq))
            have hSp : w0.heap.size ≤ (w2.drewN nq).heap.size := hB2.out.size
            generalize w2.drewN nq = wp at *
            clear cb q0 c0 q1 c1 q2 c2 q3 c3
            have cb := (HBp.out.cell (p := ⟨w.heap.size, 0, none⟩) (Array.getElem?_eq_some_iff.1 K1.out).1).trans (cells_of_blk K1.out 0 _ rfl)
            have q0 := (HBp.out.cell (p := ⟨w.heap.size + 1, 0, none⟩) (Array.getElem?_eq_some_iff.1 K2.out).1).trans (cells_of_blk K2.out 0 _ rfl)
            have q1 := (HBp.out.cell (p := ⟨w.heap.size + 1, 1, none⟩) (Array.getElem?_eq_some_iff.1 K2.out).1).trans (cells_of_blk K2.out 1 _ rfl)
            have q2 := (HBp.out.cell (p := ⟨w.heap.size + 1, 2, none⟩) (Array.getElem?_eq_some_iff.1 K2.out).1).trans (cells_of_blk K2.out 2 _ rfl)
            have q3 := (HBp.out.cell (p := ⟨w.heap.size + 1, 3, none⟩) (Array.getElem?_eq_some_iff.1 K2.out).1).trans (cells_of_blk K2.out 3 _ rfl)
            have c0 : wp.cell? ⟨b0, o0 + i * 4, none⟩ = some (.int .i64 y0) := (HBp.out.cell (p := ⟨b0, o0 + i * 4 + 0, none⟩) hbl).trans (HCC.out 0 _ rfl)
            have c1 : wp.cell? ⟨b0, o0 + i * 4 + 1, none⟩ = some (.int .i64 y1) := (HBp.out.cell (p := ⟨b0, o0 + i * 4 + 1, none⟩) hbl).trans (HCC.out 1 _ rfl)
            have c2 : wp.cell? ⟨b0, o0 + i * 4 + 2, none⟩ = some (.int .i64 y2) := (HBp.out.cell (p := ⟨b0, o0 + i * 4 + 2, none⟩) hbl).trans (HCC.out 2 _ rfl)
            have c3 : wp.cell? ⟨b0, o0 + i * 4 + 3, none⟩ = some (.int .i64 y3) := (HBp.out.cell (p := ⟨b0, o0 + i * 4 + 3, none⟩) hbl).trans (HCC.out 3 _ rfl)
            go_wp2_with fail
            go_roundw
            case rel => exact ⟨i + 1, _, true, by go_num, rfl, HOp.out, by show _ ≤ _; omega, hal2.out, hR2.out, HBp.out⟩
            case measure => simp [intOf]; omega
          · have tne : (y0 != x0) = true := by simp [heq]
            have eg : (!decide (([y0, y1, y2, y3] : List Int).headD 0 < x0)) = true := by simp; omega
            have en : (!isId x0 ([y0, y1, y2, y3] : List Int)) = true := by simp [isId]; try omega
            have hR2 : Hid ((acc ++ [[x0, x1, x2, x3], [y0, y1, y2, y3]]) ++ setK (fun r => !decide (r.headD 0 < x0)) (fun r => !isId x0 r) [x0, x1, x2, x3] true (b.h.drop (i + 1)) = setH x0 [x0, x1, x2, x3] false b.h) := (by
              have h := hrest.out
              rw [HS.out, eg, en] at h
              show _ = _
              simpa using h)
            have hal2 : Hid ((acc ++ [[x0, x1, x2, x3], [y0, y1, y2, y3]]).length ≤ 2 * (i + 1)) := (by have := hal.out; show _ ≤ _; first | omega | (simp; omega))
            clear eg en
            have cb := (hBr.out.cell (p := ⟨w.heap.size, 0, none⟩) (Array.getElem?_eq_some_iff.1 K1.out).1).trans (cells_of_blk K1.out 0 _ rfl)
            have q0 := (hBr.out.cell (p := ⟨w.heap.size + 1, 0, none⟩) (Array.getElem?_eq_some_iff.1 K2.out).1).trans (cells_of_blk K2.out 0 _ rfl)
            have q1 := (hBr.out.cell (p := ⟨w.heap.size + 1, 1, none⟩) (Array.getElem?_eq_some_iff.1 K2.out).1).trans (cells_of_blk K2.out 1 _ rfl)
            have q2 := (hBr.out.cell (p := ⟨w.heap.size + 1, 2, none⟩) (Array.getElem?_eq_some_iff.1 K2.out).1).trans (cells_of_blk K2.out 2 _ rfl)
            have q3 := (hBr.out.cell (p := ⟨w.heap.size + 1, 3, none⟩) (Array.getElem?_eq_some_iff.1 K2.out).1).trans (cells_of_blk K2.out 3 _ rfl)
            have c0 : wr.cell? ⟨b0, o0 + i * 4, none⟩ = some (.int .i64 y0) := (hBr.out.cell (p := ⟨b0, o0 + i * 4 + 0, none⟩) hbl).trans (HCC.out 0 _ rfl)
            have c1 : wr.cell? ⟨b0, o0 + i * 4 + 1, none⟩ = some (.int .i64 y1) := (hBr.out.cell (p := ⟨b0, o0 + i * 4 + 1, none⟩) hbl).trans (HCC.out 1 _ rfl)
            have c2 : wr.cell? ⟨b0, o0 + i * 4 + 2, none⟩ = some (.int .i64 y2) := (hBr.out.cell (p := ⟨b0, o0 + i * 4 + 2, none⟩) hbl).trans (HCC.out 2 _ rfl)
            have c3 : wr.cell? ⟨b0, o0 + i * 4 + 3, none⟩ = some (.int .i64 y3) := (hBr.out.cell (p := ⟨b0, o0 + i * 4 + 3, none⟩) hbl).trans (HCC.out 3 _ rfl)
            go_wp2_with fail
            go_quiet (fail)
            have HBq := Lib.hid (below_drewN hBr.out nq)
            have HOq := Lib.hid (HO.out.kept (below_drewN (Below.refl _ _) nq))
            have hSq : w0.heap.size ≤ (wr.drewN nq).heap.size := hBr.out.size
            generalize wr.drewN nq = wq at *
            clear cb q0 c0 q1 c1 q2 c2 q3 c3
            have cb := (HBq.out.cell (p := ⟨w.heap.size, 0, none⟩) (Array.getElem?_eq_some_iff.1 K1.out).1).trans (cells_of_blk K1.out 0 _ rfl)
            have q0 := (HBq.out.cell (p := ⟨w.heap.size + 1, 0, none⟩) (Array.getElem?_eq_some_iff.1 K2.out).1).trans (cells_of_blk K2.out 0 _ rfl)
            have q1 := (HBq.out.cell (p := ⟨w.heap.size + 1, 1, none⟩) (Array.getElem?_eq_some_iff.1 K2.out).1).trans (cells_of_blk K2.out 1 _ rfl)
            have q2 := (HBq.out.cell (p := ⟨w.heap.size + 1, 2, none⟩) (Array.getElem?_eq_some_iff.1 K2.out).1).trans (cells_of_blk K2.out 2 _ rfl)
            have q3 := (HBq.out.cell (p := ⟨w.heap.size + 1, 3, none⟩) (Array.getElem?_eq_some_iff.1 K2.out).1).trans (cells_of_blk K2.out 3 _ rfl)
            have c0 : wq.cell? ⟨b0, o0 + i * 4, none⟩ = some (.int .i64 y0) := (HBq.out.cell (p := ⟨b0, o0 + i * 4 + 0, none⟩) hbl).trans (HCC.out 0 _ rfl)
            have c1 : wq.cell? ⟨b0, o0 + i * 4 + 1, none⟩ = some (.int .i64 y1) := (HBq.out.cell (p := ⟨b0, o0 + i * 4 + 1, none⟩) hbl).trans (HCC.out 1 _ rfl)
            have c2 : wq.cell? ⟨b0, o0 + i * 4 + 2, none⟩ = some (.int .i64 y2) := (HBq.out.cell (p := ⟨b0, o0 + i * 4 + 2, none⟩) hbl).trans (HCC.out 2 _ rfl)
            have c3 : wq.cell? ⟨b0, o0 + i * 4 + 3, none⟩ = some (.int .i64 y3) := (HBq.out.cell (p := ⟨b0, o0 + i * 4 + 3, none⟩) hbl).trans (HCC.out 3 _ rfl)
            go_wp2_with (at_builtin; refine wpList_append_rec (W := w0) _ _ 32 39 (.agg #[.int .i64 0, .int .i64 0, .int .i64 0, .int .i64 0]) 4 32 el_Holder [x0, x1, x2, x3] _ acc HBq.out HOq hSq rfl rfl rfl rfl rfl (by have := hal.out; omega) (by decide) ?_)
            intro v2 w2 hO2 hB2 hS2
            clear cb q0 c0 q1 c1 q2 c2 q3 c3
            have cb := (hB2.out.cell (p := ⟨w.heap.size, 0, none⟩) (Array.getElem?_eq_some_iff.1 K1.out).1).trans (cells_of_blk K1.out 0 _ rfl)
            have q0 := (hB2.out.cell (p := ⟨w.heap.size + 1, 0, none⟩) (Array.getElem?_eq_some_iff.1 K2.out).1).trans (cells_of_blk K2.out 0 _ rfl)
            have q1 := (hB2.out.cell (p := ⟨w.heap.size + 1, 1, none⟩) (Array.getElem?_eq_some_iff.1 K2.out).1).trans (cells_of_blk K2.out 1 _ rfl)
            have q2 := (hB2.out.cell (p := ⟨w.heap.size + 1, 2, none⟩) (Array.getElem?_eq_some_iff.1 K2.out).1).trans (cells_of_blk K2.out 2 _ rfl)
            have q3 := (hB2.out.cell (p := ⟨w.heap.size + 1, 3, none⟩) (Array.getElem?_eq_some_iff.1 K2.out).1).trans (cells_of_blk K2.out 3 _ rfl)
            have c0 : w2.cell? ⟨b0, o0 + i * 4, none⟩ = some (.int .i64 y0) := (hB2.out.cell (p := ⟨b0, o0 + i * 4 + 0, none⟩) hbl).trans (HCC.out 0 _ rfl)
            have c1 : w2.cell? ⟨b0, o0 + i * 4 + 1, none⟩ = some (.int .i64 y1) := (hB2.out.cell (p := ⟨b0, o0 + i * 4 + 1, none⟩) hbl).trans (HCC.out 1 _ rfl)
            have c2 : w2.cell? ⟨b0, o0 + i * 4 + 2, none⟩ = some (.int .i64 y2) := (hB2.out.cell (p := ⟨b0, o0 + i * 4 + 2, none⟩) hbl).trans (HCC.out 2 _ rfl)
            have c3 : w2.cell? ⟨b0, o0 + i * 4 + 3, none⟩ = some (.int .i64 y3) := (hB2.out.cell (p := ⟨b0, o0 + i * 4 + 3, none⟩) hbl).trans (HCC.out 3 _ rfl)
            go_wp2_with fail
            go_quiet (fail)
            have HBp := Lib.hid (below_drewN hB2.out nq)
            have HOp := Lib.hid (hO2.out.kept (below_drewN (Below.refl _ _) nq))
            have hSp : w0.heap.size ≤ (w2.drewN nq).heap.size := hB2.out.size
            generalize w2.drewN nq = wp at *
            clear cb q0 c0 q1 c1 q2 c2 q3 c3
            have cb := (HBp.out.cell (p := ⟨w.heap.size, 0, none⟩) (Array.getElem?_eq_some_iff.1 K1.out).1).trans (cells_of_blk K1.out 0 _ rfl)
            have q0 := (HBp.out.cell (p := ⟨w.heap.size + 1, 0, none⟩) (Array.getElem?_eq_some_iff.1 K2.out).1).trans (cells_of_blk K2.out 0 _ rfl)
            have q1 := (HBp.out.cell (p := ⟨w.heap.size + 1, 1, none⟩) (Array.getElem?_eq_some_iff.1 K2.out).1).trans (cells_of_blk K2.out 1 _ rfl)
            have q2 := (HBp.out.cell (p := ⟨w.heap.size + 1, 2, none⟩) (Array.getElem?_eq_some_iff.1 K2.out).1).trans (cells_of_blk K2.out 2 _ rfl)
            have q3 := (HBp.out.cell (p := ⟨w.heap.size + 1, 3, none⟩) (Array.getElem?_eq_some_iff.1 K2.out).1).trans (cells_of_blk K2.out 3 _ rfl)
            have c0 : wp.cell? ⟨b0, o0 + i * 4, none⟩ = some (.int .i64 y0) := (HBp.out.cell (p := ⟨b0, o0 + i * 4 + 0, none⟩) hbl).trans (HCC.out 0 _ rfl)
            have c1 : wp.cell? ⟨b0, o0 + i * 4 + 1, none⟩ = some (.int .i64 y1) := (HBp.out.cell (p := ⟨b0, o0 + i * 4 + 1, none⟩) hbl).trans (HCC.out 1 _ rfl)
            have c2 : wp.cell? ⟨b0, o0 + i * 4 + 2, none⟩ = some (.int .i64 y2) := (HBp.out.cell (p := ⟨b0, o0 + i * 4 + 2, none⟩) hbl).trans (HCC.out 2 _ rfl)
            have c3 : wp.cell? ⟨b0, o0 + i * 4 + 3, none⟩ = some (.int .i64 y3) := (HBp.out.cell (p := ⟨b0, o0 + i * 4 + 3, none⟩) hbl).trans (HCC.out 3 _ rfl)
            go_wp2_with (at_builtin; refine wpList_append_rec (W := w0) _ _ 32 39 (.agg #[.int .i64 0, .int .i64 0, .int .i64 0, .int .i64 0]) 4 32 el_Holder [y0, y1, y2, y3] _ (acc ++ [[x0, x1, x2, x3]]) HBp.out HOp hSp rfl rfl rfl rfl rfl (by have := hal.out; first | omega | (simp; omega)) (by decide) ?_)
            intro v3 w3 hO3 hB3 hS3
            clear cb q0 c0 q1 c1 q2 c2 q3 c3
            go_wp2_with fail
            go_roundw
            case rel => exact ⟨i + 1, _, true, by go_num, rfl, hO3.out, by show _ ≤ _; omega, hal2.out, hR2.out, hB3.out⟩
            case measure => simp [intOf]; omega
    · have tn : decide ((i : Int) < (b.h.length : Int)) = false := decide_eq_false (by omega)
      have hR := hrest.out
      rw [List.drop_eq_nil_of_le (by omega)] at hR
      clear cb q0 q1 q2 q3
      have cb := (hBr.out.cell (p := ⟨w.heap.size, 0, none⟩) (Array.getElem?_eq_some_iff.1 K1.out).1).trans (cells_of_blk K1.out 0 _ rfl)
      cases done with
      | true =>
        have hR2 : Hid (acc = setH x0 [x0, x1, x2, x3] false b.h) := (by show _ = _; simpa [setK] using hR)
        clear hR
        obtain ⟨A5, c5', rfl⟩ := HO.out.form
        have n1 := (hBr.out.block _ (Array.getElem?_eq_some_iff.1 K1.out).1).trans K1.out
        have n3 := (hBr.out.block _ (Array.getElem?_eq_some_iff.1 K3.out).1).trans K3.out
        have p0 := cells_of_blk n1 0 _ rfl
        have v0 := cells_of_blk n3 0 _ rfl
        have vf0 := free_of_blk n3 0
        have p1 := cells_of_blk n1 1 _ rfl
        have v1 := cells_of_blk n3 1 _ rfl
        have vf1 := free_of_blk n3 1
        have p2 := cells_of_blk n1 2 _ rfl
        have v2 := cells_of_blk n3 2 _ rfl
        have vf2 := free_of_blk n3 2
        have p3 := cells_of_blk n1 3 _ rfl
        have v3 := cells_of_blk n3 3 _ rfl
        have vf3 := free_of_blk n3 3
        have p4 := cells_of_blk n1 4 _ rfl
        have v4 := cells_of_blk n3 4 _ rfl
        have vf4 := free_of_blk n3 4
        have pf := free_of_blk n1 0
        obtain ⟨w4, hw4⟩ : ∃ w4, wr.setCell ⟨w.heap.size, 0, none⟩ (.slice A5 acc.length c5') = w4 := ⟨_, rfl⟩
        have O3 : Hid (w4.heap[w.heap.size + 2]? = some (.cells #[.slice none 0 0, .slice none 0 0, .slice none 0 0, .slice none 0 0, .int .i64 0] 37 (0, 0))) := by rw [← hw4]; exact set_oth n3 0 _ (by omega)
        have hlt0 : w.heap.size < w0.heap.size := (Array.getElem?_eq_some_iff.1 K1.out).1
        have G4 : Hid (RowOwn w4 w0.heap.size 39 (.slice A5 acc.length c5') 4 (acc)) := by rw [← hw4]; exact RowOwn.setBelow (a := ⟨_, _, _⟩) HO.out hlt0 _
        have HB4 : Hid (Below w.heap.size w w4) := by rw [← hw4]; exact Below.setCell (p := ⟨_, _, _⟩) (HB0.out.trans (hBr.out.mono HB0.out.size)) (Nat.le_refl _) _
        replace hw4 := Lib.hid hw4
        clear n1 n3
        have t0 := cells_of_blk O3.out 0 _ rfl
        have t1 := cells_of_blk O3.out 1 _ rfl
        have t2 := cells_of_blk O3.out 2 _ rfl
        have t3 := cells_of_blk O3.out 3 _ rfl
        have t4 := cells_of_blk O3.out 4 _ rfl
        have tf0 := free_of_blk O3.out 0
        have tf1 := free_of_blk O3.out 1
        have tf2 := free_of_blk O3.out 2
        have tf3 := free_of_blk O3.out 3
        have tf4 := free_of_blk O3.out 4
        go_wp2_with fail
        rw [hw4.out]
        refine bodyPost_ret (v := .agg #[.slice A5 acc.length c5', .slice As b.s.length cs, .slice Ao b.o.length co, .slice Ar b.r.length cr, .int .i64 b.n]) ?_ rfl ⟨_, rfl, ?_, ?_⟩
        · simp [results, Try.results23, go_sem, t0, t1, t2, t3, t4]
        · have hl2 : w.heap.size ≤ w.heap.size + 2 := by omega
          have hl3 : w.heap.size + 2 < w0.heap.size := (Array.getElem?_eq_some_iff.1 K3.out).1
          have HF := set5_belowR HB4.out hl2 (.slice A5 acc.length c5') (.slice As b.s.length cs) (.slice Ao b.o.length co) (.slice Ar b.r.length cr) (.int .i64 b.n)
          have GF := G4.out.set5R hl3 (.slice A5 acc.length c5') (.slice As b.s.length cs) (.slice Ao b.o.length co) (.slice Ar b.r.length cr) (.int .i64 b.n)
          obtain ⟨_, _, _, _, hh, g1, g2, g3, g4⟩ := HBK.out.call HF
          injection hh with hh
          simp only [Array.mk.injEq, List.cons.injEq] at hh
          obtain ⟨rfl, rfl, rfl, rfl, _⟩ := hh
          have GF2 := GF.row
          have hacc := hR2.out
          generalize acc = L0 at *
          subst hacc
          exact ⟨_, _, _, _, rfl, GF2, g2, g3, g4⟩
        · have hl2 : w.heap.size ≤ w.heap.size + 2 := by omega
          exact set5_belowR HB4.out hl2 (.slice A5 acc.length c5') (.slice As b.s.length cs) (.slice Ao b.o.length co) (.slice Ar b.r.length cr) (.int .i64 b.n)
      | false =>
        have hR2 : Hid (acc ++ [[x0, x1, x2, x3]] = setH x0 [x0, x1, x2, x3] false b.h) := (by show _ = _; simpa [setK] using hR)
        clear hR
        have hSr : w0.heap.size ≤ wr.heap.size := hBr.out.size
        have q0 := (hBr.out.cell (p := ⟨w.heap.size + 1, 0, none⟩) (Array.getElem?_eq_some_iff.1 K2.out).1).trans (cells_of_blk K2.out 0 _ rfl)
        have q1 := (hBr.out.cell (p := ⟨w.heap.size + 1, 1, none⟩) (Array.getElem?_eq_some_iff.1 K2.out).1).trans (cells_of_blk K2.out 1 _ rfl)
        have q2 := (hBr.out.cell (p := ⟨w.heap.size + 1, 2, none⟩) (Array.getElem?_eq_some_iff.1 K2.out).1).trans (cells_of_blk K2.out 2 _ rfl)
        have q3 := (hBr.out.cell (p := ⟨w.heap.size + 1, 3, none⟩) (Array.getElem?_eq_some_iff.1 K2.out).1).trans (cells_of_blk K2.out 3 _ rfl)
        go_wp2_with (at_builtin; refine wpList_append_rec (W := w0) _ _ 32 39 (.agg #[.int .i64 0, .int .i64 0, .int .i64 0, .int .i64 0]) 4 32 el_Holder [x0, x1, x2, x3] _ acc hBr.out HO hSr rfl rfl rfl rfl rfl (by have := hal.out; omega) (by decide) ?_)
        intro v2 w2 hO2 hB2 hS2
        clear cb q0 q1 q2 q3
        obtain ⟨A5, c5', hfm⟩ := hO2.out.form
        rw [show (acc ++ [[x0, x1, x2, x3]]).length = acc.length + 1 from by simp] at hfm
        subst hfm
        have n1 := (hB2.out.block _ (Array.getElem?_eq_some_iff.1 K1.out).1).trans K1.out
        have n3 := (hB2.out.block _ (Array.getElem?_eq_some_iff.1 K3.out).1).trans K3.out
        have p0 := cells_of_blk n1 0 _ rfl
        have v0 := cells_of_blk n3 0 _ rfl
        have vf0 := free_of_blk n3 0
        have p1 := cells_of_blk n1 1 _ rfl
        have v1 := cells_of_blk n3 1 _ rfl
        have vf1 := free_of_blk n3 1
        have p2 := cells_of_blk n1 2 _ rfl
        have v2 := cells_of_blk n3 2 _ rfl
        have vf2 := free_of_blk n3 2
        have p3 := cells_of_blk n1 3 _ rfl
        have v3 := cells_of_blk n3 3 _ rfl
        have vf3 := free_of_blk n3 3
        have p4 := cells_of_blk n1 4 _ rfl
        have v4 := cells_of_blk n3 4 _ rfl
        have vf4 := free_of_blk n3 4
        have pf := free_of_blk n1 0
        obtain ⟨w4, hw4⟩ : ∃ w4, w2.setCell ⟨w.heap.size, 0, none⟩ (.slice A5 (acc.length + 1) c5') = w4 := ⟨_, rfl⟩
        have O3 : Hid (w4.heap[w.heap.size + 2]? = some (.cells #[.slice none 0 0, .slice none 0 0, .slice none 0 0, .slice none 0 0, .int .i64 0] 37 (0, 0))) := by rw [← hw4]; exact set_oth n3 0 _ (by omega)
        have hlt0 : w.heap.size < w0.heap.size := (Array.getElem?_eq_some_iff.1 K1.out).1
        have G4 : Hid (RowOwn w4 w0.heap.size 39 (.slice A5 (acc.length + 1) c5') 4 (acc ++ [[x0, x1, x2, x3]])) := by rw [← hw4]; exact RowOwn.setBelow (a := ⟨_, _, _⟩) hO2.out hlt0 _
        have HB4 : Hid (Below w.heap.size w w4) := by rw [← hw4]; exact Below.setCell (p := ⟨_, _, _⟩) (HB0.out.trans (hB2.out.mono HB0.out.size)) (Nat.le_refl _) _
        replace hw4 := Lib.hid hw4
        clear n1 n3
        have t0 := cells_of_blk O3.out 0 _ rfl
        have t1 := cells_of_blk O3.out 1 _ rfl
        have t2 := cells_of_blk O3.out 2 _ rfl
        have t3 := cells_of_blk O3.out 3 _ rfl
        have t4 := cells_of_blk O3.out 4 _ rfl
        have tf0 := free_of_blk O3.out 0
        have tf1 := free_of_blk O3.out 1
        have tf2 := free_of_blk O3.out 2
        have tf3 := free_of_blk O3.out 3
        have tf4 := free_of_blk O3.out 4
        go_wp2_with fail
        rw [hw4.out]
        refine bodyPost_ret (v := .agg #[.slice A5 (acc.length + 1) c5', .slice As b.s.length cs, .slice Ao b.o.length co, .slice Ar b.r.length cr, .int .i64 b.n]) ?_ rfl ⟨_, rfl, ?_, ?_⟩
        · simp [results, Try.results23, go_sem, t0, t1, t2, t3, t4]
        · have hl2 : w.heap.size ≤ w.heap.size + 2 := by omega
          have hl3 : w.heap.size + 2 < w0.heap.size := (Array.getElem?_eq_some_iff.1 K3.out).1
          have HF := set5_belowR HB4.out hl2 (.slice A5 (acc.length + 1) c5') (.slice As b.s.length cs) (.slice Ao b.o.length co) (.slice Ar b.r.length cr) (.int .i64 b.n)
          have GF := G4.out.set5R hl3 (.slice A5 (acc.length + 1) c5') (.slice As b.s.length cs) (.slice Ao b.o.length co) (.slice Ar b.r.length cr) (.int .i64 b.n)
          obtain ⟨_, _, _, _, hh, g1, g2, g3, g4⟩ := HBK.out.call HF
          injection hh with hh
          simp only [Array.mk.injEq, List.cons.injEq] at hh
          obtain ⟨rfl, rfl, rfl, rfl, _⟩ := hh
          have GF2 := GF.row
          rw [show acc ++ [[x0, x1, x2, x3]] = _ from hR2.out] at GF2
          exact ⟨_, _, _, _, rfl, GF2, g2, g3, g4⟩
        · have hl2 : w.heap.size ≤ w.heap.size + 2 := by omega
          exact set5_belowR HB4.out hl2 (.slice A5 (acc.length + 1) c5') (.slice As b.s.length cs) (.slice Ao b.o.length co) (.slice Ar b.r.length cr) (.int .i64 b.n)

set_option maxRecDepth 100000 in
set_option maxHeartbeats 8000000 in
theorem rSetRate_any (v : Value) (b : Bk) (x0 x1 : Int) (w : World) (hb : Hid (BkAt w v b)) (hl : b.r.length ≤ 1000000) :
    Calls Try.prog 26 #[v, .agg #[.int .i64 x0, .int .i64 x1]] w fun e w' => ∃ v', e = .returned v' ∧ BkAt w' v' { b with r := setH x0 [x0, x1] false b.r } ∧ Below w.heap.size w w' := by
  obtain ⟨vh, vs, vo, vr, rfl, h1, h2, h3, h4⟩ := hb.out
  obtain ⟨Ah, ch, rfl, _⟩ := h1.rec'
  obtain ⟨As, cs, rfl, _⟩ := h2.rec'
  obtain ⟨Ao, co, rfl, _⟩ := h3.rec'
  obtain ⟨Ar, cr, rfl, _⟩ := h4.rec'
  obtain ⟨w0, hw0⟩ : ∃ w0, ((w.alloc (.cells #[.slice Ah b.h.length ch, .slice As b.s.length cs, .slice Ao b.o.length co, .slice Ar b.r.length cr, .int .i64 b.n] 37)).alloc (.cells #[.int .i64 x0, .int .i64 x1] 45)).alloc (.cells #[.slice none 0 0, .slice none 0 0, .slice none 0 0, .slice none 0 0, .int .i64 0] 37) = w0 := ⟨_, rfl⟩
  have HB0 : Hid (Below w.heap.size w w0) := by rw [← hw0]; exact below_alloc (below_alloc (below_alloc (Below.refl _ _) (Nat.le_refl _) _) (by simp) _) (by first | (simp; done) | (simp; omega)) _
  have K1 : Hid (w0.heap[w.heap.size]? = some (.cells #[.slice Ah b.h.length ch, .slice As b.s.length cs, .slice Ao b.o.length co, .slice Ar b.r.length cr, .int .i64 b.n] 37 (0, 0))) := by rw [← hw0]; exact blk_old (blk_old (heap_new _ _) _) _
  have K2 : Hid (w0.heap[w.heap.size + 1]? = some (.cells #[.int .i64 x0, .int .i64 x1] 45 (0, 0))) := by rw [← hw0]; exact blk_old (blk_new _ _ _ (by simp)) _
  have K3 : Hid (w0.heap[w.heap.size + 2]? = some (.cells #[.slice none 0 0, .slice none 0 0, .slice none 0 0, .slice none 0 0, .int .i64 0] 37 (0, 0))) := by rw [← hw0]; exact blk_new _ _ _ (by simp)
  obtain ⟨A', c', hA', hi⟩ := (h4.call HB0.out).rec'
  injection hA' with hA1 _ hA3
  subst hA1 hA3
  have HI := Lib.hid hi
  have HBK : Hid (BkAt w (.agg #[.slice Ah b.h.length ch, .slice As b.s.length cs, .slice Ao b.o.length co, .slice Ar b.r.length cr, .int .i64 b.n]) b) := hb
  replace hw0 := Lib.hid hw0
  clear hb h1 h2 h3 h4 hi
  have x0c := cells_of_blk K2.out 0 _ rfl
  have x1c := cells_of_blk K2.out 1 _ rfl
  rw [← hw0.out] at x0c x1c
  go_enter Try.func26, Try.ntmps26
  go_wp2_with fail
  rw [hw0.out]
  clear x0c x1c
  go_loopw [5, 6, 7] (fun s5 s6 s7 wr => ∃ (i : Nat) (acc : List (List Int)) (done : Bool), s7 = .int .i64 i ∧ s6 = .bool done ∧ Hid (RowOwn wr w0.heap.size 45 s5 2 acc) ∧ Hid (i ≤ b.r.length) ∧ Hid (acc.length ≤ 2 * i) ∧ Hid (acc ++ setK (fun r => !decide (r.headD 0 < x0)) (fun r => !isId x0 r) [x0, x1] done (b.r.drop i) = setH x0 [x0, x1] false b.r) ∧ Hid (Below w0.heap.size w0 wr)) (fun _ _ s7 _ => b.r.length - (intOf s7).toNat)
  case atStart => exact ⟨0, [], _, rfl, rfl, ⟨World.ownsRow_nil _ _ _ _, fun r hr => by simp at hr⟩, Nat.zero_le _, Nat.zero_le _, rfl, Below.refl _ _⟩
  case round =>
    obtain ⟨i, acc, done, rfl, rfl, HO, hil, hal, hrest, hBr⟩ := hrel
    replace hil := hil.out
    have cb := (hBr.out.cell (p := ⟨w.heap.size, 3, none⟩) (Array.getElem?_eq_some_iff.1 K1.out).1).trans (cells_of_blk K1.out 3 _ rfl)
    have q0 := (hBr.out.cell (p := ⟨w.heap.size + 1, 0, none⟩) (Array.getElem?_eq_some_iff.1 K2.out).1).trans (cells_of_blk K2.out 0 _ rfl)
    have q1 := (hBr.out.cell (p := ⟨w.heap.size + 1, 1, none⟩) (Array.getElem?_eq_some_iff.1 K2.out).1).trans (cells_of_blk K2.out 1 _ rfl)
    by_cases hin : i < b.r.length
    · have tn : decide ((i : Int) < (b.r.length : Int)) = true := decide_eq_true (by omega)
      have hge : b.r[i]? = some b.r[i] := List.getElem?_eq_getElem hin
      obtain ⟨hk, b0, o0, hA0, hbl, hc⟩ := HI.out i _ hge
      subst hA0
      have HGE := Lib.hid hge
      have HCC := Lib.hid hc
      have HS := Lib.hid (setK_step (ge := (fun r => !decide (r.headD 0 < x0))) (ne := (fun r => !isId x0 r)) (x := [x0, x1]) (d := done) hge)
      clear hge hc
      generalize b.r[i] = r at *
      obtain ⟨y0, y1, rfl⟩ : ∃ y0 y1, r = [y0, y1] := by
        match r, hk with
        | [y0, y1], _ => exact ⟨y0, y1, rfl⟩
      clear hk cb q0 q1
      cases done with
      | true =>
        by_cases hlt : y0 < x0
        · have tg : decide (x0 ≤ y0) = false := decide_eq_false (by omega)
          have tg' : ¬ x0 ≤ y0 := by omega
          have tne : (y0 != x0) = true := by simp; omega
          have eg : (!decide (([y0, y1] : List Int).headD 0 < x0)) = false := by simp; omega
          have en : (!isId x0 ([y0, y1] : List Int)) = true := by simp [isId]; try omega
          have hR2 : Hid ((acc ++ [[y0, y1]]) ++ setK (fun r => !decide (r.headD 0 < x0)) (fun r => !isId x0 r) [x0, x1] true (b.r.drop (i + 1)) = setH x0 [x0, x1] false b.r) := (by
            have h := hrest.out
            rw [HS.out, eg, en] at h
            show _ = _
            simpa using h)
          have hal2 : Hid ((acc ++ [[y0, y1]]).length ≤ 2 * (i + 1)) := (by have := hal.out; show _ ≤ _; first | omega | (simp; omega))
          clear eg en
          have cb := (hBr.out.cell (p := ⟨w.heap.size, 3, none⟩) (Array.getElem?_eq_some_iff.1 K1.out).1).trans (cells_of_blk K1.out 3 _ rfl)
          have q0 := (hBr.out.cell (p := ⟨w.heap.size + 1, 0, none⟩) (Array.getElem?_eq_some_iff.1 K2.out).1).trans (cells_of_blk K2.out 0 _ rfl)
          have q1 := (hBr.out.cell (p := ⟨w.heap.size + 1, 1, none⟩) (Array.getElem?_eq_some_iff.1 K2.out).1).trans (cells_of_blk K2.out 1 _ rfl)
          have c0 : wr.cell? ⟨b0, o0 + i * 2, none⟩ = some (.int .i64 y0) := (hBr.out.cell (p := ⟨b0, o0 + i * 2 + 0, none⟩) hbl).trans (HCC.out 0 _ rfl)
          have c1 : wr.cell? ⟨b0, o0 + i * 2 + 1, none⟩ = some (.int .i64 y1) := (hBr.out.cell (p := ⟨b0, o0 + i * 2 + 1, none⟩) hbl).trans (HCC.out 1 _ rfl)
          go_wp2_with fail
          go_quiet (fail)
          have HBq := Lib.hid (below_drewN hBr.out nq)
          have HOq := Lib.hid (HO.out.kept (below_drewN (Below.refl _ _) nq))
          have hSq : w0.heap.size ≤ (wr.drewN nq).heap.size := hBr.out.size
          generalize wr.drewN nq = wq at *
          clear cb q0 c0 q1 c1
          have cb := (HBq.out.cell (p := ⟨w.heap.size, 3, none⟩) (Array.getElem?_eq_some_iff.1 K1.out).1).trans (cells_of_blk K1.out 3 _ rfl)
          have q0 := (HBq.out.cell (p := ⟨w.heap.size + 1, 0, none⟩) (Array.getElem?_eq_some_iff.1 K2.out).1).trans (cells_of_blk K2.out 0 _ rfl)
          have q1 := (HBq.out.cell (p := ⟨w.heap.size + 1, 1, none⟩) (Array.getElem?_eq_some_iff.1 K2.out).1).trans (cells_of_blk K2.out 1 _ rfl)
          have c0 : wq.cell? ⟨b0, o0 + i * 2, none⟩ = some (.int .i64 y0) := (HBq.out.cell (p := ⟨b0, o0 + i * 2 + 0, none⟩) hbl).trans (HCC.out 0 _ rfl)
          have c1 : wq.cell? ⟨b0, o0 + i * 2 + 1, none⟩ = some (.int .i64 y1) := (HBq.out.cell (p := ⟨b0, o0 + i * 2 + 1, none⟩) hbl).trans (HCC.out 1 _ rfl)
          go_wp2_with fail
          go_quiet (fail)
          have HBp := Lib.hid (below_drewN HBq.out nq)
          have HOp := Lib.hid (HOq.out.kept (below_drewN (Below.refl _ _) nq))
          have hSp : w0.heap.size ≤ (wq.drewN nq).heap.size := HBq.out.size
          generalize wq.drewN nq = wp at *
          clear cb q0 c0 q1 c1
          have cb := (HBp.out.cell (p := ⟨w.heap.size, 3, none⟩) (Array.getElem?_eq_some_iff.1 K1.out).1).trans (cells_of_blk K1.out 3 _ rfl)
          have q0 := (HBp.out.cell (p := ⟨w.heap.size + 1, 0, none⟩) (Array.getElem?_eq_some_iff.1 K2.out).1).trans (cells_of_blk K2.out 0 _ rfl)
          have q1 := (HBp.out.cell (p := ⟨w.heap.size + 1, 1, none⟩) (Array.getElem?_eq_some_iff.1 K2.out).1).trans (cells_of_blk K2.out 1 _ rfl)
          have c0 : wp.cell? ⟨b0, o0 + i * 2, none⟩ = some (.int .i64 y0) := (HBp.out.cell (p := ⟨b0, o0 + i * 2 + 0, none⟩) hbl).trans (HCC.out 0 _ rfl)
          have c1 : wp.cell? ⟨b0, o0 + i * 2 + 1, none⟩ = some (.int .i64 y1) := (HBp.out.cell (p := ⟨b0, o0 + i * 2 + 1, none⟩) hbl).trans (HCC.out 1 _ rfl)
          go_wp2_with (at_builtin; refine wpList_append_rec (W := w0) _ _ 35 45 (.agg #[.int .i64 0, .int .i64 0]) 2 16 el_Rate [y0, y1] _ (acc) HBp.out HOp hSp rfl rfl rfl rfl rfl (by have := hal.out; first | omega | (simp; omega)) (by decide) ?_)
          intro v3 w3 hO3 hB3 hS3
          clear cb q0 c0 q1 c1
          go_wp2_with fail
          go_roundw
          case rel => exact ⟨i + 1, _, true, by go_num, rfl, hO3.out, by show _ ≤ _; omega, hal2.out, hR2.out, hB3.out⟩
          case measure => simp [intOf]; omega
        · have tg : decide (x0 ≤ y0) = true := decide_eq_true (by omega)
          have tg' : x0 ≤ y0 := by omega
          by_cases heq : y0 = x0
          · have tne : (y0 != x0) = false := by simp [heq]
            have eg : (!decide (([y0, y1] : List Int).headD 0 < x0)) = true := by simp; omega
            have en : (!isId x0 ([y0, y1] : List Int)) = false := by simp [isId]; try omega
            have hR2 : Hid ((acc) ++ setK (fun r => !decide (r.headD 0 < x0)) (fun r => !isId x0 r) [x0, x1] true (b.r.drop (i + 1)) = setH x0 [x0, x1] false b.r) := (by
              have h := hrest.out
              rw [HS.out, eg, en] at h
              show _ = _
              simpa using h)
            have hal2 : Hid ((acc).length ≤ 2 * (i + 1)) := (by have := hal.out; show _ ≤ _; first | omega | (simp; omega))
            clear eg en
            have cb := (hBr.out.cell (p := ⟨w.heap.size, 3, none⟩) (Array.getElem?_eq_some_iff.1 K1.out).1).trans (cells_of_blk K1.out 3 _ rfl)
            have q0 := (hBr.out.cell (p := ⟨w.heap.size + 1, 0, none⟩) (Array.getElem?_eq_some_iff.1 K2.out).1).trans (cells_of_blk K2.out 0 _ rfl)
            have q1 := (hBr.out.cell (p := ⟨w.heap.size + 1, 1, none⟩) (Array.getElem?_eq_some_iff.1 K2.out).1).trans (cells_of_blk K2.out 1 _ rfl)
            have c0 : wr.cell? ⟨b0, o0 + i * 2, none⟩ = some (.int .i64 y0) := (hBr.out.cell (p := ⟨b0, o0 + i * 2 + 0, none⟩) hbl).trans (HCC.out 0 _ rfl)
            have c1 : wr.cell? ⟨b0, o0 + i * 2 + 1, none⟩ = some (.int .i64 y1) := (hBr.out.cell (p := ⟨b0, o0 + i * 2 + 1, none⟩) hbl).trans (HCC.out 1 _ rfl)
            go_wp2_with fail
            go_quiet (fail)
            have HBq := Lib.hid (below_drewN hBr.out nq)
            have HOq := Lib.hid (HO.out.kept (below_drewN (Below.refl _ _) nq))
            have hSq : w0.heap.size ≤ (wr.drewN nq).heap.size := hBr.out.size
            generalize wr.drewN nq = wq at *
            clear cb q0 c0 q1 c1
            have cb := (HBq.out.cell (p := ⟨w.heap.size, 3, none⟩) (Array.getElem?_eq_some_iff.1 K1.out).1).trans (cells_of_blk K1.out 3 _ rfl)
            have q0 := (HBq.out.cell (p := ⟨w.heap.size + 1, 0, none⟩) (Array.getElem?_eq_some_iff.1 K2.out).1).trans (cells_of_blk K2.out 0 _ rfl)
            have q1 := (HBq.out.cell (p := ⟨w.heap.size + 1, 1, none⟩) (Array.getElem?_eq_some_iff.1 K2.out).1).trans (cells_of_blk K2.out 1 _ rfl)
            have c0 : wq.cell? ⟨b0, o0 + i * 2, none⟩ = some (.int .i64 y0) := (HBq.out.cell (p := ⟨b0, o0 + i * 2 + 0, none⟩) hbl).trans (HCC.out 0 _ rfl)
            have c1 : wq.cell? ⟨b0, o0 + i * 2 + 1, none⟩ = some (.int .i64 y1) := (HBq.out.cell (p := ⟨b0, o0 + i * 2 + 1, none⟩) hbl).trans (HCC.out 1 _ rfl)
            go_wp2_with fail
            go_quiet (fail)
            have HBp := Lib.hid (below_drewN HBq.out nq)
            have HOp := Lib.hid (HOq.out.kept (below_drewN (Below.refl _ _) nq))
            have hSp : w0.heap.size ≤ (wq.drewN nq).heap.size := HBq.out.size
            generalize wq.drewN nq = wp at *
            clear cb q0 c0 q1 c1
            have cb := (HBp.out.cell (p := ⟨w.heap.size, 3, none⟩) (Array.getElem?_eq_some_iff.1 K1.out).1).trans (cells_of_blk K1.out 3 _ rfl)
            have q0 := (HBp.out.cell (p := ⟨w.heap.size + 1, 0, none⟩) (Array.getElem?_eq_some_iff.1 K2.out).1).trans (cells_of_blk K2.out 0 _ rfl)
            have q1 := (HBp.out.cell (p := ⟨w.heap.size + 1, 1, none⟩) (Array.getElem?_eq_some_iff.1 K2.out).1).trans (cells_of_blk K2.out 1 _ rfl)
            have c0 : wp.cell? ⟨b0, o0 + i * 2, none⟩ = some (.int .i64 y0) := (HBp.out.cell (p := ⟨b0, o0 + i * 2 + 0, none⟩) hbl).trans (HCC.out 0 _ rfl)
            have c1 : wp.cell? ⟨b0, o0 + i * 2 + 1, none⟩ = some (.int .i64 y1) := (HBp.out.cell (p := ⟨b0, o0 + i * 2 + 1, none⟩) hbl).trans (HCC.out 1 _ rfl)
            go_wp2_with fail
            go_roundw
            case rel => exact ⟨i + 1, _, true, by go_num, rfl, HOp.out, by show _ ≤ _; omega, hal2.out, hR2.out, HBp.out⟩
            case measure => simp [intOf]; omega
          · have tne : (y0 != x0) = true := by simp [heq]
            have eg : (!decide (([y0, y1] : List Int).headD 0 < x0)) = true := by simp; omega
            have en : (!isId x0 ([y0, y1] : List Int)) = true := by simp [isId]; try omega
            have hR2 : Hid ((acc ++ [[y0, y1]]) ++ setK (fun r => !decide (r.headD 0 < x0)) (fun r => !isId x0 r) [x0, x1] true (b.r.drop (i + 1)) = setH x0 [x0, x1] false b.r) := (by
              have h := hrest.out
              rw [HS.out, eg, en] at h
              show _ = _
              simpa using h)
            have hal2 : Hid ((acc ++ [[y0, y1]]).length ≤ 2 * (i + 1)) := (by have := hal.out; show _ ≤ _; first | omega | (simp; omega))
            clear eg en
            have cb := (hBr.out.cell (p := ⟨w.heap.size, 3, none⟩) (Array.getElem?_eq_some_iff.1 K1.out).1).trans (cells_of_blk K1.out 3 _ rfl)
            have q0 := (hBr.out.cell (p := ⟨w.heap.size + 1, 0, none⟩) (Array.getElem?_eq_some_iff.1 K2.out).1).trans (cells_of_blk K2.out 0 _ rfl)
            have q1 := (hBr.out.cell (p := ⟨w.heap.size + 1, 1, none⟩) (Array.getElem?_eq_some_iff.1 K2.out).1).trans (cells_of_blk K2.out 1 _ rfl)
            have c0 : wr.cell? ⟨b0, o0 + i * 2, none⟩ = some (.int .i64 y0) := (hBr.out.cell (p := ⟨b0, o0 + i * 2 + 0, none⟩) hbl).trans (HCC.out 0 _ rfl)
            have c1 : wr.cell? ⟨b0, o0 + i * 2 + 1, none⟩ = some (.int .i64 y1) := (hBr.out.cell (p := ⟨b0, o0 + i * 2 + 1, none⟩) hbl).trans (HCC.out 1 _ rfl)
            go_wp2_with fail
            go_quiet (fail)
            have HBq := Lib.hid (below_drewN hBr.out nq)
            have HOq := Lib.hid (HO.out.kept (below_drewN (Below.refl _ _) nq))
            have hSq : w0.heap.size ≤ (wr.drewN nq).heap.size := hBr.out.size
            generalize wr.drewN nq = wq at *
            clear cb q0 c0 q1 c1
            have cb := (HBq.out.cell (p := ⟨w.heap.size, 3, none⟩) (Array.getElem?_eq_some_iff.1 K1.out).1).trans (cells_of_blk K1.out 3 _ rfl)
            have q0 := (HBq.out.cell (p := ⟨w.heap.size + 1, 0, none⟩) (Array.getElem?_eq_some_iff.1 K2.out).1).trans (cells_of_blk K2.out 0 _ rfl)
            have q1 := (HBq.out.cell (p := ⟨w.heap.size + 1, 1, none⟩) (Array.getElem?_eq_some_iff.1 K2.out).1).trans (cells_of_blk K2.out 1 _ rfl)
            have c0 : wq.cell? ⟨b0, o0 + i * 2, none⟩ = some (.int .i64 y0) := (HBq.out.cell (p := ⟨b0, o0 + i * 2 + 0, none⟩) hbl).trans (HCC.out 0 _ rfl)
            have c1 : wq.cell? ⟨b0, o0 + i * 2 + 1, none⟩ = some (.int .i64 y1) := (HBq.out.cell (p := ⟨b0, o0 + i * 2 + 1, none⟩) hbl).trans (HCC.out 1 _ rfl)
            go_wp2_with fail
            go_quiet (fail)
            have HBp := Lib.hid (below_drewN HBq.out nq)
            have HOp := Lib.hid (HOq.out.kept (below_drewN (Below.refl _ _) nq))
            have hSp : w0.heap.size ≤ (wq.drewN nq).heap.size := HBq.out.size
            generalize wq.drewN nq = wp at *
            clear cb q0 c0 q1 c1
            have cb := (HBp.out.cell (p := ⟨w.heap.size, 3, none⟩) (Array.getElem?_eq_some_iff.1 K1.out).1).trans (cells_of_blk K1.out 3 _ rfl)
            have q0 := (HBp.out.cell (p := ⟨w.heap.size + 1, 0, none⟩) (Array.getElem?_eq_some_iff.1 K2.out).1).trans (cells_of_blk K2.out 0 _ rfl)
            have q1 := (HBp.out.cell (p := ⟨w.heap.size + 1, 1, none⟩) (Array.getElem?_eq_some_iff.1 K2.out).1).trans (cells_of_blk K2.out 1 _ rfl)
            have c0 : wp.cell? ⟨b0, o0 + i * 2, none⟩ = some (.int .i64 y0) := (HBp.out.cell (p := ⟨b0, o0 + i * 2 + 0, none⟩) hbl).trans (HCC.out 0 _ rfl)
            have c1 : wp.cell? ⟨b0, o0 + i * 2 + 1, none⟩ = some (.int .i64 y1) := (HBp.out.cell (p := ⟨b0, o0 + i * 2 + 1, none⟩) hbl).trans (HCC.out 1 _ rfl)
            go_wp2_with (at_builtin; refine wpList_append_rec (W := w0) _ _ 35 45 (.agg #[.int .i64 0, .int .i64 0]) 2 16 el_Rate [y0, y1] _ (acc) HBp.out HOp hSp rfl rfl rfl rfl rfl (by have := hal.out; first | omega | (simp; omega)) (by decide) ?_)
            intro v3 w3 hO3 hB3 hS3
            clear cb q0 c0 q1 c1
            go_wp2_with fail
            go_roundw
            case rel => exact ⟨i + 1, _, true, by go_num, rfl, hO3.out, by show _ ≤ _; omega, hal2.out, hR2.out, hB3.out⟩
            case measure => simp [intOf]; omega
      | false =>
        by_cases hlt : y0 < x0
        · have tg : decide (x0 ≤ y0) = false := decide_eq_false (by omega)
          have tg' : ¬ x0 ≤ y0 := by omega
          have tne : (y0 != x0) = true := by simp; omega
          have eg : (!decide (([y0, y1] : List Int).headD 0 < x0)) = false := by simp; omega
          have en : (!isId x0 ([y0, y1] : List Int)) = true := by simp [isId]; try omega
          have hR2 : Hid ((acc ++ [[y0, y1]]) ++ setK (fun r => !decide (r.headD 0 < x0)) (fun r => !isId x0 r) [x0, x1] false (b.r.drop (i + 1)) = setH x0 [x0, x1] false b.r) := (by
            have h := hrest.out
            rw [HS.out, eg, en] at h
            show _ = _
            simpa using h)
          have hal2 : Hid ((acc ++ [[y0, y1]]).length ≤ 2 * (i + 1)) := (by have := hal.out; show _ ≤ _; first | omega | (simp; omega))
          clear eg en
          have cb := (hBr.out.cell (p := ⟨w.heap.size, 3, none⟩) (Array.getElem?_eq_some_iff.1 K1.out).1).trans (cells_of_blk K1.out 3 _ rfl)
          have q0 := (hBr.out.cell (p := ⟨w.heap.size + 1, 0, none⟩) (Array.getElem?_eq_some_iff.1 K2.out).1).trans (cells_of_blk K2.out 0 _ rfl)
          have q1 := (hBr.out.cell (p := ⟨w.heap.size + 1, 1, none⟩) (Array.getElem?_eq_some_iff.1 K2.out).1).trans (cells_of_blk K2.out 1 _ rfl)
          have c0 : wr.cell? ⟨b0, o0 + i * 2, none⟩ = some (.int .i64 y0) := (hBr.out.cell (p := ⟨b0, o0 + i * 2 + 0, none⟩) hbl).trans (HCC.out 0 _ rfl)
          have c1 : wr.cell? ⟨b0, o0 + i * 2 + 1, none⟩ = some (.int .i64 y1) := (hBr.out.cell (p := ⟨b0, o0 + i * 2 + 1, none⟩) hbl).trans (HCC.out 1 _ rfl)
          go_wp2_with fail
          go_quiet (fail)
          have HBq := Lib.hid (below_drewN hBr.out nq)
          have HOq := Lib.hid (HO.out.kept (below_drewN (Below.refl _ _) nq))
          have hSq : w0.heap.size ≤ (wr.drewN nq).heap.size := hBr.out.size
          generalize wr.drewN nq = wq at *
          clear cb q0 c0 q1 c1
          have cb := (HBq.out.cell (p := ⟨w.heap.size, 3, none⟩) (Array.getElem?_eq_some_iff.1 K1.out).1).trans (cells_of_blk K1.out 3 _ rfl)
          have q0 := (HBq.out.cell (p := ⟨w.heap.size + 1, 0, none⟩) (Array.getElem?_eq_some_iff.1 K2.out).1).trans (cells_of_blk K2.out 0 _ rfl)
          have q1 := (HBq.out.cell (p := ⟨w.heap.size + 1, 1, none⟩) (Array.getElem?_eq_some_iff.1 K2.out).1).trans (cells_of_blk K2.out 1 _ rfl)
          have c0 : wq.cell? ⟨b0, o0 + i * 2, none⟩ = some (.int .i64 y0) := (HBq.out.cell (p := ⟨b0, o0 + i * 2 + 0, none⟩) hbl).trans (HCC.out 0 _ rfl)
          have c1 : wq.cell? ⟨b0, o0 + i * 2 + 1, none⟩ = some (.int .i64 y1) := (HBq.out.cell (p := ⟨b0, o0 + i * 2 + 1, none⟩) hbl).trans (HCC.out 1 _ rfl)
          go_wp2_with fail
          go_quiet (fail)
          have HBp := Lib.hid (below_drewN HBq.out nq)
          have HOp := Lib.hid (HOq.out.kept (below_drewN (Below.refl _ _) nq))
          have hSp : w0.heap.size ≤ (wq.drewN nq).heap.size := HBq.out.size
          generalize wq.drewN nq = wp at *
          clear cb q0 c0 q1 c1
          have cb := (HBp.out.cell (p := ⟨w.heap.size, 3, none⟩) (Array.getElem?_eq_some_iff.1 K1.out).1).trans (cells_of_blk K1.out 3 _ rfl)
          have q0 := (HBp.out.cell (p := ⟨w.heap.size + 1, 0, none⟩) (Array.getElem?_eq_some_iff.1 K2.out).1).trans (cells_of_blk K2.out 0 _ rfl)
          have q1 := (HBp.out.cell (p := ⟨w.heap.size + 1, 1, none⟩) (Array.getElem?_eq_some_iff.1 K2.out).1).trans (cells_of_blk K2.out 1 _ rfl)
          have c0 : wp.cell? ⟨b0, o0 + i * 2, none⟩ = some (.int .i64 y0) := (HBp.out.cell (p := ⟨b0, o0 + i * 2 + 0, none⟩) hbl).trans (HCC.out 0 _ rfl)
          have c1 : wp.cell? ⟨b0, o0 + i * 2 + 1, none⟩ = some (.int .i64 y1) := (HBp.out.cell (p := ⟨b0, o0 + i * 2 + 1, none⟩) hbl).trans (HCC.out 1 _ rfl)
          go_wp2_with (at_builtin; refine wpList_append_rec (W := w0) _ _ 35 45 (.agg #[.int .i64 0, .int .i64 0]) 2 16 el_Rate [y0, y1] _ (acc) HBp.out HOp hSp rfl rfl rfl rfl rfl (by have := hal.out; first | omega | (simp; omega)) (by decide) ?_)
          intro v3 w3 hO3 hB3 hS3
          clear cb q0 c0 q1 c1
          go_wp2_with fail
          go_roundw
          case rel => exact ⟨i + 1, _, false, by go_num, rfl, hO3.out, by show _ ≤ _; omega, hal2.out, hR2.out, hB3.out⟩
          case measure => simp [intOf]; omega
        · have tg : decide (x0 ≤ y0) = true := decide_eq_true (by omega)
          have tg' : x0 ≤ y0 := by omega
          by_cases heq : y0 = x0
          · have tne : (y0 != x0) = false := by simp [heq]
            have eg : (!decide (([y0, y1] : List Int).headD 0 < x0)) = true := by simp; omega
            have en : (!isId x0 ([y0, y1] : List Int)) = false := by simp [isId]; try omega
            have hR2 : Hid (((acc ++ [[x0, x1]])) ++ setK (fun r => !decide (r.headD 0 < x0)) (fun r => !isId x0 r) [x0, x1] true (b.r.drop (i + 1)) = setH x0 [x0, x1] false b.r) := (by
              have h := hrest.out
              rw [HS.out, eg, en] at h
              show _ = _
              simpa using h)
            have hal2 : Hid (((acc ++ [[x0, x1]])).length ≤ 2 * (i + 1)) := (by have := hal.out; show _ ≤ _; first | omega | (simp; omega))
            clear eg en
            have cb := (hBr.out.cell (p := ⟨w.heap.size, 3, none⟩) (Array.getElem?_eq_some_iff.1 K1.out).1).trans (cells_of_blk K1.out 3 _ rfl)
            have q0 := (hBr.out.cell (p := ⟨w.heap.size + 1, 0, none⟩) (Array.getElem?_eq_some_iff.1 K2.out).1).trans (cells_of_blk K2.out 0 _ rfl)
            have q1 := (hBr.out.cell (p := ⟨w.heap.size + 1, 1, none⟩) (Array.getElem?_eq_some_iff.1 K2.out).1).trans (cells_of_blk K2.out 1 _ rfl)
            have c0 : wr.cell? ⟨b0, o0 + i * 2, none⟩ = some (.int .i64 y0) := (hBr.out.cell (p := ⟨b0, o0 + i * 2 + 0, none⟩) hbl).trans (HCC.out 0 _ rfl)
            have c1 : wr.cell? ⟨b0, o0 + i * 2 + 1, none⟩ = some (.int .i64 y1) := (hBr.out.cell (p := ⟨b0, o0 + i * 2 + 1, none⟩) hbl).trans (HCC.out 1 _ rfl)
            go_wp2_with fail
            go_quiet (fail)
            have HBq := Lib.hid (below_drewN hBr.out nq)
            have HOq := Lib.hid (HO.out.kept (below_drewN (Below.refl _ _) nq))
            have hSq : w0.heap.size ≤ (wr.drewN nq).heap.size := hBr.out.size
            generalize wr.drewN nq = wq at *
            clear cb q0 c0 q1 c1
            have cb := (HBq.out.cell (p := ⟨w.heap.size, 3, none⟩) (Array.getElem?_eq_some_iff.1 K1.out).1).trans (cells_of_blk K1.out 3 _ rfl)
            have q0 := (HBq.out.cell (p := ⟨w.heap.size + 1, 0, none⟩) (Array.getElem?_eq_some_iff.1 K2.out).1).trans (cells_of_blk K2.out 0 _ rfl)
            have q1 := (HBq.out.cell (p := ⟨w.heap.size + 1, 1, none⟩) (Array.getElem?_eq_some_iff.1 K2.out).1).trans (cells_of_blk K2.out 1 _ rfl)
            have c0 : wq.cell? ⟨b0, o0 + i * 2, none⟩ = some (.int .i64 y0) := (HBq.out.cell (p := ⟨b0, o0 + i * 2 + 0, none⟩) hbl).trans (HCC.out 0 _ rfl)
            have c1 : wq.cell? ⟨b0, o0 + i * 2 + 1, none⟩ = some (.int .i64 y1) := (HBq.out.cell (p := ⟨b0, o0 + i * 2 + 1, none⟩) hbl).trans (HCC.out 1 _ rfl)
            go_wp2_with (at_builtin; refine wpList_append_rec (W := w0) _ _ 35 45 (.agg #[.int .i64 0, .int .i64 0]) 2 16 el_Rate [x0, x1] _ acc HBq.out HOq hSq rfl rfl rfl rfl rfl (by have := hal.out; omega) (by decide) ?_)
            intro v2 w2 hO2 hB2 hS2
            clear cb q0 c0 q1 c1
            have cb := (hB2.out.cell (p := ⟨w.heap.size, 3, none⟩) (Array.getElem?_eq_some_iff.1 K1.out).1).trans (cells_of_blk K1.out 3 _ rfl)
            have q0 := (hB2.out.cell (p := ⟨w.heap.size + 1, 0, none⟩) (Array.getElem?_eq_some_iff.1 K2.out).1).trans (cells_of_blk K2.out 0 _ rfl)
            have q1 := (hB2.out.cell (p := ⟨w.heap.size + 1, 1, none⟩) (Array.getElem?_eq_some_iff.1 K2.out).1).trans (cells_of_blk K2.out 1 _ rfl)
            have c0 : w2.cell? ⟨b0, o0 + i * 2, none⟩ = some (.int .i64 y0) := (hB2.out.cell (p := ⟨b0, o0 + i * 2 + 0, none⟩) hbl).trans (HCC.out 0 _ rfl)
            have c1 : w2.cell? ⟨b0, o0 + i * 2 + 1, none⟩ = some (.int .i64 y1) := (hB2.out.cell (p := ⟨b0, o0 + i * 2 + 1, none⟩) hbl).trans (HCC.out 1 _ rfl)
            go_wp2_with fail
            go_quiet (fail)
            have HBp := Lib.hid (below_drewN hB2.out nq)
            have HOp := Lib.hid (hO2.out.kept (below_drewN (Below.refl _ _) nq))
            have hSp : w0.heap.size ≤ (w2.drewN nq).heap.size := hB2.out.size
            generalize w2.drewN nq = wp at *
            clear cb q0 c0 q1 c1
            have cb := (HBp.out.cell (p := ⟨w.heap.size, 3, none⟩) (Array.getElem?_eq_some_iff.1 K1.out).1).trans (cells_of_blk K1.out 3 _ rfl)
            have q0 := (HBp.out.cell (p := ⟨w.heap.size + 1, 0, none⟩) (Array.getElem?_eq_some_iff.1 K2.out).1).trans (cells_of_blk K2.out 0 _ rfl)
            have q1 := (HBp.out.cell (p := ⟨w.heap.size + 1, 1, none⟩) (Array.getElem?_eq_some_iff.1 K2.out).1).trans (cells_of_blk K2.out 1 _ rfl)
            have c0 : wp.cell? ⟨b0, o0 + i * 2, none⟩ = some (.int .i64 y0) := (HBp.out.cell (p := ⟨b0, o0 + i * 2 + 0, none⟩) hbl).trans (HCC.out 0 _ rfl)
            have c1 : wp.cell? ⟨b0, o0 + i * 2 + 1, none⟩ = some (.int .i64 y1) := (HBp.out.cell (p := ⟨b0, o0 + i * 2 + 1, none⟩) hbl).trans (HCC.out 1 _ rfl)
            go_wp2_with fail
            go_roundw
            case rel => exact ⟨i + 1, _, true, by go_num, rfl, HOp.out, by show _ ≤ _; omega, hal2.out, hR2.out, HBp.out⟩
            case measure => simp [intOf]; omega
          · have tne : (y0 != x0) = true := by simp [heq]
            have eg : (!decide (([y0, y1] : List Int).headD 0 < x0)) = true := by simp; omega
            have en : (!isId x0 ([y0, y1] : List Int)) = true := by simp [isId]; try omega
            have hR2 : Hid ((acc ++ [[x0, x1], [y0, y1]]) ++ setK (fun r => !decide (r.headD 0 < x0)) (fun r => !isId x0 r) [x0, x1] true (b.r.drop (i + 1)) = setH x0 [x0, x1] false b.r) := (by
              have h := hrest.out
              rw [HS.out, eg, en] at h
              show _ = _
              simpa using h)
            have hal2 : Hid ((acc ++ [[x0, x1], [y0, y1]]).length ≤ 2 * (i + 1)) := (by have := hal.out; show _ ≤ _; first | omega | (simp; omega))
            clear eg en
            have cb := (hBr.out.cell (p := ⟨w.heap.size, 3, none⟩) (Array.getElem?_eq_some_iff.1 K1.out).1).trans (cells_of_blk K1.out 3 _ rfl)
            have q0 := (hBr.out.cell (p := ⟨w.heap.size + 1, 0, none⟩) (Array.getElem?_eq_some_iff.1 K2.out).1).trans (cells_of_blk K2.out 0 _ rfl)
            have q1 := (hBr.out.cell (p := ⟨w.heap.size + 1, 1, none⟩) (Array.getElem?_eq_some_iff.1 K2.out).1).trans (cells_of_blk K2.out 1 _ rfl)
            have c0 : wr.cell? ⟨b0, o0 + i * 2, none⟩ = some (.int .i64 y0) := (hBr.out.cell (p := ⟨b0, o0 + i * 2 + 0, none⟩) hbl).trans (HCC.out 0 _ rfl)
            have c1 : wr.cell? ⟨b0, o0 + i * 2 + 1, none⟩ = some (.int .i64 y1) := (hBr.out.cell (p := ⟨b0, o0 + i * 2 + 1, none⟩) hbl).trans (HCC.out 1 _ rfl)
            go_wp2_with fail
            go_quiet (fail)
            have HBq := Lib.hid (below_drewN hBr.out nq)
            have HOq := Lib.hid (HO.out.kept (below_drewN (Below.refl _ _) nq))
            have hSq : w0.heap.size ≤ (wr.drewN nq).heap.size := hBr.out.size
            generalize wr.drewN nq = wq at *
            clear cb q0 c0 q1 c1
            have cb := (HBq.out.cell (p := ⟨w.heap.size, 3, none⟩) (Array.getElem?_eq_some_iff.1 K1.out).1).trans (cells_of_blk K1.out 3 _ rfl)
            have q0 := (HBq.out.cell (p := ⟨w.heap.size + 1, 0, none⟩) (Array.getElem?_eq_some_iff.1 K2.out).1).trans (cells_of_blk K2.out 0 _ rfl)
            have q1 := (HBq.out.cell (p := ⟨w.heap.size + 1, 1, none⟩) (Array.getElem?_eq_some_iff.1 K2.out).1).trans (cells_of_blk K2.out 1 _ rfl)
            have c0 : wq.cell? ⟨b0, o0 + i * 2, none⟩ = some (.int .i64 y0) := (HBq.out.cell (p := ⟨b0, o0 + i * 2 + 0, none⟩) hbl).trans (HCC.out 0 _ rfl)
            have c1 : wq.cell? ⟨b0, o0 + i * 2 + 1, none⟩ = some (.int .i64 y1) := (HBq.out.cell (p := ⟨b0, o0 + i * 2 + 1, none⟩) hbl).trans (HCC.out 1 _ rfl)
            go_wp2_with (at_builtin; refine wpList_append_rec (W := w0) _ _ 35 45 (.agg #[.int .i64 0, .int .i64 0]) 2 16 el_Rate [x0, x1] _ acc HBq.out HOq hSq rfl rfl rfl rfl rfl (by have := hal.out; omega) (by decide) ?_)
            intro v2 w2 hO2 hB2 hS2
            clear cb q0 c0 q1 c1
            have cb := (hB2.out.cell (p := ⟨w.heap.size, 3, none⟩) (Array.getElem?_eq_some_iff.1 K1.out).1).trans (cells_of_blk K1.out 3 _ rfl)
            have q0 := (hB2.out.cell (p := ⟨w.heap.size + 1, 0, none⟩) (Array.getElem?_eq_some_iff.1 K2.out).1).trans (cells_of_blk K2.out 0 _ rfl)
            have q1 := (hB2.out.cell (p := ⟨w.heap.size + 1, 1, none⟩) (Array.getElem?_eq_some_iff.1 K2.out).1).trans (cells_of_blk K2.out 1 _ rfl)
            have c0 : w2.cell? ⟨b0, o0 + i * 2, none⟩ = some (.int .i64 y0) := (hB2.out.cell (p := ⟨b0, o0 + i * 2 + 0, none⟩) hbl).trans (HCC.out 0 _ rfl)
            have c1 : w2.cell? ⟨b0, o0 + i * 2 + 1, none⟩ = some (.int .i64 y1) := (hB2.out.cell (p := ⟨b0, o0 + i * 2 + 1, none⟩) hbl).trans (HCC.out 1 _ rfl)
            go_wp2_with fail
            go_quiet (fail)
            have HBp := Lib.hid (below_drewN hB2.out nq)
            have HOp := Lib.hid (hO2.out.kept (below_drewN (Below.refl _ _) nq))
            have hSp : w0.heap.size ≤ (w2.drewN nq).heap.size := hB2.out.size
            generalize w2.drewN nq = wp at *
            clear cb q0 c0 q1 c1
            have cb := (HBp.out.cell (p := ⟨w.heap.size, 3, none⟩) (Array.getElem?_eq_some_iff.1 K1.out).1).trans (cells_of_blk K1.out 3 _ rfl)
            have q0 := (HBp.out.cell (p := ⟨w.heap.size + 1, 0, none⟩) (Array.getElem?_eq_some_iff.1 K2.out).1).trans (cells_of_blk K2.out 0 _ rfl)
            have q1 := (HBp.out.cell (p := ⟨w.heap.size + 1, 1, none⟩) (Array.getElem?_eq_some_iff.1 K2.out).1).trans (cells_of_blk K2.out 1 _ rfl)
            have c0 : wp.cell? ⟨b0, o0 + i * 2, none⟩ = some (.int .i64 y0) := (HBp.out.cell (p := ⟨b0, o0 + i * 2 + 0, none⟩) hbl).trans (HCC.out 0 _ rfl)
            have c1 : wp.cell? ⟨b0, o0 + i * 2 + 1, none⟩ = some (.int .i64 y1) := (HBp.out.cell (p := ⟨b0, o0 + i * 2 + 1, none⟩) hbl).trans (HCC.out 1 _ rfl)
            go_wp2_with (at_builtin; refine wpList_append_rec (W := w0) _ _ 35 45 (.agg #[.int .i64 0, .int .i64 0]) 2 16 el_Rate [y0, y1] _ (acc ++ [[x0, x1]]) HBp.out HOp hSp rfl rfl rfl rfl rfl (by have := hal.out; first | omega | (simp; omega)) (by decide) ?_)
            intro v3 w3 hO3 hB3 hS3
            clear cb q0 c0 q1 c1
            go_wp2_with fail
            go_roundw
            case rel => exact ⟨i + 1, _, true, by go_num, rfl, hO3.out, by show _ ≤ _; omega, hal2.out, hR2.out, hB3.out⟩
            case measure => simp [intOf]; omega
    · have tn : decide ((i : Int) < (b.r.length : Int)) = false := decide_eq_false (by omega)
      have hR := hrest.out
      rw [List.drop_eq_nil_of_le (by omega)] at hR
      clear cb q0 q1
      have cb := (hBr.out.cell (p := ⟨w.heap.size, 3, none⟩) (Array.getElem?_eq_some_iff.1 K1.out).1).trans (cells_of_blk K1.out 3 _ rfl)
      cases done with
      | true =>
        have hR2 : Hid (acc = setH x0 [x0, x1] false b.r) := (by show _ = _; simpa [setK] using hR)
        clear hR
        obtain ⟨A5, c5', rfl⟩ := HO.out.form
        have n1 := (hBr.out.block _ (Array.getElem?_eq_some_iff.1 K1.out).1).trans K1.out
        have n3 := (hBr.out.block _ (Array.getElem?_eq_some_iff.1 K3.out).1).trans K3.out
        have p0 := cells_of_blk n1 0 _ rfl
        have v0 := cells_of_blk n3 0 _ rfl
        have vf0 := free_of_blk n3 0
        have p1 := cells_of_blk n1 1 _ rfl
        have v1 := cells_of_blk n3 1 _ rfl
        have vf1 := free_of_blk n3 1
        have p2 := cells_of_blk n1 2 _ rfl
        have v2 := cells_of_blk n3 2 _ rfl
        have vf2 := free_of_blk n3 2
        have p3 := cells_of_blk n1 3 _ rfl
        have v3 := cells_of_blk n3 3 _ rfl
        have vf3 := free_of_blk n3 3
        have p4 := cells_of_blk n1 4 _ rfl
        have v4 := cells_of_blk n3 4 _ rfl
        have vf4 := free_of_blk n3 4
        have pf := free_of_blk n1 3
        obtain ⟨w4, hw4⟩ : ∃ w4, wr.setCell ⟨w.heap.size, 3, none⟩ (.slice A5 acc.length c5') = w4 := ⟨_, rfl⟩
        have O3 : Hid (w4.heap[w.heap.size + 2]? = some (.cells #[.slice none 0 0, .slice none 0 0, .slice none 0 0, .slice none 0 0, .int .i64 0] 37 (0, 0))) := by rw [← hw4]; exact set_oth n3 3 _ (by omega)
        have hlt0 : w.heap.size < w0.heap.size := (Array.getElem?_eq_some_iff.1 K1.out).1
        have G4 : Hid (RowOwn w4 w0.heap.size 45 (.slice A5 acc.length c5') 2 (acc)) := by rw [← hw4]; exact RowOwn.setBelow (a := ⟨_, _, _⟩) HO.out hlt0 _
        have HB4 : Hid (Below w.heap.size w w4) := by rw [← hw4]; exact Below.setCell (p := ⟨_, _, _⟩) (HB0.out.trans (hBr.out.mono HB0.out.size)) (Nat.le_refl _) _
        replace hw4 := Lib.hid hw4
        clear n1 n3
        have t0 := cells_of_blk O3.out 0 _ rfl
        have t1 := cells_of_blk O3.out 1 _ rfl
        have t2 := cells_of_blk O3.out 2 _ rfl
        have t3 := cells_of_blk O3.out 3 _ rfl
        have t4 := cells_of_blk O3.out 4 _ rfl
        have tf0 := free_of_blk O3.out 0
        have tf1 := free_of_blk O3.out 1
        have tf2 := free_of_blk O3.out 2
        have tf3 := free_of_blk O3.out 3
        have tf4 := free_of_blk O3.out 4
        go_wp2_with fail
        rw [hw4.out]
        refine bodyPost_ret (v := .agg #[.slice Ah b.h.length ch, .slice As b.s.length cs, .slice Ao b.o.length co, .slice A5 acc.length c5', .int .i64 b.n]) ?_ rfl ⟨_, rfl, ?_, ?_⟩
        · simp [results, Try.results26, go_sem, t0, t1, t2, t3, t4]
        · have hl2 : w.heap.size ≤ w.heap.size + 2 := by omega
          have hl3 : w.heap.size + 2 < w0.heap.size := (Array.getElem?_eq_some_iff.1 K3.out).1
          have HF := set5_belowR HB4.out hl2 (.slice Ah b.h.length ch) (.slice As b.s.length cs) (.slice Ao b.o.length co) (.slice A5 acc.length c5') (.int .i64 b.n)
          have GF := G4.out.set5R hl3 (.slice Ah b.h.length ch) (.slice As b.s.length cs) (.slice Ao b.o.length co) (.slice A5 acc.length c5') (.int .i64 b.n)
          obtain ⟨_, _, _, _, hh, g1, g2, g3, g4⟩ := HBK.out.call HF
          injection hh with hh
          simp only [Array.mk.injEq, List.cons.injEq] at hh
          obtain ⟨rfl, rfl, rfl, rfl, _⟩ := hh
          have GF2 := GF.row
          have hacc := hR2.out
          generalize acc = L0 at *
          subst hacc
          exact ⟨_, _, _, _, rfl, g1, g2, g3, GF2⟩
        · have hl2 : w.heap.size ≤ w.heap.size + 2 := by omega
          exact set5_belowR HB4.out hl2 (.slice Ah b.h.length ch) (.slice As b.s.length cs) (.slice Ao b.o.length co) (.slice A5 acc.length c5') (.int .i64 b.n)
      | false =>
        have hR2 : Hid (acc ++ [[x0, x1]] = setH x0 [x0, x1] false b.r) := (by show _ = _; simpa [setK] using hR)
        clear hR
        have hSr : w0.heap.size ≤ wr.heap.size := hBr.out.size
        have q0 := (hBr.out.cell (p := ⟨w.heap.size + 1, 0, none⟩) (Array.getElem?_eq_some_iff.1 K2.out).1).trans (cells_of_blk K2.out 0 _ rfl)
        have q1 := (hBr.out.cell (p := ⟨w.heap.size + 1, 1, none⟩) (Array.getElem?_eq_some_iff.1 K2.out).1).trans (cells_of_blk K2.out 1 _ rfl)
        go_wp2_with (at_builtin; refine wpList_append_rec (W := w0) _ _ 35 45 (.agg #[.int .i64 0, .int .i64 0]) 2 16 el_Rate [x0, x1] _ acc hBr.out HO hSr rfl rfl rfl rfl rfl (by have := hal.out; omega) (by decide) ?_)
        intro v2 w2 hO2 hB2 hS2
        clear cb q0 q1
        obtain ⟨A5, c5', hfm⟩ := hO2.out.form
        rw [show (acc ++ [[x0, x1]]).length = acc.length + 1 from by simp] at hfm
        subst hfm
        have n1 := (hB2.out.block _ (Array.getElem?_eq_some_iff.1 K1.out).1).trans K1.out
        have n3 := (hB2.out.block _ (Array.getElem?_eq_some_iff.1 K3.out).1).trans K3.out
        have p0 := cells_of_blk n1 0 _ rfl
        have v0 := cells_of_blk n3 0 _ rfl
        have vf0 := free_of_blk n3 0
        have p1 := cells_of_blk n1 1 _ rfl
        have v1 := cells_of_blk n3 1 _ rfl
        have vf1 := free_of_blk n3 1
        have p2 := cells_of_blk n1 2 _ rfl
        have v2 := cells_of_blk n3 2 _ rfl
        have vf2 := free_of_blk n3 2
        have p3 := cells_of_blk n1 3 _ rfl
        have v3 := cells_of_blk n3 3 _ rfl
        have vf3 := free_of_blk n3 3
        have p4 := cells_of_blk n1 4 _ rfl
        have v4 := cells_of_blk n3 4 _ rfl
        have vf4 := free_of_blk n3 4
        have pf := free_of_blk n1 3
        obtain ⟨w4, hw4⟩ : ∃ w4, w2.setCell ⟨w.heap.size, 3, none⟩ (.slice A5 (acc.length + 1) c5') = w4 := ⟨_, rfl⟩
        have O3 : Hid (w4.heap[w.heap.size + 2]? = some (.cells #[.slice none 0 0, .slice none 0 0, .slice none 0 0, .slice none 0 0, .int .i64 0] 37 (0, 0))) := by rw [← hw4]; exact set_oth n3 3 _ (by omega)
        have hlt0 : w.heap.size < w0.heap.size := (Array.getElem?_eq_some_iff.1 K1.out).1
        have G4 : Hid (RowOwn w4 w0.heap.size 45 (.slice A5 (acc.length + 1) c5') 2 (acc ++ [[x0, x1]])) := by rw [← hw4]; exact RowOwn.setBelow (a := ⟨_, _, _⟩) hO2.out hlt0 _
        have HB4 : Hid (Below w.heap.size w w4) := by rw [← hw4]; exact Below.setCell (p := ⟨_, _, _⟩) (HB0.out.trans (hB2.out.mono HB0.out.size)) (Nat.le_refl _) _
        replace hw4 := Lib.hid hw4
        clear n1 n3
        have t0 := cells_of_blk O3.out 0 _ rfl
        have t1 := cells_of_blk O3.out 1 _ rfl
        have t2 := cells_of_blk O3.out 2 _ rfl
        have t3 := cells_of_blk O3.out 3 _ rfl
        have t4 := cells_of_blk O3.out 4 _ rfl
        have tf0 := free_of_blk O3.out 0
        have tf1 := free_of_blk O3.out 1
        have tf2 := free_of_blk O3.out 2
        have tf3 := free_of_blk O3.out 3
        have tf4 := free_of_blk O3.out 4
        go_wp2_with fail
        rw [hw4.out]
        refine bodyPost_ret (v := .agg #[.slice Ah b.h.length ch, .slice As b.s.length cs, .slice Ao b.o.length co, .slice A5 (acc.length + 1) c5', .int .i64 b.n]) ?_ rfl ⟨_, rfl, ?_, ?_⟩
        · simp [results, Try.results26, go_sem, t0, t1, t2, t3, t4]
        · have hl2 : w.heap.size ≤ w.heap.size + 2 := by omega
          have hl3 : w.heap.size + 2 < w0.heap.size := (Array.getElem?_eq_some_iff.1 K3.out).1
          have HF := set5_belowR HB4.out hl2 (.slice Ah b.h.length ch) (.slice As b.s.length cs) (.slice Ao b.o.length co) (.slice A5 (acc.length + 1) c5') (.int .i64 b.n)
          have GF := G4.out.set5R hl3 (.slice Ah b.h.length ch) (.slice As b.s.length cs) (.slice Ao b.o.length co) (.slice A5 (acc.length + 1) c5') (.int .i64 b.n)
          obtain ⟨_, _, _, _, hh, g1, g2, g3, g4⟩ := HBK.out.call HF
          injection hh with hh
          simp only [Array.mk.injEq, List.cons.injEq] at hh
          obtain ⟨rfl, rfl, rfl, rfl, _⟩ := hh
          have GF2 := GF.row
          rw [show acc ++ [[x0, x1]] = _ from hR2.out] at GF2
          exact ⟨_, _, _, _, rfl, g1, g2, g3, GF2⟩
        · have hl2 : w.heap.size ≤ w.heap.size + 2 := by omega
          exact set5_belowR HB4.out hl2 (.slice Ah b.h.length ch) (.slice As b.s.length cs) (.slice Ao b.o.length co) (.slice A5 (acc.length + 1) c5') (.int .i64 b.n)

set_option maxRecDepth 100000 in
set_option maxHeartbeats 8000000 in
theorem rSetOpen_any (v : Value) (b : Bk) (x0 x1 x2 x3 x4 x5 : Int) (w : World) (hb : Hid (BkAt w v b)) (hl : b.o.length ≤ 1000000) :
    Calls Try.prog 25 #[v, .agg #[.int .i64 x0, .int .i64 x1, .int .i64 x2, .int .i64 x3, .int .i64 x4, .int .i64 x5]] w fun e w' => ∃ v', e = .returned v' ∧ BkAt w' v' { b with o := setH x0 [x0, x1, x2, x3, x4, x5] (x4 == 0) b.o } ∧ Below w.heap.size w w' := by
  obtain ⟨vh, vs, vo, vr, rfl, h1, h2, h3, h4⟩ := hb.out
  obtain ⟨Ah, ch, rfl, _⟩ := h1.rec'
  obtain ⟨As, cs, rfl, _⟩ := h2.rec'
  obtain ⟨Ao, co, rfl, _⟩ := h3.rec'
  obtain ⟨Ar, cr, rfl, _⟩ := h4.rec'
  obtain ⟨w0, hw0⟩ : ∃ w0, ((w.alloc (.cells #[.slice Ah b.h.length ch, .slice As b.s.length cs, .slice Ao b.o.length co, .slice Ar b.r.length cr, .int .i64 b.n] 37)).alloc (.cells #[.int .i64 x0, .int .i64 x1, .int .i64 x2, .int .i64 x3, .int .i64 x4, .int .i64 x5] 43)).alloc (.cells #[.slice none 0 0, .slice none 0 0, .slice none 0 0, .slice none 0 0, .int .i64 0] 37) = w0 := ⟨_, rfl⟩
  have HB0 : Hid (Below w.heap.size w w0) := by rw [← hw0]; exact below_alloc (below_alloc (below_alloc (Below.refl _ _) (Nat.le_refl _) _) (by simp) _) (by first | (simp; done) | (simp; omega)) _
  have K1 : Hid (w0.heap[w.heap.size]? = some (.cells #[.slice Ah b.h.length ch, .slice As b.s.length cs, .slice Ao b.o.length co, .slice Ar b.r.length cr, .int .i64 b.n] 37 (0, 0))) := by rw [← hw0]; exact blk_old (blk_old (heap_new _ _) _) _
  have K2 : Hid (w0.heap[w.heap.size + 1]? = some (.cells #[.int .i64 x0, .int .i64 x1, .int .i64 x2, .int .i64 x3, .int .i64 x4, .int .i64 x5] 43 (0, 0))) := by rw [← hw0]; exact blk_old (blk_new _ _ _ (by simp)) _
  have K3 : Hid (w0.heap[w.heap.size + 2]? = some (.cells #[.slice none 0 0, .slice none 0 0, .slice none 0 0, .slice none 0 0, .int .i64 0] 37 (0, 0))) := by rw [← hw0]; exact blk_new _ _ _ (by simp)
  obtain ⟨A', c', hA', hi⟩ := (h3.call HB0.out).rec'
  injection hA' with hA1 _ hA3
  subst hA1 hA3
  have HI := Lib.hid hi
  have HBK : Hid (BkAt w (.agg #[.slice Ah b.h.length ch, .slice As b.s.length cs, .slice Ao b.o.length co, .slice Ar b.r.length cr, .int .i64 b.n]) b) := hb
  replace hw0 := Lib.hid hw0
  clear hb h1 h2 h3 h4 hi
  have x0c := cells_of_blk K2.out 0 _ rfl
  have x1c := cells_of_blk K2.out 1 _ rfl
  have x2c := cells_of_blk K2.out 2 _ rfl
  have x3c := cells_of_blk K2.out 3 _ rfl
  have x4c := cells_of_blk K2.out 4 _ rfl
  have x5c := cells_of_blk K2.out 5 _ rfl
  rw [← hw0.out] at x0c x1c x2c x3c x4c x5c
  go_enter Try.func25, Try.ntmps25
  go_wp2_with fail
  rw [hw0.out]
  clear x0c x1c x2c x3c x4c x5c
  go_loopw [5, 6, 7] (fun s5 s6 s7 wr => ∃ (i : Nat) (acc : List (List Int)) (done : Bool), s7 = .int .i64 i ∧ s6 = .bool done ∧ Hid (RowOwn wr w0.heap.size 43 s5 6 acc) ∧ Hid (i ≤ b.o.length) ∧ Hid (acc.length ≤ 2 * i) ∧ Hid (acc ++ setK (fun r => !decide (r.headD 0 < x0)) (fun r => !isId x0 r) [x0, x1, x2, x3, x4, x5] done (b.o.drop i) = setH x0 [x0, x1, x2, x3, x4, x5] (x4 == 0) b.o) ∧ Hid (Below w0.heap.size w0 wr)) (fun _ _ s7 _ => b.o.length - (intOf s7).toNat)
  case atStart => exact ⟨0, [], _, rfl, rfl, ⟨World.ownsRow_nil _ _ _ _, fun r hr => by simp at hr⟩, Nat.zero_le _, Nat.zero_le _, rfl, Below.refl _ _⟩
  case round =>
    obtain ⟨i, acc, done, rfl, rfl, HO, hil, hal, hrest, hBr⟩ := hrel
    replace hil := hil.out
    have cb := (hBr.out.cell (p := ⟨w.heap.size, 2, none⟩) (Array.getElem?_eq_some_iff.1 K1.out).1).trans (cells_of_blk K1.out 2 _ rfl)
    have q0 := (hBr.out.cell (p := ⟨w.heap.size + 1, 0, none⟩) (Array.getElem?_eq_some_iff.1 K2.out).1).trans (cells_of_blk K2.out 0 _ rfl)
    have q1 := (hBr.out.cell (p := ⟨w.heap.size + 1, 1, none⟩) (Array.getElem?_eq_some_iff.1 K2.out).1).trans (cells_of_blk K2.out 1 _ rfl)
    have q2 := (hBr.out.cell (p := ⟨w.heap.size + 1, 2, none⟩) (Array.getElem?_eq_some_iff.1 K2.out).1).trans (cells_of_blk K2.out 2 _ rfl)
    have q3 := (hBr.out.cell (p := ⟨w.heap.size + 1, 3, none⟩) (Array.getElem?_eq_some_iff.1 K2.out).1).trans (cells_of_blk K2.out 3 _ rfl)
    have q4 := (hBr.out.cell (p := ⟨w.heap.size + 1, 4, none⟩) (Array.getElem?_eq_some_iff.1 K2.out).1).trans (cells_of_blk K2.out 4 _ rfl)
    have q5 := (hBr.out.cell (p := ⟨w.heap.size + 1, 5, none⟩) (Array.getElem?_eq_some_iff.1 K2.out).1).trans (cells_of_blk K2.out 5 _ rfl)
    by_cases hin : i < b.o.length
    · have tn : decide ((i : Int) < (b.o.length : Int)) = true := decide_eq_true (by omega)
      have hge : b.o[i]? = some b.o[i] := List.getElem?_eq_getElem hin
      obtain ⟨hk, b0, o0, hA0, hbl, hc⟩ := HI.out i _ hge
      subst hA0
      have HGE := Lib.hid hge
      have HCC := Lib.hid hc
      have HS := Lib.hid (setK_step (ge := (fun r => !decide (r.headD 0 < x0))) (ne := (fun r => !isId x0 r)) (x := [x0, x1, x2, x3, x4, x5]) (d := done) hge)
      clear hge hc
      generalize b.o[i] = r at *
      obtain ⟨y0, y1, y2, y3, y4, y5, rfl⟩ : ∃ y0 y1 y2 y3 y4 y5, r = [y0, y1, y2, y3, y4, y5] := by
        match r, hk with
        | [y0, y1, y2, y3, y4, y5], _ => exact ⟨y0, y1, y2, y3, y4, y5, rfl⟩
      clear hk cb q0 q1 q2 q3 q4 q5
      cases done with
      | true =>
        by_cases hlt : y0 < x0
        · have tg : decide (x0 ≤ y0) = false := decide_eq_false (by omega)
          have tg' : ¬ x0 ≤ y0 := by omega
          have tne : (y0 != x0) = true := by simp; omega
          have eg : (!decide (([y0, y1, y2, y3, y4, y5] : List Int).headD 0 < x0)) = false := by simp; omega
          have en : (!isId x0 ([y0, y1, y2, y3, y4, y5] : List Int)) = true := by simp [isId]; try omega
          have hR2 : Hid ((acc ++ [[y0, y1, y2, y3, y4, y5]]) ++ setK (fun r => !decide (r.headD 0 < x0)) (fun r => !isId x0 r) [x0, x1, x2, x3, x4, x5] true (b.o.drop (i + 1)) = setH x0 [x0, x1, x2, x3, x4, x5] (x4 == 0) b.o) := (by
            have h := hrest.out
            rw [HS.out, eg, en] at h
            show _ = _
            simpa using h)
          have hal2 : Hid ((acc ++ [[y0, y1, y2, y3, y4, y5]]).length ≤ 2 * (i + 1)) := (by have := hal.out; show _ ≤ _; first | omega | (simp; omega))
          clear eg en
          have cb := (hBr.out.cell (p := ⟨w.heap.size, 2, none⟩) (Array.getElem?_eq_some_iff.1 K1.out).1).trans (cells_of_blk K1.out 2 _ rfl)
          have q0 := (hBr.out.cell (p := ⟨w.heap.size + 1, 0, none⟩) (Array.getElem?_eq_some_iff.1 K2.out).1).trans (cells_of_blk K2.out 0 _ rfl)
          have q1 := (hBr.out.cell (p := ⟨w.heap.size + 1, 1, none⟩) (Array.getElem?_eq_some_iff.1 K2.out).1).trans (cells_of_blk K2.out 1 _ rfl)
          have q2 := (hBr.out.cell (p := ⟨w.heap.size + 1, 2, none⟩) (Array.getElem?_eq_some_iff.1 K2.out).1).trans (cells_of_blk K2.out 2 _ rfl)
          have q3 := (hBr.out.cell (p := ⟨w.heap.size + 1, 3, none⟩) (Array.getElem?_eq_some_iff.1 K2.out).1).trans (cells_of_blk K2.out 3 _ rfl)
          have q4 := (hBr.out.cell (p := ⟨w.heap.size + 1, 4, none⟩) (Array.getElem?_eq_some_iff.1 K2.out).1).trans (cells_of_blk K2.out 4 _ rfl)
          have q5 := (hBr.out.cell (p := ⟨w.heap.size + 1, 5, none⟩) (Array.getElem?_eq_some_iff.1 K2.out).1).trans (cells_of_blk K2.out 5 _ rfl)
          have c0 : wr.cell? ⟨b0, o0 + i * 6, none⟩ = some (.int .i64 y0) := (hBr.out.cell (p := ⟨b0, o0 + i * 6 + 0, none⟩) hbl).trans (HCC.out 0 _ rfl)
          have c1 : wr.cell? ⟨b0, o0 + i * 6 + 1, none⟩ = some (.int .i64 y1) := (hBr.out.cell (p := ⟨b0, o0 + i * 6 + 1, none⟩) hbl).trans (HCC.out 1 _ rfl)
          have c2 : wr.cell? ⟨b0, o0 + i * 6 + 2, none⟩ = some (.int .i64 y2) := (hBr.out.cell (p := ⟨b0, o0 + i * 6 + 2, none⟩) hbl).trans (HCC.out 2 _ rfl)
          have c3 : wr.cell? ⟨b0, o0 + i * 6 + 3, none⟩ = some (.int .i64 y3) := (hBr.out.cell (p := ⟨b0, o0 + i * 6 + 3, none⟩) hbl).trans (HCC.out 3 _ rfl)
          have c4 : wr.cell? ⟨b0, o0 + i * 6 + 4, none⟩ = some (.int .i64 y4) := (hBr.out.cell (p := ⟨b0, o0 + i * 6 + 4, none⟩) hbl).trans (HCC.out 4 _ rfl)
          have c5 : wr.cell? ⟨b0, o0 + i * 6 + 5, none⟩ = some (.int .i64 y5) := (hBr.out.cell (p := ⟨b0, o0 + i * 6 + 5, none⟩) hbl).trans (HCC.out 5 _ rfl)
          go_wp2_with fail
          go_quiet (fail)
          have HBq := Lib.hid (below_drewN hBr.out nq)
          have HOq := Lib.hid (HO.out.kept (below_drewN (Below.refl _ _) nq))
          have hSq : w0.heap.size ≤ (wr.drewN nq).heap.size := hBr.out.size
          generalize wr.drewN nq = wq at *
          clear cb q0 c0 q1 c1 q2 c2 q3 c3 q4 c4 q5 c5
          have cb := (HBq.out.cell (p := ⟨w.heap.size, 2, none⟩) (Array.getElem?_eq_some_iff.1 K1.out).1).trans (cells_of_blk K1.out 2 _ rfl)
          have q0 := (HBq.out.cell (p := ⟨w.heap.size + 1, 0, none⟩) (Array.getElem?_eq_some_iff.1 K2.out).1).trans (cells_of_blk K2.out 0 _ rfl)
          have q1 := (HBq.out.cell (p := ⟨w.heap.size + 1, 1, none⟩) (Array.getElem?_eq_some_iff.1 K2.out).1).trans (cells_of_blk K2.out 1 _ rfl)
          have q2 := (HBq.out.cell (p := ⟨w.heap.size + 1, 2, none⟩) (Array.getElem?_eq_some_iff.1 K2.out).1).trans (cells_of_blk K2.out 2 _ rfl)
          have q3 := (HBq.out.cell (p := ⟨w.heap.size + 1, 3, none⟩) (Array.getElem?_eq_some_iff.1 K2.out).1).trans (cells_of_blk K2.out 3 _ rfl)
          have q4 := (HBq.out.cell (p := ⟨w.heap.size + 1, 4, none⟩) (Array.getElem?_eq_some_iff.1 K2.out).1).trans (cells_of_blk K2.out 4 _ rfl)
          have q5 := (HBq.out.cell (p := ⟨w.heap.size + 1, 5, none⟩) (Array.getElem?_eq_some_iff.1 K2.out).1).trans (cells_of_blk K2.out 5 _ rfl)
          have c0 : wq.cell? ⟨b0, o0 + i * 6, none⟩ = some (.int .i64 y0) := (HBq.out.cell (p := ⟨b0, o0 + i * 6 + 0, none⟩) hbl).trans (HCC.out 0 _ rfl)
          have c1 : wq.cell? ⟨b0, o0 + i * 6 + 1, none⟩ = some (.int .i64 y1) := (HBq.out.cell (p := ⟨b0, o0 + i * 6 + 1, none⟩) hbl).trans (HCC.out 1 _ rfl)
          have c2 : wq.cell? ⟨b0, o0 + i * 6 + 2, none⟩ = some (.int .i64 y2) := (HBq.out.cell (p := ⟨b0, o0 + i * 6 + 2, none⟩) hbl).trans (HCC.out 2 _ rfl)
          have c3 : wq.cell? ⟨b0, o0 + i * 6 + 3, none⟩ = some (.int .i64 y3) := (HBq.out.cell (p := ⟨b0, o0 + i * 6 + 3, none⟩) hbl).trans (HCC.out 3 _ rfl)
          have c4 : wq.cell? ⟨b0, o0 + i * 6 + 4, none⟩ = some (.int .i64 y4) := (HBq.out.cell (p := ⟨b0, o0 + i * 6 + 4, none⟩) hbl).trans (HCC.out 4 _ rfl)
          have c5 : wq.cell? ⟨b0, o0 + i * 6 + 5, none⟩ = some (.int .i64 y5) := (HBq.out.cell (p := ⟨b0, o0 + i * 6 + 5, none⟩) hbl).trans (HCC.out 5 _ rfl)
          go_wp2_with fail
          go_quiet (fail)
          have HBp := Lib.hid (below_drewN HBq.out nq)
          have HOp := Lib.hid (HOq.out.kept (below_drewN (Below.refl _ _) nq))
          have hSp : w0.heap.size ≤ (wq.drewN nq).heap.size := HBq.out.size
          generalize wq.drewN nq = wp at *
          clear cb q0 c0 q1 c1 q2 c2 q3 c3 q4 c4 q5 c5
          have cb := (HBp.out.cell (p := ⟨w.heap.size, 2, none⟩) (Array.getElem?_eq_some_iff.1 K1.out).1).trans (cells_of_blk K1.out 2 _ rfl)
          have q0 := (HBp.out.cell (p := ⟨w.heap.size + 1, 0, none⟩) (Array.getElem?_eq_some_iff.1 K2.out).1).trans (cells_of_blk K2.out 0 _ rfl)
          have q1 := (HBp.out.cell (p := ⟨w.heap.size + 1, 1, none⟩) (Array.getElem?_eq_some_iff.1 K2.out).1).trans (cells_of_blk K2.out 1 _ rfl)
          have q2 := (HBp.out.cell (p := ⟨w.heap.size + 1, 2, none⟩) (Array.getElem?_eq_some_iff.1 K2.out).1).trans (cells_of_blk K2.out 2 _ rfl)
          have q3 := (HBp.out.cell (p := ⟨w.heap.size + 1, 3, none⟩) (Array.getElem?_eq_some_iff.1 K2.out).1).trans (cells_of_blk K2.out 3 _ rfl)
          have q4 := (HBp.out.cell (p := ⟨w.heap.size + 1, 4, none⟩) (Array.getElem?_eq_some_iff.1 K2.out).1).trans (cells_of_blk K2.out 4 _ rfl)
          have q5 := (HBp.out.cell (p := ⟨w.heap.size + 1, 5, none⟩) (Array.getElem?_eq_some_iff.1 K2.out).1).trans (cells_of_blk K2.out 5 _ rfl)
          have c0 : wp.cell? ⟨b0, o0 + i * 6, none⟩ = some (.int .i64 y0) := (HBp.out.cell (p := ⟨b0, o0 + i * 6 + 0, none⟩) hbl).trans (HCC.out 0 _ rfl)
          have c1 : wp.cell? ⟨b0, o0 + i * 6 + 1, none⟩ = some (.int .i64 y1) := (HBp.out.cell (p := ⟨b0, o0 + i * 6 + 1, none⟩) hbl).trans (HCC.out 1 _ rfl)
          have c2 : wp.cell? ⟨b0, o0 + i * 6 + 2, none⟩ = some (.int .i64 y2) := (HBp.out.cell (p := ⟨b0, o0 + i * 6 + 2, none⟩) hbl).trans (HCC.out 2 _ rfl)
          have c3 : wp.cell? ⟨b0, o0 + i * 6 + 3, none⟩ = some (.int .i64 y3) := (HBp.out.cell (p := ⟨b0, o0 + i * 6 + 3, none⟩) hbl).trans (HCC.out 3 _ rfl)
          have c4 : wp.cell? ⟨b0, o0 + i * 6 + 4, none⟩ = some (.int .i64 y4) := (HBp.out.cell (p := ⟨b0, o0 + i * 6 + 4, none⟩) hbl).trans (HCC.out 4 _ rfl)
          have c5 : wp.cell? ⟨b0, o0 + i * 6 + 5, none⟩ = some (.int .i64 y5) := (HBp.out.cell (p := ⟨b0, o0 + i * 6 + 5, none⟩) hbl).trans (HCC.out 5 _ rfl)
          go_wp2_with (at_builtin; refine wpList_append_rec (W := w0) _ _ 34 43 (.agg #[.int .i64 0, .int .i64 0, .int .i64 0, .int .i64 0, .int .i64 0, .int .i64 0]) 6 48 el_Open [y0, y1, y2, y3, y4, y5] _ (acc) HBp.out HOp hSp rfl rfl rfl rfl rfl (by have := hal.out; first | omega | (simp; omega)) (by decide) ?_)
          intro v3 w3 hO3 hB3 hS3
          clear cb q0 c0 q1 c1 q2 c2 q3 c3 q4 c4 q5 c5
          go_wp2_with fail
          go_roundw
          case rel => exact ⟨i + 1, _, true, by go_num, rfl, hO3.out, by show _ ≤ _; omega, hal2.out, hR2.out, hB3.out⟩
          case measure => simp [intOf]; omega
        · have tg : decide (x0 ≤ y0) = true := decide_eq_true (by omega)
          have tg' : x0 ≤ y0 := by omega
          by_cases heq : y0 = x0
          · have tne : (y0 != x0) = false := by simp [heq]
            have eg : (!decide (([y0, y1, y2, y3, y4, y5] : List Int).headD 0 < x0)) = true := by simp; omega
            have en : (!isId x0 ([y0, y1, y2, y3, y4, y5] : List Int)) = false := by simp [isId]; try omega
            have hR2 : Hid ((acc) ++ setK (fun r => !decide (r.headD 0 < x0)) (fun r => !isId x0 r) [x0, x1, x2, x3, x4, x5] true (b.o.drop (i + 1)) = setH x0 [x0, x1, x2, x3, x4, x5] (x4 == 0) b.o) := (by
              have h := hrest.out
              rw [HS.out, eg, en] at h
              show _ = _
              simpa using h)
            have hal2 : Hid ((acc).length ≤ 2 * (i + 1)) := (by have := hal.out; show _ ≤ _; first | omega | (simp; omega))
            clear eg en
            have cb := (hBr.out.cell (p := ⟨w.heap.size, 2, none⟩) (Array.getElem?_eq_some_iff.1 K1.out).1).trans (cells_of_blk K1.out 2 _ rfl)
            have q0 := (hBr.out.cell (p := ⟨w.heap.size + 1, 0, none⟩) (Array.getElem?_eq_some_iff.1 K2.out).1).trans (cells_of_blk K2.out 0 _ rfl)
            have q1 := (hBr.out.cell (p := ⟨w.heap.size + 1, 1, none⟩) (Array.getElem?_eq_some_iff.1 K2.out).1).trans (cells_of_blk K2.out 1 _ rfl)
            have q2 := (hBr.out.cell (p := ⟨w.heap.size + 1, 2, none⟩) (Array.getElem?_eq_some_iff.1 K2.out).1).trans (cells_of_blk K2.out 2 _ rfl)
            have q3 := (hBr.out.cell (p := ⟨w.heap.size + 1, 3, none⟩) (Array.getElem?_eq_some_iff.1 K2.out).1).trans (cells_of_blk K2.out 3 _ rfl)
            have q4 := (hBr.out.cell (p := ⟨w.heap.size + 1, 4, none⟩) (Array.getElem?_eq_some_iff.1 K2.out).1).trans (cells_of_blk K2.out 4 _ rfl)
            have q5 := (hBr.out.cell (p := ⟨w.heap.size + 1, 5, none⟩) (Array.getElem?_eq_some_iff.1 K2.out).1).trans (cells_of_blk K2.out 5 _ rfl)
            have c0 : wr.cell? ⟨b0, o0 + i * 6, none⟩ = some (.int .i64 y0) := (hBr.out.cell (p := ⟨b0, o0 + i * 6 + 0, none⟩) hbl).trans (HCC.out 0 _ rfl)
            have c1 : wr.cell? ⟨b0, o0 + i * 6 + 1, none⟩ = some (.int .i64 y1) := (hBr.out.cell (p := ⟨b0, o0 + i * 6 + 1, none⟩) hbl).trans (HCC.out 1 _ rfl)
            have c2 : wr.cell? ⟨b0, o0 + i * 6 + 2, none⟩ = some (.int .i64 y2) := (hBr.out.cell (p := ⟨b0, o0 + i * 6 + 2, none⟩) hbl).trans (HCC.out 2 _ rfl)
            have c3 : wr.cell? ⟨b0, o0 + i * 6 + 3, none⟩ = some (.int .i64 y3) := (hBr.out.cell (p := ⟨b0, o0 + i * 6 + 3, none⟩) hbl).trans (HCC.out 3 _ rfl)
            have c4 : wr.cell? ⟨b0, o0 + i * 6 + 4, none⟩ = some (.int .i64 y4) := (hBr.out.cell (p := ⟨b0, o0 + i * 6 + 4, none⟩) hbl).trans (HCC.out 4 _ rfl)
            have c5 : wr.cell? ⟨b0, o0 + i * 6 + 5, none⟩ = some (.int .i64 y5) := (hBr.out.cell (p := ⟨b0, o0 + i * 6 + 5, none⟩) hbl).trans (HCC.out 5 _ rfl)
            go_wp2_with fail
            go_quiet (fail)
            have HBq := Lib.hid (below_drewN hBr.out nq)
            have HOq := Lib.hid (HO.out.kept (below_drewN (Below.refl _ _) nq))
            have hSq : w0.heap.size ≤ (wr.drewN nq).heap.size := hBr.out.size
            generalize wr.drewN nq = wq at *
            clear cb q0 c0 q1 c1 q2 c2 q3 c3 q4 c4 q5 c5
            have cb := (HBq.out.cell (p := ⟨w.heap.size, 2, none⟩) (Array.getElem?_eq_some_iff.1 K1.out).1).trans (cells_of_blk K1.out 2 _ rfl)
            have q0 := (HBq.out.cell (p := ⟨w.heap.size + 1, 0, none⟩) (Array.getElem?_eq_some_iff.1 K2.out).1).trans (cells_of_blk K2.out 0 _ rfl)
            have q1 := (HBq.out.cell (p := ⟨w.heap.size + 1, 1, none⟩) (Array.getElem?_eq_some_iff.1 K2.out).1).trans (cells_of_blk K2.out 1 _ rfl)
            have q2 := (HBq.out.cell (p := ⟨w.heap.size + 1, 2, none⟩) (Array.getElem?_eq_some_iff.1 K2.out).1).trans (cells_of_blk K2.out 2 _ rfl)
            have q3 := (HBq.out.cell (p := ⟨w.heap.size + 1, 3, none⟩) (Array.getElem?_eq_some_iff.1 K2.out).1).trans (cells_of_blk K2.out 3 _ rfl)
            have q4 := (HBq.out.cell (p := ⟨w.heap.size + 1, 4, none⟩) (Array.getElem?_eq_some_iff.1 K2.out).1).trans (cells_of_blk K2.out 4 _ rfl)
            have q5 := (HBq.out.cell (p := ⟨w.heap.size + 1, 5, none⟩) (Array.getElem?_eq_some_iff.1 K2.out).1).trans (cells_of_blk K2.out 5 _ rfl)
            have c0 : wq.cell? ⟨b0, o0 + i * 6, none⟩ = some (.int .i64 y0) := (HBq.out.cell (p := ⟨b0, o0 + i * 6 + 0, none⟩) hbl).trans (HCC.out 0 _ rfl)
            have c1 : wq.cell? ⟨b0, o0 + i * 6 + 1, none⟩ = some (.int .i64 y1) := (HBq.out.cell (p := ⟨b0, o0 + i * 6 + 1, none⟩) hbl).trans (HCC.out 1 _ rfl)
            have c2 : wq.cell? ⟨b0, o0 + i * 6 + 2, none⟩ = some (.int .i64 y2) := (HBq.out.cell (p := ⟨b0, o0 + i * 6 + 2, none⟩) hbl).trans (HCC.out 2 _ rfl)
            have c3 : wq.cell? ⟨b0, o0 + i * 6 + 3, none⟩ = some (.int .i64 y3) := (HBq.out.cell (p := ⟨b0, o0 + i * 6 + 3, none⟩) hbl).trans (HCC.out 3 _ rfl)
            have c4 : wq.cell? ⟨b0, o0 + i * 6 + 4, none⟩ = some (.int .i64 y4) := (HBq.out.cell (p := ⟨b0, o0 + i * 6 + 4, none⟩) hbl).trans (HCC.out 4 _ rfl)
            have c5 : wq.cell? ⟨b0, o0 + i * 6 + 5, none⟩ = some (.int .i64 y5) := (HBq.out.cell (p := ⟨b0, o0 + i * 6 + 5, none⟩) hbl).trans (HCC.out 5 _ rfl)
            go_wp2_with fail
            go_quiet (fail)
            have HBp := Lib.hid (below_drewN HBq.out nq)
            have HOp := Lib.hid (HOq.out.kept (below_drewN (Below.refl _ _) nq))
            have hSp : w0.heap.size ≤ (wq.drewN nq).heap.size := HBq.out.size
            generalize wq.drewN nq = wp at *
            clear cb q0 c0 q1 c1 q2 c2 q3 c3 q4 c4 q5 c5
            have cb := (HBp.out.cell (p := ⟨w.heap.size, 2, none⟩) (Array.getElem?_eq_some_iff.1 K1.out).1).trans (cells_of_blk K1.out 2 _ rfl)
            have q0 := (HBp.out.cell (p := ⟨w.heap.size + 1, 0, none⟩) (Array.getElem?_eq_some_iff.1 K2.out).1).trans (cells_of_blk K2.out 0 _ rfl)
            have q1 := (HBp.out.cell (p := ⟨w.heap.size + 1, 1, none⟩) (Array.getElem?_eq_some_iff.1 K2.out).1).trans (cells_of_blk K2.out 1 _ rfl)
            have q2 := (HBp.out.cell (p := ⟨w.heap.size + 1, 2, none⟩) (Array.getElem?_eq_some_iff.1 K2.out).1).trans (cells_of_blk K2.out 2 _ rfl)
            have q3 := (HBp.out.cell (p := ⟨w.heap.size + 1, 3, none⟩) (Array.getElem?_eq_some_iff.1 K2.out).1).trans (cells_of_blk K2.out 3 _ rfl)
            have q4 := (HBp.out.cell (p := ⟨w.heap.size + 1, 4, none⟩) (Array.getElem?_eq_some_iff.1 K2.out).1).trans (cells_of_blk K2.out 4 _ rfl)
            have q5 := (HBp.out.cell (p := ⟨w.heap.size + 1, 5, none⟩) (Array.getElem?_eq_some_iff.1 K2.out).1).trans (cells_of_blk K2.out 5 _ rfl)
            have c0 : wp.cell? ⟨b0, o0 + i * 6, none⟩ = some (.int .i64 y0) := (HBp.out.cell (p := ⟨b0, o0 + i * 6 + 0, none⟩) hbl).trans (HCC.out 0 _ rfl)
            have c1 : wp.cell? ⟨b0, o0 + i * 6 + 1, none⟩ = some (.int .i64 y1) := (HBp.out.cell (p := ⟨b0, o0 + i * 6 + 1, none⟩) hbl).trans (HCC.out 1 _ rfl)
            have c2 : wp.cell? ⟨b0, o0 + i * 6 + 2, none⟩ = some (.int .i64 y2) := (HBp.out.cell (p := ⟨b0, o0 + i * 6 + 2, none⟩) hbl).trans (HCC.out 2 _ rfl)
            have c3 : wp.cell? ⟨b0, o0 + i * 6 + 3, none⟩ = some (.int .i64 y3) := (HBp.out.cell (p := ⟨b0, o0 + i * 6 + 3, none⟩) hbl).trans (HCC.out 3 _ rfl)
            have c4 : wp.cell? ⟨b0, o0 + i * 6 + 4, none⟩ = some (.int .i64 y4) := (HBp.out.cell (p := ⟨b0, o0 + i * 6 + 4, none⟩) hbl).trans (HCC.out 4 _ rfl)
            have c5 : wp.cell? ⟨b0, o0 + i * 6 + 5, none⟩ = some (.int .i64 y5) := (HBp.out.cell (p := ⟨b0, o0 + i * 6 + 5, none⟩) hbl).trans (HCC.out 5 _ rfl)
            go_wp2_with fail
            go_roundw
            case rel => exact ⟨i + 1, _, true, by go_num, rfl, HOp.out, by show _ ≤ _; omega, hal2.out, hR2.out, HBp.out⟩
            case measure => simp [intOf]; omega
          · have tne : (y0 != x0) = true := by simp [heq]
            have eg : (!decide (([y0, y1, y2, y3, y4, y5] : List Int).headD 0 < x0)) = true := by simp; omega
            have en : (!isId x0 ([y0, y1, y2, y3, y4, y5] : List Int)) = true := by simp [isId]; try omega
            have hR2 : Hid ((acc ++ [[y0, y1, y2, y3, y4, y5]]) ++ setK (fun r => !decide (r.headD 0 < x0)) (fun r => !isId x0 r) [x0, x1, x2, x3, x4, x5] true (b.o.drop (i + 1)) = setH x0 [x0, x1, x2, x3, x4, x5] (x4 == 0) b.o) := (by
              have h := hrest.out
              rw [HS.out, eg, en] at h
              show _ = _
              simpa using h)
            have hal2 : Hid ((acc ++ [[y0, y1, y2, y3, y4, y5]]).length ≤ 2 * (i + 1)) := (by have := hal.out; show _ ≤ _; first | omega | (simp; omega))
            clear eg en
            have cb := (hBr.out.cell (p := ⟨w.heap.size, 2, none⟩) (Array.getElem?_eq_some_iff.1 K1.out).1).trans (cells_of_blk K1.out 2 _ rfl)
            have q0 := (hBr.out.cell (p := ⟨w.heap.size + 1, 0, none⟩) (Array.getElem?_eq_some_iff.1 K2.out).1).trans (cells_of_blk K2.out 0 _ rfl)
            have q1 := (hBr.out.cell (p := ⟨w.heap.size + 1, 1, none⟩) (Array.getElem?_eq_some_iff.1 K2.out).1).trans (cells_of_blk K2.out 1 _ rfl)
            have q2 := (hBr.out.cell (p := ⟨w.heap.size + 1, 2, none⟩) (Array.getElem?_eq_some_iff.1 K2.out).1).trans (cells_of_blk K2.out 2 _ rfl)
            have q3 := (hBr.out.cell (p := ⟨w.heap.size + 1, 3, none⟩) (Array.getElem?_eq_some_iff.1 K2.out).1).trans (cells_of_blk K2.out 3 _ rfl)
            have q4 := (hBr.out.cell (p := ⟨w.heap.size + 1, 4, none⟩) (Array.getElem?_eq_some_iff.1 K2.out).1).trans (cells_of_blk K2.out 4 _ rfl)
            have q5 := (hBr.out.cell (p := ⟨w.heap.size + 1, 5, none⟩) (Array.getElem?_eq_some_iff.1 K2.out).1).trans (cells_of_blk K2.out 5 _ rfl)
            have c0 : wr.cell? ⟨b0, o0 + i * 6, none⟩ = some (.int .i64 y0) := (hBr.out.cell (p := ⟨b0, o0 + i * 6 + 0, none⟩) hbl).trans (HCC.out 0 _ rfl)
            have c1 : wr.cell? ⟨b0, o0 + i * 6 + 1, none⟩ = some (.int .i64 y1) := (hBr.out.cell (p := ⟨b0, o0 + i * 6 + 1, none⟩) hbl).trans (HCC.out 1 _ rfl)
            have c2 : wr.cell? ⟨b0, o0 + i * 6 + 2, none⟩ = some (.int .i64 y2) := (hBr.out.cell (p := ⟨b0, o0 + i * 6 + 2, none⟩) hbl).trans (HCC.out 2 _ rfl)
            have c3 : wr.cell? ⟨b0, o0 + i * 6 + 3, none⟩ = some (.int .i64 y3) := (hBr.out.cell (p := ⟨b0, o0 + i * 6 + 3, none⟩) hbl).trans (HCC.out 3 _ rfl)
            have c4 : wr.cell? ⟨b0, o0 + i * 6 + 4, none⟩ = some (.int .i64 y4) := (hBr.out.cell (p := ⟨b0, o0 + i * 6 + 4, none⟩) hbl).trans (HCC.out 4 _ rfl)
            have c5 : wr.cell? ⟨b0, o0 + i * 6 + 5, none⟩ = some (.int .i64 y5) := (hBr.out.cell (p := ⟨b0, o0 + i * 6 + 5, none⟩) hbl).trans (HCC.out 5 _ rfl)
            go_wp2_with fail
            go_quiet (fail)
            have HBq := Lib.hid (below_drewN hBr.out nq)
            have HOq := Lib.hid (HO.out.kept (below_drewN (Below.refl _ _) nq))
            have hSq : w0.heap.size ≤ (wr.drewN nq).heap.size := hBr.out.size
            generalize wr.drewN nq = wq at *
            clear cb q0 c0 q1 c1 q2 c2 q3 c3 q4 c4 q5 c5
            have cb := (HBq.out.cell (p := ⟨w.heap.size, 2, none⟩) (Array.getElem?_eq_some_iff.1 K1.out).1).trans (cells_of_blk K1.out 2 _ rfl)
            have q0 := (HBq.out.cell (p := ⟨w.heap.size + 1, 0, none⟩) (Array.getElem?_eq_some_iff.1 K2.out).1).trans (cells_of_blk K2.out 0 _ rfl)
            have q1 := (HBq.out.cell (p := ⟨w.heap.size + 1, 1, none⟩) (Array.getElem?_eq_some_iff.1 K2.out).1).trans (cells_of_blk K2.out 1 _ rfl)
            have q2 := (HBq.out.cell (p := ⟨w.heap.size + 1, 2, none⟩) (Array.getElem?_eq_some_iff.1 K2.out).1).trans (cells_of_blk K2.out 2 _ rfl)
            have q3 := (HBq.out.cell (p := ⟨w.heap.size + 1, 3, none⟩) (Array.getElem?_eq_some_iff.1 K2.out).1).trans (cells_of_blk K2.out 3 _ rfl)
            have q4 := (HBq.out.cell (p := ⟨w.heap.size + 1, 4, none⟩) (Array.getElem?_eq_some_iff.1 K2.out).1).trans (cells_of_blk K2.out 4 _ rfl)
            have q5 := (HBq.out.cell (p := ⟨w.heap.size + 1, 5, none⟩) (Array.getElem?_eq_some_iff.1 K2.out).1).trans (cells_of_blk K2.out 5 _ rfl)
            have c0 : wq.cell? ⟨b0, o0 + i * 6, none⟩ = some (.int .i64 y0) := (HBq.out.cell (p := ⟨b0, o0 + i * 6 + 0, none⟩) hbl).trans (HCC.out 0 _ rfl)
            have c1 : wq.cell? ⟨b0, o0 + i * 6 + 1, none⟩ = some (.int .i64 y1) := (HBq.out.cell (p := ⟨b0, o0 + i * 6 + 1, none⟩) hbl).trans (HCC.out 1 _ rfl)
            have c2 : wq.cell? ⟨b0, o0 + i * 6 + 2, none⟩ = some (.int .i64 y2) := (HBq.out.cell (p := ⟨b0, o0 + i * 6 + 2, none⟩) hbl).trans (HCC.out 2 _ rfl)
            have c3 : wq.cell? ⟨b0, o0 + i * 6 + 3, none⟩ = some (.int .i64 y3) := (HBq.out.cell (p := ⟨b0, o0 + i * 6 + 3, none⟩) hbl).trans (HCC.out 3 _ rfl)
            have c4 : wq.cell? ⟨b0, o0 + i * 6 + 4, none⟩ = some (.int .i64 y4) := (HBq.out.cell (p := ⟨b0, o0 + i * 6 + 4, none⟩) hbl).trans (HCC.out 4 _ rfl)
            have c5 : wq.cell? ⟨b0, o0 + i * 6 + 5, none⟩ = some (.int .i64 y5) := (HBq.out.cell (p := ⟨b0, o0 + i * 6 + 5, none⟩) hbl).trans (HCC.out 5 _ rfl)
            go_wp2_with fail
            go_quiet (fail)
            have HBp := Lib.hid (below_drewN HBq.out nq)
            have HOp := Lib.hid (HOq.out.kept (below_drewN (Below.refl _ _) nq))
            have hSp : w0.heap.size ≤ (wq.drewN nq).heap.size := HBq.out.size
            generalize wq.drewN nq = wp at *
            clear cb q0 c0 q1 c1 q2 c2 q3 c3 q4 c4 q5 c5
            have cb := (HBp.out.cell (p := ⟨w.heap.size, 2, none⟩) (Array.getElem?_eq_some_iff.1 K1.out).1).trans (cells_of_blk K1.out 2 _ rfl)
            have q0 := (HBp.out.cell (p := ⟨w.heap.size + 1, 0, none⟩) (Array.getElem?_eq_some_iff.1 K2.out).1).trans (cells_of_blk K2.out 0 _ rfl)
            have q1 := (HBp.out.cell (p := ⟨w.heap.size + 1, 1, none⟩) (Array.getElem?_eq_some_iff.1 K2.out).1).trans (cells_of_blk K2.out 1 _ rfl)
            have q2 := (HBp.out.cell (p := ⟨w.heap.size + 1, 2, none⟩) (Array.getElem?_eq_some_iff.1 K2.out).1).trans (cells_of_blk K2.out 2 _ rfl)
            have q3 := (HBp.out.cell (p := ⟨w.heap.size + 1, 3, none⟩) (Array.getElem?_eq_some_iff.1 K2.out).1).trans (cells_of_blk K2.out 3 _ rfl)
            have q4 := (HBp.out.cell (p := ⟨w.heap.size + 1, 4, none⟩) (Array.getElem?_eq_some_iff.1 K2.out).1).trans (cells_of_blk K2.out 4 _ rfl)
            have q5 := (HBp.out.cell (p := ⟨w.heap.size + 1, 5, none⟩) (Array.getElem?_eq_some_iff.1 K2.out).1).trans (cells_of_blk K2.out 5 _ rfl)
            have c0 : wp.cell? ⟨b0, o0 + i * 6, none⟩ = some (.int .i64 y0) := (HBp.out.cell (p := ⟨b0, o0 + i * 6 + 0, none⟩) hbl).trans (HCC.out 0 _ rfl)
            have c1 : wp.cell? ⟨b0, o0 + i * 6 + 1, none⟩ = some (.int .i64 y1) := (HBp.out.cell (p := ⟨b0, o0 + i * 6 + 1, none⟩) hbl).trans (HCC.out 1 _ rfl)
            have c2 : wp.cell? ⟨b0, o0 + i * 6 + 2, none⟩ = some (.int .i64 y2) := (HBp.out.cell (p := ⟨b0, o0 + i * 6 + 2, none⟩) hbl).trans (HCC.out 2 _ rfl)
            have c3 : wp.cell? ⟨b0, o0 + i * 6 + 3, none⟩ = some (.int .i64 y3) := (HBp.out.cell (p := ⟨b0, o0 + i * 6 + 3, none⟩) hbl).trans (HCC.out 3 _ rfl)
            have c4 : wp.cell? ⟨b0, o0 + i * 6 + 4, none⟩ = some (.int .i64 y4) := (HBp.out.cell (p := ⟨b0, o0 + i * 6 + 4, none⟩) hbl).trans (HCC.out 4 _ rfl)
            have c5 : wp.cell? ⟨b0, o0 + i * 6 + 5, none⟩ = some (.int .i64 y5) := (HBp.out.cell (p := ⟨b0, o0 + i * 6 + 5, none⟩) hbl).trans (HCC.out 5 _ rfl)
            go_wp2_with (at_builtin; refine wpList_append_rec (W := w0) _ _ 34 43 (.agg #[.int .i64 0, .int .i64 0, .int .i64 0, .int .i64 0, .int .i64 0, .int .i64 0]) 6 48 el_Open [y0, y1, y2, y3, y4, y5] _ (acc) HBp.out HOp hSp rfl rfl rfl rfl rfl (by have := hal.out; first | omega | (simp; omega)) (by decide) ?_)
            intro v3 w3 hO3 hB3 hS3
            clear cb q0 c0 q1 c1 q2 c2 q3 c3 q4 c4 q5 c5
            go_wp2_with fail
            go_roundw
            case rel => exact ⟨i + 1, _, true, by go_num, rfl, hO3.out, by show _ ≤ _; omega, hal2.out, hR2.out, hB3.out⟩
            case measure => simp [intOf]; omega
      | false =>
        by_cases hlt : y0 < x0
        · have tg : decide (x0 ≤ y0) = false := decide_eq_false (by omega)
          have tg' : ¬ x0 ≤ y0 := by omega
          have tne : (y0 != x0) = true := by simp; omega
          have eg : (!decide (([y0, y1, y2, y3, y4, y5] : List Int).headD 0 < x0)) = false := by simp; omega
          have en : (!isId x0 ([y0, y1, y2, y3, y4, y5] : List Int)) = true := by simp [isId]; try omega
          have hR2 : Hid ((acc ++ [[y0, y1, y2, y3, y4, y5]]) ++ setK (fun r => !decide (r.headD 0 < x0)) (fun r => !isId x0 r) [x0, x1, x2, x3, x4, x5] false (b.o.drop (i + 1)) = setH x0 [x0, x1, x2, x3, x4, x5] (x4 == 0) b.o) := (by
            have h := hrest.out
            rw [HS.out, eg, en] at h
            show _ = _
            simpa using h)
          have hal2 : Hid ((acc ++ [[y0, y1, y2, y3, y4, y5]]).length ≤ 2 * (i + 1)) := (by have := hal.out; show _ ≤ _; first | omega | (simp; omega))
          clear eg en
          have cb := (hBr.out.cell (p := ⟨w.heap.size, 2, none⟩) (Array.getElem?_eq_some_iff.1 K1.out).1).trans (cells_of_blk K1.out 2 _ rfl)
          have q0 := (hBr.out.cell (p := ⟨w.heap.size + 1, 0, none⟩) (Array.getElem?_eq_some_iff.1 K2.out).1).trans (cells_of_blk K2.out 0 _ rfl)
          have q1 := (hBr.out.cell (p := ⟨w.heap.size + 1, 1, none⟩) (Array.getElem?_eq_some_iff.1 K2.out).1).trans (cells_of_blk K2.out 1 _ rfl)
          have q2 := (hBr.out.cell (p := ⟨w.heap.size + 1, 2, none⟩) (Array.getElem?_eq_some_iff.1 K2.out).1).trans (cells_of_blk K2.out 2 _ rfl)
          have q3 := (hBr.out.cell (p := ⟨w.heap.size + 1, 3, none⟩) (Array.getElem?_eq_some_iff.1 K2.out).1).trans (cells_of_blk K2.out 3 _ rfl)
          have q4 := (hBr.out.cell (p := ⟨w.heap.size + 1, 4, none⟩) (Array.getElem?_eq_some_iff.1 K2.out).1).trans (cells_of_blk K2.out 4 _ rfl)
          have q5 := (hBr.out.cell (p := ⟨w.heap.size + 1, 5, none⟩) (Array.getElem?_eq_some_iff.1 K2.out).1).trans (cells_of_blk K2.out 5 _ rfl)
          have c0 : wr.cell? ⟨b0, o0 + i * 6, none⟩ = some (.int .i64 y0) := (hBr.out.cell (p := ⟨b0, o0 + i * 6 + 0, none⟩) hbl).trans (HCC.out 0 _ rfl)
          have c1 : wr.cell? ⟨b0, o0 + i * 6 + 1, none⟩ = some (.int .i64 y1) := (hBr.out.cell (p := ⟨b0, o0 + i * 6 + 1, none⟩) hbl).trans (HCC.out 1 _ rfl)
          have c2 : wr.cell? ⟨b0, o0 + i * 6 + 2, none⟩ = some (.int .i64 y2) := (hBr.out.cell (p := ⟨b0, o0 + i * 6 + 2, none⟩) hbl).trans (HCC.out 2 _ rfl)
          have c3 : wr.cell? ⟨b0, o0 + i * 6 + 3, none⟩ = some (.int .i64 y3) := (hBr.out.cell (p := ⟨b0, o0 + i * 6 + 3, none⟩) hbl).trans (HCC.out 3 _ rfl)
          have c4 : wr.cell? ⟨b0, o0 + i * 6 + 4, none⟩ = some (.int .i64 y4) := (hBr.out.cell (p := ⟨b0, o0 + i * 6 + 4, none⟩) hbl).trans (HCC.out 4 _ rfl)
          have c5 : wr.cell? ⟨b0, o0 + i * 6 + 5, none⟩ = some (.int .i64 y5) := (hBr.out.cell (p := ⟨b0, o0 + i * 6 + 5, none⟩) hbl).trans (HCC.out 5 _ rfl)
          go_wp2_with fail
          go_quiet (fail)
          have HBq := Lib.hid (below_drewN hBr.out nq)
          have HOq := Lib.hid (HO.out.kept (below_drewN (Below.refl _ _) nq))
          have hSq : w0.heap.size ≤ (wr.drewN nq).heap.size := hBr.out.size
          generalize wr.drewN nq = wq at *
          clear cb q0 c0 q1 c1 q2 c2 q3 c3 q4 c4 q5 c5
          have cb := (HBq.out.cell (p := ⟨w.heap.size, 2, none⟩) (Array.getElem?_eq_some_iff.1 K1.out).1).trans (cells_of_blk K1.out 2 _ rfl)
          have q0 := (HBq.out.cell (p := ⟨w.heap.size + 1, 0, none⟩) (Array.getElem?_eq_some_iff.1 K2.out).1).trans (cells_of_blk K2.out 0 _ rfl)
          have q1 := (HBq.out.cell (p := ⟨w.heap.size + 1, 1, none⟩) (Array.getElem?_eq_some_iff.1 K2.out).1).trans (cells_of_blk K2.out 1 _ rfl)
          have q2 := (HBq.out.cell (p := ⟨w.heap.size + 1, 2, none⟩) (Array.getElem?_eq_some_iff.1 K2.out).1).trans (cells_of_blk K2.out 2 _ rfl)
          have q3 := (HBq.out.cell (p := ⟨w.heap.size + 1, 3, none⟩) (Array.getElem?_eq_some_iff.1 K2.out).1).trans (cells_of_blk K2.out 3 _ rfl)
          have q4 := (HBq.out.cell (p := ⟨w.heap.size + 1, 4, none⟩) (Array.getElem?_eq_some_iff.1 K2.out).1).trans (cells_of_blk K2.out 4 _ rfl)
          have q5 := (HBq.out.cell (p := ⟨w.heap.size + 1, 5, none⟩) (Array.getElem?_eq_some_iff.1 K2.out).1).trans (cells_of_blk K2.out 5 _ rfl)
          have c0 : wq.cell? ⟨b0, o0 + i * 6, none⟩ = some (.int .i64 y0) := (HBq.out.cell (p := ⟨b0, o0 + i * 6 + 0, none⟩) hbl).trans (HCC.out 0 _ rfl)
          have c1 : wq.cell? ⟨b0, o0 + i * 6 + 1, none⟩ = some (.int .i64 y1) := (HBq.out.cell (p := ⟨b0, o0 + i * 6 + 1, none⟩) hbl).trans (HCC.out 1 _ rfl)
          have c2 : wq.cell? ⟨b0, o0 + i * 6 + 2, none⟩ = some (.int .i64 y2) := (HBq.out.cell (p := ⟨b0, o0 + i * 6 + 2, none⟩) hbl).trans (HCC.out 2 _ rfl)
          have c3 : wq.cell? ⟨b0, o0 + i * 6 + 3, none⟩ = some (.int .i64 y3) := (HBq.out.cell (p := ⟨b0, o0 + i * 6 + 3, none⟩) hbl).trans (HCC.out 3 _ rfl)
          have c4 : wq.cell? ⟨b0, o0 + i * 6 + 4, none⟩ = some (.int .i64 y4) := (HBq.out.cell (p := ⟨b0, o0 + i * 6 + 4, none⟩) hbl).trans (HCC.out 4 _ rfl)
          have c5 : wq.cell? ⟨b0, o0 + i * 6 + 5, none⟩ = some (.int .i64 y5) := (HBq.out.cell (p := ⟨b0, o0 + i * 6 + 5, none⟩) hbl).trans (HCC.out 5 _ rfl)
          go_wp2_with fail
          go_quiet (fail)
          have HBp := Lib.hid (below_drewN HBq.out nq)
          have HOp := Lib.hid (HOq.out.kept (below_drewN (Below.refl _ _) nq))
          have hSp : w0.heap.size ≤ (wq.drewN nq).heap.size := HBq.out.size
          generalize wq.drewN nq = wp at *
          clear cb q0 c0 q1 c1 q2 c2 q3 c3 q4 c4 q5 c5
          have cb := (HBp.out.cell (p := ⟨w.heap.size, 2, none⟩) (Array.getElem?_eq_some_iff.1 K1.out).1).trans (cells_of_blk K1.out 2 _ rfl)
          have q0 := (HBp.out.cell (p := ⟨w.heap.size + 1, 0, none⟩) (Array.getElem?_eq_some_iff.1 K2.out).1).trans (cells_of_blk K2.out 0 _ rfl)
          have q1 := (HBp.out.cell (p := ⟨w.heap.size + 1, 1, none⟩) (Array.getElem?_eq_some_iff.1 K2.out).1).trans (cells_of_blk K2.out 1 _ rfl)
          have q2 := (HBp.out.cell (p := ⟨w.heap.size + 1, 2, none⟩) (Array.getElem?_eq_some_iff.1 K2.out).1).trans (cells_of_blk K2.out 2 _ rfl)
          have q3 := (HBp.out.cell (p := ⟨w.heap.size + 1, 3, none⟩) (Array.getElem?_eq_some_iff.1 K2.out).1).trans (cells_of_blk K2.out 3 _ rfl)
          have q4 := (HBp.out.cell (p := ⟨w.heap.size + 1, 4, none⟩) (Array.getElem?_eq_some_iff.1 K2.out).1).trans (cells_of_blk K2.out 4 _ rfl)
          have q5 := (HBp.out.cell (p := ⟨w.heap.size + 1, 5, none⟩) (Array.getElem?_eq_some_iff.1 K2.out).1).trans (cells_of_blk K2.out 5 _ rfl)
          have c0 : wp.cell? ⟨b0, o0 + i * 6, none⟩ = some (.int .i64 y0) := (HBp.out.cell (p := ⟨b0, o0 + i * 6 + 0, none⟩) hbl).trans (HCC.out 0 _ rfl)
          have c1 : wp.cell? ⟨b0, o0 + i * 6 + 1, none⟩ = some (.int .i64 y1) := (HBp.out.cell (p := ⟨b0, o0 + i * 6 + 1, none⟩) hbl).trans (HCC.out 1 _ rfl)
          have c2 : wp.cell? ⟨b0, o0 + i * 6 + 2, none⟩ = some (.int .i64 y2) := (HBp.out.cell (p := ⟨b0, o0 + i * 6 + 2, none⟩) hbl).trans (HCC.out 2 _ rfl)
          have c3 : wp.cell? ⟨b0, o0 + i * 6 + 3, none⟩ = some (.int .i64 y3) := (HBp.out.cell (p := ⟨b0, o0 + i * 6 + 3, none⟩) hbl).trans (HCC.out 3 _ rfl)
          have c4 : wp.cell? ⟨b0, o0 + i * 6 + 4, none⟩ = some (.int .i64 y4) := (HBp.out.cell (p := ⟨b0, o0 + i * 6 + 4, none⟩) hbl).trans (HCC.out 4 _ rfl)
          have c5 : wp.cell? ⟨b0, o0 + i * 6 + 5, none⟩ = some (.int .i64 y5) := (HBp.out.cell (p := ⟨b0, o0 + i * 6 + 5, none⟩) hbl).trans (HCC.out 5 _ rfl)
          go_wp2_with (at_builtin; refine wpList_append_rec (W := w0) _ _ 34 43 (.agg #[.int .i64 0, .int .i64 0, .int .i64 0, .int .i64 0, .int .i64 0, .int .i64 0]) 6 48 el_Open [y0, y1, y2, y3, y4, y5] _ (acc) HBp.out HOp hSp rfl rfl rfl rfl rfl (by have := hal.out; first | omega | (simp; omega)) (by decide) ?_)
          intro v3 w3 hO3 hB3 hS3
          clear cb q0 c0 q1 c1 q2 c2 q3 c3 q4 c4 q5 c5
          go_wp2_with fail
          go_roundw
          case rel => exact ⟨i + 1, _, false, by go_num, rfl, hO3.out, by show _ ≤ _; omega, hal2.out, hR2.out, hB3.out⟩
          case measure => simp [intOf]; omega
        · have tg : decide (x0 ≤ y0) = true := decide_eq_true (by omega)
          have tg' : x0 ≤ y0 := by omega
          by_cases heq : y0 = x0
          · have tne : (y0 != x0) = false := by simp [heq]
            have eg : (!decide (([y0, y1, y2, y3, y4, y5] : List Int).headD 0 < x0)) = true := by simp; omega
            have en : (!isId x0 ([y0, y1, y2, y3, y4, y5] : List Int)) = false := by simp [isId]; try omega
            have hR2 : Hid (((acc ++ [[x0, x1, x2, x3, x4, x5]])) ++ setK (fun r => !decide (r.headD 0 < x0)) (fun r => !isId x0 r) [x0, x1, x2, x3, x4, x5] true (b.o.drop (i + 1)) = setH x0 [x0, x1, x2, x3, x4, x5] (x4 == 0) b.o) := (by
              have h := hrest.out
              rw [HS.out, eg, en] at h
              show _ = _
              simpa using h)
            have hal2 : Hid (((acc ++ [[x0, x1, x2, x3, x4, x5]])).length ≤ 2 * (i + 1)) := (by have := hal.out; show _ ≤ _; first | omega | (simp; omega))
            clear eg en
            have cb := (hBr.out.cell (p := ⟨w.heap.size, 2, none⟩) (Array.getElem?_eq_some_iff.1 K1.out).1).trans (cells_of_blk K1.out 2 _ rfl)
            have q0 := (hBr.out.cell (p := ⟨w.heap.size + 1, 0, none⟩) (Array.getElem?_eq_some_iff.1 K2.out).1).trans (cells_of_blk K2.out 0 _ rfl)
            have q1 := (hBr.out.cell (p := ⟨w.heap.size + 1, 1, none⟩) (Array.getElem?_eq_some_iff.1 K2.out).1).trans (cells_of_blk K2.out 1 _ rfl)
            have q2 := (hBr.out.cell (p := ⟨w.heap.size + 1, 2, none⟩) (Array.getElem?_eq_some_iff.1 K2.out).1).trans (cells_of_blk K2.out 2 _ rfl)
            have q3 := (hBr.out.cell (p := ⟨w.heap.size + 1, 3, none⟩) (Array.getElem?_eq_some_iff.1 K2.out).1).trans (cells_of_blk K2.out 3 _ rfl)
            have q4 := (hBr.out.cell (p := ⟨w.heap.size + 1, 4, none⟩) (Array.getElem?_eq_some_iff.1 K2.out).1).trans (cells_of_blk K2.out 4 _ rfl)
            have q5 := (hBr.out.cell (p := ⟨w.heap.size + 1, 5, none⟩) (Array.getElem?_eq_some_iff.1 K2.out).1).trans (cells_of_blk K2.out 5 _ rfl)
            have c0 : wr.cell? ⟨b0, o0 + i * 6, none⟩ = some (.int .i64 y0) := (hBr.out.cell (p := ⟨b0, o0 + i * 6 + 0, none⟩) hbl).trans (HCC.out 0 _ rfl)
            have c1 : wr.cell? ⟨b0, o0 + i * 6 + 1, none⟩ = some (.int .i64 y1) := (hBr.out.cell (p := ⟨b0, o0 + i * 6 + 1, none⟩) hbl).trans (HCC.out 1 _ rfl)
            have c2 : wr.cell? ⟨b0, o0 + i * 6 + 2, none⟩ = some (.int .i64 y2) := (hBr.out.cell (p := ⟨b0, o0 + i * 6 + 2, none⟩) hbl).trans (HCC.out 2 _ rfl)
            have c3 : wr.cell? ⟨b0, o0 + i * 6 + 3, none⟩ = some (.int .i64 y3) := (hBr.out.cell (p := ⟨b0, o0 + i * 6 + 3, none⟩) hbl).trans (HCC.out 3 _ rfl)
            have c4 : wr.cell? ⟨b0, o0 + i * 6 + 4, none⟩ = some (.int .i64 y4) := (hBr.out.cell (p := ⟨b0, o0 + i * 6 + 4, none⟩) hbl).trans (HCC.out 4 _ rfl)
            have c5 : wr.cell? ⟨b0, o0 + i * 6 + 5, none⟩ = some (.int .i64 y5) := (hBr.out.cell (p := ⟨b0, o0 + i * 6 + 5, none⟩) hbl).trans (HCC.out 5 _ rfl)
            go_wp2_with fail
            go_quiet (fail)
            have HBq := Lib.hid (below_drewN hBr.out nq)
            have HOq := Lib.hid (HO.out.kept (below_drewN (Below.refl _ _) nq))
            have hSq : w0.heap.size ≤ (wr.drewN nq).heap.size := hBr.out.size
            generalize wr.drewN nq = wq at *
            clear cb q0 c0 q1 c1 q2 c2 q3 c3 q4 c4 q5 c5
            have cb := (HBq.out.cell (p := ⟨w.heap.size, 2, none⟩) (Array.getElem?_eq_some_iff.1 K1.out).1).trans (cells_of_blk K1.out 2 _ rfl)
            have q0 := (HBq.out.cell (p := ⟨w.heap.size + 1, 0, none⟩) (Array.getElem?_eq_some_iff.1 K2.out).1).trans (cells_of_blk K2.out 0 _ rfl)
            have q1 := (HBq.out.cell (p := ⟨w.heap.size + 1, 1, none⟩) (Array.getElem?_eq_some_iff.1 K2.out).1).trans (cells_of_blk K2.out 1 _ rfl)
            have q2 := (HBq.out.cell (p := ⟨w.heap.size + 1, 2, none⟩) (Array.getElem?_eq_some_iff.1 K2.out).1).trans (cells_of_blk K2.out 2 _ rfl)
            have q3 := (HBq.out.cell (p := ⟨w.heap.size + 1, 3, none⟩) (Array.getElem?_eq_some_iff.1 K2.out).1).trans (cells_of_blk K2.out 3 _ rfl)
            have q4 := (HBq.out.cell (p := ⟨w.heap.size + 1, 4, none⟩) (Array.getElem?_eq_some_iff.1 K2.out).1).trans (cells_of_blk K2.out 4 _ rfl)
            have q5 := (HBq.out.cell (p := ⟨w.heap.size + 1, 5, none⟩) (Array.getElem?_eq_some_iff.1 K2.out).1).trans (cells_of_blk K2.out 5 _ rfl)
            have c0 : wq.cell? ⟨b0, o0 + i * 6, none⟩ = some (.int .i64 y0) := (HBq.out.cell (p := ⟨b0, o0 + i * 6 + 0, none⟩) hbl).trans (HCC.out 0 _ rfl)
            have c1 : wq.cell? ⟨b0, o0 + i * 6 + 1, none⟩ = some (.int .i64 y1) := (HBq.out.cell (p := ⟨b0, o0 + i * 6 + 1, none⟩) hbl).trans (HCC.out 1 _ rfl)
            have c2 : wq.cell? ⟨b0, o0 + i * 6 + 2, none⟩ = some (.int .i64 y2) := (HBq.out.cell (p := ⟨b0, o0 + i * 6 + 2, none⟩) hbl).trans (HCC.out 2 _ rfl)
            have c3 : wq.cell? ⟨b0, o0 + i * 6 + 3, none⟩ = some (.int .i64 y3) := (HBq.out.cell (p := ⟨b0, o0 + i * 6 + 3, none⟩) hbl).trans (HCC.out 3 _ rfl)
            have c4 : wq.cell? ⟨b0, o0 + i * 6 + 4, none⟩ = some (.int .i64 y4) := (HBq.out.cell (p := ⟨b0, o0 + i * 6 + 4, none⟩) hbl).trans (HCC.out 4 _ rfl)
            have c5 : wq.cell? ⟨b0, o0 + i * 6 + 5, none⟩ = some (.int .i64 y5) := (HBq.out.cell (p := ⟨b0, o0 + i * 6 + 5, none⟩) hbl).trans (HCC.out 5 _ rfl)
            go_wp2_with (at_builtin; refine wpList_append_rec (W := w0) _ _ 34 43 (.agg #[.int .i64 0, .int .i64 0, .int .i64 0, .int .i64 0, .int .i64 0, .int .i64 0]) 6 48 el_Open [x0, x1, x2, x3, x4, x5] _ acc HBq.out HOq hSq rfl rfl rfl rfl rfl (by have := hal.out; omega) (by decide) ?_)
            intro v2 w2 hO2 hB2 hS2
            clear cb q0 c0 q1 c1 q2 c2 q3 c3 q4 c4 q5 c5
            have cb := (hB2.out.cell (p := ⟨w.heap.size, 2, none⟩) (Array.getElem?_eq_some_iff.1 K1.out).1).trans (cells_of_blk K1.out 2 _ rfl)
            have q0 := (hB2.out.cell (p := ⟨w.heap.size + 1, 0, none⟩) (Array.getElem?_eq_some_iff.1 K2.out).1).trans (cells_of_blk K2.out 0 _ rfl)
            have q1 := (hB2.out.cell (p := ⟨w.heap.size + 1, 1, none⟩) (Array.getElem?_eq_some_iff.1 K2.out).1).trans (cells_of_blk K2.out 1 _ rfl)
            have q2 := (hB2.out.cell (p := ⟨w.heap.size + 1, 2, none⟩) (Array.getElem?_eq_some_iff.1 K2.out).1).trans (cells_of_blk K2.out 2 _ rfl)
            have q3 := (hB2.out.cell (p := ⟨w.heap.size + 1, 3, none⟩) (Array.getElem?_eq_some_iff.1 K2.out).1).trans (cells_of_blk K2.out 3 _ rfl)
            have q4 := (hB2.out.cell (p := ⟨w.heap.size + 1, 4, none⟩) (Array.getElem?_eq_some_iff.1 K2.out).1).trans (cells_of_blk K2.out 4 _ rfl)
            have q5 := (hB2.out.cell (p := ⟨w.heap.size + 1, 5, none⟩) (Array.getElem?_eq_some_iff.1 K2.out).1).trans (cells_of_blk K2.out 5 _ rfl)
            have c0 : w2.cell? ⟨b0, o0 + i * 6, none⟩ = some (.int .i64 y0) := (hB2.out.cell (p := ⟨b0, o0 + i * 6 + 0, none⟩) hbl).trans (HCC.out 0 _ rfl)
            have c1 : w2.cell? ⟨b0, o0 + i * 6 + 1, none⟩ = some (.int .i64 y1) := (hB2.out.cell (p := ⟨b0, o0 + i * 6 + 1, none⟩) hbl).trans (HCC.out 1 _ rfl)
            have c2 : w2.cell? ⟨b0, o0 + i * 6 + 2, none⟩ = some (.int .i64 y2) := (hB2.out.cell (p := ⟨b0, o0 + i * 6 + 2, none⟩) hbl).trans (HCC.out 2 _ rfl)
            have c3 : w2.cell? ⟨b0, o0 + i * 6 + 3, none⟩ = some (.int .i64 y3) := (hB2.out.cell (p := ⟨b0, o0 + i * 6 + 3, none⟩) hbl).trans (HCC.out 3 _ rfl)
            have c4 : w2.cell? ⟨b0, o0 + i * 6 + 4, none⟩ = some (.int .i64 y4) := (hB2.out.cell (p := ⟨b0, o0 + i * 6 + 4, none⟩) hbl).trans (HCC.out 4 _ rfl)
            have c5 : w2.cell? ⟨b0, o0 + i * 6 + 5, none⟩ = some (.int .i64 y5) := (hB2.out.cell (p := ⟨b0, o0 + i * 6 + 5, none⟩) hbl).trans (HCC.out 5 _ rfl)
            go_wp2_with fail
            go_quiet (fail)
            have HBp := Lib.hid (below_drewN hB2.out nq)
            have HOp := Lib.hid (hO2.out.kept (below_drewN (Below.refl _ _) nq))
            have hSp : w0.heap.size ≤ (w2.drewN nq).heap.size := hB2.out.size
            generalize w2.drewN nq = wp at *
            clear cb q0 c0 q1 c1 q2 c2 q3 c3 q4 c4 q5 c5
            have cb := (HBp.out.cell (p := ⟨w.heap.size, 2, none⟩) (Array.getElem?_eq_some_iff.1 K1.out).1).trans (cells_of_blk K1.out 2 _ rfl)
            have q0 := (HBp.out.cell (p := ⟨w.heap.size + 1, 0, none⟩) (Array.getElem?_eq_some_iff.1 K2.out).1).trans (cells_of_blk K2.out 0 _ rfl)
            have q1 := (HBp.out.cell (p := ⟨w.heap.size + 1, 1, none⟩) (Array.getElem?_eq_some_iff.1 K2.out).1).trans (cells_of_blk K2.out 1 _ rfl)
            have q2 := (HBp.out.cell (p := ⟨w.heap.size + 1, 2, none⟩) (Array.getElem?_eq_some_iff.1 K2.out).1).trans (cells_of_blk K2.out 2 _ rfl)
            have q3 := (HBp.out.cell (p := ⟨w.heap.size + 1, 3, none⟩) (Array.getElem?_eq_some_iff.1 K2.out).1).trans (cells_of_blk K2.out 3 _ rfl)
            have q4 := (HBp.out.cell (p := ⟨w.heap.size + 1, 4, none⟩) (Array.getElem?_eq_some_iff.1 K2.out).1).trans (cells_of_blk K2.out 4 _ rfl)
            have q5 := (HBp.out.cell (p := ⟨w.heap.size + 1, 5, none⟩) (Array.getElem?_eq_some_iff.1 K2.out).1).trans (cells_of_blk K2.out 5 _ rfl)
            have c0 : wp.cell? ⟨b0, o0 + i * 6, none⟩ = some (.int .i64 y0) := (HBp.out.cell (p := ⟨b0, o0 + i * 6 + 0, none⟩) hbl).trans (HCC.out 0 _ rfl)
            have c1 : wp.cell? ⟨b0, o0 + i * 6 + 1, none⟩ = some (.int .i64 y1) := (HBp.out.cell (p := ⟨b0, o0 + i * 6 + 1, none⟩) hbl).trans (HCC.out 1 _ rfl)
            have c2 : wp.cell? ⟨b0, o0 + i * 6 + 2, none⟩ = some (.int .i64 y2) := (HBp.out.cell (p := ⟨b0, o0 + i * 6 + 2, none⟩) hbl).trans (HCC.out 2 _ rfl)
            have c3 : wp.cell? ⟨b0, o0 + i * 6 + 3, none⟩ = some (.int .i64 y3) := (HBp.out.cell (p := ⟨b0, o0 + i * 6 + 3, none⟩) hbl).trans (HCC.out 3 _ rfl)
            have c4 : wp.cell? ⟨b0, o0 + i * 6 + 4, none⟩ = some (.int .i64 y4) := (HBp.out.cell (p := ⟨b0, o0 + i * 6 + 4, none⟩) hbl).trans (HCC.out 4 _ rfl)
            have c5 : wp.cell? ⟨b0, o0 + i * 6 + 5, none⟩ = some (.int .i64 y5) := (HBp.out.cell (p := ⟨b0, o0 + i * 6 + 5, none⟩) hbl).trans (HCC.out 5 _ rfl)
            go_wp2_with fail
            go_roundw
            case rel => exact ⟨i + 1, _, true, by go_num, rfl, HOp.out, by show _ ≤ _; omega, hal2.out, hR2.out, HBp.out⟩
            case measure => simp [intOf]; omega
          · have tne : (y0 != x0) = true := by simp [heq]
            have eg : (!decide (([y0, y1, y2, y3, y4, y5] : List Int).headD 0 < x0)) = true := by simp; omega
            have en : (!isId x0 ([y0, y1, y2, y3, y4, y5] : List Int)) = true := by simp [isId]; try omega
            have hR2 : Hid ((acc ++ [[x0, x1, x2, x3, x4, x5], [y0, y1, y2, y3, y4, y5]]) ++ setK (fun r => !decide (r.headD 0 < x0)) (fun r => !isId x0 r) [x0, x1, x2, x3, x4, x5] true (b.o.drop (i + 1)) = setH x0 [x0, x1, x2, x3, x4, x5] (x4 == 0) b.o) := (by
              have h := hrest.out
              rw [HS.out, eg, en] at h
              show _ = _
              simpa using h)
            have hal2 : Hid ((acc ++ [[x0, x1, x2, x3, x4, x5], [y0, y1, y2, y3, y4, y5]]).length ≤ 2 * (i + 1)) := (by have := hal.out; show _ ≤ _; first | omega | (simp; omega))
            clear eg en
            have cb := (hBr.out.cell (p := ⟨w.heap.size, 2, none⟩) (Array.getElem?_eq_some_iff.1 K1.out).1).trans (cells_of_blk K1.out 2 _ rfl)
            have q0 := (hBr.out.cell (p := ⟨w.heap.size + 1, 0, none⟩) (Array.getElem?_eq_some_iff.1 K2.out).1).trans (cells_of_blk K2.out 0 _ rfl)
            have q1 := (hBr.out.cell (p := ⟨w.heap.size + 1, 1, none⟩) (Array.getElem?_eq_some_iff.1 K2.out).1).trans (cells_of_blk K2.out 1 _ rfl)
            have q2 := (hBr.out.cell (p := ⟨w.heap.size + 1, 2, none⟩) (Array.getElem?_eq_some_iff.1 K2.out).1).trans (cells_of_blk K2.out 2 _ rfl)
            have q3 := (hBr.out.cell (p := ⟨w.heap.size + 1, 3, none⟩) (Array.getElem?_eq_some_iff.1 K2.out).1).trans (cells_of_blk K2.out 3 _ rfl)
            have q4 := (hBr.out.cell (p := ⟨w.heap.size + 1, 4, none⟩) (Array.getElem?_eq_some_iff.1 K2.out).1).trans (cells_of_blk K2.out 4 _ rfl)
            have q5 := (hBr.out.cell (p := ⟨w.heap.size + 1, 5, none⟩) (Array.getElem?_eq_some_iff.1 K2.out).1).trans (cells_of_blk K2.out 5 _ rfl)
            have c0 : wr.cell? ⟨b0, o0 + i * 6, none⟩ = some (.int .i64 y0) := (hBr.out.cell (p := ⟨b0, o0 + i * 6 + 0, none⟩) hbl).trans (HCC.out 0 _ rfl)
            have c1 : wr.cell? ⟨b0, o0 + i * 6 + 1, none⟩ = some (.int .i64 y1) := (hBr.out.cell (p := ⟨b0, o0 + i * 6 + 1, none⟩) hbl).trans (HCC.out 1 _ rfl)
            have c2 : wr.cell? ⟨b0, o0 + i * 6 + 2, none⟩ = some (.int .i64 y2) := (hBr.out.cell (p := ⟨b0, o0 + i * 6 + 2, none⟩) hbl).trans (HCC.out 2 _ rfl)
            have c3 : wr.cell? ⟨b0, o0 + i * 6 + 3, none⟩ = some (.int .i64 y3) := (hBr.out.cell (p := ⟨b0, o0 + i * 6 + 3, none⟩) hbl).trans (HCC.out 3 _ rfl)
            have c4 : wr.cell? ⟨b0, o0 + i * 6 + 4, none⟩ = some (.int .i64 y4) := (hBr.out.cell (p := ⟨b0, o0 + i * 6 + 4, none⟩) hbl).trans (HCC.out 4 _ rfl)
            have c5 : wr.cell? ⟨b0, o0 + i * 6 + 5, none⟩ = some (.int .i64 y5) := (hBr.out.cell (p := ⟨b0, o0 + i * 6 + 5, none⟩) hbl).trans (HCC.out 5 _ rfl)
            go_wp2_with fail
            go_quiet (fail)
            have HBq := Lib.hid (below_drewN hBr.out nq)
            have HOq := Lib.hid (HO.out.kept (below_drewN (Below.refl _ _) nq))
            have hSq : w0.heap.size ≤ (wr.drewN nq).heap.size := hBr.out.size
            generalize wr.drewN nq = wq at *
            clear cb q0 c0 q1 c1 q2 c2 q3 c3 q4 c4 q5 c5
            have cb := (HBq.out.cell (p := ⟨w.heap.size, 2, none⟩) (Array.getElem?_eq_some_iff.1 K1.out).1).trans (cells_of_blk K1.out 2 _ rfl)
            have q0 := (HBq.out.cell (p := ⟨w.heap.size + 1, 0, none⟩) (Array.getElem?_eq_some_iff.1 K2.out).1).trans (cells_of_blk K2.out 0 _ rfl)
            have q1 := (HBq.out.cell (p := ⟨w.heap.size + 1, 1, none⟩) (Array.getElem?_eq_some_iff.1 K2.out).1).trans (cells_of_blk K2.out 1 _ rfl)
            have q2 := (HBq.out.cell (p := ⟨w.heap.size + 1, 2, none⟩) (Array.getElem?_eq_some_iff.1 K2.out).1).trans (cells_of_blk K2.out 2 _ rfl)
            have q3 := (HBq.out.cell (p := ⟨w.heap.size + 1, 3, none⟩) (Array.getElem?_eq_some_iff.1 K2.out).1).trans (cells_of_blk K2.out 3 _ rfl)
            have q4 := (HBq.out.cell (p := ⟨w.heap.size + 1, 4, none⟩) (Array.getElem?_eq_some_iff.1 K2.out).1).trans (cells_of_blk K2.out 4 _ rfl)
            have q5 := (HBq.out.cell (p := ⟨w.heap.size + 1, 5, none⟩) (Array.getElem?_eq_some_iff.1 K2.out).1).trans (cells_of_blk K2.out 5 _ rfl)
            have c0 : wq.cell? ⟨b0, o0 + i * 6, none⟩ = some (.int .i64 y0) := (HBq.out.cell (p := ⟨b0, o0 + i * 6 + 0, none⟩) hbl).trans (HCC.out 0 _ rfl)
            have c1 : wq.cell? ⟨b0, o0 + i * 6 + 1, none⟩ = some (.int .i64 y1) := (HBq.out.cell (p := ⟨b0, o0 + i * 6 + 1, none⟩) hbl).trans (HCC.out 1 _ rfl)
            have c2 : wq.cell? ⟨b0, o0 + i * 6 + 2, none⟩ = some (.int .i64 y2) := (HBq.out.cell (p := ⟨b0, o0 + i * 6 + 2, none⟩) hbl).trans (HCC.out 2 _ rfl)
            have c3 : wq.cell? ⟨b0, o0 + i * 6 + 3, none⟩ = some (.int .i64 y3) := (HBq.out.cell (p := ⟨b0, o0 + i * 6 + 3, none⟩) hbl).trans (HCC.out 3 _ rfl)
            have c4 : wq.cell? ⟨b0, o0 + i * 6 + 4, none⟩ = some (.int .i64 y4) := (HBq.out.cell (p := ⟨b0, o0 + i * 6 + 4, none⟩) hbl).trans (HCC.out 4 _ rfl)
            have c5 : wq.cell? ⟨b0, o0 + i * 6 + 5, none⟩ = some (.int .i64 y5) := (HBq.out.cell (p := ⟨b0, o0 + i * 6 + 5, none⟩) hbl).trans (HCC.out 5 _ rfl)
            go_wp2_with (at_builtin; refine wpList_append_rec (W := w0) _ _ 34 43 (.agg #[.int .i64 0, .int .i64 0, .int .i64 0, .int .i64 0, .int .i64 0, .int .i64 0]) 6 48 el_Open [x0, x1, x2, x3, x4, x5] _ acc HBq.out HOq hSq rfl rfl rfl rfl rfl (by have := hal.out; omega) (by decide) ?_)
            intro v2 w2 hO2 hB2 hS2
            clear cb q0 c0 q1 c1 q2 c2 q3 c3 q4 c4 q5 c5
            have cb := (hB2.out.cell (p := ⟨w.heap.size, 2, none⟩) (Array.getElem?_eq_some_iff.1 K1.out).1).trans (cells_of_blk K1.out 2 _ rfl)
            have q0 := (hB2.out.cell (p := ⟨w.heap.size + 1, 0, none⟩) (Array.getElem?_eq_some_iff.1 K2.out).1).trans (cells_of_blk K2.out 0 _ rfl)
            have q1 := (hB2.out.cell (p := ⟨w.heap.size + 1, 1, none⟩) (Array.getElem?_eq_some_iff.1 K2.out).1).trans (cells_of_blk K2.out 1 _ rfl)
            have q2 := (hB2.out.cell (p := ⟨w.heap.size + 1, 2, none⟩) (Array.getElem?_eq_some_iff.1 K2.out).1).trans (cells_of_blk K2.out 2 _ rfl)
            have q3 := (hB2.out.cell (p := ⟨w.heap.size + 1, 3, none⟩) (Array.getElem?_eq_some_iff.1 K2.out).1).trans (cells_of_blk K2.out 3 _ rfl)
            have q4 := (hB2.out.cell (p := ⟨w.heap.size + 1, 4, none⟩) (Array.getElem?_eq_some_iff.1 K2.out).1).trans (cells_of_blk K2.out 4 _ rfl)
            have q5 := (hB2.out.cell (p := ⟨w.heap.size + 1, 5, none⟩) (Array.getElem?_eq_some_iff.1 K2.out).1).trans (cells_of_blk K2.out 5 _ rfl)
            have c0 : w2.cell? ⟨b0, o0 + i * 6, none⟩ = some (.int .i64 y0) := (hB2.out.cell (p := ⟨b0, o0 + i * 6 + 0, none⟩) hbl).trans (HCC.out 0 _ rfl)
            have c1 : w2.cell? ⟨b0, o0 + i * 6 + 1, none⟩ = some (.int .i64 y1) := (hB2.out.cell (p := ⟨b0, o0 + i * 6 + 1, none⟩) hbl).trans (HCC.out 1 _ rfl)
            have c2 : w2.cell? ⟨b0, o0 + i * 6 + 2, none⟩ = some (.int .i64 y2) := (hB2.out.cell (p := ⟨b0, o0 + i * 6 + 2, none⟩) hbl).trans (HCC.out 2 _ rfl)
            have c3 : w2.cell? ⟨b0, o0 + i * 6 + 3, none⟩ = some (.int .i64 y3) := (hB2.out.cell (p := ⟨b0, o0 + i * 6 + 3, none⟩) hbl).trans (HCC.out 3 _ rfl)
            have c4 : w2.cell? ⟨b0, o0 + i * 6 + 4, none⟩ = some (.int .i64 y4) := (hB2.out.cell (p := ⟨b0, o0 + i * 6 + 4, none⟩) hbl).trans (HCC.out 4 _ rfl)
            have c5 : w2.cell? ⟨b0, o0 + i * 6 + 5, none⟩ = some (.int .i64 y5) := (hB2.out.cell (p := ⟨b0, o0 + i * 6 + 5, none⟩) hbl).trans (HCC.out 5 _ rfl)
            go_wp2_with fail
            go_quiet (fail)
            have HBp := Lib.hid (below_drewN hB2.out nq)
            have HOp := Lib.hid (hO2.out.kept (below_drewN (Below.refl _ _) nq))
            have hSp : w0.heap.size ≤ (w2.drewN nq).heap.size := hB2.out.size
            generalize w2.drewN nq = wp at *
            clear cb q0 c0 q1 c1 q2 c2 q3 c3 q4 c4 q5 c5
            have cb := (HBp.out.cell (p := ⟨w.heap.size, 2, none⟩) (Array.getElem?_eq_some_iff.1 K1.out).1).trans (cells_of_blk K1.out 2 _ rfl)
            have q0 := (HBp.out.cell (p := ⟨w.heap.size + 1, 0, none⟩) (Array.getElem?_eq_some_iff.1 K2.out).1).trans (cells_of_blk K2.out 0 _ rfl)
            have q1 := (HBp.out.cell (p := ⟨w.heap.size + 1, 1, none⟩) (Array.getElem?_eq_some_iff.1 K2.out).1).trans (cells_of_blk K2.out 1 _ rfl)
            have q2 := (HBp.out.cell (p := ⟨w.heap.size + 1, 2, none⟩) (Array.getElem?_eq_some_iff.1 K2.out).1).trans (cells_of_blk K2.out 2 _ rfl)
            have q3 := (HBp.out.cell (p := ⟨w.heap.size + 1, 3, none⟩) (Array.getElem?_eq_some_iff.1 K2.out).1).trans (cells_of_blk K2.out 3 _ rfl)
            have q4 := (HBp.out.cell (p := ⟨w.heap.size + 1, 4, none⟩) (Array.getElem?_eq_some_iff.1 K2.out).1).trans (cells_of_blk K2.out 4 _ rfl)
            have q5 := (HBp.out.cell (p := ⟨w.heap.size + 1, 5, none⟩) (Array.getElem?_eq_some_iff.1 K2.out).1).trans (cells_of_blk K2.out 5 _ rfl)
            have c0 : wp.cell? ⟨b0, o0 + i * 6, none⟩ = some (.int .i64 y0) := (HBp.out.cell (p := ⟨b0, o0 + i * 6 + 0, none⟩) hbl).trans (HCC.out 0 _ rfl)
            have c1 : wp.cell? ⟨b0, o0 + i * 6 + 1, none⟩ = some (.int .i64 y1) := (HBp.out.cell (p := ⟨b0, o0 + i * 6 + 1, none⟩) hbl).trans (HCC.out 1 _ rfl)
            have c2 : wp.cell? ⟨b0, o0 + i * 6 + 2, none⟩ = some (.int .i64 y2) := (HBp.out.cell (p := ⟨b0, o0 + i * 6 + 2, none⟩) hbl).trans (HCC.out 2 _ rfl)
            have c3 : wp.cell? ⟨b0, o0 + i * 6 + 3, none⟩ = some (.int .i64 y3) := (HBp.out.cell (p := ⟨b0, o0 + i * 6 + 3, none⟩) hbl).trans (HCC.out 3 _ rfl)
            have c4 : wp.cell? ⟨b0, o0 + i * 6 + 4, none⟩ = some (.int .i64 y4) := (HBp.out.cell (p := ⟨b0, o0 + i * 6 + 4, none⟩) hbl).trans (HCC.out 4 _ rfl)
            have c5 : wp.cell? ⟨b0, o0 + i * 6 + 5, none⟩ = some (.int .i64 y5) := (HBp.out.cell (p := ⟨b0, o0 + i * 6 + 5, none⟩) hbl).trans (HCC.out 5 _ rfl)
            go_wp2_with (at_builtin; refine wpList_append_rec (W := w0) _ _ 34 43 (.agg #[.int .i64 0, .int .i64 0, .int .i64 0, .int .i64 0, .int .i64 0, .int .i64 0]) 6 48 el_Open [y0, y1, y2, y3, y4, y5] _ (acc ++ [[x0, x1, x2, x3, x4, x5]]) HBp.out HOp hSp rfl rfl rfl rfl rfl (by have := hal.out; first | omega | (simp; omega)) (by decide) ?_)
            intro v3 w3 hO3 hB3 hS3
            clear cb q0 c0 q1 c1 q2 c2 q3 c3 q4 c4 q5 c5
            go_wp2_with fail
            go_roundw
            case rel => exact ⟨i + 1, _, true, by go_num, rfl, hO3.out, by show _ ≤ _; omega, hal2.out, hR2.out, hB3.out⟩
            case measure => simp [intOf]; omega
    · have tn : decide ((i : Int) < (b.o.length : Int)) = false := decide_eq_false (by omega)
      have hR := hrest.out
      rw [List.drop_eq_nil_of_le (by omega)] at hR
      clear cb q0 q1 q2 q3 q4 q5
      have cb := (hBr.out.cell (p := ⟨w.heap.size, 2, none⟩) (Array.getElem?_eq_some_iff.1 K1.out).1).trans (cells_of_blk K1.out 2 _ rfl)
      cases done with
      | true =>
        have hR2 : Hid (acc = setH x0 [x0, x1, x2, x3, x4, x5] (x4 == 0) b.o) := (by show _ = _; simpa [setK] using hR)
        clear hR
        obtain ⟨A5, c5', rfl⟩ := HO.out.form
        have n1 := (hBr.out.block _ (Array.getElem?_eq_some_iff.1 K1.out).1).trans K1.out
        have n3 := (hBr.out.block _ (Array.getElem?_eq_some_iff.1 K3.out).1).trans K3.out
        have p0 := cells_of_blk n1 0 _ rfl
        have v0 := cells_of_blk n3 0 _ rfl
        have vf0 := free_of_blk n3 0
        have p1 := cells_of_blk n1 1 _ rfl
        have v1 := cells_of_blk n3 1 _ rfl
        have vf1 := free_of_blk n3 1
        have p2 := cells_of_blk n1 2 _ rfl
        have v2 := cells_of_blk n3 2 _ rfl
        have vf2 := free_of_blk n3 2
        have p3 := cells_of_blk n1 3 _ rfl
        have v3 := cells_of_blk n3 3 _ rfl
        have vf3 := free_of_blk n3 3
        have p4 := cells_of_blk n1 4 _ rfl
        have v4 := cells_of_blk n3 4 _ rfl
        have vf4 := free_of_blk n3 4
        have pf := free_of_blk n1 2
        obtain ⟨w4, hw4⟩ : ∃ w4, wr.setCell ⟨w.heap.size, 2, none⟩ (.slice A5 acc.length c5') = w4 := ⟨_, rfl⟩
        have O3 : Hid (w4.heap[w.heap.size + 2]? = some (.cells #[.slice none 0 0, .slice none 0 0, .slice none 0 0, .slice none 0 0, .int .i64 0] 37 (0, 0))) := by rw [← hw4]; exact set_oth n3 2 _ (by omega)
        have hlt0 : w.heap.size < w0.heap.size := (Array.getElem?_eq_some_iff.1 K1.out).1
        have G4 : Hid (RowOwn w4 w0.heap.size 43 (.slice A5 acc.length c5') 6 (acc)) := by rw [← hw4]; exact RowOwn.setBelow (a := ⟨_, _, _⟩) HO.out hlt0 _
        have HB4 : Hid (Below w.heap.size w w4) := by rw [← hw4]; exact Below.setCell (p := ⟨_, _, _⟩) (HB0.out.trans (hBr.out.mono HB0.out.size)) (Nat.le_refl _) _
        replace hw4 := Lib.hid hw4
        clear n1 n3
        have t0 := cells_of_blk O3.out 0 _ rfl
        have t1 := cells_of_blk O3.out 1 _ rfl
        have t2 := cells_of_blk O3.out 2 _ rfl
        have t3 := cells_of_blk O3.out 3 _ rfl
        have t4 := cells_of_blk O3.out 4 _ rfl
        have tf0 := free_of_blk O3.out 0
        have tf1 := free_of_blk O3.out 1
        have tf2 := free_of_blk O3.out 2
        have tf3 := free_of_blk O3.out 3
        have tf4 := free_of_blk O3.out 4
        go_wp2_with fail
        rw [hw4.out]
        refine bodyPost_ret (v := .agg #[.slice Ah b.h.length ch, .slice As b.s.length cs, .slice A5 acc.length c5', .slice Ar b.r.length cr, .int .i64 b.n]) ?_ rfl ⟨_, rfl, ?_, ?_⟩
        · simp [results, Try.results25, go_sem, t0, t1, t2, t3, t4]
        · have hl2 : w.heap.size ≤ w.heap.size + 2 := by omega
          have hl3 : w.heap.size + 2 < w0.heap.size := (Array.getElem?_eq_some_iff.1 K3.out).1
          have HF := set5_belowR HB4.out hl2 (.slice Ah b.h.length ch) (.slice As b.s.length cs) (.slice A5 acc.length c5') (.slice Ar b.r.length cr) (.int .i64 b.n)
          have GF := G4.out.set5R hl3 (.slice Ah b.h.length ch) (.slice As b.s.length cs) (.slice A5 acc.length c5') (.slice Ar b.r.length cr) (.int .i64 b.n)
          obtain ⟨_, _, _, _, hh, g1, g2, g3, g4⟩ := HBK.out.call HF
          injection hh with hh
          simp only [Array.mk.injEq, List.cons.injEq] at hh
          obtain ⟨rfl, rfl, rfl, rfl, _⟩ := hh
          have GF2 := GF.row
          have hacc := hR2.out
          generalize acc = L0 at *
          subst hacc
          exact ⟨_, _, _, _, rfl, g1, g2, GF2, g4⟩
        · have hl2 : w.heap.size ≤ w.heap.size + 2 := by omega
          exact set5_belowR HB4.out hl2 (.slice Ah b.h.length ch) (.slice As b.s.length cs) (.slice A5 acc.length c5') (.slice Ar b.r.length cr) (.int .i64 b.n)
      | false =>
        have hR2 : Hid (acc ++ [[x0, x1, x2, x3, x4, x5]] = setH x0 [x0, x1, x2, x3, x4, x5] (x4 == 0) b.o) := (by show _ = _; simpa [setK] using hR)
        clear hR
        have hSr : w0.heap.size ≤ wr.heap.size := hBr.out.size
        have q0 := (hBr.out.cell (p := ⟨w.heap.size + 1, 0, none⟩) (Array.getElem?_eq_some_iff.1 K2.out).1).trans (cells_of_blk K2.out 0 _ rfl)
        have q1 := (hBr.out.cell (p := ⟨w.heap.size + 1, 1, none⟩) (Array.getElem?_eq_some_iff.1 K2.out).1).trans (cells_of_blk K2.out 1 _ rfl)
        have q2 := (hBr.out.cell (p := ⟨w.heap.size + 1, 2, none⟩) (Array.getElem?_eq_some_iff.1 K2.out).1).trans (cells_of_blk K2.out 2 _ rfl)
        have q3 := (hBr.out.cell (p := ⟨w.heap.size + 1, 3, none⟩) (Array.getElem?_eq_some_iff.1 K2.out).1).trans (cells_of_blk K2.out 3 _ rfl)
        have q4 := (hBr.out.cell (p := ⟨w.heap.size + 1, 4, none⟩) (Array.getElem?_eq_some_iff.1 K2.out).1).trans (cells_of_blk K2.out 4 _ rfl)
        have q5 := (hBr.out.cell (p := ⟨w.heap.size + 1, 5, none⟩) (Array.getElem?_eq_some_iff.1 K2.out).1).trans (cells_of_blk K2.out 5 _ rfl)
        go_wp2_with (at_builtin; refine wpList_append_rec (W := w0) _ _ 34 43 (.agg #[.int .i64 0, .int .i64 0, .int .i64 0, .int .i64 0, .int .i64 0, .int .i64 0]) 6 48 el_Open [x0, x1, x2, x3, x4, x5] _ acc hBr.out HO hSr rfl rfl rfl rfl rfl (by have := hal.out; omega) (by decide) ?_)
        intro v2 w2 hO2 hB2 hS2
        clear cb q0 q1 q2 q3 q4 q5
        obtain ⟨A5, c5', hfm⟩ := hO2.out.form
        rw [show (acc ++ [[x0, x1, x2, x3, x4, x5]]).length = acc.length + 1 from by simp] at hfm
        subst hfm
        have n1 := (hB2.out.block _ (Array.getElem?_eq_some_iff.1 K1.out).1).trans K1.out
        have n3 := (hB2.out.block _ (Array.getElem?_eq_some_iff.1 K3.out).1).trans K3.out
        have p0 := cells_of_blk n1 0 _ rfl
        have v0 := cells_of_blk n3 0 _ rfl
        have vf0 := free_of_blk n3 0
        have p1 := cells_of_blk n1 1 _ rfl
        have v1 := cells_of_blk n3 1 _ rfl
        have vf1 := free_of_blk n3 1
        have p2 := cells_of_blk n1 2 _ rfl
        have v2 := cells_of_blk n3 2 _ rfl
        have vf2 := free_of_blk n3 2
        have p3 := cells_of_blk n1 3 _ rfl
        have v3 := cells_of_blk n3 3 _ rfl
        have vf3 := free_of_blk n3 3
        have p4 := cells_of_blk n1 4 _ rfl
        have v4 := cells_of_blk n3 4 _ rfl
        have vf4 := free_of_blk n3 4
        have pf := free_of_blk n1 2
        obtain ⟨w4, hw4⟩ : ∃ w4, w2.setCell ⟨w.heap.size, 2, none⟩ (.slice A5 (acc.length + 1) c5') = w4 := ⟨_, rfl⟩
        have O3 : Hid (w4.heap[w.heap.size + 2]? = some (.cells #[.slice none 0 0, .slice none 0 0, .slice none 0 0, .slice none 0 0, .int .i64 0] 37 (0, 0))) := by rw [← hw4]; exact set_oth n3 2 _ (by omega)
        have hlt0 : w.heap.size < w0.heap.size := (Array.getElem?_eq_some_iff.1 K1.out).1
        have G4 : Hid (RowOwn w4 w0.heap.size 43 (.slice A5 (acc.length + 1) c5') 6 (acc ++ [[x0, x1, x2, x3, x4, x5]])) := by rw [← hw4]; exact RowOwn.setBelow (a := ⟨_, _, _⟩) hO2.out hlt0 _
        have HB4 : Hid (Below w.heap.size w w4) := by rw [← hw4]; exact Below.setCell (p := ⟨_, _, _⟩) (HB0.out.trans (hB2.out.mono HB0.out.size)) (Nat.le_refl _) _
        replace hw4 := Lib.hid hw4
        clear n1 n3
        have t0 := cells_of_blk O3.out 0 _ rfl
        have t1 := cells_of_blk O3.out 1 _ rfl
        have t2 := cells_of_blk O3.out 2 _ rfl
        have t3 := cells_of_blk O3.out 3 _ rfl
        have t4 := cells_of_blk O3.out 4 _ rfl
        have tf0 := free_of_blk O3.out 0
        have tf1 := free_of_blk O3.out 1
        have tf2 := free_of_blk O3.out 2
        have tf3 := free_of_blk O3.out 3
        have tf4 := free_of_blk O3.out 4
        go_wp2_with fail
        rw [hw4.out]
        refine bodyPost_ret (v := .agg #[.slice Ah b.h.length ch, .slice As b.s.length cs, .slice A5 (acc.length + 1) c5', .slice Ar b.r.length cr, .int .i64 b.n]) ?_ rfl ⟨_, rfl, ?_, ?_⟩
        · simp [results, Try.results25, go_sem, t0, t1, t2, t3, t4]
        · have hl2 : w.heap.size ≤ w.heap.size + 2 := by omega
          have hl3 : w.heap.size + 2 < w0.heap.size := (Array.getElem?_eq_some_iff.1 K3.out).1
          have HF := set5_belowR HB4.out hl2 (.slice Ah b.h.length ch) (.slice As b.s.length cs) (.slice A5 (acc.length + 1) c5') (.slice Ar b.r.length cr) (.int .i64 b.n)
          have GF := G4.out.set5R hl3 (.slice Ah b.h.length ch) (.slice As b.s.length cs) (.slice A5 (acc.length + 1) c5') (.slice Ar b.r.length cr) (.int .i64 b.n)
          obtain ⟨_, _, _, _, hh, g1, g2, g3, g4⟩ := HBK.out.call HF
          injection hh with hh
          simp only [Array.mk.injEq, List.cons.injEq] at hh
          obtain ⟨rfl, rfl, rfl, rfl, _⟩ := hh
          have GF2 := GF.row
          rw [show acc ++ [[x0, x1, x2, x3, x4, x5]] = _ from hR2.out] at GF2
          exact ⟨_, _, _, _, rfl, g1, g2, GF2, g4⟩
        · have hl2 : w.heap.size ≤ w.heap.size + 2 := by omega
          exact set5_belowR HB4.out hl2 (.slice Ah b.h.length ch) (.slice As b.s.length cs) (.slice A5 (acc.length + 1) c5') (.slice Ar b.r.length cr) (.int .i64 b.n)

end Go.Proofs.Ytfkfpppiikgjbaa
