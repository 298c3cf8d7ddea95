/- Books: the reference's SetStake. PRINTED BY genBookT.py. -/
import Derived.Test.YtfkfpppiikgjbaaBookR
namespace Go.Proofs.Ytfkfpppiikgjbaa
open Go Go.RowKit
set_option linter.unusedVariables false
set_option linter.unusedSimpArgs false

section
variable {P : Program} {ops : Array Oper} {rest : List Oper} {o : Oper} {a : Act} {Q : Exit → Act → World → Prop}
/-- 'append(out, x)', x a record that lies in the block that was just laid; what else there is stays. -/
theorem wpList_append_recG {wr W : World} {B p : Nat} (s x : Operand) (t e : TypeId) (z : Value) (k bytes : Nat) (he : Elt P t e z k bytes) (r : List Int) (v : Value) (l : List (List Int))
    (hb : Below B W wr) (hown : Hid (RowOwn wr B e v k l)) (hB : B ≤ wr.heap.size) (hgd : o.guard = none) (ho : o.op = .call { callee := .builtin .append, args := #[s, x], argTypes := #[t, t] })
    (hs : a.eval s = v) (hx : a.eval x = .slice (some ⟨p, 0, none⟩) 1 1) (hp : p = wr.heap.size) (hr : r.length = k) (hn : l.length + 1 ≤ 4000000) (hby : bytes ≤ 64)
    (h : ∀ v' w', Hid (RowOwn w' B e v' k (l ++ [r])) → Hid (Below B W w') → B ≤ w'.heap.size → Hid (∀ (g : Nat) (ob : Obj), v.ownBlock ≠ some g → wr.heap[g]? = some ob → w'.heap[g]? = some ob) → wpList P ops Q rest (a.put o.dst v') w') :
    wpList P ops Q (o :: rest) a (wr.alloc (.cells (r.map (Value.int .i64)).toArray e)) := by
  subst hp
  obtain ⟨i, hi, hz, hsz, hbs⟩ := he.info
  obtain ⟨ho', hk⟩ := hown.out
  refine wpList_append_own _ hgd s x t ho B e i z k bytes he.und hi hz hsz hbs he.zs he.pos v l.length (flatC l) hs (ho'.alloc _) ⟨wr.heap.size, 0, none⟩ 1 1 (r.map (Value.int .i64)) hx (by rw [List.length_map, hr, Nat.one_mul]) ?_ ?_ ?_ ?_ ?_ ?_
  · intro j u hj
    rw [Addr.add_lit, Nat.zero_add]
    exact cells_of_blk (heap_new wr (.cells (r.map (Value.int .i64)).toArray e)) j u (by simpa using hj)
  · intro u hu; obtain ⟨y, _, rfl⟩ := List.mem_map.1 hu; rfl
  · unfold maxLen; omega
  · have h1 := Nat.mul_le_mul hn hby; omega
  · simp; omega
  · intro v' w' h1 h2 _
    refine h v' w' ⟨?_, ?_⟩ ((hb.alloc hB _).grown h2 (by simp; omega) (fun q hq => (ho'.lt q hq).1)) ?_ ?_
    · rw [List.length_append, flatC_append, show flatC [r] = r.map (Value.int .i64) by simp [flatC]]
      exact h1
    · intro u hu
      rcases List.mem_append.1 hu with hu | hu
      · exact hk u hu
      · simp at hu; rw [hu]; exact hr
    · have := h2.size; simp at this; omega
    · intro g ob hne hg
      have hlt := (Array.getElem?_eq_some_iff.1 hg).1
      rw [h2.block g (by simp; omega) (fun e => hne e.symm)]
      exact blk_old hg _
end

set_option maxRecDepth 100000 in
set_option maxHeartbeats 8000000 in
theorem rSetStake_any (v : Value) (b : Bk) (x0 x1 x2 : Int) (w : World) (hb : Hid (BkAt w v b)) (hl : b.s.length ≤ 1000000) :
    Calls Try.prog 24 #[v, .agg #[.int .i64 x0, .int .i64 x1, .int .i64 x2]] w fun e w' => ∃ v', e = .returned v' ∧ BkAt w' v' { b with s := setS x0 x1 [x0, x1, x2] (x2 == 0) b.s } ∧ Below w.heap.size w w' := by
  obtain ⟨vh, vs, vo, vr, rfl, h1, h2, h3, h4⟩ := hb.out
  obtain ⟨Ah, ch, rfl, _⟩ := h1.rec'
  obtain ⟨As, cs, rfl, _⟩ := h2.rec'
  obtain ⟨Ao, co, rfl, _⟩ := h3.rec'
  obtain ⟨Ar, cr, rfl, _⟩ := h4.rec'
  obtain ⟨w0, hw0⟩ : ∃ w0, ((w.alloc (.cells #[.slice Ah b.h.length ch, .slice As b.s.length cs, .slice Ao b.o.length co, .slice Ar b.r.length cr, .int .i64 b.n] 37)).alloc (.cells #[.int .i64 x0, .int .i64 x1, .int .i64 x2] 41)).alloc (.cells #[.slice none 0 0, .slice none 0 0, .slice none 0 0, .slice none 0 0, .int .i64 0] 37) = w0 := ⟨_, rfl⟩
  have HB0 : Hid (Below w.heap.size w w0) := by rw [← hw0]; exact below_alloc (below_alloc (below_alloc (Below.refl _ _) (Nat.le_refl _) _) (by simp) _) (by first | (simp; done) | (simp; omega)) _
  have K1 : Hid (w0.heap[w.heap.size]? = some (.cells #[.slice Ah b.h.length ch, .slice As b.s.length cs, .slice Ao b.o.length co, .slice Ar b.r.length cr, .int .i64 b.n] 37 (0, 0))) := by rw [← hw0]; exact blk_old (blk_old (heap_new _ _) _) _
  have K2 : Hid (w0.heap[w.heap.size + 1]? = some (.cells #[.int .i64 x0, .int .i64 x1, .int .i64 x2] 41 (0, 0))) := by rw [← hw0]; exact blk_old (blk_new _ _ _ (by simp)) _
  have K3 : Hid (w0.heap[w.heap.size + 2]? = some (.cells #[.slice none 0 0, .slice none 0 0, .slice none 0 0, .slice none 0 0, .int .i64 0] 37 (0, 0))) := by rw [← hw0]; exact blk_new _ _ _ (by simp)
  obtain ⟨A', c', hA', hi⟩ := (h2.call HB0.out).rec'
  injection hA' with hA1 _ hA3
  subst hA1 hA3
  have HI := Lib.hid hi
  have HBK : Hid (BkAt w (.agg #[.slice Ah b.h.length ch, .slice As b.s.length cs, .slice Ao b.o.length co, .slice Ar b.r.length cr, .int .i64 b.n]) b) := hb
  replace hw0 := Lib.hid hw0
  clear hb h1 h2 h3 h4 hi
  have x0c := cells_of_blk K2.out 0 _ rfl
  have x1c := cells_of_blk K2.out 1 _ rfl
  have x2c := cells_of_blk K2.out 2 _ rfl
  rw [← hw0.out] at x0c x1c x2c
  go_enter Try.func24, Try.ntmps24
  go_wp2_with fail
  rw [hw0.out]
  clear x0c x1c x2c
  go_loopw [5, 6, 7] (fun s5 s6 s7 wr => ∃ (i : Nat) (acc : List (List Int)) (done : Bool), s7 = .int .i64 i ∧ s6 = .bool done ∧ Hid (RowOwn wr w0.heap.size 41 s5 3 acc) ∧ Hid (i ≤ b.s.length) ∧ Hid (acc.length ≤ 2 * i) ∧ Hid (acc ++ setK (fun r => !decide (r.headD 0 < x0 ∨ r.headD 0 = x0 ∧ r.tail.headD 0 < x1)) (fun r => !isKey x0 x1 r) [x0, x1, x2] done (b.s.drop i) = setS x0 x1 [x0, x1, x2] (x2 == 0) b.s) ∧ Hid (Below w0.heap.size w0 wr)) (fun _ _ s7 _ => b.s.length - (intOf s7).toNat)
  case atStart => exact ⟨0, [], _, rfl, rfl, ⟨World.ownsRow_nil _ _ _ _, fun r hr => by simp at hr⟩, Nat.zero_le _, Nat.zero_le _, rfl, Below.refl _ _⟩
  case round =>
    obtain ⟨i, acc, done, rfl, rfl, HO, hil, hal, hrest, hBr⟩ := hrel
    replace hil := hil.out
    have cb := (hBr.out.cell (p := ⟨w.heap.size, 1, none⟩) (Array.getElem?_eq_some_iff.1 K1.out).1).trans (cells_of_blk K1.out 1 _ rfl)
    by_cases hin : i < b.s.length
    · have tn : decide ((i : Int) < (b.s.length : Int)) = true := decide_eq_true (by omega)
      have hge : b.s[i]? = some b.s[i] := List.getElem?_eq_getElem hin
      obtain ⟨hk, b0, o0, hA0, hbl, hc⟩ := HI.out i _ hge
      subst hA0
      have HS := Lib.hid (setK_step (ge := (fun r => !decide (r.headD 0 < x0 ∨ r.headD 0 = x0 ∧ r.tail.headD 0 < x1))) (ne := (fun r => !isKey x0 x1 r)) (x := [x0, x1, x2]) (d := done) hge)
      clear hge
      generalize b.s[i] = r at *
      obtain ⟨y0, y1, y2, rfl⟩ : ∃ y0 y1 y2, r = [y0, y1, y2] := by
        match r, hk with
        | [y0, y1, y2], _ => exact ⟨y0, y1, y2, rfl⟩
      have c0 : wr.cell? ⟨b0, o0 + i * 3, none⟩ = some (.int .i64 y0) := (hBr.out.cell (p := ⟨b0, o0 + i * 3 + 0, none⟩) hbl).trans (hc 0 _ rfl)
      have c1 : wr.cell? ⟨b0, o0 + i * 3 + 1, none⟩ = some (.int .i64 y1) := (hBr.out.cell (p := ⟨b0, o0 + i * 3 + 1, none⟩) hbl).trans (hc 1 _ rfl)
      have c2 : wr.cell? ⟨b0, o0 + i * 3 + 2, none⟩ = some (.int .i64 y2) := (hBr.out.cell (p := ⟨b0, o0 + i * 3 + 2, none⟩) hbl).trans (hc 2 _ rfl)
      have hbl3 : b0 < wr.heap.size := Nat.lt_of_lt_of_le hbl hBr.out.size
      have hwl : w.heap.size < wr.heap.size := Nat.lt_of_lt_of_le (Array.getElem?_eq_some_iff.1 K1.out).1 hBr.out.size
      have hwl1 : w.heap.size + 1 < wr.heap.size := Nat.lt_of_lt_of_le (Array.getElem?_eq_some_iff.1 K2.out).1 hBr.out.size
      have hSr : w0.heap.size ≤ wr.heap.size := hBr.out.size
      have KX : Hid ((wr.alloc (.cells #[.int .i64 y0, .int .i64 y1, .int .i64 y2] 41)).heap[wr.heap.size]? = some (.cells #[.int .i64 y0, .int .i64 y1, .int .i64 y2] 41 (0, 0))) := heap_new _ _
      have HOx : Hid (RowOwn (wr.alloc (.cells #[.int .i64 y0, .int .i64 y1, .int .i64 y2] 41)) w0.heap.size 41 u5 3 acc) := HO.out.kept (below_alloc (Below.refl _ _) (Nat.le_refl _) _)
      have hNE : Hid (u5.ownBlock ≠ some wr.heap.size) := (show _ ≠ _ from fun h => by have := (HO.out.1.lt _ h).2; omega)
      have HBx : Hid (Below w0.heap.size w0 (wr.alloc (.cells #[.int .i64 y0, .int .i64 y1, .int .i64 y2] 41))) := below_alloc hBr.out hSr _
      have hSx : Hid (w0.heap.size ≤ (wr.alloc (.cells #[.int .i64 y0, .int .i64 y1, .int .i64 y2] 41)).heap.size) := HBx.out.size
      clear hk hc
      cases done with
      | true =>
        by_cases hA : x0 < y0
        · have tA : decide (x0 < y0) = true := decide_eq_true hA
          have tN0 : (y0 != x0) = true := by simp; omega
          have eg : (!decide (([y0, y1, y2] : List Int).headD 0 < x0 ∨ ([y0, y1, y2] : List Int).headD 0 = x0 ∧ ([y0, y1, y2] : List Int).tail.headD 0 < x1)) = true := by simp; omega
          have en : (!isKey x0 x1 ([y0, y1, y2] : List Int)) = true := by simp [isKey]; try omega
          have hR2 : Hid ((acc ++ [[y0, y1, y2]]) ++ setK (fun r => !decide (r.headD 0 < x0 ∨ r.headD 0 = x0 ∧ r.tail.headD 0 < x1)) (fun r => !isKey x0 x1 r) [x0, x1, x2] true (b.s.drop (i + 1)) = setS x0 x1 [x0, x1, x2] (x2 == 0) b.s) := (by
            have h := hrest.out
            rw [HS.out, eg, en] at h
            show _ = _
            simpa using h)
          have hal2 : Hid ((acc ++ [[y0, y1, y2]]).length ≤ 2 * (i + 1)) := (by have := hal.out; show _ ≤ _; first | omega | (simp; omega))
          clear eg en
          try clear hN
          try clear hG
          try clear hE
          try clear hA
          have q0 := (hBr.out.cell (p := ⟨w.heap.size + 1, 0, none⟩) (Array.getElem?_eq_some_iff.1 K2.out).1).trans (cells_of_blk K2.out 0 _ rfl)
          have q1 := (hBr.out.cell (p := ⟨w.heap.size + 1, 1, none⟩) (Array.getElem?_eq_some_iff.1 K2.out).1).trans (cells_of_blk K2.out 1 _ rfl)
          have q2 := (hBr.out.cell (p := ⟨w.heap.size + 1, 2, none⟩) (Array.getElem?_eq_some_iff.1 K2.out).1).trans (cells_of_blk K2.out 2 _ rfl)
          go_wp2_with (at_builtin; refine wpList_append_recG (W := w0) _ _ 33 41 (.agg #[.int .i64 0, .int .i64 0, .int .i64 0]) 3 24 el_Stake [y0, y1, y2] _ (acc) HBx.out HOx hSx.out rfl rfl rfl rfl (by first | rfl | simp) rfl (by have := hal.out; first | omega | (simp; omega)) (by decide) ?_)
          intro v3 w3 hO3 hB3 hS3 _
          clear cb hbl3 hwl hwl1 q0 c0 q1 c1 q2 c2
          go_wp2_with fail
          go_roundw
          case rel => exact ⟨i + 1, _, true, by go_num, rfl, hO3.out, by show _ ≤ _; omega, hal2.out, hR2.out, hB3.out⟩
          case measure => simp [intOf]; omega
        have tA : decide (x0 < y0) = false := decide_eq_false hA
        by_cases hE : y0 = x0
        · have tE : (y0 == x0) = true := by simp [hE]
          have tN0 : (y0 != x0) = false := by simp [hE]
          by_cases hG : x1 ≤ y1
          · have tG : decide (x1 ≤ y1) = true := decide_eq_true hG
            by_cases hN : y1 = x1
            · have tN1 : (y1 != x1) = false := by simp [hN]
              have eg : (!decide (([y0, y1, y2] : List Int).headD 0 < x0 ∨ ([y0, y1, y2] : List Int).headD 0 = x0 ∧ ([y0, y1, y2] : List Int).tail.headD 0 < x1)) = true := by simp; omega
              have en : (!isKey x0 x1 ([y0, y1, y2] : List Int)) = false := by simp [isKey]; try omega
              have hR2 : Hid ((acc) ++ setK (fun r => !decide (r.headD 0 < x0 ∨ r.headD 0 = x0 ∧ r.tail.headD 0 < x1)) (fun r => !isKey x0 x1 r) [x0, x1, x2] true (b.s.drop (i + 1)) = setS x0 x1 [x0, x1, x2] (x2 == 0) b.s) := (by
                have h := hrest.out
                rw [HS.out, eg, en] at h
                show _ = _
                simpa using h)
              have hal2 : Hid ((acc).length ≤ 2 * (i + 1)) := (by have := hal.out; show _ ≤ _; first | omega | (simp; omega))
              clear eg en
              try clear hN
              try clear hG
              try clear hE
              try clear hA
              have q0 := (hBr.out.cell (p := ⟨w.heap.size + 1, 0, none⟩) (Array.getElem?_eq_some_iff.1 K2.out).1).trans (cells_of_blk K2.out 0 _ rfl)
              have q1 := (hBr.out.cell (p := ⟨w.heap.size + 1, 1, none⟩) (Array.getElem?_eq_some_iff.1 K2.out).1).trans (cells_of_blk K2.out 1 _ rfl)
              have q2 := (hBr.out.cell (p := ⟨w.heap.size + 1, 2, none⟩) (Array.getElem?_eq_some_iff.1 K2.out).1).trans (cells_of_blk K2.out 2 _ rfl)
              go_wp2_with fail
              go_roundw
              case rel => exact ⟨i + 1, _, true, by go_num, rfl, HOx.out, by show _ ≤ _; omega, hal2.out, hR2.out, HBx.out⟩
              case measure => simp [intOf]; omega
            · have tN1 : (y1 != x1) = true := by simp [hN]
              have eg : (!decide (([y0, y1, y2] : List Int).headD 0 < x0 ∨ ([y0, y1, y2] : List Int).headD 0 = x0 ∧ ([y0, y1, y2] : List Int).tail.headD 0 < x1)) = true := by simp; omega
              have en : (!isKey x0 x1 ([y0, y1, y2] : List Int)) = true := by simp [isKey]; try omega
              have hR2 : Hid ((acc ++ [[y0, y1, y2]]) ++ setK (fun r => !decide (r.headD 0 < x0 ∨ r.headD 0 = x0 ∧ r.tail.headD 0 < x1)) (fun r => !isKey x0 x1 r) [x0, x1, x2] true (b.s.drop (i + 1)) = setS x0 x1 [x0, x1, x2] (x2 == 0) b.s) := (by
                have h := hrest.out
                rw [HS.out, eg, en] at h
                show _ = _
                simpa using h)
              have hal2 : Hid ((acc ++ [[y0, y1, y2]]).length ≤ 2 * (i + 1)) := (by have := hal.out; show _ ≤ _; first | omega | (simp; omega))
              clear eg en
              try clear hN
              try clear hG
              try clear hE
              try clear hA
              have q0 := (hBr.out.cell (p := ⟨w.heap.size + 1, 0, none⟩) (Array.getElem?_eq_some_iff.1 K2.out).1).trans (cells_of_blk K2.out 0 _ rfl)
              have q1 := (hBr.out.cell (p := ⟨w.heap.size + 1, 1, none⟩) (Array.getElem?_eq_some_iff.1 K2.out).1).trans (cells_of_blk K2.out 1 _ rfl)
              have q2 := (hBr.out.cell (p := ⟨w.heap.size + 1, 2, none⟩) (Array.getElem?_eq_some_iff.1 K2.out).1).trans (cells_of_blk K2.out 2 _ rfl)
              go_wp2_with (at_builtin; refine wpList_append_recG (W := w0) _ _ 33 41 (.agg #[.int .i64 0, .int .i64 0, .int .i64 0]) 3 24 el_Stake [y0, y1, y2] _ (acc) HBx.out HOx hSx.out rfl rfl rfl rfl (by first | rfl | simp) rfl (by have := hal.out; first | omega | (simp; omega)) (by decide) ?_)
              intro v3 w3 hO3 hB3 hS3 _
              clear cb hbl3 hwl hwl1 q0 c0 q1 c1 q2 c2
              go_wp2_with fail
              go_roundw
              case rel => exact ⟨i + 1, _, true, by go_num, rfl, hO3.out, by show _ ≤ _; omega, hal2.out, hR2.out, hB3.out⟩
              case measure => simp [intOf]; omega
          · have tG : decide (x1 ≤ y1) = false := decide_eq_false hG
            have tN1 : (y1 != x1) = true := by simp; omega
            have eg : (!decide (([y0, y1, y2] : List Int).headD 0 < x0 ∨ ([y0, y1, y2] : List Int).headD 0 = x0 ∧ ([y0, y1, y2] : List Int).tail.headD 0 < x1)) = false := by simp; omega
            have en : (!isKey x0 x1 ([y0, y1, y2] : List Int)) = true := by simp [isKey]; try omega
            have hR2 : Hid ((acc ++ [[y0, y1, y2]]) ++ setK (fun r => !decide (r.headD 0 < x0 ∨ r.headD 0 = x0 ∧ r.tail.headD 0 < x1)) (fun r => !isKey x0 x1 r) [x0, x1, x2] true (b.s.drop (i + 1)) = setS x0 x1 [x0, x1, x2] (x2 == 0) b.s) := (by
              have h := hrest.out
              rw [HS.out, eg, en] at h
              show _ = _
              simpa using h)
            have hal2 : Hid ((acc ++ [[y0, y1, y2]]).length ≤ 2 * (i + 1)) := (by have := hal.out; show _ ≤ _; first | omega | (simp; omega))
            clear eg en
            try clear hN
            try clear hG
            try clear hE
            try clear hA
            have q0 := (hBr.out.cell (p := ⟨w.heap.size + 1, 0, none⟩) (Array.getElem?_eq_some_iff.1 K2.out).1).trans (cells_of_blk K2.out 0 _ rfl)
            have q1 := (hBr.out.cell (p := ⟨w.heap.size + 1, 1, none⟩) (Array.getElem?_eq_some_iff.1 K2.out).1).trans (cells_of_blk K2.out 1 _ rfl)
            have q2 := (hBr.out.cell (p := ⟨w.heap.size + 1, 2, none⟩) (Array.getElem?_eq_some_iff.1 K2.out).1).trans (cells_of_blk K2.out 2 _ rfl)
            go_wp2_with (at_builtin; refine wpList_append_recG (W := w0) _ _ 33 41 (.agg #[.int .i64 0, .int .i64 0, .int .i64 0]) 3 24 el_Stake [y0, y1, y2] _ (acc) HBx.out HOx hSx.out rfl rfl rfl rfl (by first | rfl | simp) rfl (by have := hal.out; first | omega | (simp; omega)) (by decide) ?_)
            intro v3 w3 hO3 hB3 hS3 _
            clear cb hbl3 hwl hwl1 q0 c0 q1 c1 q2 c2
            go_wp2_with fail
            go_roundw
            case rel => exact ⟨i + 1, _, true, by go_num, rfl, hO3.out, by show _ ≤ _; omega, hal2.out, hR2.out, hB3.out⟩
            case measure => simp [intOf]; omega
        · have tE : (y0 == x0) = false := by simp [hE]
          have tN0 : (y0 != x0) = true := by simp [hE]
          have eg : (!decide (([y0, y1, y2] : List Int).headD 0 < x0 ∨ ([y0, y1, y2] : List Int).headD 0 = x0 ∧ ([y0, y1, y2] : List Int).tail.headD 0 < x1)) = false := by simp; omega
          have en : (!isKey x0 x1 ([y0, y1, y2] : List Int)) = true := by simp [isKey]; try omega
          have hR2 : Hid ((acc ++ [[y0, y1, y2]]) ++ setK (fun r => !decide (r.headD 0 < x0 ∨ r.headD 0 = x0 ∧ r.tail.headD 0 < x1)) (fun r => !isKey x0 x1 r) [x0, x1, x2] true (b.s.drop (i + 1)) = setS x0 x1 [x0, x1, x2] (x2 == 0) b.s) := (by
            have h := hrest.out
            rw [HS.out, eg, en] at h
            show _ = _
            simpa using h)
          have hal2 : Hid ((acc ++ [[y0, y1, y2]]).length ≤ 2 * (i + 1)) := (by have := hal.out; show _ ≤ _; first | omega | (simp; omega))
          clear eg en
          try clear hN
          try clear hG
          try clear hE
          try clear hA
          have q0 := (hBr.out.cell (p := ⟨w.heap.size + 1, 0, none⟩) (Array.getElem?_eq_some_iff.1 K2.out).1).trans (cells_of_blk K2.out 0 _ rfl)
          have q1 := (hBr.out.cell (p := ⟨w.heap.size + 1, 1, none⟩) (Array.getElem?_eq_some_iff.1 K2.out).1).trans (cells_of_blk K2.out 1 _ rfl)
          have q2 := (hBr.out.cell (p := ⟨w.heap.size + 1, 2, none⟩) (Array.getElem?_eq_some_iff.1 K2.out).1).trans (cells_of_blk K2.out 2 _ rfl)
          go_wp2_with (at_builtin; refine wpList_append_recG (W := w0) _ _ 33 41 (.agg #[.int .i64 0, .int .i64 0, .int .i64 0]) 3 24 el_Stake [y0, y1, y2] _ (acc) HBx.out HOx hSx.out rfl rfl rfl rfl (by first | rfl | simp) rfl (by have := hal.out; first | omega | (simp; omega)) (by decide) ?_)
          intro v3 w3 hO3 hB3 hS3 _
          clear cb hbl3 hwl hwl1 q0 c0 q1 c1 q2 c2
          go_wp2_with fail
          go_roundw
          case rel => exact ⟨i + 1, _, true, by go_num, rfl, hO3.out, by show _ ≤ _; omega, hal2.out, hR2.out, hB3.out⟩
          case measure => simp [intOf]; omega
      | false =>
        by_cases hA : x0 < y0
        · have tA : decide (x0 < y0) = true := decide_eq_true hA
          have tN0 : (y0 != x0) = true := by simp; omega
          have eg : (!decide (([y0, y1, y2] : List Int).headD 0 < x0 ∨ ([y0, y1, y2] : List Int).headD 0 = x0 ∧ ([y0, y1, y2] : List Int).tail.headD 0 < x1)) = true := by simp; omega
          have en : (!isKey x0 x1 ([y0, y1, y2] : List Int)) = true := by simp [isKey]; try omega
          have hR2 : Hid ((acc ++ [[x0, x1, x2], [y0, y1, y2]]) ++ setK (fun r => !decide (r.headD 0 < x0 ∨ r.headD 0 = x0 ∧ r.tail.headD 0 < x1)) (fun r => !isKey x0 x1 r) [x0, x1, x2] true (b.s.drop (i + 1)) = setS x0 x1 [x0, x1, x2] (x2 == 0) b.s) := (by
            have h := hrest.out
            rw [HS.out, eg, en] at h
            show _ = _
            simpa using h)
          have hal2 : Hid ((acc ++ [[x0, x1, x2], [y0, y1, y2]]).length ≤ 2 * (i + 1)) := (by have := hal.out; show _ ≤ _; first | omega | (simp; omega))
          clear eg en
          try clear hN
          try clear hG
          try clear hE
          try clear hA
          have q0 := (hBr.out.cell (p := ⟨w.heap.size + 1, 0, none⟩) (Array.getElem?_eq_some_iff.1 K2.out).1).trans (cells_of_blk K2.out 0 _ rfl)
          have q1 := (hBr.out.cell (p := ⟨w.heap.size + 1, 1, none⟩) (Array.getElem?_eq_some_iff.1 K2.out).1).trans (cells_of_blk K2.out 1 _ rfl)
          have q2 := (hBr.out.cell (p := ⟨w.heap.size + 1, 2, none⟩) (Array.getElem?_eq_some_iff.1 K2.out).1).trans (cells_of_blk K2.out 2 _ rfl)
          go_wp2_with (at_builtin; refine wpList_append_recG (W := w0) _ _ 33 41 (.agg #[.int .i64 0, .int .i64 0, .int .i64 0]) 3 24 el_Stake [x0, x1, x2] _ acc HBx.out HOx hSx.out rfl rfl rfl rfl (by first | rfl | simp) rfl (by have := hal.out; omega) (by decide) ?_)
          intro v2 w2 hO2 hB2 hS2 hG2
          have KX2 := Lib.hid (hG2.out _ _ hNE.out KX.out)
          clear cb hbl3 hwl hwl1 q0 c0 q1 c1 q2 c2
          have q0 := (hB2.out.cell (p := ⟨w.heap.size + 1, 0, none⟩) (Array.getElem?_eq_some_iff.1 K2.out).1).trans (cells_of_blk K2.out 0 _ rfl)
          have q1 := (hB2.out.cell (p := ⟨w.heap.size + 1, 1, none⟩) (Array.getElem?_eq_some_iff.1 K2.out).1).trans (cells_of_blk K2.out 1 _ rfl)
          have q2 := (hB2.out.cell (p := ⟨w.heap.size + 1, 2, none⟩) (Array.getElem?_eq_some_iff.1 K2.out).1).trans (cells_of_blk K2.out 2 _ rfl)
          have c0 := cells_of_blk KX2.out 0 _ rfl
          have c1 := cells_of_blk KX2.out 1 _ rfl
          have c2 := cells_of_blk KX2.out 2 _ rfl
          go_wp2_with (at_builtin; refine wpList_append_recG (W := w0) _ _ 33 41 (.agg #[.int .i64 0, .int .i64 0, .int .i64 0]) 3 24 el_Stake [y0, y1, y2] _ (acc ++ [[x0, x1, x2]]) hB2.out hO2 hS2 rfl rfl rfl rfl (by first | rfl | simp) rfl (by have := hal.out; first | omega | (simp; omega)) (by decide) ?_)
          intro v3 w3 hO3 hB3 hS3 _
          clear q0 c0 q1 c1 q2 c2
          go_wp2_with fail
          go_roundw
          case rel => exact ⟨i + 1, _, true, by go_num, rfl, hO3.out, by show _ ≤ _; omega, hal2.out, hR2.out, hB3.out⟩
          case measure => simp [intOf]; omega
        have tA : decide (x0 < y0) = false := decide_eq_false hA
        by_cases hE : y0 = x0
        · have tE : (y0 == x0) = true := by simp [hE]
          have tN0 : (y0 != x0) = false := by simp [hE]
          by_cases hG : x1 ≤ y1
          · have tG : decide (x1 ≤ y1) = true := decide_eq_true hG
            by_cases hN : y1 = x1
            · have tN1 : (y1 != x1) = false := by simp [hN]
              have eg : (!decide (([y0, y1, y2] : List Int).headD 0 < x0 ∨ ([y0, y1, y2] : List Int).headD 0 = x0 ∧ ([y0, y1, y2] : List Int).tail.headD 0 < x1)) = true := by simp; omega
              have en : (!isKey x0 x1 ([y0, y1, y2] : List Int)) = false := by simp [isKey]; try omega
              have hR2 : Hid (((acc ++ [[x0, x1, x2]])) ++ setK (fun r => !decide (r.headD 0 < x0 ∨ r.headD 0 = x0 ∧ r.tail.headD 0 < x1)) (fun r => !isKey x0 x1 r) [x0, x1, x2] true (b.s.drop (i + 1)) = setS x0 x1 [x0, x1, x2] (x2 == 0) b.s) := (by
                have h := hrest.out
                rw [HS.out, eg, en] at h
                show _ = _
                simpa using h)
              have hal2 : Hid (((acc ++ [[x0, x1, x2]])).length ≤ 2 * (i + 1)) := (by have := hal.out; show _ ≤ _; first | omega | (simp; omega))
              clear eg en
              try clear hN
              try clear hG
              try clear hE
              try clear hA
              have q0 := (hBr.out.cell (p := ⟨w.heap.size + 1, 0, none⟩) (Array.getElem?_eq_some_iff.1 K2.out).1).trans (cells_of_blk K2.out 0 _ rfl)
              have q1 := (hBr.out.cell (p := ⟨w.heap.size + 1, 1, none⟩) (Array.getElem?_eq_some_iff.1 K2.out).1).trans (cells_of_blk K2.out 1 _ rfl)
              have q2 := (hBr.out.cell (p := ⟨w.heap.size + 1, 2, none⟩) (Array.getElem?_eq_some_iff.1 K2.out).1).trans (cells_of_blk K2.out 2 _ rfl)
              go_wp2_with (at_builtin; refine wpList_append_recG (W := w0) _ _ 33 41 (.agg #[.int .i64 0, .int .i64 0, .int .i64 0]) 3 24 el_Stake [x0, x1, x2] _ acc HBx.out HOx hSx.out rfl rfl rfl rfl (by first | rfl | simp) rfl (by have := hal.out; omega) (by decide) ?_)
              intro v2 w2 hO2 hB2 hS2 hG2
              have KX2 := Lib.hid (hG2.out _ _ hNE.out KX.out)
              clear cb hbl3 hwl hwl1 q0 c0 q1 c1 q2 c2
              have q0 := (hB2.out.cell (p := ⟨w.heap.size + 1, 0, none⟩) (Array.getElem?_eq_some_iff.1 K2.out).1).trans (cells_of_blk K2.out 0 _ rfl)
              have q1 := (hB2.out.cell (p := ⟨w.heap.size + 1, 1, none⟩) (Array.getElem?_eq_some_iff.1 K2.out).1).trans (cells_of_blk K2.out 1 _ rfl)
              have q2 := (hB2.out.cell (p := ⟨w.heap.size + 1, 2, none⟩) (Array.getElem?_eq_some_iff.1 K2.out).1).trans (cells_of_blk K2.out 2 _ rfl)
              have c0 := cells_of_blk KX2.out 0 _ rfl
              have c1 := cells_of_blk KX2.out 1 _ rfl
              have c2 := cells_of_blk KX2.out 2 _ rfl
              go_wp2_with fail
              go_roundw
              case rel => exact ⟨i + 1, _, true, by go_num, rfl, hO2.out, by show _ ≤ _; omega, hal2.out, hR2.out, hB2.out⟩
              case measure => simp [intOf]; omega
            · have tN1 : (y1 != x1) = true := by simp [hN]
              have eg : (!decide (([y0, y1, y2] : List Int).headD 0 < x0 ∨ ([y0, y1, y2] : List Int).headD 0 = x0 ∧ ([y0, y1, y2] : List Int).tail.headD 0 < x1)) = true := by simp; omega
              have en : (!isKey x0 x1 ([y0, y1, y2] : List Int)) = true := by simp [isKey]; try omega
              have hR2 : Hid ((acc ++ [[x0, x1, x2], [y0, y1, y2]]) ++ setK (fun r => !decide (r.headD 0 < x0 ∨ r.headD 0 = x0 ∧ r.tail.headD 0 < x1)) (fun r => !isKey x0 x1 r) [x0, x1, x2] true (b.s.drop (i + 1)) = setS x0 x1 [x0, x1, x2] (x2 == 0) b.s) := (by
                have h := hrest.out
                rw [HS.out, eg, en] at h
                show _ = _
                simpa using h)
              have hal2 : Hid ((acc ++ [[x0, x1, x2], [y0, y1, y2]]).length ≤ 2 * (i + 1)) := (by have := hal.out; show _ ≤ _; first | omega | (simp; omega))
              clear eg en
              try clear hN
              try clear hG
              try clear hE
              try clear hA
              have q0 := (hBr.out.cell (p := ⟨w.heap.size + 1, 0, none⟩) (Array.getElem?_eq_some_iff.1 K2.out).1).trans (cells_of_blk K2.out 0 _ rfl)
              have q1 := (hBr.out.cell (p := ⟨w.heap.size + 1, 1, none⟩) (Array.getElem?_eq_some_iff.1 K2.out).1).trans (cells_of_blk K2.out 1 _ rfl)
              have q2 := (hBr.out.cell (p := ⟨w.heap.size + 1, 2, none⟩) (Array.getElem?_eq_some_iff.1 K2.out).1).trans (cells_of_blk K2.out 2 _ rfl)
              go_wp2_with (at_builtin; refine wpList_append_recG (W := w0) _ _ 33 41 (.agg #[.int .i64 0, .int .i64 0, .int .i64 0]) 3 24 el_Stake [x0, x1, x2] _ acc HBx.out HOx hSx.out rfl rfl rfl rfl (by first | rfl | simp) rfl (by have := hal.out; omega) (by decide) ?_)
              intro v2 w2 hO2 hB2 hS2 hG2
              have KX2 := Lib.hid (hG2.out _ _ hNE.out KX.out)
              clear cb hbl3 hwl hwl1 q0 c0 q1 c1 q2 c2
              have q0 := (hB2.out.cell (p := ⟨w.heap.size + 1, 0, none⟩) (Array.getElem?_eq_some_iff.1 K2.out).1).trans (cells_of_blk K2.out 0 _ rfl)
              have q1 := (hB2.out.cell (p := ⟨w.heap.size + 1, 1, none⟩) (Array.getElem?_eq_some_iff.1 K2.out).1).trans (cells_of_blk K2.out 1 _ rfl)
              have q2 := (hB2.out.cell (p := ⟨w.heap.size + 1, 2, none⟩) (Array.getElem?_eq_some_iff.1 K2.out).1).trans (cells_of_blk K2.out 2 _ rfl)
              have c0 := cells_of_blk KX2.out 0 _ rfl
              have c1 := cells_of_blk KX2.out 1 _ rfl
              have c2 := cells_of_blk KX2.out 2 _ rfl
              go_wp2_with (at_builtin; refine wpList_append_recG (W := w0) _ _ 33 41 (.agg #[.int .i64 0, .int .i64 0, .int .i64 0]) 3 24 el_Stake [y0, y1, y2] _ (acc ++ [[x0, x1, x2]]) hB2.out hO2 hS2 rfl rfl rfl rfl (by first | rfl | simp) rfl (by have := hal.out; first | omega | (simp; omega)) (by decide) ?_)
              intro v3 w3 hO3 hB3 hS3 _
              clear q0 c0 q1 c1 q2 c2
              go_wp2_with fail
              go_roundw
              case rel => exact ⟨i + 1, _, true, by go_num, rfl, hO3.out, by show _ ≤ _; omega, hal2.out, hR2.out, hB3.out⟩
              case measure => simp [intOf]; omega
          · have tG : decide (x1 ≤ y1) = false := decide_eq_false hG
            have tN1 : (y1 != x1) = true := by simp; omega
            have eg : (!decide (([y0, y1, y2] : List Int).headD 0 < x0 ∨ ([y0, y1, y2] : List Int).headD 0 = x0 ∧ ([y0, y1, y2] : List Int).tail.headD 0 < x1)) = false := by simp; omega
            have en : (!isKey x0 x1 ([y0, y1, y2] : List Int)) = true := by simp [isKey]; try omega
            have hR2 : Hid ((acc ++ [[y0, y1, y2]]) ++ setK (fun r => !decide (r.headD 0 < x0 ∨ r.headD 0 = x0 ∧ r.tail.headD 0 < x1)) (fun r => !isKey x0 x1 r) [x0, x1, x2] false (b.s.drop (i + 1)) = setS x0 x1 [x0, x1, x2] (x2 == 0) b.s) := (by
              have h := hrest.out
              rw [HS.out, eg, en] at h
              show _ = _
              simpa using h)
            have hal2 : Hid ((acc ++ [[y0, y1, y2]]).length ≤ 2 * (i + 1)) := (by have := hal.out; show _ ≤ _; first | omega | (simp; omega))
            clear eg en
            try clear hN
            try clear hG
            try clear hE
            try clear hA
            have q0 := (hBr.out.cell (p := ⟨w.heap.size + 1, 0, none⟩) (Array.getElem?_eq_some_iff.1 K2.out).1).trans (cells_of_blk K2.out 0 _ rfl)
            have q1 := (hBr.out.cell (p := ⟨w.heap.size + 1, 1, none⟩) (Array.getElem?_eq_some_iff.1 K2.out).1).trans (cells_of_blk K2.out 1 _ rfl)
            have q2 := (hBr.out.cell (p := ⟨w.heap.size + 1, 2, none⟩) (Array.getElem?_eq_some_iff.1 K2.out).1).trans (cells_of_blk K2.out 2 _ rfl)
            go_wp2_with (at_builtin; refine wpList_append_recG (W := w0) _ _ 33 41 (.agg #[.int .i64 0, .int .i64 0, .int .i64 0]) 3 24 el_Stake [y0, y1, y2] _ (acc) HBx.out HOx hSx.out rfl rfl rfl rfl (by first | rfl | simp) rfl (by have := hal.out; first | omega | (simp; omega)) (by decide) ?_)
            intro v3 w3 hO3 hB3 hS3 _
            clear cb hbl3 hwl hwl1 q0 c0 q1 c1 q2 c2
            go_wp2_with fail
            go_roundw
            case rel => exact ⟨i + 1, _, false, by go_num, rfl, hO3.out, by show _ ≤ _; omega, hal2.out, hR2.out, hB3.out⟩
            case measure => simp [intOf]; omega
        · have tE : (y0 == x0) = false := by simp [hE]
          have tN0 : (y0 != x0) = true := by simp [hE]
          have eg : (!decide (([y0, y1, y2] : List Int).headD 0 < x0 ∨ ([y0, y1, y2] : List Int).headD 0 = x0 ∧ ([y0, y1, y2] : List Int).tail.headD 0 < x1)) = false := by simp; omega
          have en : (!isKey x0 x1 ([y0, y1, y2] : List Int)) = true := by simp [isKey]; try omega
          have hR2 : Hid ((acc ++ [[y0, y1, y2]]) ++ setK (fun r => !decide (r.headD 0 < x0 ∨ r.headD 0 = x0 ∧ r.tail.headD 0 < x1)) (fun r => !isKey x0 x1 r) [x0, x1, x2] false (b.s.drop (i + 1)) = setS x0 x1 [x0, x1, x2] (x2 == 0) b.s) := (by
            have h := hrest.out
            rw [HS.out, eg, en] at h
            show _ = _
            simpa using h)
          have hal2 : Hid ((acc ++ [[y0, y1, y2]]).length ≤ 2 * (i + 1)) := (by have := hal.out; show _ ≤ _; first | omega | (simp; omega))
          clear eg en
          try clear hN
          try clear hG
          try clear hE
          try clear hA
          have q0 := (hBr.out.cell (p := ⟨w.heap.size + 1, 0, none⟩) (Array.getElem?_eq_some_iff.1 K2.out).1).trans (cells_of_blk K2.out 0 _ rfl)
          have q1 := (hBr.out.cell (p := ⟨w.heap.size + 1, 1, none⟩) (Array.getElem?_eq_some_iff.1 K2.out).1).trans (cells_of_blk K2.out 1 _ rfl)
          have q2 := (hBr.out.cell (p := ⟨w.heap.size + 1, 2, none⟩) (Array.getElem?_eq_some_iff.1 K2.out).1).trans (cells_of_blk K2.out 2 _ rfl)
          go_wp2_with (at_builtin; refine wpList_append_recG (W := w0) _ _ 33 41 (.agg #[.int .i64 0, .int .i64 0, .int .i64 0]) 3 24 el_Stake [y0, y1, y2] _ (acc) HBx.out HOx hSx.out rfl rfl rfl rfl (by first | rfl | simp) rfl (by have := hal.out; first | omega | (simp; omega)) (by decide) ?_)
          intro v3 w3 hO3 hB3 hS3 _
          clear cb hbl3 hwl hwl1 q0 c0 q1 c1 q2 c2
          go_wp2_with fail
          go_roundw
          case rel => exact ⟨i + 1, _, false, by go_num, rfl, hO3.out, by show _ ≤ _; omega, hal2.out, hR2.out, hB3.out⟩
          case measure => simp [intOf]; omega
    · have tn : decide ((i : Int) < (b.s.length : Int)) = false := decide_eq_false (by omega)
      have hR := hrest.out
      rw [List.drop_eq_nil_of_le (by omega)] at hR
      clear cb
      have cb := (hBr.out.cell (p := ⟨w.heap.size, 1, none⟩) (Array.getElem?_eq_some_iff.1 K1.out).1).trans (cells_of_blk K1.out 1 _ rfl)
      cases done with
      | true =>
        have hR2 : Hid (acc = setS x0 x1 [x0, x1, x2] (x2 == 0) b.s) := (by show _ = _; simpa [setK] using hR)
        clear hR
        obtain ⟨A5, c5', rfl⟩ := HO.out.form
        have n1 := (hBr.out.block _ (Array.getElem?_eq_some_iff.1 K1.out).1).trans K1.out
        have n3 := (hBr.out.block _ (Array.getElem?_eq_some_iff.1 K3.out).1).trans K3.out
        have p0 := cells_of_blk n1 0 _ rfl
        have v0 := cells_of_blk n3 0 _ rfl
        have vf0 := free_of_blk n3 0
        have p1 := cells_of_blk n1 1 _ rfl
        have v1 := cells_of_blk n3 1 _ rfl
        have vf1 := free_of_blk n3 1
        have p2 := cells_of_blk n1 2 _ rfl
        have v2 := cells_of_blk n3 2 _ rfl
        have vf2 := free_of_blk n3 2
        have p3 := cells_of_blk n1 3 _ rfl
        have v3 := cells_of_blk n3 3 _ rfl
        have vf3 := free_of_blk n3 3
        have p4 := cells_of_blk n1 4 _ rfl
        have v4 := cells_of_blk n3 4 _ rfl
        have vf4 := free_of_blk n3 4
        have pf := free_of_blk n1 1
        obtain ⟨w4, hw4⟩ : ∃ w4, wr.setCell ⟨w.heap.size, 1, none⟩ (.slice A5 acc.length c5') = w4 := ⟨_, rfl⟩
        have O3 : Hid (w4.heap[w.heap.size + 2]? = some (.cells #[.slice none 0 0, .slice none 0 0, .slice none 0 0, .slice none 0 0, .int .i64 0] 37 (0, 0))) := by rw [← hw4]; exact set_oth n3 1 _ (by omega)
        have hlt0 : w.heap.size < w0.heap.size := (Array.getElem?_eq_some_iff.1 K1.out).1
        have G4 : Hid (RowOwn w4 w0.heap.size 41 (.slice A5 acc.length c5') 3 (acc)) := by rw [← hw4]; exact RowOwn.setBelow (a := ⟨_, _, _⟩) HO.out hlt0 _
        have HB4 : Hid (Below w.heap.size w w4) := by rw [← hw4]; exact Below.setCell (p := ⟨_, _, _⟩) (HB0.out.trans (hBr.out.mono HB0.out.size)) (Nat.le_refl _) _
        replace hw4 := Lib.hid hw4
        clear n1 n3
        have t0 := cells_of_blk O3.out 0 _ rfl
        have t1 := cells_of_blk O3.out 1 _ rfl
        have t2 := cells_of_blk O3.out 2 _ rfl
        have t3 := cells_of_blk O3.out 3 _ rfl
        have t4 := cells_of_blk O3.out 4 _ rfl
        have tf0 := free_of_blk O3.out 0
        have tf1 := free_of_blk O3.out 1
        have tf2 := free_of_blk O3.out 2
        have tf3 := free_of_blk O3.out 3
        have tf4 := free_of_blk O3.out 4
        go_wp2_with fail
        rw [hw4.out]
        refine bodyPost_ret (v := .agg #[.slice Ah b.h.length ch, .slice A5 acc.length c5', .slice Ao b.o.length co, .slice Ar b.r.length cr, .int .i64 b.n]) ?_ rfl ⟨_, rfl, ?_, ?_⟩
        · simp [results, Try.results24, go_sem, t0, t1, t2, t3, t4]
        · have hl2 : w.heap.size ≤ w.heap.size + 2 := by omega
          have hl3 : w.heap.size + 2 < w0.heap.size := (Array.getElem?_eq_some_iff.1 K3.out).1
          have HF := set5_belowR HB4.out hl2 (.slice Ah b.h.length ch) (.slice A5 acc.length c5') (.slice Ao b.o.length co) (.slice Ar b.r.length cr) (.int .i64 b.n)
          have GF := G4.out.set5R hl3 (.slice Ah b.h.length ch) (.slice A5 acc.length c5') (.slice Ao b.o.length co) (.slice Ar b.r.length cr) (.int .i64 b.n)
          obtain ⟨_, _, _, _, hh, g1, g2, g3, g4⟩ := HBK.out.call HF
          injection hh with hh
          simp only [Array.mk.injEq, List.cons.injEq] at hh
          obtain ⟨rfl, rfl, rfl, rfl, _⟩ := hh
          have GF2 := GF.row
          have hacc := hR2.out
          generalize acc = L0 at *
          subst hacc
          exact ⟨_, _, _, _, rfl, g1, GF2, g3, g4⟩
        · have hl2 : w.heap.size ≤ w.heap.size + 2 := by omega
          exact set5_belowR HB4.out hl2 (.slice Ah b.h.length ch) (.slice A5 acc.length c5') (.slice Ao b.o.length co) (.slice Ar b.r.length cr) (.int .i64 b.n)
      | false =>
        have hR2 : Hid (acc ++ [[x0, x1, x2]] = setS x0 x1 [x0, x1, x2] (x2 == 0) b.s) := (by show _ = _; simpa [setK] using hR)
        clear hR
        have hSr : w0.heap.size ≤ wr.heap.size := hBr.out.size
        have q0 := (hBr.out.cell (p := ⟨w.heap.size + 1, 0, none⟩) (Array.getElem?_eq_some_iff.1 K2.out).1).trans (cells_of_blk K2.out 0 _ rfl)
        have q1 := (hBr.out.cell (p := ⟨w.heap.size + 1, 1, none⟩) (Array.getElem?_eq_some_iff.1 K2.out).1).trans (cells_of_blk K2.out 1 _ rfl)
        have q2 := (hBr.out.cell (p := ⟨w.heap.size + 1, 2, none⟩) (Array.getElem?_eq_some_iff.1 K2.out).1).trans (cells_of_blk K2.out 2 _ rfl)
        go_wp2_with (at_builtin; refine wpList_append_rec (W := w0) _ _ 33 41 (.agg #[.int .i64 0, .int .i64 0, .int .i64 0]) 3 24 el_Stake [x0, x1, x2] _ acc hBr.out HO hSr rfl rfl rfl rfl rfl (by have := hal.out; omega) (by decide) ?_)
        intro v2 w2 hO2 hB2 hS2
        clear cb q0 q1 q2
        obtain ⟨A5, c5', hfm⟩ := hO2.out.form
        rw [show (acc ++ [[x0, x1, x2]]).length = acc.length + 1 from by simp] at hfm
        subst hfm
        have n1 := (hB2.out.block _ (Array.getElem?_eq_some_iff.1 K1.out).1).trans K1.out
        have n3 := (hB2.out.block _ (Array.getElem?_eq_some_iff.1 K3.out).1).trans K3.out
        have p0 := cells_of_blk n1 0 _ rfl
        have v0 := cells_of_blk n3 0 _ rfl
        have vf0 := free_of_blk n3 0
        have p1 := cells_of_blk n1 1 _ rfl
        have v1 := cells_of_blk n3 1 _ rfl
        have vf1 := free_of_blk n3 1
        have p2 := cells_of_blk n1 2 _ rfl
        have v2 := cells_of_blk n3 2 _ rfl
        have vf2 := free_of_blk n3 2
        have p3 := cells_of_blk n1 3 _ rfl
        have v3 := cells_of_blk n3 3 _ rfl
        have vf3 := free_of_blk n3 3
        have p4 := cells_of_blk n1 4 _ rfl
        have v4 := cells_of_blk n3 4 _ rfl
        have vf4 := free_of_blk n3 4
        have pf := free_of_blk n1 1
        obtain ⟨w4, hw4⟩ : ∃ w4, w2.setCell ⟨w.heap.size, 1, none⟩ (.slice A5 (acc.length + 1) c5') = w4 := ⟨_, rfl⟩
        have O3 : Hid (w4.heap[w.heap.size + 2]? = some (.cells #[.slice none 0 0, .slice none 0 0, .slice none 0 0, .slice none 0 0, .int .i64 0] 37 (0, 0))) := by rw [← hw4]; exact set_oth n3 1 _ (by omega)
        have hlt0 : w.heap.size < w0.heap.size := (Array.getElem?_eq_some_iff.1 K1.out).1
        have G4 : Hid (RowOwn w4 w0.heap.size 41 (.slice A5 (acc.length + 1) c5') 3 (acc ++ [[x0, x1, x2]])) := by rw [← hw4]; exact RowOwn.setBelow (a := ⟨_, _, _⟩) hO2.out hlt0 _
        have HB4 : Hid (Below w.heap.size w w4) := by rw [← hw4]; exact Below.setCell (p := ⟨_, _, _⟩) (HB0.out.trans (hB2.out.mono HB0.out.size)) (Nat.le_refl _) _
        replace hw4 := Lib.hid hw4
        clear n1 n3
        have t0 := cells_of_blk O3.out 0 _ rfl
        have t1 := cells_of_blk O3.out 1 _ rfl
        have t2 := cells_of_blk O3.out 2 _ rfl
        have t3 := cells_of_blk O3.out 3 _ rfl
        have t4 := cells_of_blk O3.out 4 _ rfl
        have tf0 := free_of_blk O3.out 0
        have tf1 := free_of_blk O3.out 1
        have tf2 := free_of_blk O3.out 2
        have tf3 := free_of_blk O3.out 3
        have tf4 := free_of_blk O3.out 4
        go_wp2_with fail
        rw [hw4.out]
        refine bodyPost_ret (v := .agg #[.slice Ah b.h.length ch, .slice A5 (acc.length + 1) c5', .slice Ao b.o.length co, .slice Ar b.r.length cr, .int .i64 b.n]) ?_ rfl ⟨_, rfl, ?_, ?_⟩
        · simp [results, Try.results24, go_sem, t0, t1, t2, t3, t4]
        · have hl2 : w.heap.size ≤ w.heap.size + 2 := by omega
          have hl3 : w.heap.size + 2 < w0.heap.size := (Array.getElem?_eq_some_iff.1 K3.out).1
          have HF := set5_belowR HB4.out hl2 (.slice Ah b.h.length ch) (.slice A5 (acc.length + 1) c5') (.slice Ao b.o.length co) (.slice Ar b.r.length cr) (.int .i64 b.n)
          have GF := G4.out.set5R hl3 (.slice Ah b.h.length ch) (.slice A5 (acc.length + 1) c5') (.slice Ao b.o.length co) (.slice Ar b.r.length cr) (.int .i64 b.n)
          obtain ⟨_, _, _, _, hh, g1, g2, g3, g4⟩ := HBK.out.call HF
          injection hh with hh
          simp only [Array.mk.injEq, List.cons.injEq] at hh
          obtain ⟨rfl, rfl, rfl, rfl, _⟩ := hh
          have GF2 := GF.row
          rw [show acc ++ [[x0, x1, x2]] = _ from hR2.out] at GF2
          exact ⟨_, _, _, _, rfl, g1, GF2, g3, g4⟩
        · have hl2 : w.heap.size ≤ w.heap.size + 2 := by omega
          exact set5_belowR HB4.out hl2 (.slice Ah b.h.length ch) (.slice A5 (acc.length + 1) c5') (.slice Ao b.o.length co) (.slice Ar b.r.length cr) (.int .i64 b.n)

end Go.Proofs.Ytfkfpppiikgjbaa
