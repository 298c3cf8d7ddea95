/- MarginTurned: the plain laws and the walk (merged of MargQ, MargR and what they need of BookT, BookQ). -/
import Derived.Test.YtfkfpppiikgjbaaMargN
import Derived.Test.YtfkfpppiikgjbaaBookR
namespace Go.Proofs.Ytfkfpppiikgjbaa
section
open Go Go.RowKit
set_option linter.unusedVariables false
set_option linter.unusedSimpArgs false

section
variable {P : Program} {ops : Array Oper} {rest : List Oper} {o : Oper} {a : Act} {Q : Exit → Act → World → Prop}
/-- 'append(out, x)', x a record that lies in the block that was just laid; what else there is stays. -/
theorem wpList_append_recM {wr W : World} {B p : Nat} (s x : Operand) (t e : TypeId) (z : Value) (k bytes : Nat) (he : Elt P t e z k bytes) (r : List Int) (v : Value) (l : List (List Int))
    (hb : Below B W wr) (hown : Hid (RowOwn wr B e v k l)) (hB : B ≤ wr.heap.size) (hgd : o.guard = none) (ho : o.op = .call { callee := .builtin .append, args := #[s, x], argTypes := #[t, t] })
    (hs : a.eval s = v) (hx : a.eval x = .slice (some ⟨p, 0, none⟩) 1 1) (hp : p = wr.heap.size) (hr : r.length = k) (hn : l.length + 1 ≤ 4000000) (hby : bytes ≤ 64)
    (h : ∀ v' w', Hid (RowOwn w' B e v' k (l ++ [r])) → Hid (Below B W w') → B ≤ w'.heap.size → Hid (∀ (g : Nat) (ob : Obj), v.ownBlock ≠ some g → wr.heap[g]? = some ob → w'.heap[g]? = some ob) → wpList P ops Q rest (a.put o.dst v') w') :
    wpList P ops Q (o :: rest) a (wr.alloc (.cells (r.map (Value.int .i64)).toArray e)) := by
  subst hp
  obtain ⟨i, hi, hz, hsz, hbs⟩ := he.info
  obtain ⟨ho', hk⟩ := hown.out
  refine wpList_append_own _ hgd s x t ho B e i z k bytes he.und hi hz hsz hbs he.zs he.pos v l.length (flatC l) hs (ho'.alloc _) ⟨wr.heap.size, 0, none⟩ 1 1 (r.map (Value.int .i64)) hx (by rw [List.length_map, hr, Nat.one_mul]) ?_ ?_ ?_ ?_ ?_ ?_
  · intro j u hj
    rw [Addr.add_lit, Nat.zero_add]
    exact cells_of_blk (heap_new wr (.cells (r.map (Value.int .i64)).toArray e)) j u (by simpa using hj)
  · intro u hu; obtain ⟨y, _, rfl⟩ := List.mem_map.1 hu; rfl
  · unfold maxLen; omega
  · have h1 := Nat.mul_le_mul hn hby; omega
  · simp; omega
  · intro v' w' h1 h2 _
    refine h v' w' ⟨?_, ?_⟩ ((hb.alloc hB _).grown h2 (by simp; omega) (fun q hq => (ho'.lt q hq).1)) ?_ ?_
    · rw [List.length_append, flatC_append, show flatC [r] = r.map (Value.int .i64) by simp [flatC]]
      exact h1
    · intro u hu
      rcases List.mem_append.1 hu with hu | hu
      · exact hk u hu
      · simp at hu; rw [hu]; exact hr
    · have := h2.size; simp at this; omega
    · intro g ob hne hg
      have hlt := (Array.getElem?_eq_some_iff.1 hg).1
      rw [h2.block g (by simp; omega) (fun e => hne e.symm)]
      exact blk_old hg _
end
end
section
open Go Go.RowKit
theorem RowOwn.setOtherM {w : World} {B : Nat} {e : TypeId} {v : Value} {k : Nat} {l : List (List Int)} (h : RowOwn w B e v k l) {g : Nat} {cs : Array Value} {t : TypeId} {fr : Nat × Nat} (hg : w.heap[g]? = some (.cells cs t fr)) (hne : e ≠ t) (i : Nat) (u : Value) : RowOwn (w.setCell ⟨g, i, none⟩ u) B e v k l := by
  obtain ⟨⟨hl, ho⟩, hk⟩ := h
  refine ⟨⟨hl, ?_⟩, hk⟩
  rcases ho with h | ⟨g', cap, cur, h1, h2, h3, h4⟩
  · exact .inl h
  · refine .inr ⟨g', cap, cur, h1, h2, set_oth h3 i u (fun e' => ?_), h4⟩
    subst e'
    rw [hg] at h3
    injection h3 with h3
    injection h3 with _ h3 _
    exact hne h3.symm
end
section
open Go Go.RowKit Mon
set_option linter.unusedVariables false

def negS (r : List Int) : List Int := [r.getD 0 0, r.getD 1 0, -r.getD 2 0]
/-- All stakes turned about. -/
def Bk.turned (b : Bk) : Bk := { b with s := b.s.map negS }
/-- No stakes. -/
def Bk.bare (b : Bk) : Bk := { b with s := [] }

theorem negS_of {r : List Int} (h : r.length = 3) : ∃ x y z, r = [x, y, z] ∧ negS r = [x, y, -z] := by
  match r, h with
  | [x, y, z], _ => exact ⟨x, y, z, rfl, rfl⟩
theorem turned_riseSB : ∀ (l : List (List Int)), (∀ r ∈ l, r.length = 3) → riseSB (l.map negS) = riseSB l
  | [], _ => rfl
  | [a], _ => rfl
  | a :: b :: t, h => by
    obtain ⟨x, y, z, rfl, h1⟩ := negS_of (h a (by simp))
    obtain ⟨x', y', z', rfl, h2⟩ := negS_of (h b (by simp))
    have ih := turned_riseSB ([x', y', z'] :: t) (fun r hr => h r (List.mem_cons_of_mem _ hr))
    rw [List.map_cons, List.map_cons, h1, h2]
    rw [List.map_cons, h2] at ih
    rw [riseSB, riseSB, ih]
    rfl
theorem turned_badS (b : Bk) : ∀ (l : List (List Int)), (∀ r ∈ l, r.length = 3) → (l.map negS).any (badS b.turned) = l.any (badS b)
  | [], _ => rfl
  | a :: t, h => by
    obtain ⟨x, y, z, rfl, h1⟩ := negS_of (h a (by simp))
    have ih := turned_badS b t (fun r hr => h r (List.mem_cons_of_mem _ hr))
    rw [List.map_cons, h1, List.any_cons, List.any_cons, ih]
    congr 1
    show (decide (-z = 0) || !thereB b.turned x y) = (decide (z = 0) || !thereB b x y)
    have h2 : thereB b.turned x y = thereB b x y := rfl
    rw [h2]
    congr 1
    exact decide_eq_decide.2 (by omega)
theorem turned_may {b : Bk} (hk : ∀ r ∈ b.s, r.length = 3) : b.turned.mayB = b.mayB := by
  have h1 : b.turned.listsB = b.listsB := by
    show (!decide (32 < b.h.length) && (!decide (64 < b.o.length) && (!decide (32 < b.r.length) && (riseHB b.h && (riseHB b.o && (riseHB b.r && riseSB (b.s.map negS))))))) = _
    rw [turned_riseSB _ hk]
    rfl
  have h2 : b.turned.s.any (badS b.turned) = b.s.any (badS b) := turned_badS b b.s hk
  have h3 : b.turned.o.any (badO b.turned) = b.o.any (badO b) := rfl
  unfold Bk.mayB
  rw [h1, h2, h3]
  rfl
theorem bare_may {b : Bk} (h : b.mayB = true) : b.bare.mayB = true := by
  unfold Bk.mayB Bk.listsB Bk.riseB at h
  simp only [Bool.and_eq_true] at h
  obtain ⟨⟨a1, a2, a3, a4, a5, a6, a7⟩, c, d1, d2, d3, d4⟩ := h
  have h3 : b.bare.o.any (badO b.bare) = b.o.any (badO b) := rfl
  unfold Bk.mayB Bk.listsB Bk.riseB
  rw [h3]
  simp only [Bool.and_eq_true]
  exact ⟨⟨a1, a2, a3, a4, a5, a6, rfl⟩, c, d1, d2, rfl, d4⟩
theorem turned_absQ (b : Bk) (acc : Int) : ∀ (l : List (List Int)), (∀ r ∈ l, r.length = 3) → absQ (heldP b.turned acc (l.map negS)) = absQ (heldP b acc l)
  | [], _ => rfl
  | a :: t, h => by
    obtain ⟨x, y, z, rfl, h1⟩ := negS_of (h a (by simp))
    have ih := turned_absQ b acc t (fun r hr => h r (List.mem_cons_of_mem _ hr))
    rw [List.map_cons, h1, heldP, heldP]
    by_cases hx : x = acc
    · rw [if_pos (show ([x, y, -z] : List Int).headD 0 = acc from hx), if_pos (show ([x, y, z] : List Int).headD 0 = acc from hx), absQ, absQ, ih]
      congr 1
      show (if -z < 0 then -z * -priceOf b y else -z * priceOf b y) = (if z < 0 then z * -priceOf b y else z * priceOf b y)
      rw [Int.neg_mul_neg, Int.neg_mul, Int.mul_neg]
      by_cases h0 : z < 0
      · rw [if_neg (by omega), if_pos h0]
      · by_cases h4 : z = 0
        · subst h4; simp
        · rw [if_pos (by omega), if_neg h0]
    · rw [if_neg (show ¬ ([x, y, -z] : List Int).headD 0 = acc from hx), if_neg (show ¬ ([x, y, z] : List Int).headD 0 = acc from hx), ih]
theorem turned_need {b : Bk} (hk : ∀ r ∈ b.s, r.length = 3) (acc qty price rate : Int) : needP b.turned acc qty price rate = needP b acc qty price rate := by
  have h1 : needX b.turned acc qty price = needX b acc qty price := by
    show absQ (heldP b.turned acc (b.s.map negS)) + sumL (opensP acc b.o) + qty * price = _
    rw [turned_absQ b acc b.s hk]
    rfl
  unfold needP
  rw [turned_may hk, h1]
theorem bare_eq {b : Bk} (h : b.mayB = true) (acc : Int) (hc : I64 (cashOf b acc)) : eqP b.bare acc = (cashOf b acc, true) := by
  unfold eqP
  rw [if_pos (bare_may h)]
  show fitsP (cashOf b acc + 0) = _
  rw [Int.add_zero]
  unfold I64 at hc
  exact fits_in (by omega)
end
section
open Go Go.RowKit Bg Mon
set_option linter.unusedVariables false
set_option linter.unusedSimpArgs false

theorem RowOwn.ne {w : World} {B : Nat} {e : TypeId} {v : Value} {k : Nat} {l : List (List Int)} (h : RowOwn w B e v k l) {g : Nat} {cs : Array Value} {t : TypeId} {fr : Nat × Nat} (hg : w.heap[g]? = some (.cells cs t fr)) (hne : e ≠ t) : v.ownBlock ≠ some g := by
  obtain ⟨⟨hl, ho⟩, hk⟩ := h
  rcases ho with h | ⟨g', cap, cur, h1, h2, h3, h4⟩
  · rw [h.1]; intro e'; cases e'
  · rw [h1]
    intro e'
    have e2 : g' = g := by simpa [Value.ownBlock] using e'
    subst e2
    rw [hg] at h3
    injection h3 with h3
    injection h3 with _ h3 _
    exact hne h3.symm

set_option maxRecDepth 100000 in
set_option maxHeartbeats 4000000 in
theorem MarginTurned_walk (v : Value) (b : Bk) (acc rate : Int) (w : World) (hb : Hid (BkAt w v b)) (hi : Hid b.I64s) (hrt : 0 ≤ rate ∧ rate < 65536) :
    Calls Try.prog 7 #[v, .int .i64 acc, .int .u16 rate] w fun e w' => e = .returned (.bool true) ∧ Below w.heap.size w w' := by
  obtain ⟨vh, vs, vo, vr, rfl, r1, r2, r3, r4⟩ := hb.out
  have LH : Hid (∀ r ∈ b.h, r.length = 4) := (by obtain ⟨_, _, _, h, _⟩ := r1; exact h)
  have LS : Hid (∀ r ∈ b.s, r.length = 3) := (by obtain ⟨_, _, _, h, _⟩ := r2; exact h)
  obtain ⟨As, cs, rfl, hi2⟩ := r2.rec'
  obtain ⟨Ah, ch, rfl, _⟩ := r1.rec'
  obtain ⟨Ao, co, rfl, _⟩ := r3.rec'
  obtain ⟨Ar, cr, rfl, _⟩ := r4.rec'
  have HI2 := Lib.hid hi2
  have BW : Hid (RowAt w (.slice Ah b.h.length ch) 4 b.h ∧ RowAt w (.slice Ao b.o.length co) 6 b.o ∧ RowAt w (.slice Ar b.r.length cr) 2 b.r) := ⟨r1, r3, r4⟩
  clear r1 r2 r3 r4 hi2
  have K0 : Hid ((w.alloc (.cells #[.slice Ah b.h.length ch, .slice As b.s.length cs, .slice Ao b.o.length co, .slice Ar b.r.length cr, .int .i64 b.n] 37)).heap[w.heap.size]? = some (.cells #[.slice Ah b.h.length ch, .slice As b.s.length cs, .slice Ao b.o.length co, .slice Ar b.r.length cr, .int .i64 b.n] 37 (0, 0))) := heap_new w _
  have HB0 : Hid (Below w.heap.size w (w.alloc (.cells #[.slice Ah b.h.length ch, .slice As b.s.length cs, .slice Ao b.o.length co, .slice Ar b.r.length cr, .int .i64 b.n] 37))) := below_alloc (Below.refl _ _) (Nat.le_refl _) _
  have B0 : Hid (BkAt (w.alloc (.cells #[.slice Ah b.h.length ch, .slice As b.s.length cs, .slice Ao b.o.length co, .slice Ar b.r.length cr, .int .i64 b.n] 37)) (.agg #[.slice Ah b.h.length ch, .slice As b.s.length cs, .slice Ao b.o.length co, .slice Ar b.r.length cr, .int .i64 b.n]) b) := hb.out.call HB0.out
  clear hb
  go_enter Try.func7, Try.ntmps7
  go_wp2_with fail
  with_reducible refine (alive15 _).mono ?_
  rintro e w1 ⟨rfl, hb⟩
  have K1 := Lib.hid (blk_call K0.out hb)
  have B1 := Lib.hid (B0.out.call hb)
  have HB1 := Lib.hid (HB0.out.trans (hb.mono HB0.out.size))
  clear hb
  have a0 := cells_of_blk K1.out 0 _ rfl
  have a1 := cells_of_blk K1.out 1 _ rfl
  have a2 := cells_of_blk K1.out 2 _ rfl
  have a3 := cells_of_blk K1.out 3 _ rfl
  have a4 := cells_of_blk K1.out 4 _ rfl
  go_wp2_with fail
  with_reducible refine (Great_any _ b _ B1).mono ?_
  rintro e w2 ⟨g, rfl, hg, hb⟩
  clear a0 a1 a2 a3 a4
  have K2 := Lib.hid (blk_call K1.out hb)
  have B2 := Lib.hid (B1.out.call hb)
  have HB2 := Lib.hid (HB1.out.trans (hb.mono HB1.out.size))
  clear hb
  have a0 := cells_of_blk K2.out 0 _ rfl
  have a1 := cells_of_blk K2.out 1 _ rfl
  have a2 := cells_of_blk K2.out 2 _ rfl
  have a3 := cells_of_blk K2.out 3 _ rfl
  have a4 := cells_of_blk K2.out 4 _ rfl
  cases g with
  | true =>
    clear hg
    go_wp2_with fail
    go_ret
    exact ⟨rfl, HB2.out⟩
  | false =>
  have hs := Lib.hid (hg rfl).small
  have hfit := Lib.hid (hg rfl)
  clear hg
  have q3 := Lib.hid (fun u w h => rBkMay_any u b w h hs)
  cases hm : b.mayB with
  | false =>
    rw [hm] at q3
    clear hm
    go_wp2_with fail
    with_reducible refine (q3.out _ _ B2).mono ?_
    rintro e w5 ⟨rfl, hb⟩
    have HB5 := Lib.hid (HB2.out.trans (hb.mono HB2.out.size))
    clear hb
    go_wp2_with fail
    go_ret
    exact ⟨rfl, HB5.out⟩
  | true =>
  rw [hm] at q3
  have HM := Lib.hid hm
  obtain ⟨rh, FH, hl1, hx1⟩ := rec_of LH.out (isId acc)
  match rh, hl1, hx1 with
  | [h0, h1, h2, h3], _, hx1 =>
  have hc : cashOf b acc = h1 := by unfold cashOf; rw [hx1]; rfl
  have hI1 : I64 h1 := rec_I64 hi.out.1 hx1 h1 (by simp)
  have HEQ : Hid (eqP b.bare acc = (h1, true)) := (show _ = _ from by rw [bare_eq hm acc (by rw [hc]; exact hI1), hc])
  have HX1 := Lib.hid hx1
  have F1 : b.h.length ≤ 1000000 := by have := hs.out; unfold Bk.Small at this; omega
  have qh := Lib.hid (fun u wz hv => rHolder_any u b acc h0 h1 h2 h3 FH wz hv F1 HX1)
  have zI : I64 0 := by unfold I64; omega
  have hsl : b.s.length ≤ 999998 := hs.out.2.1
  have q1 := Lib.hid (fun u wz r hv => Need_any u b acc 0 0 r wz hv hs hi (Lib.hid zI) (Lib.hid zI))
  have HSB : Hid b.bare.Small := (show _ from by have := hs.out; unfold Bk.Small at this ⊢; exact ⟨this.1, Nat.zero_le _, this.2.2⟩)
  have HIB : Hid b.bare.I64s := (show _ from ⟨hi.out.1, fun r hr => (by cases hr), hi.out.2.2⟩)
  have q4 := Lib.hid (fun u wz hv => Equity_any u b.bare acc wz hv HSB HIB)
  rw [HEQ.out] at q4
  clear hm hx1 hc hI1 zI F1 HSB HIB
  go_wp2_with fail
  with_reducible refine (q3.out _ _ B2).mono ?_
  rintro e w3 ⟨rfl, hb⟩
  clear a0 a1 a2 a3 a4
  have K3 := Lib.hid (blk_call K2.out hb)
  have B3 := Lib.hid (B2.out.call hb)
  have HB3 := Lib.hid (HB2.out.trans (hb.mono HB2.out.size))
  clear hb
  have a0 := cells_of_blk K3.out 0 _ rfl
  have a1 := cells_of_blk K3.out 1 _ rfl
  have a2 := cells_of_blk K3.out 2 _ rfl
  have a3 := cells_of_blk K3.out 3 _ rfl
  have a4 := cells_of_blk K3.out 4 _ rfl
  obtain ⟨G, hG⟩ : ∃ G, w3.heap.size = G := ⟨_, rfl⟩
  obtain ⟨w4, hw4⟩ : ∃ w4, (w3.alloc (.cells #[.slice Ah b.h.length ch, .slice none 0 0, .slice Ao b.o.length co, .slice Ar b.r.length cr, .int .i64 b.n] 37)).alloc (.cells #[.slice Ah b.h.length ch, .slice none 0 0, .slice Ao b.o.length co, .slice Ar b.r.length cr, .int .i64 b.n] 37) = w4 := ⟨_, rfl⟩
  have HBx : Hid (Below w3.heap.size w3 w4) := by rw [← hw4]; exact below_alloc (below_alloc (Below.refl _ _) (Nat.le_refl _) _) (by simp) _
  have KC4 : Hid (w4.heap[G]? = some (.cells #[.slice Ah b.h.length ch, .slice none 0 0, .slice Ao b.o.length co, .slice Ar b.r.length cr, .int .i64 b.n] 37 (0, 0))) := by rw [← hw4, ← hG]; exact blk_old (heap_new _ _) _
  have KD4 : Hid (w4.heap[G + 1]? = some (.cells #[.slice Ah b.h.length ch, .slice none 0 0, .slice Ao b.o.length co, .slice Ar b.r.length cr, .int .i64 b.n] 37 (0, 0))) := by rw [← hw4, ← hG]; exact blk_new _ _ _ (by simp)
  have HGw : Hid (w.heap.size < G) := (show _ < _ from by have := (Array.getElem?_eq_some_iff.1 K3.out).1; omega)
  have HW4 := Lib.hid hw4
  clear hw4
  go_wp2_with fail
  rw [HW4.out]
  clear a0 a1 a2 a3 a4 HW4
  go_loopw [9] (fun s9 wr => ∃ (i : Nat) (v : Value), s9 = .int .i64 i ∧ Hid (i ≤ b.s.length) ∧ Hid (RowOwn wr w3.heap.size 41 v 3 ((b.s.take i).map negS)) ∧ Hid (∀ r ∈ (b.s.take i).map negS, ∀ x ∈ r, I64 x) ∧ Hid (wr.heap[G]? = some (.cells #[.slice Ah b.h.length ch, .slice none 0 0, .slice Ao b.o.length co, .slice Ar b.r.length cr, .int .i64 b.n] 37 (0, 0))) ∧ Hid (wr.heap[G + 1]? = some (.cells #[.slice Ah b.h.length ch, v, .slice Ao b.o.length co, .slice Ar b.r.length cr, .int .i64 b.n] 37 (0, 0))) ∧ Hid (Below w3.heap.size w3 wr)) (fun s9 _ => b.s.length - (intOf s9).toNat)
  case atStart => exact ⟨0, _, rfl, Nat.zero_le _, ⟨World.ownsRow_nil _ _ _ _, fun r hr => by simp at hr⟩, (fun r hr => by simp at hr), KC4.out, KD4.out, HBx.out⟩
  case round =>
    clear HBx KC4 KD4
    obtain ⟨i, v, rfl, hil, HO, HV, KC, KD, hBr⟩ := hrel
    replace hil := hil.out
    have KB := Lib.hid (blk_call K3.out hBr.out)
    by_cases hin : i < b.s.length
    · have tn : decide ((i : Int) < (b.s.length : Int)) = true := decide_eq_true (by omega)
      have hge : b.s[i]? = some b.s[i] := List.getElem?_eq_getElem hin
      obtain ⟨hk, b0, o0, hA0, hbl, hc⟩ := HI2.out i _ hge
      subst hA0
      have HT : Hid ((b.s.take (i + 1)).map negS = (b.s.take i).map negS ++ [negS b.s[i]]) := (show _ = _ from by rw [List.take_add_one, hge, List.map_append]; rfl)
      have HM3 : Hid (∀ x ∈ b.s[i], I64 x) := hi.out.2.1 _ (List.getElem_mem hin)
      clear hge
      generalize b.s[i] = r at *
      obtain ⟨y0, y1, y2, rfl⟩ : ∃ y0 y1 y2, r = [y0, y1, y2] := by
        match r, hk with
        | [y0, y1, y2], _ => exact ⟨y0, y1, y2, rfl⟩
      have HBW : Hid (Below w.heap.size w wr) := (HB3.out.trans (hBr.out.mono HB3.out.size))
      have c0 : wr.cell? ⟨b0, o0 + i * 3, none⟩ = some (.int .i64 y0) := (HBW.out.cell (p := ⟨b0, o0 + i * 3 + 0, none⟩) hbl).trans (hc 0 _ rfl)
      have c1 : wr.cell? ⟨b0, o0 + i * 3 + 1, none⟩ = some (.int .i64 y1) := (HBW.out.cell (p := ⟨b0, o0 + i * 3 + 1, none⟩) hbl).trans (hc 1 _ rfl)
      have c2 : wr.cell? ⟨b0, o0 + i * 3 + 2, none⟩ = some (.int .i64 y2) := (HBW.out.cell (p := ⟨b0, o0 + i * 3 + 2, none⟩) hbl).trans (hc 2 _ rfl)
      have hbl3 : b0 < wr.heap.size := Nat.lt_of_lt_of_le hbl HBW.out.size
      have lK := (Array.getElem?_eq_some_iff.1 KB.out).1
      have lD := (Array.getElem?_eq_some_iff.1 KD.out).1
      have k1 := cells_of_blk KB.out 1 _ rfl
      have d1 := cells_of_blk KD.out 1 _ rfl
      have HSr : Hid (w3.heap.size ≤ wr.heap.size) := hBr.out.size
      clear hk hc
      by_cases hq : y2 = -9223372036854775808
      · have tq : (y2 == -9223372036854775808) = true := by simp [hq]
        have HBA : Hid (Below w.heap.size w (wr.alloc (.cells #[.int .i64 y0, .int .i64 y1, .int .i64 y2] 41))) := below_alloc HBW.out HBW.out.size _
        clear hq
        go_wp2_with fail
        go_ret
        exact ⟨rfl, HBA.out⟩
      · have tq : (y2 == -9223372036854775808) = false := by simp [hq]
        have hI2 : I64 y2 := HM3.out y2 (by simp)
        have hn : IntKind.i64.wrap (-y2) = -y2 := by rw [IntKind.wrap_i64]; unfold I64 at hI2; omega
        have HV2 : Hid (∀ r ∈ (b.s.take (i + 1)).map negS, ∀ x ∈ r, I64 x) := (show _ from by
          rw [HT.out]
          intro r hr
          rcases List.mem_append.1 hr with hr | hr
          · exact HV.out r hr
          · obtain rfl := List.mem_singleton.1 hr
            intro x hx
            have h0' := HM3.out y0 (by simp)
            have h1' := HM3.out y1 (by simp)
            simp [negS] at hx
            unfold I64 at *
            omega)
        have hSx : Hid (w3.heap.size ≤ (wr.alloc (.cells #[.int .i64 y0, .int .i64 y1, .int .i64 (-y2)] 41)).heap.size) := (show _ ≤ _ from by have := HSr.out; simp; omega)
        have HOx : Hid (RowOwn (wr.alloc (.cells #[.int .i64 y0, .int .i64 y1, .int .i64 (-y2)] 41)) w3.heap.size 41 v 3 ((b.s.take i).map negS)) := HO.out.kept (below_alloc (Below.refl _ _) (Nat.le_refl _) _)
        have HBy : Hid (Below w3.heap.size w3 (wr.alloc (.cells #[.int .i64 y0, .int .i64 y1, .int .i64 (-y2)] 41))) := below_alloc hBr.out HSr.out _
        have KCx := Lib.hid (blk_old KC.out (.cells #[.int .i64 y0, .int .i64 y1, .int .i64 (-y2)] 41))
        have KDx := Lib.hid (blk_old KD.out (.cells #[.int .i64 y0, .int .i64 y1, .int .i64 (-y2)] 41))
        clear hq hI2
        go_wp2_with (at_builtin; refine wpList_append_recM (W := w3) _ _ 33 41 (.agg #[.int .i64 0, .int .i64 0, .int .i64 0]) 3 24 el_Stake [y0, y1, -y2] v _ HBy.out HOx hSx.out rfl rfl rfl rfl (by first | rfl | simp) rfl (by simp; omega) (by decide) ?_)
        intro v5 w5 hO5 hB5 hS5 hoth
        have KC5 := Lib.hid (hoth.out G _ (HOx.out.ne KCx.out (by decide)) KCx.out)
        have KD5 := Lib.hid (hoth.out (G + 1) _ (HOx.out.ne KDx.out (by decide)) KDx.out)
        obtain ⟨a5, c5, rfl⟩ := hO5.out.form
        clear hoth c0 c1 c2 k1 d1 lK lD hbl3
        have d1 := cells_of_blk KD5.out 1 _ rfl
        have e1 := free_of_blk KD5.out 1
        have lD5 := (Array.getElem?_eq_some_iff.1 KD5.out).1
        go_wp2_with fail
        go_roundw
        case rel =>
          have hlen : (List.take i (List.map negS b.s) ++ [[y0, y1, -y2]]).length = i + 1 := by simp; omega
          have hO6 := hO5.out.setOtherM KD5.out (by decide) 1 (Value.slice a5 (i + 1) c5)
          rw [hlen] at hO6
          have hO7 : RowOwn (w5.setCell ⟨G + 1, 1, none⟩ (Value.slice a5 (i + 1) c5)) w3.heap.size 41 (Value.slice a5 (i + 1) c5) 3 ((b.s.take (i + 1)).map negS) := by
            rw [HT.out, hG, List.map_take]
            exact hO6
          have hB7 : Below w3.heap.size w3 (w5.setCell ⟨G + 1, 1, none⟩ (Value.slice a5 (i + 1) c5)) := by
            rw [hG]
            exact hB5.out.setCell (p := ⟨G + 1, 1, none⟩) (by show G ≤ G + 1; omega) _
          exact ⟨i + 1, _, by go_num, by show _ ≤ _; omega, hO7, HV2.out, set_oth KC5.out _ _ (by omega), set_blk KD5.out 1 _, hB7⟩
        case measure => simp [intOf]; omega
    · have tn : decide ((i : Int) < (b.s.length : Int)) = false := decide_eq_false (by omega)
      have hz : b.s.take i = b.s := List.take_of_length_le (by omega)
      rw [hz] at HO HV
      have HBW : Hid (Below w.heap.size w wr) := (HB3.out.trans (hBr.out.mono HB3.out.size))
      have BB : Hid (BkAt wr (.agg #[.slice Ah b.h.length ch, .slice As b.s.length cs, .slice Ao b.o.length co, .slice Ar b.r.length cr, .int .i64 b.n]) b) := B3.out.call hBr.out
      have BD : Hid (BkAt wr (.agg #[.slice Ah b.h.length ch, v, .slice Ao b.o.length co, .slice Ar b.r.length cr, .int .i64 b.n]) b.turned) := ⟨_, _, _, _, rfl, BW.out.1.call HBW.out, HO.out.row, BW.out.2.1.call HBW.out, BW.out.2.2.call HBW.out⟩
      have BC : Hid (BkAt wr (.agg #[.slice Ah b.h.length ch, .slice none 0 0, .slice Ao b.o.length co, .slice Ar b.r.length cr, .int .i64 b.n]) b.bare) := ⟨_, _, _, _, rfl, BW.out.1.call HBW.out, ⟨none, 0, rfl, fun r hr => (by cases hr), .inl rfl⟩, BW.out.2.1.call HBW.out, BW.out.2.2.call HBW.out⟩
      have HSD : Hid b.turned.Small := (show _ from by have := hs.out; unfold Bk.Small at this ⊢; exact ⟨this.1, by show (b.s.map negS).length ≤ _; rw [List.length_map]; exact this.2.1, this.2.2⟩)
      have HID : Hid b.turned.I64s := (show _ from ⟨hi.out.1, HV.out, hi.out.2.2⟩)
      have zI : I64 0 := by unfold I64; omega
      have q2 : Hid (∀ (u : Value) (wz : World) (r : Int), Hid (BkAt wz u b.turned) → Calls Try.prog 32 #[u, .int .i64 acc, .int .i64 0, .int .i64 0, .int .i64 r] wz fun e w' => e = .returned (.tuple #[.int .i64 (needP b acc 0 0 r).1, .bool (needP b acc 0 0 r).2]) ∧ Below wz.heap.size wz w') :=
        (show _ from fun u wz r hv => by rw [← turned_need LS.out acc 0 0 r]; exact Need_any u b.turned acc 0 0 r wz hv HSD HID (Lib.hid zI) (Lib.hid zI))
      clear HSD HID zI hz HV HO HEQ
      have t0 : ∀ x : Int, (x == x) = true := fun x => by simp
      have t1 : ∀ x : Bool, (x == x) = true := fun x => by simp
      have a0 := cells_of_blk KB.out 0 _ rfl
      have a1 := cells_of_blk KB.out 1 _ rfl
      have a2 := cells_of_blk KB.out 2 _ rfl
      have a3 := cells_of_blk KB.out 3 _ rfl
      have a4 := cells_of_blk KB.out 4 _ rfl
      go_wp2_with fail
      with_reducible refine (q1.out _ _ _ BB).mono ?_
      rintro e w6 ⟨rfl, hb⟩
      clear a0 a1 a2 a3 a4
      replace KB := Lib.hid (blk_call KB.out hb)
      replace KC := Lib.hid (blk_call KC.out hb)
      replace KD := Lib.hid (blk_call KD.out hb)
      replace BB := Lib.hid (BB.out.call hb)
      replace BC := Lib.hid (BC.out.call hb)
      replace BD := Lib.hid (BD.out.call hb)
      replace HBW := Lib.hid (HBW.out.trans (hb.mono HBW.out.size))
      clear hb
      have a0 := cells_of_blk KD.out 0 _ rfl
      have a1 := cells_of_blk KD.out 1 _ rfl
      have a2 := cells_of_blk KD.out 2 _ rfl
      have a3 := cells_of_blk KD.out 3 _ rfl
      have a4 := cells_of_blk KD.out 4 _ rfl
      go_wp2_with fail
      with_reducible refine (q2.out _ _ _ BD).mono ?_
      rintro e w7 ⟨rfl, hb⟩
      clear a0 a1 a2 a3 a4
      replace KB := Lib.hid (blk_call KB.out hb)
      replace KC := Lib.hid (blk_call KC.out hb)
      replace KD := Lib.hid (blk_call KD.out hb)
      replace BB := Lib.hid (BB.out.call hb)
      replace BC := Lib.hid (BC.out.call hb)
      replace BD := Lib.hid (BD.out.call hb)
      replace HBW := Lib.hid (HBW.out.trans (hb.mono HBW.out.size))
      clear hb
      have a0 := cells_of_blk KC.out 0 _ rfl
      have a1 := cells_of_blk KC.out 1 _ rfl
      have a2 := cells_of_blk KC.out 2 _ rfl
      have a3 := cells_of_blk KC.out 3 _ rfl
      have a4 := cells_of_blk KC.out 4 _ rfl
      go_wp2_with fail
      with_reducible refine (q4.out _ _ BC).mono ?_
      rintro e w8 ⟨rfl, hb⟩
      clear a0 a1 a2 a3 a4
      replace KB := Lib.hid (blk_call KB.out hb)
      replace KC := Lib.hid (blk_call KC.out hb)
      replace KD := Lib.hid (blk_call KD.out hb)
      replace BB := Lib.hid (BB.out.call hb)
      replace BC := Lib.hid (BC.out.call hb)
      replace BD := Lib.hid (BD.out.call hb)
      replace HBW := Lib.hid (HBW.out.trans (hb.mono HBW.out.size))
      clear hb
      have a0 := cells_of_blk KB.out 0 _ rfl
      have a1 := cells_of_blk KB.out 1 _ rfl
      have a2 := cells_of_blk KB.out 2 _ rfl
      have a3 := cells_of_blk KB.out 3 _ rfl
      have a4 := cells_of_blk KB.out 4 _ rfl
      go_wp2_with fail
      with_reducible refine (qh.out _ _ BB).mono ?_
      rintro e w9 ⟨rfl, hb⟩
      clear a0 a1 a2 a3 a4
      replace KB := Lib.hid (blk_call KB.out hb)
      replace KC := Lib.hid (blk_call KC.out hb)
      replace KD := Lib.hid (blk_call KD.out hb)
      replace BB := Lib.hid (BB.out.call hb)
      replace BC := Lib.hid (BC.out.call hb)
      replace BD := Lib.hid (BD.out.call hb)
      replace HBW := Lib.hid (HBW.out.trans (hb.mono HBW.out.size))
      clear hb
      have HBZ : Hid (Below w.heap.size w (w9.alloc (.cells #[.int .i64 h0, .int .i64 h1, .int .i64 h2, .int .i64 h3] 39))) := below_alloc HBW.out HBW.out.size _
      go_wp2_with fail
      go_ret
      exact ⟨rfl, HBZ.out⟩
end
end Go.Proofs.Ytfkfpppiikgjbaa
