/- Part 4 of what the claim rests on. -/
import Derived.Test.YtajogedbacpohaaGreatDoorB00
import Derived.Test.YtajogedbacpohaaGreatDoorB02
set_option linter.unusedVariables false
set_option linter.unusedSimpArgs false
set_option maxRecDepth 1000000
set_option maxHeartbeats 32000000
namespace Go.Proofs.YtajogedbacpohaaGreatDoor
section
open Go Go.RowKit
theorem zz7q {w : World} {g : Nat} {t : TypeId} {cur : List Value} (o : Nat) (vs : List Value) (hg : w.heap[g]? = some (.cells cur.toArray t (0, 0))) (hl : o + vs.length ≤ cur.length) (h1 : ∀ u ∈ vs, u.oneCell' = true) : w.setCells g o vs = w.setRow g (splice cur o vs).toArray := by
 have e1 := run_storeCells_at Tryz.prog g o t vs 0 cur.toArray w hg (by simpa using hl) h1
 have e2 := run_storeCells_cells (P := Tryz.prog) g o vs 0 w (fun j hj => by rw [zz00 hg _ _ (show cur.toArray[o + 0 + j]? = some _ from by rw [List.getElem?_toArray]; exact List.getElem?_eq_getElem zw)]; rfl) (fun j hj => zz04 hg _) h1
 rw [e1] at e2;injection e2 with _ h
 rw [Nat.add_zero] at h;rw [← h];simp [splice, List.append_assoc]
theorem zz7o (cur X1 D X2 Y : List Value) (k : Nat) (hY : Y.length = k) (hD : D.length = k) (ht : cur.take (X1.length + k + X2.length) = X1 ++ (D ++ X2)) (hc : X1.length + k + X2.length ≤ cur.length) :
  (splice cur X1.length Y).take (X1.length + k + X2.length) = X1 ++ (Y ++ X2) := by
 have e1 : cur.take X1.length = X1 := by
  exact zt81
 have e2 : (cur.drop (X1.length + k)).take X2.length = X2 := by
  have := congrArg (List.drop (X1.length + k)) ht;rw [List.drop_take, ← List.append_assoc, List.drop_left' (by simp; omega)] at this
  rw [show X1.length + k + X2.length - (X1.length + k) = X2.length by omega] at this
  exact this
 rw [splice, e1, hY, Nat.add_assoc, List.take_append, List.take_of_length_le zw, List.take_append, List.take_of_length_le zw, hY,
  show X1.length + (k + X2.length) - X1.length - k = X2.length by omega, e2]
theorem zz8o {w : World} {B : Nat} {e : TypeId} {k : Nat} {l : List (List Int)} {g cap : Nat} (p : Nat) (x : List Int) (h : RowOwn w B e (.slice (some ⟨g, 0, none⟩) l.length cap) k l) (hp : p < l.length) (hx : x.length = k) :
  RowOwn (w.setCells g (p * k) (x.map (Value.int .i64))) B e (.slice (some ⟨g, 0, none⟩) l.length cap) k (l.take p ++ x :: l.drop (p + 1)) ∧ w.grownBy (w.setCells g (p * k) (x.map (Value.int .i64))) (some g) := by
 obtain ⟨ho, hk⟩ := h;rcases ho.2 with ⟨h, _⟩ | ⟨g', cap', cur, h, hBg, hg, hnc, hcm, hcs, ht⟩
 ·cases h
 ·injection h with h1 _ h3
  injection h1 with h1
  injection h1 with h1
  subst h1 h3;have hkt : ∀ r ∈ l.take p, r.length = k := fun r hr => hk r (List.mem_of_mem_take hr)
  have hkd : ∀ r ∈ l.drop (p + 1), r.length = k := fun r hr => hk r (List.mem_of_mem_drop hr)
  have hX1 : (flatC (l.take p)).length = p * k := by rw [zz0r hkt, List.length_take, Nat.min_eq_left zw]
  have hX2 : (flatC (l.drop (p + 1))).length = (l.length - (p + 1)) * k := by rw [zz0r hkd, List.length_drop]
  have hD : (flatC [l[p]]).length = k := by rw [zz0r (k := k) (by intro r hr; simp at hr; rw [hr]; exact hk _ (List.getElem_mem hp))]; simp
  have hsp : l = l.take p ++ ([l[p]] ++ l.drop (p + 1)) := by
   have := List.take_append_drop p l;rw [List.drop_eq_getElem_cons hp] at this;exact this.symm
  have hX : flatC l = flatC (l.take p) ++ (flatC [l[p]] ++ flatC (l.drop (p + 1))) := by
   have := congrArg flatC hsp;rw [zz0i, zz0i] at this;exact this
  have hcur : cur.toList.length = cap * k := by rw [Array.length_toList]; exact hcs
  have hle : l.length * k ≤ cap * k := Nat.mul_le_mul_right _ hnc;have hnk : p * k + k + (l.length - (p + 1)) * k = l.length * k := by
   rw [← Nat.succ_mul, ← Nat.add_mul]; congr 1; omega
  have hY : (x.map (Value.int .i64)).length = k := by rw [List.length_map, hx]
  have hY1 : ∀ u ∈ x.map (Value.int .i64), u.oneCell' = true := fun u hu => by obtain ⟨y, _, rfl⟩ := List.mem_map.1 hu; rfl
  have hg' : w.heap[g]? = some (.cells cur.toList.toArray e (0, 0)) := by simpa using hg
  rw [zz7q (p * k) _ hg' zw hY1];have hlen : (l.take p ++ x :: l.drop (p + 1)).length = l.length := by simp; omega
  have hrows : ∀ r ∈ l.take p ++ x :: l.drop (p + 1), r.length = k := fun r hr => by
   rcases List.mem_append.1 hr with hr | hr
   ·exact hkt r hr
   ·rcases List.mem_cons.1 hr with rfl | hr
    ·exact hx
    ·exact hkd r hr
  refine ⟨⟨⟨?_, .inr ⟨g, cap, _, ?_, hBg, setRow_heap w g _ _ e _ hg', ?_, hcm, ?_, ?_⟩⟩, hrows⟩, ⟨rfl, rfl, rfl, by simp [World.setRow], fun j hj hne => setRow_other w g j _ (fun e => hne (by simp [e]))⟩⟩
  ·rw [zz0r hrows]
  ·rw [hlen]
  ·omega
  ·rw [List.size_toArray, length_splice _ _ _ zw, hcur]
  ·have hp := zz7o cur.toList (flatC (l.take p)) (flatC [l[p]]) (flatC (l.drop (p + 1))) (x.map (Value.int .i64)) k hY hD (by rw [← hX, ← ht, hX1, hX2]; congr 1) zw
   rw [hX1, hX2, hnk] at hp;rw [zz0i, show flatC (x :: l.drop (p + 1)) = x.map (Value.int .i64) ++ flatC (l.drop (p + 1)) by simp [flatC], ← hp]
   simp only [];rw [hlen]
theorem RowOwn.mono {w : World} {B B' : Nat} {e : TypeId} {v : Value} {k : Nat} {l : List (List Int)} (h : RowOwn w B e v k l) (hb : B' ≤ B) : RowOwn w B' e v k l := by
 obtain ⟨⟨hl, ho⟩, hk⟩ := h;refine ⟨⟨hl, ?_⟩, hk⟩;rcases ho with h | ⟨g, cap, cur, h1, h2, h3⟩
 ·exact .inl h
 ·exact .inr ⟨g, cap, cur, h1, Nat.le_trans hb h2, h3⟩
theorem zz73 (v : Value) (l : List (List Int)) (x0 x1 x2 x3 id : Int) (p : Nat) (w : World) (hv : Hid (RowAt w v 4 l)) (hl : l.length ≤ 999999) (hp : p ≤ l.length) (hlt : Hid (∀ (h : Nat) (r : List Int), l[h]? = some r → (r.headD 0 < id ↔ h < p))) (hF : Hid (false = match l[p]? with | some r => decide (r.headD 0 = id) | none => false)) :
  Calls Tryz.prog 141 #[v, .agg #[x0, x1, x2, x3], .int .i64 id, .func (.func 125) #[] #[], .bool false] w fun e w' => ∃ v', e = .returned v' ∧ RowOwn w' w.heap.size 78 v' 4 (l.take p ++ [x0, x1, x2, x3] :: l.drop p) ∧ Below w.heap.size w w' := by
 have HB0 : Hid (Below w.heap.size w (w.alloc (.cells #[x0, x1, x2, x3] 78))) := zBa;have hv1 := zH (hv.out.call HB0.out);have qc := zH (zz1r v l (w.alloc (.cells #[x0, x1, x2, x3] 78)) hv1 zw);have qs := zH (fun v w hv => zz14 v l id p false w hv zw zw hlt hF)
 have hx := zH (zz02 w (.cells #[x0, x1, x2, x3] 78));have qi := zH (fun B v vb w hv hB hb hne => zz4x B v l [x0, x1, x2, x3] p vb w hv hB zw hp rfl hb hne)
 go_in;go_wp2_with fail;(with_reducible refine qc.out.mono ?_);rintro e w1 ⟨v1, rfl, hown, hb1⟩;have hs1 : w.heap.size + 1 ≤ w1.heap.size := by have := hb1.size; simpa using this
 have HO := zH (hown.mono (B' := w.heap.size + 1) zo);have hr1 := zH hown.row.rec';have HX1 := zK hx hb1;have HB1 := zH (HB0.out.trans (hb1.mono zo));clear hown hb1 hx;go_wp2_with fail;(with_reducible refine (qs.out _ _ hr1).mono ?_);rintro e w2 ⟨rfl, hb2⟩;have k2 := zz06 HX1.out hb2;have c0 := zC k2;have hs2 := hb2.size;have HB2 := zH (HB1.out.trans (hb2.mono zw));have HO2 := HO.out.kept hb2;have hne : v1.ownBlock ≠ some w2.heap.size := fun h => Nat.lt_irrefl _ (HO2.1.lt _ h).2
 have hown3 : Hid (RowOwn (w2.alloc (.cells #[x0, x1, x2, x3] 78)) (w.heap.size + 1) 78 v1 4 l) := HO2.kept zBa;have hbase := zH (fun k h => (HO2.1.lt k h).1)
 have hB3 : w.heap.size + 1 ≤ (w2.alloc (.cells #[x0, x1, x2, x3] 78)).heap.size := by simp; omega
 have hb3 : Hid ((w2.alloc (.cells #[x0, x1, x2, x3] 78)).heap[w2.heap.size]? = some (.cells ([x0, x1, x2, x3].map (Value.int .i64)).toArray 78 (0, 0))) := zz02 w2 _;have HB3 : Hid (Below w.heap.size w (w2.alloc (.cells #[x0, x1, x2, x3] 78))) := zz01 HB2.out zw _;clear k2 hb2 HO2;go_wp2_with fail;(with_reducible refine (qi.out _ _ _ _ hown3 hB3 hb3 hne).mono ?_);rintro e w4 ⟨v', rfl, hown4, hgr⟩;have fin := zH (show RowOwn w4 w.heap.size 78 v' 4 (l.take p ++ [x0, x1, x2, x3] :: l.drop p) ∧ Below w.heap.size w w4 from ⟨hown4.mono zw, HB3.out.grown hgr zo (fun k hk => by have := hbase.out k hk; omega)⟩)
 clear hown4 hgr;go_wp2_with fail;go_ret;exact ⟨v', rfl, fin.out⟩
theorem zt44 {p : Prop} (h : p := by
 rcases HO2.out.1.2 with ⟨h, _⟩ | ⟨g', cap', cur, h, hBg, hg, _⟩
 ·cases h
 ·injection h with h1 _ h3
  injection h1 with h1
  injection h1 with h1
  subst h1;exact zz04 hg j) : p := h
theorem zz72 (v : Value) (l : List (List Int)) (x0 x1 x2 x3 id : Int) (p : Nat) (w : World) (hv : Hid (RowAt w v 4 l)) (hl : l.length ≤ 999999) (hp : p < l.length) (hlt : Hid (∀ (h : Nat) (r : List Int), l[h]? = some r → (r.headD 0 < id ↔ h < p))) (hF : Hid (true = match l[p]? with | some r => decide (r.headD 0 = id) | none => false)) :
  Calls Tryz.prog 141 #[v, .agg #[x0, x1, x2, x3], .int .i64 id, .func (.func 125) #[] #[], .bool false] w fun e w' => ∃ v', e = .returned v' ∧ RowOwn w' w.heap.size 78 v' 4 (l.take p ++ [x0, x1, x2, x3] :: l.drop (p + 1)) ∧ Below w.heap.size w w' := by
 have HB0 : Hid (Below w.heap.size w (w.alloc (.cells #[x0, x1, x2, x3] 78))) := zBa;have hv1 := zH (hv.out.call HB0.out);have qc := zH (zz1r v l (w.alloc (.cells #[x0, x1, x2, x3] 78)) hv1 zw);have qs := zH (fun v w hv => zz14 v l id p true w hv zw zw hlt hF)
 have hx := zH (zz02 w (.cells #[x0, x1, x2, x3] 78));go_in;go_wp2_with fail;(with_reducible refine qc.out.mono ?_);rintro e w1 ⟨v1, rfl, hown, hb1⟩;have hs1 : w.heap.size + 1 ≤ w1.heap.size := by have := hb1.size; simpa using this
 replace hown := hown.mono (B' := w.heap.size + 1) zo;have hr1 := zH hown.row.rec';obtain ⟨g, cap, rfl⟩ : ∃ g cap, v1 = .slice (some ⟨g, 0, none⟩) l.length cap := by
  rcases hown.1.2 with ⟨_, h0⟩ | ⟨g, cap, cur, h, _⟩
  ·omega
  ·exact ⟨g, cap, h⟩
 have HO := zH hown;have HX1 := zK hx hb1;have HB1 := zH (HB0.out.trans (hb1.mono zo));have hpl : (p : Int) < (l.length : Int) := by omega
 have hpl' : p < l.length := by omega
 have hy := List.getElem?_eq_getElem hp;obtain ⟨hyk, b0, o0, hAo, hbl, hyc1⟩ : (l[p]).length = 4 ∧ ∃ b o, some (⟨g, 0, none⟩ : Addr) = some ⟨b, o, none⟩ ∧ b < w1.heap.size ∧ ∀ (j : Nat) (x : Int), (l[p])[j]? = some x → w1.cell? ⟨b, o + p * 4 + j, none⟩ = some (.int .i64 x) := by
  obtain ⟨A, c, h, hi⟩ := hr1.out;injection h with h1 _ _
  subst h1;exact hi p _ hy
 injection hAo with hAo
 injection hAo with hA1 hA2
 subst hA1 hA2;clear hy;have HYC := zH hyc1;have HYK := zH hyk;generalize l[p] = y at HYC HYK;clear hown hb1 hx hyc1 hyk;go_wp2_with fail;(with_reducible refine (qs.out _ _ hr1).mono ?_);rintro e w2 ⟨rfl, hb2⟩;have k2 := zz06 HX1.out hb2;have c0 := zC k2;have hs2 := hb2.size;have HB2 := zH (HB1.out.trans (hb2.mono zw));have HO2 := zH (HO.out.kept hb2);have hyk := HYK.out;have hyc : ∀ (j : Nat) (x : Int), y[j]? = some x → w2.cell? ⟨g, 0 + p * 4 + j, none⟩ = some (.int .i64 x) := fun j x hj => (hb2.cell (p := ⟨g, 0 + p * 4 + j, none⟩) hbl).trans (HYC.out j x hj)
 clear HYC HYK;obtain ⟨y0, y1, y2, y3, rfl⟩ : ∃ y0 y1 y2 y3, y = [y0, y1, y2, y3] := by
  match y, hyk with
  | [y0, y1, y2, y3], _ => exact ⟨y0, y1, y2, y3, rfl⟩
 have e0 : w2.cell? ⟨g, p * 4, none⟩ = some (.int .i64 y0) := by have := hyc 0 _ rfl; simpa using this
 have e1 : w2.cell? ⟨g, p * 4 + 1, none⟩ = some (.int .i64 y1) := by have := hyc 1 _ rfl; simpa using this
 have e2 : w2.cell? ⟨g, p * 4 + 2, none⟩ = some (.int .i64 y2) := by have := hyc 2 _ rfl; simpa using this
 have e3 : w2.cell? ⟨g, p * 4 + 3, none⟩ = some (.int .i64 y3) := by have := hyc 3 _ rfl; simpa using this
 have fz : ∀ j, w2.frozen? ⟨g, j, none⟩ = false := fun j => by
  exact zt44
 have f0 := fz (p * 4);have f1 := fz (p * 4 + 1);have f2 := fz (p * 4 + 2);have f3 := fz (p * 4 + 3);have hBg : w.heap.size ≤ g := by have := (HO2.out.1.lt g rfl).1; omega
 have fin : Hid (RowOwn (w2.setCells g (p * 4) ([x0, x1, x2, x3].map (Value.int .i64))) w.heap.size 78 (.slice (some ⟨g, 0, none⟩) l.length cap) 4 (l.take p ++ [x0, x1, x2, x3] :: l.drop (p + 1)) ∧ Below w.heap.size w (w2.setCells g (p * 4) ([x0, x1, x2, x3].map (Value.int .i64)))) := by
  have := zz8o p [x0, x1, x2, x3] HO2.out hp rfl;exact ⟨this.1.mono zw, HB2.out.grown this.2 zw (fun k hk => by injection hk with hk; omega)⟩
 clear k2 hb2 hyc fz hyk;go_wp2_with fail;go_ret;exact ⟨_, rfl, fin.out⟩
theorem zz7w (v : Value) (l : List (List Int)) (x0 x1 x2 kx ky : Int) (p : Nat) (w : World) (hv : Hid (RowAt w v 3 l)) (hl : l.length ≤ 999999) (hp : p ≤ l.length) (hlt : Hid (∀ (h : Nat) (r : List Int), l[h]? = some r → (stLt r kx ky ↔ h < p))) (hF : Hid (false = match l[p]? with | some r => decide (r.headD 0 = kx ∧ r.tail.headD 0 = ky) | none => false)) :
  Calls Tryz.prog 154 #[v, .agg #[x0, x1, x2], .agg #[kx, ky], .func (.func 134) #[] #[], .bool false] w fun e w' => ∃ v', e = .returned v' ∧ RowOwn w' w.heap.size 80 v' 3 (l.take p ++ [x0, x1, x2] :: l.drop p) ∧ Below w.heap.size w w' := by
 have HB0 : Hid (Below w.heap.size w ((w.alloc (.cells #[x0, x1, x2] 80)).alloc (.cells #[kx, ky] 179))) := zz01 zBa zo _;have hv1 := zH (hv.out.call HB0.out);have qc := zH (zz15 v l ((w.alloc (.cells #[x0, x1, x2] 80)).alloc (.cells #[kx, ky] 179)) hv1 zw);have qs := zH (fun v w hv => zz0u v l kx ky p false w hv zw zw hlt hF)
 have hx := zH (zz05 (zz02 w (.cells #[x0, x1, x2] 80)) (.cells #[kx, ky] 179));have qi := zH (fun B v vb w hv hB hb hne => zz53 B v l [x0, x1, x2] p vb w hv hB zw hp rfl hb hne)
 go_in;go_wp2_with fail;(with_reducible refine qc.out.mono ?_);rintro e w1 ⟨v1, rfl, hown, hb1⟩;have hs1 : w.heap.size + 2 ≤ w1.heap.size := by have := hb1.size; simpa using this
 have HO := zH (hown.mono (B' := w.heap.size + 2) zo);have hr1 := zH hown.row.rec';have HX1 := zK hx hb1;have kk1 := zz06 (zz02 (w.alloc (.cells #[x0, x1, x2] 80)) (.cells #[kx, ky] 179)) hb1;have d0 : w1.cell? ⟨w.heap.size + 1, 0, none⟩ = some (.int .i64 kx) := by have := zz00 kk1 0 _ rfl; simpa using this
 have d1 : w1.cell? ⟨w.heap.size + 1, 1, none⟩ = some (.int .i64 ky) := by have := zz00 kk1 1 _ rfl; simpa using this
 clear kk1;have HB1 := zH (HB0.out.trans (hb1.mono zo));clear hown hb1 hx;go_wp2_with fail;(with_reducible refine (qs.out _ _ hr1).mono ?_);rintro e w2 ⟨rfl, hb2⟩;have k2 := zz06 HX1.out hb2;have c0 := zC k2;have hs2 := hb2.size;have HB2 := zH (HB1.out.trans (hb2.mono zw));have HO2 := HO.out.kept hb2;have hne : v1.ownBlock ≠ some w2.heap.size := fun h => Nat.lt_irrefl _ (HO2.1.lt _ h).2
 have hown3 : Hid (RowOwn (w2.alloc (.cells #[x0, x1, x2] 80)) (w.heap.size + 2) 80 v1 3 l) := HO2.kept zBa;have hbase := zH (fun k h => (HO2.1.lt k h).1)
 have hB3 : w.heap.size + 2 ≤ (w2.alloc (.cells #[x0, x1, x2] 80)).heap.size := by simp; omega
 have hb3 : Hid ((w2.alloc (.cells #[x0, x1, x2] 80)).heap[w2.heap.size]? = some (.cells ([x0, x1, x2].map (Value.int .i64)).toArray 80 (0, 0))) := zz02 w2 _;have HB3 : Hid (Below w.heap.size w (w2.alloc (.cells #[x0, x1, x2] 80))) := zz01 HB2.out zw _;clear k2 hb2 HO2;go_wp2_with fail;(with_reducible refine (qi.out _ _ _ _ hown3 hB3 hb3 hne).mono ?_);rintro e w4 ⟨v', rfl, hown4, hgr⟩;have fin := zH (show RowOwn w4 w.heap.size 80 v' 3 (l.take p ++ [x0, x1, x2] :: l.drop p) ∧ Below w.heap.size w w4 from ⟨hown4.mono zw, HB3.out.grown hgr zo (fun k hk => by have := hbase.out k hk; omega)⟩)
 clear hown4 hgr;go_wp2_with fail;go_ret;exact ⟨v', rfl, fin.out⟩
theorem zz7v (v : Value) (l : List (List Int)) (x0 x1 x2 kx ky : Int) (p : Nat) (w : World) (hv : Hid (RowAt w v 3 l)) (hl : l.length ≤ 999999) (hp : p < l.length) (hlt : Hid (∀ (h : Nat) (r : List Int), l[h]? = some r → (stLt r kx ky ↔ h < p))) (hF : Hid (true = match l[p]? with | some r => decide (r.headD 0 = kx ∧ r.tail.headD 0 = ky) | none => false)) :
  Calls Tryz.prog 154 #[v, .agg #[x0, x1, x2], .agg #[kx, ky], .func (.func 134) #[] #[], .bool false] w fun e w' => ∃ v', e = .returned v' ∧ RowOwn w' w.heap.size 80 v' 3 (l.take p ++ [x0, x1, x2] :: l.drop (p + 1)) ∧ Below w.heap.size w w' := by
 have HB0 : Hid (Below w.heap.size w ((w.alloc (.cells #[x0, x1, x2] 80)).alloc (.cells #[kx, ky] 179))) := zz01 zBa zo _;have hv1 := zH (hv.out.call HB0.out);have qc := zH (zz15 v l ((w.alloc (.cells #[x0, x1, x2] 80)).alloc (.cells #[kx, ky] 179)) hv1 zw);have qs := zH (fun v w hv => zz0u v l kx ky p true w hv zw zw hlt hF)
 have hx := zH (zz05 (zz02 w (.cells #[x0, x1, x2] 80)) (.cells #[kx, ky] 179));go_in;go_wp2_with fail;(with_reducible refine qc.out.mono ?_);rintro e w1 ⟨v1, rfl, hown, hb1⟩;have hs1 : w.heap.size + 2 ≤ w1.heap.size := by have := hb1.size; simpa using this
 replace hown := hown.mono (B' := w.heap.size + 2) zo;have hr1 := zH hown.row.rec';obtain ⟨g, cap, rfl⟩ : ∃ g cap, v1 = .slice (some ⟨g, 0, none⟩) l.length cap := by
  rcases hown.1.2 with ⟨_, h0⟩ | ⟨g, cap, cur, h, _⟩
  ·omega
  ·exact ⟨g, cap, h⟩
 have HO := zH hown;have HX1 := zK hx hb1;have kk1 := zz06 (zz02 (w.alloc (.cells #[x0, x1, x2] 80)) (.cells #[kx, ky] 179)) hb1;have d0 : w1.cell? ⟨w.heap.size + 1, 0, none⟩ = some (.int .i64 kx) := by have := zz00 kk1 0 _ rfl; simpa using this
 have d1 : w1.cell? ⟨w.heap.size + 1, 1, none⟩ = some (.int .i64 ky) := by have := zz00 kk1 1 _ rfl; simpa using this
 clear kk1;have HB1 := zH (HB0.out.trans (hb1.mono zo));have hpl : (p : Int) < (l.length : Int) := by omega
 have hpl' : p < l.length := by omega
 have hy := List.getElem?_eq_getElem hp;obtain ⟨hyk, b0, o0, hAo, hbl, hyc1⟩ : (l[p]).length = 3 ∧ ∃ b o, some (⟨g, 0, none⟩ : Addr) = some ⟨b, o, none⟩ ∧ b < w1.heap.size ∧ ∀ (j : Nat) (x : Int), (l[p])[j]? = some x → w1.cell? ⟨b, o + p * 3 + j, none⟩ = some (.int .i64 x) := by
  obtain ⟨A, c, h, hi⟩ := hr1.out;injection h with h1 _ _
  subst h1;exact hi p _ hy
 injection hAo with hAo
 injection hAo with hA1 hA2
 subst hA1 hA2;clear hy;have HYC := zH hyc1;have HYK := zH hyk;generalize l[p] = y at HYC HYK;clear hown hb1 hx hyc1 hyk;go_wp2_with fail;(with_reducible refine (qs.out _ _ hr1).mono ?_);rintro e w2 ⟨rfl, hb2⟩;have k2 := zz06 HX1.out hb2;have c0 := zC k2;have hs2 := hb2.size;have HB2 := zH (HB1.out.trans (hb2.mono zw));have HO2 := zH (HO.out.kept hb2);have hyk := HYK.out;have hyc : ∀ (j : Nat) (x : Int), y[j]? = some x → w2.cell? ⟨g, 0 + p * 3 + j, none⟩ = some (.int .i64 x) := fun j x hj => (hb2.cell (p := ⟨g, 0 + p * 3 + j, none⟩) hbl).trans (HYC.out j x hj)
 clear HYC HYK;obtain ⟨y0, y1, y2, rfl⟩ : ∃ y0 y1 y2, y = [y0, y1, y2] := by
  match y, hyk with
  | [y0, y1, y2], _ => exact ⟨y0, y1, y2, rfl⟩
 have e0 : w2.cell? ⟨g, p * 3, none⟩ = some (.int .i64 y0) := by have := hyc 0 _ rfl; simpa using this
 have e1 : w2.cell? ⟨g, p * 3 + 1, none⟩ = some (.int .i64 y1) := by have := hyc 1 _ rfl; simpa using this
 have e2 : w2.cell? ⟨g, p * 3 + 2, none⟩ = some (.int .i64 y2) := by have := hyc 2 _ rfl; simpa using this
 have fz : ∀ j, w2.frozen? ⟨g, j, none⟩ = false := fun j => by
  exact zt44
 have f0 := fz (p * 3);have f1 := fz (p * 3 + 1);have f2 := fz (p * 3 + 2);have hBg : w.heap.size ≤ g := by have := (HO2.out.1.lt g rfl).1; omega
 have fin : Hid (RowOwn (w2.setCells g (p * 3) ([x0, x1, x2].map (Value.int .i64))) w.heap.size 80 (.slice (some ⟨g, 0, none⟩) l.length cap) 3 (l.take p ++ [x0, x1, x2] :: l.drop (p + 1)) ∧ Below w.heap.size w (w2.setCells g (p * 3) ([x0, x1, x2].map (Value.int .i64)))) := by
  have := zz8o p [x0, x1, x2] HO2.out hp rfl;exact ⟨this.1.mono zw, HB2.out.grown this.2 zw (fun k hk => by injection hk with hk; omega)⟩
 clear k2 hb2 hyc fz hyk;go_wp2_with fail;go_ret;exact ⟨_, rfl, fin.out⟩
theorem zz7x (v : Value) (l : List (List Int)) (x0 x1 x2 kx ky : Int) (p : Nat) (w : World) (hv : Hid (RowAt w v 3 l)) (hl : l.length ≤ 999999) (hp : p < l.length) (hlt : Hid (∀ (h : Nat) (r : List Int), l[h]? = some r → (stLt r kx ky ↔ h < p))) (hF : Hid (true = match l[p]? with | some r => decide (r.headD 0 = kx ∧ r.tail.headD 0 = ky) | none => false)) :
  Calls Tryz.prog 154 #[v, .agg #[x0, x1, x2], .agg #[kx, ky], .func (.func 134) #[] #[], .bool true] w fun e w' => ∃ v', e = .returned v' ∧ RowOwn w' w.heap.size 80 v' 3 (l.take p ++ l.drop (p + 1)) ∧ Below w.heap.size w w' := by
 have HB0 : Hid (Below w.heap.size w ((w.alloc (.cells #[x0, x1, x2] 80)).alloc (.cells #[kx, ky] 179))) := zz01 zBa zo _;have hv1 := zH (hv.out.call HB0.out);have qc := zH (zz15 v l ((w.alloc (.cells #[x0, x1, x2] 80)).alloc (.cells #[kx, ky] 179)) hv1 zw);have qs := zH (fun v w hv => zz0u v l kx ky p true w hv zw zw hlt hF)
 have hx := zH (zz05 (zz02 w (.cells #[x0, x1, x2] 80)) (.cells #[kx, ky] 179));have qi := zH (fun B v w hv => zz56 B v l p w hv zw hp)
 go_in;go_wp2_with fail;(with_reducible refine qc.out.mono ?_);rintro e w1 ⟨v1, rfl, hown, hb1⟩;have hs1 : w.heap.size + 2 ≤ w1.heap.size := by have := hb1.size; simpa using this
 have HO := zH (hown.mono (B' := w.heap.size + 2) zo);have hr1 := zH hown.row.rec';have HX1 := zK hx hb1;have kk1 := zz06 (zz02 (w.alloc (.cells #[x0, x1, x2] 80)) (.cells #[kx, ky] 179)) hb1;have d0 : w1.cell? ⟨w.heap.size + 1, 0, none⟩ = some (.int .i64 kx) := by have := zz00 kk1 0 _ rfl; simpa using this
 have d1 : w1.cell? ⟨w.heap.size + 1, 1, none⟩ = some (.int .i64 ky) := by have := zz00 kk1 1 _ rfl; simpa using this
 clear kk1;have HB1 := zH (HB0.out.trans (hb1.mono zo));have hw1 : IntKind.i64.wrap ((p : Int) + 1) = (p : Int) + 1 := by rw [IntKind.wrap_i64]; omega
 clear hown hb1 hx;go_wp2_with fail;(with_reducible refine (qs.out _ _ hr1).mono ?_);rintro e w2 ⟨rfl, hb2⟩;have hs2 := hb2.size;have HB2 := zH (HB1.out.trans (hb2.mono zw));have HO2 := zH (HO.out.kept hb2);have hbase := zH (fun k h => (HO2.out.1.lt k h).1)
 clear hb2;go_wp2_with fail;(with_reducible refine (qi.out _ _ _ HO2).mono ?_);rintro e w4 ⟨v', rfl, hown4, hgr⟩;have fin := zH (show RowOwn w4 w.heap.size 80 v' 3 (l.take p ++ l.drop (p + 1)) ∧ Below w.heap.size w w4 from ⟨hown4.mono zw, HB2.out.grown hgr zw (fun k hk => by have := hbase.out k hk; omega)⟩)
 clear hown4 hgr;go_wp2_with fail;go_ret;exact ⟨v', rfl, fin.out⟩
theorem zz71 (v : Value) (l : List (List Int)) (x0 x1 x2 kx ky : Int) (p : Nat) (w : World) (hv : Hid (RowAt w v 3 l)) (hl : l.length ≤ 999999) (hp : p ≤ l.length) (hlt : Hid (∀ (h : Nat) (r : List Int), l[h]? = some r → (stLt r kx ky ↔ h < p))) (hF : Hid (false = match l[p]? with | some r => decide (r.headD 0 = kx ∧ r.tail.headD 0 = ky) | none => false)) :
  Calls Tryz.prog 154 #[v, .agg #[x0, x1, x2], .agg #[kx, ky], .func (.func 134) #[] #[], .bool true] w fun e w' => ∃ v', e = .returned v' ∧ RowOwn w' w.heap.size 80 v' 3 (l) ∧ Below w.heap.size w w' := by
 have HB0 : Hid (Below w.heap.size w ((w.alloc (.cells #[x0, x1, x2] 80)).alloc (.cells #[kx, ky] 179))) := zz01 zBa zo _;have hv1 := zH (hv.out.call HB0.out);have qc := zH (zz15 v l ((w.alloc (.cells #[x0, x1, x2] 80)).alloc (.cells #[kx, ky] 179)) hv1 zw);have qs := zH (fun v w hv => zz0u v l kx ky p false w hv zw zw hlt hF)
 have hx := zH (zz05 (zz02 w (.cells #[x0, x1, x2] 80)) (.cells #[kx, ky] 179));go_in;go_wp2_with fail;(with_reducible refine qc.out.mono ?_);rintro e w1 ⟨v1, rfl, hown, hb1⟩;have hs1 : w.heap.size + 2 ≤ w1.heap.size := by have := hb1.size; simpa using this
 have HO := zH (hown.mono (B' := w.heap.size + 2) zo);have hr1 := zH hown.row.rec';have HX1 := zK hx hb1;have kk1 := zz06 (zz02 (w.alloc (.cells #[x0, x1, x2] 80)) (.cells #[kx, ky] 179)) hb1;have d0 : w1.cell? ⟨w.heap.size + 1, 0, none⟩ = some (.int .i64 kx) := by have := zz00 kk1 0 _ rfl; simpa using this
 have d1 : w1.cell? ⟨w.heap.size + 1, 1, none⟩ = some (.int .i64 ky) := by have := zz00 kk1 1 _ rfl; simpa using this
 clear kk1;have HB1 := zH (HB0.out.trans (hb1.mono zo));clear hown hb1 hx;go_wp2_with fail;(with_reducible refine (qs.out _ _ hr1).mono ?_);rintro e w2 ⟨rfl, hb2⟩;have fin := zH (show RowOwn w2 w.heap.size 80 v1 3 l ∧ Below w.heap.size w w2 from ⟨(HO.out.kept hb2).mono zw, HB1.out.trans (hb2.mono zw)⟩)
 clear hb2;go_wp2_with fail;go_ret;exact ⟨v1, rfl, fin.out⟩
theorem zz9w (v : Value) (l : List (List Int)) (x0 x1 x2 x3 x4 x5 id : Int) (p : Nat) (w : World) (hv : Hid (RowAt w v 6 l)) (hl : l.length ≤ 999999) (hp : p ≤ l.length) (hlt : Hid (∀ (h : Nat) (r : List Int), l[h]? = some r → (r.headD 0 < id ↔ h < p))) (hF : Hid (false = match l[p]? with | some r => decide (r.headD 0 = id) | none => false)) :
  Calls Tryz.prog 152 #[v, .agg #[x0, x1, x2, x3, x4, x5], .int .i64 id, .func (.func 128) #[] #[], .bool false] w fun e w' => ∃ v', e = .returned v' ∧ RowOwn w' w.heap.size 82 v' 6 (l.take p ++ [x0, x1, x2, x3, x4, x5] :: l.drop p) ∧ Below w.heap.size w w' := by
 have HB0 : Hid (Below w.heap.size w (w.alloc (.cells #[x0, x1, x2, x3, x4, x5] 82))) := zBa;have hv1 := zH (hv.out.call HB0.out);have qc := zH (zz1e v l (w.alloc (.cells #[x0, x1, x2, x3, x4, x5] 82)) hv1 zw);have qs := zH (fun v w hv => zz10 v l id p false w hv zw zw hlt hF)
 have hx := zH (zz02 w (.cells #[x0, x1, x2, x3, x4, x5] 82));have qi := zH (fun B v vb w hv hB hb hne => zz69 B v l [x0, x1, x2, x3, x4, x5] p vb w hv hB zw hp rfl hb hne)
 go_in;go_wp2_with fail;(with_reducible refine qc.out.mono ?_);rintro e w1 ⟨v1, rfl, hown, hb1⟩;have hs1 : w.heap.size + 1 ≤ w1.heap.size := by have := hb1.size; simpa using this
 have HO := zH (hown.mono (B' := w.heap.size + 1) zo);have hr1 := zH hown.row.rec';have HX1 := zK hx hb1;have HB1 := zH (HB0.out.trans (hb1.mono zo));clear hown hb1 hx;go_wp2_with fail;(with_reducible refine (qs.out _ _ hr1).mono ?_);rintro e w2 ⟨rfl, hb2⟩;have k2 := zz06 HX1.out hb2;have c0 := zC k2;have hs2 := hb2.size;have HB2 := zH (HB1.out.trans (hb2.mono zw));have HO2 := HO.out.kept hb2;have hne : v1.ownBlock ≠ some w2.heap.size := fun h => Nat.lt_irrefl _ (HO2.1.lt _ h).2
 have hown3 : Hid (RowOwn (w2.alloc (.cells #[x0, x1, x2, x3, x4, x5] 82)) (w.heap.size + 1) 82 v1 6 l) := HO2.kept zBa;have hbase := zH (fun k h => (HO2.1.lt k h).1)
 have hB3 : w.heap.size + 1 ≤ (w2.alloc (.cells #[x0, x1, x2, x3, x4, x5] 82)).heap.size := by simp; omega
 have hb3 : Hid ((w2.alloc (.cells #[x0, x1, x2, x3, x4, x5] 82)).heap[w2.heap.size]? = some (.cells ([x0, x1, x2, x3, x4, x5].map (Value.int .i64)).toArray 82 (0, 0))) := zz02 w2 _;have HB3 : Hid (Below w.heap.size w (w2.alloc (.cells #[x0, x1, x2, x3, x4, x5] 82))) := zz01 HB2.out zw _;clear k2 hb2 HO2;go_wp2_with fail;(with_reducible refine (qi.out _ _ _ _ hown3 hB3 hb3 hne).mono ?_);rintro e w4 ⟨v', rfl, hown4, hgr⟩;have fin := zH (show RowOwn w4 w.heap.size 82 v' 6 (l.take p ++ [x0, x1, x2, x3, x4, x5] :: l.drop p) ∧ Below w.heap.size w w4 from ⟨hown4.mono zw, HB3.out.grown hgr zo (fun k hk => by have := hbase.out k hk; omega)⟩)
 clear hown4 hgr;go_wp2_with fail;go_ret;exact ⟨v', rfl, fin.out⟩
theorem zz9v (v : Value) (l : List (List Int)) (x0 x1 x2 x3 x4 x5 id : Int) (p : Nat) (w : World) (hv : Hid (RowAt w v 6 l)) (hl : l.length ≤ 999999) (hp : p < l.length) (hlt : Hid (∀ (h : Nat) (r : List Int), l[h]? = some r → (r.headD 0 < id ↔ h < p))) (hF : Hid (true = match l[p]? with | some r => decide (r.headD 0 = id) | none => false)) :
  Calls Tryz.prog 152 #[v, .agg #[x0, x1, x2, x3, x4, x5], .int .i64 id, .func (.func 128) #[] #[], .bool false] w fun e w' => ∃ v', e = .returned v' ∧ RowOwn w' w.heap.size 82 v' 6 (l.take p ++ [x0, x1, x2, x3, x4, x5] :: l.drop (p + 1)) ∧ Below w.heap.size w w' := by
 have HB0 : Hid (Below w.heap.size w (w.alloc (.cells #[x0, x1, x2, x3, x4, x5] 82))) := zBa;have hv1 := zH (hv.out.call HB0.out);have qc := zH (zz1e v l (w.alloc (.cells #[x0, x1, x2, x3, x4, x5] 82)) hv1 zw);have qs := zH (fun v w hv => zz10 v l id p true w hv zw zw hlt hF)
 have hx := zH (zz02 w (.cells #[x0, x1, x2, x3, x4, x5] 82));go_in;go_wp2_with fail;(with_reducible refine qc.out.mono ?_);rintro e w1 ⟨v1, rfl, hown, hb1⟩;have hs1 : w.heap.size + 1 ≤ w1.heap.size := by have := hb1.size; simpa using this
 replace hown := hown.mono (B' := w.heap.size + 1) zo;have hr1 := zH hown.row.rec';obtain ⟨g, cap, rfl⟩ : ∃ g cap, v1 = .slice (some ⟨g, 0, none⟩) l.length cap := by
  rcases hown.1.2 with ⟨_, h0⟩ | ⟨g, cap, cur, h, _⟩
  ·omega
  ·exact ⟨g, cap, h⟩
 have HO := zH hown;have HX1 := zK hx hb1;have HB1 := zH (HB0.out.trans (hb1.mono zo));have hpl : (p : Int) < (l.length : Int) := by omega
 have hpl' : p < l.length := by omega
 have hy := List.getElem?_eq_getElem hp;obtain ⟨hyk, b0, o0, hAo, hbl, hyc1⟩ : (l[p]).length = 6 ∧ ∃ b o, some (⟨g, 0, none⟩ : Addr) = some ⟨b, o, none⟩ ∧ b < w1.heap.size ∧ ∀ (j : Nat) (x : Int), (l[p])[j]? = some x → w1.cell? ⟨b, o + p * 6 + j, none⟩ = some (.int .i64 x) := by
  obtain ⟨A, c, h, hi⟩ := hr1.out;injection h with h1 _ _
  subst h1;exact hi p _ hy
 injection hAo with hAo
 injection hAo with hA1 hA2
 subst hA1 hA2;clear hy;have HYC := zH hyc1;have HYK := zH hyk;generalize l[p] = y at HYC HYK;clear hown hb1 hx hyc1 hyk;go_wp2_with fail;(with_reducible refine (qs.out _ _ hr1).mono ?_);rintro e w2 ⟨rfl, hb2⟩;have k2 := zz06 HX1.out hb2;have c0 := zC k2;have hs2 := hb2.size;have HB2 := zH (HB1.out.trans (hb2.mono zw));have HO2 := zH (HO.out.kept hb2);have hyk := HYK.out;have hyc : ∀ (j : Nat) (x : Int), y[j]? = some x → w2.cell? ⟨g, 0 + p * 6 + j, none⟩ = some (.int .i64 x) := fun j x hj => (hb2.cell (p := ⟨g, 0 + p * 6 + j, none⟩) hbl).trans (HYC.out j x hj)
 clear HYC HYK;obtain ⟨y0, y1, y2, y3, y4, y5, rfl⟩ : ∃ y0 y1 y2 y3 y4 y5, y = [y0, y1, y2, y3, y4, y5] := by
  match y, hyk with
  | [y0, y1, y2, y3, y4, y5], _ => exact ⟨y0, y1, y2, y3, y4, y5, rfl⟩
 have e0 : w2.cell? ⟨g, p * 6, none⟩ = some (.int .i64 y0) := by have := hyc 0 _ rfl; simpa using this
 have e1 : w2.cell? ⟨g, p * 6 + 1, none⟩ = some (.int .i64 y1) := by have := hyc 1 _ rfl; simpa using this
 have e2 : w2.cell? ⟨g, p * 6 + 2, none⟩ = some (.int .i64 y2) := by have := hyc 2 _ rfl; simpa using this
 have e3 : w2.cell? ⟨g, p * 6 + 3, none⟩ = some (.int .i64 y3) := by have := hyc 3 _ rfl; simpa using this
 have e4 : w2.cell? ⟨g, p * 6 + 4, none⟩ = some (.int .i64 y4) := by have := hyc 4 _ rfl; simpa using this
 have e5 : w2.cell? ⟨g, p * 6 + 5, none⟩ = some (.int .i64 y5) := by have := hyc 5 _ rfl; simpa using this
 have fz : ∀ j, w2.frozen? ⟨g, j, none⟩ = false := fun j => by
  exact zt44
 have f0 := fz (p * 6);have f1 := fz (p * 6 + 1);have f2 := fz (p * 6 + 2);have f3 := fz (p * 6 + 3);have f4 := fz (p * 6 + 4);have f5 := fz (p * 6 + 5);have hBg : w.heap.size ≤ g := by have := (HO2.out.1.lt g rfl).1; omega
 have fin : Hid (RowOwn (w2.setCells g (p * 6) ([x0, x1, x2, x3, x4, x5].map (Value.int .i64))) w.heap.size 82 (.slice (some ⟨g, 0, none⟩) l.length cap) 6 (l.take p ++ [x0, x1, x2, x3, x4, x5] :: l.drop (p + 1)) ∧ Below w.heap.size w (w2.setCells g (p * 6) ([x0, x1, x2, x3, x4, x5].map (Value.int .i64)))) := by
  have := zz8o p [x0, x1, x2, x3, x4, x5] HO2.out hp rfl;exact ⟨this.1.mono zw, HB2.out.grown this.2 zw (fun k hk => by injection hk with hk; omega)⟩
 clear k2 hb2 hyc fz hyk;go_wp2_with fail;go_ret;exact ⟨_, rfl, fin.out⟩
theorem zz9x (v : Value) (l : List (List Int)) (x0 x1 x2 x3 x4 x5 id : Int) (p : Nat) (w : World) (hv : Hid (RowAt w v 6 l)) (hl : l.length ≤ 999999) (hp : p < l.length) (hlt : Hid (∀ (h : Nat) (r : List Int), l[h]? = some r → (r.headD 0 < id ↔ h < p))) (hF : Hid (true = match l[p]? with | some r => decide (r.headD 0 = id) | none => false)) :
  Calls Tryz.prog 152 #[v, .agg #[x0, x1, x2, x3, x4, x5], .int .i64 id, .func (.func 128) #[] #[], .bool true] w fun e w' => ∃ v', e = .returned v' ∧ RowOwn w' w.heap.size 82 v' 6 (l.take p ++ l.drop (p + 1)) ∧ Below w.heap.size w w' := by
 have HB0 : Hid (Below w.heap.size w (w.alloc (.cells #[x0, x1, x2, x3, x4, x5] 82))) := zBa;have hv1 := zH (hv.out.call HB0.out);have qc := zH (zz1e v l (w.alloc (.cells #[x0, x1, x2, x3, x4, x5] 82)) hv1 zw);have qs := zH (fun v w hv => zz10 v l id p true w hv zw zw hlt hF)
 have hx := zH (zz02 w (.cells #[x0, x1, x2, x3, x4, x5] 82));have qi := zH (fun B v w hv => zz6f B v l p w hv zw hp)
 go_in;go_wp2_with fail;(with_reducible refine qc.out.mono ?_);rintro e w1 ⟨v1, rfl, hown, hb1⟩;have hs1 : w.heap.size + 1 ≤ w1.heap.size := by have := hb1.size; simpa using this
 have HO := zH (hown.mono (B' := w.heap.size + 1) zo);have hr1 := zH hown.row.rec';have HX1 := zK hx hb1;have HB1 := zH (HB0.out.trans (hb1.mono zo));have hw1 : IntKind.i64.wrap ((p : Int) + 1) = (p : Int) + 1 := by rw [IntKind.wrap_i64]; omega
 clear hown hb1 hx;go_wp2_with fail;(with_reducible refine (qs.out _ _ hr1).mono ?_);rintro e w2 ⟨rfl, hb2⟩;have hs2 := hb2.size;have HB2 := zH (HB1.out.trans (hb2.mono zw));have HO2 := zH (HO.out.kept hb2);have hbase := zH (fun k h => (HO2.out.1.lt k h).1)
 clear hb2;go_wp2_with fail;(with_reducible refine (qi.out _ _ _ HO2).mono ?_);rintro e w4 ⟨v', rfl, hown4, hgr⟩;have fin := zH (show RowOwn w4 w.heap.size 82 v' 6 (l.take p ++ l.drop (p + 1)) ∧ Below w.heap.size w w4 from ⟨hown4.mono zw, HB2.out.grown hgr zw (fun k hk => by have := hbase.out k hk; omega)⟩)
 clear hown4 hgr;go_wp2_with fail;go_ret;exact ⟨v', rfl, fin.out⟩
theorem zz7z (v : Value) (l : List (List Int)) (x0 x1 x2 x3 x4 x5 id : Int) (p : Nat) (w : World) (hv : Hid (RowAt w v 6 l)) (hl : l.length ≤ 999999) (hp : p ≤ l.length) (hlt : Hid (∀ (h : Nat) (r : List Int), l[h]? = some r → (r.headD 0 < id ↔ h < p))) (hF : Hid (false = match l[p]? with | some r => decide (r.headD 0 = id) | none => false)) :
  Calls Tryz.prog 152 #[v, .agg #[x0, x1, x2, x3, x4, x5], .int .i64 id, .func (.func 128) #[] #[], .bool true] w fun e w' => ∃ v', e = .returned v' ∧ RowOwn w' w.heap.size 82 v' 6 (l) ∧ Below w.heap.size w w' := by
 have HB0 : Hid (Below w.heap.size w (w.alloc (.cells #[x0, x1, x2, x3, x4, x5] 82))) := zBa;have hv1 := zH (hv.out.call HB0.out);have qc := zH (zz1e v l (w.alloc (.cells #[x0, x1, x2, x3, x4, x5] 82)) hv1 zw);have qs := zH (fun v w hv => zz10 v l id p false w hv zw zw hlt hF)
 have hx := zH (zz02 w (.cells #[x0, x1, x2, x3, x4, x5] 82));go_in;go_wp2_with fail;(with_reducible refine qc.out.mono ?_);rintro e w1 ⟨v1, rfl, hown, hb1⟩;have hs1 : w.heap.size + 1 ≤ w1.heap.size := by have := hb1.size; simpa using this
 have HO := zH (hown.mono (B' := w.heap.size + 1) zo);have hr1 := zH hown.row.rec';have HX1 := zK hx hb1;have HB1 := zH (HB0.out.trans (hb1.mono zo));clear hown hb1 hx;go_wp2_with fail;(with_reducible refine (qs.out _ _ hr1).mono ?_);rintro e w2 ⟨rfl, hb2⟩;have fin := zH (show RowOwn w2 w.heap.size 82 v1 6 l ∧ Below w.heap.size w w2 from ⟨(HO.out.kept hb2).mono zw, HB1.out.trans (hb2.mono zw)⟩)
 clear hb2;go_wp2_with fail;go_ret;exact ⟨v1, rfl, fin.out⟩
theorem zz9t (v : Value) (l : List (List Int)) (x0 x1 id : Int) (p : Nat) (w : World) (hv : Hid (RowAt w v 2 l)) (hl : l.length ≤ 999999) (hp : p ≤ l.length) (hlt : Hid (∀ (h : Nat) (r : List Int), l[h]? = some r → (r.headD 0 < id ↔ h < p))) (hF : Hid (false = match l[p]? with | some r => decide (r.headD 0 = id) | none => false)) :
  Calls Tryz.prog 142 #[v, .agg #[x0, x1], .int .i64 id, .func (.func 131) #[] #[], .bool false] w fun e w' => ∃ v', e = .returned v' ∧ RowOwn w' w.heap.size 84 v' 2 (l.take p ++ [x0, x1] :: l.drop p) ∧ Below w.heap.size w w' := by
 have HB0 : Hid (Below w.heap.size w (w.alloc (.cells #[x0, x1] 84))) := zBa;have hv1 := zH (hv.out.call HB0.out);have qc := zH (zz2i v l (w.alloc (.cells #[x0, x1] 84)) hv1 zw);have qs := zH (fun v w hv => zz1g v l id p false w hv zw zw hlt hF)
 have hx := zH (zz02 w (.cells #[x0, x1] 84));have qi := zH (fun B v vb w hv hB hb hne => zz68 B v l [x0, x1] p vb w hv hB zw hp rfl hb hne)
 go_in;go_wp2_with fail;(with_reducible refine qc.out.mono ?_);rintro e w1 ⟨v1, rfl, hown, hb1⟩;have hs1 : w.heap.size + 1 ≤ w1.heap.size := by have := hb1.size; simpa using this
 have HO := zH (hown.mono (B' := w.heap.size + 1) zo);have hr1 := zH hown.row.rec';have HX1 := zK hx hb1;have HB1 := zH (HB0.out.trans (hb1.mono zo));clear hown hb1 hx;go_wp2_with fail;(with_reducible refine (qs.out _ _ hr1).mono ?_);rintro e w2 ⟨rfl, hb2⟩;have k2 := zz06 HX1.out hb2;have c0 := zC k2;have hs2 := hb2.size;have HB2 := zH (HB1.out.trans (hb2.mono zw));have HO2 := HO.out.kept hb2;have hne : v1.ownBlock ≠ some w2.heap.size := fun h => Nat.lt_irrefl _ (HO2.1.lt _ h).2
 have hown3 : Hid (RowOwn (w2.alloc (.cells #[x0, x1] 84)) (w.heap.size + 1) 84 v1 2 l) := HO2.kept zBa;have hbase := zH (fun k h => (HO2.1.lt k h).1)
 have hB3 : w.heap.size + 1 ≤ (w2.alloc (.cells #[x0, x1] 84)).heap.size := by simp; omega
 have hb3 : Hid ((w2.alloc (.cells #[x0, x1] 84)).heap[w2.heap.size]? = some (.cells ([x0, x1].map (Value.int .i64)).toArray 84 (0, 0))) := zz02 w2 _;have HB3 : Hid (Below w.heap.size w (w2.alloc (.cells #[x0, x1] 84))) := zz01 HB2.out zw _;clear k2 hb2 HO2;go_wp2_with fail;(with_reducible refine (qi.out _ _ _ _ hown3 hB3 hb3 hne).mono ?_);rintro e w4 ⟨v', rfl, hown4, hgr⟩;have fin := zH (show RowOwn w4 w.heap.size 84 v' 2 (l.take p ++ [x0, x1] :: l.drop p) ∧ Below w.heap.size w w4 from ⟨hown4.mono zw, HB3.out.grown hgr zo (fun k hk => by have := hbase.out k hk; omega)⟩)
 clear hown4 hgr;go_wp2_with fail;go_ret;exact ⟨v', rfl, fin.out⟩
theorem zz9s (v : Value) (l : List (List Int)) (x0 x1 id : Int) (p : Nat) (w : World) (hv : Hid (RowAt w v 2 l)) (hl : l.length ≤ 999999) (hp : p < l.length) (hlt : Hid (∀ (h : Nat) (r : List Int), l[h]? = some r → (r.headD 0 < id ↔ h < p))) (hF : Hid (true = match l[p]? with | some r => decide (r.headD 0 = id) | none => false)) :
  Calls Tryz.prog 142 #[v, .agg #[x0, x1], .int .i64 id, .func (.func 131) #[] #[], .bool false] w fun e w' => ∃ v', e = .returned v' ∧ RowOwn w' w.heap.size 84 v' 2 (l.take p ++ [x0, x1] :: l.drop (p + 1)) ∧ Below w.heap.size w w' := by
 have HB0 : Hid (Below w.heap.size w (w.alloc (.cells #[x0, x1] 84))) := zBa;have hv1 := zH (hv.out.call HB0.out);have qc := zH (zz2i v l (w.alloc (.cells #[x0, x1] 84)) hv1 zw);have qs := zH (fun v w hv => zz1g v l id p true w hv zw zw hlt hF)
 have hx := zH (zz02 w (.cells #[x0, x1] 84));go_in;go_wp2_with fail;(with_reducible refine qc.out.mono ?_);rintro e w1 ⟨v1, rfl, hown, hb1⟩;have hs1 : w.heap.size + 1 ≤ w1.heap.size := by have := hb1.size; simpa using this
 replace hown := hown.mono (B' := w.heap.size + 1) zo;have hr1 := zH hown.row.rec';obtain ⟨g, cap, rfl⟩ : ∃ g cap, v1 = .slice (some ⟨g, 0, none⟩) l.length cap := by
  rcases hown.1.2 with ⟨_, h0⟩ | ⟨g, cap, cur, h, _⟩
  ·omega
  ·exact ⟨g, cap, h⟩
 have HO := zH hown;have HX1 := zK hx hb1;have HB1 := zH (HB0.out.trans (hb1.mono zo));have hpl : (p : Int) < (l.length : Int) := by omega
 have hpl' : p < l.length := by omega
 have hy := List.getElem?_eq_getElem hp;obtain ⟨hyk, b0, o0, hAo, hbl, hyc1⟩ : (l[p]).length = 2 ∧ ∃ b o, some (⟨g, 0, none⟩ : Addr) = some ⟨b, o, none⟩ ∧ b < w1.heap.size ∧ ∀ (j : Nat) (x : Int), (l[p])[j]? = some x → w1.cell? ⟨b, o + p * 2 + j, none⟩ = some (.int .i64 x) := by
  obtain ⟨A, c, h, hi⟩ := hr1.out;injection h with h1 _ _
  subst h1;exact hi p _ hy
 injection hAo with hAo
 injection hAo with hA1 hA2
 subst hA1 hA2;clear hy;have HYC := zH hyc1;have HYK := zH hyk;generalize l[p] = y at HYC HYK;clear hown hb1 hx hyc1 hyk;go_wp2_with fail;(with_reducible refine (qs.out _ _ hr1).mono ?_);rintro e w2 ⟨rfl, hb2⟩;have k2 := zz06 HX1.out hb2;have c0 := zC k2;have hs2 := hb2.size;have HB2 := zH (HB1.out.trans (hb2.mono zw));have HO2 := zH (HO.out.kept hb2);have hyk := HYK.out;have hyc : ∀ (j : Nat) (x : Int), y[j]? = some x → w2.cell? ⟨g, 0 + p * 2 + j, none⟩ = some (.int .i64 x) := fun j x hj => (hb2.cell (p := ⟨g, 0 + p * 2 + j, none⟩) hbl).trans (HYC.out j x hj)
 clear HYC HYK;obtain ⟨y0, y1, rfl⟩ : ∃ y0 y1, y = [y0, y1] := by
  match y, hyk with
  | [y0, y1], _ => exact ⟨y0, y1, rfl⟩
 have e0 : w2.cell? ⟨g, p * 2, none⟩ = some (.int .i64 y0) := by have := hyc 0 _ rfl; simpa using this
 have e1 : w2.cell? ⟨g, p * 2 + 1, none⟩ = some (.int .i64 y1) := by have := hyc 1 _ rfl; simpa using this
 have fz : ∀ j, w2.frozen? ⟨g, j, none⟩ = false := fun j => by
  exact zt44
 have f0 := fz (p * 2);have f1 := fz (p * 2 + 1);have hBg : w.heap.size ≤ g := by have := (HO2.out.1.lt g rfl).1; omega
 have fin : Hid (RowOwn (w2.setCells g (p * 2) ([x0, x1].map (Value.int .i64))) w.heap.size 84 (.slice (some ⟨g, 0, none⟩) l.length cap) 2 (l.take p ++ [x0, x1] :: l.drop (p + 1)) ∧ Below w.heap.size w (w2.setCells g (p * 2) ([x0, x1].map (Value.int .i64)))) := by
  have := zz8o p [x0, x1] HO2.out hp rfl;exact ⟨this.1.mono zw, HB2.out.grown this.2 zw (fun k hk => by injection hk with hk; omega)⟩
 clear k2 hb2 hyc fz hyk;go_wp2_with fail;go_ret;exact ⟨_, rfl, fin.out⟩
theorem zz4f {α : Type} {B E : α → Bool} : ∀ {l : List α}, l.Pairwise (fun a b => (B b = true → B a = true) ∧ (E b = true → B a = true)) → (∀ r ∈ l, E r = true → B r = false) →
  ∃ p, p ≤ l.length ∧ (∀ (h : Nat) (r : α), l[h]? = some r → (B r = true ↔ h < p)) ∧ l.find? E = (l[p]?).filter E
 | [], _, _ => ⟨0, Nat.le_refl _, fun h r hr => by simp at hr, by simp⟩
 | a :: t, hp, hE => by
  rw [List.pairwise_cons] at hp;cases hB : B a with
  | true =>
   obtain ⟨p, h1, h2, h3⟩ := zz4f hp.2 (fun r hr => hE r (by simp [hr]))
   refine ⟨p + 1, by simp; omega, fun h r hr => ?_, ?_⟩
   ·cases h with
    | zero => obtain rfl : a = r := by simpa using hr
              simp [hB]
    | succ h => rw [h2 h r (by simpa using hr)]; omega
   ·have hEa : E a = false := by
     cases he : E a with
     | false => rfl
     | true => have := hE a (by simp) he; rw [hB] at this; cases this
    rw [List.find?_cons_of_neg (by simp [hEa]), h3]; simp
  | false =>
   refine ⟨0, Nat.zero_le _, fun h r hr => ?_, ?_⟩
   ·constructor
    ·intro hb
     exfalso
     cases h with
     | zero => obtain rfl : a = r := by simpa using hr
               rw [hB] at hb; cases hb
     | succ h => have := (hp.1 r (List.mem_of_getElem? (by simpa using hr))).1 hb; rw [hB] at this; cases this
    ·intro h; omega
   ·cases he : E a with
    | true => rw [List.find?_cons_of_pos he]; simp [Option.filter, he]
    | false =>
     rw [List.find?_cons_of_neg (by simp [he]), List.find?_eq_none.2 ?_]
     ·simp [Option.filter, he]
     ·intro b hb hEb
      have := (hp.1 b hb).2 hEb;rw [hB] at this; cases this
def riseH (l : List (List Int)) : Prop := l.Pairwise (fun a b => a.headD 0 < b.headD 0)
def riseS (l : List (List Int)) : Prop := l.Pairwise (fun a b => stLt a (b.headD 0) (b.tail.headD 0))
def isId (id : Int) (r : List Int) : Bool := decide (r.headD 0 = id)
def isKey (kx ky : Int) (r : List Int) : Bool := decide (r.headD 0 = kx ∧ r.tail.headD 0 = ky)
theorem placeH (id : Int) {l : List (List Int)} (h : riseH l) : ∃ p, p ≤ l.length ∧ (∀ (h : Nat) (r : List Int), l[h]? = some r → (r.headD 0 < id ↔ h < p)) ∧ l.find? (isId id) = (l[p]?).filter (isId id) := by
 obtain ⟨p, h1, h2, h3⟩ := zz4f (B := fun r : List Int => decide (r.headD 0 < id)) (E := isId id) (l := l)
  (h.imp fun {a b} hab => by simp only [isId, decide_eq_true_eq]; constructor <;> intro _ <;> omega) (fun r _ hr => by simp only [isId, decide_eq_true_eq] at hr; simp only [decide_eq_false_iff_not]; omega)
 exact ⟨p, h1, fun h r hr => by have := h2 h r hr; simpa using this, h3⟩
theorem placeS (kx ky : Int) {l : List (List Int)} (h : riseS l) : ∃ p, p ≤ l.length ∧ (∀ (h : Nat) (r : List Int), l[h]? = some r → (stLt r kx ky ↔ h < p)) ∧ l.find? (isKey kx ky) = (l[p]?).filter (isKey kx ky) := by
 obtain ⟨p, h1, h2, h3⟩ := zz4f (B := fun r : List Int => decide (r.headD 0 < kx ∨ r.headD 0 = kx ∧ r.tail.headD 0 < ky)) (E := isKey kx ky) (l := l)
  (h.imp fun {a b} hab => by unfold stLt at hab; simp only [isKey, decide_eq_true_eq]; constructor <;> intro _ <;> omega) (fun r _ hr => by simp only [isKey, decide_eq_true_eq] at hr; simp only [decide_eq_false_iff_not]; omega)
 exact ⟨p, h1, fun h r hr => by have := h2 h r hr; unfold stLt; simpa using this, h3⟩
structure Bk where
 h : List (List Int)
 s : List (List Int)
 o : List (List Int)
 r : List (List Int)
 n : Int
def BF (_ : Option Addr) (_ : Nat) (_ : Option Addr) (_ : Nat) (_ : Option Addr) (_ : Nat) (_ : Option Addr) (_ : Nat) (_ : Bk) (_ : Int) : Unit := ()
instance (A : Option Addr) (a : Nat) (B : Option Addr) (b : Nat) (C : Option Addr) (c : Nat) (D : Option Addr) (d : Nat) (k : Bk) (n : Int) : CoeDep Unit (BF A a B b C c D d k n) (List Value) := ⟨[.slice A k.h.length a, .slice B k.s.length b, .slice C k.o.length c, .slice D k.r.length d, .int .i64 n]⟩
instance (A : Option Addr) (a : Nat) (B : Option Addr) (b : Nat) (C : Option Addr) (c : Nat) (D : Option Addr) (d : Nat) (k : Bk) (n : Int) : CoeDep Unit (BF A a B b C c D d k n) (Array Value) := ⟨#[.slice A k.h.length a, .slice B k.s.length b, .slice C k.o.length c, .slice D k.r.length d, .int .i64 n]⟩
def BkAt (w : World) (v : Value) (b : Bk) : Prop := ∃ vh vs vo vr, v = .agg #[vh, vs, vo, vr, b.n] ∧ RowAt w vh 4 b.h ∧ RowAt w vs 3 b.s ∧ RowAt w vo 6 b.o ∧ RowAt w vr 2 b.r
theorem BkAt.call {w w' : World} {v : Value} {b : Bk} (h : BkAt w v b) (hb : Below w.heap.size w w') : BkAt w' v b := by
 obtain ⟨vh, vs, vo, vr, rfl, h1, h2, h3, h4⟩ := h;exact ⟨vh, vs, vo, vr, rfl, h1.call hb, h2.call hb, h3.call hb, h4.call hb⟩
def Bk.Rise (b : Bk) : Prop := riseH b.h ∧ riseH b.o ∧ riseH b.r ∧ riseS b.s
def recOf (k : Nat) (o : Option (List Int)) : List Int × Bool := match o with | some r => (r, true) | none => (List.replicate k 0, false)
theorem FindHolder (v : Value) (l : List (List Int)) (id x0 x1 x2 x3 : Int) (F : Bool) (w : World) (hv : Hid (RowAt w v 4 l)) (hl : l.length ≤ 1000000) (hr : Hid (riseH l)) (hx : Hid (recOf 4 (l.find? (isId id)) = ([x0, x1, x2, x3], F))) :
  Calls Tryz.prog 135 #[v, .int .i64 id, .func (.func 125) #[] #[]] w fun e w' => e = .returned (.tuple #[.agg #[x0, x1, x2, x3], .bool F]) ∧ Below w.heap.size w w' := by
 obtain ⟨p, hp, hlt, hf⟩ := placeH id hr.out;have hx := hx.out;have hv' := zH hv.out.rec';rw [hf] at hx;cases hlp : l[p]? with
 | none =>
  rw [hlp] at hx;simp only [Option.filter, recOf, List.replicate] at hx;injection hx with h1 h2
  injection h1 with g0 t0
  injection t0 with g1 t1
  injection t1 with g2 t2
  injection t2 with g3 t3
  subst h2 g0 g1 g2 g3;exact zz3g v l id p w hv' hl hp hlt (by show _ = _; rw [hlp])
 | some r =>
  rw [hlp] at hx;by_cases hk : r.headD 0 = id
  ·have hi : (Option.some r).filter (isId id) = some r := by simp only [Option.filter, isId, decide_eq_true hk]; rfl
   rw [hi] at hx;simp only [recOf] at hx;injection hx with h1 h2
   subst h2 h1;exact zz6d v l id x0 x1 x2 x3 p w hv' hl (List.getElem?_eq_some_iff.1 hlp).1 hlt (by show _ = _; rw [hlp]; exact (decide_eq_true hk).symm) hlp
  ·have hi : (Option.some r).filter (isId id) = none := by simp only [Option.filter, isId, decide_eq_false hk]; rfl
   rw [hi] at hx;simp only [recOf, List.replicate] at hx;injection hx with h1 h2
   injection h1 with g0 t0
   injection t0 with g1 t1
   injection t1 with g2 t2
   injection t2 with g3 t3
   subst h2 g0 g1 g2 g3;exact zz3g v l id p w hv' hl hp hlt (by show _ = _; rw [hlp]; exact (decide_eq_false hk).symm)
theorem zz2g (v : Value) (b : Bk) (id x0 x1 x2 x3 : Int) (F : Bool) (w : World) (hb : Hid (BkAt w v b)) (hl : b.h.length ≤ 1000000) (hr : Hid (riseH b.h)) (hx : Hid (recOf 4 (b.h.find? (isId id)) = ([x0, x1, x2, x3], F))) :
  Calls Tryz.prog 63 #[v, .int .i64 id] w fun e w' => e = .returned (.tuple #[.agg #[x0, x1, x2, x3], .bool F]) ∧ Below w.heap.size w w' := by
 obtain ⟨vh, vs, vo, vr, rfl, h1, h2, h3, h4⟩ := hb.out;have HB0 : Hid (Below w.heap.size w ((w.alloc (.cells #[vh, vs, vo, vr, b.n] 27)).alloc (.cells #[.int .i64 0, .int .i64 0, .int .i64 0, .int .i64 0] 78))) := zz01 zBa zo _;have q := zH (FindHolder vh b.h id x0 x1 x2 x3 F ((w.alloc (.cells #[vh, vs, vo, vr, b.n] 27)).alloc (.cells #[.int .i64 0, .int .i64 0, .int .i64 0, .int .i64 0] 78)) (h1.call HB0.out) hl hr hx);clear hb h1 h2 h3 h4 hx;have HN := zH (zz02 (w.alloc (.cells #[vh, vs, vo, vr, b.n] 27)) (.cells #[.int .i64 0, .int .i64 0, .int .i64 0, .int .i64 0] 78));have c := zz00 (zz05 (zz02 w (.cells #[vh, vs, vo, vr, b.n] 27)) (.cells #[.int .i64 0, .int .i64 0, .int .i64 0, .int .i64 0] 78)) 0 _ rfl;go_in;go_wp2_with fail;(with_reducible refine q.out.mono ?_);rintro e w2 ⟨rfl, hb⟩;have k1 : w2.heap[w.heap.size + 1]? = some (.cells #[.int .i64 0, .int .i64 0, .int .i64 0, .int .i64 0] 78 (0, 0)) := by have := zz06 HN.out hb; simpa using this
 have HB : Hid (Below w.heap.size w w2) := HB0.out.trans (hb.mono zo);have d0 := zC k1;have f0 := zF k1;clear k1 hb;go_wp2_with fail;refine bodyPost_ret (v := .tuple #[.agg #[x0, x1, x2, x3], .bool F]) ?_ rfl ⟨rfl, ?_⟩
 ·rw [results_cell_tmp rfl]; go_simp
 ·exact Below.setCell (Below.setCell (Below.setCell (Below.setCell (HB.out) zle _) zle _) zle _) zle _
theorem zz3r (v : Value) (l : List (List Int)) (kx ky : Int) (p : Nat) (w : World) (hv : Hid (RecAt w v 3 l)) (hl : l.length ≤ 1000000) (hp : p ≤ l.length) (hlt : Hid (∀ (h : Nat) (r : List Int), l[h]? = some r → (stLt r kx ky ↔ h < p))) (hF : Hid (false = match l[p]? with | some r => decide (r.headD 0 = kx ∧ r.tail.headD 0 = ky) | none => false)) :
  Calls Tryz.prog 180 #[v, .agg #[kx, ky], .func (.func 134) #[] #[]] w fun e w' => e = .returned (.tuple #[.agg #[.int .i64 0, .int .i64 0, .int .i64 0], .bool false]) ∧ Below w.heap.size w w' := by
 have q := zH (fun w hv => zz0u v l kx ky p false w hv hl hp hlt hF)
 have HB0 : Hid (Below w.heap.size w ((w.alloc (.cells #[kx, ky] 179)).alloc (.cells #[.int .i64 0, .int .i64 0, .int .i64 0] 80))) := zz01 zBa zo _;have hv1 := zH (hv.out.call HB0.out);have HN := zH (zz02 (w.alloc (.cells #[kx, ky] 179)) (.cells #[.int .i64 0, .int .i64 0, .int .i64 0] 80));have kc0 := zz00 (zz05 (zz02 w (.cells #[kx, ky] 179)) (.cells #[.int .i64 0, .int .i64 0, .int .i64 0] 80)) 0 _ rfl;have kc1 := zz00 (zz05 (zz02 w (.cells #[kx, ky] 179)) (.cells #[.int .i64 0, .int .i64 0, .int .i64 0] 80)) 1 _ rfl;go_in;go_wp2_with fail;(with_reducible refine (q.out _ hv1).mono ?_);rintro e w2 ⟨rfl, hb⟩;have k0 : w2.heap[w.heap.size + 1]? = some (.cells #[.int .i64 0, .int .i64 0, .int .i64 0] 80 (0, 0)) := by have := zz06 HN.out hb; simpa using this
 have hs : w.heap.size + 2 ≤ w2.heap.size := by have := hb.size; simpa using this
 have k1 : (w2.alloc (.cells #[.int .i64 0, .int .i64 0, .int .i64 0] 80)).heap[w.heap.size + 1]? = some (.cells #[.int .i64 0, .int .i64 0, .int .i64 0] 80 (0, 0)) := zz05 k0 _;have k2 : (w2.alloc (.cells #[.int .i64 0, .int .i64 0, .int .i64 0] 80)).heap[w2.heap.size]? = some (.cells #[.int .i64 0, .int .i64 0, .int .i64 0] 80 (0, 0)) := zz02 w2 _;have hB3 : Hid (Below w.heap.size w (w2.alloc (.cells #[.int .i64 0, .int .i64 0, .int .i64 0] 80))) := zz01 (HB0.out.trans (hb.mono zo)) zw _;have c0 := zC k2;have d0 := zC k1;have f0 := zF k1;clear k0 k1 k2 hb;go_wp2_with fail;refine bodyPost_ret (v := .tuple #[.agg #[.int .i64 0, .int .i64 0, .int .i64 0], .bool false]) ?_ rfl ⟨rfl, ?_⟩
 ·rw [results_cell_tmp rfl]; go_simp
 ·exact Below.setCell (Below.setCell (Below.setCell (hB3.out) zle _) zle _) zle _
theorem zz7j (v : Value) (l : List (List Int)) (kx ky x0 x1 x2 : Int) (p : Nat) (w : World) (hv : Hid (RecAt w v 3 l)) (hl : l.length ≤ 1000000) (hp : p < l.length) (hlt : Hid (∀ (h : Nat) (r : List Int), l[h]? = some r → (stLt r kx ky ↔ h < p))) (hF : Hid (true = match l[p]? with | some r => decide (r.headD 0 = kx ∧ r.tail.headD 0 = ky) | none => false)) (hr : Hid (l[p]? = some [x0, x1, x2])) :
  Calls Tryz.prog 180 #[v, .agg #[kx, ky], .func (.func 134) #[] #[]] w fun e w' => e = .returned (.tuple #[.agg #[x0, x1, x2], .bool true]) ∧ Below w.heap.size w w' := by
 have q := zH (fun w hv => zz0u v l kx ky p true w hv hl zw hlt hF)
 have HB0 : Hid (Below w.heap.size w ((w.alloc (.cells #[kx, ky] 179)).alloc (.cells #[.int .i64 0, .int .i64 0, .int .i64 0] 80))) := zz01 zBa zo _;have hv1 := zH (hv.out.call HB0.out);have HN := zH (zz02 (w.alloc (.cells #[kx, ky] 179)) (.cells #[.int .i64 0, .int .i64 0, .int .i64 0] 80));have kc0 := zz00 (zz05 (zz02 w (.cells #[kx, ky] 179)) (.cells #[.int .i64 0, .int .i64 0, .int .i64 0] 80)) 0 _ rfl;have kc1 := zz00 (zz05 (zz02 w (.cells #[kx, ky] 179)) (.cells #[.int .i64 0, .int .i64 0, .int .i64 0] 80)) 1 _ rfl;obtain ⟨A, c, rfl, hci⟩ := hv.out;obtain ⟨_, b0, o0, rfl, hbl, hc⟩ := hci p _ hr.out;have e0 := zH (hc 0 _ rfl);have e1 := zH (hc 1 _ rfl);have e2 := zH (hc 2 _ rfl);clear hci hc;go_in;go_wp2_with fail;(with_reducible refine (q.out _ hv1).mono ?_);rintro e w2 ⟨rfl, hb⟩;have k1 : w2.heap[w.heap.size + 1]? = some (.cells #[.int .i64 0, .int .i64 0, .int .i64 0] 80 (0, 0)) := by have := zz06 HN.out hb; simpa using this
 have hB : Below w.heap.size w w2 := HB0.out.trans (hb.mono zo);have HB := zH hB;have c0 := (hB.cell (p := ⟨b0, o0 + p * 3, none⟩) hbl).trans e0.out;have c1 := (hB.cell (p := ⟨b0, o0 + p * 3 + 1, none⟩) hbl).trans e1.out;have c2 := (hB.cell (p := ⟨b0, o0 + p * 3 + 2, none⟩) hbl).trans e2.out;have d0 := zC k1;have f0 := zF k1;clear k1 hb hB;go_wp2_with fail;refine bodyPost_ret (v := .tuple #[.agg #[x0, x1, x2], .bool true]) ?_ rfl ⟨rfl, ?_⟩
 ·rw [results_cell_tmp rfl]; go_simp
 ·exact Below.setCell (Below.setCell (Below.setCell (HB.out) zle _) zle _) zle _
theorem FindStake (v : Value) (l : List (List Int)) (kx ky x0 x1 x2 : Int) (F : Bool) (w : World) (hv : Hid (RowAt w v 3 l)) (hl : l.length ≤ 1000000) (hr : Hid (riseS l)) (hx : Hid (recOf 3 (l.find? (isKey kx ky)) = ([x0, x1, x2], F))) :
  Calls Tryz.prog 180 #[v, .agg #[kx, ky], .func (.func 134) #[] #[]] w fun e w' => e = .returned (.tuple #[.agg #[x0, x1, x2], .bool F]) ∧ Below w.heap.size w w' := by
 obtain ⟨p, hp, hlt, hf⟩ := placeS kx ky hr.out;have hx := hx.out;have hv' := zH hv.out.rec';rw [hf] at hx;cases hlp : l[p]? with
 | none =>
  rw [hlp] at hx;simp only [Option.filter, recOf, List.replicate] at hx;injection hx with h1 h2
  injection h1 with g0 t0
  injection t0 with g1 t1
  injection t1 with g2 t2
  subst h2 g0 g1 g2;exact zz3r v l kx ky p w hv' hl hp hlt (by show _ = _; rw [hlp])
 | some r =>
  rw [hlp] at hx;by_cases hk : r.headD 0 = kx ∧ r.tail.headD 0 = ky
  ·have hi : (Option.some r).filter (isKey kx ky) = some r := by simp only [Option.filter, isKey, decide_eq_true hk]; rfl
   rw [hi] at hx;simp only [recOf] at hx;injection hx with h1 h2
   subst h2 h1;exact zz7j v l kx ky x0 x1 x2 p w hv' hl (List.getElem?_eq_some_iff.1 hlp).1 hlt (by show _ = _; rw [hlp]; exact (decide_eq_true hk).symm) hlp
  ·have hi : (Option.some r).filter (isKey kx ky) = none := by simp only [Option.filter, isKey, decide_eq_false hk]; rfl
   rw [hi] at hx;simp only [recOf, List.replicate] at hx;injection hx with h1 h2
   injection h1 with g0 t0
   injection t0 with g1 t1
   injection t1 with g2 t2
   subst h2 g0 g1 g2;exact zz3r v l kx ky p w hv' hl hp hlt (by show _ = _; rw [hlp]; exact (decide_eq_false hk).symm)
theorem zz9b (v : Value) (b : Bk) (kx ky x0 x1 x2 : Int) (F : Bool) (w : World) (hb : Hid (BkAt w v b)) (hl : b.s.length ≤ 1000000) (hr : Hid (riseS b.s)) (hx : Hid (recOf 3 (b.s.find? (isKey kx ky)) = ([x0, x1, x2], F))) :
  Calls Tryz.prog 147 #[v, .int .i64 kx, .int .i64 ky] w fun e w' => e = .returned (.int .i64 x2) ∧ Below w.heap.size w w' := by
 obtain ⟨vh, vs, vo, vr, rfl, h1, h2, h3, h4⟩ := hb.out;have HB0 : Hid (Below w.heap.size w (w.alloc (.cells #[vh, vs, vo, vr, b.n] 27))) := zBa;have q := zH (FindStake vs b.s kx ky x0 x1 x2 F (w.alloc (.cells #[vh, vs, vo, vr, b.n] 27)) (h2.call HB0.out) hl hr hx);clear hb h1 h2 h3 h4 hx;have c := zz00 (zz02 w (.cells #[vh, vs, vo, vr, b.n] 27)) 1 _ rfl;go_in;go_wp2_with fail;(with_reducible refine q.out.mono ?_);rintro e w2 ⟨rfl, hb⟩;have k1 := zz02 w2 (.cells #[x0, x1, x2] 80);have HB : Hid (Below w.heap.size w (w2.alloc (.cells #[x0, x1, x2] 80))) := zz01 (HB0.out.trans (hb.mono zo)) (by have := hb.size; simp at this; omega) _
 have c2 := zz00 k1 2 _ rfl;clear k1 hb;go_wp2_with fail;go_ret;exact ⟨rfl, HB.out⟩
theorem zz4z (v : Value) (l : List (List Int)) (id : Int) (p : Nat) (w : World) (hv : Hid (RecAt w v 6 l)) (hl : l.length ≤ 1000000) (hp : p ≤ l.length) (hlt : Hid (∀ (h : Nat) (r : List Int), l[h]? = some r → (r.headD 0 < id ↔ h < p))) (hF : Hid (false = match l[p]? with | some r => decide (r.headD 0 = id) | none => false)) :
  Calls Tryz.prog 143 #[v, .int .i64 id, .func (.func 128) #[] #[]] w fun e w' => e = .returned (.tuple #[.agg #[.int .i64 0, .int .i64 0, .int .i64 0, .int .i64 0, .int .i64 0, .int .i64 0], .bool false]) ∧ Below w.heap.size w w' := by
 have q := zH (fun w hv => zz10 v l id p false w hv hl hp hlt hF)
 have HB0 : Hid (Below w.heap.size w (w.alloc (.cells #[.int .i64 0, .int .i64 0, .int .i64 0, .int .i64 0, .int .i64 0, .int .i64 0] 82))) := zBa;have hv1 := zH (hv.out.call HB0.out);have HN := zH (zz02 w (.cells #[.int .i64 0, .int .i64 0, .int .i64 0, .int .i64 0, .int .i64 0, .int .i64 0] 82));go_in;go_wp2_with fail;(with_reducible refine (q.out _ hv1).mono ?_);rintro e w2 ⟨rfl, hb⟩;have k0 : w2.heap[w.heap.size]? = some (.cells #[.int .i64 0, .int .i64 0, .int .i64 0, .int .i64 0, .int .i64 0, .int .i64 0] 82 (0, 0)) := by have := zz06 HN.out hb; simpa using this
 have hs : w.heap.size + 1 ≤ w2.heap.size := by have := hb.size; simpa using this
 have k1 : (w2.alloc (.cells #[.int .i64 0, .int .i64 0, .int .i64 0, .int .i64 0, .int .i64 0, .int .i64 0] 82)).heap[w.heap.size]? = some (.cells #[.int .i64 0, .int .i64 0, .int .i64 0, .int .i64 0, .int .i64 0, .int .i64 0] 82 (0, 0)) := zz05 k0 _;have k2 : (w2.alloc (.cells #[.int .i64 0, .int .i64 0, .int .i64 0, .int .i64 0, .int .i64 0, .int .i64 0] 82)).heap[w2.heap.size]? = some (.cells #[.int .i64 0, .int .i64 0, .int .i64 0, .int .i64 0, .int .i64 0, .int .i64 0] 82 (0, 0)) := zz02 w2 _;have hB3 : Hid (Below w.heap.size w (w2.alloc (.cells #[.int .i64 0, .int .i64 0, .int .i64 0, .int .i64 0, .int .i64 0, .int .i64 0] 82))) := zz01 (HB0.out.trans (hb.mono zo)) zw _;have c0 := zC k2;have d0 := zC k1;have f0 := zF k1;clear k0 k1 k2 hb;go_wp2_with fail;refine bodyPost_ret (v := .tuple #[.agg #[.int .i64 0, .int .i64 0, .int .i64 0, .int .i64 0, .int .i64 0, .int .i64 0], .bool false]) ?_ rfl ⟨rfl, ?_⟩
 ·rw [results_cell_tmp rfl]; go_simp
 ·exact Below.setCell (Below.setCell (Below.setCell (Below.setCell (Below.setCell (Below.setCell (hB3.out) zle _) zle _) zle _) zle _) zle _) zle _
theorem zt96 {p : Prop} (h : p := by
 exact Below.setCell (Below.setCell (Below.setCell (Below.setCell (Below.setCell (Below.setCell (HB.out) zle _) zle _) zle _) zle _) zle _) zle _) : p := h
theorem zz8f (v : Value) (l : List (List Int)) (id x0 x1 x2 x3 x4 x5 : Int) (p : Nat) (w : World) (hv : Hid (RecAt w v 6 l)) (hl : l.length ≤ 1000000) (hp : p < l.length) (hlt : Hid (∀ (h : Nat) (r : List Int), l[h]? = some r → (r.headD 0 < id ↔ h < p))) (hF : Hid (true = match l[p]? with | some r => decide (r.headD 0 = id) | none => false)) (hr : Hid (l[p]? = some [x0, x1, x2, x3, x4, x5])) :
  Calls Tryz.prog 143 #[v, .int .i64 id, .func (.func 128) #[] #[]] w fun e w' => e = .returned (.tuple #[.agg #[x0, x1, x2, x3, x4, x5], .bool true]) ∧ Below w.heap.size w w' := by
 have q := zH (fun w hv => zz10 v l id p true w hv hl zw hlt hF)
 have HB0 : Hid (Below w.heap.size w (w.alloc (.cells #[.int .i64 0, .int .i64 0, .int .i64 0, .int .i64 0, .int .i64 0, .int .i64 0] 82))) := zBa;have hv1 := zH (hv.out.call HB0.out);have HN := zH (zz02 w (.cells #[.int .i64 0, .int .i64 0, .int .i64 0, .int .i64 0, .int .i64 0, .int .i64 0] 82));obtain ⟨A, c, rfl, hci⟩ := hv.out;obtain ⟨_, b0, o0, rfl, hbl, hc⟩ := hci p _ hr.out;have e0 := zH (hc 0 _ rfl);have e1 := zH (hc 1 _ rfl);have e2 := zH (hc 2 _ rfl);have e3 := zH (hc 3 _ rfl);have e4 := zH (hc 4 _ rfl);have e5 := zH (hc 5 _ rfl);clear hci hc;go_in;go_wp2_with fail;(with_reducible refine (q.out _ hv1).mono ?_);rintro e w2 ⟨rfl, hb⟩;have k1 : w2.heap[w.heap.size]? = some (.cells #[.int .i64 0, .int .i64 0, .int .i64 0, .int .i64 0, .int .i64 0, .int .i64 0] 82 (0, 0)) := by have := zz06 HN.out hb; simpa using this
 have hB : Below w.heap.size w w2 := HB0.out.trans (hb.mono zo);have HB := zH hB;have c0 := (hB.cell (p := ⟨b0, o0 + p * 6, none⟩) hbl).trans e0.out;have c1 := (hB.cell (p := ⟨b0, o0 + p * 6 + 1, none⟩) hbl).trans e1.out;have c2 := (hB.cell (p := ⟨b0, o0 + p * 6 + 2, none⟩) hbl).trans e2.out;have c3 := (hB.cell (p := ⟨b0, o0 + p * 6 + 3, none⟩) hbl).trans e3.out;have c4 := (hB.cell (p := ⟨b0, o0 + p * 6 + 4, none⟩) hbl).trans e4.out;have c5 := (hB.cell (p := ⟨b0, o0 + p * 6 + 5, none⟩) hbl).trans e5.out;have d0 := zC k1;have f0 := zF k1;clear k1 hb hB;go_wp2_with fail;refine bodyPost_ret (v := .tuple #[.agg #[x0, x1, x2, x3, x4, x5], .bool true]) ?_ rfl ⟨rfl, ?_⟩
 ·rw [results_cell_tmp rfl]; go_simp
 ·exact zt96
theorem FindOpen (v : Value) (l : List (List Int)) (id x0 x1 x2 x3 x4 x5 : Int) (F : Bool) (w : World) (hv : Hid (RowAt w v 6 l)) (hl : l.length ≤ 1000000) (hr : Hid (riseH l)) (hx : Hid (recOf 6 (l.find? (isId id)) = ([x0, x1, x2, x3, x4, x5], F))) :
  Calls Tryz.prog 143 #[v, .int .i64 id, .func (.func 128) #[] #[]] w fun e w' => e = .returned (.tuple #[.agg #[x0, x1, x2, x3, x4, x5], .bool F]) ∧ Below w.heap.size w w' := by
 obtain ⟨p, hp, hlt, hf⟩ := placeH id hr.out;have hx := hx.out;have hv' := zH hv.out.rec';rw [hf] at hx;cases hlp : l[p]? with
 | none =>
  rw [hlp] at hx;simp only [Option.filter, recOf, List.replicate] at hx;injection hx with h1 h2
  injection h1 with g0 t0
  injection t0 with g1 t1
  injection t1 with g2 t2
  injection t2 with g3 t3
  injection t3 with g4 t4
  injection t4 with g5 t5
  subst h2 g0 g1 g2 g3 g4 g5;exact zz4z v l id p w hv' hl hp hlt (by show _ = _; rw [hlp])
 | some r =>
  rw [hlp] at hx;by_cases hk : r.headD 0 = id
  ·have hi : (Option.some r).filter (isId id) = some r := by simp only [Option.filter, isId, decide_eq_true hk]; rfl
   rw [hi] at hx;simp only [recOf] at hx;injection hx with h1 h2
   subst h2 h1;exact zz8f v l id x0 x1 x2 x3 x4 x5 p w hv' hl (List.getElem?_eq_some_iff.1 hlp).1 hlt (by show _ = _; rw [hlp]; exact (decide_eq_true hk).symm) hlp
  ·have hi : (Option.some r).filter (isId id) = none := by simp only [Option.filter, isId, decide_eq_false hk]; rfl
   rw [hi] at hx;simp only [recOf, List.replicate] at hx;injection hx with h1 h2
   injection h1 with g0 t0
   injection t0 with g1 t1
   injection t1 with g2 t2
   injection t2 with g3 t3
   injection t3 with g4 t4
   injection t4 with g5 t5
   subst h2 g0 g1 g2 g3 g4 g5;exact zz4z v l id p w hv' hl hp hlt (by show _ = _; rw [hlp]; exact (decide_eq_false hk).symm)
theorem Open_any (v : Value) (b : Bk) (id x0 x1 x2 x3 x4 x5 : Int) (F : Bool) (w : World) (hb : Hid (BkAt w v b)) (hl : b.o.length ≤ 1000000) (hr : Hid (riseH b.o)) (hx : Hid (recOf 6 (b.o.find? (isId id)) = ([x0, x1, x2, x3, x4, x5], F))) :
  Calls Tryz.prog 76 #[v, .int .i64 id] w fun e w' => e = .returned (.tuple #[.agg #[x0, x1, x2, x3, x4, x5], .bool F]) ∧ Below w.heap.size w w' := by
 obtain ⟨vh, vs, vo, vr, rfl, h1, h2, h3, h4⟩ := hb.out;have HB0 : Hid (Below w.heap.size w ((w.alloc (.cells #[vh, vs, vo, vr, b.n] 27)).alloc (.cells #[.int .i64 0, .int .i64 0, .int .i64 0, .int .i64 0, .int .i64 0, .int .i64 0] 82))) := zz01 zBa zo _;have q := zH (FindOpen vo b.o id x0 x1 x2 x3 x4 x5 F ((w.alloc (.cells #[vh, vs, vo, vr, b.n] 27)).alloc (.cells #[.int .i64 0, .int .i64 0, .int .i64 0, .int .i64 0, .int .i64 0, .int .i64 0] 82)) (h3.call HB0.out) hl hr hx);clear hb h1 h2 h3 h4 hx;have HN := zH (zz02 (w.alloc (.cells #[vh, vs, vo, vr, b.n] 27)) (.cells #[.int .i64 0, .int .i64 0, .int .i64 0, .int .i64 0, .int .i64 0, .int .i64 0] 82));have c := zz00 (zz05 (zz02 w (.cells #[vh, vs, vo, vr, b.n] 27)) (.cells #[.int .i64 0, .int .i64 0, .int .i64 0, .int .i64 0, .int .i64 0, .int .i64 0] 82)) 2 _ rfl;go_in;go_wp2_with fail;(with_reducible refine q.out.mono ?_);rintro e w2 ⟨rfl, hb⟩;have k1 : w2.heap[w.heap.size + 1]? = some (.cells #[.int .i64 0, .int .i64 0, .int .i64 0, .int .i64 0, .int .i64 0, .int .i64 0] 82 (0, 0)) := by have := zz06 HN.out hb; simpa using this
 have HB : Hid (Below w.heap.size w w2) := HB0.out.trans (hb.mono zo);have d0 := zC k1;have f0 := zF k1;clear k1 hb;go_wp2_with fail;refine bodyPost_ret (v := .tuple #[.agg #[x0, x1, x2, x3, x4, x5], .bool F]) ?_ rfl ⟨rfl, ?_⟩
 ·rw [results_cell_tmp rfl]; go_simp
 ·exact zt96
theorem zz4y (v : Value) (l : List (List Int)) (id : Int) (p : Nat) (w : World) (hv : Hid (RecAt w v 2 l)) (hl : l.length ≤ 1000000) (hp : p ≤ l.length) (hlt : Hid (∀ (h : Nat) (r : List Int), l[h]? = some r → (r.headD 0 < id ↔ h < p))) (hF : Hid (false = match l[p]? with | some r => decide (r.headD 0 = id) | none => false)) :
  Calls Tryz.prog 136 #[v, .int .i64 id, .func (.func 131) #[] #[]] w fun e w' => e = .returned (.tuple #[.agg #[.int .i64 0, .int .i64 0], .bool false]) ∧ Below w.heap.size w w' := by
 have q := zH (fun w hv => zz1g v l id p false w hv hl hp hlt hF)
 have HB0 : Hid (Below w.heap.size w (w.alloc (.cells #[.int .i64 0, .int .i64 0] 84))) := zBa;have hv1 := zH (hv.out.call HB0.out);have HN := zH (zz02 w (.cells #[.int .i64 0, .int .i64 0] 84));go_in;go_wp2_with fail;(with_reducible refine (q.out _ hv1).mono ?_);rintro e w2 ⟨rfl, hb⟩;have k0 : w2.heap[w.heap.size]? = some (.cells #[.int .i64 0, .int .i64 0] 84 (0, 0)) := by have := zz06 HN.out hb; simpa using this
 have hs : w.heap.size + 1 ≤ w2.heap.size := by have := hb.size; simpa using this
 have k1 : (w2.alloc (.cells #[.int .i64 0, .int .i64 0] 84)).heap[w.heap.size]? = some (.cells #[.int .i64 0, .int .i64 0] 84 (0, 0)) := zz05 k0 _;have k2 : (w2.alloc (.cells #[.int .i64 0, .int .i64 0] 84)).heap[w2.heap.size]? = some (.cells #[.int .i64 0, .int .i64 0] 84 (0, 0)) := zz02 w2 _;have hB3 : Hid (Below w.heap.size w (w2.alloc (.cells #[.int .i64 0, .int .i64 0] 84))) := zz01 (HB0.out.trans (hb.mono zo)) zw _;have c0 := zC k2;have d0 := zC k1;have f0 := zF k1;clear k0 k1 k2 hb;go_wp2_with fail;refine bodyPost_ret (v := .tuple #[.agg #[.int .i64 0, .int .i64 0], .bool false]) ?_ rfl ⟨rfl, ?_⟩
 ·rw [results_cell_tmp rfl]; go_simp
 ·exact Below.setCell (Below.setCell (hB3.out) zle _) zle _
theorem zz8e (v : Value) (l : List (List Int)) (id x0 x1 : Int) (p : Nat) (w : World) (hv : Hid (RecAt w v 2 l)) (hl : l.length ≤ 1000000) (hp : p < l.length) (hlt : Hid (∀ (h : Nat) (r : List Int), l[h]? = some r → (r.headD 0 < id ↔ h < p))) (hF : Hid (true = match l[p]? with | some r => decide (r.headD 0 = id) | none => false)) (hr : Hid (l[p]? = some [x0, x1])) :
  Calls Tryz.prog 136 #[v, .int .i64 id, .func (.func 131) #[] #[]] w fun e w' => e = .returned (.tuple #[.agg #[x0, x1], .bool true]) ∧ Below w.heap.size w w' := by
 have q := zH (fun w hv => zz1g v l id p true w hv hl zw hlt hF)
 have HB0 : Hid (Below w.heap.size w (w.alloc (.cells #[.int .i64 0, .int .i64 0] 84))) := zBa;have hv1 := zH (hv.out.call HB0.out);have HN := zH (zz02 w (.cells #[.int .i64 0, .int .i64 0] 84));obtain ⟨A, c, rfl, hci⟩ := hv.out;obtain ⟨_, b0, o0, rfl, hbl, hc⟩ := hci p _ hr.out;have e0 := zH (hc 0 _ rfl);have e1 := zH (hc 1 _ rfl);clear hci hc;go_in;go_wp2_with fail;(with_reducible refine (q.out _ hv1).mono ?_);rintro e w2 ⟨rfl, hb⟩;have k1 : w2.heap[w.heap.size]? = some (.cells #[.int .i64 0, .int .i64 0] 84 (0, 0)) := by have := zz06 HN.out hb; simpa using this
 have hB : Below w.heap.size w w2 := HB0.out.trans (hb.mono zo);have HB := zH hB;have c0 := (hB.cell (p := ⟨b0, o0 + p * 2, none⟩) hbl).trans e0.out;have c1 := (hB.cell (p := ⟨b0, o0 + p * 2 + 1, none⟩) hbl).trans e1.out;have d0 := zC k1;have f0 := zF k1;clear k1 hb hB;go_wp2_with fail;refine bodyPost_ret (v := .tuple #[.agg #[x0, x1], .bool true]) ?_ rfl ⟨rfl, ?_⟩
 ·rw [results_cell_tmp rfl]; go_simp
 ·exact Below.setCell (Below.setCell (HB.out) zle _) zle _
theorem FindRate (v : Value) (l : List (List Int)) (id x0 x1 : Int) (F : Bool) (w : World) (hv : Hid (RowAt w v 2 l)) (hl : l.length ≤ 1000000) (hr : Hid (riseH l)) (hx : Hid (recOf 2 (l.find? (isId id)) = ([x0, x1], F))) :
  Calls Tryz.prog 136 #[v, .int .i64 id, .func (.func 131) #[] #[]] w fun e w' => e = .returned (.tuple #[.agg #[x0, x1], .bool F]) ∧ Below w.heap.size w w' := by
 obtain ⟨p, hp, hlt, hf⟩ := placeH id hr.out;have hx := hx.out;have hv' := zH hv.out.rec';rw [hf] at hx;cases hlp : l[p]? with
 | none =>
  rw [hlp] at hx;simp only [Option.filter, recOf, List.replicate] at hx;injection hx with h1 h2
  injection h1 with g0 t0
  injection t0 with g1 t1
  subst h2 g0 g1;exact zz4y v l id p w hv' hl hp hlt (by show _ = _; rw [hlp])
 | some r =>
  rw [hlp] at hx;by_cases hk : r.headD 0 = id
  ·have hi : (Option.some r).filter (isId id) = some r := by simp only [Option.filter, isId, decide_eq_true hk]; rfl
   rw [hi] at hx;simp only [recOf] at hx;injection hx with h1 h2
   subst h2 h1;exact zz8e v l id x0 x1 p w hv' hl (List.getElem?_eq_some_iff.1 hlp).1 hlt (by show _ = _; rw [hlp]; exact (decide_eq_true hk).symm) hlp
  ·have hi : (Option.some r).filter (isId id) = none := by simp only [Option.filter, isId, decide_eq_false hk]; rfl
   rw [hi] at hx;simp only [recOf, List.replicate] at hx;injection hx with h1 h2
   injection h1 with g0 t0
   injection t0 with g1 t1
   subst h2 g0 g1;exact zz4y v l id p w hv' hl hp hlt (by show _ = _; rw [hlp]; exact (decide_eq_false hk).symm)
theorem zz4w (v : Value) (b : Bk) (id x0 x1 : Int) (F : Bool) (w : World) (hb : Hid (BkAt w v b)) (hl : b.r.length ≤ 1000000) (hr : Hid (riseH b.r)) (hx : Hid (recOf 2 (b.r.find? (isId id)) = ([x0, x1], F))) :
  Calls Tryz.prog 64 #[v, .int .i64 id] w fun e w' => e = .returned (.tuple #[.int .i64 x1, .bool F]) ∧ Below w.heap.size w w' := by
 obtain ⟨vh, vs, vo, vr, rfl, h1, h2, h3, h4⟩ := hb.out;have HB0 : Hid (Below w.heap.size w (w.alloc (.cells #[vh, vs, vo, vr, b.n] 27))) := zBa;have q := zH (FindRate vr b.r id x0 x1 F (w.alloc (.cells #[vh, vs, vo, vr, b.n] 27)) (h4.call HB0.out) hl hr hx);clear hb h1 h2 h3 h4 hx;have c := zz00 (zz02 w (.cells #[vh, vs, vo, vr, b.n] 27)) 3 _ rfl;go_in;go_wp2_with fail;(with_reducible refine q.out.mono ?_);rintro e w2 ⟨rfl, hb⟩;have k1 := zz02 w2 (.cells #[x0, x1] 84);have HB : Hid (Below w.heap.size w (w2.alloc (.cells #[x0, x1] 84))) := zz01 (HB0.out.trans (hb.mono zo)) (by have := hb.size; simp at this; omega) _
 have c2 := zz00 k1 1 _ rfl;clear k1 hb;go_wp2_with fail;go_ret2;exact ⟨rfl, HB.out⟩
end
end Go.Proofs.YtajogedbacpohaaGreatDoor
