/- Part 4 of what the claim rests on. -/
import Derived.Test.YtajogedbacpohaaGreatDoorE00
import Derived.Test.YtajogedbacpohaaGreatDoorE02
set_option linter.unusedVariables false
set_option linter.unusedSimpArgs false
set_option maxRecDepth 1000000
set_option maxHeartbeats 32000000
namespace Go.Proofs.YtajogedbacpohaaGreatDoor
section
open Go Go.RowKit
theorem zz7l {w : World} {g : Nat} {t : TypeId} {cur : List Value} (o : Nat) (vs : List Value) (hg : w.heap[g]? = some (.cells cur.toArray t (0, 0))) (hl : o + vs.length ≤ cur.length) (h1 : ∀ u ∈ vs, u.oneCell' = true) : w.setCells g o vs = w.setRow g (splice cur o vs).toArray := by
 have e1 := run_storeCells_at Tryz.prog g o t vs 0 cur.toArray w hg (by simpa using hl) h1
 have e2 := run_storeCells_cells (P := Tryz.prog) g o vs 0 w (fun j hj => by rw [zz00 hg _ _ (show cur.toArray[o + 0 + j]? = some _ from by rw [List.getElem?_toArray]; exact List.getElem?_eq_getElem zw)]; rfl) (fun j hj => zz05 hg _) h1
 rw [e1] at e2;injection e2 with _ h
 rw [Nat.add_zero] at h;rw [← h];simp [splice, List.append_assoc]
theorem zz7j (cur X1 D X2 Y : List Value) (k : Nat) (hY : Y.length = k) (hD : D.length = k) (ht : cur.take (X1.length + k + X2.length) = X1 ++ (D ++ X2)) (hc : X1.length + k + X2.length ≤ cur.length) :
  (splice cur X1.length Y).take (X1.length + k + X2.length) = X1 ++ (Y ++ X2) := by
 have e1 : cur.take X1.length = X1 := by
  exact zt83
 have e2 : (cur.drop (X1.length + k)).take X2.length = X2 := by
  have := congrArg (List.drop (X1.length + k)) ht;rw [List.drop_take, ← List.append_assoc, List.drop_left' (by simp; omega)] at this
  rw [show X1.length + k + X2.length - (X1.length + k) = X2.length by omega] at this
  exact this
 rw [splice, e1, hY, Nat.add_assoc, List.take_append, List.take_of_length_le zw, List.take_append, List.take_of_length_le zw, hY,
  show X1.length + (k + X2.length) - X1.length - k = X2.length by omega, e2]
theorem zz8l {w : World} {B : Nat} {e : TypeId} {k : Nat} {l : List (List Int)} {g cap : Nat} (p : Nat) (x : List Int) (h : RowOwn w B e (.slice (some ⟨g, 0, none⟩) l.length cap) k l) (hp : p < l.length) (hx : x.length = k) :
  RowOwn (w.setCells g (p * k) (x.map (Value.int .i64))) B e (.slice (some ⟨g, 0, none⟩) l.length cap) k (l.take p ++ x :: l.drop (p + 1)) ∧ w.grownBy (w.setCells g (p * k) (x.map (Value.int .i64))) (some g) := by
 obtain ⟨ho, hk⟩ := h;rcases ho.2 with ⟨h, _⟩ | ⟨g', cap', cur, h, hBg, hg, hnc, hcm, hcs, ht⟩
 ·cases h
 ·injection h with h1 _ h3
  injection h1 with h1
  injection h1 with h1
  subst h1 h3;have hkt : ∀ r ∈ l.take p, r.length = k := fun r hr => hk r (List.mem_of_mem_take hr)
  have hkd : ∀ r ∈ l.drop (p + 1), r.length = k := fun r hr => hk r (List.mem_of_mem_drop hr)
  have hX1 : (flatC (l.take p)).length = p * k := by rw [zz0u hkt, List.length_take, Nat.min_eq_left zw]
  have hX2 : (flatC (l.drop (p + 1))).length = (l.length - (p + 1)) * k := by rw [zz0u hkd, List.length_drop]
  have hD : (flatC [l[p]]).length = k := by rw [zz0u (k := k) (by intro r hr; simp at hr; rw [hr]; exact hk _ (List.getElem_mem hp))]; simp
  have hsp : l = l.take p ++ ([l[p]] ++ l.drop (p + 1)) := by
   have := List.take_append_drop p l;rw [List.drop_eq_getElem_cons hp] at this;exact this.symm
  have hX : flatC l = flatC (l.take p) ++ (flatC [l[p]] ++ flatC (l.drop (p + 1))) := by
   have := congrArg flatC hsp;rw [zz0j, zz0j] at this;exact this
  have hcur : cur.toList.length = cap * k := by rw [Array.length_toList]; exact hcs
  have hle : l.length * k ≤ cap * k := Nat.mul_le_mul_right _ hnc;have hnk : p * k + k + (l.length - (p + 1)) * k = l.length * k := by
   rw [← Nat.succ_mul, ← Nat.add_mul]; congr 1; omega
  have hY : (x.map (Value.int .i64)).length = k := by rw [List.length_map, hx]
  have hY1 : ∀ u ∈ x.map (Value.int .i64), u.oneCell' = true := fun u hu => by obtain ⟨y, _, rfl⟩ := List.mem_map.1 hu; rfl
  have hg' : w.heap[g]? = some (.cells cur.toList.toArray e (0, 0)) := by simpa using hg
  rw [zz7l (p * k) _ hg' zw hY1];have hlen : (l.take p ++ x :: l.drop (p + 1)).length = l.length := by simp; omega
  have hrows : ∀ r ∈ l.take p ++ x :: l.drop (p + 1), r.length = k := fun r hr => by
   rcases List.mem_append.1 hr with hr | hr
   ·exact hkt r hr
   ·rcases List.mem_cons.1 hr with rfl | hr
    ·exact hx
    ·exact hkd r hr
  refine ⟨⟨⟨?_, .inr ⟨g, cap, _, ?_, hBg, setRow_heap w g _ _ e _ hg', ?_, hcm, ?_, ?_⟩⟩, hrows⟩, ⟨rfl, rfl, rfl, by simp [World.setRow], fun j hj hne => setRow_other w g j _ (fun e => hne (by simp [e]))⟩⟩
  ·rw [zz0u hrows]
  ·rw [hlen]
  ·omega
  ·rw [List.size_toArray, length_splice _ _ _ zw, hcur]
  ·have hp := zz7j cur.toList (flatC (l.take p)) (flatC [l[p]]) (flatC (l.drop (p + 1))) (x.map (Value.int .i64)) k hY hD (by rw [← hX, ← ht, hX1, hX2]; congr 1) zw
   rw [hX1, hX2, hnk] at hp;rw [zz0j, show flatC (x :: l.drop (p + 1)) = x.map (Value.int .i64) ++ flatC (l.drop (p + 1)) by simp [flatC], ← hp]
   simp only [];rw [hlen]
theorem RowOwn.mono {w : World} {B B' : Nat} {e : TypeId} {v : Value} {k : Nat} {l : List (List Int)} (h : RowOwn w B e v k l) (hb : B' ≤ B) : RowOwn w B' e v k l := by
 obtain ⟨⟨hl, ho⟩, hk⟩ := h;refine ⟨⟨hl, ?_⟩, hk⟩;rcases ho with h | ⟨g, cap, cur, h1, h2, h3⟩
 ·exact .inl h
 ·exact .inr ⟨g, cap, cur, h1, Nat.le_trans hb h2, h3⟩
theorem zz6z (v : Value) (l : List (List Int)) (x0 x1 x2 x3 id : Int) (p : Nat) (w : World) (hv : Hid (RowAt w v 4 l)) (hl : l.length ≤ 999999) (hp : p ≤ l.length) (hlt : Hid (∀ (h : Nat) (r : List Int), l[h]? = some r → (r.headD 0 < id ↔ h < p))) (hF : Hid (false = match l[p]? with | some r => decide (r.headD 0 = id) | none => false)) :
  Calls Tryz.prog 141 #[v, .agg #[x0, x1, x2, x3], .int .i64 id, .func (.func 125) #[] #[], .bool false] w fun e w' => ∃ v', e = .returned v' ∧ RowOwn w' w.heap.size 78 v' 4 (l.take p ++ [x0, x1, x2, x3] :: l.drop p) ∧ Below w.heap.size w w' := by
 have HB0 : Hid (Below w.heap.size w (w.alloc (.cells #[x0, x1, x2, x3] 78))) := zBa;have hv1 := zH (hv.out.call HB0.out);have qc := zH (zz1s v l (w.alloc (.cells #[x0, x1, x2, x3] 78)) hv1 zw);have qs := zH (fun v w hv => zz18 v l id p false w hv zw zw hlt hF)
 have hx := zH (zz02 w (.cells #[x0, x1, x2, x3] 78));have qi := zH (fun B v vb w hv hB hb hne => zz4u B v l [x0, x1, x2, x3] p vb w hv hB zw hp rfl hb hne)
 go_in;go_wp2_with fail;(with_reducible refine qc.out.mono ?_);rintro e w1 ⟨v1, rfl, hown, hb1⟩;have hs1 : w.heap.size + 1 ≤ w1.heap.size := by have := hb1.size; simpa using this
 have HO := zH (hown.mono (B' := w.heap.size + 1) zo);have hr1 := zH hown.row.rec';have HX1 := zK hx hb1;have HB1 := zH (HB0.out.trans (hb1.mono zo));clear hown hb1 hx;go_wp2_with fail;(with_reducible refine (qs.out _ _ hr1).mono ?_);rintro e w2 ⟨rfl, hb2⟩;have k2 := zz06 HX1.out hb2;have c0 := zC k2;have hs2 := hb2.size;have HB2 := zH (HB1.out.trans (hb2.mono zw));have HO2 := HO.out.kept hb2;have hne : v1.ownBlock ≠ some w2.heap.size := fun h => Nat.lt_irrefl _ (HO2.1.lt _ h).2
 have hown3 : Hid (RowOwn (w2.alloc (.cells #[x0, x1, x2, x3] 78)) (w.heap.size + 1) 78 v1 4 l) := HO2.kept zBa;have hbase := zH (fun k h => (HO2.1.lt k h).1)
 have hB3 : w.heap.size + 1 ≤ (w2.alloc (.cells #[x0, x1, x2, x3] 78)).heap.size := by simp; omega
 have hb3 : Hid ((w2.alloc (.cells #[x0, x1, x2, x3] 78)).heap[w2.heap.size]? = some (.cells ([x0, x1, x2, x3].map (Value.int .i64)).toArray 78 (0, 0))) := zz02 w2 _;have HB3 : Hid (Below w.heap.size w (w2.alloc (.cells #[x0, x1, x2, x3] 78))) := zz01 HB2.out zw _;clear k2 hb2 HO2;go_wp2_with fail;(with_reducible refine (qi.out _ _ _ _ hown3 hB3 hb3 hne).mono ?_);rintro e w4 ⟨v', rfl, hown4, hgr⟩;have fin := zH (show RowOwn w4 w.heap.size 78 v' 4 (l.take p ++ [x0, x1, x2, x3] :: l.drop p) ∧ Below w.heap.size w w4 from ⟨hown4.mono zw, HB3.out.grown hgr zo (fun k hk => by have := hbase.out k hk; omega)⟩)
 clear hown4 hgr;go_wp2_with fail;go_ret;exact ⟨v', rfl, fin.out⟩
theorem zt46 {p : Prop} (h : p := by
 rcases HO2.out.1.2 with ⟨h, _⟩ | ⟨g', cap', cur, h, hBg, hg, _⟩
 ·cases h
 ·injection h with h1 _ h3
  injection h1 with h1
  injection h1 with h1
  subst h1;exact zz05 hg j) : p := h
theorem zz6y (v : Value) (l : List (List Int)) (x0 x1 x2 x3 id : Int) (p : Nat) (w : World) (hv : Hid (RowAt w v 4 l)) (hl : l.length ≤ 999999) (hp : p < l.length) (hlt : Hid (∀ (h : Nat) (r : List Int), l[h]? = some r → (r.headD 0 < id ↔ h < p))) (hF : Hid (true = match l[p]? with | some r => decide (r.headD 0 = id) | none => false)) :
  Calls Tryz.prog 141 #[v, .agg #[x0, x1, x2, x3], .int .i64 id, .func (.func 125) #[] #[], .bool false] w fun e w' => ∃ v', e = .returned v' ∧ RowOwn w' w.heap.size 78 v' 4 (l.take p ++ [x0, x1, x2, x3] :: l.drop (p + 1)) ∧ Below w.heap.size w w' := by
 have HB0 : Hid (Below w.heap.size w (w.alloc (.cells #[x0, x1, x2, x3] 78))) := zBa;have hv1 := zH (hv.out.call HB0.out);have qc := zH (zz1s v l (w.alloc (.cells #[x0, x1, x2, x3] 78)) hv1 zw);have qs := zH (fun v w hv => zz18 v l id p true w hv zw zw hlt hF)
 have hx := zH (zz02 w (.cells #[x0, x1, x2, x3] 78));go_in;go_wp2_with fail;(with_reducible refine qc.out.mono ?_);rintro e w1 ⟨v1, rfl, hown, hb1⟩;have hs1 : w.heap.size + 1 ≤ w1.heap.size := by have := hb1.size; simpa using this
 replace hown := hown.mono (B' := w.heap.size + 1) zo;have hr1 := zH hown.row.rec';obtain ⟨g, cap, rfl⟩ : ∃ g cap, v1 = .slice (some ⟨g, 0, none⟩) l.length cap := by
  rcases hown.1.2 with ⟨_, h0⟩ | ⟨g, cap, cur, h, _⟩
  ·omega
  ·exact ⟨g, cap, h⟩
 have HO := zH hown;have HX1 := zK hx hb1;have HB1 := zH (HB0.out.trans (hb1.mono zo));have hpl : (p : Int) < (l.length : Int) := by omega
 have hpl' : p < l.length := by omega
 have hy := List.getElem?_eq_getElem hp;obtain ⟨hyk, b0, o0, hAo, hbl, hyc1⟩ : (l[p]).length = 4 ∧ ∃ b o, some (⟨g, 0, none⟩ : Addr) = some ⟨b, o, none⟩ ∧ b < w1.heap.size ∧ ∀ (j : Nat) (x : Int), (l[p])[j]? = some x → w1.cell? ⟨b, o + p * 4 + j, none⟩ = some (.int .i64 x) := by
  obtain ⟨A, c, h, hi⟩ := hr1.out;injection h with h1 _ _
  subst h1;exact hi p _ hy
 injection hAo with hAo
 injection hAo with hA1 hA2
 subst hA1 hA2;clear hy;have HYC := zH hyc1;have HYK := zH hyk;generalize l[p] = y at HYC HYK;clear hown hb1 hx hyc1 hyk;go_wp2_with fail;(with_reducible refine (qs.out _ _ hr1).mono ?_);rintro e w2 ⟨rfl, hb2⟩;have k2 := zz06 HX1.out hb2;have c0 := zC k2;have hs2 := hb2.size;have HB2 := zH (HB1.out.trans (hb2.mono zw));have HO2 := zH (HO.out.kept hb2);have hyk := HYK.out;have hyc : ∀ (j : Nat) (x : Int), y[j]? = some x → w2.cell? ⟨g, 0 + p * 4 + j, none⟩ = some (.int .i64 x) := fun j x hj => (hb2.cell (p := ⟨g, 0 + p * 4 + j, none⟩) hbl).trans (HYC.out j x hj)
 clear HYC HYK;obtain ⟨y0, y1, y2, y3, rfl⟩ : ∃ y0 y1 y2 y3, y = [y0, y1, y2, y3] := by
  match y, hyk with
  | [y0, y1, y2, y3], _ => exact ⟨y0, y1, y2, y3, rfl⟩
 have e0 : w2.cell? ⟨g, p * 4, none⟩ = some (.int .i64 y0) := by have := hyc 0 _ rfl; simpa using this
 have e1 : w2.cell? ⟨g, p * 4 + 1, none⟩ = some (.int .i64 y1) := by have := hyc 1 _ rfl; simpa using this
 have e2 : w2.cell? ⟨g, p * 4 + 2, none⟩ = some (.int .i64 y2) := by have := hyc 2 _ rfl; simpa using this
 have e3 : w2.cell? ⟨g, p * 4 + 3, none⟩ = some (.int .i64 y3) := by have := hyc 3 _ rfl; simpa using this
 have fz : ∀ j, w2.frozen? ⟨g, j, none⟩ = false := fun j => by
  exact zt46
 have f0 := fz (p * 4);have f1 := fz (p * 4 + 1);have f2 := fz (p * 4 + 2);have f3 := fz (p * 4 + 3);have hBg : w.heap.size ≤ g := by have := (HO2.out.1.lt g rfl).1; omega
 have fin : Hid (RowOwn (w2.setCells g (p * 4) ([x0, x1, x2, x3].map (Value.int .i64))) w.heap.size 78 (.slice (some ⟨g, 0, none⟩) l.length cap) 4 (l.take p ++ [x0, x1, x2, x3] :: l.drop (p + 1)) ∧ Below w.heap.size w (w2.setCells g (p * 4) ([x0, x1, x2, x3].map (Value.int .i64)))) := by
  have := zz8l p [x0, x1, x2, x3] HO2.out hp rfl;exact ⟨this.1.mono zw, HB2.out.grown this.2 zw (fun k hk => by injection hk with hk; omega)⟩
 clear k2 hb2 hyc fz hyk;go_wp2_with fail;go_ret;exact ⟨_, rfl, fin.out⟩
theorem zz7t (v : Value) (l : List (List Int)) (x0 x1 x2 kx ky : Int) (p : Nat) (w : World) (hv : Hid (RowAt w v 3 l)) (hl : l.length ≤ 999999) (hp : p ≤ l.length) (hlt : Hid (∀ (h : Nat) (r : List Int), l[h]? = some r → (stLt r kx ky ↔ h < p))) (hF : Hid (false = match l[p]? with | some r => decide (r.headD 0 = kx ∧ r.tail.headD 0 = ky) | none => false)) :
  Calls Tryz.prog 154 #[v, .agg #[x0, x1, x2], .agg #[kx, ky], .func (.func 134) #[] #[], .bool false] w fun e w' => ∃ v', e = .returned v' ∧ RowOwn w' w.heap.size 80 v' 3 (l.take p ++ [x0, x1, x2] :: l.drop p) ∧ Below w.heap.size w w' := by
 have HB0 : Hid (Below w.heap.size w ((w.alloc (.cells #[x0, x1, x2] 80)).alloc (.cells #[kx, ky] 179))) := zz01 zBa zo _;have hv1 := zH (hv.out.call HB0.out);have qc := zH (zz19 v l ((w.alloc (.cells #[x0, x1, x2] 80)).alloc (.cells #[kx, ky] 179)) hv1 zw);have qs := zH (fun v w hv => zz0y v l kx ky p false w hv zw zw hlt hF)
 have hx := zH (zz04 (zz02 w (.cells #[x0, x1, x2] 80)) (.cells #[kx, ky] 179));have qi := zH (fun B v vb w hv hB hb hne => zz51 B v l [x0, x1, x2] p vb w hv hB zw hp rfl hb hne)
 go_in;go_wp2_with fail;(with_reducible refine qc.out.mono ?_);rintro e w1 ⟨v1, rfl, hown, hb1⟩;have hs1 : w.heap.size + 2 ≤ w1.heap.size := by have := hb1.size; simpa using this
 have HO := zH (hown.mono (B' := w.heap.size + 2) zo);have hr1 := zH hown.row.rec';have HX1 := zK hx hb1;have kk1 := zz06 (zz02 (w.alloc (.cells #[x0, x1, x2] 80)) (.cells #[kx, ky] 179)) hb1;have d0 : w1.cell? ⟨w.heap.size + 1, 0, none⟩ = some (.int .i64 kx) := by have := zz00 kk1 0 _ rfl; simpa using this
 have d1 : w1.cell? ⟨w.heap.size + 1, 1, none⟩ = some (.int .i64 ky) := by have := zz00 kk1 1 _ rfl; simpa using this
 clear kk1;have HB1 := zH (HB0.out.trans (hb1.mono zo));clear hown hb1 hx;go_wp2_with fail;(with_reducible refine (qs.out _ _ hr1).mono ?_);rintro e w2 ⟨rfl, hb2⟩;have k2 := zz06 HX1.out hb2;have c0 := zC k2;have hs2 := hb2.size;have HB2 := zH (HB1.out.trans (hb2.mono zw));have HO2 := HO.out.kept hb2;have hne : v1.ownBlock ≠ some w2.heap.size := fun h => Nat.lt_irrefl _ (HO2.1.lt _ h).2
 have hown3 : Hid (RowOwn (w2.alloc (.cells #[x0, x1, x2] 80)) (w.heap.size + 2) 80 v1 3 l) := HO2.kept zBa;have hbase := zH (fun k h => (HO2.1.lt k h).1)
 have hB3 : w.heap.size + 2 ≤ (w2.alloc (.cells #[x0, x1, x2] 80)).heap.size := by simp; omega
 have hb3 : Hid ((w2.alloc (.cells #[x0, x1, x2] 80)).heap[w2.heap.size]? = some (.cells ([x0, x1, x2].map (Value.int .i64)).toArray 80 (0, 0))) := zz02 w2 _;have HB3 : Hid (Below w.heap.size w (w2.alloc (.cells #[x0, x1, x2] 80))) := zz01 HB2.out zw _;clear k2 hb2 HO2;go_wp2_with fail;(with_reducible refine (qi.out _ _ _ _ hown3 hB3 hb3 hne).mono ?_);rintro e w4 ⟨v', rfl, hown4, hgr⟩;have fin := zH (show RowOwn w4 w.heap.size 80 v' 3 (l.take p ++ [x0, x1, x2] :: l.drop p) ∧ Below w.heap.size w w4 from ⟨hown4.mono zw, HB3.out.grown hgr zo (fun k hk => by have := hbase.out k hk; omega)⟩)
 clear hown4 hgr;go_wp2_with fail;go_ret;exact ⟨v', rfl, fin.out⟩
theorem zz7s (v : Value) (l : List (List Int)) (x0 x1 x2 kx ky : Int) (p : Nat) (w : World) (hv : Hid (RowAt w v 3 l)) (hl : l.length ≤ 999999) (hp : p < l.length) (hlt : Hid (∀ (h : Nat) (r : List Int), l[h]? = some r → (stLt r kx ky ↔ h < p))) (hF : Hid (true = match l[p]? with | some r => decide (r.headD 0 = kx ∧ r.tail.headD 0 = ky) | none => false)) :
  Calls Tryz.prog 154 #[v, .agg #[x0, x1, x2], .agg #[kx, ky], .func (.func 134) #[] #[], .bool false] w fun e w' => ∃ v', e = .returned v' ∧ RowOwn w' w.heap.size 80 v' 3 (l.take p ++ [x0, x1, x2] :: l.drop (p + 1)) ∧ Below w.heap.size w w' := by
 have HB0 : Hid (Below w.heap.size w ((w.alloc (.cells #[x0, x1, x2] 80)).alloc (.cells #[kx, ky] 179))) := zz01 zBa zo _;have hv1 := zH (hv.out.call HB0.out);have qc := zH (zz19 v l ((w.alloc (.cells #[x0, x1, x2] 80)).alloc (.cells #[kx, ky] 179)) hv1 zw);have qs := zH (fun v w hv => zz0y v l kx ky p true w hv zw zw hlt hF)
 have hx := zH (zz04 (zz02 w (.cells #[x0, x1, x2] 80)) (.cells #[kx, ky] 179));go_in;go_wp2_with fail;(with_reducible refine qc.out.mono ?_);rintro e w1 ⟨v1, rfl, hown, hb1⟩;have hs1 : w.heap.size + 2 ≤ w1.heap.size := by have := hb1.size; simpa using this
 replace hown := hown.mono (B' := w.heap.size + 2) zo;have hr1 := zH hown.row.rec';obtain ⟨g, cap, rfl⟩ : ∃ g cap, v1 = .slice (some ⟨g, 0, none⟩) l.length cap := by
  rcases hown.1.2 with ⟨_, h0⟩ | ⟨g, cap, cur, h, _⟩
  ·omega
  ·exact ⟨g, cap, h⟩
 have HO := zH hown;have HX1 := zK hx hb1;have kk1 := zz06 (zz02 (w.alloc (.cells #[x0, x1, x2] 80)) (.cells #[kx, ky] 179)) hb1;have d0 : w1.cell? ⟨w.heap.size + 1, 0, none⟩ = some (.int .i64 kx) := by have := zz00 kk1 0 _ rfl; simpa using this
 have d1 : w1.cell? ⟨w.heap.size + 1, 1, none⟩ = some (.int .i64 ky) := by have := zz00 kk1 1 _ rfl; simpa using this
 clear kk1;have HB1 := zH (HB0.out.trans (hb1.mono zo));have hpl : (p : Int) < (l.length : Int) := by omega
 have hpl' : p < l.length := by omega
 have hy := List.getElem?_eq_getElem hp;obtain ⟨hyk, b0, o0, hAo, hbl, hyc1⟩ : (l[p]).length = 3 ∧ ∃ b o, some (⟨g, 0, none⟩ : Addr) = some ⟨b, o, none⟩ ∧ b < w1.heap.size ∧ ∀ (j : Nat) (x : Int), (l[p])[j]? = some x → w1.cell? ⟨b, o + p * 3 + j, none⟩ = some (.int .i64 x) := by
  obtain ⟨A, c, h, hi⟩ := hr1.out;injection h with h1 _ _
  subst h1;exact hi p _ hy
 injection hAo with hAo
 injection hAo with hA1 hA2
 subst hA1 hA2;clear hy;have HYC := zH hyc1;have HYK := zH hyk;generalize l[p] = y at HYC HYK;clear hown hb1 hx hyc1 hyk;go_wp2_with fail;(with_reducible refine (qs.out _ _ hr1).mono ?_);rintro e w2 ⟨rfl, hb2⟩;have k2 := zz06 HX1.out hb2;have c0 := zC k2;have hs2 := hb2.size;have HB2 := zH (HB1.out.trans (hb2.mono zw));have HO2 := zH (HO.out.kept hb2);have hyk := HYK.out;have hyc : ∀ (j : Nat) (x : Int), y[j]? = some x → w2.cell? ⟨g, 0 + p * 3 + j, none⟩ = some (.int .i64 x) := fun j x hj => (hb2.cell (p := ⟨g, 0 + p * 3 + j, none⟩) hbl).trans (HYC.out j x hj)
 clear HYC HYK;obtain ⟨y0, y1, y2, rfl⟩ : ∃ y0 y1 y2, y = [y0, y1, y2] := by
  match y, hyk with
  | [y0, y1, y2], _ => exact ⟨y0, y1, y2, rfl⟩
 have e0 : w2.cell? ⟨g, p * 3, none⟩ = some (.int .i64 y0) := by have := hyc 0 _ rfl; simpa using this
 have e1 : w2.cell? ⟨g, p * 3 + 1, none⟩ = some (.int .i64 y1) := by have := hyc 1 _ rfl; simpa using this
 have e2 : w2.cell? ⟨g, p * 3 + 2, none⟩ = some (.int .i64 y2) := by have := hyc 2 _ rfl; simpa using this
 have fz : ∀ j, w2.frozen? ⟨g, j, none⟩ = false := fun j => by
  exact zt46
 have f0 := fz (p * 3);have f1 := fz (p * 3 + 1);have f2 := fz (p * 3 + 2);have hBg : w.heap.size ≤ g := by have := (HO2.out.1.lt g rfl).1; omega
 have fin : Hid (RowOwn (w2.setCells g (p * 3) ([x0, x1, x2].map (Value.int .i64))) w.heap.size 80 (.slice (some ⟨g, 0, none⟩) l.length cap) 3 (l.take p ++ [x0, x1, x2] :: l.drop (p + 1)) ∧ Below w.heap.size w (w2.setCells g (p * 3) ([x0, x1, x2].map (Value.int .i64)))) := by
  have := zz8l p [x0, x1, x2] HO2.out hp rfl;exact ⟨this.1.mono zw, HB2.out.grown this.2 zw (fun k hk => by injection hk with hk; omega)⟩
 clear k2 hb2 hyc fz hyk;go_wp2_with fail;go_ret;exact ⟨_, rfl, fin.out⟩
theorem zz7u (v : Value) (l : List (List Int)) (x0 x1 x2 kx ky : Int) (p : Nat) (w : World) (hv : Hid (RowAt w v 3 l)) (hl : l.length ≤ 999999) (hp : p < l.length) (hlt : Hid (∀ (h : Nat) (r : List Int), l[h]? = some r → (stLt r kx ky ↔ h < p))) (hF : Hid (true = match l[p]? with | some r => decide (r.headD 0 = kx ∧ r.tail.headD 0 = ky) | none => false)) :
  Calls Tryz.prog 154 #[v, .agg #[x0, x1, x2], .agg #[kx, ky], .func (.func 134) #[] #[], .bool true] w fun e w' => ∃ v', e = .returned v' ∧ RowOwn w' w.heap.size 80 v' 3 (l.take p ++ l.drop (p + 1)) ∧ Below w.heap.size w w' := by
 have HB0 : Hid (Below w.heap.size w ((w.alloc (.cells #[x0, x1, x2] 80)).alloc (.cells #[kx, ky] 179))) := zz01 zBa zo _;have hv1 := zH (hv.out.call HB0.out);have qc := zH (zz19 v l ((w.alloc (.cells #[x0, x1, x2] 80)).alloc (.cells #[kx, ky] 179)) hv1 zw);have qs := zH (fun v w hv => zz0y v l kx ky p true w hv zw zw hlt hF)
 have hx := zH (zz04 (zz02 w (.cells #[x0, x1, x2] 80)) (.cells #[kx, ky] 179));have qi := zH (fun B v w hv => zz54 B v l p w hv zw hp)
 go_in;go_wp2_with fail;(with_reducible refine qc.out.mono ?_);rintro e w1 ⟨v1, rfl, hown, hb1⟩;have hs1 : w.heap.size + 2 ≤ w1.heap.size := by have := hb1.size; simpa using this
 have HO := zH (hown.mono (B' := w.heap.size + 2) zo);have hr1 := zH hown.row.rec';have HX1 := zK hx hb1;have kk1 := zz06 (zz02 (w.alloc (.cells #[x0, x1, x2] 80)) (.cells #[kx, ky] 179)) hb1;have d0 : w1.cell? ⟨w.heap.size + 1, 0, none⟩ = some (.int .i64 kx) := by have := zz00 kk1 0 _ rfl; simpa using this
 have d1 : w1.cell? ⟨w.heap.size + 1, 1, none⟩ = some (.int .i64 ky) := by have := zz00 kk1 1 _ rfl; simpa using this
 clear kk1;have HB1 := zH (HB0.out.trans (hb1.mono zo));have hw1 : IntKind.i64.wrap ((p : Int) + 1) = (p : Int) + 1 := by rw [IntKind.wrap_i64]; omega
 clear hown hb1 hx;go_wp2_with fail;(with_reducible refine (qs.out _ _ hr1).mono ?_);rintro e w2 ⟨rfl, hb2⟩;have hs2 := hb2.size;have HB2 := zH (HB1.out.trans (hb2.mono zw));have HO2 := zH (HO.out.kept hb2);have hbase := zH (fun k h => (HO2.out.1.lt k h).1)
 clear hb2;go_wp2_with fail;(with_reducible refine (qi.out _ _ _ HO2).mono ?_);rintro e w4 ⟨v', rfl, hown4, hgr⟩;have fin := zH (show RowOwn w4 w.heap.size 80 v' 3 (l.take p ++ l.drop (p + 1)) ∧ Below w.heap.size w w4 from ⟨hown4.mono zw, HB2.out.grown hgr zw (fun k hk => by have := hbase.out k hk; omega)⟩)
 clear hown4 hgr;go_wp2_with fail;go_ret;exact ⟨v', rfl, fin.out⟩
theorem zz6x (v : Value) (l : List (List Int)) (x0 x1 x2 kx ky : Int) (p : Nat) (w : World) (hv : Hid (RowAt w v 3 l)) (hl : l.length ≤ 999999) (hp : p ≤ l.length) (hlt : Hid (∀ (h : Nat) (r : List Int), l[h]? = some r → (stLt r kx ky ↔ h < p))) (hF : Hid (false = match l[p]? with | some r => decide (r.headD 0 = kx ∧ r.tail.headD 0 = ky) | none => false)) :
  Calls Tryz.prog 154 #[v, .agg #[x0, x1, x2], .agg #[kx, ky], .func (.func 134) #[] #[], .bool true] w fun e w' => ∃ v', e = .returned v' ∧ RowOwn w' w.heap.size 80 v' 3 (l) ∧ Below w.heap.size w w' := by
 have HB0 : Hid (Below w.heap.size w ((w.alloc (.cells #[x0, x1, x2] 80)).alloc (.cells #[kx, ky] 179))) := zz01 zBa zo _;have hv1 := zH (hv.out.call HB0.out);have qc := zH (zz19 v l ((w.alloc (.cells #[x0, x1, x2] 80)).alloc (.cells #[kx, ky] 179)) hv1 zw);have qs := zH (fun v w hv => zz0y v l kx ky p false w hv zw zw hlt hF)
 have hx := zH (zz04 (zz02 w (.cells #[x0, x1, x2] 80)) (.cells #[kx, ky] 179));go_in;go_wp2_with fail;(with_reducible refine qc.out.mono ?_);rintro e w1 ⟨v1, rfl, hown, hb1⟩;have hs1 : w.heap.size + 2 ≤ w1.heap.size := by have := hb1.size; simpa using this
 have HO := zH (hown.mono (B' := w.heap.size + 2) zo);have hr1 := zH hown.row.rec';have HX1 := zK hx hb1;have kk1 := zz06 (zz02 (w.alloc (.cells #[x0, x1, x2] 80)) (.cells #[kx, ky] 179)) hb1;have d0 : w1.cell? ⟨w.heap.size + 1, 0, none⟩ = some (.int .i64 kx) := by have := zz00 kk1 0 _ rfl; simpa using this
 have d1 : w1.cell? ⟨w.heap.size + 1, 1, none⟩ = some (.int .i64 ky) := by have := zz00 kk1 1 _ rfl; simpa using this
 clear kk1;have HB1 := zH (HB0.out.trans (hb1.mono zo));clear hown hb1 hx;go_wp2_with fail;(with_reducible refine (qs.out _ _ hr1).mono ?_);rintro e w2 ⟨rfl, hb2⟩;have fin := zH (show RowOwn w2 w.heap.size 80 v1 3 l ∧ Below w.heap.size w w2 from ⟨(HO.out.kept hb2).mono zw, HB1.out.trans (hb2.mono zw)⟩)
 clear hb2;go_wp2_with fail;go_ret;exact ⟨v1, rfl, fin.out⟩
theorem zz9s (v : Value) (l : List (List Int)) (x0 x1 x2 x3 x4 x5 id : Int) (p : Nat) (w : World) (hv : Hid (RowAt w v 6 l)) (hl : l.length ≤ 999999) (hp : p ≤ l.length) (hlt : Hid (∀ (h : Nat) (r : List Int), l[h]? = some r → (r.headD 0 < id ↔ h < p))) (hF : Hid (false = match l[p]? with | some r => decide (r.headD 0 = id) | none => false)) :
  Calls Tryz.prog 152 #[v, .agg #[x0, x1, x2, x3, x4, x5], .int .i64 id, .func (.func 128) #[] #[], .bool false] w fun e w' => ∃ v', e = .returned v' ∧ RowOwn w' w.heap.size 82 v' 6 (l.take p ++ [x0, x1, x2, x3, x4, x5] :: l.drop p) ∧ Below w.heap.size w w' := by
 have HB0 : Hid (Below w.heap.size w (w.alloc (.cells #[x0, x1, x2, x3, x4, x5] 82))) := zBa;have hv1 := zH (hv.out.call HB0.out);have qc := zH (zz1f v l (w.alloc (.cells #[x0, x1, x2, x3, x4, x5] 82)) hv1 zw);have qs := zH (fun v w hv => zz13 v l id p false w hv zw zw hlt hF)
 have hx := zH (zz02 w (.cells #[x0, x1, x2, x3, x4, x5] 82));have qi := zH (fun B v vb w hv hB hb hne => zz68 B v l [x0, x1, x2, x3, x4, x5] p vb w hv hB zw hp rfl hb hne)
 go_in;go_wp2_with fail;(with_reducible refine qc.out.mono ?_);rintro e w1 ⟨v1, rfl, hown, hb1⟩;have hs1 : w.heap.size + 1 ≤ w1.heap.size := by have := hb1.size; simpa using this
 have HO := zH (hown.mono (B' := w.heap.size + 1) zo);have hr1 := zH hown.row.rec';have HX1 := zK hx hb1;have HB1 := zH (HB0.out.trans (hb1.mono zo));clear hown hb1 hx;go_wp2_with fail;(with_reducible refine (qs.out _ _ hr1).mono ?_);rintro e w2 ⟨rfl, hb2⟩;have k2 := zz06 HX1.out hb2;have c0 := zC k2;have hs2 := hb2.size;have HB2 := zH (HB1.out.trans (hb2.mono zw));have HO2 := HO.out.kept hb2;have hne : v1.ownBlock ≠ some w2.heap.size := fun h => Nat.lt_irrefl _ (HO2.1.lt _ h).2
 have hown3 : Hid (RowOwn (w2.alloc (.cells #[x0, x1, x2, x3, x4, x5] 82)) (w.heap.size + 1) 82 v1 6 l) := HO2.kept zBa;have hbase := zH (fun k h => (HO2.1.lt k h).1)
 have hB3 : w.heap.size + 1 ≤ (w2.alloc (.cells #[x0, x1, x2, x3, x4, x5] 82)).heap.size := by simp; omega
 have hb3 : Hid ((w2.alloc (.cells #[x0, x1, x2, x3, x4, x5] 82)).heap[w2.heap.size]? = some (.cells ([x0, x1, x2, x3, x4, x5].map (Value.int .i64)).toArray 82 (0, 0))) := zz02 w2 _;have HB3 : Hid (Below w.heap.size w (w2.alloc (.cells #[x0, x1, x2, x3, x4, x5] 82))) := zz01 HB2.out zw _;clear k2 hb2 HO2;go_wp2_with fail;(with_reducible refine (qi.out _ _ _ _ hown3 hB3 hb3 hne).mono ?_);rintro e w4 ⟨v', rfl, hown4, hgr⟩;have fin := zH (show RowOwn w4 w.heap.size 82 v' 6 (l.take p ++ [x0, x1, x2, x3, x4, x5] :: l.drop p) ∧ Below w.heap.size w w4 from ⟨hown4.mono zw, HB3.out.grown hgr zo (fun k hk => by have := hbase.out k hk; omega)⟩)
 clear hown4 hgr;go_wp2_with fail;go_ret;exact ⟨v', rfl, fin.out⟩
theorem zz9r (v : Value) (l : List (List Int)) (x0 x1 x2 x3 x4 x5 id : Int) (p : Nat) (w : World) (hv : Hid (RowAt w v 6 l)) (hl : l.length ≤ 999999) (hp : p < l.length) (hlt : Hid (∀ (h : Nat) (r : List Int), l[h]? = some r → (r.headD 0 < id ↔ h < p))) (hF : Hid (true = match l[p]? with | some r => decide (r.headD 0 = id) | none => false)) :
  Calls Tryz.prog 152 #[v, .agg #[x0, x1, x2, x3, x4, x5], .int .i64 id, .func (.func 128) #[] #[], .bool false] w fun e w' => ∃ v', e = .returned v' ∧ RowOwn w' w.heap.size 82 v' 6 (l.take p ++ [x0, x1, x2, x3, x4, x5] :: l.drop (p + 1)) ∧ Below w.heap.size w w' := by
 have HB0 : Hid (Below w.heap.size w (w.alloc (.cells #[x0, x1, x2, x3, x4, x5] 82))) := zBa;have hv1 := zH (hv.out.call HB0.out);have qc := zH (zz1f v l (w.alloc (.cells #[x0, x1, x2, x3, x4, x5] 82)) hv1 zw);have qs := zH (fun v w hv => zz13 v l id p true w hv zw zw hlt hF)
 have hx := zH (zz02 w (.cells #[x0, x1, x2, x3, x4, x5] 82));go_in;go_wp2_with fail;(with_reducible refine qc.out.mono ?_);rintro e w1 ⟨v1, rfl, hown, hb1⟩;have hs1 : w.heap.size + 1 ≤ w1.heap.size := by have := hb1.size; simpa using this
 replace hown := hown.mono (B' := w.heap.size + 1) zo;have hr1 := zH hown.row.rec';obtain ⟨g, cap, rfl⟩ : ∃ g cap, v1 = .slice (some ⟨g, 0, none⟩) l.length cap := by
  rcases hown.1.2 with ⟨_, h0⟩ | ⟨g, cap, cur, h, _⟩
  ·omega
  ·exact ⟨g, cap, h⟩
 have HO := zH hown;have HX1 := zK hx hb1;have HB1 := zH (HB0.out.trans (hb1.mono zo));have hpl : (p : Int) < (l.length : Int) := by omega
 have hpl' : p < l.length := by omega
 have hy := List.getElem?_eq_getElem hp;obtain ⟨hyk, b0, o0, hAo, hbl, hyc1⟩ : (l[p]).length = 6 ∧ ∃ b o, some (⟨g, 0, none⟩ : Addr) = some ⟨b, o, none⟩ ∧ b < w1.heap.size ∧ ∀ (j : Nat) (x : Int), (l[p])[j]? = some x → w1.cell? ⟨b, o + p * 6 + j, none⟩ = some (.int .i64 x) := by
  obtain ⟨A, c, h, hi⟩ := hr1.out;injection h with h1 _ _
  subst h1;exact hi p _ hy
 injection hAo with hAo
 injection hAo with hA1 hA2
 subst hA1 hA2;clear hy;have HYC := zH hyc1;have HYK := zH hyk;generalize l[p] = y at HYC HYK;clear hown hb1 hx hyc1 hyk;go_wp2_with fail;(with_reducible refine (qs.out _ _ hr1).mono ?_);rintro e w2 ⟨rfl, hb2⟩;have k2 := zz06 HX1.out hb2;have c0 := zC k2;have hs2 := hb2.size;have HB2 := zH (HB1.out.trans (hb2.mono zw));have HO2 := zH (HO.out.kept hb2);have hyk := HYK.out;have hyc : ∀ (j : Nat) (x : Int), y[j]? = some x → w2.cell? ⟨g, 0 + p * 6 + j, none⟩ = some (.int .i64 x) := fun j x hj => (hb2.cell (p := ⟨g, 0 + p * 6 + j, none⟩) hbl).trans (HYC.out j x hj)
 clear HYC HYK;obtain ⟨y0, y1, y2, y3, y4, y5, rfl⟩ : ∃ y0 y1 y2 y3 y4 y5, y = [y0, y1, y2, y3, y4, y5] := by
  match y, hyk with
  | [y0, y1, y2, y3, y4, y5], _ => exact ⟨y0, y1, y2, y3, y4, y5, rfl⟩
 have e0 : w2.cell? ⟨g, p * 6, none⟩ = some (.int .i64 y0) := by have := hyc 0 _ rfl; simpa using this
 have e1 : w2.cell? ⟨g, p * 6 + 1, none⟩ = some (.int .i64 y1) := by have := hyc 1 _ rfl; simpa using this
 have e2 : w2.cell? ⟨g, p * 6 + 2, none⟩ = some (.int .i64 y2) := by have := hyc 2 _ rfl; simpa using this
 have e3 : w2.cell? ⟨g, p * 6 + 3, none⟩ = some (.int .i64 y3) := by have := hyc 3 _ rfl; simpa using this
 have e4 : w2.cell? ⟨g, p * 6 + 4, none⟩ = some (.int .i64 y4) := by have := hyc 4 _ rfl; simpa using this
 have e5 : w2.cell? ⟨g, p * 6 + 5, none⟩ = some (.int .i64 y5) := by have := hyc 5 _ rfl; simpa using this
 have fz : ∀ j, w2.frozen? ⟨g, j, none⟩ = false := fun j => by
  exact zt46
 have f0 := fz (p * 6);have f1 := fz (p * 6 + 1);have f2 := fz (p * 6 + 2);have f3 := fz (p * 6 + 3);have f4 := fz (p * 6 + 4);have f5 := fz (p * 6 + 5);have hBg : w.heap.size ≤ g := by have := (HO2.out.1.lt g rfl).1; omega
 have fin : Hid (RowOwn (w2.setCells g (p * 6) ([x0, x1, x2, x3, x4, x5].map (Value.int .i64))) w.heap.size 82 (.slice (some ⟨g, 0, none⟩) l.length cap) 6 (l.take p ++ [x0, x1, x2, x3, x4, x5] :: l.drop (p + 1)) ∧ Below w.heap.size w (w2.setCells g (p * 6) ([x0, x1, x2, x3, x4, x5].map (Value.int .i64)))) := by
  have := zz8l p [x0, x1, x2, x3, x4, x5] HO2.out hp rfl;exact ⟨this.1.mono zw, HB2.out.grown this.2 zw (fun k hk => by injection hk with hk; omega)⟩
 clear k2 hb2 hyc fz hyk;go_wp2_with fail;go_ret;exact ⟨_, rfl, fin.out⟩
theorem zz9t (v : Value) (l : List (List Int)) (x0 x1 x2 x3 x4 x5 id : Int) (p : Nat) (w : World) (hv : Hid (RowAt w v 6 l)) (hl : l.length ≤ 999999) (hp : p < l.length) (hlt : Hid (∀ (h : Nat) (r : List Int), l[h]? = some r → (r.headD 0 < id ↔ h < p))) (hF : Hid (true = match l[p]? with | some r => decide (r.headD 0 = id) | none => false)) :
  Calls Tryz.prog 152 #[v, .agg #[x0, x1, x2, x3, x4, x5], .int .i64 id, .func (.func 128) #[] #[], .bool true] w fun e w' => ∃ v', e = .returned v' ∧ RowOwn w' w.heap.size 82 v' 6 (l.take p ++ l.drop (p + 1)) ∧ Below w.heap.size w w' := by
 have HB0 : Hid (Below w.heap.size w (w.alloc (.cells #[x0, x1, x2, x3, x4, x5] 82))) := zBa;have hv1 := zH (hv.out.call HB0.out);have qc := zH (zz1f v l (w.alloc (.cells #[x0, x1, x2, x3, x4, x5] 82)) hv1 zw);have qs := zH (fun v w hv => zz13 v l id p true w hv zw zw hlt hF)
 have hx := zH (zz02 w (.cells #[x0, x1, x2, x3, x4, x5] 82));have qi := zH (fun B v w hv => zz6d B v l p w hv zw hp)
 go_in;go_wp2_with fail;(with_reducible refine qc.out.mono ?_);rintro e w1 ⟨v1, rfl, hown, hb1⟩;have hs1 : w.heap.size + 1 ≤ w1.heap.size := by have := hb1.size; simpa using this
 have HO := zH (hown.mono (B' := w.heap.size + 1) zo);have hr1 := zH hown.row.rec';have HX1 := zK hx hb1;have HB1 := zH (HB0.out.trans (hb1.mono zo));have hw1 : IntKind.i64.wrap ((p : Int) + 1) = (p : Int) + 1 := by rw [IntKind.wrap_i64]; omega
 clear hown hb1 hx;go_wp2_with fail;(with_reducible refine (qs.out _ _ hr1).mono ?_);rintro e w2 ⟨rfl, hb2⟩;have hs2 := hb2.size;have HB2 := zH (HB1.out.trans (hb2.mono zw));have HO2 := zH (HO.out.kept hb2);have hbase := zH (fun k h => (HO2.out.1.lt k h).1)
 clear hb2;go_wp2_with fail;(with_reducible refine (qi.out _ _ _ HO2).mono ?_);rintro e w4 ⟨v', rfl, hown4, hgr⟩;have fin := zH (show RowOwn w4 w.heap.size 82 v' 6 (l.take p ++ l.drop (p + 1)) ∧ Below w.heap.size w w4 from ⟨hown4.mono zw, HB2.out.grown hgr zw (fun k hk => by have := hbase.out k hk; omega)⟩)
 clear hown4 hgr;go_wp2_with fail;go_ret;exact ⟨v', rfl, fin.out⟩
theorem zz7w (v : Value) (l : List (List Int)) (x0 x1 x2 x3 x4 x5 id : Int) (p : Nat) (w : World) (hv : Hid (RowAt w v 6 l)) (hl : l.length ≤ 999999) (hp : p ≤ l.length) (hlt : Hid (∀ (h : Nat) (r : List Int), l[h]? = some r → (r.headD 0 < id ↔ h < p))) (hF : Hid (false = match l[p]? with | some r => decide (r.headD 0 = id) | none => false)) :
  Calls Tryz.prog 152 #[v, .agg #[x0, x1, x2, x3, x4, x5], .int .i64 id, .func (.func 128) #[] #[], .bool true] w fun e w' => ∃ v', e = .returned v' ∧ RowOwn w' w.heap.size 82 v' 6 (l) ∧ Below w.heap.size w w' := by
 have HB0 : Hid (Below w.heap.size w (w.alloc (.cells #[x0, x1, x2, x3, x4, x5] 82))) := zBa;have hv1 := zH (hv.out.call HB0.out);have qc := zH (zz1f v l (w.alloc (.cells #[x0, x1, x2, x3, x4, x5] 82)) hv1 zw);have qs := zH (fun v w hv => zz13 v l id p false w hv zw zw hlt hF)
 have hx := zH (zz02 w (.cells #[x0, x1, x2, x3, x4, x5] 82));go_in;go_wp2_with fail;(with_reducible refine qc.out.mono ?_);rintro e w1 ⟨v1, rfl, hown, hb1⟩;have hs1 : w.heap.size + 1 ≤ w1.heap.size := by have := hb1.size; simpa using this
 have HO := zH (hown.mono (B' := w.heap.size + 1) zo);have hr1 := zH hown.row.rec';have HX1 := zK hx hb1;have HB1 := zH (HB0.out.trans (hb1.mono zo));clear hown hb1 hx;go_wp2_with fail;(with_reducible refine (qs.out _ _ hr1).mono ?_);rintro e w2 ⟨rfl, hb2⟩;have fin := zH (show RowOwn w2 w.heap.size 82 v1 6 l ∧ Below w.heap.size w w2 from ⟨(HO.out.kept hb2).mono zw, HB1.out.trans (hb2.mono zw)⟩)
 clear hb2;go_wp2_with fail;go_ret;exact ⟨v1, rfl, fin.out⟩
theorem zz9p (v : Value) (l : List (List Int)) (x0 x1 id : Int) (p : Nat) (w : World) (hv : Hid (RowAt w v 2 l)) (hl : l.length ≤ 999999) (hp : p ≤ l.length) (hlt : Hid (∀ (h : Nat) (r : List Int), l[h]? = some r → (r.headD 0 < id ↔ h < p))) (hF : Hid (false = match l[p]? with | some r => decide (r.headD 0 = id) | none => false)) :
  Calls Tryz.prog 142 #[v, .agg #[x0, x1], .int .i64 id, .func (.func 131) #[] #[], .bool false] w fun e w' => ∃ v', e = .returned v' ∧ RowOwn w' w.heap.size 84 v' 2 (l.take p ++ [x0, x1] :: l.drop p) ∧ Below w.heap.size w w' := by
 have HB0 : Hid (Below w.heap.size w (w.alloc (.cells #[x0, x1] 84))) := zBa;have hv1 := zH (hv.out.call HB0.out);have qc := zH (zz2g v l (w.alloc (.cells #[x0, x1] 84)) hv1 zw);have qs := zH (fun v w hv => zz1h v l id p false w hv zw zw hlt hF)
 have hx := zH (zz02 w (.cells #[x0, x1] 84));have qi := zH (fun B v vb w hv hB hb hne => zz67 B v l [x0, x1] p vb w hv hB zw hp rfl hb hne)
 go_in;go_wp2_with fail;(with_reducible refine qc.out.mono ?_);rintro e w1 ⟨v1, rfl, hown, hb1⟩;have hs1 : w.heap.size + 1 ≤ w1.heap.size := by have := hb1.size; simpa using this
 have HO := zH (hown.mono (B' := w.heap.size + 1) zo);have hr1 := zH hown.row.rec';have HX1 := zK hx hb1;have HB1 := zH (HB0.out.trans (hb1.mono zo));clear hown hb1 hx;go_wp2_with fail;(with_reducible refine (qs.out _ _ hr1).mono ?_);rintro e w2 ⟨rfl, hb2⟩;have k2 := zz06 HX1.out hb2;have c0 := zC k2;have hs2 := hb2.size;have HB2 := zH (HB1.out.trans (hb2.mono zw));have HO2 := HO.out.kept hb2;have hne : v1.ownBlock ≠ some w2.heap.size := fun h => Nat.lt_irrefl _ (HO2.1.lt _ h).2
 have hown3 : Hid (RowOwn (w2.alloc (.cells #[x0, x1] 84)) (w.heap.size + 1) 84 v1 2 l) := HO2.kept zBa;have hbase := zH (fun k h => (HO2.1.lt k h).1)
 have hB3 : w.heap.size + 1 ≤ (w2.alloc (.cells #[x0, x1] 84)).heap.size := by simp; omega
 have hb3 : Hid ((w2.alloc (.cells #[x0, x1] 84)).heap[w2.heap.size]? = some (.cells ([x0, x1].map (Value.int .i64)).toArray 84 (0, 0))) := zz02 w2 _;have HB3 : Hid (Below w.heap.size w (w2.alloc (.cells #[x0, x1] 84))) := zz01 HB2.out zw _;clear k2 hb2 HO2;go_wp2_with fail;(with_reducible refine (qi.out _ _ _ _ hown3 hB3 hb3 hne).mono ?_);rintro e w4 ⟨v', rfl, hown4, hgr⟩;have fin := zH (show RowOwn w4 w.heap.size 84 v' 2 (l.take p ++ [x0, x1] :: l.drop p) ∧ Below w.heap.size w w4 from ⟨hown4.mono zw, HB3.out.grown hgr zo (fun k hk => by have := hbase.out k hk; omega)⟩)
 clear hown4 hgr;go_wp2_with fail;go_ret;exact ⟨v', rfl, fin.out⟩
theorem zz9o (v : Value) (l : List (List Int)) (x0 x1 id : Int) (p : Nat) (w : World) (hv : Hid (RowAt w v 2 l)) (hl : l.length ≤ 999999) (hp : p < l.length) (hlt : Hid (∀ (h : Nat) (r : List Int), l[h]? = some r → (r.headD 0 < id ↔ h < p))) (hF : Hid (true = match l[p]? with | some r => decide (r.headD 0 = id) | none => false)) :
  Calls Tryz.prog 142 #[v, .agg #[x0, x1], .int .i64 id, .func (.func 131) #[] #[], .bool false] w fun e w' => ∃ v', e = .returned v' ∧ RowOwn w' w.heap.size 84 v' 2 (l.take p ++ [x0, x1] :: l.drop (p + 1)) ∧ Below w.heap.size w w' := by
 have HB0 : Hid (Below w.heap.size w (w.alloc (.cells #[x0, x1] 84))) := zBa;have hv1 := zH (hv.out.call HB0.out);have qc := zH (zz2g v l (w.alloc (.cells #[x0, x1] 84)) hv1 zw);have qs := zH (fun v w hv => zz1h v l id p true w hv zw zw hlt hF)
 have hx := zH (zz02 w (.cells #[x0, x1] 84));go_in;go_wp2_with fail;(with_reducible refine qc.out.mono ?_);rintro e w1 ⟨v1, rfl, hown, hb1⟩;have hs1 : w.heap.size + 1 ≤ w1.heap.size := by have := hb1.size; simpa using this
 replace hown := hown.mono (B' := w.heap.size + 1) zo;have hr1 := zH hown.row.rec';obtain ⟨g, cap, rfl⟩ : ∃ g cap, v1 = .slice (some ⟨g, 0, none⟩) l.length cap := by
  rcases hown.1.2 with ⟨_, h0⟩ | ⟨g, cap, cur, h, _⟩
  ·omega
  ·exact ⟨g, cap, h⟩
 have HO := zH hown;have HX1 := zK hx hb1;have HB1 := zH (HB0.out.trans (hb1.mono zo));have hpl : (p : Int) < (l.length : Int) := by omega
 have hpl' : p < l.length := by omega
 have hy := List.getElem?_eq_getElem hp;obtain ⟨hyk, b0, o0, hAo, hbl, hyc1⟩ : (l[p]).length = 2 ∧ ∃ b o, some (⟨g, 0, none⟩ : Addr) = some ⟨b, o, none⟩ ∧ b < w1.heap.size ∧ ∀ (j : Nat) (x : Int), (l[p])[j]? = some x → w1.cell? ⟨b, o + p * 2 + j, none⟩ = some (.int .i64 x) := by
  obtain ⟨A, c, h, hi⟩ := hr1.out;injection h with h1 _ _
  subst h1;exact hi p _ hy
 injection hAo with hAo
 injection hAo with hA1 hA2
 subst hA1 hA2;clear hy;have HYC := zH hyc1;have HYK := zH hyk;generalize l[p] = y at HYC HYK;clear hown hb1 hx hyc1 hyk;go_wp2_with fail;(with_reducible refine (qs.out _ _ hr1).mono ?_);rintro e w2 ⟨rfl, hb2⟩;have k2 := zz06 HX1.out hb2;have c0 := zC k2;have hs2 := hb2.size;have HB2 := zH (HB1.out.trans (hb2.mono zw));have HO2 := zH (HO.out.kept hb2);have hyk := HYK.out;have hyc : ∀ (j : Nat) (x : Int), y[j]? = some x → w2.cell? ⟨g, 0 + p * 2 + j, none⟩ = some (.int .i64 x) := fun j x hj => (hb2.cell (p := ⟨g, 0 + p * 2 + j, none⟩) hbl).trans (HYC.out j x hj)
 clear HYC HYK;obtain ⟨y0, y1, rfl⟩ : ∃ y0 y1, y = [y0, y1] := by
  match y, hyk with
  | [y0, y1], _ => exact ⟨y0, y1, rfl⟩
 have e0 : w2.cell? ⟨g, p * 2, none⟩ = some (.int .i64 y0) := by have := hyc 0 _ rfl; simpa using this
 have e1 : w2.cell? ⟨g, p * 2 + 1, none⟩ = some (.int .i64 y1) := by have := hyc 1 _ rfl; simpa using this
 have fz : ∀ j, w2.frozen? ⟨g, j, none⟩ = false := fun j => by
  exact zt46
 have f0 := fz (p * 2);have f1 := fz (p * 2 + 1);have hBg : w.heap.size ≤ g := by have := (HO2.out.1.lt g rfl).1; omega
 have fin : Hid (RowOwn (w2.setCells g (p * 2) ([x0, x1].map (Value.int .i64))) w.heap.size 84 (.slice (some ⟨g, 0, none⟩) l.length cap) 2 (l.take p ++ [x0, x1] :: l.drop (p + 1)) ∧ Below w.heap.size w (w2.setCells g (p * 2) ([x0, x1].map (Value.int .i64)))) := by
  have := zz8l p [x0, x1] HO2.out hp rfl;exact ⟨this.1.mono zw, HB2.out.grown this.2 zw (fun k hk => by injection hk with hk; omega)⟩
 clear k2 hb2 hyc fz hyk;go_wp2_with fail;go_ret;exact ⟨_, rfl, fin.out⟩
end
end Go.Proofs.YtajogedbacpohaaGreatDoor
