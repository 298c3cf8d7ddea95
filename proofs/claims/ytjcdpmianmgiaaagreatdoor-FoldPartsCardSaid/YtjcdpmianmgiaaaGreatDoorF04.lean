/- Part 5 of what the claim rests on. -/
import Derived.Test.YtjcdpmianmgiaaaGreatDoorF00
import Derived.Test.YtjcdpmianmgiaaaGreatDoorF03
namespace Go.Proofs.YtjcdpmianmgiaaaGreatDoor
open Go Go.RowKit
set_option linter.unusedVariables false
set_option linter.unusedSimpArgs false
theorem setCells_row {w : World} {g : Nat} {t : TypeId} {cur : List Value} (o : Nat) (vs : List Value) (hg : w.heap[g]? = some (.cells cur.toArray t (0, 0))) (hl : o + vs.length ≤ cur.length) (h1 : ∀ u ∈ vs, u.oneCell' = true) : w.setCells g o vs = w.setRow g (splice cur o vs).toArray := by
  have e1 := run_storeCells_at Tryz.prog g o t vs 0 cur.toArray w hg (by simpa using hl) h1
  have e2 := run_storeCells_cells (P := Tryz.prog) g o vs 0 w (fun j hj => by rw [cells_of_blk hg _ _ (show cur.toArray[o + 0 + j]? = some _ from by rw [List.getElem?_toArray]; exact List.getElem?_eq_getElem (by omega))]; rfl) (fun j hj => free_of_blk hg _) h1
  rw [e1] at e2
  injection e2 with _ h
  rw [Nat.add_zero] at h
  rw [← h]
  simp [splice, List.append_assoc]
theorem set_in_place (cur X1 D X2 Y : List Value) (k : Nat) (hY : Y.length = k) (hD : D.length = k) (ht : cur.take (X1.length + k + X2.length) = X1 ++ (D ++ X2)) (hc : X1.length + k + X2.length ≤ cur.length) :
    (splice cur X1.length Y).take (X1.length + k + X2.length) = X1 ++ (Y ++ X2) := by
  have e1 : cur.take X1.length = X1 := by
    have := congrArg (List.take X1.length) ht
    rwa [List.take_take, Nat.min_eq_left (by omega), List.take_left] at this
  have e2 : (cur.drop (X1.length + k)).take X2.length = X2 := by
    have := congrArg (List.drop (X1.length + k)) ht
    rw [List.drop_take, ← List.append_assoc, List.drop_left' (by simp; omega)] at this
    rw [show X1.length + k + X2.length - (X1.length + k) = X2.length by omega] at this
    exact this
  rw [splice, e1, hY, Nat.add_assoc, List.take_append, List.take_of_length_le (by omega), List.take_append, List.take_of_length_le (by omega), hY,
    show X1.length + (k + X2.length) - X1.length - k = X2.length by omega, e2]
theorem own_set {w : World} {B : Nat} {e : TypeId} {k : Nat} {l : List (List Int)} {g cap : Nat} (p : Nat) (x : List Int) (h : RowOwn w B e (.slice (some ⟨g, 0, none⟩) l.length cap) k l) (hp : p < l.length) (hx : x.length = k) :
    RowOwn (w.setCells g (p * k) (x.map (Value.int .i64))) B e (.slice (some ⟨g, 0, none⟩) l.length cap) k (l.take p ++ x :: l.drop (p + 1)) ∧ w.grownBy (w.setCells g (p * k) (x.map (Value.int .i64))) (some g) := by
  obtain ⟨ho, hk⟩ := h
  rcases ho.2 with ⟨h, _⟩ | ⟨g', cap', cur, h, hBg, hg, hnc, hcm, hcs, ht⟩
  · cases h
  · injection h with h1 _ h3
    injection h1 with h1
    injection h1 with h1
    subst h1 h3
    have hkt : ∀ r ∈ l.take p, r.length = k := fun r hr => hk r (List.mem_of_mem_take hr)
    have hkd : ∀ r ∈ l.drop (p + 1), r.length = k := fun r hr => hk r (List.mem_of_mem_drop hr)
    have hX1 : (flatC (l.take p)).length = p * k := by rw [flatC_len hkt, List.length_take, Nat.min_eq_left (by omega)]
    have hX2 : (flatC (l.drop (p + 1))).length = (l.length - (p + 1)) * k := by rw [flatC_len hkd, List.length_drop]
    have hD : (flatC [l[p]]).length = k := by rw [flatC_len (k := k) (by intro r hr; simp at hr; rw [hr]; exact hk _ (List.getElem_mem hp))]; simp
    have hsp : l = l.take p ++ ([l[p]] ++ l.drop (p + 1)) := by
      have := List.take_append_drop p l
      rw [List.drop_eq_getElem_cons hp] at this
      exact this.symm
    have hX : flatC l = flatC (l.take p) ++ (flatC [l[p]] ++ flatC (l.drop (p + 1))) := by
      have := congrArg flatC hsp
      rw [flatC_append, flatC_append] at this
      exact this
    have hcur : cur.toList.length = cap * k := by rw [Array.length_toList]; exact hcs
    have hle : l.length * k ≤ cap * k := Nat.mul_le_mul_right _ hnc
    have hnk : p * k + k + (l.length - (p + 1)) * k = l.length * k := by
      rw [← Nat.succ_mul, ← Nat.add_mul]; congr 1; omega
    have hY : (x.map (Value.int .i64)).length = k := by rw [List.length_map, hx]
    have hY1 : ∀ u ∈ x.map (Value.int .i64), u.oneCell' = true := fun u hu => by obtain ⟨y, _, rfl⟩ := List.mem_map.1 hu; rfl
    have hg' : w.heap[g]? = some (.cells cur.toList.toArray e (0, 0)) := by simpa using hg
    rw [setCells_row (p * k) _ hg' (by omega) hY1]
    have hlen : (l.take p ++ x :: l.drop (p + 1)).length = l.length := by simp; omega
    have hrows : ∀ r ∈ l.take p ++ x :: l.drop (p + 1), r.length = k := fun r hr => by
      rcases List.mem_append.1 hr with hr | hr
      · exact hkt r hr
      · rcases List.mem_cons.1 hr with rfl | hr
        · exact hx
        · exact hkd r hr
    refine ⟨⟨⟨?_, .inr ⟨g, cap, _, ?_, hBg, setRow_heap w g _ _ e _ hg', ?_, hcm, ?_, ?_⟩⟩, hrows⟩, ⟨rfl, rfl, rfl, by simp [World.setRow], fun j hj hne => setRow_other w g j _ (fun e => hne (by simp [e]))⟩⟩
    · rw [flatC_len hrows]
    · rw [hlen]
    · omega
    · rw [List.size_toArray, length_splice _ _ _ (by omega), hcur]
    · have hp := set_in_place cur.toList (flatC (l.take p)) (flatC [l[p]]) (flatC (l.drop (p + 1))) (x.map (Value.int .i64)) k hY hD (by rw [← hX, ← ht, hX1, hX2]; congr 1) (by omega)
      rw [hX1, hX2, hnk] at hp
      rw [flatC_append, show flatC (x :: l.drop (p + 1)) = x.map (Value.int .i64) ++ flatC (l.drop (p + 1)) by simp [flatC], ← hp]
      simp only []
      rw [hlen]
theorem RowOwn.mono {w : World} {B B' : Nat} {e : TypeId} {v : Value} {k : Nat} {l : List (List Int)} (h : RowOwn w B e v k l) (hb : B' ≤ B) : RowOwn w B' e v k l := by
  obtain ⟨⟨hl, ho⟩, hk⟩ := h
  refine ⟨⟨hl, ?_⟩, hk⟩
  rcases ho with h | ⟨g, cap, cur, h1, h2, h3⟩
  · exact .inl h
  · exact .inr ⟨g, cap, cur, h1, Nat.le_trans hb h2, h3⟩
set_option maxRecDepth 100000 in
set_option maxHeartbeats 2000000 in
theorem putHolder_ins (v : Value) (l : List (List Int)) (x0 x1 x2 x3 id : Int) (p : Nat) (w : World) (hv : Hid (RowAt w v 4 l)) (hl : l.length ≤ 999999) (hp : p ≤ l.length) (hlt : Hid (∀ (h : Nat) (r : List Int), l[h]? = some r → (r.headD 0 < id ↔ h < p))) (hF : Hid (false = match l[p]? with | some r => decide (r.headD 0 = id) | none => false)) :
    Calls Tryz.prog 148 #[v, .agg #[.int .i64 x0, .int .i64 x1, .int .i64 x2, .int .i64 x3], .int .i64 id, .func (.func 132) #[] #[], .bool false] w fun e w' => ∃ v', e = .returned v' ∧ RowOwn w' w.heap.size 82 v' 4 (l.take p ++ [x0, x1, x2, x3] :: l.drop p) ∧ Below w.heap.size w w' := by
  have HB0 : Hid (Below w.heap.size w (w.alloc (.cells #[.int .i64 x0, .int .i64 x1, .int .i64 x2, .int .i64 x3] 82))) := below_alloc (Below.refl _ _) (Nat.le_refl _) _
  have hv1 := zH (hv.out.call HB0.out)
  have qc := zH (CloneHolder_any v l (w.alloc (.cells #[.int .i64 x0, .int .i64 x1, .int .i64 x2, .int .i64 x3] 82)) hv1 (by omega))
  have qs := zH (fun v w hv => SearchHolder_any v l id p false w hv (by omega) (by omega) hlt hF)
  have hx := zH (heap_new w (.cells #[.int .i64 x0, .int .i64 x1, .int .i64 x2, .int .i64 x3] 82))
  have qi := zH (fun B v vb w hv hB hb hne => InsertHolder_any B v l [x0, x1, x2, x3] p vb w hv hB (by omega) hp rfl hb hne)
  go_enter Tryz.func148, Tryz.ntmps148
  go_wp2_with fail
  with_reducible refine qc.out.mono ?_
  rintro e w1 ⟨v1, rfl, hown, hb1⟩
  have hs1 : w.heap.size + 1 ≤ w1.heap.size := by have := hb1.size; simpa using this
  have HO := zH (hown.mono (B' := w.heap.size + 1) (by first | (simp; done) | (simp; omega)))
  have hr1 := zH hown.row.rec'
  have HX1 := zK hx hb1
  have HB1 := zH (HB0.out.trans (hb1.mono (by first | (simp; done) | (simp; omega))))
  clear hown hb1 hx
  go_wp2_with fail
  with_reducible refine (qs.out _ _ hr1).mono ?_
  rintro e w2 ⟨rfl, hb2⟩
  have k2 := blk_call HX1.out hb2
  have c0 := zC k2
  have hs2 := hb2.size
  have HB2 := zH (HB1.out.trans (hb2.mono (by omega)))
  have HO2 := HO.out.kept hb2
  have hne : v1.ownBlock ≠ some w2.heap.size := fun h => Nat.lt_irrefl _ (HO2.1.lt _ h).2
  have hown3 : Hid (RowOwn (w2.alloc (.cells #[.int .i64 x0, .int .i64 x1, .int .i64 x2, .int .i64 x3] 82)) (w.heap.size + 1) 82 v1 4 l) := HO2.kept (below_alloc (Below.refl _ _) (Nat.le_refl _) _)
  have hbase := zH (fun k h => (HO2.1.lt k h).1)
  have hB3 : w.heap.size + 1 ≤ (w2.alloc (.cells #[.int .i64 x0, .int .i64 x1, .int .i64 x2, .int .i64 x3] 82)).heap.size := by simp; omega
  have hb3 : Hid ((w2.alloc (.cells #[.int .i64 x0, .int .i64 x1, .int .i64 x2, .int .i64 x3] 82)).heap[w2.heap.size]? = some (.cells ([x0, x1, x2, x3].map (Value.int .i64)).toArray 82 (0, 0))) := heap_new w2 _
  have HB3 : Hid (Below w.heap.size w (w2.alloc (.cells #[.int .i64 x0, .int .i64 x1, .int .i64 x2, .int .i64 x3] 82))) := below_alloc HB2.out (by omega) _
  clear k2 hb2 HO2
  go_wp2_with fail
  with_reducible refine (qi.out _ _ _ _ hown3 hB3 hb3 hne).mono ?_
  rintro e w4 ⟨v', rfl, hown4, hgr⟩
  have fin := zH (show RowOwn w4 w.heap.size 82 v' 4 (l.take p ++ [x0, x1, x2, x3] :: l.drop p) ∧ Below w.heap.size w w4 from ⟨hown4.mono (by omega), HB3.out.grown hgr (by first | (simp; done) | (simp; omega)) (fun k hk => by have := hbase.out k hk; omega)⟩)
  clear hown4 hgr
  go_wp2_with fail
  go_ret
  exact ⟨v', rfl, fin.out⟩
set_option maxRecDepth 100000 in
set_option maxHeartbeats 2000000 in
theorem putHolder_set (v : Value) (l : List (List Int)) (x0 x1 x2 x3 id : Int) (p : Nat) (w : World) (hv : Hid (RowAt w v 4 l)) (hl : l.length ≤ 999999) (hp : p < l.length) (hlt : Hid (∀ (h : Nat) (r : List Int), l[h]? = some r → (r.headD 0 < id ↔ h < p))) (hF : Hid (true = match l[p]? with | some r => decide (r.headD 0 = id) | none => false)) :
    Calls Tryz.prog 148 #[v, .agg #[.int .i64 x0, .int .i64 x1, .int .i64 x2, .int .i64 x3], .int .i64 id, .func (.func 132) #[] #[], .bool false] w fun e w' => ∃ v', e = .returned v' ∧ RowOwn w' w.heap.size 82 v' 4 (l.take p ++ [x0, x1, x2, x3] :: l.drop (p + 1)) ∧ Below w.heap.size w w' := by
  have HB0 : Hid (Below w.heap.size w (w.alloc (.cells #[.int .i64 x0, .int .i64 x1, .int .i64 x2, .int .i64 x3] 82))) := below_alloc (Below.refl _ _) (Nat.le_refl _) _
  have hv1 := zH (hv.out.call HB0.out)
  have qc := zH (CloneHolder_any v l (w.alloc (.cells #[.int .i64 x0, .int .i64 x1, .int .i64 x2, .int .i64 x3] 82)) hv1 (by omega))
  have qs := zH (fun v w hv => SearchHolder_any v l id p true w hv (by omega) (by omega) hlt hF)
  have hx := zH (heap_new w (.cells #[.int .i64 x0, .int .i64 x1, .int .i64 x2, .int .i64 x3] 82))
  go_enter Tryz.func148, Tryz.ntmps148
  go_wp2_with fail
  with_reducible refine qc.out.mono ?_
  rintro e w1 ⟨v1, rfl, hown, hb1⟩
  have hs1 : w.heap.size + 1 ≤ w1.heap.size := by have := hb1.size; simpa using this
  replace hown := hown.mono (B' := w.heap.size + 1) (by first | (simp; done) | (simp; omega))
  have hr1 := zH hown.row.rec'
  obtain ⟨g, cap, rfl⟩ : ∃ g cap, v1 = .slice (some ⟨g, 0, none⟩) l.length cap := by
    rcases hown.1.2 with ⟨_, h0⟩ | ⟨g, cap, cur, h, _⟩
    · omega
    · exact ⟨g, cap, h⟩
  have HO := zH hown
  have HX1 := zK hx hb1
  have HB1 := zH (HB0.out.trans (hb1.mono (by first | (simp; done) | (simp; omega))))
  have hpl : (p : Int) < (l.length : Int) := by omega
  have hpl' : p < l.length := by omega
  have hy := List.getElem?_eq_getElem hp
  obtain ⟨hyk, b0, o0, hAo, hbl, hyc1⟩ : (l[p]).length = 4 ∧ ∃ b o, some (⟨g, 0, none⟩ : Addr) = some ⟨b, o, none⟩ ∧ b < w1.heap.size ∧ ∀ (j : Nat) (x : Int), (l[p])[j]? = some x → w1.cell? ⟨b, o + p * 4 + j, none⟩ = some (.int .i64 x) := by
    obtain ⟨A, c, h, hi⟩ := hr1.out
    injection h with h1 _ _
    subst h1
    exact hi p _ hy
  injection hAo with hAo
  injection hAo with hA1 hA2
  subst hA1 hA2
  clear hy
  have HYC := zH hyc1
  have HYK := zH hyk
  generalize l[p] = y at HYC HYK
  clear hown hb1 hx hyc1 hyk
  go_wp2_with fail
  with_reducible refine (qs.out _ _ hr1).mono ?_
  rintro e w2 ⟨rfl, hb2⟩
  have k2 := blk_call HX1.out hb2
  have c0 := zC k2
  have hs2 := hb2.size
  have HB2 := zH (HB1.out.trans (hb2.mono (by omega)))
  have HO2 := zH (HO.out.kept hb2)
  have hyk := HYK.out
  have hyc : ∀ (j : Nat) (x : Int), y[j]? = some x → w2.cell? ⟨g, 0 + p * 4 + j, none⟩ = some (.int .i64 x) := fun j x hj => (hb2.cell (p := ⟨g, 0 + p * 4 + j, none⟩) hbl).trans (HYC.out j x hj)
  clear HYC HYK
  obtain ⟨y0, y1, y2, y3, rfl⟩ : ∃ y0 y1 y2 y3, y = [y0, y1, y2, y3] := by
    match y, hyk with
    | [y0, y1, y2, y3], _ => exact ⟨y0, y1, y2, y3, rfl⟩
  have e0 : w2.cell? ⟨g, p * 4, none⟩ = some (.int .i64 y0) := by have := hyc 0 _ rfl; simpa using this
  have e1 : w2.cell? ⟨g, p * 4 + 1, none⟩ = some (.int .i64 y1) := by have := hyc 1 _ rfl; simpa using this
  have e2 : w2.cell? ⟨g, p * 4 + 2, none⟩ = some (.int .i64 y2) := by have := hyc 2 _ rfl; simpa using this
  have e3 : w2.cell? ⟨g, p * 4 + 3, none⟩ = some (.int .i64 y3) := by have := hyc 3 _ rfl; simpa using this
  have fz : ∀ j, w2.frozen? ⟨g, j, none⟩ = false := fun j => by
    rcases HO2.out.1.2 with ⟨h, _⟩ | ⟨g', cap', cur, h, hBg, hg, _⟩
    · cases h
    · injection h with h1 _ h3
      injection h1 with h1
      injection h1 with h1
      subst h1
      exact free_of_blk hg j
  have f0 := fz (p * 4)
  have f1 := fz (p * 4 + 1)
  have f2 := fz (p * 4 + 2)
  have f3 := fz (p * 4 + 3)
  have hBg : w.heap.size ≤ g := by have := (HO2.out.1.lt g rfl).1; omega
  have fin : Hid (RowOwn (w2.setCells g (p * 4) ([x0, x1, x2, x3].map (Value.int .i64))) w.heap.size 82 (.slice (some ⟨g, 0, none⟩) l.length cap) 4 (l.take p ++ [x0, x1, x2, x3] :: l.drop (p + 1)) ∧ Below w.heap.size w (w2.setCells g (p * 4) ([x0, x1, x2, x3].map (Value.int .i64)))) := by
    have := own_set p [x0, x1, x2, x3] HO2.out hp rfl
    exact ⟨this.1.mono (by omega), HB2.out.grown this.2 (by omega) (fun k hk => by injection hk with hk; omega)⟩
  clear k2 hb2 hyc fz hyk
  go_wp2_with fail
  go_ret
  exact ⟨_, rfl, fin.out⟩
set_option maxRecDepth 100000 in
set_option maxHeartbeats 2000000 in
theorem putStake_ins (v : Value) (l : List (List Int)) (x0 x1 x2 kx ky : Int) (p : Nat) (w : World) (hv : Hid (RowAt w v 3 l)) (hl : l.length ≤ 999999) (hp : p ≤ l.length) (hlt : Hid (∀ (h : Nat) (r : List Int), l[h]? = some r → (stLt r kx ky ↔ h < p))) (hF : Hid (false = match l[p]? with | some r => decide (r.headD 0 = kx ∧ r.tail.headD 0 = ky) | none => false)) :
    Calls Tryz.prog 161 #[v, .agg #[.int .i64 x0, .int .i64 x1, .int .i64 x2], .agg #[.int .i64 kx, .int .i64 ky], .func (.func 141) #[] #[], .bool false] w fun e w' => ∃ v', e = .returned v' ∧ RowOwn w' w.heap.size 84 v' 3 (l.take p ++ [x0, x1, x2] :: l.drop p) ∧ Below w.heap.size w w' := by
  have HB0 : Hid (Below w.heap.size w ((w.alloc (.cells #[.int .i64 x0, .int .i64 x1, .int .i64 x2] 84)).alloc (.cells #[.int .i64 kx, .int .i64 ky] 187))) := below_alloc (below_alloc (Below.refl _ _) (Nat.le_refl _) _) (by first | (simp; done) | (simp; omega)) _
  have hv1 := zH (hv.out.call HB0.out)
  have qc := zH (CloneStake_any v l ((w.alloc (.cells #[.int .i64 x0, .int .i64 x1, .int .i64 x2] 84)).alloc (.cells #[.int .i64 kx, .int .i64 ky] 187)) hv1 (by omega))
  have qs := zH (fun v w hv => SearchStake_any v l kx ky p false w hv (by omega) (by omega) hlt hF)
  have hx := zH (blk_old (heap_new w (.cells #[.int .i64 x0, .int .i64 x1, .int .i64 x2] 84)) (.cells #[.int .i64 kx, .int .i64 ky] 187))
  have qi := zH (fun B v vb w hv hB hb hne => InsertStake_any B v l [x0, x1, x2] p vb w hv hB (by omega) hp rfl hb hne)
  go_enter Tryz.func161, Tryz.ntmps161
  go_wp2_with fail
  with_reducible refine qc.out.mono ?_
  rintro e w1 ⟨v1, rfl, hown, hb1⟩
  have hs1 : w.heap.size + 2 ≤ w1.heap.size := by have := hb1.size; simpa using this
  have HO := zH (hown.mono (B' := w.heap.size + 2) (by first | (simp; done) | (simp; omega)))
  have hr1 := zH hown.row.rec'
  have HX1 := zK hx hb1
  have kk1 := blk_call (heap_new (w.alloc (.cells #[.int .i64 x0, .int .i64 x1, .int .i64 x2] 84)) (.cells #[.int .i64 kx, .int .i64 ky] 187)) hb1
  have d0 : w1.cell? ⟨w.heap.size + 1, 0, none⟩ = some (.int .i64 kx) := by have := cells_of_blk kk1 0 _ rfl; simpa using this
  have d1 : w1.cell? ⟨w.heap.size + 1, 1, none⟩ = some (.int .i64 ky) := by have := cells_of_blk kk1 1 _ rfl; simpa using this
  clear kk1
  have HB1 := zH (HB0.out.trans (hb1.mono (by first | (simp; done) | (simp; omega))))
  clear hown hb1 hx
  go_wp2_with fail
  with_reducible refine (qs.out _ _ hr1).mono ?_
  rintro e w2 ⟨rfl, hb2⟩
  have k2 := blk_call HX1.out hb2
  have c0 := zC k2
  have hs2 := hb2.size
  have HB2 := zH (HB1.out.trans (hb2.mono (by omega)))
  have HO2 := HO.out.kept hb2
  have hne : v1.ownBlock ≠ some w2.heap.size := fun h => Nat.lt_irrefl _ (HO2.1.lt _ h).2
  have hown3 : Hid (RowOwn (w2.alloc (.cells #[.int .i64 x0, .int .i64 x1, .int .i64 x2] 84)) (w.heap.size + 2) 84 v1 3 l) := HO2.kept (below_alloc (Below.refl _ _) (Nat.le_refl _) _)
  have hbase := zH (fun k h => (HO2.1.lt k h).1)
  have hB3 : w.heap.size + 2 ≤ (w2.alloc (.cells #[.int .i64 x0, .int .i64 x1, .int .i64 x2] 84)).heap.size := by simp; omega
  have hb3 : Hid ((w2.alloc (.cells #[.int .i64 x0, .int .i64 x1, .int .i64 x2] 84)).heap[w2.heap.size]? = some (.cells ([x0, x1, x2].map (Value.int .i64)).toArray 84 (0, 0))) := heap_new w2 _
  have HB3 : Hid (Below w.heap.size w (w2.alloc (.cells #[.int .i64 x0, .int .i64 x1, .int .i64 x2] 84))) := below_alloc HB2.out (by omega) _
  clear k2 hb2 HO2
  go_wp2_with fail
  with_reducible refine (qi.out _ _ _ _ hown3 hB3 hb3 hne).mono ?_
  rintro e w4 ⟨v', rfl, hown4, hgr⟩
  have fin := zH (show RowOwn w4 w.heap.size 84 v' 3 (l.take p ++ [x0, x1, x2] :: l.drop p) ∧ Below w.heap.size w w4 from ⟨hown4.mono (by omega), HB3.out.grown hgr (by first | (simp; done) | (simp; omega)) (fun k hk => by have := hbase.out k hk; omega)⟩)
  clear hown4 hgr
  go_wp2_with fail
  go_ret
  exact ⟨v', rfl, fin.out⟩
set_option maxRecDepth 100000 in
set_option maxHeartbeats 2000000 in
theorem putStake_set (v : Value) (l : List (List Int)) (x0 x1 x2 kx ky : Int) (p : Nat) (w : World) (hv : Hid (RowAt w v 3 l)) (hl : l.length ≤ 999999) (hp : p < l.length) (hlt : Hid (∀ (h : Nat) (r : List Int), l[h]? = some r → (stLt r kx ky ↔ h < p))) (hF : Hid (true = match l[p]? with | some r => decide (r.headD 0 = kx ∧ r.tail.headD 0 = ky) | none => false)) :
    Calls Tryz.prog 161 #[v, .agg #[.int .i64 x0, .int .i64 x1, .int .i64 x2], .agg #[.int .i64 kx, .int .i64 ky], .func (.func 141) #[] #[], .bool false] w fun e w' => ∃ v', e = .returned v' ∧ RowOwn w' w.heap.size 84 v' 3 (l.take p ++ [x0, x1, x2] :: l.drop (p + 1)) ∧ Below w.heap.size w w' := by
  have HB0 : Hid (Below w.heap.size w ((w.alloc (.cells #[.int .i64 x0, .int .i64 x1, .int .i64 x2] 84)).alloc (.cells #[.int .i64 kx, .int .i64 ky] 187))) := below_alloc (below_alloc (Below.refl _ _) (Nat.le_refl _) _) (by first | (simp; done) | (simp; omega)) _
  have hv1 := zH (hv.out.call HB0.out)
  have qc := zH (CloneStake_any v l ((w.alloc (.cells #[.int .i64 x0, .int .i64 x1, .int .i64 x2] 84)).alloc (.cells #[.int .i64 kx, .int .i64 ky] 187)) hv1 (by omega))
  have qs := zH (fun v w hv => SearchStake_any v l kx ky p true w hv (by omega) (by omega) hlt hF)
  have hx := zH (blk_old (heap_new w (.cells #[.int .i64 x0, .int .i64 x1, .int .i64 x2] 84)) (.cells #[.int .i64 kx, .int .i64 ky] 187))
  go_enter Tryz.func161, Tryz.ntmps161
  go_wp2_with fail
  with_reducible refine qc.out.mono ?_
  rintro e w1 ⟨v1, rfl, hown, hb1⟩
  have hs1 : w.heap.size + 2 ≤ w1.heap.size := by have := hb1.size; simpa using this
  replace hown := hown.mono (B' := w.heap.size + 2) (by first | (simp; done) | (simp; omega))
  have hr1 := zH hown.row.rec'
  obtain ⟨g, cap, rfl⟩ : ∃ g cap, v1 = .slice (some ⟨g, 0, none⟩) l.length cap := by
    rcases hown.1.2 with ⟨_, h0⟩ | ⟨g, cap, cur, h, _⟩
    · omega
    · exact ⟨g, cap, h⟩
  have HO := zH hown
  have HX1 := zK hx hb1
  have kk1 := blk_call (heap_new (w.alloc (.cells #[.int .i64 x0, .int .i64 x1, .int .i64 x2] 84)) (.cells #[.int .i64 kx, .int .i64 ky] 187)) hb1
  have d0 : w1.cell? ⟨w.heap.size + 1, 0, none⟩ = some (.int .i64 kx) := by have := cells_of_blk kk1 0 _ rfl; simpa using this
  have d1 : w1.cell? ⟨w.heap.size + 1, 1, none⟩ = some (.int .i64 ky) := by have := cells_of_blk kk1 1 _ rfl; simpa using this
  clear kk1
  have HB1 := zH (HB0.out.trans (hb1.mono (by first | (simp; done) | (simp; omega))))
  have hpl : (p : Int) < (l.length : Int) := by omega
  have hpl' : p < l.length := by omega
  have hy := List.getElem?_eq_getElem hp
  obtain ⟨hyk, b0, o0, hAo, hbl, hyc1⟩ : (l[p]).length = 3 ∧ ∃ b o, some (⟨g, 0, none⟩ : Addr) = some ⟨b, o, none⟩ ∧ b < w1.heap.size ∧ ∀ (j : Nat) (x : Int), (l[p])[j]? = some x → w1.cell? ⟨b, o + p * 3 + j, none⟩ = some (.int .i64 x) := by
    obtain ⟨A, c, h, hi⟩ := hr1.out
    injection h with h1 _ _
    subst h1
    exact hi p _ hy
  injection hAo with hAo
  injection hAo with hA1 hA2
  subst hA1 hA2
  clear hy
  have HYC := zH hyc1
  have HYK := zH hyk
  generalize l[p] = y at HYC HYK
  clear hown hb1 hx hyc1 hyk
  go_wp2_with fail
  with_reducible refine (qs.out _ _ hr1).mono ?_
  rintro e w2 ⟨rfl, hb2⟩
  have k2 := blk_call HX1.out hb2
  have c0 := zC k2
  have hs2 := hb2.size
  have HB2 := zH (HB1.out.trans (hb2.mono (by omega)))
  have HO2 := zH (HO.out.kept hb2)
  have hyk := HYK.out
  have hyc : ∀ (j : Nat) (x : Int), y[j]? = some x → w2.cell? ⟨g, 0 + p * 3 + j, none⟩ = some (.int .i64 x) := fun j x hj => (hb2.cell (p := ⟨g, 0 + p * 3 + j, none⟩) hbl).trans (HYC.out j x hj)
  clear HYC HYK
  obtain ⟨y0, y1, y2, rfl⟩ : ∃ y0 y1 y2, y = [y0, y1, y2] := by
    match y, hyk with
    | [y0, y1, y2], _ => exact ⟨y0, y1, y2, rfl⟩
  have e0 : w2.cell? ⟨g, p * 3, none⟩ = some (.int .i64 y0) := by have := hyc 0 _ rfl; simpa using this
  have e1 : w2.cell? ⟨g, p * 3 + 1, none⟩ = some (.int .i64 y1) := by have := hyc 1 _ rfl; simpa using this
  have e2 : w2.cell? ⟨g, p * 3 + 2, none⟩ = some (.int .i64 y2) := by have := hyc 2 _ rfl; simpa using this
  have fz : ∀ j, w2.frozen? ⟨g, j, none⟩ = false := fun j => by
    rcases HO2.out.1.2 with ⟨h, _⟩ | ⟨g', cap', cur, h, hBg, hg, _⟩
    · cases h
    · injection h with h1 _ h3
      injection h1 with h1
      injection h1 with h1
      subst h1
      exact free_of_blk hg j
  have f0 := fz (p * 3)
  have f1 := fz (p * 3 + 1)
  have f2 := fz (p * 3 + 2)
  have hBg : w.heap.size ≤ g := by have := (HO2.out.1.lt g rfl).1; omega
  have fin : Hid (RowOwn (w2.setCells g (p * 3) ([x0, x1, x2].map (Value.int .i64))) w.heap.size 84 (.slice (some ⟨g, 0, none⟩) l.length cap) 3 (l.take p ++ [x0, x1, x2] :: l.drop (p + 1)) ∧ Below w.heap.size w (w2.setCells g (p * 3) ([x0, x1, x2].map (Value.int .i64)))) := by
    have := own_set p [x0, x1, x2] HO2.out hp rfl
    exact ⟨this.1.mono (by omega), HB2.out.grown this.2 (by omega) (fun k hk => by injection hk with hk; omega)⟩
  clear k2 hb2 hyc fz hyk
  go_wp2_with fail
  go_ret
  exact ⟨_, rfl, fin.out⟩
set_option maxRecDepth 100000 in
set_option maxHeartbeats 2000000 in
theorem putStake_del (v : Value) (l : List (List Int)) (x0 x1 x2 kx ky : Int) (p : Nat) (w : World) (hv : Hid (RowAt w v 3 l)) (hl : l.length ≤ 999999) (hp : p < l.length) (hlt : Hid (∀ (h : Nat) (r : List Int), l[h]? = some r → (stLt r kx ky ↔ h < p))) (hF : Hid (true = match l[p]? with | some r => decide (r.headD 0 = kx ∧ r.tail.headD 0 = ky) | none => false)) :
    Calls Tryz.prog 161 #[v, .agg #[.int .i64 x0, .int .i64 x1, .int .i64 x2], .agg #[.int .i64 kx, .int .i64 ky], .func (.func 141) #[] #[], .bool true] w fun e w' => ∃ v', e = .returned v' ∧ RowOwn w' w.heap.size 84 v' 3 (l.take p ++ l.drop (p + 1)) ∧ Below w.heap.size w w' := by
  have HB0 : Hid (Below w.heap.size w ((w.alloc (.cells #[.int .i64 x0, .int .i64 x1, .int .i64 x2] 84)).alloc (.cells #[.int .i64 kx, .int .i64 ky] 187))) := below_alloc (below_alloc (Below.refl _ _) (Nat.le_refl _) _) (by first | (simp; done) | (simp; omega)) _
  have hv1 := zH (hv.out.call HB0.out)
  have qc := zH (CloneStake_any v l ((w.alloc (.cells #[.int .i64 x0, .int .i64 x1, .int .i64 x2] 84)).alloc (.cells #[.int .i64 kx, .int .i64 ky] 187)) hv1 (by omega))
  have qs := zH (fun v w hv => SearchStake_any v l kx ky p true w hv (by omega) (by omega) hlt hF)
  have hx := zH (blk_old (heap_new w (.cells #[.int .i64 x0, .int .i64 x1, .int .i64 x2] 84)) (.cells #[.int .i64 kx, .int .i64 ky] 187))
  have qi := zH (fun B v w hv => DeleteStake_any B v l p w hv (by omega) hp)
  go_enter Tryz.func161, Tryz.ntmps161
  go_wp2_with fail
  with_reducible refine qc.out.mono ?_
  rintro e w1 ⟨v1, rfl, hown, hb1⟩
  have hs1 : w.heap.size + 2 ≤ w1.heap.size := by have := hb1.size; simpa using this
  have HO := zH (hown.mono (B' := w.heap.size + 2) (by first | (simp; done) | (simp; omega)))
  have hr1 := zH hown.row.rec'
  have HX1 := zK hx hb1
  have kk1 := blk_call (heap_new (w.alloc (.cells #[.int .i64 x0, .int .i64 x1, .int .i64 x2] 84)) (.cells #[.int .i64 kx, .int .i64 ky] 187)) hb1
  have d0 : w1.cell? ⟨w.heap.size + 1, 0, none⟩ = some (.int .i64 kx) := by have := cells_of_blk kk1 0 _ rfl; simpa using this
  have d1 : w1.cell? ⟨w.heap.size + 1, 1, none⟩ = some (.int .i64 ky) := by have := cells_of_blk kk1 1 _ rfl; simpa using this
  clear kk1
  have HB1 := zH (HB0.out.trans (hb1.mono (by first | (simp; done) | (simp; omega))))
  have hw1 : IntKind.i64.wrap ((p : Int) + 1) = (p : Int) + 1 := by rw [IntKind.wrap_i64]; omega
  clear hown hb1 hx
  go_wp2_with fail
  with_reducible refine (qs.out _ _ hr1).mono ?_
  rintro e w2 ⟨rfl, hb2⟩
  have hs2 := hb2.size
  have HB2 := zH (HB1.out.trans (hb2.mono (by omega)))
  have HO2 := zH (HO.out.kept hb2)
  have hbase := zH (fun k h => (HO2.out.1.lt k h).1)
  clear hb2
  go_wp2_with fail
  with_reducible refine (qi.out _ _ _ HO2).mono ?_
  rintro e w4 ⟨v', rfl, hown4, hgr⟩
  have fin := zH (show RowOwn w4 w.heap.size 84 v' 3 (l.take p ++ l.drop (p + 1)) ∧ Below w.heap.size w w4 from ⟨hown4.mono (by omega), HB2.out.grown hgr (by omega) (fun k hk => by have := hbase.out k hk; omega)⟩)
  clear hown4 hgr
  go_wp2_with fail
  go_ret
  exact ⟨v', rfl, fin.out⟩
set_option maxRecDepth 100000 in
set_option maxHeartbeats 2000000 in
theorem putStake_same (v : Value) (l : List (List Int)) (x0 x1 x2 kx ky : Int) (p : Nat) (w : World) (hv : Hid (RowAt w v 3 l)) (hl : l.length ≤ 999999) (hp : p ≤ l.length) (hlt : Hid (∀ (h : Nat) (r : List Int), l[h]? = some r → (stLt r kx ky ↔ h < p))) (hF : Hid (false = match l[p]? with | some r => decide (r.headD 0 = kx ∧ r.tail.headD 0 = ky) | none => false)) :
    Calls Tryz.prog 161 #[v, .agg #[.int .i64 x0, .int .i64 x1, .int .i64 x2], .agg #[.int .i64 kx, .int .i64 ky], .func (.func 141) #[] #[], .bool true] w fun e w' => ∃ v', e = .returned v' ∧ RowOwn w' w.heap.size 84 v' 3 (l) ∧ Below w.heap.size w w' := by
  have HB0 : Hid (Below w.heap.size w ((w.alloc (.cells #[.int .i64 x0, .int .i64 x1, .int .i64 x2] 84)).alloc (.cells #[.int .i64 kx, .int .i64 ky] 187))) := below_alloc (below_alloc (Below.refl _ _) (Nat.le_refl _) _) (by first | (simp; done) | (simp; omega)) _
  have hv1 := zH (hv.out.call HB0.out)
  have qc := zH (CloneStake_any v l ((w.alloc (.cells #[.int .i64 x0, .int .i64 x1, .int .i64 x2] 84)).alloc (.cells #[.int .i64 kx, .int .i64 ky] 187)) hv1 (by omega))
  have qs := zH (fun v w hv => SearchStake_any v l kx ky p false w hv (by omega) (by omega) hlt hF)
  have hx := zH (blk_old (heap_new w (.cells #[.int .i64 x0, .int .i64 x1, .int .i64 x2] 84)) (.cells #[.int .i64 kx, .int .i64 ky] 187))
  go_enter Tryz.func161, Tryz.ntmps161
  go_wp2_with fail
  with_reducible refine qc.out.mono ?_
  rintro e w1 ⟨v1, rfl, hown, hb1⟩
  have hs1 : w.heap.size + 2 ≤ w1.heap.size := by have := hb1.size; simpa using this
  have HO := zH (hown.mono (B' := w.heap.size + 2) (by first | (simp; done) | (simp; omega)))
  have hr1 := zH hown.row.rec'
  have HX1 := zK hx hb1
  have kk1 := blk_call (heap_new (w.alloc (.cells #[.int .i64 x0, .int .i64 x1, .int .i64 x2] 84)) (.cells #[.int .i64 kx, .int .i64 ky] 187)) hb1
  have d0 : w1.cell? ⟨w.heap.size + 1, 0, none⟩ = some (.int .i64 kx) := by have := cells_of_blk kk1 0 _ rfl; simpa using this
  have d1 : w1.cell? ⟨w.heap.size + 1, 1, none⟩ = some (.int .i64 ky) := by have := cells_of_blk kk1 1 _ rfl; simpa using this
  clear kk1
  have HB1 := zH (HB0.out.trans (hb1.mono (by first | (simp; done) | (simp; omega))))
  clear hown hb1 hx
  go_wp2_with fail
  with_reducible refine (qs.out _ _ hr1).mono ?_
  rintro e w2 ⟨rfl, hb2⟩
  have fin := zH (show RowOwn w2 w.heap.size 84 v1 3 l ∧ Below w.heap.size w w2 from ⟨(HO.out.kept hb2).mono (by omega), HB1.out.trans (hb2.mono (by omega))⟩)
  clear hb2
  go_wp2_with fail
  go_ret
  exact ⟨v1, rfl, fin.out⟩
set_option maxRecDepth 100000 in
set_option maxHeartbeats 2000000 in
theorem putOpen_ins (v : Value) (l : List (List Int)) (x0 x1 x2 x3 x4 x5 id : Int) (p : Nat) (w : World) (hv : Hid (RowAt w v 6 l)) (hl : l.length ≤ 999999) (hp : p ≤ l.length) (hlt : Hid (∀ (h : Nat) (r : List Int), l[h]? = some r → (r.headD 0 < id ↔ h < p))) (hF : Hid (false = match l[p]? with | some r => decide (r.headD 0 = id) | none => false)) :
    Calls Tryz.prog 159 #[v, .agg #[.int .i64 x0, .int .i64 x1, .int .i64 x2, .int .i64 x3, .int .i64 x4, .int .i64 x5], .int .i64 id, .func (.func 135) #[] #[], .bool false] w fun e w' => ∃ v', e = .returned v' ∧ RowOwn w' w.heap.size 86 v' 6 (l.take p ++ [x0, x1, x2, x3, x4, x5] :: l.drop p) ∧ Below w.heap.size w w' := by
  have HB0 : Hid (Below w.heap.size w (w.alloc (.cells #[.int .i64 x0, .int .i64 x1, .int .i64 x2, .int .i64 x3, .int .i64 x4, .int .i64 x5] 86))) := below_alloc (Below.refl _ _) (Nat.le_refl _) _
  have hv1 := zH (hv.out.call HB0.out)
  have qc := zH (CloneOpen_any v l (w.alloc (.cells #[.int .i64 x0, .int .i64 x1, .int .i64 x2, .int .i64 x3, .int .i64 x4, .int .i64 x5] 86)) hv1 (by omega))
  have qs := zH (fun v w hv => SearchOpen_any v l id p false w hv (by omega) (by omega) hlt hF)
  have hx := zH (heap_new w (.cells #[.int .i64 x0, .int .i64 x1, .int .i64 x2, .int .i64 x3, .int .i64 x4, .int .i64 x5] 86))
  have qi := zH (fun B v vb w hv hB hb hne => InsertOpen_any B v l [x0, x1, x2, x3, x4, x5] p vb w hv hB (by omega) hp rfl hb hne)
  go_enter Tryz.func159, Tryz.ntmps159
  go_wp2_with fail
  with_reducible refine qc.out.mono ?_
  rintro e w1 ⟨v1, rfl, hown, hb1⟩
  have hs1 : w.heap.size + 1 ≤ w1.heap.size := by have := hb1.size; simpa using this
  have HO := zH (hown.mono (B' := w.heap.size + 1) (by first | (simp; done) | (simp; omega)))
  have hr1 := zH hown.row.rec'
  have HX1 := zK hx hb1
  have HB1 := zH (HB0.out.trans (hb1.mono (by first | (simp; done) | (simp; omega))))
  clear hown hb1 hx
  go_wp2_with fail
  with_reducible refine (qs.out _ _ hr1).mono ?_
  rintro e w2 ⟨rfl, hb2⟩
  have k2 := blk_call HX1.out hb2
  have c0 := zC k2
  have hs2 := hb2.size
  have HB2 := zH (HB1.out.trans (hb2.mono (by omega)))
  have HO2 := HO.out.kept hb2
  have hne : v1.ownBlock ≠ some w2.heap.size := fun h => Nat.lt_irrefl _ (HO2.1.lt _ h).2
  have hown3 : Hid (RowOwn (w2.alloc (.cells #[.int .i64 x0, .int .i64 x1, .int .i64 x2, .int .i64 x3, .int .i64 x4, .int .i64 x5] 86)) (w.heap.size + 1) 86 v1 6 l) := HO2.kept (below_alloc (Below.refl _ _) (Nat.le_refl _) _)
  have hbase := zH (fun k h => (HO2.1.lt k h).1)
  have hB3 : w.heap.size + 1 ≤ (w2.alloc (.cells #[.int .i64 x0, .int .i64 x1, .int .i64 x2, .int .i64 x3, .int .i64 x4, .int .i64 x5] 86)).heap.size := by simp; omega
  have hb3 : Hid ((w2.alloc (.cells #[.int .i64 x0, .int .i64 x1, .int .i64 x2, .int .i64 x3, .int .i64 x4, .int .i64 x5] 86)).heap[w2.heap.size]? = some (.cells ([x0, x1, x2, x3, x4, x5].map (Value.int .i64)).toArray 86 (0, 0))) := heap_new w2 _
  have HB3 : Hid (Below w.heap.size w (w2.alloc (.cells #[.int .i64 x0, .int .i64 x1, .int .i64 x2, .int .i64 x3, .int .i64 x4, .int .i64 x5] 86))) := below_alloc HB2.out (by omega) _
  clear k2 hb2 HO2
  go_wp2_with fail
  with_reducible refine (qi.out _ _ _ _ hown3 hB3 hb3 hne).mono ?_
  rintro e w4 ⟨v', rfl, hown4, hgr⟩
  have fin := zH (show RowOwn w4 w.heap.size 86 v' 6 (l.take p ++ [x0, x1, x2, x3, x4, x5] :: l.drop p) ∧ Below w.heap.size w w4 from ⟨hown4.mono (by omega), HB3.out.grown hgr (by first | (simp; done) | (simp; omega)) (fun k hk => by have := hbase.out k hk; omega)⟩)
  clear hown4 hgr
  go_wp2_with fail
  go_ret
  exact ⟨v', rfl, fin.out⟩
set_option maxRecDepth 100000 in
set_option maxHeartbeats 2000000 in
theorem putOpen_set (v : Value) (l : List (List Int)) (x0 x1 x2 x3 x4 x5 id : Int) (p : Nat) (w : World) (hv : Hid (RowAt w v 6 l)) (hl : l.length ≤ 999999) (hp : p < l.length) (hlt : Hid (∀ (h : Nat) (r : List Int), l[h]? = some r → (r.headD 0 < id ↔ h < p))) (hF : Hid (true = match l[p]? with | some r => decide (r.headD 0 = id) | none => false)) :
    Calls Tryz.prog 159 #[v, .agg #[.int .i64 x0, .int .i64 x1, .int .i64 x2, .int .i64 x3, .int .i64 x4, .int .i64 x5], .int .i64 id, .func (.func 135) #[] #[], .bool false] w fun e w' => ∃ v', e = .returned v' ∧ RowOwn w' w.heap.size 86 v' 6 (l.take p ++ [x0, x1, x2, x3, x4, x5] :: l.drop (p + 1)) ∧ Below w.heap.size w w' := by
  have HB0 : Hid (Below w.heap.size w (w.alloc (.cells #[.int .i64 x0, .int .i64 x1, .int .i64 x2, .int .i64 x3, .int .i64 x4, .int .i64 x5] 86))) := below_alloc (Below.refl _ _) (Nat.le_refl _) _
  have hv1 := zH (hv.out.call HB0.out)
  have qc := zH (CloneOpen_any v l (w.alloc (.cells #[.int .i64 x0, .int .i64 x1, .int .i64 x2, .int .i64 x3, .int .i64 x4, .int .i64 x5] 86)) hv1 (by omega))
  have qs := zH (fun v w hv => SearchOpen_any v l id p true w hv (by omega) (by omega) hlt hF)
  have hx := zH (heap_new w (.cells #[.int .i64 x0, .int .i64 x1, .int .i64 x2, .int .i64 x3, .int .i64 x4, .int .i64 x5] 86))
  go_enter Tryz.func159, Tryz.ntmps159
  go_wp2_with fail
  with_reducible refine qc.out.mono ?_
  rintro e w1 ⟨v1, rfl, hown, hb1⟩
  have hs1 : w.heap.size + 1 ≤ w1.heap.size := by have := hb1.size; simpa using this
  replace hown := hown.mono (B' := w.heap.size + 1) (by first | (simp; done) | (simp; omega))
  have hr1 := zH hown.row.rec'
  obtain ⟨g, cap, rfl⟩ : ∃ g cap, v1 = .slice (some ⟨g, 0, none⟩) l.length cap := by
    rcases hown.1.2 with ⟨_, h0⟩ | ⟨g, cap, cur, h, _⟩
    · omega
    · exact ⟨g, cap, h⟩
  have HO := zH hown
  have HX1 := zK hx hb1
  have HB1 := zH (HB0.out.trans (hb1.mono (by first | (simp; done) | (simp; omega))))
  have hpl : (p : Int) < (l.length : Int) := by omega
  have hpl' : p < l.length := by omega
  have hy := List.getElem?_eq_getElem hp
  obtain ⟨hyk, b0, o0, hAo, hbl, hyc1⟩ : (l[p]).length = 6 ∧ ∃ b o, some (⟨g, 0, none⟩ : Addr) = some ⟨b, o, none⟩ ∧ b < w1.heap.size ∧ ∀ (j : Nat) (x : Int), (l[p])[j]? = some x → w1.cell? ⟨b, o + p * 6 + j, none⟩ = some (.int .i64 x) := by
    obtain ⟨A, c, h, hi⟩ := hr1.out
    injection h with h1 _ _
    subst h1
    exact hi p _ hy
  injection hAo with hAo
  injection hAo with hA1 hA2
  subst hA1 hA2
  clear hy
  have HYC := zH hyc1
  have HYK := zH hyk
  generalize l[p] = y at HYC HYK
  clear hown hb1 hx hyc1 hyk
  go_wp2_with fail
  with_reducible refine (qs.out _ _ hr1).mono ?_
  rintro e w2 ⟨rfl, hb2⟩
  have k2 := blk_call HX1.out hb2
  have c0 := zC k2
  have hs2 := hb2.size
  have HB2 := zH (HB1.out.trans (hb2.mono (by omega)))
  have HO2 := zH (HO.out.kept hb2)
  have hyk := HYK.out
  have hyc : ∀ (j : Nat) (x : Int), y[j]? = some x → w2.cell? ⟨g, 0 + p * 6 + j, none⟩ = some (.int .i64 x) := fun j x hj => (hb2.cell (p := ⟨g, 0 + p * 6 + j, none⟩) hbl).trans (HYC.out j x hj)
  clear HYC HYK
  obtain ⟨y0, y1, y2, y3, y4, y5, rfl⟩ : ∃ y0 y1 y2 y3 y4 y5, y = [y0, y1, y2, y3, y4, y5] := by
    match y, hyk with
    | [y0, y1, y2, y3, y4, y5], _ => exact ⟨y0, y1, y2, y3, y4, y5, rfl⟩
  have e0 : w2.cell? ⟨g, p * 6, none⟩ = some (.int .i64 y0) := by have := hyc 0 _ rfl; simpa using this
  have e1 : w2.cell? ⟨g, p * 6 + 1, none⟩ = some (.int .i64 y1) := by have := hyc 1 _ rfl; simpa using this
  have e2 : w2.cell? ⟨g, p * 6 + 2, none⟩ = some (.int .i64 y2) := by have := hyc 2 _ rfl; simpa using this
  have e3 : w2.cell? ⟨g, p * 6 + 3, none⟩ = some (.int .i64 y3) := by have := hyc 3 _ rfl; simpa using this
  have e4 : w2.cell? ⟨g, p * 6 + 4, none⟩ = some (.int .i64 y4) := by have := hyc 4 _ rfl; simpa using this
  have e5 : w2.cell? ⟨g, p * 6 + 5, none⟩ = some (.int .i64 y5) := by have := hyc 5 _ rfl; simpa using this
  have fz : ∀ j, w2.frozen? ⟨g, j, none⟩ = false := fun j => by
    rcases HO2.out.1.2 with ⟨h, _⟩ | ⟨g', cap', cur, h, hBg, hg, _⟩
    · cases h
    · injection h with h1 _ h3
      injection h1 with h1
      injection h1 with h1
      subst h1
      exact free_of_blk hg j
  have f0 := fz (p * 6)
  have f1 := fz (p * 6 + 1)
  have f2 := fz (p * 6 + 2)
  have f3 := fz (p * 6 + 3)
  have f4 := fz (p * 6 + 4)
  have f5 := fz (p * 6 + 5)
  have hBg : w.heap.size ≤ g := by have := (HO2.out.1.lt g rfl).1; omega
  have fin : Hid (RowOwn (w2.setCells g (p * 6) ([x0, x1, x2, x3, x4, x5].map (Value.int .i64))) w.heap.size 86 (.slice (some ⟨g, 0, none⟩) l.length cap) 6 (l.take p ++ [x0, x1, x2, x3, x4, x5] :: l.drop (p + 1)) ∧ Below w.heap.size w (w2.setCells g (p * 6) ([x0, x1, x2, x3, x4, x5].map (Value.int .i64)))) := by
    have := own_set p [x0, x1, x2, x3, x4, x5] HO2.out hp rfl
    exact ⟨this.1.mono (by omega), HB2.out.grown this.2 (by omega) (fun k hk => by injection hk with hk; omega)⟩
  clear k2 hb2 hyc fz hyk
  go_wp2_with fail
  go_ret
  exact ⟨_, rfl, fin.out⟩
set_option maxRecDepth 100000 in
set_option maxHeartbeats 2000000 in
theorem putOpen_del (v : Value) (l : List (List Int)) (x0 x1 x2 x3 x4 x5 id : Int) (p : Nat) (w : World) (hv : Hid (RowAt w v 6 l)) (hl : l.length ≤ 999999) (hp : p < l.length) (hlt : Hid (∀ (h : Nat) (r : List Int), l[h]? = some r → (r.headD 0 < id ↔ h < p))) (hF : Hid (true = match l[p]? with | some r => decide (r.headD 0 = id) | none => false)) :
    Calls Tryz.prog 159 #[v, .agg #[.int .i64 x0, .int .i64 x1, .int .i64 x2, .int .i64 x3, .int .i64 x4, .int .i64 x5], .int .i64 id, .func (.func 135) #[] #[], .bool true] w fun e w' => ∃ v', e = .returned v' ∧ RowOwn w' w.heap.size 86 v' 6 (l.take p ++ l.drop (p + 1)) ∧ Below w.heap.size w w' := by
  have HB0 : Hid (Below w.heap.size w (w.alloc (.cells #[.int .i64 x0, .int .i64 x1, .int .i64 x2, .int .i64 x3, .int .i64 x4, .int .i64 x5] 86))) := below_alloc (Below.refl _ _) (Nat.le_refl _) _
  have hv1 := zH (hv.out.call HB0.out)
  have qc := zH (CloneOpen_any v l (w.alloc (.cells #[.int .i64 x0, .int .i64 x1, .int .i64 x2, .int .i64 x3, .int .i64 x4, .int .i64 x5] 86)) hv1 (by omega))
  have qs := zH (fun v w hv => SearchOpen_any v l id p true w hv (by omega) (by omega) hlt hF)
  have hx := zH (heap_new w (.cells #[.int .i64 x0, .int .i64 x1, .int .i64 x2, .int .i64 x3, .int .i64 x4, .int .i64 x5] 86))
  have qi := zH (fun B v w hv => DeleteOpen_any B v l p w hv (by omega) hp)
  go_enter Tryz.func159, Tryz.ntmps159
  go_wp2_with fail
  with_reducible refine qc.out.mono ?_
  rintro e w1 ⟨v1, rfl, hown, hb1⟩
  have hs1 : w.heap.size + 1 ≤ w1.heap.size := by have := hb1.size; simpa using this
  have HO := zH (hown.mono (B' := w.heap.size + 1) (by first | (simp; done) | (simp; omega)))
  have hr1 := zH hown.row.rec'
  have HX1 := zK hx hb1
  have HB1 := zH (HB0.out.trans (hb1.mono (by first | (simp; done) | (simp; omega))))
  have hw1 : IntKind.i64.wrap ((p : Int) + 1) = (p : Int) + 1 := by rw [IntKind.wrap_i64]; omega
  clear hown hb1 hx
  go_wp2_with fail
  with_reducible refine (qs.out _ _ hr1).mono ?_
  rintro e w2 ⟨rfl, hb2⟩
  have hs2 := hb2.size
  have HB2 := zH (HB1.out.trans (hb2.mono (by omega)))
  have HO2 := zH (HO.out.kept hb2)
  have hbase := zH (fun k h => (HO2.out.1.lt k h).1)
  clear hb2
  go_wp2_with fail
  with_reducible refine (qi.out _ _ _ HO2).mono ?_
  rintro e w4 ⟨v', rfl, hown4, hgr⟩
  have fin := zH (show RowOwn w4 w.heap.size 86 v' 6 (l.take p ++ l.drop (p + 1)) ∧ Below w.heap.size w w4 from ⟨hown4.mono (by omega), HB2.out.grown hgr (by omega) (fun k hk => by have := hbase.out k hk; omega)⟩)
  clear hown4 hgr
  go_wp2_with fail
  go_ret
  exact ⟨v', rfl, fin.out⟩
set_option maxRecDepth 100000 in
set_option maxHeartbeats 2000000 in
theorem putOpen_same (v : Value) (l : List (List Int)) (x0 x1 x2 x3 x4 x5 id : Int) (p : Nat) (w : World) (hv : Hid (RowAt w v 6 l)) (hl : l.length ≤ 999999) (hp : p ≤ l.length) (hlt : Hid (∀ (h : Nat) (r : List Int), l[h]? = some r → (r.headD 0 < id ↔ h < p))) (hF : Hid (false = match l[p]? with | some r => decide (r.headD 0 = id) | none => false)) :
    Calls Tryz.prog 159 #[v, .agg #[.int .i64 x0, .int .i64 x1, .int .i64 x2, .int .i64 x3, .int .i64 x4, .int .i64 x5], .int .i64 id, .func (.func 135) #[] #[], .bool true] w fun e w' => ∃ v', e = .returned v' ∧ RowOwn w' w.heap.size 86 v' 6 (l) ∧ Below w.heap.size w w' := by
  have HB0 : Hid (Below w.heap.size w (w.alloc (.cells #[.int .i64 x0, .int .i64 x1, .int .i64 x2, .int .i64 x3, .int .i64 x4, .int .i64 x5] 86))) := below_alloc (Below.refl _ _) (Nat.le_refl _) _
  have hv1 := zH (hv.out.call HB0.out)
  have qc := zH (CloneOpen_any v l (w.alloc (.cells #[.int .i64 x0, .int .i64 x1, .int .i64 x2, .int .i64 x3, .int .i64 x4, .int .i64 x5] 86)) hv1 (by omega))
  have qs := zH (fun v w hv => SearchOpen_any v l id p false w hv (by omega) (by omega) hlt hF)
  have hx := zH (heap_new w (.cells #[.int .i64 x0, .int .i64 x1, .int .i64 x2, .int .i64 x3, .int .i64 x4, .int .i64 x5] 86))
  go_enter Tryz.func159, Tryz.ntmps159
  go_wp2_with fail
  with_reducible refine qc.out.mono ?_
  rintro e w1 ⟨v1, rfl, hown, hb1⟩
  have hs1 : w.heap.size + 1 ≤ w1.heap.size := by have := hb1.size; simpa using this
  have HO := zH (hown.mono (B' := w.heap.size + 1) (by first | (simp; done) | (simp; omega)))
  have hr1 := zH hown.row.rec'
  have HX1 := zK hx hb1
  have HB1 := zH (HB0.out.trans (hb1.mono (by first | (simp; done) | (simp; omega))))
  clear hown hb1 hx
  go_wp2_with fail
  with_reducible refine (qs.out _ _ hr1).mono ?_
  rintro e w2 ⟨rfl, hb2⟩
  have fin := zH (show RowOwn w2 w.heap.size 86 v1 6 l ∧ Below w.heap.size w w2 from ⟨(HO.out.kept hb2).mono (by omega), HB1.out.trans (hb2.mono (by omega))⟩)
  clear hb2
  go_wp2_with fail
  go_ret
  exact ⟨v1, rfl, fin.out⟩
set_option maxRecDepth 100000 in
set_option maxHeartbeats 2000000 in
theorem putRate_ins (v : Value) (l : List (List Int)) (x0 x1 id : Int) (p : Nat) (w : World) (hv : Hid (RowAt w v 2 l)) (hl : l.length ≤ 999999) (hp : p ≤ l.length) (hlt : Hid (∀ (h : Nat) (r : List Int), l[h]? = some r → (r.headD 0 < id ↔ h < p))) (hF : Hid (false = match l[p]? with | some r => decide (r.headD 0 = id) | none => false)) :
    Calls Tryz.prog 149 #[v, .agg #[.int .i64 x0, .int .i64 x1], .int .i64 id, .func (.func 138) #[] #[], .bool false] w fun e w' => ∃ v', e = .returned v' ∧ RowOwn w' w.heap.size 88 v' 2 (l.take p ++ [x0, x1] :: l.drop p) ∧ Below w.heap.size w w' := by
  have HB0 : Hid (Below w.heap.size w (w.alloc (.cells #[.int .i64 x0, .int .i64 x1] 88))) := below_alloc (Below.refl _ _) (Nat.le_refl _) _
  have hv1 := zH (hv.out.call HB0.out)
  have qc := zH (CloneRate_any v l (w.alloc (.cells #[.int .i64 x0, .int .i64 x1] 88)) hv1 (by omega))
  have qs := zH (fun v w hv => SearchRate_any v l id p false w hv (by omega) (by omega) hlt hF)
  have hx := zH (heap_new w (.cells #[.int .i64 x0, .int .i64 x1] 88))
  have qi := zH (fun B v vb w hv hB hb hne => InsertRate_any B v l [x0, x1] p vb w hv hB (by omega) hp rfl hb hne)
  go_enter Tryz.func149, Tryz.ntmps149
  go_wp2_with fail
  with_reducible refine qc.out.mono ?_
  rintro e w1 ⟨v1, rfl, hown, hb1⟩
  have hs1 : w.heap.size + 1 ≤ w1.heap.size := by have := hb1.size; simpa using this
  have HO := zH (hown.mono (B' := w.heap.size + 1) (by first | (simp; done) | (simp; omega)))
  have hr1 := zH hown.row.rec'
  have HX1 := zK hx hb1
  have HB1 := zH (HB0.out.trans (hb1.mono (by first | (simp; done) | (simp; omega))))
  clear hown hb1 hx
  go_wp2_with fail
  with_reducible refine (qs.out _ _ hr1).mono ?_
  rintro e w2 ⟨rfl, hb2⟩
  have k2 := blk_call HX1.out hb2
  have c0 := zC k2
  have hs2 := hb2.size
  have HB2 := zH (HB1.out.trans (hb2.mono (by omega)))
  have HO2 := HO.out.kept hb2
  have hne : v1.ownBlock ≠ some w2.heap.size := fun h => Nat.lt_irrefl _ (HO2.1.lt _ h).2
  have hown3 : Hid (RowOwn (w2.alloc (.cells #[.int .i64 x0, .int .i64 x1] 88)) (w.heap.size + 1) 88 v1 2 l) := HO2.kept (below_alloc (Below.refl _ _) (Nat.le_refl _) _)
  have hbase := zH (fun k h => (HO2.1.lt k h).1)
  have hB3 : w.heap.size + 1 ≤ (w2.alloc (.cells #[.int .i64 x0, .int .i64 x1] 88)).heap.size := by simp; omega
  have hb3 : Hid ((w2.alloc (.cells #[.int .i64 x0, .int .i64 x1] 88)).heap[w2.heap.size]? = some (.cells ([x0, x1].map (Value.int .i64)).toArray 88 (0, 0))) := heap_new w2 _
  have HB3 : Hid (Below w.heap.size w (w2.alloc (.cells #[.int .i64 x0, .int .i64 x1] 88))) := below_alloc HB2.out (by omega) _
  clear k2 hb2 HO2
  go_wp2_with fail
  with_reducible refine (qi.out _ _ _ _ hown3 hB3 hb3 hne).mono ?_
  rintro e w4 ⟨v', rfl, hown4, hgr⟩
  have fin := zH (show RowOwn w4 w.heap.size 88 v' 2 (l.take p ++ [x0, x1] :: l.drop p) ∧ Below w.heap.size w w4 from ⟨hown4.mono (by omega), HB3.out.grown hgr (by first | (simp; done) | (simp; omega)) (fun k hk => by have := hbase.out k hk; omega)⟩)
  clear hown4 hgr
  go_wp2_with fail
  go_ret
  exact ⟨v', rfl, fin.out⟩
set_option maxRecDepth 100000 in
set_option maxHeartbeats 2000000 in
theorem putRate_set (v : Value) (l : List (List Int)) (x0 x1 id : Int) (p : Nat) (w : World) (hv : Hid (RowAt w v 2 l)) (hl : l.length ≤ 999999) (hp : p < l.length) (hlt : Hid (∀ (h : Nat) (r : List Int), l[h]? = some r → (r.headD 0 < id ↔ h < p))) (hF : Hid (true = match l[p]? with | some r => decide (r.headD 0 = id) | none => false)) :
    Calls Tryz.prog 149 #[v, .agg #[.int .i64 x0, .int .i64 x1], .int .i64 id, .func (.func 138) #[] #[], .bool false] w fun e w' => ∃ v', e = .returned v' ∧ RowOwn w' w.heap.size 88 v' 2 (l.take p ++ [x0, x1] :: l.drop (p + 1)) ∧ Below w.heap.size w w' := by
  have HB0 : Hid (Below w.heap.size w (w.alloc (.cells #[.int .i64 x0, .int .i64 x1] 88))) := below_alloc (Below.refl _ _) (Nat.le_refl _) _
  have hv1 := zH (hv.out.call HB0.out)
  have qc := zH (CloneRate_any v l (w.alloc (.cells #[.int .i64 x0, .int .i64 x1] 88)) hv1 (by omega))
  have qs := zH (fun v w hv => SearchRate_any v l id p true w hv (by omega) (by omega) hlt hF)
  have hx := zH (heap_new w (.cells #[.int .i64 x0, .int .i64 x1] 88))
  go_enter Tryz.func149, Tryz.ntmps149
  go_wp2_with fail
  with_reducible refine qc.out.mono ?_
  rintro e w1 ⟨v1, rfl, hown, hb1⟩
  have hs1 : w.heap.size + 1 ≤ w1.heap.size := by have := hb1.size; simpa using this
  replace hown := hown.mono (B' := w.heap.size + 1) (by first | (simp; done) | (simp; omega))
  have hr1 := zH hown.row.rec'
  obtain ⟨g, cap, rfl⟩ : ∃ g cap, v1 = .slice (some ⟨g, 0, none⟩) l.length cap := by
    rcases hown.1.2 with ⟨_, h0⟩ | ⟨g, cap, cur, h, _⟩
    · omega
    · exact ⟨g, cap, h⟩
  have HO := zH hown
  have HX1 := zK hx hb1
  have HB1 := zH (HB0.out.trans (hb1.mono (by first | (simp; done) | (simp; omega))))
  have hpl : (p : Int) < (l.length : Int) := by omega
  have hpl' : p < l.length := by omega
  have hy := List.getElem?_eq_getElem hp
  obtain ⟨hyk, b0, o0, hAo, hbl, hyc1⟩ : (l[p]).length = 2 ∧ ∃ b o, some (⟨g, 0, none⟩ : Addr) = some ⟨b, o, none⟩ ∧ b < w1.heap.size ∧ ∀ (j : Nat) (x : Int), (l[p])[j]? = some x → w1.cell? ⟨b, o + p * 2 + j, none⟩ = some (.int .i64 x) := by
    obtain ⟨A, c, h, hi⟩ := hr1.out
    injection h with h1 _ _
    subst h1
    exact hi p _ hy
  injection hAo with hAo
  injection hAo with hA1 hA2
  subst hA1 hA2
  clear hy
  have HYC := zH hyc1
  have HYK := zH hyk
  generalize l[p] = y at HYC HYK
  clear hown hb1 hx hyc1 hyk
  go_wp2_with fail
  with_reducible refine (qs.out _ _ hr1).mono ?_
  rintro e w2 ⟨rfl, hb2⟩
  have k2 := blk_call HX1.out hb2
  have c0 := zC k2
  have hs2 := hb2.size
  have HB2 := zH (HB1.out.trans (hb2.mono (by omega)))
  have HO2 := zH (HO.out.kept hb2)
  have hyk := HYK.out
  have hyc : ∀ (j : Nat) (x : Int), y[j]? = some x → w2.cell? ⟨g, 0 + p * 2 + j, none⟩ = some (.int .i64 x) := fun j x hj => (hb2.cell (p := ⟨g, 0 + p * 2 + j, none⟩) hbl).trans (HYC.out j x hj)
  clear HYC HYK
  obtain ⟨y0, y1, rfl⟩ : ∃ y0 y1, y = [y0, y1] := by
    match y, hyk with
    | [y0, y1], _ => exact ⟨y0, y1, rfl⟩
  have e0 : w2.cell? ⟨g, p * 2, none⟩ = some (.int .i64 y0) := by have := hyc 0 _ rfl; simpa using this
  have e1 : w2.cell? ⟨g, p * 2 + 1, none⟩ = some (.int .i64 y1) := by have := hyc 1 _ rfl; simpa using this
  have fz : ∀ j, w2.frozen? ⟨g, j, none⟩ = false := fun j => by
    rcases HO2.out.1.2 with ⟨h, _⟩ | ⟨g', cap', cur, h, hBg, hg, _⟩
    · cases h
    · injection h with h1 _ h3
      injection h1 with h1
      injection h1 with h1
      subst h1
      exact free_of_blk hg j
  have f0 := fz (p * 2)
  have f1 := fz (p * 2 + 1)
  have hBg : w.heap.size ≤ g := by have := (HO2.out.1.lt g rfl).1; omega
  have fin : Hid (RowOwn (w2.setCells g (p * 2) ([x0, x1].map (Value.int .i64))) w.heap.size 88 (.slice (some ⟨g, 0, none⟩) l.length cap) 2 (l.take p ++ [x0, x1] :: l.drop (p + 1)) ∧ Below w.heap.size w (w2.setCells g (p * 2) ([x0, x1].map (Value.int .i64)))) := by
    have := own_set p [x0, x1] HO2.out hp rfl
    exact ⟨this.1.mono (by omega), HB2.out.grown this.2 (by omega) (fun k hk => by injection hk with hk; omega)⟩
  clear k2 hb2 hyc fz hyk
  go_wp2_with fail
  go_ret
  exact ⟨_, rfl, fin.out⟩
end Go.Proofs.YtjcdpmianmgiaaaGreatDoor
