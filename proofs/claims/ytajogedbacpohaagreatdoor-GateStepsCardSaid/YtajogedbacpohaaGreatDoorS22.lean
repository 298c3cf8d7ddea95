/- Part 23 of what the claim rests on. -/
import Derived.Test.YtajogedbacpohaaGreatDoorS00
import Derived.Test.YtajogedbacpohaaGreatDoorS01
import Derived.Test.YtajogedbacpohaaGreatDoorS15
import Derived.Test.YtajogedbacpohaaGreatDoorS16
import Derived.Test.YtajogedbacpohaaGreatDoorS17
import Derived.Test.YtajogedbacpohaaGreatDoorS18
import Derived.Test.YtajogedbacpohaaGreatDoorS21
import Derived.IntWalk
import Derived.Laws.Cover1
set_option linter.unusedVariables false
set_option linter.unusedSimpArgs false
set_option maxRecDepth 1000000
set_option maxHeartbeats 32000000
namespace Go.Proofs.YtajogedbacpohaaGreatDoor
section
open Go Go.RowKit
theorem zt51 {p : Prop} (h : p := by
 go_wp2_with fail;refine bodyPost_ret (v := .tuple #[.agg BZ, .agg #[.int .i64 0, .int .i64 0], .slice none 0 0, .int .i64 1]) ?_ rfl ⟨rfl, HB.out⟩;exact zz72 rfl _ _ _ _ _ _ _ _ _ _ rfl Ku.out Tryz.underlying27 rfl zk rfl Kv.out Tryz.underlying33 rfl zk _ _ rfl rfl) : p := h
theorem gStep_arg (vh vs vo vr : Value) (b : Bk) (e : Ev) (rate : Int) (w0 : World) (B0 : Hid (BkAt w0 (.agg #[vh, vs, vo, vr, b.n]) b)) (hs : Hid b.Small) (hbad : b.mayB = false ∨ decide (rate < 0) = true ∨ decide (1000 < rate) = true ∧ (b.n == 1099511627776) = (b.n == 1099511627776)) :
  Calls Tryz.prog 10 #[.agg #[vh, vs, vo, vr, b.n], e.val, .int .i64 rate] w0 fun r w' => r = .returned (.tuple #[.agg BZ, .agg #[.int .i64 0, .int .i64 0], .slice none 0 0, .int .i64 1]) ∧ Below w0.heap.size w0 w' := by
 unfold Ev.val;obtain ⟨_, _, _, _, hv, r1, r2, r3, r4⟩ := B0.out;injection hv with hv
 simp only [Array.mk.injEq, List.cons.injEq, and_true] at hv;obtain ⟨rfl, rfl, rfl, rfl, _⟩ := hv;obtain ⟨Ah, ch, rfl, _⟩ := r1;obtain ⟨As, cs, rfl, _⟩ := r2;obtain ⟨Ao, co, rfl, _⟩ := r3;obtain ⟨Ar, cr, rfl, _⟩ := r4;have qM := zH (fun u wz hv => zz1y u b wz hv hs)
 obtain ⟨M, hM⟩ : ∃ M, b.mayB = M := ⟨_, rfl⟩;rw [hM] at qM hbad;clear hM;obtain ⟨T1, t1⟩ : ∃ T, decide (rate < 0) = T := ⟨_, rfl⟩;obtain ⟨T2, t2⟩ : ∃ T, decide (1000 < rate) = T := ⟨_, rfl⟩;obtain ⟨T3, t3⟩ : ∃ T, (b.n == 1099511627776) = T := ⟨_, rfl⟩;rw [t1, t2, t3] at hbad;obtain ⟨wb, hwb⟩ : ∃ wb : World, (((w0.alloc (.cells (BF Ah ch As cs Ao co Ar cr b b.n) 27)).alloc (.cells #[e.kind, e.acc, e.ord, e.sym, e.side, e.qty, e.px] 29)).alloc (.cells BZ 27)).alloc (.cells #[.int .i64 0, .int .i64 0] 33) = wb := ⟨_, rfl⟩;have HB : Hid (Below w0.heap.size w0 wb) := by rw [← hwb]; exact zz01 (zz01 (zz01 zBa zo _) zo _) zo _
 have Kb : ZB wb w0.heap.size (BF Ah ch As cs Ao co Ar cr b b.n) 27 := by rw [← hwb]; exact zz05 (zz05 (zz05 (zz02 _ _) _) _) _
 have Ku : ZB wb (w0.heap.size + 2) BZ 27 := by rw [← hwb]; exact zz05 (zz0d _ _ _ (by simp)) _
 have Kv : ZB wb (w0.heap.size + 3) #[.int .i64 0, .int .i64 0] 33 := by rw [← hwb]; exact zz0d _ _ _ (by simp)
 have Lu : Hid (w0.heap.size ≤ w0.heap.size + 2) := Nat.le_add_right _ _;have Lv : Hid (w0.heap.size ≤ w0.heap.size + 3) := Nat.le_add_right _ _;replace hwb := zH hwb;have c_b_0 := zC Kb.out;rw [← hwb.out] at c_b_0;go_in;go_wp2_with fail;rw [hwb.out];clear hwb;clear c_b_0;(with_reducible refine (qM.out _ _ (zH (B0.out.call HB.out))).mono ?_);rintro r wc1 ⟨rfl, hb⟩;replace Kb := zK Kb hb;replace Ku := zK Ku hb;replace Kv := zK Kv hb;replace HB := zB HB hb;clear hb;have c_b_0 := zC Kb.out;have c_u_0 := zC Ku.out;have fc_u_0 := zF Ku.out;have c_v_0 := zC Kv.out;have fc_v_0 := zF Kv.out;have neg := zz0a Ku.out Kv.out zx;have neg2 := neg.symm;rcases hbad with rfl | rfl | ⟨rfl, _⟩
 ·skip
  all_goals (
   go_wp2_with fail;obtain ⟨ws2, hws2⟩ : ∃ ws2 : World, ((((wc1.setCell ⟨w0.heap.size + 2, 0, none⟩ (.slice none 0 0)).setCell ⟨w0.heap.size + 2, 1, none⟩ (.slice none 0 0)).setCell ⟨w0.heap.size + 2, 2, none⟩ (.slice none 0 0)).setCell ⟨w0.heap.size + 2, 3, none⟩ (.slice none 0 0)).setCell ⟨w0.heap.size + 2, 4, none⟩ (.int .i64 0) = ws2 := ⟨_, rfl⟩;rw [hws2];clear c_b_0 c_u_0 fc_u_0 c_v_0 fc_v_0 neg neg2;obtain ⟨vs, zE, hvs⟩ := zV5 hws2;replace HB := zQ zE Lu HB;replace Kv := zO zE Ku Kv;replace Ku := zP zE Ku;subst hvs;clear zE;replace Ku : ZB ws2 (w0.heap.size + 2) BZ 27 := Ku.out;clear hws2;obtain ⟨ws3, hws3⟩ : ∃ ws3 : World, (ws2.setCell ⟨w0.heap.size + 3, 0, none⟩ (.int .i64 0)).setCell ⟨w0.heap.size + 3, 1, none⟩ (.int .i64 0) = ws3 := ⟨_, rfl⟩;rw [hws3];obtain ⟨vs, zE, hvs⟩ := zV2 hws3;replace HB := zQ zE Lv HB;replace Ku := zO zE Kv Ku;replace Kv := zP zE Kv;subst hvs;clear zE;replace Kv : ZB ws3 (w0.heap.size + 3) #[.int .i64 0, .int .i64 0] 33 := Kv.out;clear hws3;exact zt51)
 ·skip
  cases M
  all_goals (
   go_wp2_with fail;obtain ⟨ws4, hws4⟩ : ∃ ws4 : World, ((((wc1.setCell ⟨w0.heap.size + 2, 0, none⟩ (.slice none 0 0)).setCell ⟨w0.heap.size + 2, 1, none⟩ (.slice none 0 0)).setCell ⟨w0.heap.size + 2, 2, none⟩ (.slice none 0 0)).setCell ⟨w0.heap.size + 2, 3, none⟩ (.slice none 0 0)).setCell ⟨w0.heap.size + 2, 4, none⟩ (.int .i64 0) = ws4 := ⟨_, rfl⟩;rw [hws4];clear c_b_0 c_u_0 fc_u_0 c_v_0 fc_v_0 neg neg2;obtain ⟨vs, zE, hvs⟩ := zV5 hws4;replace HB := zQ zE Lu HB;replace Kv := zO zE Ku Kv;replace Ku := zP zE Ku;subst hvs;clear zE;replace Ku : ZB ws4 (w0.heap.size + 2) BZ 27 := Ku.out;clear hws4;obtain ⟨ws5, hws5⟩ : ∃ ws5 : World, (ws4.setCell ⟨w0.heap.size + 3, 0, none⟩ (.int .i64 0)).setCell ⟨w0.heap.size + 3, 1, none⟩ (.int .i64 0) = ws5 := ⟨_, rfl⟩;rw [hws5];obtain ⟨vs, zE, hvs⟩ := zV2 hws5;replace HB := zQ zE Lv HB;replace Ku := zO zE Kv Ku;replace Kv := zP zE Kv;subst hvs;clear zE;replace Kv : ZB ws5 (w0.heap.size + 3) #[.int .i64 0, .int .i64 0] 33 := Kv.out;clear hws5;exact zt51)
 ·skip
  cases M <;> cases T1
  all_goals (
   go_wp2_with fail;obtain ⟨ws6, hws6⟩ : ∃ ws6 : World, ((((wc1.setCell ⟨w0.heap.size + 2, 0, none⟩ (.slice none 0 0)).setCell ⟨w0.heap.size + 2, 1, none⟩ (.slice none 0 0)).setCell ⟨w0.heap.size + 2, 2, none⟩ (.slice none 0 0)).setCell ⟨w0.heap.size + 2, 3, none⟩ (.slice none 0 0)).setCell ⟨w0.heap.size + 2, 4, none⟩ (.int .i64 0) = ws6 := ⟨_, rfl⟩;rw [hws6];clear c_b_0 c_u_0 fc_u_0 c_v_0 fc_v_0 neg neg2;obtain ⟨vs, zE, hvs⟩ := zV5 hws6;replace HB := zQ zE Lu HB;replace Kv := zO zE Ku Kv;replace Ku := zP zE Ku;subst hvs;clear zE;replace Ku : ZB ws6 (w0.heap.size + 2) BZ 27 := Ku.out;clear hws6;obtain ⟨ws7, hws7⟩ : ∃ ws7 : World, (ws6.setCell ⟨w0.heap.size + 3, 0, none⟩ (.int .i64 0)).setCell ⟨w0.heap.size + 3, 1, none⟩ (.int .i64 0) = ws7 := ⟨_, rfl⟩;rw [hws7];obtain ⟨vs, zE, hvs⟩ := zV2 hws7;replace HB := zQ zE Lv HB;replace Ku := zO zE Kv Ku;replace Kv := zP zE Kv;subst hvs;clear zE;replace Kv : ZB ws7 (w0.heap.size + 3) #[.int .i64 0, .int .i64 0] 33 := Kv.out;clear hws7;exact zt51)
theorem zzaj (vh vs vo vr : Value) (b : Bk) (e : Ev) (rate : Int) (w0 : World) (B0 : Hid (BkAt w0 (.agg #[vh, vs, vo, vr, b.n]) b)) (hs : Hid b.Small) (hbad : b.mayB = true ∧ decide (rate < 0) = false ∧ decide (1000 < rate) = false ∧ (b.n == 1099511627776) = true) :
  Calls Tryz.prog 10 #[.agg #[vh, vs, vo, vr, b.n], e.val, .int .i64 rate] w0 fun r w' => r = .returned (.tuple #[.agg BZ, .agg #[.int .i64 0, .int .i64 0], .slice none 0 0, .int .i64 11]) ∧ Below w0.heap.size w0 w' := by
 unfold Ev.val;obtain ⟨_, _, _, _, hv, r1, r2, r3, r4⟩ := B0.out;injection hv with hv
 simp only [Array.mk.injEq, List.cons.injEq, and_true] at hv;obtain ⟨rfl, rfl, rfl, rfl, _⟩ := hv;obtain ⟨Ah, ch, rfl, _⟩ := r1;obtain ⟨As, cs, rfl, _⟩ := r2;obtain ⟨Ao, co, rfl, _⟩ := r3;obtain ⟨Ar, cr, rfl, _⟩ := r4;have qM := zH (fun u wz hv => zz1y u b wz hv hs)
 obtain ⟨M, hM⟩ : ∃ M, b.mayB = M := ⟨_, rfl⟩;rw [hM] at qM hbad;clear hM;obtain ⟨T1, t1⟩ : ∃ T, decide (rate < 0) = T := ⟨_, rfl⟩;obtain ⟨T2, t2⟩ : ∃ T, decide (1000 < rate) = T := ⟨_, rfl⟩;obtain ⟨T3, t3⟩ : ∃ T, (b.n == 1099511627776) = T := ⟨_, rfl⟩;rw [t1, t2, t3] at hbad;obtain ⟨wb, hwb⟩ : ∃ wb : World, (((w0.alloc (.cells (BF Ah ch As cs Ao co Ar cr b b.n) 27)).alloc (.cells #[e.kind, e.acc, e.ord, e.sym, e.side, e.qty, e.px] 29)).alloc (.cells BZ 27)).alloc (.cells #[.int .i64 0, .int .i64 0] 33) = wb := ⟨_, rfl⟩;have HB : Hid (Below w0.heap.size w0 wb) := by rw [← hwb]; exact zz01 (zz01 (zz01 zBa zo _) zo _) zo _
 have Kb : ZB wb w0.heap.size (BF Ah ch As cs Ao co Ar cr b b.n) 27 := by rw [← hwb]; exact zz05 (zz05 (zz05 (zz02 _ _) _) _) _
 have Ku : ZB wb (w0.heap.size + 2) BZ 27 := by rw [← hwb]; exact zz05 (zz0d _ _ _ (by simp)) _
 have Kv : ZB wb (w0.heap.size + 3) #[.int .i64 0, .int .i64 0] 33 := by rw [← hwb]; exact zz0d _ _ _ (by simp)
 have Lu : Hid (w0.heap.size ≤ w0.heap.size + 2) := Nat.le_add_right _ _;have Lv : Hid (w0.heap.size ≤ w0.heap.size + 3) := Nat.le_add_right _ _;replace hwb := zH hwb;have c_b_0 := zC Kb.out;rw [← hwb.out] at c_b_0;go_in;go_wp2_with fail;rw [hwb.out];clear hwb;clear c_b_0;(with_reducible refine (qM.out _ _ (zH (B0.out.call HB.out))).mono ?_);rintro r wc1 ⟨rfl, hb⟩;replace Kb := zK Kb hb;replace Ku := zK Ku hb;replace Kv := zK Kv hb;replace HB := zB HB hb;clear hb;have c_b_0 := zC Kb.out;have c_u_0 := zC Ku.out;have fc_u_0 := zF Ku.out;have c_v_0 := zC Kv.out;have fc_v_0 := zF Kv.out;have neg := zz0a Ku.out Kv.out zx;have neg2 := neg.symm;obtain ⟨rfl, rfl, rfl, rfl⟩ := hbad;go_wp2_with fail;obtain ⟨ws2, hws2⟩ : ∃ ws2 : World, ((((wc1.setCell ⟨w0.heap.size + 2, 0, none⟩ (.slice none 0 0)).setCell ⟨w0.heap.size + 2, 1, none⟩ (.slice none 0 0)).setCell ⟨w0.heap.size + 2, 2, none⟩ (.slice none 0 0)).setCell ⟨w0.heap.size + 2, 3, none⟩ (.slice none 0 0)).setCell ⟨w0.heap.size + 2, 4, none⟩ (.int .i64 0) = ws2 := ⟨_, rfl⟩;rw [hws2];clear c_b_0 c_u_0 fc_u_0 c_v_0 fc_v_0 neg neg2;obtain ⟨vs, zE, hvs⟩ := zV5 hws2;replace HB := zQ zE Lu HB;replace Kv := zO zE Ku Kv;replace Ku := zP zE Ku;subst hvs;clear zE;replace Ku : ZB ws2 (w0.heap.size + 2) BZ 27 := Ku.out;clear hws2;obtain ⟨ws3, hws3⟩ : ∃ ws3 : World, (ws2.setCell ⟨w0.heap.size + 3, 0, none⟩ (.int .i64 0)).setCell ⟨w0.heap.size + 3, 1, none⟩ (.int .i64 0) = ws3 := ⟨_, rfl⟩;rw [hws3];obtain ⟨vs, zE, hvs⟩ := zV2 hws3;replace HB := zQ zE Lv HB;replace Ku := zO zE Kv Ku;replace Kv := zP zE Kv;subst hvs;clear zE;replace Kv : ZB ws3 (w0.heap.size + 3) #[.int .i64 0, .int .i64 0] 33 := Kv.out;clear hws3;go_wp2_with fail;refine bodyPost_ret (v := .tuple #[.agg BZ, .agg #[.int .i64 0, .int .i64 0], .slice none 0 0, .int .i64 11]) ?_ rfl ⟨rfl, HB.out⟩;exact zz72 rfl _ _ _ _ _ _ _ _ _ _ rfl Ku.out Tryz.underlying27 rfl zk rfl Kv.out Tryz.underlying33 rfl zk _ _ rfl rfl
theorem LkAt.form {w : World} {B : Nat} {v : Value} {pre : List Stp} (h : LkAt w B v pre) : ∃ A k c d, v = .agg #[.slice A k c, .bool d] := by
 obtain ⟨vs, rfl, ho⟩ := h;obtain ⟨A, c, rfl⟩ := ho.form;exact ⟨A, _, c, _, rfl⟩
theorem LkAt.put {w : World} {B : Nat} {v : Value} {pre : List Stp} (h : LkAt w B v pre) {g : Nat} {cs : Array Value} {t : TypeId} {fr : Nat × Nat} (hg : w.heap[g]? = some (.cells cs t fr)) (hne : t ≠ 65) (o : Nat) (us : List Value) : LkAt (putC w g o us) B v pre := by
 obtain ⟨vs, rfl, ho⟩ := h;exact ⟨vs, rfl, zz0q hne hg ho⟩
theorem zz7q (W : World) (B : Nat) (v : Value) (pre : List Stp) (n a b : Int) (hs : Hid ((sS n a b).fit)) (w : World) (hv : Hid (LkAt w B v pre)) (hb : Hid (Below B W w)) (hB : Hid (B ≤ w.heap.size)) (hl : Hid (pre.length ≤ 100)) :
  Calls Tryz.prog 99 #[v, .int .i64 n, .int .i64 a, .int .i64 b] w fun e w' => ∃ v', e = .returned v' ∧ LkAt w' B v' (pre ++ [sS n a b]) ∧ Below B W w' ∧ Off w w' := by
 obtain ⟨vs, rfl, ho⟩ := hv.out;cases hall : pre.all (·.holds) with
 | false => exact (zz9q B vs pre n a b w hall ho).mono fun e w' ⟨v', h1, h2, h3⟩ => ⟨v', h1, h2, hb.out.trans (h3.mono hB.out), Off.of h3⟩
 | true => exact zz9p W B vs pre n a b hs w hall ho hb hB hl
theorem zz9o (B : Nat) (vs : Value) (pre : List Stp) (n a b : Int) (fits : Bool) (w : World) (hall : Hid (pre.all (·.holds) = false)) (ho : Hid (StepsOwn w B vs (cutL pre))) :
  Calls Tryz.prog 104 #[.agg #[vs, .bool true], .int .i64 n, .int .i64 a, .int .i64 b, .bool fits] w fun e w' => ∃ v', e = .returned v' ∧ LkAt w' B v' (pre ++ [oS n a b fits]) ∧ Below w.heap.size w w' := by
 have hfin : Hid (∀ w', StepsOwn w' B vs (cutL pre) → LkAt w' B (.agg #[vs, .bool true]) (pre ++ [oS n a b fits])) := (show _ from fun w' h => ⟨_, by rw [zz5n, hall.out]; rfl, by rw [zz3p, hall.out]; exact h⟩)
 clear hall;obtain ⟨A, c, rfl⟩ := ho.out.form;obtain ⟨k, hk⟩ : ∃ k, (cutL pre).length = k := ⟨_, rfl⟩;rw [hk] at ho hfin ⊢;clear hk;obtain ⟨w1, hw1⟩ : ∃ w1, (w.alloc (.cells #[.slice A k c, .bool true] 138)).alloc (.cells #[.slice none 0 0, .bool false] 138) = w1 := ⟨_, rfl⟩;have K1 : ZB w1 w.heap.size #[.slice A k c, .bool true] 138 := by rw [← hw1]; exact zz05 (zz02 _ _) _
 have e0 := zC K1.out;rw [← hw1] at e0;replace hw1 := zH hw1;go_in;go_wp2_with fail;clear e0 hw1 K1;exact zt71
theorem rover_no (W : World) (B : Nat) (vs : Value) (pre : List Stp) (n a b : Int) (hn : Hid (I64 n)) (w : World) (hall : Hid (pre.all (·.holds) = true)) (ho : Hid (StepsOwn w B vs (cutL pre))) (hb : Hid (Below B W w)) (hB : Hid (B ≤ w.heap.size)) (hl : Hid (pre.length ≤ 100)) :
  Calls Tryz.prog 104 #[.agg #[vs, .bool false], .int .i64 n, .int .i64 a, .int .i64 b, .bool false] w fun e w' => ∃ v', e = .returned v' ∧ LkAt w' B v' (pre ++ [oS n a b false]) ∧ Below B W w' ∧ Off w w' := by
 have hfin : Hid (∀ w' v', StepsOwn w' B v' (cutL pre ++ [(⟨n, 0, 0, true⟩ : Stp)]) → LkAt w' B (.agg #[v', .bool true]) (pre ++ [oS n a b false])) := (show _ from fun w' v' h => ⟨_, by rw [zz5n, hall.out]; rfl, by rw [zz3p, hall.out]; exact h⟩)
 have HLC : Hid ((cutL pre).length + 1 ≤ 4000000) := (show _ ≤ _ from by have := hl.out; have := zz5k pre; omega)
 have hFit : Hid (Stp.fit ⟨n, 0, 0, true⟩) := ⟨hn.out, by show I64 0; unfold I64; omega, by show I64 0; unfold I64; omega⟩
 clear hall hl hn;obtain ⟨A, c, hA⟩ := ho.out.form;obtain ⟨k, hk⟩ : ∃ k, (cutL pre).length = k := ⟨_, rfl⟩;rw [hk] at hA;subst hA;clear hk;obtain ⟨w1, hw1⟩ : ∃ w1, (w.alloc (.cells #[.slice A k c, .bool false] 138)).alloc (.cells #[.slice none 0 0, .bool false] 138) = w1 := ⟨_, rfl⟩;have HB1 : Hid (Below w.heap.size w w1) := by rw [← hw1]; exact zz01 zBa (by simp) _
 have K1 : ZB w1 w.heap.size #[.slice A k c, .bool false] 138 := by rw [← hw1]; exact zz05 (zz02 _ _) _
 have R1 : ZB w1 (w.heap.size + 1) #[.slice none 0 0, .bool false] 138 := by rw [← hw1]; exact zz0d _ _ _ (by simp)
 have O1 : Hid (StepsOwn w1 B (.slice A k c) (cutL pre)) := ho.out.kept HB1.out;have HBW : Hid (Below B W w1) := hb.out.trans (HB1.out.mono hB.out);have hB1 : Hid (B ≤ w1.heap.size) := Nat.le_trans hB.out HB1.out.size;have HSZ : Hid (w.heap.size + 2 = w1.heap.size) := (show _ = _ from by rw [← hw1]; simp)
 replace hw1 := zH hw1;go_in;have e0 := zz00 K1.out 0 _ rfl;have e1 := zz00 K1.out 1 _ rfl;rw [← hw1.out] at e0 e1;go_wp2_with (at_builtin; rw [hw1.out]; refine zz10 (W := W) (B := B) _ _ 34 zz86 ⟨n, 0, 0, true⟩ (.slice A k c) (cutL pre) HBW.out O1 hB1.out rfl rfl rfl rfl HSZ.out hFit.out HLC.out ?_; intro v2 w2 ho2 hb2 hB2 hoff hoth; have R2 := zH (hoff.out.blk _ _ _ _ R1.out zx zx); have HO2 : Hid (Off w w2) := (Off.of HB1.out).trans hoff.out; obtain ⟨A2, c2, hA2⟩ := ho2.out.form; obtain ⟨k2, hk2⟩ : ∃ k2, (cutL pre ++ [(⟨n, 0, 0, true⟩ : Stp)]).length = k2 := ⟨_, rfl⟩; rw [hk2] at hA2; subst hA2; clear hoth hoff e0 e1 hk2; have f0 := zz04 R2.out 0; have f1 := zz04 R2.out 1; have d0 := zz00 R2.out 0 _ rfl; have d1 := zz00 R2.out 1 _ rfl);clear f0 f1 d0 d1;have hge : B ≤ w.heap.size + 1 := Nat.le_succ_of_le hB.out;have O4 : StepsOwn (putC w2 (w.heap.size + 1) 0 [.slice A2 k2 c2, .bool true]) B (.slice A2 k2 c2) (cutL pre ++ [(⟨n, 0, 0, true⟩ : Stp)]) := zz0q zx R2.out ho2.out;have HB4 : Below B W (putC w2 (w.heap.size + 1) 0 [.slice A2 k2 c2, .bool true]) := zz1p hge hb2.out;have HO4 : Off w (putC w2 (w.heap.size + 1) 0 [.slice A2 k2 c2, .bool true]) := HO2.out.fresh2 (Nat.le_succ _) _ _ _ _;have R4 : (putC w2 (w.heap.size + 1) 0 [.slice A2 k2 c2, .bool true]).heap[w.heap.size + 1]? = some (.cells #[.slice A2 k2 c2, .bool true] 138 (0, 0)) := zz12 R2.out;refine bodyPost_ret (v := .agg #[.slice A2 k2 c2, .bool true]) ?_ rfl ⟨_, rfl, hfin.out _ _ O4, HB4, HO4⟩;exact zz32 rfl _ _ (w.heap.size + 1) _ _ _ rfl R4 Tryz.underlying138 rfl zk
theorem rover_yes (W : World) (B : Nat) (vs : Value) (pre : List Stp) (n a b : Int) (hs : Hid ((sS n a b).fit)) (w : World) (hall : Hid (pre.all (·.holds) = true)) (ho : Hid (StepsOwn w B vs (cutL pre))) (hb : Hid (Below B W w)) (hB : Hid (B ≤ w.heap.size)) (hl : Hid (pre.length ≤ 100)) :
  Calls Tryz.prog 104 #[.agg #[vs, .bool false], .int .i64 n, .int .i64 a, .int .i64 b, .bool true] w fun e w' => ∃ v', e = .returned v' ∧ LkAt w' B v' (pre ++ [oS n a b true]) ∧ Below B W w' ∧ Off w w' := by
 obtain ⟨A, c, hA⟩ := ho.out.form;obtain ⟨k, hk⟩ : ∃ k, (cutL pre).length = k := ⟨_, rfl⟩;rw [hk] at hA;subst hA;clear hk;obtain ⟨w1, hw1⟩ : ∃ w1, (w.alloc (.cells #[.slice A k c, .bool false] 138)).alloc (.cells #[.slice none 0 0, .bool false] 138) = w1 := ⟨_, rfl⟩;have HB1 : Hid (Below w.heap.size w w1) := by rw [← hw1]; exact zz01 zBa (by simp) _
 have K1 : ZB w1 w.heap.size #[.slice A k c, .bool false] 138 := by rw [← hw1]; exact zz05 (zz02 _ _) _
 have R1 : ZB w1 (w.heap.size + 1) #[.slice none 0 0, .bool false] 138 := by rw [← hw1]; exact zz0d _ _ _ (by simp)
 have V1 : Hid (LkAt w1 B (.agg #[.slice A k c, .bool false]) pre) := ⟨_, by rw [hall.out]; rfl, ho.out.kept HB1.out⟩
 have HBW : Hid (Below B W w1) := hb.out.trans (HB1.out.mono hB.out);have hB1 : Hid (B ≤ w1.heap.size) := Nat.le_trans hB.out HB1.out.size;have q := zH (zz7q W B (.agg #[.slice A k c, .bool false]) pre n a b hs w1 V1 HBW hB1 hl);replace hw1 := zH hw1;clear ho hall hl hb;have e0 := zC K1.out;rw [← hw1.out] at e0;go_in;go_wp2_with fail;rw [hw1.out];clear e0 hw1;(with_reducible refine q.out.mono ?_);rintro e w2 ⟨v2, rfl, hv2, hb2, ho2⟩;obtain ⟨A2, k2, c2, d2, rfl⟩ := hv2.form;have V2 := zH hv2;have HB2 := zH hb2;have R2 := zH (ho2.blk _ _ _ _ R1.out zx zx);have HO2 : Hid (Off w w2) := (Off.of HB1.out).trans ho2;clear hv2 hb2 ho2 q;have f0 := zz04 R2.out 0;have f1 := zz04 R2.out 1;have d0 := zC R2.out;go_wp2_with fail;clear f0 f1 d0;have hge : B ≤ w.heap.size + 1 := Nat.le_succ_of_le hB.out;have V4 : LkAt (putC w2 (w.heap.size + 1) 0 [.slice A2 k2 c2, .bool d2]) B (.agg #[.slice A2 k2 c2, .bool d2]) (pre ++ [sS n a b]) := V2.out.put R2.out zx _ _;have HB4 : Below B W (putC w2 (w.heap.size + 1) 0 [.slice A2 k2 c2, .bool d2]) := zz1p hge HB2.out;have HO4 : Off w (putC w2 (w.heap.size + 1) 0 [.slice A2 k2 c2, .bool d2]) := HO2.out.fresh2 (Nat.le_succ _) _ _ _ _;have R4 : (putC w2 (w.heap.size + 1) 0 [.slice A2 k2 c2, .bool d2]).heap[w.heap.size + 1]? = some (.cells #[.slice A2 k2 c2, .bool d2] 138 (0, 0)) := zz12 R2.out;refine bodyPost_ret (v := .agg #[.slice A2 k2 c2, .bool d2]) ?_ rfl ⟨_, rfl, V4, HB4, HO4⟩;exact zz32 rfl _ _ (w.heap.size + 1) _ _ _ rfl R4 Tryz.underlying138 rfl zk
theorem rover_any (W : World) (B : Nat) (v : Value) (pre : List Stp) (n a b : Int) (fits : Bool) (hn : Hid (I64 n)) (hs : Hid ((sS n a b).fit)) (w : World) (hv : Hid (LkAt w B v pre)) (hb : Hid (Below B W w)) (hB : Hid (B ≤ w.heap.size)) (hl : Hid (pre.length ≤ 100)) :
  Calls Tryz.prog 104 #[v, .int .i64 n, .int .i64 a, .int .i64 b, .bool fits] w fun e w' => ∃ v', e = .returned v' ∧ LkAt w' B v' (pre ++ [oS n a b fits]) ∧ Below B W w' ∧ Off w w' := by
 obtain ⟨vs, rfl, ho⟩ := hv.out;cases hall : pre.all (·.holds) with
 | false => exact (zz9o B vs pre n a b fits w hall ho).mono fun e w' ⟨v', h1, h2, h3⟩ => ⟨v', h1, h2, hb.out.trans (h3.mono hB.out), Off.of h3⟩
 | true =>
  cases fits with
  | false => exact rover_no W B vs pre n a b hn w hall ho hb hB hl
  | true => exact rover_yes W B vs pre n a b hs w hall ho hb hB hl
abbrev Bl := List (Nat × Array Value × TypeId)
def Bz (B : Nat) (w : World) : Bl → Prop
 | [] => True
 | (g, c, t) :: l => (B ≤ g ∧ w.heap[g]? = some (.cells c t (0, 0))) ∧ Bz B w l
abbrev Nz (p : Nat) : Bl → Prop
 | [] => True
 | (g, _, _) :: l => g ≠ p ∧ p ≠ g ∧ Nz p l
def Dz (l : Bl) : Prop := l.Pairwise fun x y => x.1 ≠ y.1
def En (a w : World) (l : Bl) : Prop := Below a.heap.size a w ∧ Bz a.heap.size w l ∧ Dz l
def tN (t : TypeId) (l : Bl) : Bool := l.all fun x => x.2.2 != t
theorem Bz.imp {B : Nat} {w w' : World} : ∀ {l : Bl}, Bz B w l → (∀ g c t, (g, c, t) ∈ l → w.heap[g]? = some (.cells c t (0, 0)) → w'.heap[g]? = some (.cells c t (0, 0))) → Bz B w' l
 | [], _, _ => trivial
 | (g, c, t) :: l, h, f => ⟨⟨h.1.1, f _ _ _ (.head _) h.1.2⟩, h.2.imp fun g c t hm => f g c t (.tail _ hm)⟩
theorem Bz.at {B : Nat} {w : World} : ∀ {l : Bl} {g : Nat} {c : Array Value} {t : TypeId}, Bz B w l → (g, c, t) ∈ l → B ≤ g ∧ w.heap[g]? = some (.cells c t (0, 0))
 | (g, c, t) :: l, _, _, _, h, hm => by
  rcases List.mem_cons.1 hm with e | hm
  ·cases e; exact h.1
  ·exact Bz.at h.2 hm
theorem Bz.lt {B : Nat} {w : World} {l : Bl} (h : Bz B w l) : ∀ x ∈ l, x.1 < w.heap.size := fun (g, c, t) hx => zL (h.at hx).2
theorem Bz.sub {B : Nat} {w : World} {l : Bl} (h : Bz B w l) : ∀ {m : Bl}, (∀ x ∈ m, x ∈ l) → Bz B w m
 | [], _ => trivial
 | (g, c, t) :: m, f => ⟨h.at (f _ (.head _)), h.sub fun x hx => f x (.tail _ hx)⟩
theorem Nz.of {p : Nat} : ∀ {l : Bl}, (∀ x ∈ l, x.1 ≠ p) → Nz p l
 | [], _ => trivial
 | (g, c, t) :: l, f => ⟨f _ (.head _), (f _ (.head _)).symm, Nz.of fun x hx => f x (.tail _ hx)⟩
theorem tN.of {t : TypeId} {l : Bl} (h : tN t l = true) {g : Nat} {c : Array Value} {u : TypeId} (hm : (g, c, u) ∈ l) : u ≠ t := by
 have := List.all_eq_true.1 h _ hm;simpa using this
theorem zEk {a w w' : World} {l : Bl} (K : Hid (En a w l)) (hb : Below w.heap.size w w') : Hid (En a w' l) :=
 ⟨K.out.1.trans (hb.mono K.out.1.size), K.out.2.1.imp fun _ _ _ _ h => zz06 h hb, K.out.2.2⟩
theorem zEa {a w w' : World} {l : Bl} {c : Array Value} {t : TypeId} (h : w.alloc (.cells c t) = w') (K : Hid (En a w l)) : Hid (En a w' ((w.heap.size, c, t) :: l)) := by
 subst h;exact ⟨zz01 K.out.1 K.out.1.size _, ⟨⟨K.out.1.size, zz02 _ _⟩, K.out.2.1.imp fun _ _ _ _ h => zz05 h _⟩, List.Pairwise.cons (fun x hx => Nat.ne_of_gt (K.out.2.1.lt x hx)) K.out.2.2⟩
theorem zE0 (w : World) : Hid (En w w []) := ⟨Below.refl _ _, trivial, .nil⟩
theorem zEa2 {a w w' : World} {l : Bl} {c c2 : Array Value} {t t2 : TypeId} (h : (w.alloc (.cells c t)).alloc (.cells c2 t2) = w') (K : Hid (En a w l)) : Hid (En a w' ((w.heap.size + 1, c2, t2) :: (w.heap.size, c, t) :: l)) := by
 have := zEa h (zEa rfl K);simpa using this
theorem zEa4 {a w w' : World} {l : Bl} {c c2 c3 c4 : Array Value} {t t2 t3 t4 : TypeId} (h : (((w.alloc (.cells c t)).alloc (.cells c2 t2)).alloc (.cells c3 t3)).alloc (.cells c4 t4) = w') (K : Hid (En a w l)) : Hid (En a w' ((w.heap.size + 3, c4, t4) :: (w.heap.size + 2, c3, t3) :: (w.heap.size + 1, c2, t2) :: (w.heap.size, c, t) :: l)) := by
 have := zEa2 h (zEa2 rfl K);simpa using this
theorem zEo {a w w' : World} {l : Bl} (K : Hid (En a w l)) (ho : Off w w') (hb : Below a.heap.size a w') (h : (tN 68 l && tN 65 l) = true := by kernel_rfl) : Hid (En a w' l) := by
 rw [Bool.and_eq_true] at h;exact ⟨hb, K.out.2.1.imp fun g c t hm hg => ho.blk _ _ _ _ hg (tN.of h.1 hm) (tN.of h.2 hm), K.out.2.2⟩
theorem zEp {a w s : World} {g o : Nat} {c : Array Value} {t : TypeId} {vs : List Value} {l : Bl} (h : putC w g o vs = s) (K : Hid (En a w ((g, c, t) :: l))) : Hid (En a s ((g, putA c o vs, t) :: l)) := by
 subst h;obtain ⟨hb, ⟨⟨hg, hc⟩, hl⟩, hd⟩ := K.out;obtain ⟨hn, hd⟩ := List.pairwise_cons.1 hd;exact ⟨zz1p hg hb, ⟨⟨hg, zz12 hc⟩, hl.imp fun g2 c2 t2 hm h2 => zz03 (hn _ hm).symm h2⟩, List.Pairwise.cons hn hd⟩
theorem zEm {a w : World} {l m : Bl} (K : Hid (En a w l)) (h : l.Perm m) : Hid (En a w m) :=
 ⟨K.out.1, K.out.2.1.sub fun x hx => h.mem_iff.2 hx, (h.pairwise_iff (fun h => h.symm)).1 K.out.2.2⟩
theorem zEs {a w : World} {l m : Bl} (K : Hid (En a w l)) (h : ∀ x ∈ m, x ∈ l := by simp) : Hid (Bz a.heap.size w m) := K.out.2.1.sub h
abbrev Oz (w : World) : Bl → Prop
 | [] => True
 | (g, c, _) :: l => (∀ i, w.cell? ⟨g, i, none⟩ = c[i]?) ∧ (∀ i, w.frozen? ⟨g, i, none⟩ = false) ∧ g < w.heap.size ∧ Oz w l
theorem Bz.oz {B : Nat} {w : World} : ∀ {l : Bl}, Bz B w l → Oz w l
 | [], _ => trivial
 | (g, c, t) :: l, h => ⟨zC h.1.2, zF h.1.2, zL h.1.2, h.2.oz⟩
theorem zEc {a w : World} {l : Bl} (K : Hid (En a w l)) : Oz w l := K.out.2.1.oz
theorem zEx {a w : World} {g : Nat} {c : Array Value} {t : TypeId} {l : Bl} (K : Hid (En a w ((g, c, t) :: l))) : Oz w ((g, c, t) :: l) ∧ Nz g l := ⟨K.out.2.1.oz, Nz.of fun x hx => ((List.pairwise_cons.1 K.out.2.2).1 x hx).symm⟩
theorem zEz {a w : World} {l : Bl} (K : Hid (En a w l)) : Hid (Bz a.heap.size w l) := K.out.2.1
theorem zEh {a w : World} {x : Nat × Array Value × TypeId} {l : Bl} (K : Hid (En a w (x :: l))) : Hid (Bz a.heap.size w [x]) := ⟨K.out.2.1.1, trivial⟩
theorem zEb {a w : World} {l : Bl} (K : Hid (En a w l)) : Below a.heap.size a w := K.out.1
theorem zEg {a w : World} {g : Nat} {c : Array Value} {t : TypeId} {l : Bl} (K : Hid (En a w ((g, c, t) :: l))) : w.heap[g]? = some (.cells c t (0, 0)) := K.out.2.1.1.2
section
variable {P : Program}
theorem zSE {id : Nat} {Q : Exit → Act → World → Prop} {A : Act} {w : World} {l : List Oper} {B : Nat} {bl : Bl} (ex : List Nat) (n : Nat) (K : Hid (Bz B w bl)) (h : ∀ wd, Below w.heap.size w wd → wpAnyD P .any l.toArray (fun wz => Hid (Bz B wz bl)) ex (OnlyN Q) n (Array.replicate n false) A wd) (hf : l.length = n := by kernel_rfl) (hm : P.follows .mixedOrders = true := by kernel_rfl) : (Code.region id l.toArray true).wp P Q A w :=
 zS ex _ n hf hm h
variable {ops : Array Oper} {B : Nat} {bl : Bl} {ex : List Nat}
theorem zv {K : Act → Prop} {o : Oper} {l : List Oper} {A : Act} {v : Value} (h : wpPure P ops (fun wz => Hid (Bz B wz bl)) K l (A.put o.dst v)) (hg : Region.wanted o (yielded ops A.tmps) = true := by rfl) (hr : ∀ w, Oz w bl → (execOp A.eval o).run P w = .ok (.value v) w := by intro wz hF; unfold execOp; (try go_simp); (try rfl)) : wpPure P ops (fun wz => Hid (Bz B wz bl)) K (o :: l) A := zz08 v hg (fun w hw => hr w hw.out.oz) h
end
theorem zY {C : World → Prop} {Q : Exit → Act → World → Prop} {K : Act → World → Prop} {a : Act} {w : World} (h : K a w) (hc : C w) : StepQ C Q K .normal a w := ⟨hc, h⟩
theorem zz0m {a w : World} {l : Bl} {v : Value} {pre : List Stp} (K : Hid (En a w l)) (LK : Hid (LkAt w a.heap.size v pre)) {n x y : Int} (hx : I64 x) (hy : I64 y := by exact zz0j zw) (hn : I64 n := by exact zz0j zw) (hl : pre.length ≤ 100 := by simp) (h : (tN 68 l && tN 65 l) = true := by kernel_rfl) :
  Calls Tryz.prog 99 #[v, .int .i64 n, .int .i64 x, .int .i64 y] w fun e w' => ∃ A k c d, e = .returned (.agg #[.slice A k c, .bool d]) ∧ Hid (LkAt w' a.heap.size (.agg #[.slice A k c, .bool d]) (pre ++ [sS n x y])) ∧ Hid (En a w' l) :=
 (zz7q a _ v pre n x y ⟨hn, hx, hy⟩ w LK K.out.1 K.out.1.size hl).mono fun e w' ⟨v', h1, h2, h3, h4⟩ => by
  obtain ⟨A, k, c, d, rfl⟩ := h2.form;exact ⟨A, k, c, d, h1, h2, zEo K h4 h3 h⟩
theorem zz3w {a w : World} {l : Bl} {v : Value} {pre : List Stp} (K : Hid (En a w l)) (LK : Hid (LkAt w a.heap.size v pre)) {n x y : Int} {f : Bool} (hx : I64 x) (hy : I64 y) (hn : I64 n := by exact zz0j zw) (hl : pre.length ≤ 100 := by simp) (h : (tN 68 l && tN 65 l) = true := by kernel_rfl) :
  Calls Tryz.prog 104 #[v, .int .i64 n, .int .i64 x, .int .i64 y, .bool f] w fun e w' => ∃ A k c d, e = .returned (.agg #[.slice A k c, .bool d]) ∧ Hid (LkAt w' a.heap.size (.agg #[.slice A k c, .bool d]) (pre ++ [oS n x y f])) ∧ Hid (En a w' l) :=
 (rover_any a _ v pre n x y f hn ⟨hn, hx, hy⟩ w LK K.out.1 K.out.1.size hl).mono fun e w' ⟨v', h1, h2, h3, h4⟩ => by
  obtain ⟨A, k, c, d, rfl⟩ := h2.form;exact ⟨A, k, c, d, h1, h2, zEo K h4 h3 h⟩
theorem zEl {a w s : World} {g : Nat} {x y u v : Value} {t : TypeId} {l : Bl} {V : Value} {pre : List Stp} (h : (w.setCell ⟨g, 0, none⟩ u).setCell ⟨g, 1, none⟩ v = s) (L : Hid (LkAt w a.heap.size V pre)) (K : Hid (En a w ((g, #[x, y], t) :: l))) (ht : t ≠ 65 := by decide) : Hid (LkAt s a.heap.size V pre) ∧ Hid (En a s ((g, #[u, v], t) :: l)) := by
 have E : putC w g 0 [u, v] = s := h;exact ⟨E ▸ L.out.put (zEg K) ht 0 _, zEp E K⟩
theorem zEf {a w : World} {A : Option Addr} {k c : Nat} {d : Bool} {l : Bl} {b : Bk} {e : Ev} {rate : Int} {pre : List Stp} (K : Hid (En a w l)) (L : Hid (LkAt w a.heap.size (.agg #[.slice A k c, .bool d]) pre)) (h : allS b e rate = pre) : ∃ v, Ending.returned (.slice A k c) = .returned v ∧ StepsOwn w a.heap.size v (gateL b e rate) ∧ Below a.heap.size a w := by
 obtain ⟨vs, he, hO⟩ := L.out;injection he with he
 simp only [Array.mk.injEq, List.cons.injEq, and_true] at he;obtain ⟨rfl, _⟩ := he;refine ⟨_, rfl, ?_, K.out.1⟩;unfold gateL;rw [h];exact hO
end
section
open Go Go.RowKit Mon Bg
theorem zt64 {p : Prop} (h : p := by
 have c := zEc K;go_wp2_with fail;clear c;(with_reducible refine (zz3w K L JN.out JE.out).mono ?_);rintro r w36 ⟨A36, k36, c36, d36, rfl, L2, K2⟩;replace L := L2;replace K := K2;clear L2 K2;have c := zEx K;go_wp2_with fail;generalize hs : World.setCell _ _ _ = w37;clear c;replace K := zEl hs L K;clear hs L;obtain ⟨L, K⟩ := K;go_ret;exact zEf K L hall) : p := h
theorem zt77 {p : Prop} (h : p := by
 rintro r w10 ⟨A10, k10, c10, d10, rfl, L2, K2⟩;replace L := L2;replace K := K2;clear L2 K2;have c := zEx K;go_wp2_with fail;generalize hs : World.setCell _ _ _ = w11;clear c;replace K := zEl hs L K;clear hs L;obtain ⟨L, K⟩ := K;go_ret;exact zEf K L hall) : p := h
theorem zz9w (vh vs vo vr : Value) (b : Bk) (e : Ev) (rate : Int) (w : World) (B0 : Hid (BkAt w (.agg #[vh, vs, vo, vr, b.n]) b)) (hs : Hid b.Small) (hi : Hid b.I64s) (hm : Hid (b.mayB = true)) (hE : Hid e.I64s) (hrt : Hid (I64 rate)) (hpr : Hid (∀ sym, 0 ≤ priceOf b sym)) :
  Calls Tryz.prog 39 #[.agg #[vh, vs, vo, vr, b.n], e.val, .int .i64 rate] w fun r w' => ∃ v, r = .returned v ∧ StepsOwn w' w.heap.size v (gateL b e rate) ∧ Below w.heap.size w w' := by
 unfold Ev.val;obtain ⟨_, _, _, _, hv, r1, r2, r3, r4⟩ := B0.out;injection hv with hv
 simp only [Array.mk.injEq, List.cons.injEq, and_true] at hv;obtain ⟨rfl, rfl, rfl, rfl, _⟩ := hv;have LH : Hid (∀ r ∈ b.h, r.length = 4) := (by obtain ⟨_, _, _, h, _⟩ := r1; exact h)
 have LO : Hid (∀ r ∈ b.o, r.length = 6) := (by obtain ⟨_, _, _, h, _⟩ := r3; exact h)
 have LR : Hid (∀ r ∈ b.r, r.length = 2) := (by obtain ⟨_, _, _, h, _⟩ := r4; exact h)
 obtain ⟨Ah, ch, rfl, _⟩ := r1;obtain ⟨As, cs, rfl, _⟩ := r2;obtain ⟨Ao, co, rfl, _⟩ := r3;obtain ⟨Ar, cr, rfl, _⟩ := r4;have F1 : b.h.length ≤ 1000000 ∧ b.o.length ≤ 1000000 ∧ b.r.length ≤ 1000000 := by have := hs.out; unfold Bk.Small at this; omega
 have HL1 := zH F1;clear F1;obtain ⟨rh, FH, hl1, hx1⟩ := zz11 LH.out (isId e.acc)
 match rh, hl1, hx1 with
 | [h0, h1, h2, h3], _, hx1 =>
 have hF : FH = hasH b e.acc := zz0n hx1;subst hF;have HX1 := zH hx1;clear hx1;obtain ⟨ro, FO, hl2, hx2⟩ := zz11 LO.out (isId e.ord)
 match ro, hl2, hx2 with
 | [o0, o1, o2, o3, o4, o5], _, hx2 =>
 have hFo : FO = hasO b e.ord := zz0n hx2;subst hFo;have HX2 := zH hx2;clear hx2;obtain ⟨rr, FR, hl3, hx3⟩ := zz11 LR.out (isId e.sym)
 match rr, hl3, hx3 with
 | [r0, r1], _, hx3 =>
 have hFr : FR = hasR b e.sym := zz0n hx3;subst hFr;have HX3 := zH hx3;clear hx3;have hrH : Hid (recH b e.acc = [h0, h1, h2, h3]) := (show _ = _ from by unfold recH; rw [HX1.out])
 have hrO : Hid (recO b e.ord = [o0, o1, o2, o3, o4, o5]) := (show _ = _ from by unfold recO; rw [HX2.out])
 have K := zEa2 (c := (BF Ah ch As cs Ao co Ar cr b b.n)) (t := 27) (c2 := #[e.kind, e.acc, e.ord, e.sym, e.side, e.qty, e.px]) (t2 := 29) rfl (zE0 w);have c := zEc K;go_in;go_wp2_with fail;generalize hw : World.alloc _ _ = wb;rw [hw] at K;clear c hw;(with_reducible refine (zz1d _ b e.acc h0 h1 h2 h3 (hasH b e.acc) _ (zH (B0.out.call (zEb K))) HL1.out.1 HX1).mono ?_);rintro r wc0 ⟨rfl, hb⟩;replace K := zEk K hb;clear hb;have c := zEc K;go_wp2_with fail;clear c;generalize hw : World.alloc _ _ = wa0;replace K := zEa hw K;clear hw;(with_reducible refine (zz7r _ b e.ord o0 o1 o2 o3 o4 o5 (hasO b e.ord) _ (zH (B0.out.call (zEb K))) HL1.out.2.1 HX2).mono ?_);rintro r wc1 ⟨rfl, hb⟩;replace K := zEk K hb;clear hb;have c := zEc K;go_wp2_with fail;clear c;generalize hw : World.alloc _ _ = wa1;replace K := zEa hw K;clear hw;(with_reducible refine (zz3i _ b e.sym r0 r1 (hasR b e.sym) _ (zH (B0.out.call (zEb K))) HL1.out.2.2 HX3).mono ?_);rintro r wc2 ⟨rfl, hb⟩;replace K := zEk K hb;clear hb;have c := zEc K;go_wp2_with fail;clear c;generalize hw : World.alloc _ _ = wa2;replace K := zEa hw K;clear hw;have L : Hid (LkAt _ w.heap.size (.agg #[.slice none 0 0, .bool false]) []) := LkAt.nil wa2 _;(with_reducible refine (zz0m K L hE.out.kind).mono ?_);rintro r w1 ⟨A1, k1, c1, d1, rfl, L2, K2⟩;replace L := L2;replace K := K2;clear L2 K2;have c := zEx K;go_wp2_with fail;generalize hs : World.setCell _ _ _ = w2;clear c;replace K := zEl hs L K;clear hs L;obtain ⟨L, K⟩ := K;(with_reducible refine (zz0m K L hE.out.kind).mono ?_);rintro r w3 ⟨A3, k3, c3, d3, rfl, L2, K2⟩;replace L := L2;replace K := K2;clear L2 K2;by_cases hk : e.kind = 1
 ·skip
  have tk1 : (e.kind == 1) = true := by rw [hk]; rfl
  have hall : allS b e rate = headS e ++ accS b e := by unfold allS kindS; simp [hk]
  clear hk;have c := zEx K;go_wp2_with fail;generalize hs : World.setCell _ _ _ = w4;clear c;replace K := zEl hs L K;clear hs L;obtain ⟨L, K⟩ := K;(with_reducible refine (zz0m K L hE.out.qty).mono ?_);rintro r w5 ⟨A5, k5, c5, d5, rfl, L2, K2⟩;replace L := L2;replace K := K2;clear L2 K2;have c := zEx K;go_wp2_with fail;generalize hs : World.setCell _ _ _ = w6;clear c;replace K := zEl hs L K;clear hs L;obtain ⟨L, K⟩ := K;refine zSE [4] 5 (zEh K) ?_;intro w7 hb;replace K := zEk K hb;replace L := zH (L.out.kept hb);clear hb;refine zM [0, 1] 3 (zEh K) ?_;simp only [opsAt, zA];refine zv ?_;refine zp ?_;unfold wpPure;go_simp;refine zW 2 ?_;go_wp2_with fail;(with_reducible refine (zz2j _ _).mono ?_);rintro r _ ⟨rfl, rfl⟩;go_wp2_with fail;refine zY ?_ fun _ => zEh K
  refine zW 3 ?_;go_wp2_with fail;(with_reducible refine (zz0m K L (zz1i _)).mono ?_);rintro r w8 ⟨A8, k8, c8, d8, rfl, L2, K2⟩;replace L := L2;replace K := K2;clear L2 K2;go_wp2_with fail;refine zY ?_ fun _ => zEh K
  have c := zEx K;refine zW 4 ?_;go_wp2_with fail;generalize hs : World.setCell _ _ _ = w9;clear c;replace K := zEl hs L K;clear hs L;obtain ⟨L, K⟩ := K;refine zY ?_ fun h => absurd h zx
  refine zQe ?_;have c := zEc K;go_wp2_with fail;clear c;(with_reducible refine (zz0m K L (zz4v HL1.out.1)).mono ?_);exact zt77
 have nk1 : (e.kind == 1) = false := beq_eq_false_iff_ne.2 hk;have ok1 := zH hk;clear hk;by_cases hk : e.kind = 2
 ·skip
  have tk1 : (e.kind == 1) = false := by rw [hk]; rfl
  have tk2 : (e.kind == 2) = true := by rw [hk]; rfl
  have hall : allS b e rate = headS e ++ limS b e := by unfold allS kindS; simp [hk]
  clear hk;have c := zEx K;go_wp2_with fail;generalize hs : World.setCell _ _ _ = w4;clear c;replace K := zEl hs L K;clear hs L;obtain ⟨L, K⟩ := K;refine zSE [4] 5 (zEh K) ?_;intro w5 hb;replace K := zEk K hb;replace L := zH (L.out.kept hb);clear hb;refine zM [0, 1] 3 (zEh K) ?_;simp only [opsAt, zA];refine zv ?_;refine zp ?_;unfold wpPure;go_simp;refine zW 2 ?_;go_wp2_with fail;(with_reducible refine (zz2j _ _).mono ?_);rintro r _ ⟨rfl, rfl⟩;go_wp2_with fail;refine zY ?_ fun _ => zEh K
  refine zW 3 ?_;go_wp2_with fail;(with_reducible refine (zz0m K L (zz1i _)).mono ?_);rintro r w6 ⟨A6, k6, c6, d6, rfl, L2, K2⟩;replace L := L2;replace K := K2;clear L2 K2;go_wp2_with fail;refine zY ?_ fun _ => zEh K
  have c := zEx K;refine zW 4 ?_;go_wp2_with fail;generalize hs : World.setCell _ _ _ = w7;clear c;replace K := zEl hs L K;clear hs L;obtain ⟨L, K⟩ := K;refine zY ?_ fun h => absurd h zx
  refine zQe ?_;have c := zEc K;go_wp2_with fail;clear c;(with_reducible refine (zz0m K L hE.out.qty).mono ?_);rintro r w8 ⟨A8, k8, c8, d8, rfl, L2, K2⟩;replace L := L2;replace K := K2;clear L2 K2;have c := zEx K;go_wp2_with fail;generalize hs : World.setCell _ _ _ = w9;clear c;replace K := zEl hs L K;clear hs L;obtain ⟨L, K⟩ := K;(with_reducible refine (zz0m K L hE.out.px).mono ?_);exact zt77
 have nk2 : (e.kind == 2) = false := beq_eq_false_iff_ne.2 hk;have ok2 := zH hk;clear hk;by_cases hk : e.kind = 3
 ·skip
  have tk1 : (e.kind == 1) = false := by rw [hk]; rfl
  have tk2 : (e.kind == 2) = false := by rw [hk]; rfl
  have tk3 : (e.kind == 3) = true := by rw [hk]; rfl
  have HKD := zH hk;clear hk;have c := zEx K;go_wp2_with fail;generalize hs : World.setCell _ _ _ = w4;clear c;replace K := zEl hs L K;clear hs L;obtain ⟨L, K⟩ := K;(with_reducible refine (zz0m K L hE.out.px).mono ?_);rintro r w5 ⟨A5, k5, c5, d5, rfl, L2, K2⟩;replace L := L2;replace K := K2;clear L2 K2;cases hRv : hasR b e.sym with
  | true =>
   have hall : allS b e rate = headS e ++ [sS 6 e.px 1] := by unfold allS kindS quoS; simp [HKD.out, hRv]
   clear hRv;have c := zEx K;go_wp2_with fail;generalize hs : World.setCell _ _ _ = w6;clear c;replace K := zEl hs L K;clear hs L;obtain ⟨L, K⟩ := K;go_ret;exact zEf K L hall
  | false =>
   have hall : allS b e rate = headS e ++ [sS 6 e.px 1, sS 17 b.r.length 31] := by unfold allS kindS quoS; simp [HKD.out, hRv]
   clear hRv;have c := zEx K;go_wp2_with fail;generalize hs : World.setCell _ _ _ = w6;clear c;replace K := zEl hs L K;clear hs L;obtain ⟨L, K⟩ := K;(with_reducible refine (zz0m K L (zz4v HL1.out.2.2)).mono ?_);rintro r w7 ⟨A7, k7, c7, d7, rfl, L2, K2⟩;replace L := L2;replace K := K2;clear L2 K2;have c := zEx K;go_wp2_with fail;generalize hs : World.setCell _ _ _ = w8;clear c;replace K := zEl hs L K;clear hs L;obtain ⟨L, K⟩ := K;go_ret;exact zEf K L hall
 have nk3 : (e.kind == 3) = false := beq_eq_false_iff_ne.2 hk;have ok3 := zH hk;clear hk;by_cases hk : e.kind = 4
 ·skip
  have tk1 : (e.kind == 1) = false := by rw [hk]; rfl
  have tk2 : (e.kind == 2) = false := by rw [hk]; rfl
  have tk3 : (e.kind == 3) = false := by rw [hk]; rfl
  have tk4 : (e.kind == 4) = true := by rw [hk]; rfl
  have hEq : Hid (I64 e.qty) := hE.out.qty;have hEp : Hid (I64 e.px) := hE.out.px;have bQ : Hid (e.qty.natAbs < 10000 ^ 40) := bigB (by have := hEq.out; unfold I64 at this; omega)
  have bP : Hid (e.px.natAbs < 10000 ^ 40) := bigB (by have := hEp.out; unfold I64 at this; omega)
  have bM : Hid ((e.qty * e.px).natAbs < 10000 ^ 40) := bigB (by
   rw [Int.natAbs_mul];have h1 := Nat.mul_le_mul (show e.qty.natAbs ≤ 9223372036854775808 by have := hEq.out; unfold I64 at this; omega) (show e.px.natAbs ≤ 9223372036854775808 by have := hEp.out; unfold I64 at this; omega)
   omega)
  have I3 : Hid (I64 h3) := zz1g hi.out.1 HX1.out h3 (by simp)
  have I2 : Hid (I64 h2) := zz1g hi.out.1 HX1.out h2 (by simp)
  have qN := zH (fun wz hv => rNeed_any (.agg (BF Ah ch As cs Ao co Ar cr b b.n)) b e.acc e.qty e.px rate wz hv hs hi hpr hEq hEp hrt)
  have qE := zH (fun wz hv => zz8s (.agg (BF Ah ch As cs Ao co Ar cr b b.n)) b e.acc wz hv hs hi)
  obtain ⟨⟨N1, N2⟩, hN⟩ : ∃ N, needR (needX b e.acc e.qty e.px) rate = N := ⟨_, rfl⟩;obtain ⟨⟨E1, E2⟩, hEE⟩ : ∃ N, fitsP (cashOf b e.acc + sumQ (heldP b e.acc b.s)) = N := ⟨_, rfl⟩;have JN : Hid (I64 N1) := (show I64 N1 from by have := zz7w (needX b e.acc e.qty e.px) rate; rw [hN] at this; exact this)
  have JE : Hid (I64 E1) := (show I64 E1 from by have := zz1j (cashOf b e.acc + sumQ (heldP b e.acc b.s)); rw [hEE] at this; exact this)
  have hall : allS b e rate = headS e ++ [sS 3 e.side 0, sS 4 e.side 1, sS 5 e.qty 1, sS 6 e.px 1, sS 10 (bitI (hasH b e.acc)) 1, sS 12 (bitI (hasO b e.ord)) 0, sS 14 (bitI (hasR b e.sym)) 1, sS 16 b.o.length 63, oS 18 (fitsP (e.qty * e.px)).1 h3 (fitsP (e.qty * e.px)).2, oS 19 (reachR b e.acc e.sym e.side e.qty).1 h2 (reachR b e.acc e.sym e.side e.qty).2, oS 20 N1 E1 (N2 && E2)] := by
   unfold allS kindS;rw [if_neg zw, if_neg zw, if_neg zw, if_pos hk];unfold ordS;rw [hrH.out, show needE b e rate = (N1, N2) from hN, show eqR b e.acc = (E1, E2) from hEE]
   rfl
  rw [hN] at qN;rw [hEE] at qE;clear hk hN hEE;have c := zEx K;go_wp2_with fail;generalize hs : World.setCell _ _ _ = w4;clear c;replace K := zEl hs L K;clear hs L;obtain ⟨L, K⟩ := K;(with_reducible refine (zz0m K L hE.out.side).mono ?_);rintro r w5 ⟨A5, k5, c5, d5, rfl, L2, K2⟩;replace L := L2;replace K := K2;clear L2 K2;have c := zEx K;go_wp2_with fail;generalize hs : World.setCell _ _ _ = w6;clear c;replace K := zEl hs L K;clear hs L;obtain ⟨L, K⟩ := K;(with_reducible refine (zz0m K L hE.out.side).mono ?_);rintro r w7 ⟨A7, k7, c7, d7, rfl, L2, K2⟩;replace L := L2;replace K := K2;clear L2 K2;have c := zEx K;go_wp2_with fail;generalize hs : World.setCell _ _ _ = w8;clear c;replace K := zEl hs L K;clear hs L;obtain ⟨L, K⟩ := K;(with_reducible refine (zz0m K L hE.out.qty).mono ?_);rintro r w9 ⟨A9, k9, c9, d9, rfl, L2, K2⟩;replace L := L2;replace K := K2;clear L2 K2;have c := zEx K;go_wp2_with fail;generalize hs : World.setCell _ _ _ = w10;clear c;replace K := zEl hs L K;clear hs L;obtain ⟨L, K⟩ := K;(with_reducible refine (zz0m K L hE.out.px).mono ?_);rintro r w11 ⟨A11, k11, c11, d11, rfl, L2, K2⟩;replace L := L2;replace K := K2;clear L2 K2;have c := zEx K;go_wp2_with fail;generalize hs : World.setCell _ _ _ = w12;clear c;replace K := zEl hs L K;clear hs L;obtain ⟨L, K⟩ := K;refine zSE [4] 5 (zEh K) ?_;intro w13 hb;replace K := zEk K hb;replace L := zH (L.out.kept hb);clear hb;refine zM [0, 1] 3 (zEh K) ?_;simp only [opsAt, zA];refine zv ?_;refine zp ?_;unfold wpPure;go_simp;refine zW 2 ?_;go_wp2_with fail;(with_reducible refine (zz2j _ _).mono ?_);rintro r _ ⟨rfl, rfl⟩;go_wp2_with fail;refine zY ?_ fun _ => zEh K
  refine zW 3 ?_;go_wp2_with fail;(with_reducible refine (zz0m K L (zz1i _)).mono ?_);rintro r w14 ⟨A14, k14, c14, d14, rfl, L2, K2⟩;replace L := L2;replace K := K2;clear L2 K2;go_wp2_with fail;refine zY ?_ fun _ => zEh K
  have c := zEx K;refine zW 4 ?_;go_wp2_with fail;generalize hs : World.setCell _ _ _ = w15;clear c;replace K := zEl hs L K;clear hs L;obtain ⟨L, K⟩ := K;refine zY ?_ fun h => absurd h zx
  refine zQe ?_;have c := zEc K;go_wp2_with fail;clear c;refine zSE [4] 5 (zEh K) ?_;intro w16 hb;replace K := zEk K hb;replace L := zH (L.out.kept hb);clear hb;refine zM [0, 1] 3 (zEh K) ?_;simp only [opsAt, zA];refine zv ?_;refine zp ?_;unfold wpPure;go_simp;refine zW 2 ?_;go_wp2_with fail;(with_reducible refine (zz2j _ _).mono ?_);rintro r _ ⟨rfl, rfl⟩;go_wp2_with fail;refine zY ?_ fun _ => zEh K
  refine zW 3 ?_;go_wp2_with fail;(with_reducible refine (zz0m K L (zz1i _)).mono ?_);rintro r w17 ⟨A17, k17, c17, d17, rfl, L2, K2⟩;replace L := L2;replace K := K2;clear L2 K2;go_wp2_with fail;refine zY ?_ fun _ => zEh K
  have c := zEx K;refine zW 4 ?_;go_wp2_with fail;generalize hs : World.setCell _ _ _ = w18;clear c;replace K := zEl hs L K;clear hs L;obtain ⟨L, K⟩ := K;refine zY ?_ fun h => absurd h zx
  refine zQe ?_;have c := zEc K;go_wp2_with fail;clear c;refine zSE [4] 5 (zEh K) ?_;intro w19 hb;replace K := zEk K hb;replace L := zH (L.out.kept hb);clear hb;refine zM [0, 1] 3 (zEh K) ?_;simp only [opsAt, zA];refine zv ?_;refine zp ?_;unfold wpPure;go_simp;refine zW 2 ?_;go_wp2_with fail;(with_reducible refine (zz2j _ _).mono ?_);rintro r _ ⟨rfl, rfl⟩;go_wp2_with fail;refine zY ?_ fun _ => zEh K
  refine zW 3 ?_;go_wp2_with fail;(with_reducible refine (zz0m K L (zz1i _)).mono ?_);rintro r w20 ⟨A20, k20, c20, d20, rfl, L2, K2⟩;replace L := L2;replace K := K2;clear L2 K2;go_wp2_with fail;refine zY ?_ fun _ => zEh K
  have c := zEx K;refine zW 4 ?_;go_wp2_with fail;generalize hs : World.setCell _ _ _ = w21;clear c;replace K := zEl hs L K;clear hs L;obtain ⟨L, K⟩ := K;refine zY ?_ fun h => absurd h zx
  refine zQe ?_;have c := zEc K;go_wp2_with fail;clear c;(with_reducible refine (zz0m K L (zz4v HL1.out.2.1)).mono ?_);rintro r w22 ⟨A22, k22, c22, d22, rfl, L2, K2⟩;replace L := L2;replace K := K2;clear L2 K2;have c := zEx K;go_wp2_with fail;generalize hs : World.setCell _ _ _ = w23;clear c;replace K := zEl hs L K;clear hs L;obtain ⟨L, K⟩ := K;refine zSE [] 13 (zEz K) ?_;intro w24 hb;replace K := zEk K hb;replace L := zH (L.out.kept hb);clear hb;refine zM [0, 1, 3, 4] 9 (zEz K) ?_;simp only [opsAt, zA]
  iterate 2
   refine zp ?_;refine zv ?_
  unfold wpPure;go_simp;refine zW 2 ?_;go_wp2_with fail;(with_reducible refine (zz2x e.qty hEq.out _).mono ?_);rintro r w25 ⟨⟨va, rfl, hva⟩, hb⟩;replace K := zEk K hb;replace L := zH (L.out.kept hb);clear hb;go_wp2_with fail;refine zY ?_ fun _ => zEz K
  have Va := zH hva;clear hva;refine zW 5 ?_;go_wp2_with fail;(with_reducible refine (zz2x e.px hEp.out _).mono ?_);rintro r w26 ⟨⟨vb, rfl, hvb⟩, hb⟩;replace K := zEk K hb;replace L := zH (L.out.kept hb);replace Va := zH (Va.out.call hb);clear hb;go_wp2_with fail;refine zY ?_ fun _ => zEz K
  have Vb := zH hvb;clear hvb;refine zW 6 ?_;go_wp2_with fail;(with_reducible refine (zz7m _ _ e.qty e.px _ Va Vb bQ.out bP.out).mono ?_);rintro r w27 ⟨⟨vc, rfl, hvc⟩, hb⟩;replace K := zEk K hb;replace L := zH (L.out.kept hb);replace Va := zH (Va.out.call hb);replace Vb := zH (Vb.out.call hb);clear hb;go_wp2_with fail;refine zY ?_ fun _ => zEz K
  have Vc := zH hvc;clear hvc;refine zW 7 ?_;go_wp2_with fail;(with_reducible refine (zz29 _ (e.qty * e.px) _ Vc bM.out).mono ?_);rintro r w28 ⟨rfl, hb⟩;replace K := zEk K hb;replace L := zH (L.out.kept hb);replace Va := zH (Va.out.call hb);replace Vb := zH (Vb.out.call hb);replace Vc := zH (Vc.out.call hb);clear hb;go_wp2_with fail;refine zY ?_ fun _ => zEz K
  clear Va Vb Vc;refine zM [8, 9, 10, 11, 12] 0 (zEz K) ?_;simp only [opsAt, zA]
  iterate 5 refine zp ?_
  unfold wpPure;go_simp;refine zQe ?_;have c := zEc K;go_wp2_with fail;clear c;(with_reducible refine (zz3w K L (zz1j _) I3.out).mono ?_);rintro r w29 ⟨A29, k29, c29, d29, rfl, L2, K2⟩;replace L := L2;replace K := K2;clear L2 K2;have c := zEx K;go_wp2_with fail;generalize hs : World.setCell _ _ _ = w30;clear c;replace K := zEl hs L K;clear hs L;obtain ⟨L, K⟩ := K;(with_reducible refine (zz9x (.agg (BF Ah ch As cs Ao co Ar cr b b.n)) b e.acc e.sym e.side e.qty _ (zH (B0.out.call (zEb K))) hs hi hEq).mono ?_);rintro r w31 ⟨rfl, hb⟩;replace K := zEk K hb;replace L := zH (L.out.kept hb);clear hb;have c := zEc K;go_wp2_with fail;clear c;(with_reducible refine (zz3w K L (zz69 _ _ _ _ _) I2.out).mono ?_);rintro r w32 ⟨A32, k32, c32, d32, rfl, L2, K2⟩;replace L := L2;replace K := K2;clear L2 K2;have c := zEx K;go_wp2_with fail;generalize hs : World.setCell _ _ _ = w33;clear c;replace K := zEl hs L K;clear hs L;obtain ⟨L, K⟩ := K;(with_reducible refine (qN.out _ (zH (B0.out.call (zEb K)))).mono ?_);rintro r w34 ⟨rfl, hb⟩;replace K := zEk K hb;replace L := zH (L.out.kept hb);clear hb;have c := zEc K;go_wp2_with fail;clear c;(with_reducible refine (qE.out _ (zH (B0.out.call (zEb K)))).mono ?_);rintro r w35 ⟨rfl, hb⟩;replace K := zEk K hb;replace L := zH (L.out.kept hb);clear hb;cases N2 with
  | true =>
   exact zt64
  | false =>
   exact zt64
 have nk4 : (e.kind == 4) = false := beq_eq_false_iff_ne.2 hk;have ok4 := zH hk;clear hk;by_cases hk : e.kind = 5
 ·skip
  have tk1 : (e.kind == 1) = false := by rw [hk]; rfl
  have tk2 : (e.kind == 2) = false := by rw [hk]; rfl
  have tk3 : (e.kind == 3) = false := by rw [hk]; rfl
  have tk4 : (e.kind == 4) = false := by rw [hk]; rfl
  have tk5 : (e.kind == 5) = true := by rw [hk]; rfl
  have hEq : Hid (I64 e.qty) := hE.out.qty;have hEp : Hid (I64 e.px) := hE.out.px;have I4 : Hid (I64 o4) := zz1g hi.out.2.2.1 HX2.out o4 (by simp)
  have qA := zH (fun wz hv => zz6d (.agg (BF Ah ch As cs Ao co Ar cr b b.n)) b o0 o1 o2 o3 o4 o5 e.qty e.px wz hv hs hi hEq hEp)
  obtain ⟨⟨⟨C, X⟩, ⟨S, Y⟩⟩, hA⟩ : ∃ A, afterR b o1 o2 o3 e.qty e.px = A := ⟨_, rfl⟩;have IC : Hid (I64 C) := (show I64 C from by have := (zz2u b o1 o2 o3 e.qty e.px).1; rw [hA] at this; exact this)
  have IS : Hid (I64 S) := (show I64 S from by have := (zz2u b o1 o2 o3 e.qty e.px).2; rw [hA] at this; exact this)
  have hall : allS b e rate = headS e ++ [sS 13 (bitI (hasO b e.ord)) 1, sS 5 e.qty 1, sS 6 e.px 1, sS 21 e.qty o4, oS 22 C C X, oS 23 S S Y] := by
   unfold allS kindS;rw [if_neg zw, if_neg zw, if_neg zw, if_neg zw, if_pos hk];unfold fillS afterE;rw [hrO.out];show headS e ++ [_, _, _, _, oS 22 (afterR b o1 o2 o3 e.qty e.px).1.1 (afterR b o1 o2 o3 e.qty e.px).1.1 (afterR b o1 o2 o3 e.qty e.px).1.2, oS 23 (afterR b o1 o2 o3 e.qty e.px).2.1 (afterR b o1 o2 o3 e.qty e.px).2.1 (afterR b o1 o2 o3 e.qty e.px).2.2] = _;rw [hA]
   rfl
  rw [hA] at qA;clear hk hA;have c := zEx K;go_wp2_with fail;generalize hs : World.setCell _ _ _ = w4;clear c;replace K := zEl hs L K;clear hs L;obtain ⟨L, K⟩ := K;refine zSE [4] 5 (zEh K) ?_;intro w5 hb;replace K := zEk K hb;replace L := zH (L.out.kept hb);clear hb;refine zM [0, 1] 3 (zEh K) ?_;simp only [opsAt, zA];refine zv ?_;refine zp ?_;unfold wpPure;go_simp;refine zW 2 ?_;go_wp2_with fail;(with_reducible refine (zz2j _ _).mono ?_);rintro r _ ⟨rfl, rfl⟩;go_wp2_with fail;refine zY ?_ fun _ => zEh K
  refine zW 3 ?_;go_wp2_with fail;(with_reducible refine (zz0m K L (zz1i _)).mono ?_);rintro r w6 ⟨A6, k6, c6, d6, rfl, L2, K2⟩;replace L := L2;replace K := K2;clear L2 K2;go_wp2_with fail;refine zY ?_ fun _ => zEh K
  have c := zEx K;refine zW 4 ?_;go_wp2_with fail;generalize hs : World.setCell _ _ _ = w7;clear c;replace K := zEl hs L K;clear hs L;obtain ⟨L, K⟩ := K;refine zY ?_ fun h => absurd h zx
  refine zQe ?_;have c := zEc K;go_wp2_with fail;clear c;(with_reducible refine (zz0m K L hE.out.qty).mono ?_);rintro r w8 ⟨A8, k8, c8, d8, rfl, L2, K2⟩;replace L := L2;replace K := K2;clear L2 K2;have c := zEx K;go_wp2_with fail;generalize hs : World.setCell _ _ _ = w9;clear c;replace K := zEl hs L K;clear hs L;obtain ⟨L, K⟩ := K;(with_reducible refine (zz0m K L hE.out.px).mono ?_);rintro r w10 ⟨A10, k10, c10, d10, rfl, L2, K2⟩;replace L := L2;replace K := K2;clear L2 K2;have c := zEx K;go_wp2_with fail;generalize hs : World.setCell _ _ _ = w11;clear c;replace K := zEl hs L K;clear hs L;obtain ⟨L, K⟩ := K;(with_reducible refine (zz0m K L hE.out.qty I4.out).mono ?_);rintro r w12 ⟨A12, k12, c12, d12, rfl, L2, K2⟩;replace L := L2;replace K := K2;clear L2 K2;have c := zEx K;go_wp2_with fail;generalize hs : World.setCell _ _ _ = w13;clear c;replace K := zEl hs L K;clear hs L;obtain ⟨L, K⟩ := K;(with_reducible refine (qA.out _ (zH (B0.out.call (zEb K)))).mono ?_);rintro r w14 ⟨rfl, hb⟩;replace K := zEk K hb;replace L := zH (L.out.kept hb);clear hb;have c := zEc K;go_wp2_with fail;clear c;(with_reducible refine (zz3w K L IC.out IC.out).mono ?_);rintro r w15 ⟨A15, k15, c15, d15, rfl, L2, K2⟩;replace L := L2;replace K := K2;clear L2 K2;have c := zEx K;go_wp2_with fail;generalize hs : World.setCell _ _ _ = w16;clear c;replace K := zEl hs L K;clear hs L;obtain ⟨L, K⟩ := K;(with_reducible refine (zz3w K L IS.out IS.out).mono ?_);rintro r w17 ⟨A17, k17, c17, d17, rfl, L2, K2⟩;replace L := L2;replace K := K2;clear L2 K2;have c := zEx K;go_wp2_with fail;generalize hs : World.setCell _ _ _ = w18;clear c;replace K := zEl hs L K;clear hs L;obtain ⟨L, K⟩ := K;go_ret;exact zEf K L hall
 have nk5 : (e.kind == 5) = false := beq_eq_false_iff_ne.2 hk;have ok5 := zH hk;clear hk;by_cases hk : e.kind = 6
 ·skip
  have tk1 : (e.kind == 1) = false := by rw [hk]; rfl
  have tk2 : (e.kind == 2) = false := by rw [hk]; rfl
  have tk3 : (e.kind == 3) = false := by rw [hk]; rfl
  have tk4 : (e.kind == 4) = false := by rw [hk]; rfl
  have tk5 : (e.kind == 5) = false := by rw [hk]; rfl
  have tk6 : (e.kind == 6) = true := by rw [hk]; rfl
  have hall : allS b e rate = headS e ++ canS b e := by unfold allS kindS; simp [hk]
  clear hk;have c := zEx K;go_wp2_with fail;generalize hs : World.setCell _ _ _ = w4;clear c;replace K := zEl hs L K;clear hs L;obtain ⟨L, K⟩ := K;refine zSE [4] 5 (zEh K) ?_;intro w5 hb;replace K := zEk K hb;replace L := zH (L.out.kept hb);clear hb;refine zM [0, 1] 3 (zEh K) ?_;simp only [opsAt, zA];refine zv ?_;refine zp ?_;unfold wpPure;go_simp;refine zW 2 ?_;go_wp2_with fail;(with_reducible refine (zz2j _ _).mono ?_);rintro r _ ⟨rfl, rfl⟩;go_wp2_with fail;refine zY ?_ fun _ => zEh K
  refine zW 3 ?_;go_wp2_with fail;(with_reducible refine (zz0m K L (zz1i _)).mono ?_);rintro r w6 ⟨A6, k6, c6, d6, rfl, L2, K2⟩;replace L := L2;replace K := K2;clear L2 K2;go_wp2_with fail;refine zY ?_ fun _ => zEh K
  have c := zEx K;refine zW 4 ?_;go_wp2_with fail;generalize hs : World.setCell _ _ _ = w7;clear c;replace K := zEl hs L K;clear hs L;obtain ⟨L, K⟩ := K;refine zY ?_ fun h => absurd h zx
  refine zQe ?_;have c := zEc K;go_wp2_with fail;clear c;go_ret;exact zEf K L hall
 have nk6 : (e.kind == 6) = false := beq_eq_false_iff_ne.2 hk;have ok6 := zH hk;clear hk;have hall : allS b e rate = headS e ++ [] := by unfold allS kindS; rw [if_neg ok1.out, if_neg ok2.out, if_neg ok3.out, if_neg ok4.out, if_neg ok5.out, if_neg ok6.out]
 have c := zEx K;go_wp2_with fail;generalize hs : World.setCell _ _ _ = w4;clear c;replace K := zEl hs L K;clear hs L;obtain ⟨L, K⟩ := K;go_ret;exact zEf K L hall
end
section
open Go Go.RowKit
theorem zz9u (v : Value) (l : List Stp) (w : World) (hv : Hid (StepsAt w v l)) (hl : l.length ≤ 1000) :
  Calls Tryz.prog 40 #[v] w fun e w' => e = .returned (.agg #[.int .i64 (goW l 0).1, .int .i64 (goW l 0).2]) ∧ Below w.heap.size w w' := by
 have qH := zH (fun s w => zz6c s w)
 have qC := zH (fun n w => zz2w n w)
 have hb0 := (Below.refl w.heap.size w).alloc (Nat.le_refl _) (.cells #[.int .i64 0, .int .i64 0] 33);have hblk0 : Hid (VerBlk (w.alloc (.cells #[.int .i64 0, .int .i64 0] 33)) w.heap.size 0 0) := zz02 _ _;have HB0 := zH hb0;clear hb0;obtain ⟨A, c, rfl, _⟩ := hv.out;go_in;go_wp2_with fail;go_loopw [3, 4] (fun s3 s4 wr => ∃ (k : Nat) (need : Int), s3 = .int .i64 need ∧ s4 = .int .i64 k ∧ Hid (k ≤ l.length) ∧ Hid (VerBlk wr w.heap.size 0 0) ∧ Hid (goW (l.drop k) need = goW l 0) ∧ Hid (Below w.heap.size w wr)) (fun _ s4 _ => l.length - (intOf s4).toNat)
 case atStart => exact ⟨0, 0, rfl, rfl, Nat.zero_le _, hblk0.out, rfl, HB0.out⟩
 case round =>
  obtain ⟨k, need, rfl, rfl, hk, hR, hW, hB⟩ := hrel;clear hblk0 HB0;by_cases hkl : k < l.length
  ·obtain ⟨A', c', hA', hci⟩ := (hv.out.call hB.out)
   cases hA';have hge : l[k]? = some l[k] := List.getElem?_eq_getElem hkl;obtain ⟨hf, b, o, rfl, hbl, h0, h1, h2, h3⟩ := hci k _ hge;have hst := zH (zzae hge need);clear hci hge;generalize l[k] = s at *;obtain ⟨r, x, y, ov⟩ := s;have h0 : wr.cell? ⟨b, o + k * 4, none⟩ = some (.int .i64 r) := h0;have h1 : wr.cell? ⟨b, o + k * 4 + 1, none⟩ = some (.int .i64 x) := h1;have h2 : wr.cell? ⟨b, o + k * 4 + 2, none⟩ = some (.int .i64 y) := h2;have h3 : wr.cell? ⟨b, o + k * 4 + 3, none⟩ = some (.bool ov) := h3;have q2 : Hid (∀ w, Calls Tryz.prog 108 #[.agg #[r, x, y, .bool ov]] w fun e w' => e = .returned (.bool (Stp.mk r x y ov).holds) ∧ Below w.heap.size w w') := fun w => qH.out ⟨r, x, y, ov⟩ w
   clear qH hf;cases ov with
   | true =>
    have hs1 : Hid (goW l 0 = (12, 0)) := hW.out.symm.trans (hst.out.trans (if_pos rfl));have e0 := hR.out.c0; have e1 := hR.out.c1; have z0 := hR.out.z;clear hst q2;go_wp2_with fail;have hk := (hR.out.s0 (12)).s1 (0);have HB9 := zH (zz1h hB.out (Nat.le_refl _) (.int .i64 (12)) (.int .i64 (0)));generalize (wr.setCell ⟨w.heap.size, 0, none⟩ (.int .i64 (12))).setCell ⟨w.heap.size, 1, none⟩ (.int .i64 (0)) = w9 at *;clear e0 e1 z0;have e0 := hk.c0; have e1 := hk.c1;rw [hs1.out];refine bodyPost_ret (v := .agg #[.int .i64 (12), .int .i64 (0)]) ?_ rfl ⟨rfl, HB9.out⟩;rw [zz0l rfl]; go_simp
   | false =>
    obtain ⟨hb, hhb⟩ : ∃ hb, (Stp.mk r x y false).holds = hb := ⟨_, rfl⟩;rw [hhb] at q2;have hst2 : Hid (goW l 0 = if hb then (if r = 20 then goW (l.drop (k + 1)) x else goW (l.drop (k + 1)) need) else (((codeS r : Nat) : Int), 0)) := by
     show _ = _;rw [← hW.out, hst.out, if_neg (by simp), hhb]
    clear hhb hst hW;cases hb with
    | false =>
     have hs1 : Hid (goW l 0 = (((codeS r : Nat) : Int), 0)) := hst2.out.trans (if_neg (by simp))
     have hfl := row_f2 ⟨(Rule.name (numR r)).toArray⟩ (relS r) (codeS r);clear hst2;go_wp2_with fail;(with_reducible refine (q2.out _).mono ?_);rintro e w3 ⟨rfl, hb3⟩;have HB3 := zB hB hb3;have hR3 := zH (hR.out.call hb3);have d0 := (hb3.cell (p := ⟨b, o + k * 4, none⟩) hbl).trans h0;clear hb3 h0 h1 h2 h3;go_wp2_with fail;(with_reducible refine (qC.out r _).mono ?_);rintro e w4 ⟨rfl, hb4⟩;have HB4 := zB HB3 hb4;have hR4 := zH (hR3.out.call hb4);clear hb4 d0;generalize ((codeS r : Nat) : Int) = cd at *;have e0 := hR4.out.c0; have e1 := hR4.out.c1; have z0 := hR4.out.z;go_wp2_with fail;have hk := (hR4.out.s0 (cd)).s1 (0);have HB9 := zH (zz1h HB4.out (Nat.le_refl _) (.int .i64 (cd)) (.int .i64 (0)));generalize (w4.setCell ⟨w.heap.size, 0, none⟩ (.int .i64 (cd))).setCell ⟨w.heap.size, 1, none⟩ (.int .i64 (0)) = w9 at *;clear e0 e1 z0;have e0 := hk.c0; have e1 := hk.c1;rw [hs1.out];refine bodyPost_ret (v := .agg #[.int .i64 (cd), .int .i64 (0)]) ?_ rfl ⟨rfl, HB9.out⟩;rw [zz0l rfl]; go_simp
    | true =>
     have hs1 := zH (hst2.out.trans (if_pos rfl));clear hst2;by_cases h20 : r = 20
     ·have hs2 : Hid (goW (l.drop (k + 1)) x = goW l 0) := (hs1.out.trans (if_pos h20)).symm
      subst h20;go_wp2_with fail;(with_reducible refine (q2.out _).mono ?_);rintro e w3 ⟨rfl, hb3⟩;have HB3 := zB hB hb3;have hR3 := zH (hR.out.call hb3);have d0 := (hb3.cell (p := ⟨b, o + k * 4, none⟩) hbl).trans h0;have d1 := (hb3.cell (p := ⟨b, o + k * 4 + 1, none⟩) hbl).trans h1;clear hb3 h0 h1 h2 h3;go_wp2_with fail;go_roundw
      case rel => exact ⟨k + 1, x, rfl, by go_num, by show _ ≤ _; omega, hR3.out, hs2.out, HB3.out⟩
      case measure => simp [intOf]; omega
     ·have hs2 : Hid (goW (l.drop (k + 1)) need = goW l 0) := (hs1.out.trans (if_neg h20)).symm
      have t2 : (r == 20) = false := beq_eq_false_iff_ne.2 h20;clear h20 hs1;go_wp2_with fail;(with_reducible refine (q2.out _).mono ?_);rintro e w3 ⟨rfl, hb3⟩;have HB3 := zB hB hb3;have hR3 := zH (hR.out.call hb3);have d0 := (hb3.cell (p := ⟨b, o + k * 4, none⟩) hbl).trans h0;clear hb3 h0 h1 h2 h3;go_wp2_with fail;go_roundw
      case rel => exact ⟨k + 1, need, rfl, by go_num, by show _ ≤ _; omega, hR3.out, hs2.out, HB3.out⟩
      case measure => simp [intOf]; omega
  ·have hkk : k = l.length := by have := hk.out; omega
   subst hkk;have hs1 : Hid (goW l 0 = (0, need)) := by
    have := hW.out;rw [List.drop_length] at this;exact this.symm
   have e0 := hR.out.c0; have e1 := hR.out.c1; have z0 := hR.out.z;go_wp2_with fail;have hk := (hR.out.s0 (0)).s1 (need);have HB9 := zH (zz1h hB.out (Nat.le_refl _) (.int .i64 (0)) (.int .i64 (need)));generalize (wr.setCell ⟨w.heap.size, 0, none⟩ (.int .i64 (0))).setCell ⟨w.heap.size, 1, none⟩ (.int .i64 (need)) = w9 at *;clear e0 e1 z0;have e0 := hk.c0; have e1 := hk.c1;rw [hs1.out];refine bodyPost_ret (v := .agg #[.int .i64 (0), .int .i64 (need)]) ?_ rfl ⟨rfl, HB9.out⟩;rw [zz0l rfl]; go_simp
def Kin1 (B : Nat) (a b : Value) : Prop := b = a ∨ ∀ q, b.ownBlock = some q → B ≤ q
def Kin (B : Nat) (v v' : Value) : Prop := ∃ a0 a1 a2 a3 n b0 b1 b2 b3 m, v = .agg #[a0, a1, a2, a3, n] ∧ v' = .agg #[b0, b1, b2, b3, m] ∧ Kin1 B a0 b0 ∧ Kin1 B a1 b1 ∧ Kin1 B a2 b2 ∧ Kin1 B a3 b3
theorem zz7p {ge ne : List Int → Bool} {x : List Int} {d : Bool} {l R acc : List (List Int)} {i : Nat} {r : List Int} (hi : l[i]? = some r) (h : acc ++ setK ge ne x d (l.drop i) = R) : acc ++ ((if !d && ge r then [x] else []) ++ ((if ne r then [r] else []) ++ setK ge ne x (d || ge r) (l.drop (i + 1)))) = R := by
 rw [← setK_step hi]; exact h
theorem zge (a b : Int) : (!decide (a < b)) = decide (b ≤ a) := by
 by_cases h : a < b
 ·rw [decide_eq_true h, decide_eq_false zw]; rfl
 ·rw [decide_eq_false h, decide_eq_true zw]; rfl
theorem zne (a b : Int) : (!decide (a = b)) = (a != b) := by
 by_cases h : a = b <;> simp [h]
theorem zz53 {w w0 wr : World} {e t t1 : TypeId} {v : Value} {k : Nat} {l : List (List Int)} {c1 : Array Value} {z0 z1 z2 z3 z4 : Value} (HB0 : Hid (Below w.heap.size w w0)) (hBr : Below w0.heap.size w0 wr) (K1 : ZB w0 w.heap.size c1 t1) (K3 : ZB w0 (w.heap.size + 2) #[z0, z1, z2, z3, z4] t) (HL : Hid (RowOwn wr w0.heap.size e v k l)) (fi : Nat) (x a0 a1 a2 a3 a4 : Value) :
  ∃ wF, (((((wr.setCell ⟨w.heap.size, fi, none⟩ x).setCell ⟨w.heap.size + 2, 0, none⟩ a0).setCell ⟨w.heap.size + 2, 1, none⟩ a1).setCell ⟨w.heap.size + 2, 2, none⟩ a2).setCell ⟨w.heap.size + 2, 3, none⟩ a3).setCell ⟨w.heap.size + 2, 4, none⟩ a4 = wF ∧ (∀ i, wF.cell? ⟨w.heap.size + 2, i, none⟩ = (#[a0, a1, a2, a3, a4] : Array Value)[i]?) ∧ Below w.heap.size w wF ∧ RowOwn wF w0.heap.size e v k l := by
 have n3 := zz09 (zK K3 hBr).out fi x (show w.heap.size + 2 ≠ w.heap.size by omega)
 refine ⟨_, rfl, zC (cs := #[a0, a1, a2, a3, a4]) (zz0c (zz0c (zz0c (zz0c (zz0c n3 0 a0) 1 a1) 2 a2) 3 a3) 4 a4), ?_, ?_⟩
 ·exact zz8j (Below.setCell (p := ⟨_, _, _⟩) (HB0.out.trans (hBr.mono HB0.out.size)) (Nat.le_refl _) _) (Nat.le_add_right _ 2) _ _ _ _ _
 ·exact (RowOwn.setBelow (a := ⟨_, _, _⟩) HL.out (zL K1.out) _).set5R (zL K3.out) _ _ _ _ _
theorem zDr {w : World} {a : World} {B b0 : Nat} {e : TypeId} {v : Value} {k : Nat} {l : List (List Int)} (h : Hid (Below B a w)) (ho : Hid (RowOwn w b0 e v k l)) (n : Nat) : Hid (Below B a (w.drewN n)) ∧ Hid (RowOwn (w.drewN n) b0 e v k l) := ⟨zz0b h.out n, ho.out.kept (zz0b (Below.refl _ _) n)⟩
theorem zt39 {p : Prop} (h : p := by
 go_wp2_with fail;go_roundw
 case rel => exact ⟨i + 1, _, _, by go_num, rfl, HO.out, by show _ ≤ _; omega, by have := hal.out; show _ ≤ _; first | omega | (simp; omega), by have h := hR.out; show _ = _; simpa using h, hBr.out⟩
 case measure => simp [intOf]; omega) : p := h
theorem zz1u (v : Value) (b : Bk) (x0 x1 x2 x3 : Int) (w : World) (hb : Hid (BkAt w v b)) (hl : b.h.length ≤ 1000000) :
  Calls Tryz.prog 43 #[v, .agg #[x0, x1, x2, x3]] w fun e w' => ∃ v', e = .returned v' ∧ BkAt w' v' { b with h := setH x0 [x0, x1, x2, x3] false b.h } ∧ Kin w.heap.size v v' ∧ Below w.heap.size w w' := by
 obtain ⟨vh, vs, vo, vr, rfl, h1, h2, h3, h4⟩ := hb.out;obtain ⟨Ah, ch, rfl, _⟩ := h1.rec';obtain ⟨As, cs, rfl, _⟩ := h2.rec';obtain ⟨Ao, co, rfl, _⟩ := h3.rec';obtain ⟨Ar, cr, rfl, _⟩ := h4.rec';obtain ⟨R, hR⟩ : ∃ R, setH x0 [x0, x1, x2, x3] false b.h = R := ⟨_, rfl⟩;obtain ⟨w0, hw0⟩ : ∃ w0, ((w.alloc (.cells (BF Ah ch As cs Ao co Ar cr b b.n) 27)).alloc (.cells #[x0, x1, x2, x3] 78)).alloc (.cells BZ 27) = w0 := ⟨_, rfl⟩;have HB0 : Hid (Below w.heap.size w w0) := by rw [← hw0]; exact zz01 (zz01 zBa (by simp) _) zo _
 have K1 : ZB w0 w.heap.size (BF Ah ch As cs Ao co Ar cr b b.n) 27 := by rw [← hw0]; exact zz05 (zz05 (zz02 _ _) _) _
 have K2 : ZB w0 (w.heap.size + 1) #[x0, x1, x2, x3] 78 := by rw [← hw0]; exact zz05 (zz0d _ _ _ (by simp)) _
 have K3 : ZB w0 (w.heap.size + 2) BZ 27 := by rw [← hw0]; exact zz0d _ _ _ (by simp)
 obtain ⟨A', c', hA', hi⟩ := (h1.call HB0.out).rec';injection hA' with hA1 _ hA3
 subst hA1 hA3;have HI := zH hi;have HBK : Hid (BkAt w (.agg (BF Ah ch As cs Ao co Ar cr b b.n)) b) := hb;have HR := zH hR;replace hw0 := zH hw0;clear hb h1 h2 h3 h4 hi hR;have q0 := zC K2.out;rw [← hw0.out] at q0;go_in;go_wp2_with fail;rw [hw0.out];clear q0;go_loopw [5, 6, 7] (fun s5 s6 s7 wr => ∃ (i : Nat) (acc : List (List Int)) (done : Bool), s7 = .int .i64 i ∧ s6 = .bool done ∧ Hid (RowOwn wr w0.heap.size 78 s5 4 acc) ∧ Hid (i ≤ b.h.length) ∧ Hid (acc.length ≤ 2 * i) ∧ Hid (acc ++ setK (fun r => !decide (r.headD 0 < x0)) (fun r => !isId x0 r) [x0, x1, x2, x3] done (b.h.drop i) = R) ∧ Hid (Below w0.heap.size w0 wr)) (fun _ _ s7 _ => b.h.length - (intOf s7).toNat)
 case atStart => exact ⟨0, [], _, rfl, rfl, ⟨World.ownsRow_nil _ _ _ _, fun r hr => by simp at hr⟩, Nat.zero_le _, Nat.zero_le _, zH (Eq.trans rfl HR.out), Below.refl _ _⟩
 case round =>
  obtain ⟨i, acc, done, rfl, rfl, HO, hil, hal, hrest, hBr⟩ := hrel;replace hil := hil.out;by_cases hin : i < b.h.length
  ·have tn : decide ((i : Int) < (b.h.length : Int)) = true := decide_eq_true zw
   have hge : b.h[i]? = some b.h[i] := List.getElem?_eq_getElem hin;obtain ⟨hk, b0, o0, rfl, hbl, hc⟩ := HI.out i _ hge;have hR := zz7p hge hrest.out;clear hge hrest;generalize b.h[i] = r at *;obtain ⟨y0, y1, y2, y3, rfl⟩ : ∃ y0 y1 y2 y3, r = [y0, y1, y2, y3] := by
    match r, hk with
    | [y0, y1, y2, y3], _ => exact ⟨y0, y1, y2, y3, rfl⟩
   have HCC := zH hc;clear hk hc;cases done <;> rcases Int.lt_trichotomy y0 x0 with ho | ho | ho
   all_goals
    have eg : (!decide (([y0, y1, y2, y3] : List Int).headD 0 < x0)) = decide (x0 ≤ y0) := zge y0 x0;have en : (!isId x0 [y0, y1, y2, y3]) = (y0 != x0) := zne y0 x0;rw [eg, en] at hR
    first
    | (have tg : decide (x0 ≤ y0) = true := decide_eq_true zw; rw [tg] at hR; have tg' : x0 ≤ y0 := by omega)
    | (have tg : decide (x0 ≤ y0) = false := decide_eq_false zw; rw [tg] at hR; have tg' : ¬ x0 ≤ y0 := by omega)
    first
    | (have tne : (y0 != x0) = true := by simp; omega); rw [tne] at hR
    | (have tne : (y0 != x0) = false := by simp; omega); rw [tne] at hR
    clear eg en;replace hR := zH hR
    iterate 5
     try
      have cb := zC (zK K1 hBr.out).out; have q0 := zC (zK K2 hBr.out).out; obtain ⟨c0, c1, c2, c3⟩ := zR4 hBr.out hbl HCC.out;go_wp2_with (at_builtin; first | refine zz0f (W := w0) _ _ _ _ _ _ _ zz1x [y0, y1, y2, y3] _ _ hBr.out HO hBr.out.size rfl rfl rfl rfl rfl ?ln zx ?_ | refine zz0f (W := w0) _ _ _ _ _ _ _ zz1x [x0, x1, x2, x3] _ _ hBr.out HO hBr.out.size rfl rfl rfl rfl rfl ?ln zx ?_)
      first
      | (case ln => have := hal.out; first | omega | (simp; omega)
         intro v3 w3 hO3 hB3 hS3;replace HO := hO3;replace hBr := hB3;clear hO3 hB3 hS3)
      | (go_quiet (fail)
         obtain ⟨h1, h2⟩ := zDr hBr HO nq;replace HO := h2;replace hBr := h1;clear h1 h2;generalize World.drewN _ nq = wq at *)
      clear cb q0 c0 c1 c2 c3
    have cb := zC (zK K1 hBr.out).out; have q0 := zC (zK K2 hBr.out).out; obtain ⟨c0, c1, c2, c3⟩ := zR4 hBr.out hbl HCC.out;exact zt39
  ·have tn : decide ((i : Int) < (b.h.length : Int)) = false := decide_eq_false zw
   have hR := hrest.out;rw [List.drop_eq_nil_of_le zw] at hR;clear hrest;cases done
   all_goals
    have cb := zC (zK K1 hBr.out).out; have q0 := zC (zK K2 hBr.out).out
    first
    | (go_wp2_with (at_builtin; refine zz0f (W := w0) _ _ _ _ _ _ _ zz1x [x0, x1, x2, x3] _ _ hBr.out HO hBr.out.size rfl rfl rfl rfl rfl ?ln zx ?_)
       (case ln => have := hal.out; omega)
       intro v3 w3 hO3 hB3 hS3;replace HO := hO3;replace hBr := hB3;clear hO3 hB3 hS3)
    | skip
    clear cb q0;obtain ⟨L1, e1, HL⟩ : ∃ L1, L1 = R ∧ Hid (RowOwn _ w0.heap.size 78 _ 4 L1) := ⟨_, by simpa [setK] using hR, HO⟩
    subst e1;clear hR HO;obtain ⟨A5, c5', rfl⟩ := HL.out.form;have n1 := zK K1 hBr.out;have n3 := zK K3 hBr.out;have p0 := zC n1.out;have pf := zF n1.out;have v0 := zC n3.out;have vf := zF n3.out;go_wp2_with fail;obtain ⟨wF, e5, h5, HF, GF⟩ := zz53 HB0 hBr.out K1 K3 HL 0 (.slice A5 L1.length c5') (.slice A5 L1.length c5') (.slice As b.s.length cs) (.slice Ao b.o.length co) (.slice Ar b.r.length cr) (.int .i64 b.n);rw [e5];refine bodyPost_ret (v := .agg #[.slice A5 L1.length c5', .slice As b.s.length cs, .slice Ao b.o.length co, .slice Ar b.r.length cr, b.n]) ?_ rfl ⟨_, rfl, ?_, ⟨_, _, _, _, _, _, _, _, _, _, rfl, rfl, .inr (fun q hq => Nat.le_trans HB0.out.size (GF.1.lt q hq).1), .inl rfl, .inl rfl, .inl rfl⟩, HF⟩
    ·simp [results, Tryz.results43, go_sem, h5]
    ·obtain ⟨_, _, _, _, hh, g1, g2, g3, g4⟩ := HBK.out.call HF
     injection hh with hh
     simp only [Array.mk.injEq, List.cons.injEq] at hh;obtain ⟨rfl, rfl, rfl, rfl, _⟩ := hh;have GG := GF.row;have hacc := HR.out;generalize L1 = L0 at *;subst hacc;exact ⟨_, _, _, _, rfl, GG, g2, g3, g4⟩
theorem zz74 (v : Value) (b : Bk) (x0 x1 : Int) (w : World) (hb : Hid (BkAt w v b)) (hl : b.r.length ≤ 1000000) :
  Calls Tryz.prog 44 #[v, .agg #[x0, x1]] w fun e w' => ∃ v', e = .returned v' ∧ BkAt w' v' { b with r := setH x0 [x0, x1] false b.r } ∧ Kin w.heap.size v v' ∧ Below w.heap.size w w' := by
 obtain ⟨vh, vs, vo, vr, rfl, h1, h2, h3, h4⟩ := hb.out;obtain ⟨Ah, ch, rfl, _⟩ := h1.rec';obtain ⟨As, cs, rfl, _⟩ := h2.rec';obtain ⟨Ao, co, rfl, _⟩ := h3.rec';obtain ⟨Ar, cr, rfl, _⟩ := h4.rec';obtain ⟨R, hR⟩ : ∃ R, setH x0 [x0, x1] false b.r = R := ⟨_, rfl⟩;obtain ⟨w0, hw0⟩ : ∃ w0, ((w.alloc (.cells (BF Ah ch As cs Ao co Ar cr b b.n) 27)).alloc (.cells #[x0, x1] 84)).alloc (.cells BZ 27) = w0 := ⟨_, rfl⟩;have HB0 : Hid (Below w.heap.size w w0) := by rw [← hw0]; exact zz01 (zz01 zBa (by simp) _) zo _
 have K1 : ZB w0 w.heap.size (BF Ah ch As cs Ao co Ar cr b b.n) 27 := by rw [← hw0]; exact zz05 (zz05 (zz02 _ _) _) _
 have K2 : ZB w0 (w.heap.size + 1) #[x0, x1] 84 := by rw [← hw0]; exact zz05 (zz0d _ _ _ (by simp)) _
 have K3 : ZB w0 (w.heap.size + 2) BZ 27 := by rw [← hw0]; exact zz0d _ _ _ (by simp)
 obtain ⟨A', c', hA', hi⟩ := (h4.call HB0.out).rec';injection hA' with hA1 _ hA3
 subst hA1 hA3;have HI := zH hi;have HBK : Hid (BkAt w (.agg (BF Ah ch As cs Ao co Ar cr b b.n)) b) := hb;have HR := zH hR;replace hw0 := zH hw0;clear hb h1 h2 h3 h4 hi hR;have q0 := zC K2.out;rw [← hw0.out] at q0;go_in;go_wp2_with fail;rw [hw0.out];clear q0;go_loopw [5, 6, 7] (fun s5 s6 s7 wr => ∃ (i : Nat) (acc : List (List Int)) (done : Bool), s7 = .int .i64 i ∧ s6 = .bool done ∧ Hid (RowOwn wr w0.heap.size 84 s5 2 acc) ∧ Hid (i ≤ b.r.length) ∧ Hid (acc.length ≤ 2 * i) ∧ Hid (acc ++ setK (fun r => !decide (r.headD 0 < x0)) (fun r => !isId x0 r) [x0, x1] done (b.r.drop i) = R) ∧ Hid (Below w0.heap.size w0 wr)) (fun _ _ s7 _ => b.r.length - (intOf s7).toNat)
 case atStart => exact ⟨0, [], _, rfl, rfl, ⟨World.ownsRow_nil _ _ _ _, fun r hr => by simp at hr⟩, Nat.zero_le _, Nat.zero_le _, zH (Eq.trans rfl HR.out), Below.refl _ _⟩
 case round =>
  obtain ⟨i, acc, done, rfl, rfl, HO, hil, hal, hrest, hBr⟩ := hrel;replace hil := hil.out;by_cases hin : i < b.r.length
  ·have tn : decide ((i : Int) < (b.r.length : Int)) = true := decide_eq_true zw
   have hge : b.r[i]? = some b.r[i] := List.getElem?_eq_getElem hin;obtain ⟨hk, b0, o0, rfl, hbl, hc⟩ := HI.out i _ hge;have hR := zz7p hge hrest.out;clear hge hrest;generalize b.r[i] = r at *;obtain ⟨y0, y1, rfl⟩ : ∃ y0 y1, r = [y0, y1] := by
    match r, hk with
    | [y0, y1], _ => exact ⟨y0, y1, rfl⟩
   have HCC := zH hc;clear hk hc;cases done <;> rcases Int.lt_trichotomy y0 x0 with ho | ho | ho
   all_goals
    have eg : (!decide (([y0, y1] : List Int).headD 0 < x0)) = decide (x0 ≤ y0) := zge y0 x0;have en : (!isId x0 [y0, y1]) = (y0 != x0) := zne y0 x0;rw [eg, en] at hR
    first
    | (have tg : decide (x0 ≤ y0) = true := decide_eq_true zw; rw [tg] at hR; have tg' : x0 ≤ y0 := by omega)
    | (have tg : decide (x0 ≤ y0) = false := decide_eq_false zw; rw [tg] at hR; have tg' : ¬ x0 ≤ y0 := by omega)
    first
    | (have tne : (y0 != x0) = true := by simp; omega); rw [tne] at hR
    | (have tne : (y0 != x0) = false := by simp; omega); rw [tne] at hR
    clear eg en;replace hR := zH hR
    iterate 5
     try
      have cb := zC (zK K1 hBr.out).out; have q0 := zC (zK K2 hBr.out).out; obtain ⟨c0, c1⟩ := zR2 hBr.out hbl HCC.out;go_wp2_with (at_builtin; first | refine zz0f (W := w0) _ _ _ _ _ _ _ zz48 [y0, y1] _ _ hBr.out HO hBr.out.size rfl rfl rfl rfl rfl ?ln zx ?_ | refine zz0f (W := w0) _ _ _ _ _ _ _ zz48 [x0, x1] _ _ hBr.out HO hBr.out.size rfl rfl rfl rfl rfl ?ln zx ?_)
      first
      | (case ln => have := hal.out; first | omega | (simp; omega)
         intro v3 w3 hO3 hB3 hS3;replace HO := hO3;replace hBr := hB3;clear hO3 hB3 hS3)
      | (go_quiet (fail)
         obtain ⟨h1, h2⟩ := zDr hBr HO nq;replace HO := h2;replace hBr := h1;clear h1 h2;generalize World.drewN _ nq = wq at *)
      clear cb q0 c0 c1
    have cb := zC (zK K1 hBr.out).out; have q0 := zC (zK K2 hBr.out).out; obtain ⟨c0, c1⟩ := zR2 hBr.out hbl HCC.out;exact zt39
  ·have tn : decide ((i : Int) < (b.r.length : Int)) = false := decide_eq_false zw
   have hR := hrest.out;rw [List.drop_eq_nil_of_le zw] at hR;clear hrest;cases done
   all_goals
    have cb := zC (zK K1 hBr.out).out; have q0 := zC (zK K2 hBr.out).out
    first
    | (go_wp2_with (at_builtin; refine zz0f (W := w0) _ _ _ _ _ _ _ zz48 [x0, x1] _ _ hBr.out HO hBr.out.size rfl rfl rfl rfl rfl ?ln zx ?_)
       (case ln => have := hal.out; omega)
       intro v3 w3 hO3 hB3 hS3;replace HO := hO3;replace hBr := hB3;clear hO3 hB3 hS3)
    | skip
    clear cb q0;obtain ⟨L1, e1, HL⟩ : ∃ L1, L1 = R ∧ Hid (RowOwn _ w0.heap.size 84 _ 2 L1) := ⟨_, by simpa [setK] using hR, HO⟩
    subst e1;clear hR HO;obtain ⟨A5, c5', rfl⟩ := HL.out.form;have n1 := zK K1 hBr.out;have n3 := zK K3 hBr.out;have p0 := zC n1.out;have pf := zF n1.out;have v0 := zC n3.out;have vf := zF n3.out;go_wp2_with fail;obtain ⟨wF, e5, h5, HF, GF⟩ := zz53 HB0 hBr.out K1 K3 HL 3 (.slice A5 L1.length c5') (.slice Ah b.h.length ch) (.slice As b.s.length cs) (.slice Ao b.o.length co) (.slice A5 L1.length c5') (.int .i64 b.n);rw [e5];refine bodyPost_ret (v := .agg #[.slice Ah b.h.length ch, .slice As b.s.length cs, .slice Ao b.o.length co, .slice A5 L1.length c5', b.n]) ?_ rfl ⟨_, rfl, ?_, ⟨_, _, _, _, _, _, _, _, _, _, rfl, rfl, .inl rfl, .inl rfl, .inl rfl, .inr (fun q hq => Nat.le_trans HB0.out.size (GF.1.lt q hq).1)⟩, HF⟩
    ·simp [results, Tryz.results44, go_sem, h5]
    ·obtain ⟨_, _, _, _, hh, g1, g2, g3, g4⟩ := HBK.out.call HF
     injection hh with hh
     simp only [Array.mk.injEq, List.cons.injEq] at hh;obtain ⟨rfl, rfl, rfl, rfl, _⟩ := hh;have GG := GF.row;have hacc := HR.out;generalize L1 = L0 at *;subst hacc;exact ⟨_, _, _, _, rfl, g1, g2, g3, GG⟩
theorem zz2k (v : Value) (b : Bk) (x0 x1 x2 x3 x4 x5 : Int) (w : World) (hb : Hid (BkAt w v b)) (hl : b.o.length ≤ 1000000) :
  Calls Tryz.prog 45 #[v, .agg #[x0, x1, x2, x3, x4, x5]] w fun e w' => ∃ v', e = .returned v' ∧ BkAt w' v' { b with o := setH x0 [x0, x1, x2, x3, x4, x5] (x4 == 0) b.o } ∧ Kin w.heap.size v v' ∧ Below w.heap.size w w' := by
 obtain ⟨vh, vs, vo, vr, rfl, h1, h2, h3, h4⟩ := hb.out;obtain ⟨Ah, ch, rfl, _⟩ := h1.rec';obtain ⟨As, cs, rfl, _⟩ := h2.rec';obtain ⟨Ao, co, rfl, _⟩ := h3.rec';obtain ⟨Ar, cr, rfl, _⟩ := h4.rec';obtain ⟨R, hR⟩ : ∃ R, setH x0 [x0, x1, x2, x3, x4, x5] (x4 == 0) b.o = R := ⟨_, rfl⟩;obtain ⟨w0, hw0⟩ : ∃ w0, ((w.alloc (.cells (BF Ah ch As cs Ao co Ar cr b b.n) 27)).alloc (.cells #[x0, x1, x2, x3, x4, x5] 82)).alloc (.cells BZ 27) = w0 := ⟨_, rfl⟩;have HB0 : Hid (Below w.heap.size w w0) := by rw [← hw0]; exact zz01 (zz01 zBa (by simp) _) zo _
 have K1 : ZB w0 w.heap.size (BF Ah ch As cs Ao co Ar cr b b.n) 27 := by rw [← hw0]; exact zz05 (zz05 (zz02 _ _) _) _
 have K2 : ZB w0 (w.heap.size + 1) #[x0, x1, x2, x3, x4, x5] 82 := by rw [← hw0]; exact zz05 (zz0d _ _ _ (by simp)) _
 have K3 : ZB w0 (w.heap.size + 2) BZ 27 := by rw [← hw0]; exact zz0d _ _ _ (by simp)
 obtain ⟨A', c', hA', hi⟩ := (h3.call HB0.out).rec';injection hA' with hA1 _ hA3
 subst hA1 hA3;have HI := zH hi;have HBK : Hid (BkAt w (.agg (BF Ah ch As cs Ao co Ar cr b b.n)) b) := hb;have HR := zH hR;replace hw0 := zH hw0;clear hb h1 h2 h3 h4 hi hR;have q0 := zC K2.out;rw [← hw0.out] at q0;go_in;go_wp2_with fail;rw [hw0.out];clear q0;go_loopw [5, 6, 7] (fun s5 s6 s7 wr => ∃ (i : Nat) (acc : List (List Int)) (done : Bool), s7 = .int .i64 i ∧ s6 = .bool done ∧ Hid (RowOwn wr w0.heap.size 82 s5 6 acc) ∧ Hid (i ≤ b.o.length) ∧ Hid (acc.length ≤ 2 * i) ∧ Hid (acc ++ setK (fun r => !decide (r.headD 0 < x0)) (fun r => !isId x0 r) [x0, x1, x2, x3, x4, x5] done (b.o.drop i) = R) ∧ Hid (Below w0.heap.size w0 wr)) (fun _ _ s7 _ => b.o.length - (intOf s7).toNat)
 case atStart => exact ⟨0, [], _, rfl, rfl, ⟨World.ownsRow_nil _ _ _ _, fun r hr => by simp at hr⟩, Nat.zero_le _, Nat.zero_le _, zH (Eq.trans rfl HR.out), Below.refl _ _⟩
 case round =>
  obtain ⟨i, acc, done, rfl, rfl, HO, hil, hal, hrest, hBr⟩ := hrel;replace hil := hil.out;by_cases hin : i < b.o.length
  ·have tn : decide ((i : Int) < (b.o.length : Int)) = true := decide_eq_true zw
   have hge : b.o[i]? = some b.o[i] := List.getElem?_eq_getElem hin;obtain ⟨hk, b0, o0, rfl, hbl, hc⟩ := HI.out i _ hge;have hR := zz7p hge hrest.out;clear hge hrest;generalize b.o[i] = r at *;obtain ⟨y0, y1, y2, y3, y4, y5, rfl⟩ : ∃ y0 y1 y2 y3 y4 y5, r = [y0, y1, y2, y3, y4, y5] := by
    match r, hk with
    | [y0, y1, y2, y3, y4, y5], _ => exact ⟨y0, y1, y2, y3, y4, y5, rfl⟩
   have HCC := zH hc;clear hk hc;cases done <;> rcases Int.lt_trichotomy y0 x0 with ho | ho | ho
   all_goals
    have eg : (!decide (([y0, y1, y2, y3, y4, y5] : List Int).headD 0 < x0)) = decide (x0 ≤ y0) := zge y0 x0;have en : (!isId x0 [y0, y1, y2, y3, y4, y5]) = (y0 != x0) := zne y0 x0;rw [eg, en] at hR
    first
    | (have tg : decide (x0 ≤ y0) = true := decide_eq_true zw; rw [tg] at hR; have tg' : x0 ≤ y0 := by omega)
    | (have tg : decide (x0 ≤ y0) = false := decide_eq_false zw; rw [tg] at hR; have tg' : ¬ x0 ≤ y0 := by omega)
    first
    | (have tne : (y0 != x0) = true := by simp; omega); rw [tne] at hR
    | (have tne : (y0 != x0) = false := by simp; omega); rw [tne] at hR
    clear eg en;replace hR := zH hR
    iterate 5
     try
      have cb := zC (zK K1 hBr.out).out; have q0 := zC (zK K2 hBr.out).out; obtain ⟨c0, c1, c2, c3, c4, c5⟩ := zR6 hBr.out hbl HCC.out;go_wp2_with (at_builtin; first | refine zz0f (W := w0) _ _ _ _ _ _ _ el_Open [y0, y1, y2, y3, y4, y5] _ _ hBr.out HO hBr.out.size rfl rfl rfl rfl rfl ?ln zx ?_ | refine zz0f (W := w0) _ _ _ _ _ _ _ el_Open [x0, x1, x2, x3, x4, x5] _ _ hBr.out HO hBr.out.size rfl rfl rfl rfl rfl ?ln zx ?_)
      first
      | (case ln => have := hal.out; first | omega | (simp; omega)
         intro v3 w3 hO3 hB3 hS3;replace HO := hO3;replace hBr := hB3;clear hO3 hB3 hS3)
      | (go_quiet (fail)
         obtain ⟨h1, h2⟩ := zDr hBr HO nq;replace HO := h2;replace hBr := h1;clear h1 h2;generalize World.drewN _ nq = wq at *)
      clear cb q0 c0 c1 c2 c3 c4 c5
    have cb := zC (zK K1 hBr.out).out; have q0 := zC (zK K2 hBr.out).out; obtain ⟨c0, c1, c2, c3, c4, c5⟩ := zR6 hBr.out hbl HCC.out;exact zt39
  ·have tn : decide ((i : Int) < (b.o.length : Int)) = false := decide_eq_false zw
   have hR := hrest.out;rw [List.drop_eq_nil_of_le zw] at hR;clear hrest;cases done
   all_goals
    have cb := zC (zK K1 hBr.out).out; have q0 := zC (zK K2 hBr.out).out
    first
    | (go_wp2_with (at_builtin; refine zz0f (W := w0) _ _ _ _ _ _ _ el_Open [x0, x1, x2, x3, x4, x5] _ _ hBr.out HO hBr.out.size rfl rfl rfl rfl rfl ?ln zx ?_)
       (case ln => have := hal.out; omega)
       intro v3 w3 hO3 hB3 hS3;replace HO := hO3;replace hBr := hB3;clear hO3 hB3 hS3)
    | skip
    clear cb q0;obtain ⟨L1, e1, HL⟩ : ∃ L1, L1 = R ∧ Hid (RowOwn _ w0.heap.size 82 _ 6 L1) := ⟨_, by simpa [setK] using hR, HO⟩
    subst e1;clear hR HO;obtain ⟨A5, c5', rfl⟩ := HL.out.form;have n1 := zK K1 hBr.out;have n3 := zK K3 hBr.out;have p0 := zC n1.out;have pf := zF n1.out;have v0 := zC n3.out;have vf := zF n3.out;go_wp2_with fail;obtain ⟨wF, e5, h5, HF, GF⟩ := zz53 HB0 hBr.out K1 K3 HL 2 (.slice A5 L1.length c5') (.slice Ah b.h.length ch) (.slice As b.s.length cs) (.slice A5 L1.length c5') (.slice Ar b.r.length cr) (.int .i64 b.n);rw [e5];refine bodyPost_ret (v := .agg #[.slice Ah b.h.length ch, .slice As b.s.length cs, .slice A5 L1.length c5', .slice Ar b.r.length cr, b.n]) ?_ rfl ⟨_, rfl, ?_, ⟨_, _, _, _, _, _, _, _, _, _, rfl, rfl, .inl rfl, .inl rfl, .inr (fun q hq => Nat.le_trans HB0.out.size (GF.1.lt q hq).1), .inl rfl⟩, HF⟩
    ·simp [results, Tryz.results45, go_sem, h5]
    ·obtain ⟨_, _, _, _, hh, g1, g2, g3, g4⟩ := HBK.out.call HF
     injection hh with hh
     simp only [Array.mk.injEq, List.cons.injEq] at hh;obtain ⟨rfl, rfl, rfl, rfl, _⟩ := hh;have GG := GF.row;have hacc := HR.out;generalize L1 = L0 at *;subst hacc;exact ⟨_, _, _, _, rfl, g1, g2, GG, g4⟩
theorem zz6b (v : Value) (b : Bk) (x0 x1 x2 : Int) (w : World) (hb : Hid (BkAt w v b)) (hl : b.s.length ≤ 1000000) :
  Calls Tryz.prog 47 #[v, .agg #[x0, x1, x2]] w fun e w' => ∃ v', e = .returned v' ∧ BkAt w' v' { b with s := setS x0 x1 [x0, x1, x2] (x2 == 0) b.s } ∧ Kin w.heap.size v v' ∧ Below w.heap.size w w' := by
 obtain ⟨vh, vs, vo, vr, rfl, h1, h2, h3, h4⟩ := hb.out;obtain ⟨Ah, ch, rfl, _⟩ := h1.rec';obtain ⟨As, cs, rfl, _⟩ := h2.rec';obtain ⟨Ao, co, rfl, _⟩ := h3.rec';obtain ⟨Ar, cr, rfl, _⟩ := h4.rec';obtain ⟨R, hR⟩ : ∃ R, setS x0 x1 [x0, x1, x2] (x2 == 0) b.s = R := ⟨_, rfl⟩;obtain ⟨w0, hw0⟩ : ∃ w0, ((w.alloc (.cells (BF Ah ch As cs Ao co Ar cr b b.n) 27)).alloc (.cells #[x0, x1, x2] 80)).alloc (.cells BZ 27) = w0 := ⟨_, rfl⟩;have HB0 : Hid (Below w.heap.size w w0) := by rw [← hw0]; exact zz01 (zz01 zBa (by simp) _) zo _
 have K1 : ZB w0 w.heap.size (BF Ah ch As cs Ao co Ar cr b b.n) 27 := by rw [← hw0]; exact zz05 (zz05 (zz02 _ _) _) _
 have K2 : ZB w0 (w.heap.size + 1) #[x0, x1, x2] 80 := by rw [← hw0]; exact zz05 (zz0d _ _ _ (by simp)) _
 have K3 : ZB w0 (w.heap.size + 2) BZ 27 := by rw [← hw0]; exact zz0d _ _ _ (by simp)
 obtain ⟨A', c', hA', hi⟩ := (h2.call HB0.out).rec';injection hA' with hA1 _ hA3
 subst hA1 hA3;have HI := zH hi;have HBK : Hid (BkAt w (.agg (BF Ah ch As cs Ao co Ar cr b b.n)) b) := hb;have HR := zH hR;replace hw0 := zH hw0;clear hb h1 h2 h3 h4 hi hR;have q0 := zC K2.out;rw [← hw0.out] at q0;go_in;go_wp2_with fail;rw [hw0.out];clear q0;go_loopw [5, 6, 7] (fun s5 s6 s7 wr => ∃ (i : Nat) (acc : List (List Int)) (done : Bool), s7 = .int .i64 i ∧ s6 = .bool done ∧ Hid (RowOwn wr w0.heap.size 80 s5 3 acc) ∧ Hid (i ≤ b.s.length) ∧ Hid (acc.length ≤ 2 * i) ∧ Hid (acc ++ setK (fun r => !decide (r.headD 0 < x0 ∨ r.headD 0 = x0 ∧ r.tail.headD 0 < x1)) (fun r => !isKey x0 x1 r) [x0, x1, x2] done (b.s.drop i) = R) ∧ Hid (Below w0.heap.size w0 wr)) (fun _ _ s7 _ => b.s.length - (intOf s7).toNat)
 case atStart => exact ⟨0, [], _, rfl, rfl, ⟨World.ownsRow_nil _ _ _ _, fun r hr => by simp at hr⟩, Nat.zero_le _, Nat.zero_le _, zH (Eq.trans rfl HR.out), Below.refl _ _⟩
 case round =>
  obtain ⟨i, acc, done, rfl, rfl, HO, hil, hal, hrest, hBr⟩ := hrel;replace hil := hil.out;by_cases hin : i < b.s.length
  ·have tn : decide ((i : Int) < (b.s.length : Int)) = true := decide_eq_true zw
   have hge : b.s[i]? = some b.s[i] := List.getElem?_eq_getElem hin;obtain ⟨hk, b0, o0, rfl, hbl, hc⟩ := HI.out i _ hge;have hR := zz7p hge hrest.out;clear hge hrest;generalize b.s[i] = r at *;obtain ⟨y0, y1, y2, rfl⟩ : ∃ y0 y1 y2, r = [y0, y1, y2] := by
    match r, hk with
    | [y0, y1, y2], _ => exact ⟨y0, y1, y2, rfl⟩
   have HCC := zH hc;clear hk hc;have hBw := hBr;have c0 := zR3 hBr.out hbl HCC.out;have cbw := zC (zK K1 hBr.out).out;have qw := zC (zK K2 hBr.out).out;have l0 := zL (zK K1 hBr.out).out;have l1 := zL (zK K2 hBr.out).out;have l2 := Nat.lt_of_lt_of_le hbl hBr.out.size;have KX : Hid ((wr.alloc (.cells #[y0, y1, y2] 80)).heap[wr.heap.size]? = some (.cells #[y0, y1, y2] 80 (0, 0))) := zz02 _ _;have hNE : Hid (u5.ownBlock ≠ some wr.heap.size) := (show _ ≠ _ from fun h => by have := (HO.out.1.lt _ h).2; omega)
   replace HO : Hid (RowOwn (wr.alloc (.cells #[y0, y1, y2] 80)) w0.heap.size 80 u5 3 acc) := HO.out.kept zBa;replace hBr : Hid (Below w0.heap.size w0 (wr.alloc (.cells #[y0, y1, y2] 80))) := zz01 hBw.out hBw.out.size _;cases done <;> rcases Int.lt_trichotomy y0 x0 with ho | ho | ho <;> rcases Int.lt_trichotomy y1 x1 with hp | hp | hp
   all_goals
    first | have tA : decide (x0 < y0) = true := decide_eq_true zw | have tA : decide (x0 < y0) = false := decide_eq_false zw
    first | have tE : (y0 == x0) = true := by simp; omega | have tE : (y0 == x0) = false := by simp; omega
    first | have tN0 : (y0 != x0) = true := by simp; omega | have tN0 : (y0 != x0) = false := by simp; omega
    first | have tG : decide (x1 ≤ y1) = true := decide_eq_true zw | have tG : decide (x1 ≤ y1) = false := decide_eq_false zw
    first | have tN1 : (y1 != x1) = true := by simp; omega | have tN1 : (y1 != x1) = false := by simp; omega
    first | (have eg : (!decide (([y0, y1, y2] : List Int).headD 0 < x0 ∨ ([y0, y1, y2] : List Int).headD 0 = x0 ∧ ([y0, y1, y2] : List Int).tail.headD 0 < x1)) = true := by simp; omega); rw [eg] at hR | (have eg : (!decide (([y0, y1, y2] : List Int).headD 0 < x0 ∨ ([y0, y1, y2] : List Int).headD 0 = x0 ∧ ([y0, y1, y2] : List Int).tail.headD 0 < x1)) = false := by simp; omega); rw [eg] at hR
    first | (have en : (!isKey x0 x1 [y0, y1, y2]) = true := by simp [isKey]; omega); rw [en] at hR | (have en : (!isKey x0 x1 [y0, y1, y2]) = false := by simp [isKey]; omega); rw [en] at hR
    clear eg en;replace hR := zH hR;clear ho hp
    iterate 2
     try
      have cb := zC (zK K1 hBr.out).out; have q0 := zC (zK K2 hBr.out).out; have kx := zC KX.out;go_wp2_with (at_builtin; first | refine zz15 (W := w0) _ _ _ _ _ _ _ el_Stake [y0, y1, y2] _ _ hBr.out HO hBr.out.size rfl rfl rfl rfl (by first | rfl | simp) rfl ?ln zx ?_ | refine zz15 (W := w0) _ _ _ _ _ _ _ el_Stake [x0, x1, x2] _ _ hBr.out HO hBr.out.size rfl rfl rfl rfl (by first | rfl | simp) rfl ?ln zx ?_)
      (case ln => have := hal.out; first | omega | (simp; omega))
      intro v3 w3 hO3 hB3 hS3 ho3
      try replace KX := zH (ho3.out _ _ hNE.out KX.out)
      replace HO := hO3;replace hBr := hB3;clear hO3 hB3 hS3 ho3 cb q0 kx
    have cb := zC (zK K1 hBr.out).out; have q0 := zC (zK K2 hBr.out).out; have kx := zC KX.out;exact zt39
  ·have tn : decide ((i : Int) < (b.s.length : Int)) = false := decide_eq_false zw
   have hR := hrest.out;rw [List.drop_eq_nil_of_le zw] at hR;clear hrest;cases done
   all_goals
    have cb := zC (zK K1 hBr.out).out; have q0 := zC (zK K2 hBr.out).out
    first
    | (go_wp2_with (at_builtin; refine zz15 (W := w0) _ _ _ _ _ _ _ el_Stake [x0, x1, x2] _ _ hBr.out HO hBr.out.size rfl rfl rfl rfl (by first | rfl | simp) rfl ?ln zx ?_)
       (case ln => have := hal.out; omega)
       intro v3 w3 hO3 hB3 hS3 ho3;replace HO := hO3;replace hBr := hB3;clear hO3 hB3 hS3 ho3)
    | skip
    clear cb q0;obtain ⟨L1, e1, HL⟩ : ∃ L1, L1 = R ∧ Hid (RowOwn _ w0.heap.size 80 _ 3 L1) := ⟨_, by simpa [setK] using hR, HO⟩
    subst e1;clear hR HO;obtain ⟨A5, c5', rfl⟩ := HL.out.form;have n1 := zK K1 hBr.out;have n3 := zK K3 hBr.out;have p0 := zC n1.out;have pf := zF n1.out;have v0 := zC n3.out;have vf := zF n3.out;go_wp2_with fail;obtain ⟨wF, e5, h5, HF, GF⟩ := zz53 HB0 hBr.out K1 K3 HL 1 (.slice A5 L1.length c5') (.slice Ah b.h.length ch) (.slice A5 L1.length c5') (.slice Ao b.o.length co) (.slice Ar b.r.length cr) (.int .i64 b.n);rw [e5];refine bodyPost_ret (v := .agg #[.slice Ah b.h.length ch, .slice A5 L1.length c5', .slice Ao b.o.length co, .slice Ar b.r.length cr, b.n]) ?_ rfl ⟨_, rfl, ?_, ⟨_, _, _, _, _, _, _, _, _, _, rfl, rfl, .inl rfl, .inr (fun q hq => Nat.le_trans HB0.out.size (GF.1.lt q hq).1), .inl rfl, .inl rfl⟩, HF⟩
    ·simp [results, Tryz.results47, go_sem, h5]
    ·obtain ⟨_, _, _, _, hh, g1, g2, g3, g4⟩ := HBK.out.call HF
     injection hh with hh
     simp only [Array.mk.injEq, List.cons.injEq] at hh;obtain ⟨rfl, rfl, rfl, rfl, _⟩ := hh;have GG := GF.row;have hacc := HR.out;generalize L1 = L0 at *;subst hacc;exact ⟨_, _, _, _, rfl, g1, GG, g3, g4⟩
theorem zz7s {g p i : Nat} (hne : p ≠ g) : ∀ (us : List Value) (o : Nat) (w : World), (putC w g o us).cell? ⟨p, i, none⟩ = w.cell? ⟨p, i, none⟩
 | [], _, _ => rfl
 | u :: us, o, w => by
  show (putC (w.setCell ⟨g, o, none⟩ u) g (o + 1) us).cell? ⟨p, i, none⟩ = _;rw [zz7s hne us (o + 1)];unfold World.cell?;have := zz03 (vs := [u]) (o := o) (w := w) hne (x := w.heap[p]?) rfl;simp only [putC] at this;simp [this]
theorem zz5a {g : Nat} : ∀ (us : List Value) (o : Nat) (w : World), (putC w g o us).heap.size = w.heap.size
 | [], _, _ => rfl
 | u :: us, o, w => by
  show (putC (w.setCell ⟨g, o, none⟩ u) g (o + 1) us).heap.size = _;rw [zz5a us (o + 1)];simp
theorem RowAt.putKin {w0 w : World} {u v : Value} {k B g : Nat} {l0 l : List (List Int)} (hk : Kin1 B u v) (hv : RowAt w v k l) (hu : RowAt w0 u k l0) (hg : w0.heap.size ≤ g) (hB : g < B) (o : Nat) (us : List Value) : RowAt (putC w g o us) v k l := by
 obtain ⟨A, c, rfl, hl, h⟩ := hv;refine ⟨A, c, rfl, hl, ?_⟩;rcases h with h | ⟨p, q, rfl, hp, hc⟩
 ·exact .inl h
 by_cases hz : l = []
 ·exact .inl hz
 refine .inr ⟨p, q, rfl, by rw [zz5a]; exact hp, fun j x hj => ?_⟩
 have hne : p ≠ g := by
  rcases hk with e | e
  ·obtain ⟨A0, c0, e0, _, h0⟩ := hu
   rw [← e] at e0;injection e0 with e1 e2 _
   rcases h0 with h0 | ⟨p0, q0, e3, hp0, _⟩
   ·subst h0
    exact absurd (List.eq_nil_of_length_eq_zero (by simpa using e2)) hz
   ·rw [← e1] at e3
    injection e3 with e3
    injection e3 with e3
    omega
  ·have := e p rfl
   omega
 rw [zz7s hne];exact hc j x hj
theorem BkAt.putKin {w0 w : World} {u v : Value} {b0 b : Bk} {B g : Nat} (hk : Kin B u v) (hv : BkAt w v b) (hu : BkAt w0 u b0) (hg : w0.heap.size ≤ g) (hB : g < B) (o : Nat) (us : List Value) : BkAt (putC w g o us) v b := by
 obtain ⟨a0, a1, a2, a3, n, c0, c1, c2, c3, m, rfl, rfl, k0, k1, k2, k3⟩ := hk;obtain ⟨_, _, _, _, e, h0, h1, h2, h3⟩ := hv;injection e with e
 simp only [Array.mk.injEq, List.cons.injEq, and_true] at e;obtain ⟨rfl, rfl, rfl, rfl, rfl⟩ := e;obtain ⟨_, _, _, _, e, j0, j1, j2, j3⟩ := hu;injection e with e
 simp only [Array.mk.injEq, List.cons.injEq, and_true] at e;obtain ⟨rfl, rfl, rfl, rfl, rfl⟩ := e;exact ⟨_, _, _, _, rfl, RowAt.putKin k0 h0 j0 hg hB o us, RowAt.putKin k1 h1 j1 hg hB o us, RowAt.putKin k2 h2 j2 hg hB o us, RowAt.putKin k3 h3 j3 hg hB o us⟩
theorem Kin1.trans {B B' : Nat} {a b c : Value} (h : Kin1 B a b) (k : Kin1 B' b c) (hB : B ≤ B') : Kin1 B a c := by
 rcases k with rfl | k
 ·exact h
 ·exact .inr fun q hq => Nat.le_trans hB (k q hq)
theorem Kin.trans {B B' : Nat} {u v x : Value} (h : Kin B u v) (k : Kin B' v x) (hB : B ≤ B') : Kin B u x := by
 obtain ⟨a0, a1, a2, a3, n, c0, c1, c2, c3, m, rfl, rfl, k0, k1, k2, k3⟩ := h;obtain ⟨_, _, _, _, _, d0, d1, d2, d3, y, e, rfl, j0, j1, j2, j3⟩ := k;injection e with e
 simp only [Array.mk.injEq, List.cons.injEq, and_true] at e;obtain ⟨rfl, rfl, rfl, rfl, rfl⟩ := e;exact ⟨a0, a1, a2, a3, n, d0, d1, d2, d3, y, rfl, rfl, k0.trans j0 hB, k1.trans j1 hB, k2.trans j2 hB, k3.trans j3 hB⟩
def Vb (a w : World) (l : Bl) (V : Value) (L : List Stp) (u0 u : Value) (b0 nb : Bk) : Prop :=
 En a w l ∧ (∃ B, StepsOwn w B V L) ∧ BkAt a u0 b0 ∧ BkAt w u nb ∧ ∃ B, (a.heap.size ≤ B ∧ Kin B u0 u) ∧ (∀ x ∈ l, x.1 < B) ∧ B ≤ w.heap.size
theorem Kin.refl {B : Nat} {a : World} {u : Value} {b : Bk} (h : BkAt a u b) : Kin B u u := by
 obtain ⟨_, _, _, _, rfl, _⟩ := h;exact ⟨_, _, _, _, _, _, _, _, _, _, rfl, rfl, .inl rfl, .inl rfl, .inl rfl, .inl rfl⟩
theorem Kin1.mono {B B' : Nat} {a b : Value} (h : Kin1 B a b) (hB : B' ≤ B) : Kin1 B' a b := h.imp id fun h q hq => Nat.le_trans hB (h q hq)
theorem Kin.count {B B' : Nat} {u x1 x2 x3 x4 m : Value} (h : Kin B u (.agg #[x1, x2, x3, x4, m])) (hB : B' ≤ B) (m' : Value) : Kin B' u (.agg #[x1, x2, x3, x4, m']) := by
 obtain ⟨a0, a1, a2, a3, n, b0, b1, b2, b3, y, rfl, e, k0, k1, k2, k3⟩ := h;injection e with e
 simp only [Array.mk.injEq, List.cons.injEq, and_true] at e;obtain ⟨rfl, rfl, rfl, rfl, rfl⟩ := e;exact ⟨a0, a1, a2, a3, n, _, _, _, _, m', rfl, rfl, k0.mono hB, k1.mono hB, k2.mono hB, k3.mono hB⟩
section
variable {a w w' : World} {l m : Bl} {V u0 u u' : Value} {L : List Stp} {b0 nb nb' : Bk}
theorem zV0 {B : Nat} (K : Hid (En a w l)) (h : StepsOwn w B V L) (hB : Hid (BkAt a u0 b0)) : Hid (Vb a w l V L u0 u0 b0 b0) :=
 ⟨K.out, ⟨_, h⟩, hB.out, hB.out.call K.out.1, _, ⟨K.out.1.size, Kin.refl hB.out⟩, K.out.2.1.lt, Nat.le_refl _⟩
theorem zVk (K : Hid (Vb a w l V L u0 u b0 nb)) (hb : Below w.heap.size w w') : Hid (Vb a w' l V L u0 u b0 nb) := by
 obtain ⟨h1, ⟨B, h2⟩, h3, h4, B', h5, h6, h7⟩ := K.out;exact ⟨zEk h1 hb, ⟨B, h2.kept hb⟩, h3, h4.call hb, B', h5, h6, Nat.le_trans h7 hb.size⟩
theorem zVa {c : Array Value} {t : TypeId} (h : w.alloc (.cells c t) = w') (K : Hid (Vb a w l V L u0 u0 b0 b0)) : Hid (Vb a w' ((w.heap.size, c, t) :: l) V L u0 u0 b0 b0) := by
 obtain ⟨h1, ⟨B, h2⟩, h3, h4, B', h5, h6, h7⟩ := K.out;have hb : Below w.heap.size w w' := h ▸ zBa;exact zV0 (zEa h h1) (h2.kept hb) h3
theorem zVa2 {c c2 : Array Value} {t t2 : TypeId} (h : (w.alloc (.cells c t)).alloc (.cells c2 t2) = w') (K : Hid (Vb a w l V L u0 u0 b0 b0)) : Hid (Vb a w' ((w.heap.size + 1, c2, t2) :: (w.heap.size, c, t) :: l) V L u0 u0 b0 b0) := by
 have := zVa h (zVa rfl K);simpa using this
theorem zVs (K : Hid (Vb a w l V L u0 u b0 nb)) (hb : Below w.heap.size w w') (hO : BkAt w' u' nb') (hK : Kin w.heap.size u u') : Hid (Vb a w' l V L u0 u' b0 nb') := by
 obtain ⟨h1, ⟨B, h2⟩, h3, h4, B', h5, h6, h7⟩ := K.out;exact ⟨zEk h1 hb, ⟨B, h2.kept hb⟩, h3, hO, B', ⟨h5.1, h5.2.trans hK h7⟩, h6, Nat.le_trans h7 hb.size⟩
theorem zVp {g o : Nat} {c : Array Value} {t : TypeId} {vs : List Value} (E : putC w g o vs = w') (K : Hid (Vb a w ((g, c, t) :: l) V L u0 u b0 nb)) (ht : t ≠ 65 := by decide) : Hid (Vb a w' ((g, putA c o vs, t) :: l) V L u0 u b0 nb) := by
 obtain ⟨h1, ⟨B, h2⟩, h3, h4, B', h5, h6, h7⟩ := K.out;refine ⟨zEp E h1, ⟨B, E ▸ zz0q ht h1.2.1.1.2 h2⟩, h3, E ▸ BkAt.putKin h5.2 h4 h3 h1.2.1.1.1 (h6 _ (.head _)) o vs, B', h5, ?_, by rw [← E, zz5a]; exact h7⟩
 intro x hx;rcases List.mem_cons.1 hx with e | hx
 ·rw [e]; exact h6 (g, c, t) (.head _)
 ·exact h6 _ (.tail _ hx)
theorem zVe (K : Hid (Vb a w l V L u0 u b0 nb)) : Hid (En a w l) := K.out.1
theorem zVc (K : Hid (Vb a w l V L u0 u b0 nb)) : Oz w l := zEc K.out.1
theorem zVx {g : Nat} {c : Array Value} {t : TypeId} (K : Hid (Vb a w ((g, c, t) :: l) V L u0 u b0 nb)) : Oz w ((g, c, t) :: l) ∧ Nz g l := zEx K.out.1
theorem zVb (K : Hid (Vb a w l V L u0 u b0 nb)) : Hid (BkAt w u0 b0) := K.out.2.2.1.call K.out.1.1
theorem zVu (K : Hid (Vb a w l V L u0 u b0 nb)) : Hid (BkAt w u nb) := K.out.2.2.2.1
theorem zVt (K : Hid (Vb a w l V L u0 u b0 nb)) : StepsAt w V L := by
 obtain ⟨h1, ⟨B, h2⟩, h3⟩ := K.out;exact h2.at
theorem zVm (K : Hid (Vb a w l V L u0 u b0 nb)) (h : l.Perm m) : Hid (Vb a w m V L u0 u b0 nb) := by
 obtain ⟨h1, h2, h3, h4, B', h5, h6, h7⟩ := K.out;exact ⟨zEm h1 h, h2, h3, h4, B', h5, fun x hx => h6 x (h.mem_iff.2 hx), h7⟩
variable {x y z s t : Nat × Array Value × TypeId}
theorem zVq (K : Hid (Vb a w (x :: y :: l) V L u0 u b0 nb)) : Hid (Vb a w (y :: x :: l) V L u0 u b0 nb) := zVm K (List.Perm.swap _ _ _)
theorem zVw (K : Hid (Vb a w (x :: y :: z :: s :: l) V L u0 u b0 nb)) : Hid (Vb a w (s :: x :: y :: z :: l) V L u0 u b0 nb) := zVm K (List.perm_middle (l₁ := [x, y, z]))
theorem zVd (K : Hid (Vb a w (x :: l) V L u0 u b0 nb)) : Hid (Vb a w l V L u0 u b0 nb) := by
 obtain ⟨h1, h2, h3, h4, B', h5, h6, h7⟩ := K.out;exact ⟨⟨h1.1, h1.2.1.2, (List.pairwise_cons.1 h1.2.2).2⟩, h2, h3, h4, B', h5, fun x hx => h6 x (.tail _ hx), h7⟩
theorem zVp5 {g : Nat} {a0 a1 a2 a3 a4 b1 b2 b3 b4 b5 : Value} {t : TypeId} (h : ((((w.setCell ⟨g, 0, none⟩ b1).setCell ⟨g, 1, none⟩ b2).setCell ⟨g, 2, none⟩ b3).setCell ⟨g, 3, none⟩ b4).setCell ⟨g, 4, none⟩ b5 = w') (K : Hid (Vb a w ((g, #[a0, a1, a2, a3, a4], t) :: l) V L u0 u b0 nb)) (ht : t ≠ 65 := by decide) : Hid (Vb a w' ((g, #[b1, b2, b3, b4, b5], t) :: l) V L u0 u b0 nb) := by
 have E : putC w g 0 [b1, b2, b3, b4, b5] = w' := h;have J : putA #[a0, a1, a2, a3, a4] 0 [b1, b2, b3, b4, b5] = #[b1, b2, b3, b4, b5] := rfl;exact J ▸ zVp E K ht
theorem zVp2 {g : Nat} {a0 a1 b1 b2 : Value} {t : TypeId} (h : (w.setCell ⟨g, 0, none⟩ b1).setCell ⟨g, 1, none⟩ b2 = w') (K : Hid (Vb a w ((g, #[a0, a1], t) :: l) V L u0 u b0 nb)) (ht : t ≠ 65 := by decide) : Hid (Vb a w' ((g, #[b1, b2], t) :: l) V L u0 u b0 nb) := by
 have E : putC w g 0 [b1, b2] = w' := h;have J : putA #[a0, a1] 0 [b1, b2] = #[b1, b2] := rfl;exact J ▸ zVp E K ht
theorem zVn {g : Nat} {a0 a1 a2 a3 a4 b5 : Value} {t : TypeId} (h : w.setCell ⟨g, 4, none⟩ b5 = w') (K : Hid (Vb a w ((g, #[a0, a1, a2, a3, a4], t) :: l) V L u0 u b0 nb)) (ht : t ≠ 65 := by decide) : Hid (Vb a w' ((g, #[a0, a1, a2, a3, b5], t) :: l) V L u0 u b0 nb) := by
 have E : putC w g 4 [b5] = w' := h;have J : putA #[a0, a1, a2, a3, a4] 4 [b5] = #[a0, a1, a2, a3, b5] := rfl;exact J ▸ zVp E K ht
theorem zVo {g : Nat} {a0 a1 a2 a3 a4 a5 b5 : Value} {t : TypeId} (h : w.setCell ⟨g, 4, none⟩ b5 = w') (K : Hid (Vb a w ((g, #[a0, a1, a2, a3, a4, a5], t) :: l) V L u0 u b0 nb)) (ht : t ≠ 65 := by decide) : Hid (Vb a w' ((g, #[a0, a1, a2, a3, b5, a5], t) :: l) V L u0 u b0 nb) := by
 have E : putC w g 4 [b5] = w' := h;have J : putA #[a0, a1, a2, a3, a4, a5] 4 [b5] = #[a0, a1, a2, a3, b5, a5] := rfl;exact J ▸ zVp E K ht
theorem zVh {g : Nat} {a0 a1 a2 a3 b2 b3 : Value} {t : TypeId} (h : (w.setCell ⟨g, 2, none⟩ b2).setCell ⟨g, 3, none⟩ b3 = w') (K : Hid (Vb a w ((g, #[a0, a1, a2, a3], t) :: l) V L u0 u b0 nb)) (ht : t ≠ 65 := by decide) : Hid (Vb a w' ((g, #[a0, a1, b2, b3], t) :: l) V L u0 u b0 nb) := by
 have E : putC w g 2 [b2, b3] = w' := h;have J : putA #[a0, a1, a2, a3] 2 [b2, b3] = #[a0, a1, b2, b3] := rfl;exact J ▸ zVp E K ht
theorem zVp51 {g p : Nat} {a0 a1 a2 a3 a4 b1 b2 b3 b4 b5 c0 c1 c2 c3 c4 c5 d : Value} {t t2 : TypeId} (h : (((((w.setCell ⟨g, 0, none⟩ b1).setCell ⟨g, 1, none⟩ b2).setCell ⟨g, 2, none⟩ b3).setCell ⟨g, 3, none⟩ b4).setCell ⟨g, 4, none⟩ b5).setCell ⟨p, 4, none⟩ d = w') (K : Hid (Vb a w ((g, #[a0, a1, a2, a3, a4], t) :: (p, #[c0, c1, c2, c3, c4, c5], t2) :: l) V L u0 u b0 nb)) (ht : t ≠ 65 := by decide) (ht2 : t2 ≠ 65 := by decide) : Hid (Vb a w' ((g, #[b1, b2, b3, b4, b5], t) :: (p, #[c0, c1, c2, c3, d, c5], t2) :: l) V L u0 u b0 nb) := zVq (zVo h (zVq (zVp5 rfl K ht)) ht2)
theorem zVf {g : Nat} {c : Array Value} {t : TypeId} (K : Hid (Vb a w ((g, c, t) :: l) V L u0 u b0 nb)) : (∀ i, w.cell? ⟨g, i, none⟩ = c[i]?) ∧ (∀ i, w.frozen? ⟨g, i, none⟩ = false) := ⟨(zVc K).1, (zVc K).2.1⟩
theorem zVg {g p : Nat} {c d : Array Value} {t r : TypeId} (K : Hid (Vb a w ((g, c, t) :: (p, d, r) :: l) V L u0 u b0 nb)) : w.heap[g]? = some (.cells c t (0, 0)) ∧ w.heap[p]? = some (.cells d r (0, 0)) := ⟨K.out.1.2.1.1.2, K.out.1.2.1.2.1.2⟩
theorem zVp6 {g : Nat} {a0 a1 a2 a3 a4 b1 b2 b3 b4 b5 b6 : Value} {t : TypeId} (h : (((((w.setCell ⟨g, 0, none⟩ b1).setCell ⟨g, 1, none⟩ b2).setCell ⟨g, 2, none⟩ b3).setCell ⟨g, 3, none⟩ b4).setCell ⟨g, 4, none⟩ b5).setCell ⟨g, 4, none⟩ b6 = w') (K : Hid (Vb a w ((g, #[a0, a1, a2, a3, a4], t) :: l) V L u0 u b0 nb)) (ht : t ≠ 65 := by decide) : Hid (Vb a w' ((g, #[b1, b2, b3, b4, b6], t) :: l) V L u0 u b0 nb) := zVn h (zVp5 rfl K ht) ht
theorem zVK {x1 x2 x3 x4 y1 : Value} (K : Hid (Vb a w l V L u0 (.agg #[x1, x2, x3, x4, y1]) b0 nb)) (m' : Value) : Kin a.heap.size u0 (.agg #[x1, x2, x3, x4, m']) := by
 obtain ⟨_, _, _, _, B, h, _⟩ := K.out;exact h.2.count h.1 _
theorem zVy (K : Hid (Vb a w (x :: y :: l) V L u0 u b0 nb)) : Hid (Bz a.heap.size w [x, y]) := ⟨K.out.1.2.1.1, K.out.1.2.1.2.1, trivial⟩
theorem zVz {g p : Nat} {c d : Array Value} {t r : TypeId} (K : Hid (Vb a w ((g, c, t) :: (p, d, r) :: l) V L u0 u b0 nb)) : Oz w ((g, c, t) :: (p, d, r) :: l) ∧ Nz g ((p, d, r) :: l) ∧ Nz p l := ⟨zVc K, (zVx K).2, (zVx (zVd K)).2⟩
end
theorem doneB_no {b : Bk} {e : Ev} {rate : Int} (h : (allS b e rate).all (·.holds) = false) : doneB b e rate = b := by
 unfold doneB;rw [h]
 rfl
theorem zz5i {b : Bk} {e : Ev} {rate : Int} (h : (allS b e rate).all (·.holds) = true) : doneB b e rate = newB b e := by
 unfold doneB;rw [h]
 rfl
theorem BkAt.count {w : World} {a1 a2 a3 a4 x : Value} {b : Bk} (h : BkAt w (.agg #[a1, a2, a3, a4, x]) b) (m : Int) : BkAt w (.agg #[a1, a2, a3, a4, m]) { b with n := m } := by
 exact zt83
theorem BkAt.forms {w : World} {v : Value} {b : Bk} (h : BkAt w v b) : ∃ A1 c1 A2 c2 A3 c3 A4 c4, v = .agg (BF A1 c1 A2 c2 A3 c3 A4 c4 b b.n) := by
 obtain ⟨_, _, _, _, rfl, ⟨A1, c1, rfl, _⟩, ⟨A2, c2, rfl, _⟩, ⟨A3, c3, rfl, _⟩, ⟨A4, c4, rfl, _⟩⟩ := h;exact ⟨A1, c1, A2, c2, A3, c3, A4, c4, rfl⟩
theorem canB_ref {b : Bk} {e : Ev} {o0 o1 o2 o3 o5 : Int} (h : o0 = e.ord) : canB b e = { b with o := setH o0 [o0, o1, o2, o3, 0, o5] ((0 : Int) == 0) b.o } := by
 subst h;unfold canB;rw [show ((0 : Int) == 0) = true from rfl]
 unfold setH;rw [zz3t, zz3t]
theorem zz9r {P : Program} {fn : Func} {p p2 : Tmp} {ty ty2 : TypeId} {s1 : Tmp} (h : fn.results = #[.cell p ty, .cell p2 ty2, .tmp s1]) (tmps : Array Value) (w : World) (g g2 : Nat) (t t2 : TypeId) (cs cs2 : Array Value) (d d2 : TypeDesc)
  (hp : tmps.getD p undef = .pointer (some ⟨g, 0, none⟩)) (hg : w.heap[g]? = some (.cells cs t (0, 0)))
  (hu : P.underlying ty = some d) (hd : (match d with | .struct _ | .array _ _ => true | _ => false) = true) (hi : (P.info? ty).map (·.size) = some cs.size)
  (hp2 : tmps.getD p2 undef = .pointer (some ⟨g2, 0, none⟩)) (hg2 : w.heap[g2]? = some (.cells cs2 t2 (0, 0)))
  (hu2 : P.underlying ty2 = some d2) (hd2 : (match d2 with | .struct _ | .array _ _ => true | _ => false) = true) (hi2 : (P.info? ty2).map (·.size) = some cs2.size)
  (x : Value) (hx : tmps.getD s1 undef = x) : (results fn tmps).run P w = .ok (.tuple #[.agg cs, .agg cs2, x]) w := by
 subst hx;exact zt68
theorem zt5 {p : Prop} (h : p := by
 generalize hw : World.alloc _ _ = wa;replace K := zVa hw K;clear hw;(with_reducible refine (q5.out _ (zVb K)).mono ?_);rintro r wc ⟨v5, rfl, hO, hK, hb⟩;obtain ⟨U1, u1, U2, u2, U3, u3, U4, u4, hv5⟩ := hO.forms;rw [hnnb.out] at hv5;subst hv5;replace K := zVs K hb hO hK;clear hb hO hK;replace K := zVd (zVd K);have c := zVf K;go_wp2_with fail;clear c;generalize hs : World.setCell _ _ _ = ws;replace K := zVp6 hs K;clear hs;refine zSE [] 6 (zVy K) ?_;intro wd hb;replace K := zVk K hb;clear hb;refine zM [0, 1, 2] 3 (zVy K) ?_;simp only [opsAt, zA];refine zv ?_;refine zv ?_;refine zp ?_;unfold wpPure;go_simp;replace K := zVw K;have c := zVx K;refine zW 3 ?_;go_wp2_with fail;clear c;generalize hs : World.setCell _ _ _ = ws;replace K := zVp5 hs K;clear hs;refine zY ?_ fun _ => zEs (zVe K)
 replace K := zVw K;have c := zVx K;refine zW 4 ?_;go_wp2_with fail;clear c;generalize hs : World.setCell _ _ _ = ws;replace K := zVp2 hs K;clear hs;refine zY ?_ fun _ => zEs (zVe K)
 refine zW 5 ?_;go_wp2_with fail;refine zY ?_ fun _ => zEs (zVe K)
 refine zQe ?_;go_wp2_with fail;refine bodyPost_ret ?_ rfl ⟨_, _, rfl, (show BkAt _ _ _ by unfold gateB; rw [zz5i HC.out, hnb.out]; exact (zVu K).out.count (b.n + 1)), zVK K _, zVt K, zEb (zVe K)⟩
 exact zz9r rfl _ _ _ _ _ _ _ _ _ _ rfl (zVg K).2 Tryz.underlying27 rfl zk rfl (zVg K).1 Tryz.underlying33 rfl zk _ rfl) : p := h
theorem zt32 {p : Prop} (h : p := by
 exact zz9r rfl _ _ _ _ _ _ _ _ _ _ rfl (zVg K).2 Tryz.underlying27 rfl zk rfl (zVg K).1 Tryz.underlying33 rfl zk _ rfl) : p := h
theorem rStep_kin (vh vs vo vr : Value) (b : Bk) (e : Ev) (rate : Int) (w0 : World) (B0 : Hid (BkAt w0 (.agg #[vh, vs, vo, vr, b.n]) b)) (hs : Hid b.Small) (hi : Hid b.I64s) (hm : Hid (b.mayB = true)) (hE : Hid e.I64s) (hrt : Hid (I64 rate)) (hpr : Hid (∀ sym, 0 ≤ priceOf b sym)) (hN : Hid (0 ≤ b.n ∧ b.n ≤ 1099511627776)) :
  Calls Tryz.prog 13 #[.agg #[vh, vs, vo, vr, b.n], e.val, .int .i64 rate] w0 fun r w' => ∃ v vS, r = .returned (.tuple #[v, .agg #[.int .i64 (gateV b e rate).1, .int .i64 (gateV b e rate).2], vS]) ∧ BkAt w' v (gateB b e rate) ∧ Kin w0.heap.size (.agg #[vh, vs, vo, vr, b.n]) v ∧ StepsAt w' vS (gateL b e rate) ∧ Below w0.heap.size w0 w' := by
 unfold Ev.val;obtain ⟨_, _, _, _, hv, r1, r2, r3, r4⟩ := B0.out;injection hv with hv
 simp only [Array.mk.injEq, List.cons.injEq, and_true] at hv;obtain ⟨rfl, rfl, rfl, rfl, _⟩ := hv;have LH : Hid (∀ r ∈ b.h, r.length = 4) := (by obtain ⟨_, _, _, h, _⟩ := r1; exact h)
 have LO : Hid (∀ r ∈ b.o, r.length = 6) := (by obtain ⟨_, _, _, h, _⟩ := r3; exact h)
 have F1 : b.h.length ≤ 1000000 ∧ b.o.length ≤ 1000000 ∧ b.r.length ≤ 1000000 := by have := hs.out; unfold Bk.Small at this; omega
 have HL1 := zH F1;clear F1;obtain ⟨Ah, ch, rfl, _⟩ := r1;obtain ⟨As, cs, rfl, _⟩ := r2;obtain ⟨Ao, co, rfl, _⟩ := r3;obtain ⟨Ar, cr, rfl, _⟩ := r4;have hwr : IntKind.i64.wrap (b.n + 1) = b.n + 1 := by rw [IntKind.wrap_i64]; have := hN.out; omega
 obtain ⟨C, hC⟩ : ∃ C, ((gateV b e rate).1 == 0) = C := ⟨_, rfl⟩;have hC2 : ((goW (gateL b e rate) 0).1 == 0) = C := hC;have HC := zH ((zzag b e rate).symm.trans hC);clear hC;have K := zEa4 (c := (BF Ah ch As cs Ao co Ar cr b b.n)) (t := 27) (c2 := #[e.kind, e.acc, e.ord, e.sym, e.side, e.qty, e.px]) (t2 := 29) (c3 := BZ) (t3 := 27) (c4 := #[.int .i64 0, .int .i64 0]) (t4 := 33) rfl (zE0 w0);have q1 := zH (fun wz hv => zz9w (.slice Ah b.h.length ch) (.slice As b.s.length cs) (.slice Ao b.o.length co) (.slice Ar b.r.length cr) b e rate wz hv hs hi hm hE hrt hpr)
 unfold Ev.val at q1;have c := zEc K;go_in;go_wp2_with fail;generalize hw : World.alloc _ _ = wb;rw [hw] at K;clear c hw;(with_reducible refine (q1.out _ (zH (B0.out.call (zEb K)))).mono ?_);rintro r wc ⟨v5, rfl, hS, hb⟩;obtain ⟨AS, cS, rfl⟩ := hS.form;replace K := zV0 (zEk K hb) hS B0;clear hb hS q1;go_wp2_with fail;(with_reducible refine (zz9u _ _ _ (zH (zVt K)) (Nat.le_trans (zz3o b e rate) zx)).mono ?_);rintro r wc ⟨rfl, hb⟩;replace K := zVk K hb;clear hb;cases C with
 | false =>
  have c := zVc K;go_wp2_with fail;clear c;generalize hw : World.alloc _ _ = wa;replace K := zVa2 hw K;clear hw;refine zSE [] 6 (zVy K) ?_;intro wd hb;replace K := zVk K hb;clear hb;refine zM [0, 1, 2] 3 (zVy K) ?_;simp only [opsAt, zA];refine zv ?_;refine zv ?_;refine zp ?_;unfold wpPure;go_simp;replace K := zVw K;have c := zVx K;refine zW 3 ?_;go_wp2_with fail;clear c;generalize hs : World.setCell _ _ _ = ws;replace K := zVp5 hs K;clear hs;refine zY ?_ fun _ => zEs (zVe K)
  replace K := zVw K;have c := zVx K;refine zW 4 ?_;go_wp2_with fail;clear c;generalize hs : World.setCell _ _ _ = ws;replace K := zVp2 hs K;clear hs;refine zY ?_ fun _ => zEs (zVe K)
  refine zW 5 ?_;go_wp2_with fail;refine zY ?_ fun _ => zEs (zVe K)
  refine zQe ?_;go_wp2_with fail;refine bodyPost_ret ?_ rfl ⟨_, _, rfl, (show BkAt _ _ _ by unfold gateB; rw [doneB_no HC.out]; exact (zVb K).out.count (b.n + 1)), zVK K _, zVt K, zEb (zVe K)⟩
  exact zt32
 | true =>
  obtain ⟨rh, FH, hl1, hx1⟩ := zz11 LH.out (isId e.acc)
  match rh, hl1, hx1 with
  | [h0, h1, h2, h3], _, hx1 =>
  have hF : FH = hasH b e.acc := zz0n hx1;subst hF;have HX1 := zH hx1;clear hx1;obtain ⟨ro, FO, hl2, hx2⟩ := zz11 LO.out (isId e.ord)
  match ro, hl2, hx2 with
  | [o0, o1, o2, o3, o4, o5], _, hx2 =>
  have hFo : FO = hasO b e.ord := zz0n hx2;subst hFo;have HX2 := zH hx2;clear hx2;have c := zVc K;go_wp2_with fail;clear c;generalize hw : World.alloc _ _ = wa;replace K := zVa2 hw K;clear hw;(with_reducible refine (zz1d _ b e.acc h0 h1 h2 h3 _ _ (zVb K) HL1.out.1 HX1).mono ?_);rintro r wc ⟨rfl, hb⟩;replace K := zVk K hb;clear hb;have c := zVc K;go_wp2_with fail;clear c;generalize hw : World.alloc _ _ = wa;replace K := zVa hw K;clear hw;(with_reducible refine (zz7r _ b e.ord o0 o1 o2 o3 o4 o5 _ _ (zVb K) HL1.out.2.1 HX2).mono ?_);rintro r wc ⟨rfl, hb⟩;replace K := zVk K hb;clear hb;have hk : 1 ≤ e.kind ∧ e.kind ≤ 7 := (zz81 e).1 (by have h := HC.out; unfold allS at h; rw [List.all_append, Bool.and_eq_true] at h; exact h.1)
  have hk7 : e.kind = 1 ∨ e.kind = 2 ∨ e.kind = 3 ∨ e.kind = 4 ∨ e.kind = 5 ∨ e.kind = 6 ∨ e.kind = 7 := by omega
  clear hk;rcases hk7 with hk | hk | hk | hk | hk | hk | hk
  ·skip
   have tk1 : (e.kind == 1) = true := by rw [hk]; rfl
   have hkS : (kindS b e rate).all (·.holds) = true := by have h := HC.out; unfold allS at h; rw [List.all_append, Bool.and_eq_true] at h; exact h.2
   obtain ⟨nb, hnb⟩ : ∃ nb : Bk, newB b e = nb := ⟨_, rfl⟩;have hnnb : Hid (nb.n = b.n) := (by rw [← hnb]; exact zz91 b e : nb.n = b.n)
   replace hnb := zH hnb;have q5 : Hid (∀ wz : World, Hid (BkAt wz (.agg (BF Ah ch As cs Ao co Ar cr b b.n)) b) → Calls Tryz.prog 43 #[.agg (BF Ah ch As cs Ao co Ar cr b b.n), .agg #[e.acc, e.qty, .int .i64 9223372036854775807, .int .i64 9223372036854775807]] wz fun r w' => ∃ v', r = .returned v' ∧ BkAt w' v' nb ∧ Kin wz.heap.size (.agg (BF Ah ch As cs Ao co Ar cr b b.n)) v' ∧ Below wz.heap.size wz w') := (show _ from fun wz hv => by rw [← hnb.out, show newB b e = accB b e from by unfold newB; simp [hk]]; exact zz1u _ b e.acc e.qty 9223372036854775807 9223372036854775807 wz hv HL1.out.1)
   have c := zVc K;go_wp2_with fail;clear c;exact zt5
  ·skip
   have tk1 : (e.kind == 1) = false := by rw [hk]; rfl
   have tk2 : (e.kind == 2) = true := by rw [hk]; rfl
   have hkS : (kindS b e rate).all (·.holds) = true := by have h := HC.out; unfold allS at h; rw [List.all_append, Bool.and_eq_true] at h; exact h.2
   have hrec : recH b e.acc = [h0, h1, h2, h3] := by unfold recH; rw [HX1.out]
   obtain ⟨nb, hnb⟩ : ∃ nb : Bk, newB b e = nb := ⟨_, rfl⟩;have hnnb : Hid (nb.n = b.n) := (by rw [← hnb]; exact zz91 b e : nb.n = b.n)
   replace hnb := zH hnb;have q5 : Hid (∀ wz : World, Hid (BkAt wz (.agg (BF Ah ch As cs Ao co Ar cr b b.n)) b) → Calls Tryz.prog 43 #[.agg (BF Ah ch As cs Ao co Ar cr b b.n), .agg #[h0, h1, e.qty, e.px]] wz fun r w' => ∃ v', r = .returned v' ∧ BkAt w' v' nb ∧ Kin wz.heap.size (.agg (BF Ah ch As cs Ao co Ar cr b b.n)) v' ∧ Below wz.heap.size wz w') := (show _ from fun wz hv => by rw [← hnb.out, show newB b e = limB b e from by unfold newB; simp [hk], show limB b e = { b with h := setH h0 [h0, h1, e.qty, e.px] false b.h } from by unfold limB; rw [hrec]; rfl]; exact zz1u _ b h0 h1 e.qty e.px wz hv HL1.out.1)
   clear hrec;have c := zVx K;go_wp2_with fail;clear c;generalize hs : World.setCell _ _ _ = ws;replace K := zVh hs K;clear hs;exact zt5
  ·skip
   have tk1 : (e.kind == 1) = false := by rw [hk]; rfl
   have tk2 : (e.kind == 2) = false := by rw [hk]; rfl
   have tk3 : (e.kind == 3) = true := by rw [hk]; rfl
   have hkS : (kindS b e rate).all (·.holds) = true := by have h := HC.out; unfold allS at h; rw [List.all_append, Bool.and_eq_true] at h; exact h.2
   obtain ⟨nb, hnb⟩ : ∃ nb : Bk, newB b e = nb := ⟨_, rfl⟩;have hnnb : Hid (nb.n = b.n) := (by rw [← hnb]; exact zz91 b e : nb.n = b.n)
   replace hnb := zH hnb;have q5 : Hid (∀ wz : World, Hid (BkAt wz (.agg (BF Ah ch As cs Ao co Ar cr b b.n)) b) → Calls Tryz.prog 44 #[.agg (BF Ah ch As cs Ao co Ar cr b b.n), .agg #[e.sym, e.px]] wz fun r w' => ∃ v', r = .returned v' ∧ BkAt w' v' nb ∧ Kin wz.heap.size (.agg (BF Ah ch As cs Ao co Ar cr b b.n)) v' ∧ Below wz.heap.size wz w') := (show _ from fun wz hv => by rw [← hnb.out, show newB b e = quoB b e from by unfold newB; simp [hk]]; exact zz74 _ b e.sym e.px wz hv HL1.out.2.2)
   have c := zVc K;go_wp2_with fail;clear c;exact zt5
  ·skip
   have tk1 : (e.kind == 1) = false := by rw [hk]; rfl
   have tk2 : (e.kind == 2) = false := by rw [hk]; rfl
   have tk3 : (e.kind == 3) = false := by rw [hk]; rfl
   have tk4 : (e.kind == 4) = true := by rw [hk]; rfl
   have hkS : (kindS b e rate).all (·.holds) = true := by have h := HC.out; unfold allS at h; rw [List.all_append, Bool.and_eq_true] at h; exact h.2
   obtain ⟨nb, hnb⟩ : ∃ nb : Bk, newB b e = nb := ⟨_, rfl⟩;have hnnb : Hid (nb.n = b.n) := (by rw [← hnb]; exact zz91 b e : nb.n = b.n)
   replace hnb := zH hnb;have q5 : Hid (∀ wz : World, Hid (BkAt wz (.agg (BF Ah ch As cs Ao co Ar cr b b.n)) b) → Calls Tryz.prog 45 #[.agg (BF Ah ch As cs Ao co Ar cr b b.n), .agg #[e.ord, e.acc, e.sym, e.side, e.qty, e.px]] wz fun r w' => ∃ v', r = .returned v' ∧ BkAt w' v' nb ∧ Kin wz.heap.size (.agg (BF Ah ch As cs Ao co Ar cr b b.n)) v' ∧ Below wz.heap.size wz w') := (show _ from fun wz hv => by rw [← hnb.out, show newB b e = ordB b e from by unfold newB; simp [hk]]; exact zz2k _ b e.ord e.acc e.sym e.side e.qty e.px wz hv HL1.out.2.1)
   have c := zVc K;go_wp2_with fail;clear c;exact zt5
  ·skip
   have tk1 : (e.kind == 1) = false := by rw [hk]; rfl
   have tk2 : (e.kind == 2) = false := by rw [hk]; rfl
   have tk3 : (e.kind == 3) = false := by rw [hk]; rfl
   have tk4 : (e.kind == 4) = false := by rw [hk]; rfl
   have tk5 : (e.kind == 5) = true := by rw [hk]; rfl
   have hkS : (kindS b e rate).all (·.holds) = true := by have h := HC.out; unfold allS at h; rw [List.all_append, Bool.and_eq_true] at h; exact h.2
   have hcs : (fillS b e).all (·.holds) = true := by have h := hkS; unfold kindS at h; simpa [hk] using h
   obtain ⟨hfo, hfq, _, hfl⟩ := zz5h b e hcs;clear hcs;have hro : recO b e.ord = [o0, o1, o2, o3, o4, o5] := by unfold recO; rw [HX2.out]
   have hfl2 : e.qty ≤ o4 := by rw [hro] at hfl; exact hfl
   have hO4 : I64 o4 := by
    have h := (zz73 hfo).1;rw [hro] at h;exact hi.out.2.2.1 _ h _ (by simp)
   have hsub : IntKind.i64.wrap (o4 - e.qty) = o4 - e.qty := by rw [IntKind.wrap_i64]; unfold I64 at hO4; have := hE.out.qty; unfold I64 at this; omega
   clear hfl hfo hfq hO4;obtain ⟨rg, FG, hl3, hx3⟩ := zz11 LH.out (isId o1)
   match rg, hl3, hx3 with
   | [g0, g1, g2, g3], _, hx3 =>
   have HX3 := zH hx3;clear hx3;have hrg : recH b o1 = [g0, g1, g2, g3] := by unfold recH; rw [HX3.out]
   obtain ⟨AF, hAF⟩ : ∃ AF, afterR b o1 o2 o3 e.qty e.px = AF := ⟨_, rfl⟩;obtain ⟨⟨c, cf⟩, ⟨s, sf⟩⟩ := AF;have qA := zH (fun wz hv => zz6d (.agg (BF Ah ch As cs Ao co Ar cr b b.n)) b o0 o1 o2 o3 o4 o5 e.qty e.px wz hv hs hi hE.out.qty hE.out.px)
   rw [hAF] at qA;obtain ⟨nb1, hnb1⟩ : ∃ nb1 : Bk, ({ b with h := setH g0 [g0, c, g2, g3] false b.h } : Bk) = nb1 := ⟨_, rfl⟩
   obtain ⟨nb2, hnb2⟩ : ∃ nb2 : Bk, ({ nb1 with s := setS o1 o2 [o1, o2, s] (s == 0) nb1.s } : Bk) = nb2 := ⟨_, rfl⟩
   obtain ⟨nb, hnb3⟩ : ∃ nb : Bk, ({ nb2 with o := setH o0 [o0, o1, o2, o3, o4 - e.qty, o5] (o4 - e.qty == 0) nb2.o } : Bk) = nb := ⟨_, rfl⟩
   have hnb : Hid (newB b e = nb) := (by
    show newB b e = nb;rw [← hnb3, ← hnb2, ← hnb1, show newB b e = fillB b e from by unfold newB; simp [hk]]
    unfold fillB afterE;rw [hro];show fillX b [o0, o1, o2, o3, o4, o5] (recH b o1) (afterR b o1 o2 o3 e.qty e.px).1.1 (afterR b o1 o2 o3 e.qty e.px).2.1 e.qty = _;rw [hrg, hAF]
    rfl)
   have hnnb1 : Hid (nb1.n = b.n) := (show nb1.n = b.n by rw [← hnb1])
   have hnnb2 : Hid (nb2.n = b.n) := (show nb2.n = b.n by rw [← hnb2, ← hnb1])
   have hnnb : Hid (nb.n = b.n) := (show nb.n = b.n by rw [← hnb3, ← hnb2, ← hnb1])
   have hl1s : Hid (nb1.s.length ≤ 1000000) := (show nb1.s.length ≤ 1000000 by rw [← hnb1]; have := hs.out; unfold Bk.Small at this; show b.s.length ≤ 1000000; omega)
   have hl2o : Hid (nb2.o.length ≤ 1000000) := (show nb2.o.length ≤ 1000000 by rw [← hnb2, ← hnb1]; exact HL1.out.2.1)
   have qH : Hid (∀ wz : World, Hid (BkAt wz (.agg (BF Ah ch As cs Ao co Ar cr b b.n)) b) → Calls Tryz.prog 43 #[.agg (BF Ah ch As cs Ao co Ar cr b b.n), .agg #[g0, c, g2, g3]] wz fun r w' => ∃ v', r = .returned v' ∧ BkAt w' v' nb1 ∧ Kin wz.heap.size (.agg (BF Ah ch As cs Ao co Ar cr b b.n)) v' ∧ Below wz.heap.size wz w') := (show _ from fun wz hv => by rw [← hnb1]; exact zz1u _ b g0 c g2 g3 wz hv HL1.out.1)
   have qS : Hid (∀ (u : Value) (wz : World), Hid (BkAt wz u nb1) → Calls Tryz.prog 47 #[u, .agg #[o1, o2, s]] wz fun r w' => ∃ v', r = .returned v' ∧ BkAt w' v' nb2 ∧ Kin wz.heap.size u v' ∧ Below wz.heap.size wz w') := (show _ from fun u wz hv => by rw [← hnb2]; exact zz6b u nb1 o1 o2 s wz hv hl1s.out)
   have qO : Hid (∀ (u : Value) (wz : World), Hid (BkAt wz u nb2) → Calls Tryz.prog 45 #[u, .agg #[o0, o1, o2, o3, .int .i64 (o4 - e.qty), o5]] wz fun r w' => ∃ v', r = .returned v' ∧ BkAt w' v' nb ∧ Kin wz.heap.size u v' ∧ Below wz.heap.size wz w') := (show _ from fun u wz hv => by rw [← hnb3]; exact zz2k u nb2 o0 o1 o2 o3 (o4 - e.qty) o5 wz hv hl2o.out)
   clear hnb1 hnb2 hnb3 hro hrg hAF hfl2 hkS;have c := zVc K;go_wp2_with fail;clear c;generalize hw : World.alloc _ _ = wa;replace K := zVa hw K;clear hw;(with_reducible refine (qA.out _ (zVb K)).mono ?_);rintro r wc ⟨rfl, hb⟩;replace K := zVk K hb;clear hb;replace K := zVd (zVq K);have c := zVc K;go_wp2_with fail;clear c;(with_reducible refine (zz1d _ b o1 g0 g1 g2 g3 FG _ (zVb K) HL1.out.1 HX3).mono ?_);rintro r wc ⟨rfl, hb⟩;replace K := zVk K hb;clear hb;have c := zVc K;go_wp2_with fail;clear c;generalize hw : World.alloc _ _ = wa;replace K := zVa hw K;clear hw;(with_reducible refine (qH.out _ (zVb K)).mono ?_);rintro r wc ⟨v5, rfl, hO, hK, hb⟩;obtain ⟨U1, u1, U2, u2, U3, u3, U4, u4, hv5⟩ := hO.forms;rw [hnnb1.out] at hv5;subst hv5;replace K := zVs K hb hO hK;clear hb hO hK;replace K := zVq (zVd K);have c := zVz K;go_wp2_with fail;clear c;generalize hs : World.setCell _ _ _ = ws;replace K := zVp5 hs K;clear hs;(with_reducible refine (qS.out _ _ (zVu K)).mono ?_);rintro r wc ⟨v5, rfl, hO, hK, hb⟩;obtain ⟨U1, u1, U2, u2, U3, u3, U4, u4, hv5⟩ := hO.forms;rw [hnnb2.out] at hv5;subst hv5;replace K := zVs K hb hO hK;clear hb hO hK;have c := zVz K;go_wp2_with fail;clear c;generalize hs : World.setCell _ _ _ = ws;replace K := zVp51 hs K;clear hs;(with_reducible refine (qO.out _ _ (zVu K)).mono ?_);rintro r wc ⟨v5, rfl, hO, hK, hb⟩;obtain ⟨U1, u1, U2, u2, U3, u3, U4, u4, hv5⟩ := hO.forms;rw [hnnb.out] at hv5;subst hv5;replace K := zVs K hb hO hK;clear hb hO hK;replace K := zVd (zVq K);have c := zVf K;go_wp2_with fail;clear c;generalize hs : World.setCell _ _ _ = ws;replace K := zVp6 hs K;clear hs;refine zSE [] 6 (zVy K) ?_;intro wd hb;replace K := zVk K hb;clear hb;refine zM [0, 1, 2] 3 (zVy K) ?_;simp only [opsAt, zA];refine zv ?_;refine zv ?_;refine zp ?_;unfold wpPure;go_simp;replace K := zVw K;have c := zVx K;refine zW 3 ?_;go_wp2_with fail;clear c;generalize hs : World.setCell _ _ _ = ws;replace K := zVp5 hs K;clear hs;refine zY ?_ fun _ => zEs (zVe K)
   replace K := zVw K;have c := zVx K;refine zW 4 ?_;go_wp2_with fail;clear c;generalize hs : World.setCell _ _ _ = ws;replace K := zVp2 hs K;clear hs;refine zY ?_ fun _ => zEs (zVe K)
   refine zW 5 ?_;go_wp2_with fail;refine zY ?_ fun _ => zEs (zVe K)
   refine zQe ?_;go_wp2_with fail;refine bodyPost_ret ?_ rfl ⟨_, _, rfl, (show BkAt _ _ _ by unfold gateB; rw [zz5i HC.out, hnb.out]; exact (zVu K).out.count (b.n + 1)), zVK K _, zVt K, zEb (zVe K)⟩
   exact zt32
  ·skip
   have tk1 : (e.kind == 1) = false := by rw [hk]; rfl
   have tk2 : (e.kind == 2) = false := by rw [hk]; rfl
   have tk3 : (e.kind == 3) = false := by rw [hk]; rfl
   have tk4 : (e.kind == 4) = false := by rw [hk]; rfl
   have tk5 : (e.kind == 5) = false := by rw [hk]; rfl
   have tk6 : (e.kind == 6) = true := by rw [hk]; rfl
   have hkS : (kindS b e rate).all (·.holds) = true := by have h := HC.out; unfold allS at h; rw [List.all_append, Bool.and_eq_true] at h; exact h.2
   have hcs : (canS b e).all (·.holds) = true := by have h := hkS; unfold kindS at h; simpa [hk] using h
   have ho0 : o0 = e.ord := by have h := (zz73 ((zzat b e).1 hcs)).2; unfold recO at h; rw [HX2.out] at h; exact h
   obtain ⟨nb, hnb⟩ : ∃ nb : Bk, newB b e = nb := ⟨_, rfl⟩;have hnnb : Hid (nb.n = b.n) := (by rw [← hnb]; exact zz91 b e : nb.n = b.n)
   replace hnb := zH hnb;have q5 : Hid (∀ wz : World, Hid (BkAt wz (.agg (BF Ah ch As cs Ao co Ar cr b b.n)) b) → Calls Tryz.prog 45 #[.agg (BF Ah ch As cs Ao co Ar cr b b.n), .agg #[o0, o1, o2, o3, .int .i64 0, o5]] wz fun r w' => ∃ v', r = .returned v' ∧ BkAt w' v' nb ∧ Kin wz.heap.size (.agg (BF Ah ch As cs Ao co Ar cr b b.n)) v' ∧ Below wz.heap.size wz w') := (show _ from fun wz hv => by rw [← hnb.out, show newB b e = canB b e from by unfold newB; simp [hk], canB_ref (o1 := o1) (o2 := o2) (o3 := o3) (o5 := o5) ho0]; exact zz2k _ b o0 o1 o2 o3 0 o5 wz hv HL1.out.2.1)
   clear hcs ho0;have c := zVc K;go_wp2_with fail;clear c;exact zt5
  ·skip
   have tk1 : (e.kind == 1) = false := by rw [hk]; rfl
   have tk2 : (e.kind == 2) = false := by rw [hk]; rfl
   have tk3 : (e.kind == 3) = false := by rw [hk]; rfl
   have tk4 : (e.kind == 4) = false := by rw [hk]; rfl
   have tk5 : (e.kind == 5) = false := by rw [hk]; rfl
   have tk6 : (e.kind == 6) = false := by rw [hk]; rfl
   replace K := zVd K;have c := zVx K;go_wp2_with fail;clear c;generalize hs : World.setCell _ _ _ = ws;replace K := zVn hs K;clear hs;generalize hw : World.alloc _ _ = wa;replace K := zVa hw K;clear hw;replace K := zVd K;refine zSE [] 6 (zVy K) ?_;intro wd hb;replace K := zVk K hb;clear hb;refine zM [0, 1, 2] 3 (zVy K) ?_;simp only [opsAt, zA];refine zv ?_;refine zv ?_;refine zp ?_;unfold wpPure;go_simp;replace K := zVw K;have c := zVx K;refine zW 3 ?_;go_wp2_with fail;clear c;generalize hs : World.setCell _ _ _ = ws;replace K := zVp5 hs K;clear hs;refine zY ?_ fun _ => zEs (zVe K)
   replace K := zVw K;have c := zVx K;refine zW 4 ?_;go_wp2_with fail;clear c;generalize hs : World.setCell _ _ _ = ws;replace K := zVp2 hs K;clear hs;refine zY ?_ fun _ => zEs (zVe K)
   refine zW 5 ?_;go_wp2_with fail;refine zY ?_ fun _ => zEs (zVe K)
   refine zQe ?_;go_wp2_with fail;refine bodyPost_ret ?_ rfl ⟨_, _, rfl, (show BkAt _ _ _ by unfold gateB; rw [zz5i HC.out, show newB b e = b from by unfold newB; simp [hk]]; exact (zVb K).out.count (b.n + 1)), zVK K _, zVt K, zEb (zVe K)⟩
   exact zt32
theorem rStep_any (vh vs vo vr : Value) (b : Bk) (e : Ev) (rate : Int) (w0 : World) (B0 : Hid (BkAt w0 (.agg #[vh, vs, vo, vr, b.n]) b)) (hs : Hid b.Small) (hi : Hid b.I64s) (hm : Hid (b.mayB = true)) (hE : Hid e.I64s) (hrt : Hid (I64 rate)) (hpr : Hid (∀ sym, 0 ≤ priceOf b sym)) (hN : Hid (0 ≤ b.n ∧ b.n ≤ 1099511627776)) :
  Calls Tryz.prog 13 #[.agg #[vh, vs, vo, vr, b.n], e.val, .int .i64 rate] w0 fun r w' => ∃ v vS, r = .returned (.tuple #[v, .agg #[.int .i64 (gateV b e rate).1, .int .i64 (gateV b e rate).2], vS]) ∧ BkAt w' v (gateB b e rate) ∧ StepsAt w' vS (gateL b e rate) ∧ Below w0.heap.size w0 w' :=
 (rStep_kin vh vs vo vr b e rate w0 B0 hs hi hm hE hrt hpr hN).mono fun r w' ⟨v, vS, h1, h2, _, h3, h4⟩ => ⟨v, vS, h1, h2, h3, h4⟩
def Stp.eqD (a b : Stp) : Decidable (a = b) :=
 if h : a.rule = b.rule ∧ a.left = b.left ∧ a.right = b.right ∧ a.over = b.over then .isTrue (by cases a; cases b; simp_all) else .isFalse (fun e => h (by subst e; simp))
instance : DecidableEq Stp := Stp.eqD
theorem zt57 {p : Prop} (h : p := by
 have z1 := beq_eq_false_iff_ne.1 z0;go_wp2_with fail;go_quiet (fail);go_wp2_with fail;go_ret;exact ⟨rfl, zz0b (zz0b (Below.refl _ _) _) _⟩) : p := h
theorem zz6q (v1 v2 : Value) (l1 l2 : List Stp) (w : World) (h1 : Hid (StepsAt w v1 l1)) (h2 : Hid (StepsAt w v2 l2)) (hn1 : l1.length ≤ 1000000) (hn2 : l2.length ≤ 1000000) :
  Calls Tryz.prog 14 #[v1, v2] w fun e w' => e = .returned (.bool (decide (l1 = l2))) ∧ Below w.heap.size w w' := by
 obtain ⟨A1, c1, rfl, hi1⟩ := h1.out;obtain ⟨A2, c2, rfl, hi2⟩ := h2.out;by_cases hl : l1.length = l2.length
 ·have H1 := zH hi1
  have H2 := zH hi2;have hext : Hid ((∀ j : Nat, j < l1.length → l1[j]? = l2[j]?) → l1 = l2) := fun hh => by
   apply List.ext_getElem?;intro i;by_cases hi : i < l1.length
   ·exact hh i hi
   ·rw [List.getElem?_eq_none zw, List.getElem?_eq_none zw]
  have hne : Hid (∀ (i : Nat) (s t : Stp), l1[i]? = some s → l2[i]? = some t → ¬ s = t → ¬ l1 = l2) := fun i s t hs ht hst he => by
   rw [he, ht] at hs;exact hst (Option.some.inj hs).symm
  have hg1 : Hid (∀ i : Nat, i < l1.length → ∃ s, l1[i]? = some s) := fun i hi => ⟨_, List.getElem?_eq_getElem hi⟩
  have hg2 : Hid (∀ i : Nat, i < l1.length → ∃ s, l2[i]? = some s) := fun i hi => ⟨_, List.getElem?_eq_getElem zw⟩
  rw [← hl];clear hi1 hi2 h1 h2;obtain ⟨n, hn⟩ : ∃ n, l1.length = n := ⟨_, rfl⟩;rw [hn] at hext hg1 hg2 hn1 ⊢;obtain ⟨D, hD⟩ : ∃ D, decide (l1 = l2) = D := ⟨_, rfl⟩;rw [hD];have HD := zH hD;clear hl hn hD hn2;go_in;go_wp2_with fail;go_loopw [5] (fun iv wr => ∃ i : Nat, iv = .int .i64 i ∧ Hid (i ≤ n) ∧ Hid (∀ j, j < i → l1[j]? = l2[j]?) ∧ Hid (∃ d, wr = w.drewN d)) (fun iv _ => n - (intOf iv).toNat)
  case atStart => exact ⟨0, rfl, Nat.zero_le _, fun j hj => by omega, ⟨0, rfl⟩⟩
  case round =>
   obtain ⟨i, rfl, hi, hj, hd⟩ := hrel;obtain ⟨d, rfl⟩ := hd.out;have hi2 := hi.out;by_cases hlt : i < n
   ·obtain ⟨s, hs⟩ := hg1.out i hlt
    obtain ⟨t, ht⟩ := hg2.out i hlt;obtain ⟨_, b1, o1, rfl, hb1, m1, p1, q1, u1⟩ := H1.out i s hs;obtain ⟨_, b2, o2, rfl, hb2, m2, p2, q2, u2⟩ := H2.out i t ht;have HS := zH hs;have HT := zH ht;obtain ⟨s0, s1, s2, s3⟩ := s;obtain ⟨t0, t1, t2, t3⟩ := t;simp only [] at m1 p1 q1 u1 m2 p2 q2 u2;clear hs ht hi;by_cases hst : s0 = t0 ∧ s1 = t1 ∧ s2 = t2 ∧ s3 = t3
    ·have hjn : Hid (∀ j, j < i + 1 → l1[j]? = l2[j]?) := fun j hj2 => by
      by_cases hji : j < i
      ·exact hj.out j hji
      ·obtain rfl : j = i := by omega
       rw [HS.out, HT.out, hst.1, hst.2.1, hst.2.2.1, hst.2.2.2]
     obtain ⟨rfl, rfl, rfl, rfl⟩ := hst;clear hj HS HT;go_wp2_with fail;go_quiet (fail);go_wp2_with fail;go_roundw
     case rel => exact ⟨i + 1, by go_num, by show _ ≤ _; omega, hjn, ⟨_, rfl⟩⟩
     case measure => simp [intOf]; omega
    ·have hDf : D = false := by rw [← HD.out]; exact decide_eq_false (hne.out i _ _ HS.out HT.out (fun h => hst (by cases h; exact ⟨rfl, rfl, rfl, rfl⟩)))
     subst hDf;have hx : (s0 == t0) = false ∨ (s0 = t0 ∧ (s1 == t1) = false) ∨ (s0 = t0 ∧ s1 = t1 ∧ (s2 == t2) = false) ∨ (s0 = t0 ∧ s1 = t1 ∧ s2 = t2 ∧ (s3 == t3) = false) := by
      by_cases e0 : s0 = t0
      ·by_cases e1 : s1 = t1
       ·by_cases e2 : s2 = t2
        ·exact .inr (.inr (.inr ⟨e0, e1, e2, beq_eq_false_iff_ne.2 fun h => hst ⟨e0, e1, e2, h⟩⟩))
        ·exact .inr (.inr (.inl ⟨e0, e1, beq_eq_false_iff_ne.2 e2⟩))
       ·exact .inr (.inl ⟨e0, beq_eq_false_iff_ne.2 e1⟩)
      ·exact .inl (beq_eq_false_iff_ne.2 e0)
     clear hj HS HT hst;rcases hx with z0 | ⟨rfl, z0⟩ | ⟨rfl, rfl, z0⟩ | ⟨rfl, rfl, rfl, z0⟩
     ·exact zt57
     ·exact zt57
     ·exact zt57
     ·exact zt57
   ·have hin : i = n := by omega
    subst hin;have hDt : D = true := by rw [← HD.out]; exact decide_eq_true (hext.out hj.out)
    subst hDt;clear hj hi;go_wp2_with fail;go_ret;exact ⟨rfl, zz0b (Below.refl _ _) _⟩
 ·rw [decide_eq_false (show ¬ l1 = l2 from fun h => hl (by rw [h]))]
  have t1 : ((l1.length : Int) != (l2.length : Int)) = true := by simp; omega
  clear hi1 hi2 h1 h2 hl;generalize l1.length = n1 at *;generalize l2.length = n2 at *;go_in;go_wp2_with fail;go_ret;exact ⟨rfl, Below.refl _ _⟩
end
section
open Go Go.RowKit Mon
def bZ : Bk := ⟨[], [], [], [], 0⟩
theorem RowAt.zero (w : World) (k : Nat) : RowAt w (.slice none 0 0) k [] := ⟨none, 0, rfl, by simp, .inl rfl⟩
theorem BkAt.zero (w : World) : BkAt w (.agg BZ) bZ := ⟨_, _, _, _, rfl, RowAt.zero w 4, RowAt.zero w 3, RowAt.zero w 6, RowAt.zero w 2⟩
theorem StepsAt.formS {w : World} {v : Value} {l : List Stp} (h : StepsAt w v l) : ∃ A c, v = .slice A l.length c := by
 obtain ⟨A, c, rfl, _⟩ := h;exact ⟨A, c, rfl⟩
theorem may_bad {b : Bk} {rate : Int} (h : (b.mayB && (decide (0 ≤ rate) && decide (rate ≤ 1000))) = false) : b.mayB = false ∨ decide (rate < 0) = true ∨ decide (1000 < rate) = true ∧ (b.n == 1099511627776) = (b.n == 1099511627776) := by
 rw [Bool.and_eq_false_iff, Bool.and_eq_false_iff] at h;rcases h with h | h | h
 ·exact .inl h
 ·exact .inr (.inl (decide_eq_true (by have := of_decide_eq_false h; omega)))
 ·exact .inr (.inr ⟨decide_eq_true (by have := of_decide_eq_false h; omega), rfl⟩)
theorem may_good {b : Bk} {rate : Int} (h : (b.mayB && (decide (0 ≤ rate) && decide (rate ≤ 1000))) = true) : b.mayB = true ∧ 0 ≤ rate ∧ rate ≤ 1000 := by
 rw [Bool.and_eq_true, Bool.and_eq_true] at h;exact ⟨h.1, of_decide_eq_true h.2.1, of_decide_eq_true h.2.2⟩
theorem zzaf {b : Bk} (hb : b.mayB = true) (h6 : ∀ r ∈ b.o, r.length = 6) (hs : b.s.length ≤ 900000) (e : Ev) (rate : Int) : (gateB b e rate).Small := zz35 hb h6 hs e rate
def eE0 : Ev := ⟨4, 0, 0, 0, 0, 1, 1⟩
theorem gate_eg : gateV bZ eE0 20 = (3, 0) ∧ gateL bZ eE0 20 = [⟨1, 4, 1, false⟩, ⟨2, 4, 7, false⟩, ⟨3, 0, 0, false⟩, ⟨4, 0, 1, false⟩, ⟨5, 1, 1, false⟩, ⟨6, 1, 1, false⟩, ⟨10, 0, 1, false⟩] ∧ (gateB bZ eE0 20).n = 1 := by
 refine ⟨?_, ?_, ?_⟩ <;> decide +kernel
theorem alive17 (w : World) (hT : Hid (Law16 w)) : Calls Tryz.prog 8 #[] w fun e w' => e = .returned (.bool true) ∧ Below w.heap.size w w' := by
 obtain ⟨g1, g2, g3⟩ := gate_eg;have q1 := zzai (.slice none 0 0) (.slice none 0 0) (.slice none 0 0) (.slice none 0 0) bZ eE0 20 w hT (zH (BkAt.zero w)) (zH (by unfold Bk.Small bZ; simp)) (zH (by unfold Bk.I64s bZ; simp)) (zH (show bZ.mayB = true by decide +kernel)) (zH (show eE0.I64s from ⟨zz0j zx, zz0j zx, zz0j zx, zz0j zx, zz0j zx, zz0j zx, zz0j zx⟩)) (zH zx) zx zx
 rw [g1, g2] at q1;obtain ⟨nb, hnb⟩ : ∃ nb, gateB bZ eE0 20 = nb := ⟨_, rfl⟩;rw [hnb] at q1 g3;clear hnb g1 g2;have q1 : Calls Tryz.prog 10 #[.agg BZ, .agg #[.int .i64 4, .int .i64 0, .int .i64 0, .int .i64 0, .int .i64 0, .int .i64 1, .int .i64 1], .int .i64 20] w _ := q1;have Q1 := zH q1;clear q1;go_in;go_wp2_with fail;(with_reducible refine Q1.out.mono ?_);rintro r w1 ⟨v5, vS, rfl, hO, hS, hb⟩;clear Q1;obtain ⟨U1, u1, U2, u2, U3, u3, U4, u4, hv5⟩ := hO.at.forms;rw [g3] at hv5;subst hv5;obtain ⟨A, c, hvS, hi⟩ := hS;subst hvS;obtain ⟨_, bb, o, rfl, hlt, c0, c1, c2, c3⟩ := hi 6 _ rfl;have HB := zH hb;clear hO hi g3 hb;have c0 : w1.cell? ⟨bb, o + 6 * 4, none⟩ = some (.int .i64 10) := c0;have c1 : w1.cell? ⟨bb, o + 6 * 4 + 1, none⟩ = some (.int .i64 0) := c1;have c2 : w1.cell? ⟨bb, o + 6 * 4 + 2, none⟩ = some (.int .i64 1) := c2;have c3 : w1.cell? ⟨bb, o + 6 * 4 + 3, none⟩ = some (.bool false) := c3;simp only [List.length_cons, List.length_nil] at *;go_wp2_with fail;go_ret;exact ⟨rfl, zz01 (zz01 HB.out HB.out.size _) (by have := HB.out.size; simp; omega) _⟩
theorem zt58 {p : Prop} (h : p := by
 go_in;go_wp2_with fail;(with_reducible refine (q.out _ _ (zH (hb.out.call HB.out))).mono ?_);rintro r w1 ⟨rfl, hb1⟩;have HB1 := zB HB hb1;clear hb1;cases M <;> (go_wp2_with fail; go_ret; exact ⟨rfl, HB1.out⟩)) : p := h
theorem zz7x (v : Value) (b : Bk) (rate : Int) (w : World) (hb : Hid (BkAt w v b)) (hs : Hid b.Small) :
  Calls Tryz.prog 11 #[v, .int .i64 rate] w fun e w' => e = .returned (.bool (b.mayB && (decide (0 ≤ rate) && decide (rate ≤ 1000)))) ∧ Below w.heap.size w w' := by
 obtain ⟨Ah, ch, As, cs, Ao, co, Ar, cr, rfl⟩ := hb.out.forms;have HB : Hid (Below w.heap.size w (w.alloc (.cells (BF Ah ch As cs Ao co Ar cr b b.n) 27))) := zBa;have q := zH (fun u wz h => zz9y u b wz h hs)
 obtain ⟨M, hM⟩ : ∃ M, b.mayB = M := ⟨_, rfl⟩;rw [hM] at q ⊢;clear hM;by_cases h1 : 0 ≤ rate
 ·by_cases h2 : rate ≤ 1000
  ·have t1 : decide (0 ≤ rate) = true := decide_eq_true h1
   have t2 : decide (rate ≤ 1000) = true := decide_eq_true h2;rw [t1, t2];exact zt58
  ·have t1 : decide (0 ≤ rate) = true := decide_eq_true h1
   have t2 : decide (rate ≤ 1000) = false := decide_eq_false h2;rw [t1, t2];exact zt58
 ·have t1 : decide (0 ≤ rate) = false := decide_eq_false h1
  rw [t1];exact zt58
theorem zt84 {p : Prop} (h : p := by
 replace Kb := zK Kb hb;replace Ke := zK Ke hb;replace Kc := zK Kc hb;replace Kv := zK Kv hb;replace HB := zB HB hb;clear hb;have c_v_0 := zC Kv.out;have lt_v := zL Kv.out;go_wp2_with fail;go_ret;exact ⟨rfl, HB.out⟩) : p := h
theorem zz5s (v : Value) (b : Bk) (e : Ev) (rate : Int) (w0 : World) (hT : Hid (Law16 w0)) (B0 : Hid (BkAt w0 v b)) (hi : Hid b.I64s) (hE : Hid e.I64s) (hrt : Hid (I64 rate)) :
  Calls Tryz.prog 3 #[v, e.val, .int .i64 rate] w0 fun r w' => r = .returned (.bool true) ∧ Below w0.heap.size w0 w' := by
 unfold Ev.val;obtain ⟨vh, vs, vo, vr, rfl, r1, r2, r3, r4⟩ := B0.out;have h6 : Hid (∀ r ∈ b.o, r.length = 6) := (by obtain ⟨_, _, _, h, _⟩ := r3; exact h)
 have h2r : Hid (∀ r ∈ b.r, r.length = 2) := (by obtain ⟨_, _, _, h, _⟩ := r4; exact h)
 obtain ⟨Ah, ch, rfl, _⟩ := r1;obtain ⟨As, cs, rfl, _⟩ := r2;obtain ⟨Ao, co, rfl, _⟩ := r3;obtain ⟨Ar, cr, rfl, _⟩ := r4;obtain ⟨wb, hwb⟩ : ∃ wb : World, (w0.alloc (.cells (BF Ah ch As cs Ao co Ar cr b b.n) 27)).alloc (.cells #[e.kind, e.acc, e.ord, e.sym, e.side, e.qty, e.px] 29) = wb := ⟨_, rfl⟩;have HB : Hid (Below w0.heap.size w0 wb) := by rw [← hwb]; exact zz01 zBa (by simp) _
 have Kb : ZB wb w0.heap.size (BF Ah ch As cs Ao co Ar cr b b.n) 27 := by rw [← hwb]; exact zz05 (zz02 _ _) _
 have Ke : ZB wb (w0.heap.size + 1) #[e.kind, e.acc, e.ord, e.sym, e.side, e.qty, e.px] 29 := by rw [← hwb]; exact zz0d _ _ _ (by simp)
 replace hwb := zH hwb;go_in;go_wp2_with fail;rw [hwb.out];clear hwb;(with_reducible refine (alive17 _ (zH (hT.out.call HB.out))).mono ?_);rintro r wc1 ⟨rfl, hb⟩;replace Kb := zK Kb hb;replace Ke := zK Ke hb;replace HB := zB HB hb;clear hb;have c_b_0 := zC Kb.out;have lt_b := zL Kb.out;go_wp2_with fail;clear c_b_0 lt_b;(with_reducible refine (Great_any _ b _ (zH (B0.out.call HB.out))).mono ?_);rintro r wc2 ⟨g, rfl, hg, hb⟩;replace Kb := zK Kb hb;replace Ke := zK Ke hb;replace HB := zB HB hb;clear hb;cases g with
 | true =>
  clear hg;go_wp2_with fail;go_ret;exact ⟨rfl, HB.out⟩
 | false =>
 have HFit := zH (hg rfl);clear hg;have hs := zH HFit.out.small;have hsS : Hid (b.s.length ≤ 900000) := (show b.s.length ≤ 900000 by have := HFit.out; unfold Bk.Fit at this; omega)
 have t0 : ∀ x : Int, (x == x) = true := fun x => by simp
 obtain ⟨M, hM⟩ : ∃ M, (b.mayB && (decide (0 ≤ rate) && decide (rate ≤ 1000))) = M := ⟨_, rfl⟩;cases M with
 | false =>
  have hbad : b.mayB = false ∨ decide (rate < 0) = true ∨ decide (1000 < rate) = true ∧ (b.n == 1099511627776) = (b.n == 1099511627776) := may_bad hM;have qa := zH (fun wz hv => gStep_arg (.slice Ah b.h.length ch) (.slice As b.s.length cs) (.slice Ao b.o.length co) (.slice Ar b.r.length cr) b e rate wz hv hs hbad)
  unfold Ev.val at qa;clear hbad;have qm : Hid (∀ (u : Value) (wz : World), Hid (BkAt wz u b) → Calls Tryz.prog 11 #[u, .int .i64 rate] wz fun r w' => r = .returned (.bool false) ∧ Below wz.heap.size wz w') := (show _ from fun u wz hu => by rw [← hM]; exact zz7x u b rate wz hu hs)
  have qz : Hid (∀ wz : World, Calls Tryz.prog 12 #[.agg BZ, .agg BZ] wz fun r w' => r = .returned (.bool true) ∧ Below wz.heap.size wz w') := (show _ from fun wz => by have h := zz57 (.agg BZ) (.agg BZ) bZ bZ wz (zH (BkAt.zero wz)) (zH (BkAt.zero wz)) (zH (by unfold Bk.Small bZ; simp)); rw [show sameB bZ bZ = true by decide] at h; exact h)
  have c_b_0 := zC Kb.out;have lt_b := zL Kb.out;have c_e_0 := zC Ke.out;have lt_e := zL Ke.out;go_wp2_with fail;clear c_b_0 lt_b c_e_0 lt_e;(with_reducible refine (qa.out _ (zH (B0.out.call HB.out))).mono ?_);rintro r wc3 ⟨rfl, hb⟩;replace Kb := zK Kb hb;replace Ke := zK Ke hb;replace HB := zB HB hb;clear hb;clear hM;have c_b_0 := zC Kb.out;have lt_b := zL Kb.out;go_wp2_with fail;clear c_b_0 lt_b;generalize hwa4 : World.alloc _ _ = wa4;have hb : Below wc3.heap.size wc3 wa4 := by rw [← hwa4]; exact zz01 zBa (by simp) _
  replace Kb := zK Kb hb;replace Ke := zK Ke hb;replace HB := zB HB hb;have Kc : ZB wa4 wc3.heap.size BZ 27 := by rw [← hwa4]; exact zz05 (zz02 _ _) _
  have Kv : ZB wa4 (wc3.heap.size + 1) #[.int .i64 0, .int .i64 0] 33 := by rw [← hwa4]; exact zz0d _ _ _ (by simp)
  clear hwa4 hb;(with_reducible refine (qm.out _ _ (zH (B0.out.call HB.out))).mono ?_);rintro r wc5 ⟨rfl, hb⟩;replace Kb := zK Kb hb;replace Ke := zK Ke hb;replace Kc := zK Kc hb;replace Kv := zK Kv hb;replace HB := zB HB hb;clear hb;have c_b_0 := zC Kb.out;have lt_b := zL Kb.out;go_wp2_with fail;clear c_b_0 lt_b;(with_reducible refine (qm.out _ _ (zH (B0.out.call HB.out))).mono ?_);rintro r wc6 ⟨rfl, hb⟩;replace Kb := zK Kb hb;replace Ke := zK Ke hb;replace Kc := zK Kc hb;replace Kv := zK Kv hb;replace HB := zB HB hb;clear hb;have c_c_0 := zC Kc.out;have lt_c := zL Kc.out;go_wp2_with fail;clear c_c_0 lt_c;(with_reducible refine (qz.out _).mono ?_);rintro r wc7 ⟨rfl, hb⟩;exact zt84
 | true =>
  have hmr := may_good hM;have qm : Hid (∀ (u : Value) (wz : World), Hid (BkAt wz u b) → Calls Tryz.prog 11 #[u, .int .i64 rate] wz fun r w' => r = .returned (.bool true) ∧ Below wz.heap.size wz w') := (show _ from fun u wz hu => by rw [← hM]; exact zz7x u b rate wz hu hs)
  clear hM;by_cases hn : b.n = 1099511627776
  ·skip
   have hbad : b.mayB = true ∧ decide (rate < 0) = false ∧ decide (1000 < rate) = false ∧ (b.n == 1099511627776) = true := ⟨hmr.1, decide_eq_false zw, decide_eq_false zw, by simp [hn]⟩
   have hn2 : (b.n == 1099511627776) = true := by simp [hn]
   have qa := zH (fun wz hv => zzaj (.slice Ah b.h.length ch) (.slice As b.s.length cs) (.slice Ao b.o.length co) (.slice Ar b.r.length cr) b e rate wz hv hs hbad)
   unfold Ev.val at qa;clear hbad;have qz : Hid (∀ wz : World, Calls Tryz.prog 12 #[.agg BZ, .agg BZ] wz fun r w' => r = .returned (.bool true) ∧ Below wz.heap.size wz w') := (show _ from fun wz => by have h := zz57 (.agg BZ) (.agg BZ) bZ bZ wz (zH (BkAt.zero wz)) (zH (BkAt.zero wz)) (zH (by unfold Bk.Small bZ; simp)); rw [show sameB bZ bZ = true by decide] at h; exact h)
   clear hmr hn;have c_b_0 := zC Kb.out;have lt_b := zL Kb.out;have c_e_0 := zC Ke.out;have lt_e := zL Ke.out;go_wp2_with fail;clear c_b_0 lt_b c_e_0 lt_e;(with_reducible refine (qa.out _ (zH (B0.out.call HB.out))).mono ?_);rintro r wc8 ⟨rfl, hb⟩;replace Kb := zK Kb hb;replace Ke := zK Ke hb;replace HB := zB HB hb;clear hb;have c_b_0 := zC Kb.out;have lt_b := zL Kb.out;go_wp2_with fail;clear c_b_0 lt_b;generalize hwa9 : World.alloc _ _ = wa9;have hb : Below wc8.heap.size wc8 wa9 := by rw [← hwa9]; exact zz01 zBa (by simp) _
   replace Kb := zK Kb hb;replace Ke := zK Ke hb;replace HB := zB HB hb;have Kc : ZB wa9 wc8.heap.size BZ 27 := by rw [← hwa9]; exact zz05 (zz02 _ _) _
   have Kv : ZB wa9 (wc8.heap.size + 1) #[.int .i64 0, .int .i64 0] 33 := by rw [← hwa9]; exact zz0d _ _ _ (by simp)
   clear hwa9 hb;(with_reducible refine (qm.out _ _ (zH (B0.out.call HB.out))).mono ?_);rintro r wc10 ⟨rfl, hb⟩;replace Kb := zK Kb hb;replace Ke := zK Ke hb;replace Kc := zK Kc hb;replace Kv := zK Kv hb;replace HB := zB HB hb;clear hb;have c_b_0 := zC Kb.out;have lt_b := zL Kb.out;go_wp2_with fail;clear c_b_0 lt_b;(with_reducible refine (qm.out _ _ (zH (B0.out.call HB.out))).mono ?_);rintro r wc11 ⟨rfl, hb⟩;replace Kb := zK Kb hb;replace Ke := zK Ke hb;replace Kc := zK Kc hb;replace Kv := zK Kv hb;replace HB := zB HB hb;clear hb;have c_c_0 := zC Kc.out;have lt_c := zL Kc.out;go_wp2_with fail;clear c_c_0 lt_c;(with_reducible refine (qz.out _).mono ?_);rintro r wc12 ⟨rfl, hb⟩;exact zt84
  ·skip
   have hm : Hid (b.mayB = true) := hmr.1;have hr0 : 0 ≤ rate ∧ rate ≤ 1000 := hmr.2;have hpr : Hid (∀ sym, 0 ≤ priceOf b sym) := (show ∀ sym, 0 ≤ priceOf b sym from fun sym => zz44 hmr.1 h2r.out sym)
   have hfine := (Bk.mayB_iff b).1 hmr.1;have hN : Hid (0 ≤ b.n ∧ b.n ≤ 1099511627776) := ⟨hfine.n0, hfine.n1⟩;clear hfine;have q1 := zH (fun wz hz hv => zzai (.slice Ah b.h.length ch) (.slice As b.s.length cs) (.slice Ao b.o.length co) (.slice Ar b.r.length cr) b e rate wz hz hv hs hi hm hE hsS hr0 hn)
   unfold Ev.val at q1;have hnbs0 := zzaf hmr.1 h6.out hsS.out e rate;have hLl0 := zz3o b e rate;obtain ⟨nb, hnb⟩ : ∃ nb, gateB b e rate = nb := ⟨_, rfl⟩;obtain ⟨⟨V1, V2⟩, hV⟩ : ∃ V, gateV b e rate = V := ⟨_, rfl⟩;obtain ⟨L, hL⟩ : ∃ L, gateL b e rate = L := ⟨_, rfl⟩;rw [hnb, hV, hL] at q1;rw [hnb] at hnbs0;rw [hL] at hLl0;have hnbs := zH hnbs0;have hLl := zH hLl0;have q1 : Hid (∀ wz : World, Hid (Law16 wz) → Hid (BkAt wz (.agg (BF Ah ch As cs Ao co Ar cr b b.n)) b) → Calls Tryz.prog 10 #[.agg (BF Ah ch As cs Ao co Ar cr b b.n), .agg #[e.kind, e.acc, e.ord, e.sym, e.side, e.qty, e.px], .int .i64 rate] wz fun r w' => ∃ v vS, r = .returned (.tuple #[v, .agg #[V1, V2], vS, .int .i64 0]) ∧ BkOwn w' wz.heap.size v nb ∧ StepsAt w' vS L ∧ Below wz.heap.size wz w') := q1
   clear hnbs0 hLl0 hr0;have q2 := zH (fun wz hv => rStep_any (.slice Ah b.h.length ch) (.slice As b.s.length cs) (.slice Ao b.o.length co) (.slice Ar b.r.length cr) b e rate wz hv hs hi hm hE hrt hpr hN)
   unfold Ev.val at q2;rw [hnb, hV, hL] at q2;have hn2 : (b.n == 1099511627776) = false := beq_eq_false_iff_ne.2 hn;clear hnb hV hL hmr hn;have c_b_0 := zC Kb.out;have lt_b := zL Kb.out;have c_e_0 := zC Ke.out;have lt_e := zL Ke.out;go_wp2_with fail;clear c_b_0 lt_b c_e_0 lt_e;(with_reducible refine (q1.out _ (zH (hT.out.call HB.out)) (zH (B0.out.call HB.out))).mono ?_);rintro r wc13 ⟨v5, vS, rfl, hO, hS, hb⟩;replace Kb := zK Kb hb;replace Ke := zK Ke hb;replace HB := zB HB hb;clear hb;obtain ⟨U1, u1, U2, u2, U3, u3, U4, u4, hv5⟩ := hO.at.forms;subst hv5;have HO := zH hO;clear hO;obtain ⟨AS, cS, hvS⟩ := hS.formS;subst hvS;have HS := zH hS;clear hS;have c_b_0 := zC Kb.out;have lt_b := zL Kb.out;go_wp2_with fail;clear c_b_0 lt_b;generalize hwa14 : World.alloc _ _ = wa14;have hb : Below wc13.heap.size wc13 wa14 := by rw [← hwa14]; exact zz01 zBa (by simp) _
   replace Kb := zK Kb hb;replace Ke := zK Ke hb;replace HB := zB HB hb;replace HO := zH (HO.out.kept hb);replace HS := zH (HS.out.call hb);have Kc : ZB wa14 wc13.heap.size (BF U1 u1 U2 u2 U3 u3 U4 u4 nb (nb.n)) 27 := by rw [← hwa14]; exact zz05 (zz02 _ _) _
   have Kv : ZB wa14 (wc13.heap.size + 1) #[V1, V2] 33 := by rw [← hwa14]; exact zz0d _ _ _ (by simp)
   clear hwa14 hb;(with_reducible refine (qm.out _ _ (zH (B0.out.call HB.out))).mono ?_);rintro r wc15 ⟨rfl, hb⟩;replace Kb := zK Kb hb;replace Ke := zK Ke hb;replace Kc := zK Kc hb;replace Kv := zK Kv hb;replace HB := zB HB hb;replace HO := zH (HO.out.kept hb);replace HS := zH (HS.out.call hb);clear hb;have c_b_0 := zC Kb.out;have lt_b := zL Kb.out;have c_e_0 := zC Ke.out;have lt_e := zL Ke.out;go_wp2_with fail;clear c_b_0 lt_b c_e_0 lt_e;(with_reducible refine (q2.out _ (zH (B0.out.call HB.out))).mono ?_);rintro r wc16 ⟨v5, vS, rfl, hO, hS, hb⟩;replace Kb := zK Kb hb;replace Ke := zK Ke hb;replace Kc := zK Kc hb;replace Kv := zK Kv hb;replace HB := zB HB hb;replace HO := zH (HO.out.kept hb);replace HS := zH (HS.out.call hb);clear hb;obtain ⟨U1x, u1x, U2x, u2x, U3x, u3x, U4x, u4x, hv5⟩ := hO.forms;subst hv5;have HOx := zH hO;clear hO;obtain ⟨ASx, cSx, hvS⟩ := hS.formS;subst hvS;have HSx := zH hS;clear hS;have c_c_0 := zC Kc.out;have lt_c := zL Kc.out;go_wp2_with fail;clear c_c_0 lt_c;generalize hwa17 : World.alloc _ _ = wa17;have hb : Below wc16.heap.size wc16 wa17 := by rw [← hwa17]; exact zz01 zBa (by simp) _
   replace Kb := zK Kb hb;replace Ke := zK Ke hb;replace Kc := zK Kc hb;replace Kv := zK Kv hb;replace HB := zB HB hb;replace HO := zH (HO.out.kept hb);replace HS := zH (HS.out.call hb);replace HOx := zH (HOx.out.call hb);replace HSx := zH (HSx.out.call hb);have Kd : ZB wa17 wc16.heap.size (BF U1x u1x U2x u2x U3x u3x U4x u4x nb nb.n) 27 := by rw [← hwa17]; exact zz05 (zz02 _ _) _
   have Kx : ZB wa17 (wc16.heap.size + 1) #[V1, V2] 33 := by rw [← hwa17]; exact zz0d _ _ _ (by simp)
   clear hwa17 hb;have qs : Hid (∀ (u u2 : Value) (wz : World), Hid (BkAt wz u nb) → Hid (BkAt wz u2 nb) → Calls Tryz.prog 12 #[u, u2] wz fun r w' => r = .returned (.bool true) ∧ Below wz.heap.size wz w') := (show _ from fun u u2 wz h1 h2 => by have h := zz57 u u2 nb nb wz h1 h2 hnbs; rw [(zz54 nb nb).2 rfl] at h; exact h)
   (with_reducible refine (qs.out _ _ _ (zH HO.out.at) HOx).mono ?_);rintro r wc18 ⟨rfl, hb⟩
   replace Kb := zK Kb hb;replace Ke := zK Ke hb;replace Kc := zK Kc hb;replace Kv := zK Kv hb;replace Kd := zK Kd hb;replace Kx := zK Kx hb;replace HB := zB HB hb;replace HO := zH (HO.out.kept hb);replace HS := zH (HS.out.call hb);replace HOx := zH (HOx.out.call hb);replace HSx := zH (HSx.out.call hb);clear hb;have c_v_0 := zC Kv.out;have lt_v := zL Kv.out;have c_x_0 := zC Kx.out;have lt_x := zL Kx.out;go_wp2_with fail;clear c_v_0 lt_v c_x_0 lt_x;have qL : Hid (∀ (u u2 : Value) (wz : World), Hid (StepsAt wz u L) → Hid (StepsAt wz u2 L) → Calls Tryz.prog 14 #[u, u2] wz fun r w' => r = .returned (.bool true) ∧ Below wz.heap.size wz w') := (show _ from fun u u2 wz h1 h2 => by have h := zz6q u u2 L L wz h1 h2 (Nat.le_trans hLl.out zx) (Nat.le_trans hLl.out zx); rw [decide_eq_true rfl] at h; exact h)
   (with_reducible refine (qL.out _ _ _ HS HSx).mono ?_);rintro r wc19 ⟨rfl, hb⟩
   replace Kb := zK Kb hb;replace Ke := zK Ke hb;replace Kc := zK Kc hb;replace Kv := zK Kv hb;replace Kd := zK Kd hb;replace Kx := zK Kx hb;replace HB := zB HB hb;replace HO := zH (HO.out.kept hb);replace HS := zH (HS.out.call hb);replace HOx := zH (HOx.out.call hb);replace HSx := zH (HSx.out.call hb);clear hb;go_wp2_with fail;go_ret;exact ⟨rfl, HB.out⟩
end
end Go.Proofs.YtajogedbacpohaaGreatDoor
