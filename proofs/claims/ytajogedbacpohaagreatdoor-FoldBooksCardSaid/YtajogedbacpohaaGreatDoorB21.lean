/- Part 22 of what the claim rests on. -/
import Derived.Test.YtajogedbacpohaaGreatDoorB00
import Derived.Test.YtajogedbacpohaaGreatDoorB12
import Derived.Test.YtajogedbacpohaaGreatDoorB13
import Derived.Test.YtajogedbacpohaaGreatDoorB16
import Derived.Test.YtajogedbacpohaaGreatDoorB18
import Derived.Test.YtajogedbacpohaaGreatDoorB20
import Derived.Laws.AppendOwnNone
import Derived.Maps.AppendAt
import Derived.SizedLaws
set_option linter.unusedVariables false
set_option linter.unusedSimpArgs false
set_option maxRecDepth 1000000
set_option maxHeartbeats 32000000
namespace Go.Proofs.YtajogedbacpohaaGreatDoor
section
open Go Go.RowKit Go.Shelf Mon
attribute [local go_sem] Oper.semAt_some
def rightC (b : Bk) (n : Nat) (rate : Int) : Int :=
 if 65536 < n then 4 else if (b.mayB && (decide (0 ≤ rate) && decide (rate ≤ 1000))) = true then (if 1099511627776 < b.n + n then 11 else 0) else 1
theorem zt56 {p : Prop} (h : p := by
 go_in;go_wp2_with fail;(with_reducible refine (q.out _ _ (zH (hb.out.call HB.out))).mono ?_);rintro r w1 ⟨rfl, hb1⟩;have HB1 := zB HB hb1;clear hb1;go_wp2_with fail;go_ret;exact ⟨rfl, HB1.out⟩) : p := h
theorem zz5r (v : Value) (b : Bk) (n : Nat) (rate : Int) (w : World) (hb : Hid (BkAt w v b)) (hs : Hid b.Small) (hn : n ≤ 9223372036854775807) :
  Calls Tryz.prog 48 #[v, .int .i64 n, .int .i64 rate] w fun e w' => e = .returned (.int .i64 (rightC b n rate)) ∧ Below w.heap.size w w' := by
 obtain ⟨Ah, ch, As, cs, Ao, co, Ar, cr, rfl⟩ := hb.out.forms;have HB : Hid (Below w.heap.size w (w.alloc (.cells (BF Ah ch As cs Ao co Ar cr b b.n) 27))) := zBa;have k := zz02 w (.cells (BF Ah ch As cs Ao co Ar cr b b.n) 27);have K := zH k;clear k;by_cases h1 : 65536 < n
 ·have t1 : decide ((65536 : Int) < (n : Int)) = true := decide_eq_true zw
  have hr : rightC b n rate = 4 := if_pos h1;rw [hr];go_in;go_wp2_with fail;go_ret;exact ⟨rfl, HB.out⟩
 have t1 : decide ((65536 : Int) < (n : Int)) = false := decide_eq_false zw;have q := zH (fun u wz h => zz2o u b wz h hs)
 obtain ⟨M, hM⟩ : ∃ M, b.mayB = M := ⟨_, rfl⟩;rw [hM] at q;cases M with
 | false =>
  have hr : rightC b n rate = 1 := by unfold rightC; rw [if_neg h1, hM, if_neg (by simp)]
  rw [hr];exact zt56
 | true =>
 have hf := (Bk.mayB_iff b).1 hM;have hn0 := hf.n0;have hn1 := hf.n1;by_cases h2 : rate < 0
 ·have t2 : decide (rate < 0) = true := decide_eq_true h2
  have hr : rightC b n rate = 1 := by unfold rightC; rw [if_neg h1, hM, decide_eq_false (show ¬ 0 ≤ rate by omega), if_neg (by simp)]
  rw [hr];clear hf hn0 hn1 h2;exact zt56
 have t2 : decide (rate < 0) = false := decide_eq_false h2;by_cases h3 : 1000 < rate
 ·have t3 : decide (1000 < rate) = true := decide_eq_true h3
  have hr : rightC b n rate = 1 := by unfold rightC; rw [if_neg h1, hM, decide_eq_false (show ¬ rate ≤ 1000 by omega), if_neg (by simp)]
  rw [hr];clear hf hn0 hn1 h2 h3;exact zt56
 have t3 : decide (1000 < rate) = false := decide_eq_false h3;have hw : IntKind.i64.wrap (b.n + (n : Int)) = b.n + (n : Int) := by rw [IntKind.wrap_i64]; omega
 obtain ⟨D, hD⟩ : ∃ D, decide (1099511627776 < b.n + (n : Int)) = D := ⟨_, rfl⟩;have hr : rightC b n rate = if D then 11 else 0 := by
  unfold rightC;rw [if_neg h1, hM, decide_eq_true (show 0 ≤ rate by omega), decide_eq_true (show rate ≤ 1000 by omega), if_pos (by simp), ← hD]
  simp
 rw [hr];clear hf hn0 hn1 h1 h2 h3 hr;go_in;go_wp2_with fail;(with_reducible refine (q.out _ _ (zH (hb.out.call HB.out))).mono ?_);rintro r w1 ⟨rfl, hb1⟩;have HB1 := zB HB hb1;have K1 := zK K hb1;clear hb1;have c4 := zz00 K1.out 4 _ rfl;cases D <;> (go_wp2_with fail; go_ret; exact ⟨rfl, HB1.out⟩)
theorem ret_tct {P : Program} {fn : Func} {p s1 s2 : Tmp} {ty : TypeId} (h : fn.results = #[.tmp s1, .cell p ty, .tmp s2]) (tmps : Array Value) (w : World) (g : Nat) (t : TypeId) (cs : Array Value) (d : TypeDesc)
  (hp : tmps.getD p undef = .pointer (some ⟨g, 0, none⟩)) (hg : w.heap[g]? = some (.cells cs t (0, 0)))
  (hu : P.underlying ty = some d) (hd : (match d with | .struct _ | .array _ _ => true | _ => false) = true) (hi : (P.info? ty).map (·.size) = some cs.size)
  (x y : Value) (hx : tmps.getD s1 undef = x) (hy : tmps.getD s2 undef = y) : (results fn tmps).run P w = .ok (.tuple #[x, .agg cs, y]) w := by
 subst hx hy;exact zt88
theorem RowOwn.baseTo {w : World} {B B' : Nat} {e : TypeId} {v : Value} {k : Nat} {l : List (List Int)} (h : RowOwn w B e v k l) (hB : B' ≤ B) : RowOwn w B' e v k l := by
 obtain ⟨⟨hl, ho⟩, h2⟩ := h;refine ⟨⟨hl, ?_⟩, h2⟩;rcases ho with h | ⟨g, cap, cur, h1, h3, h4⟩
 ·exact .inl h
 ·exact .inr ⟨g, cap, cur, h1, Nat.le_trans hB h3, h4⟩
structure IRun (w0 : World) (no nl Bs : Nat) (vl : Value) (b : Bk) (rate : Int) (pre : List Ev) (M : Nat) (W : World) (vo : Value) (bv : Array Value) : Prop where
 below : Below w0.heap.size w0 W
 lbox : W.heap[w0.heap.size + 1]? = some (.cells #[vl] 44 (0, 0))
 res : W.heap[w0.heap.size + 1 + 1]? = some (.cells BZ 27 (0, 0))
 out : W.heap[no]? = some (.cells #[vo] 45 (0, 0))
 last : W.heap[nl]? = some (.cells bv 27 (0, 0))
 row : RowOwn W (Bs + 3) 98 vo 9 (foldP b rate pre)
 rowM : ∀ q, vo.ownBlock = some q → q < M
 bk : BkOwn W w0.heap.size (.agg bv) (foldB b rate pre)
 bkB : NotIn Bs (.agg bv)
theorem IRun.grow {w0 A B : World} {no nl Bs N M : Nat} {vl vo : Value} {bv : Array Value} {b : Bk} {rate : Int} {pre : List Ev} {row : Option Nat} (h : IRun w0 no nl Bs vl b rate pre M A vo bv) (hg : A.grownBy B row) (hr : ∀ r, row = some r → r = Bs ∨ (N ≤ r ∧ ∃ o : Obj, A.heap[r]? = some o ∧ o.isCells = false))
  (h1 : w0.heap.size + 1 + 1 < Bs ∧ no < Bs ∧ nl < Bs ∧ Bs ≤ N) : IRun w0 no nl Bs vl b rate pre M B vo bv := by
 have fx : ∀ {k : Nat} {cs : Array Value} {t : TypeId} {fr : Nat × Nat}, A.heap[k]? = some (.cells cs t fr) → k < Bs → B.heap[k]? = some (.cells cs t fr) := fun {k cs t fr} hk hlt => (hg.block k (zL hk) fun e => by
  rcases hr k e.symm with h | ⟨h, _⟩ <;> omega).trans hk
 refine ⟨h.below.grown hg h.below.size (fun k e => ?_), fx h.lbox zw, fx h.res h1.1, fx h.out h1.2.1, fx h.last h1.2.2.1, h.row.grow hg fun q hq e => ?_, h.rowM, h.bk.grow h.bkB hg hr, h.bkB⟩
 ·rcases hr k e with h | ⟨h, _⟩ <;> omega
 ·rcases hr q e with h2 | ⟨h2, o, ho, hc⟩
  ·have := (h.row.block hq).1
   omega
  ·obtain ⟨o', ho', hc'⟩ := h.row.cellsB hq
   rw [ho] at ho';cases ho';rw [hc] at hc';cases hc'
theorem IRun.call {w0 A B : World} {no nl Bs M : Nat} {vl vo : Value} {bv : Array Value} {b : Bk} {rate : Int} {pre : List Ev} (h : IRun w0 no nl Bs vl b rate pre M A vo bv) (hb : Below A.heap.size A B) (h1 : w0.heap.size + 1 + 1 < Bs ∧ no < Bs ∧ nl < Bs) : IRun w0 no nl Bs vl b rate pre M B vo bv :=
 h.grow (N := Bs) (zz21 hb none) (fun r e => by cases e) ⟨h1.1, h1.2.1, h1.2.2, Nat.le_refl _⟩
theorem zt48 {p : Prop} (h : p := by
 rintro pre x M a' W l o o' ⟨g, Y1, e1, Y2, e2, Y3, e3, Y4, e4, rfl, hg, hk, hO⟩ hl ho hc;have fx : ∀ {k : Nat} {cs : Array Value} {t : TypeId} {fr : Nat × Nat}, W.heap[k]? = some (.cells cs t fr) → (W.putObj l o').heap[k]? = some (.cells cs t fr) := fun {k cs t fr} hk => by
  rw [World.putObj_heap_other (fun e => ?_)]
  ·exact hk
  ·subst e
   rw [ho] at hk;cases hk;cases hc
 exact ⟨g, Y1, e1, Y2, e2, Y3, e3, Y4, e4, rfl, hg, zH (fx hk.out), zH (hO.out.still (by simp) fun q cs t fr hq _ => fx hq)⟩) : p := h
theorem zz7i (Ah As Ao Ar AL : Option Addr) (ch cs co cr cL : Nat) (b : Bk) (L : List Ev) (rate : Int) (w : World) (hT : Hid (Law16 w)) (B0 : Hid (BkAt w (.agg (BF Ah ch As cs Ao co Ar cr b b.n)) b)) (HL : Hid (EvsAt w (.slice AL L.length cL) L)) (hgd : Hid b.Good) (hE : Hid (∀ e ∈ L, e.I64s)) (hr0 : Hid (0 ≤ rate ∧ rate ≤ 1000))
  (hcount : Hid (b.n + L.length ≤ 1099511627776)) (hst : Hid (b.s.length + L.length ≤ 900000)) (hln : L.length ≤ 60000) :
  Calls Tryz.prog 16 #[.agg (BF Ah ch As cs Ao co Ar cr b b.n), .slice AL L.length cL, .int .i64 rate] w fun r w' => ∃ vp vb, r = .returned (.tuple #[vp, vb, .int .i64 0]) ∧ RowOwn w' w.heap.size 98 vp 9 (foldP b rate L) ∧ BkOwn w' w.heap.size vb (foldB b rate L) ∧ Below w.heap.size w w' := by
 have hsm : Hid b.Small := hgd.out.small (by have := hst.out; omega)
 have q1 : Hid (∀ (v : Value) (wz : World), Hid (BkAt wz v b) → Calls Tryz.prog 48 #[v, .int .i64 L.length, .int .i64 rate] wz fun e w' => e = .returned (.int .i64 0) ∧ Below wz.heap.size wz w') := (show _ from fun v wz hv => by
  have h := zz5r v b L.length rate wz hv hsm zw;rw [show rightC b L.length rate = 0 from by unfold rightC; rw [if_neg zw, hgd.out.may, decide_eq_true hr0.out.1, decide_eq_true hr0.out.2, if_pos (by rfl), if_neg (by have := hcount.out; omega)]] at h
  exact h)
 refine (callsIn_wide (n := 3)).1 ?_;have h1 : 1 ≤ 3 := by omega
 have hro : Fence.wide.round = none := rfl;obtain ⟨wb, hwb⟩ : ∃ wb : World, ((w.alloc (.cells (BF Ah ch As cs Ao co Ar cr b b.n) 27)).alloc (.cells #[.slice AL L.length cL] 44)).alloc (.cells BZ 27) = wb := ⟨_, rfl⟩;have HB : Hid (Below w.heap.size w wb) := by rw [← hwb]; exact zz01 (zz01 zBa (by simp) _) (by simp; omega) _
 have K0 : ZB wb w.heap.size (BF Ah ch As cs Ao co Ar cr b b.n) 27 := by rw [← hwb]; exact zz05 (zz05 (zz02 _ _) _) _
 have K1 : ZB wb (w.heap.size + 1) #[.slice AL L.length cL] 44 := by rw [← hwb]; exact zz05 (zz0c _ _ _ (by simp)) _
 have K2 : ZB wb (w.heap.size + 1 + 1) BZ 27 := by rw [← hwb]; exact zz0c _ _ _ (by simp)
 replace hwb := zH hwb;have b0 := zC K0.out;have l0 := zz00 K1.out 0 _ rfl;rw [← hwb.out] at b0 l0;refine callsIn_of_wp_marks Tryz.func16 rfl trivial ?_ hro;simp only [Tryz.ntmps16, List.size_toArray, List.length_cons, List.length_nil, Nat.reduceAdd, Nat.reduceSub, Array.replicate_succ, Array.replicate_zero, List.push_toArray, List.append_toArray, List.nil_append, List.cons_append]
 gi_wp2_with (fail)
 rw [hwb.out];refine ⟨trivial, callsIn_wide.2 ((q1.out _ _ (zH (B0.out.call HB.out))).mono ?_)⟩;rintro r w1 ⟨rfl, hb⟩;clear b0 l0 hwb q1;replace K0 := zK K0 hb;replace K1 := zK K1 hb;replace K2 := zK K2 hb;replace HB := zB HB hb;clear hb;have b0 := zC K0.out;have lt0 := zL K0.out
 gi_wp2_with (fail)
 clear b0 lt0;generalize hwo : World.alloc _ _ = wo;have hbo := zM0 hwo;have KO : ZB wo w1.heap.size #[.slice none 0 0] 45 := by rw [← hwo]; exact zz02 _ _
 have NO : Hid (w.heap.size + 1 + 1 < w1.heap.size) := zL K2.out;replace K0 := zK K0 hbo;replace K1 := zK K1 hbo;replace K2 := zK K2 hbo;replace HB := zB HB hbo;have NW := zH HB.out.size;clear hbo hwo;refine ⟨trivial, callsIn_wide.2 ((zz31 _ b _ (zH (B0.out.call HB.out)) hsm).mono ?_)⟩;rintro r w2 ⟨v6, rfl, hOw, hb⟩;obtain ⟨C1, d1, C2, d2, C3, d3, C4, d4, hv6⟩ := hOw.at.forms;subst hv6;have HO := zH hOw;replace KO := zK KO hb;replace K0 := zK K0 hb;replace K1 := zK K1 hb;replace K2 := zK K2 hb;replace HB := zB HB hb;clear hb hOw;have b0 := zC K0.out;have l0 := zz00 K1.out 0 _ rfl;have lt0 := zL K0.out;have lt1 := zL K1.out
 gi_wp2_with (fail)
 clear b0 l0 lt0 lt1;generalize hwl : World.alloc _ _ = wl;have hbl := zM0 hwl;have KL : ZB wl w2.heap.size (BF C1 d1 C2 d2 C3 d3 C4 d4 b b.n) 27 := by rw [← hwl]; exact zz02 _ _
 have NL : Hid (w1.heap.size < w2.heap.size) := zL KO.out;have NI := zH (fun Bs (h : w2.heap.size ≤ Bs) => HO.out.notIn (.inr h))
 replace KO := zK KO hbl;replace K1 := zK K1 hbl;replace K2 := zK K2 hbl;replace HO := zH (HO.out.kept hbl);replace HB := zB HB hbl;clear hbl hwl K0;have NB : Hid (w2.heap.size < wl.heap.size) := zL KL.out;refine ⟨trivial, callsIn_wide.2 ((zz6r Ah As Ao Ar AL ch cs co cr L.length cL b rate wl).mono ?_)⟩;rintro r w3 ⟨rfl, hw3⟩;have hb3 : Below wl.heap.size wl w3 := by rw [hw3]; exact zz01 (zz01 zBa (by simp) _) (by simp; omega) _
 have S0 : ZB w3 wl.heap.size (BF Ah ch As cs Ao co Ar cr b b.n) 27 := by rw [hw3]; exact zz05 (zz05 (zz02 _ _) _) _
 have S1 : ZB w3 (wl.heap.size + 1) #[.slice AL L.length cL] 44 := by rw [hw3]; exact zz05 (zz0c _ _ _ (by simp)) _
 have S2 : ZB w3 (wl.heap.size + 2) #[rate] 3 := by rw [hw3]; exact zz0c _ _ _ (by simp)
 replace KO := zK KO hb3;replace KL := zK KL hb3;replace K1 := zK K1 hb3;replace K2 := zK K2 hb3;replace HO := zH (HO.out.kept hb3);replace HB := zB HB hb3;have N3 : Hid (wl.heap.size + 2 < w3.heap.size) := zL S2.out;clear hw3 hb3
 gi_wp2_with (fail)
 have hsz : w.heap.size + 1 + 1 < wl.heap.size ∧ w1.heap.size < wl.heap.size ∧ w2.heap.size < wl.heap.size ∧ wl.heap.size + 2 < w3.heap.size ∧ w.heap.size + 1 + 1 < w1.heap.size ∧ w1.heap.size < w2.heap.size := by have h1 := NO.out; have h2 := NL.out; have h3 := NB.out; have h4 := N3.out; omega
 have SZ := zH hsz;refine zz4c hro h1 (gf := 114) (lb := #[.pointer (some ⟨wl.heap.size + 1, 0, none⟩), .pointer (some ⟨wl.heap.size, 0, none⟩), .pointer (some ⟨wl.heap.size + 2, 0, none⟩)]) rfl trivial (enters_of Tryz.func114 zk rfl)
  (EnF b rate) (KpF w.heap.size wl.heap.size) L wl.heap.size
  (fun pre x args M W h => by obtain ⟨_, _, _, _, _, _, _, _, rfl, _⟩ := h; rfl) (fun h k => h.trans k) (fun M W l o o' hl ho hc => KpF.put o' zw ho hc)
  (zz6s b L rate w w3 wl.heap.size Ah As Ao Ar AL ch cs co cr cL hT B0 HL hgd hE hr0 hcount hst zw HB (zH (by show _ ≤ _; omega)) S0 S1 S2) zw
  (fun pre M W => ∃ vo bv, Hid (IRun w w1.heap.size w2.heap.size wl.heap.size (.slice AL L.length cL) b rate pre M W vo bv)) (fun _ _ _ => False)
  (fun M pre A B row ⟨vo, bv, h⟩ hg hr => ⟨vo, bv, h.out.grow hg hr zw⟩)
  (fun pre M W ⟨vo, bv, h⟩ => ⟨vo, bv, { h.out with rowM := fun q hq => (h.out.row.block hq).2 }⟩)
  (fun c pre A B row h _ _ => h)
  ⟨_, _, zH ⟨HB.out, K1.out, K2.out, KO.out, KL.out, ⟨World.ownsRow_nil _ _ _ _, (show ∀ r ∈ ([] : List (List Int)), r.length = 9 from fun r hr => by simp at hr)⟩, (fun q hq => by cases hq), HO.out.mono NW.out, NI.out _ zw⟩⟩
  (fun pre x M a' W => ∃ (g : Nat) (Y1 : Option Addr) (e1 : Nat) (Y2 : Option Addr) (e2 : Nat) (Y3 : Option Addr) (e3 : Nat) (Y4 : Option Addr) (e4 : Nat), a' = { tmps := #[.agg (BF Ah ch As cs Ao co Ar cr b b.n), .slice AL L.length cL, .int .i64 rate, .pointer (some ⟨w.heap.size, 0, none⟩), .pointer (some ⟨w.heap.size + 1, 0, none⟩), undef, .slice none 0 0, .pointer (some ⟨w.heap.size + 1 + 1, 0, none⟩), .int .i64 0, .int .i64 0, .pointer (some ⟨w1.heap.size, 0, none⟩), .pointer (some ⟨w2.heap.size, 0, none⟩), .int .i64 (pre.length : Nat), .pointer (some ⟨g, 0, none⟩), .agg (BF Ah ch As cs Ao co Ar cr b b.n), .slice AL L.length cL, .int .i64 L.length, .int .i64 rate, .int .i64 0, .int .i64 0, .bool false, undef, undef, .agg (BF Ah ch As cs Ao co Ar cr b b.n), .agg (BF C1 d1 C2 d2 C3 d3 C4 d4 b b.n), .agg (BF Ah ch As cs Ao co Ar cr b b.n), .slice AL L.length cL, .int .i64 rate, .func (.func 114) #[] #[.pointer (some ⟨wl.heap.size + 1, 0, none⟩), .pointer (some ⟨wl.heap.size, 0, none⟩), .pointer (some ⟨wl.heap.size + 2, 0, none⟩)], .int .i64 (pre.length : Nat), .agg #[.int .i64 (gateV (foldB b rate pre) x rate).1, .int .i64 (gateV (foldB b rate pre) x rate).2, .slice Y1 (foldB b rate (pre ++ [x])).h.length e1, .slice Y2 (foldB b rate (pre ++ [x])).s.length e2, .slice Y3 (foldB b rate (pre ++ [x])).o.length e3, .slice Y4 (foldB b rate (pre ++ [x])).r.length e4, .int .i64 (foldB b rate (pre ++ [x])).n], undef, undef, undef, undef, undef, undef, undef, undef, undef, undef, undef, undef, undef, undef], defers := [] } ∧ M ≤ g ∧ ZB W g #[.int .i64 (gateV (foldB b rate pre) x rate).1, .int .i64 (gateV (foldB b rate pre) x rate).2, .slice Y1 (foldB b rate (pre ++ [x])).h.length e1, .slice Y2 (foldB b rate (pre ++ [x])).s.length e2, .slice Y3 (foldB b rate (pre ++ [x])).o.length e3, .slice Y4 (foldB b rate (pre ++ [x])).r.length e4, .int .i64 (foldB b rate (pre ++ [x])).n] 104 ∧ Hid (BkOwn W M (.agg #[.slice Y1 (foldB b rate (pre ++ [x])).h.length e1, .slice Y2 (foldB b rate (pre ++ [x])).s.length e2, .slice Y3 (foldB b rate (pre ++ [x])).o.length e3, .slice Y4 (foldB b rate (pre ++ [x])).r.length e4, .int .i64 (foldB b rate (pre ++ [x])).n]) (foldB b rate (pre ++ [x]))))
  ?hAx ?assign ?body ?done ?stop
 case hAx =>
  exact zt48
 case assign =>
  rintro l pre x args M W K hwM hMW ⟨vo, bv, hI⟩ ⟨Y1, e1, Y2, e2, Y3, e3, Y4, e4, rfl, hO⟩ hpre hK;have hbW : Below W.heap.size W (W.alloc (.cells #[.int .i64 (gateV (foldB b rate pre) x rate).1, .int .i64 (gateV (foldB b rate pre) x rate).2, .slice Y1 (foldB b rate (pre ++ [x])).h.length e1, .slice Y2 (foldB b rate (pre ++ [x])).s.length e2, .slice Y3 (foldB b rate (pre ++ [x])).o.length e3, .slice Y4 (foldB b rate (pre ++ [x])).r.length e4, .int .i64 (foldB b rate (pre ++ [x])).n] 104)) := zBa;have hK2 := zH (hK _ (W.alloc (.cells #[.int .i64 (gateV (foldB b rate pre) x rate).1, .int .i64 (gateV (foldB b rate pre) x rate).2, .slice Y1 (foldB b rate (pre ++ [x])).h.length e1, .slice Y2 (foldB b rate (pre ++ [x])).s.length e2, .slice Y3 (foldB b rate (pre ++ [x])).o.length e3, .slice Y4 (foldB b rate (pre ++ [x])).r.length e4, .int .i64 (foldB b rate (pre ++ [x])).n] 104)) ((KeepsOthers.alloc _ _).from _) (KpF.of hbW zw) ⟨vo, bv, hI.out.call hbW zw⟩ ⟨W.heap.size, Y1, e1, Y2, e2, Y3, e3, Y4, e4, rfl, hMW, zH (zz02 _ _), zH (hO.kept hbW)⟩)
  clear hK hbW hO hI
  gi_wp2
  exact hK2.out
 case body =>
  rintro l pre x M a' W hwM hMW ⟨vo, bv, hI⟩ ⟨g, Y1, e1, Y2, e2, Y3, e3, Y4, e4, rfl, hMg, hS, hO⟩ hpre;have hlt : pre.length < L.length := by
   obtain ⟨t, ht⟩ := hpre;rw [← ht];simp
  have hxi : L[pre.length]? = some x := by
   obtain ⟨t, ht⟩ := hpre;rw [← ht];simp
  have HX := zH hxi;have HEv := zH (HL.out.call hI.out.below);have hlenP := zH (zz2z rate pre b);have hsnP := zH (zz79 b rate pre x);obtain ⟨nb, hnb⟩ : ∃ nb, foldB b rate (pre ++ [x]) = nb := ⟨_, rfl⟩;obtain ⟨X1, hX1⟩ : ∃ X1, (gateV (foldB b rate pre) x rate).1 = X1 := ⟨_, rfl⟩;obtain ⟨X2, hX2⟩ : ∃ X2, (gateV (foldB b rate pre) x rate).2 = X2 := ⟨_, rfl⟩;have hpc : Hid (pairC x (gateV (foldB b rate pre) x rate) = [x.kind, x.acc, x.ord, x.sym, x.side, x.qty, x.px, X1, X2]) := (show _ = _ by rw [← hX1, ← hX2]; rfl)
  rw [hnb, hX1, hX2] at hS;rw [hnb] at hO;simp only [hnb, hX1, hX2];have HNB := zH hnb;clear hpre hxi hnb hX1 hX2;obtain ⟨bb, oo, rfl, _⟩ := HEv.out.get HX.out;have hPL : pre.length ≤ 60000 := by omega
  gi_wp2_with (fail)
  obtain ⟨Z1, z1, Z2, z2, Z3, z3, Z4, z4, hbv⟩ := hI.out.bk.at.forms;injection hbv with hbv
  subst hbv;refine zz6i [10] (C := fun wz : World => ZB wz w1.heap.size #[vo] 45 ∧ ZB wz (w.heap.size + 1) #[.slice (some ⟨bb, oo, none⟩) L.length cL] 44 ∧ Hid (EvsAt wz (.slice (some ⟨bb, oo, none⟩) L.length cL) L) ∧ ZB wz g #[X1, X2, .slice Y1 nb.h.length e1, .slice Y2 nb.s.length e2, .slice Y3 nb.o.length e3, .slice Y4 nb.r.length e4, nb.n] 104) 11 (zb 11 0) zk zk zk zk ?_
  obtain ⟨wd, hwd⟩ : ∃ wd : World, { W with drawn := W.drawn + 1 } = wd := ⟨_, rfl⟩
  rw [hwd];have hb : Below W.heap.size W wd := by rw [← hwd]; exact (Below.refl _ _).drew
  replace hI := zH (hI.out.call hb (by have := SZ.out; omega))
  replace HEv := zH (HEv.out.call hb);replace hS := zK hS hb;replace hO := zH (hO.out.kept hb);have hMd := Nat.le_trans hMW hb.size;have HF : Hid (KpF w.heap.size wl.heap.size M W wd) := KpF.of hb (by have := SZ.out; omega)
  have HK : Hid (KeepsOthers W wd) := zza1 hb;clear hwd hb;refine zM [0, 1, 2, 3, 4, 5, 6, 7] 3 ⟨zH hI.out.out, zH hI.out.lbox, HEv, hS⟩ ?_;simp only [opsAt, zA];refine zq (fun wz hC => zC hC.1.out) ?_
  refine zq (fun wz hC => zC hC.2.1.out) ?_
  iterate 2 refine zp ?_
  refine zz08 (.agg #[x.kind, x.acc, x.ord, x.sym, x.side, x.qty, x.px]) rfl (fun wz hC => by obtain ⟨_, y0, y1, y2, y3, y4, y5, y6⟩ := hC.2.2.1.out.got HX.out; unfold execOp; go_simp) ?_
  refine zp ?_;refine zq (fun wz hC => zC hC.2.2.2.out) ?_
  refine zp ?_;unfold wpPure;go_simp;refine zW 8 ?_;go_wp2_with fail;refine zQs (fun _ => ⟨zH (zz05 hI.out.out _), zH (zz05 hI.out.lbox _), zH (HEv.out.call zBa), zH (zz05 hS.out _)⟩) ?_
  refine zW 9 ?_;have hBle : wl.heap.size + 3 ≤ wd.heap.size := by have := SZ.out; omega
  refine zz19 (wr := wd) _ _ 45 98 (.agg #[.int .i64 0, .int .i64 0, .int .i64 0, .int .i64 0, .int .i64 0, .int .i64 0, .int .i64 0, .int .i64 0, .int .i64 0]) 9 72 el_Pair [x.kind, x.acc, x.ord, x.sym, x.side, x.qty, x.px, X1, X2] vo (foldP b rate pre) (zH hI.out.row) hBle rfl rfl rfl rfl rfl (by rw [hlenP.out]; omega) zx ?_
  intro v' w9 hown' hg';obtain ⟨ko, kb, kk⟩ := zz4p hI.out.row hBle hg'.out;have fx : ∀ {k : Nat} {cs : Array Value} {t : TypeId} {fr : Nat × Nat}, wd.heap[k]? = some (.cells cs t fr) → 98 ≠ t → w9.heap[k]? = some (.cells cs t fr) := fun {k cs t fr} hk hne => (kk k (zL hk) (hI.out.row.neB hk hne)).trans hk
  have k9o := zH (fx hI.out.out zx);have k9l := zH (fx hI.out.lbox zx);have k9r := zH (fx hI.out.res zx);have k9t := zH (fx hI.out.last zx);have k9s := zH (fx hS.out zx);have b9 : Hid (BkOwn w9 w.heap.size (.agg (BF Z1 z1 Z2 z2 Z3 z3 Z4 z4 (foldB b rate pre) (foldB b rate pre).n)) (foldB b rate pre)) := hI.out.bk.grown hI.out.row zx kb.size kk;have o9 : Hid (BkOwn w9 M (.agg (BF Y1 e1 Y2 e2 Y3 e3 Y4 e4 nb nb.n)) nb) := hO.out.grown hI.out.row zx kb.size kk;have w9b : Hid (Below w.heap.size w w9) := hI.out.below.trans (kb.mono (by have := SZ.out; omega))
  have e9 := zH (HL.out.call w9b.out);have s9 : M ≤ w9.heap.size := Nat.le_trans hMd kb.size;have F9 : Hid (KpF w.heap.size wl.heap.size M W w9) := HF.out.trans ⟨kb.mono (by have := SZ.out; omega), fun k cs t fr hk hr => (kk k (zL hk) fun e => by
   have h1 := hI.out.rowM k e;have h2 := (hI.out.row.block e).1;omega).trans hk⟩
  have K9 : Hid (KeepsOthers W w9) := HK.out.trans ko;have bkB := zH hI.out.bkB;obtain ⟨A', c', hv'⟩ := hown'.out.form;obtain ⟨nL, hnL⟩ : ∃ nL, (foldP b rate pre ++ [[x.kind, x.acc, x.ord, x.sym, x.side, x.qty, x.px, X1, X2]]).length = nL := ⟨_, rfl⟩;rw [hnL] at hv';subst hv';clear hnL;clear hI HEv hS hO HF HK hg' ko kb kk fx hBle hMd;go_wp2_with fail;refine zQs (fun _ => ⟨k9o, k9l, e9, k9s⟩) ?_
  refine zW 10 ?_;have c0 := zz00 k9o.out 0 _ rfl;have f0 := zz04 k9o.out 0;go_wp2_with fail;generalize hws : World.setCell _ _ _ = ws;have E1 : putC w9 w1.heap.size 0 [.slice A' nL c'] = ws := hws;clear hws c0 f0;have hz := SZ.out;have p0 := zz0v (o := 0) (vs := [.slice A' nL c']) k9o.out;have pl := zz03 (g := w1.heap.size) zw (o := 0) (vs := [.slice A' nL c']) k9l.out;have pr := zz03 (g := w1.heap.size) zw (o := 0) (vs := [.slice A' nL c']) k9r.out;have pt := zz03 (g := w1.heap.size) zw (o := 0) (vs := [.slice A' nL c']) k9t.out;have ps := zz03 (g := w1.heap.size) zw (o := 0) (vs := [.slice A' nL c']) k9s.out;have pb := BkOwn.putT (g := w1.heap.size) zx (o := 0) (us := [.slice A' nL c']) o9.out k9o.out;have pw := RowOwn.putT (g := w1.heap.size) (t := 45) zx (o := 0) (us := [.slice A' nL c']) hown'.out k9o.out;have pq := zz0y (g := w1.heap.size) zw (o := 0) (vs := [.slice A' nL c']) w9b.out;have pf := F9.out.trans (KpF.putC (g := w1.heap.size) (M := M) (n0 := w.heap.size) (Bs := wl.heap.size) zw zw zw 0 [.slice A' nL c']);have pk := K9.out.trans (zz37 (g := w1.heap.size) [.slice A' nL c'] 0 w9);have pz := zz36 (g := w1.heap.size) [.slice A' nL c'] 0 w9;rw [E1] at p0 pl pr pt ps pb pw pq pf pk pz;have P0 : ZB ws w1.heap.size #[.slice A' nL c'] 45 := p0;have PL := zH pl; have PR := zH pr; have PT := zH pt; have PS := zH ps; have PB := zH pb; have PW := zH pw; have PQ := zH pq; have PF := zH pf; have PK := zH pk;have PZ : Hid (M ≤ ws.heap.size) := by show _ ≤ _; omega
  clear p0 pl pr pt ps pb pw pq pf pk pz E1 k9o k9l k9r k9t k9s o9 hown' w9b F9 K9 e9 b9 s9 hz;refine zQs (fun h => absurd h zx) ?_
  refine ⟨by kernel_rfl, ?_⟩
  rw [zz8d];have s0 := zC PS.out;have l0 := zC PT.out;have f0 := zF PT.out;have ne1 := zz0a PS.out PT.out zx;have ne2 := ne1.symm;have hN : Hid (∀ we : World, putC ws w2.heap.size 0 [(.slice Y1 nb.h.length e1 : Value), .slice Y2 nb.s.length e2, .slice Y3 nb.o.length e3, .slice Y4 nb.r.length e4, .int .i64 nb.n] = we → KeepsFrom w3.heap.size W we ∧ KpF w.heap.size wl.heap.size M W we ∧ ∃ vo bv, Hid (IRun w w1.heap.size w2.heap.size wl.heap.size (.slice (some ⟨bb, oo, none⟩) L.length cL) b rate (pre ++ [x]) we.heap.size we vo bv)) := by
   intro we hwe;have hz := SZ.out;have hPZ := PZ.out;have q0 := zz03 (g := w2.heap.size) zw (o := 0) (vs := [(.slice Y1 nb.h.length e1 : Value), .slice Y2 nb.s.length e2, .slice Y3 nb.o.length e3, .slice Y4 nb.r.length e4, nb.n]) P0.out;have ql := zz03 (g := w2.heap.size) zw (o := 0) (vs := [(.slice Y1 nb.h.length e1 : Value), .slice Y2 nb.s.length e2, .slice Y3 nb.o.length e3, .slice Y4 nb.r.length e4, nb.n]) PL.out;have qr := zz03 (g := w2.heap.size) zw (o := 0) (vs := [(.slice Y1 nb.h.length e1 : Value), .slice Y2 nb.s.length e2, .slice Y3 nb.o.length e3, .slice Y4 nb.r.length e4, nb.n]) PR.out;have qt : (putC ws w2.heap.size 0 [(.slice Y1 nb.h.length e1 : Value), .slice Y2 nb.s.length e2, .slice Y3 nb.o.length e3, .slice Y4 nb.r.length e4, .int .i64 nb.n]).heap[w2.heap.size]? = some (.cells (BF Y1 e1 Y2 e2 Y3 e3 Y4 e4 nb nb.n) 27 (0, 0)) := zz0v PT.out;have qb := BkOwn.putT (g := w2.heap.size) (t := 27) zx (o := 0) (us := [(.slice Y1 nb.h.length e1 : Value), .slice Y2 nb.s.length e2, .slice Y3 nb.o.length e3, .slice Y4 nb.r.length e4, .int .i64 nb.n]) PB.out PT.out;have qw := RowOwn.putT (g := w2.heap.size) (t := 27) zx (o := 0) (us := [(.slice Y1 nb.h.length e1 : Value), .slice Y2 nb.s.length e2, .slice Y3 nb.o.length e3, .slice Y4 nb.r.length e4, .int .i64 nb.n]) PW.out PT.out;have qq := zz0y (g := w2.heap.size) zw (o := 0) (vs := [(.slice Y1 nb.h.length e1 : Value), .slice Y2 nb.s.length e2, .slice Y3 nb.o.length e3, .slice Y4 nb.r.length e4, nb.n]) PQ.out;have qf := PF.out.trans (KpF.putC (g := w2.heap.size) (M := M) (n0 := w.heap.size) (Bs := wl.heap.size) zw zw zw 0 [(.slice Y1 nb.h.length e1 : Value), .slice Y2 nb.s.length e2, .slice Y3 nb.o.length e3, .slice Y4 nb.r.length e4, .int .i64 nb.n]);have qk := PK.out.trans (zz37 (g := w2.heap.size) [(.slice Y1 nb.h.length e1 : Value), .slice Y2 nb.s.length e2, .slice Y3 nb.o.length e3, .slice Y4 nb.r.length e4, .int .i64 nb.n] 0 ws);rw [hwe] at q0 ql qr qt qb qw qq qf qk;have hrow : RowOwn we (wl.heap.size + 3) 98 (.slice A' nL c') 9 (foldP b rate (pre ++ [x])) := by
    rw [hsnP.out, hpc.out];exact qw
   exact ⟨qk.from _, qf, _, _, zH ⟨qq, ql, qr, q0, qt, hrow, fun q hq => (hrow.block hq).2, by rw [HNB.out]; exact qb.mono zw, qb.notIn (.inl zw)⟩⟩
  gi_wp2_with (fail)
  exact hN.out _ rfl
 case done =>
  rintro D M W hD ⟨vo, bv, hI⟩ hK;obtain ⟨Z1, z1, Z2, z2, Z3, z3, Z4, z4, hbv⟩ := hI.out.bk.at.forms;injection hbv with hbv
  subst hbv;obtain ⟨A', c', rfl⟩ := hI.out.row.form;have HK := zH hK;clear hK
  gi_wp2_with (fail)
  refine wpIn_wide.2 ?_;obtain ⟨nL, hnL⟩ : ∃ nL, (foldP b rate L).length = nL := ⟨_, rfl⟩;have ho := zH hI.out.out;have hrw := zH hI.out.row;rw [hnL] at ho hrw;clear hnL;refine zRD [3] (fun wz : World => ZB wz w1.heap.size #[.slice A' nL c'] 45 ∧ ZB wz w2.heap.size (BF Z1 z1 Z2 z2 Z3 z3 Z4 z4 (foldB b rate L) (foldB b rate L).n) 27) 5 ?_
  obtain ⟨wd, hwd⟩ : ∃ wd : World, { W with drawn := W.drawn + 1 } = wd := ⟨_, rfl⟩
  rw [hwd];have hb : Below W.heap.size W wd := by rw [← hwd]; exact (Below.refl _ _).drew
  replace hI := zH (hI.out.call hb (by have := SZ.out; omega))
  replace ho := zK ho hb;replace hrw := zH (hrw.out.kept hb);replace HK := zK HK hb;clear hb hwd;refine zM [0, 1, 2] 2 ⟨ho, zH hI.out.last⟩ ?_;simp only [opsAt, zA];refine zq (fun wz hC => zC hC.1.out) ?_
  refine zq (fun wz hC => zC hC.2.out) ?_
  refine zp ?_;unfold wpPure;go_simp;refine zW 3 ?_;have r0 := zC hI.out.res;have f0 := zF hI.out.res;go_wp2_with fail;have hE : ∀ we : World, putC wd (w.heap.size + 1 + 1) 0 [(.slice Z1 (foldB b rate L).h.length z1 : Value), .slice Z2 (foldB b rate L).s.length z2, .slice Z3 (foldB b rate L).o.length z3, .slice Z4 (foldB b rate L).r.length z4, .int .i64 (foldB b rate L).n] = we → ZB we w1.heap.size #[.slice A' nL c'] 45 ∧ ZB we w2.heap.size (BF Z1 z1 Z2 z2 Z3 z3 Z4 z4 (foldB b rate L) (foldB b rate L).n) 27 ∧ ZB we (w.heap.size + 1 + 1) (BF Z1 z1 Z2 z2 Z3 z3 Z4 z4 (foldB b rate L) (foldB b rate L).n) 27 ∧ Hid (BkOwn we w.heap.size (.agg (BF Z1 z1 Z2 z2 Z3 z3 Z4 z4 (foldB b rate L) (foldB b rate L).n)) (foldB b rate L)) ∧ Hid (RowOwn we (wl.heap.size + 3) 98 (.slice A' nL c') 9 (foldP b rate L)) ∧ Hid (Below w.heap.size w we) ∧ Hid (we.heap[D]? = some (.deferred (some []))) := by
   intro we hwe;have hz := SZ.out;have q0 := zz03 (g := w.heap.size + 1 + 1) zw (o := 0) (vs := [(.slice Z1 (foldB b rate L).h.length z1 : Value), .slice Z2 (foldB b rate L).s.length z2, .slice Z3 (foldB b rate L).o.length z3, .slice Z4 (foldB b rate L).r.length z4, .int .i64 (foldB b rate L).n]) ho.out;have q1 := zz03 (g := w.heap.size + 1 + 1) zw (o := 0) (vs := [(.slice Z1 (foldB b rate L).h.length z1 : Value), .slice Z2 (foldB b rate L).s.length z2, .slice Z3 (foldB b rate L).o.length z3, .slice Z4 (foldB b rate L).r.length z4, .int .i64 (foldB b rate L).n]) hI.out.last;have q2 : (putC wd (w.heap.size + 1 + 1) 0 [(.slice Z1 (foldB b rate L).h.length z1 : Value), .slice Z2 (foldB b rate L).s.length z2, .slice Z3 (foldB b rate L).o.length z3, .slice Z4 (foldB b rate L).r.length z4, .int .i64 (foldB b rate L).n]).heap[w.heap.size + 1 + 1]? = some (.cells (BF Z1 z1 Z2 z2 Z3 z3 Z4 z4 (foldB b rate L) (foldB b rate L).n) 27 (0, 0)) := zz0v hI.out.res;have q3 := BkOwn.putT (g := w.heap.size + 1 + 1) (t := 27) zx (o := 0) (us := [(.slice Z1 (foldB b rate L).h.length z1 : Value), .slice Z2 (foldB b rate L).s.length z2, .slice Z3 (foldB b rate L).o.length z3, .slice Z4 (foldB b rate L).r.length z4, .int .i64 (foldB b rate L).n]) hI.out.bk hI.out.res;have q4 := RowOwn.putT (g := w.heap.size + 1 + 1) (t := 27) zx (o := 0) (us := [(.slice Z1 (foldB b rate L).h.length z1 : Value), .slice Z2 (foldB b rate L).s.length z2, .slice Z3 (foldB b rate L).o.length z3, .slice Z4 (foldB b rate L).r.length z4, .int .i64 (foldB b rate L).n]) hrw.out hI.out.res;have q5 := zz0y (g := w.heap.size + 1 + 1) zw (o := 0) (vs := [(.slice Z1 (foldB b rate L).h.length z1 : Value), .slice Z2 (foldB b rate L).s.length z2, .slice Z3 (foldB b rate L).o.length z3, .slice Z4 (foldB b rate L).r.length z4, .int .i64 (foldB b rate L).n]) hI.out.below;have q6 := zz03 (g := w.heap.size + 1 + 1) (p := D) zw (o := 0) (vs := [(.slice Z1 (foldB b rate L).h.length z1 : Value), .slice Z2 (foldB b rate L).s.length z2, .slice Z3 (foldB b rate L).o.length z3, .slice Z4 (foldB b rate L).r.length z4, .int .i64 (foldB b rate L).n]) HK.out;rw [hwe] at q0 q1 q2 q3 q4 q5 q6;exact ⟨zH q0, zH q1, zH q2, zH q3, zH q4, zH q5, zH q6⟩
  obtain ⟨we, hwe⟩ : ∃ we : World, putC wd (w.heap.size + 1 + 1) 0 [(.slice Z1 (foldB b rate L).h.length z1 : Value), .slice Z2 (foldB b rate L).s.length z2, .slice Z3 (foldB b rate L).o.length z3, .slice Z4 (foldB b rate L).r.length z4, .int .i64 (foldB b rate L).n] = we := ⟨_, rfl⟩;obtain ⟨e0, e1, e2, e3, e4, e5, e6⟩ := hE we hwe;rw [show ((((wd.setCell ⟨w.heap.size + 1 + 1, 0, none⟩ (.slice Z1 (foldB b rate L).h.length z1)).setCell ⟨w.heap.size + 1 + 1, 1, none⟩ (.slice Z2 (foldB b rate L).s.length z2)).setCell ⟨w.heap.size + 1 + 1, 2, none⟩ (.slice Z3 (foldB b rate L).o.length z3)).setCell ⟨w.heap.size + 1 + 1, 3, none⟩ (.slice Z4 (foldB b rate L).r.length z4)).setCell ⟨w.heap.size + 1 + 1, 4, none⟩ (.int .i64 (foldB b rate L).n) = we from hwe]
  clear hE hwe r0 f0 hI ho hrw HK;refine zQs (fun h => absurd h zx) ?_
  refine zW 4 ?_;go_wp2_with fail;refine zQs (fun _ => ⟨e0, e1⟩) ?_
  refine zQe ?_
  gi_wp2_with (fail)
  have hz := SZ.out;refine ⟨by simp, .inl ⟨_, _, rfl, run_takeDeferred e6.out, ?_⟩⟩
  have fx : ∀ {k : Nat} {cs : Array Value} {t : TypeId} {fr : Nat × Nat} (o' : Obj), we.heap[k]? = some (.cells cs t fr) → (we.putObj D o').heap[k]? = some (.cells cs t fr) := fun {k cs t fr} o' hk => by
   rw [World.putObj_heap_other (fun e => ?_)]
   ·exact hk
   ·subst e
    rw [e6.out] at hk;cases hk
  exact ⟨_, ret_tct rfl _ _ _ _ _ _ rfl (fx _ e2.out) Tryz.underlying27 rfl zk _ _ rfl rfl, _, _, rfl, (e4.out.still (by simp) fun q cs t fr hq _ => fx _ hq).baseTo zw, e3.out.still (by simp) fun q cs t fr hq _ => fx _ hq, e5.out.trans (belowK_b (w := w) (Nat.le_refl _) we D _ _ zw e6.out rfl rfl)⟩
 case stop =>
  rintro D c pre W _ _ h _;exact h.elim
end
section
open Go Go.RowKit Mon
def NilOk (u : Value) : Prop := u = .slice none 0 0 ∨ ∃ ad n c, u = .slice (some ad) n c
section
variable {P : Program} {ops : Array Oper} {rest : List Oper} {o : Oper} {a : Act} {Q : Exit → Act → World → Prop}
end
theorem zz88 : Elt Tryz.prog 44 29 (.agg #[.int .i64 0, .int .i64 0, .int .i64 0, .int .i64 0, .int .i64 0, .int .i64 0, .int .i64 0]) 7 56 := Elt.mk' Tryz.underlying44 zk rfl zx
theorem bZ_good : bZ.Good := ⟨by decide +kernel, by unfold Bk.I64s bZ; simp, by unfold Bk.Lens bZ; simp⟩
def eZ : Ev := ⟨0, 0, 0, 0, 0, 0, 0⟩
theorem fold_eg : gateV bZ eZ 20 = (1, 0) ∧ (foldB bZ 20 [eZ]).n = 1 := by refine ⟨?_, ?_⟩ <;> decide +kernel
theorem EvsAt.nil (w : World) : EvsAt w (.slice none 0 0) [] := ⟨none, 0, rfl, by simp, .inl rfl⟩
theorem EvsAt.one (w : World) : EvsAt (w.alloc (.cells #[.int .i64 0, .int .i64 0, .int .i64 0, .int .i64 0, .int .i64 0, .int .i64 0, .int .i64 0] 29)) (.slice (some ⟨w.heap.size, 0, none⟩) 1 1) [eZ] := by
 refine ⟨some ⟨w.heap.size, 0, none⟩, 1, rfl, by simp [eZ, Ev.cells], .inr ⟨w.heap.size, 0, rfl, by simp, fun j x hj => ?_⟩⟩
 rw [Nat.zero_add];refine zz00 (zz02 w (.cells #[.int .i64 0, .int .i64 0, .int .i64 0, .int .i64 0, .int .i64 0, .int .i64 0, .int .i64 0] 29)) j _ ?_;have hj : ([0, 0, 0, 0, 0, 0, 0] : List Int)[j]? = some x := hj
 match j with
 | 0 | 1 | 2 | 3 | 4 | 5 | 6 => cases hj; rfl
 | j + 7 => simp at hj
theorem alive18 (w : World) (hT : Hid (Law16 w)) : Calls Tryz.prog 15 #[] w fun e w' => e = .returned (.bool true) ∧ Below w.heap.size w w' := by
 obtain ⟨g1, g2⟩ := fold_eg;have z1 : Hid (0 ≤ (20 : Int) ∧ (20 : Int) ≤ 1000) := (show _ ∧ _ by omega)
 have q1 := zH (fun (wz : World) (hz : Hid (Law16 wz)) => zz7i none none none none none 0 0 0 0 0 bZ [] 20 wz hz (zH (BkAt.zero wz)) (zH (EvsAt.nil wz)) (zH bZ_good) (zH (fun e he => by simp at he)) z1 (zH zx) (zH zx) zx)
 have q1 : Hid (∀ wz : World, Hid (Law16 wz) → Calls Tryz.prog 16 #[.agg BZ, .slice none 0 0, .int .i64 20] wz fun r w' => ∃ vp vb, r = .returned (.tuple #[vp, vb, .int .i64 0]) ∧ RowOwn w' wz.heap.size 98 vp 9 [] ∧ BkOwn w' wz.heap.size vb bZ ∧ Below wz.heap.size wz w') := q1
 have q2 := zH (fun (A : Option Addr) (wz : World) (hz : Hid (Law16 wz)) (hv : Hid (EvsAt wz (.slice A 1 1) [eZ])) => zz7i none none none none A 0 0 0 0 1 bZ [eZ] 20 wz hz (zH (BkAt.zero wz)) hv (zH bZ_good) (zH (fun e he => by simp at he; subst he; exact ⟨zz0k zx, zz0k zx, zz0k zx, zz0k zx, zz0k zx, zz0k zx, zz0k zx⟩)) z1 (zH zx) (zH zx) zx)
 rw [show foldP bZ 20 [eZ] = [[0, 0, 0, 0, 0, 0, 0, 1, 0]] from by unfold foldP foldP pairC; rw [g1]; rfl] at q2
 obtain ⟨nb, hnb⟩ : ∃ nb, foldB bZ 20 [eZ] = nb := ⟨_, rfl⟩;rw [hnb] at q2 g2;have q2 : Hid (∀ (A : Option Addr) (wz : World), Hid (Law16 wz) → Hid (EvsAt wz (.slice A 1 1) [eZ]) → Calls Tryz.prog 16 #[.agg BZ, .slice A 1 1, .int .i64 20] wz fun r w' => ∃ vp vb, r = .returned (.tuple #[vp, vb, .int .i64 0]) ∧ RowOwn w' wz.heap.size 98 vp 9 [[0, 0, 0, 0, 0, 0, 0, 1, 0]] ∧ BkOwn w' wz.heap.size vb nb ∧ Below wz.heap.size wz w') := q2
 clear hnb g1;go_in;go_wp2_with fail;(with_reducible refine (q1.out _ hT).mono ?_);rintro r w1 ⟨vp, vb, rfl, hp, hbk, hb⟩;obtain ⟨A1, c1, rfl⟩ := hp.form;obtain ⟨U1, u1, U2, u2, U3, u3, U4, u4, rfl⟩ := hbk.at.forms;have HB := zH hb;clear hp hbk hb q1;have hl0 : ([] : List (List Int)).length = 0 := rfl;go_wp2_with fail;obtain ⟨wa, hwa⟩ : ∃ wa : World, w1.alloc (.cells (BF U1 u1 U2 u2 U3 u3 U4 u4 bZ bZ.n) 27) = wa := ⟨_, rfl⟩;have hza : wa.heap.size = w1.heap.size + 1 := by rw [← hwa]; simp
 have ha := zM0 hwa;have K1 : ZB wa w1.heap.size (BF U1 u1 U2 u2 U3 u3 U4 u4 bZ bZ.n) 27 := by rw [← hwa]; exact zz02 _ _
 have hev := EvsAt.one wa;rw [hza] at hev;rw [hwa];have hbb : Below wa.heap.size wa (wa.alloc (.cells #[.int .i64 0, .int .i64 0, .int .i64 0, .int .i64 0, .int .i64 0, .int .i64 0, .int .i64 0] 29)) := zBa;generalize wa.alloc (.cells #[.int .i64 0, .int .i64 0, .int .i64 0, .int .i64 0, .int .i64 0, .int .i64 0, .int .i64 0] 29) = wb at *;replace K1 := zK K1 hbb;replace HB := zH ((HB.out.trans (ha.mono HB.out.size)).trans (hbb.mono (Nat.le_trans HB.out.size ha.size)));clear ha hbb hwa hza;(with_reducible refine (q2.out _ _ (zH (hT.out.call HB.out)) (zH hev)).mono ?_);rintro r w2 ⟨vp, vb, rfl, hp, hbk, hb⟩;obtain ⟨A', c', hA, hi⟩ := hp.row.rec';obtain ⟨_, bb, o, hAA, hlt, hc⟩ := hi 0 _ rfl;have c7 : w2.cell? ⟨bb, o + 7, none⟩ = some (.int .i64 1) := by simpa using hc 7 _ rfl
 subst hA;subst hAA;obtain ⟨Y1, d1, Y2, d2, Y3, d3, Y4, d4, hvb⟩ := hbk.at.forms;rw [g2] at hvb;subst hvb;have K2 := zK K1 hb;have HB2 := zB HB hb;clear hp hi hc hbk hb hev K1 HB q2;have b4 : w2.cell? ⟨w1.heap.size, 4, none⟩ = some (.int .i64 0) := zz00 K2.out 4 _ rfl;have lt1 := zL K2.out;have hl1 : ([[0, 0, 0, 0, 0, 0, 0, 1, 0]] : List (List Int)).length = 1 := rfl;go_wp2_with fail;go_ret;exact ⟨rfl, zz01 HB2.out HB2.out.size _⟩
end
section
open Go Go.Lib Go.ChangeShapes Go.WideShapes Go.Deep Go.ChangeAt Go.RowKit
def evOf : List Int → Ev
 | [a, b, c, d, e, f, g] => ⟨a, b, c, d, e, f, g⟩
 | _ => eZ
theorem zzbl {r : List Int} (h : r.length = 7) : (evOf r).cells = r := by
 match r, h with
 | [a, b, c, d, e, f, g], _ => rfl
theorem evOf_i64s {r : List Int} (h : r.length = 7) (hi : ∀ x ∈ r, I64 x) : (evOf r).I64s := by
 match r, h with
 | [a, b, c, d, e, f, g], _ => exact ⟨hi a (by simp), hi b (by simp), hi c (by simp), hi d (by simp), hi e (by simp), hi f (by simp), hi g (by simp)⟩
theorem open_evs {H : Type} {enc : TypeId × Value → H} {W : World} {r : Reach} {b0 : Nat} {v : Value} {d : DataW H} {ps : List MemPlace} (hv : Value.okWide Tryz.prog W r b0 44 v) (h : DataW.Trod enc Tryz.prog W 0 (fun _ => true) true 44 v d ps) :
  ∃ (A : Option Addr) (c : Nat) (L : List Ev), v = .slice A L.length c ∧ EvsAt W v L ∧ NilOk v ∧ (∀ e ∈ L, e.I64s) ∧ (L = [] ∨ ∃ es sp, d = .slice es sp ∧ es.length = L.length) := by
 obtain ⟨a0, len, cap, rfl⟩ := okWide_slice Tryz.underlying44 hv;obtain ⟨fuel, hf⟩ := h;have hf : DataW.trod enc Tryz.prog W 0 (fun _ => true) true fuel 44 [.slice a0 len cap] = some (d, ps) := hf
 obtain ⟨l, hat, _, hi⟩ := open_recs Tryz.underlying44 Tryz.underlying29 zk zk zx (fun j f hj => intF_spec (P := Tryz.prog) zk j f hj) hf
 have hat : RowAt W (.slice a0 len cap) 7 l := hat;obtain ⟨A', c', hA, h7, hc⟩ := hat;injection hA with hA hn hcc
 subst hA hn hcc;have hl : (l.map evOf).map Ev.cells = l := by
  rw [List.map_map]
  conv => rhs; rw [← List.map_id l]
  exact List.map_congr_left fun r hr => zzbl (h7 r hr)
 refine ⟨a0, cap, l.map evOf, by rw [List.length_map], ?_, ?_, ?_, ?_⟩
 ·show RowAt W _ 7 ((l.map evOf).map Ev.cells)
  rw [hl];exact ⟨a0, cap, rfl, h7, hc⟩
 ·rcases open_slice Tryz.underlying44 hf with ⟨hcs, _⟩ | ⟨a, len', cap', m, n, D, Pl, hcs, _⟩
  ·have := List.cons.inj hcs |>.1
   exact .inl this
  ·have := List.cons.inj hcs |>.1
   exact .inr ⟨_, _, _, this⟩
 ·intro e he
  obtain ⟨r, hr, rfl⟩ := List.mem_map.1 he;exact evOf_i64s (h7 r hr) (hi r hr)
 ·rcases open_slice Tryz.underlying44 hf with ⟨hcs, _⟩ | ⟨a, len', cap', m, n, D, Pl, hcs, _, _, _, _, hx, _⟩
  ·left
   have := List.cons.inj hcs |>.1
   injection this with _ h0 _
   rw [List.map_eq_nil_iff];exact List.eq_nil_of_length_eq_zero h0
  ·right
   have := List.cons.inj hcs |>.1
   injection this with _ h0 _
   have hx := congrArg Prod.fst hx;refine ⟨_, _, hx, ?_⟩;rw [List.length_map, List.length_map, List.length_range, h0]
theorem evs_len {H : Type} {ts : List TypeId} {ds : List (DataW H)} (h : (DataW.weightsEach Tryz.prog ts ds).all (· ≤ reachBytes) = true) {j : Nat} {d : DataW H} {L : List Ev} (ht : ts[j]? = some 44) (hd : ds[j]? = some d) (hl : L = [] ∨ ∃ es sp, d = .slice es sp ∧ es.length = L.length) : L.length ≤ 4611686018427387903 := by
 rcases hl with rfl | ⟨es, sp, rfl, hl⟩
 ·simp
 ·have h1 := sized_slice h ht hd Tryz.underlying44
  rw [show Tryz.prog.bytesOf 29 = 56 by kernel_rfl] at h1
  unfold reachBytes at h1;omega
end
section
open Go Go.RowKit Mon
section
variable {P : Program} {ops : Array Oper} {Q : Exit → Act → World → Prop}
theorem zz57 {l n : Nat} (hQ : ¬ LetsOut Q) : ∀ (L : List Oper) (a : Act) (w : World), (∀ o ∈ L, ∀ c, o.op ≠ .defer c) → wpList P ops Q L a w → wpListIn (Fence.wide.inRound l) n P ops Q L a w
 | [], _, _, _, h => h
 | o :: L, a, w, hd, h => by
  have ih := fun a w h => zz57 (l := l) (n := n) hQ L a w (fun o ho => hd o (.tail _ ho)) h
  unfold wpList at h;unfold wpListIn
  split at h
  ·rename_i hw
   rw [if_pos hw];rcases h with h | ⟨_, h⟩
   ·refine ⟨fun _ _ => trivial, ?_⟩
    rw [Oper.semAt_eq _ _ _ (fun c => hd o (.head _) c)]
    unfold Oper.wp at h;generalize (execOp a.eval o).run P w = r at h ⊢;cases r with
    | ok x w' =>
     cases x with
     | value u => exact ih _ _ h
     | skip => exact ih _ _ h
     | defer d => exact ih _ _ h
     | enter f args =>
      refine ⟨(fun h => by cases h), CallsIn.inRound l (callsIn_wide.2 (Calls.mono h fun e w'' he => ?_))⟩
      cases e with
      | returned u => exact ih _ _ he
      | panicked c => exact he
      | outgrown => exact he
     | row row args => exact ⟨(fun h => by cases h), fun c cs _ => let ⟨v, w', r, s⟩ := h c cs; ⟨v, w', ih _ _ r, stepsIn_wide.2 s⟩⟩
     | _ => exact h.elim
    | halt x w' =>
     cases x with
     | panic u => exact h
     | _ => exact h.elim
   ·exact (hQ h).elim
  ·rename_i hw
   rw [if_neg hw];exact ⟨fun _ _ => trivial, ih _ _ h⟩
theorem zz6h {l n id : Nat} {a : Act} {w : World} {os : List Oper} (h : wpList P os.toArray (OnlyN (OnlyX Q)) os a w) (hd : noDefer os.toArray = true := by kernel_rfl) : (Code.region id os.toArray false).wpIn (Fence.wide.inRound l) n P Q a w := by
 refine wpIn_mono (Q := OnlyN (OnlyX Q)) (wpIn_region_lit (zz57 (by rintro ⟨a, w, h⟩; exact h) _ _ _ (fun o ho c => ?_) h)) OnlyX.to
 obtain ⟨i, hi⟩ := List.getElem?_of_mem ho;exact zz4j hd i o c (by simpa using hi)
end
theorem zEgr {a A B : World} {l : Bl} {row : Option Nat} (K : Hid (En a A l)) (hg : A.grownBy B row) (hr : ∀ r, row = some r → a.heap.size ≤ r ∧ ∀ x ∈ l, x.1 ≠ r) : Hid (En a B l) :=
 ⟨K.out.1.grown hg K.out.1.size fun k e => (hr k e).1, K.out.2.1.imp fun g c t hm h => (hg.block g (zL h) fun e => (hr g e.symm).2 _ hm rfl).trans h, K.out.2.2⟩
def RowS (Bs N : Nat) (A : World) (row : Option Nat) : Prop := ∀ r, row = some r → r = Bs ∨ (N ≤ r ∧ ∃ o : Obj, A.heap[r]? = some o ∧ o.isCells = false)
theorem zEgs {a A B : World} {l : Bl} {row : Option Nat} {Bs N : Nat} (K : Hid (En a A l)) (hg : A.grownBy B row) (hr : RowS Bs N A row) (h1 : a.heap.size ≤ Bs ∧ Bs ≤ N) (h2 : ∀ x ∈ l, x.1 < Bs) : Hid (En a B l) :=
 zEgr K hg fun r e => by
  rcases hr r e with rfl | ⟨h, _⟩
  ·exact ⟨h1.1, fun x hx => Nat.ne_of_lt (h2 x hx)⟩
  ·exact ⟨by omega, fun x hx => by have := h2 x hx; omega⟩
def FarR (w : World) (S : Nat → Prop) (x y : Value) (k : Nat) (l : List (List Int)) : Prop := RowAt w y k l ∧ (l = [] ∨ y = x ∨ ∀ q, y.ownBlock = some q → ¬ S q)
theorem FarR.call {w w' : World} {S : Nat → Prop} {x y : Value} {k : Nat} {l : List (List Int)} (h : FarR w S x y k l) (hb : Below w.heap.size w w') : FarR w' S x y k l := ⟨h.1.call hb, h.2⟩
theorem FarR.to {w : World} {S T : Nat → Prop} {x y : Value} {k : Nat} {l : List (List Int)} (h : FarR w S x y k l) (hT : ∀ q, T q → S q ∨ w.heap.size ≤ q) : FarR w T x y k l := by
 obtain ⟨hr, hs⟩ := h;refine ⟨hr, ?_⟩;obtain ⟨A, c, rfl, _, hl⟩ := hr;rcases hl with hl | ⟨b, o, rfl, hb, _⟩
 ·exact .inl hl
 ·rcases hs with hs | hs | hs
  ·exact .inl hs
  ·exact .inr (.inl hs)
  ·refine .inr (.inr fun q hq hTq => ?_)
   rcases hT q hTq with h | h
   ·exact hs q hq h
   ·have : b = q := by simpa [Value.ownBlock] using hq
    omega
theorem FarR.chg {a w w' : World} {S : Nat → Prop} {x y : Value} {k : Nat} {l l0 : List (List Int)} (h : FarR w S x y k l) (hx : RowAt a x k l0) (hS : ∀ q, S q → a.heap.size ≤ q) (hsz : w.heap.size ≤ w'.heap.size) (hk : ∀ j, j < w.heap.size → ¬ S j → w'.heap[j]? = w.heap[j]?) : FarR w' S x y k l := by
 obtain ⟨hr, hs⟩ := h;refine ⟨?_, hs⟩;obtain ⟨A, c, rfl, hlen, hl⟩ := hr;refine ⟨A, c, rfl, hlen, ?_⟩;rcases hl with hl | ⟨b, o, rfl, hb, hc⟩
 ·exact .inl hl
 by_cases hz : l = []
 ·exact .inl hz
 refine .inr ⟨b, o, rfl, Nat.lt_of_lt_of_le hb hsz, fun j u hj => ?_⟩
 have hn : ¬ S b := by
  rcases hs with hs | hs | hs
  ·exact absurd hs hz
  ·obtain ⟨A0, c0, e0, _, h0⟩ := hx
   rw [← hs] at e0;injection e0 with e1 e2 _
   rcases h0 with h0 | ⟨b2, o2, e3, hb2, _⟩
   ·subst h0
    exact absurd (List.eq_nil_of_length_eq_zero (by simpa using e2)) hz
   ·rw [← e1] at e3
    injection e3 with e3
    injection e3 with e3
    intro hSb;have := hS b hSb;omega
  ·exact hs b rfl
 have : w'.cell? ⟨b, o + j, none⟩ = w.cell? ⟨b, o + j, none⟩ := by
  unfold World.cell?;simp [hk b hb hn]
 rw [this];exact hc j u hj
theorem FarR.step2 {w wc w' : World} {S T : Nat → Prop} {x y y' : Value} {k lo hi : Nat} {l l' : List (List Int)} (h : FarR w S x y k l) (hk : Kin1 lo y y') (hc : RowAt wc y' k l') (hi' : wc.heap.size = hi) (hr : RowAt w' y' k l') (hT : ∀ q, T q → (S q ∧ q < lo) ∨ (w.heap.size ≤ q ∧ (q < lo ∨ hi ≤ q))) : FarR w' T x y' k l' := by
 refine ⟨hr, ?_⟩;obtain ⟨A', c', e', _, hl'⟩ := hc;rcases hl' with hl' | ⟨b, o, rfl, hb, _⟩
 ·exact .inl hl'
 subst e';by_cases hz : l' = []
 ·exact .inl hz
 rcases hk with rfl | hk
 ·have hw := h.1
  rcases h.2 with hs | hs | hs
  ·left
   obtain ⟨A, c, e, _, _⟩ := hw;injection e with _ e _
   exact List.eq_nil_of_length_eq_zero (by rw [e, hs]; rfl)
  ·exact .inr (.inl hs)
  ·refine .inr (.inr fun q hq hTq => ?_)
   rcases hT q hTq with h1 | h1
   ·exact hs q hq h1.1
   ·obtain ⟨A, c, e, _, hl⟩ := hw
    injection e with e1 e2 _
    have hqb : b = q := by simpa [Value.ownBlock] using hq
    rcases hl with hl | ⟨b2, o2, h2, hb2, _⟩
    ·subst hl
     exact absurd (List.eq_nil_of_length_eq_zero (by simpa using e2)) hz
    ·rw [← e1] at h2
     injection h2 with h2
     injection h2 with h2
     omega
 ·refine .inr (.inr fun q hq hTq => ?_)
  have hqb : b = q := by simpa [Value.ownBlock] using hq
  have := hk q hq;rcases hT q hTq with h1 | h1 <;> omega
def BkF (w : World) (S : Nat → Prop) (u0 u : Value) (b : Bk) : Prop :=
 ∃ x1 x2 x3 x4 n y1 y2 y3 y4, u0 = .agg #[x1, x2, x3, x4, n] ∧ u = .agg #[y1, y2, y3, y4, b.n] ∧ FarR w S x1 y1 4 b.h ∧ FarR w S x2 y2 3 b.s ∧ FarR w S x3 y3 6 b.o ∧ FarR w S x4 y4 2 b.r
theorem BkF.of {w : World} {S : Nat → Prop} {u0 : Value} {b : Bk} (h : BkAt w u0 b) : BkF w S u0 u0 b := by
 obtain ⟨y1, y2, y3, y4, rfl, h1, h2, h3, h4⟩ := h;exact ⟨_, _, _, _, _, _, _, _, _, rfl, rfl, ⟨h1, .inr (.inl rfl)⟩, ⟨h2, .inr (.inl rfl)⟩, ⟨h3, .inr (.inl rfl)⟩, ⟨h4, .inr (.inl rfl)⟩⟩
theorem BkF.at {w : World} {S : Nat → Prop} {u0 u : Value} {b : Bk} (h : BkF w S u0 u b) : BkAt w u b := by
 obtain ⟨_, _, _, _, _, _, _, _, _, _, rfl, h1, h2, h3, h4⟩ := h;exact ⟨_, _, _, _, rfl, h1.1, h2.1, h3.1, h4.1⟩
theorem BkF.call {w w' : World} {S : Nat → Prop} {u0 u : Value} {b : Bk} (h : BkF w S u0 u b) (hb : Below w.heap.size w w') : BkF w' S u0 u b := by
 obtain ⟨_, _, _, _, _, _, _, _, _, e, rfl, h1, h2, h3, h4⟩ := h;exact ⟨_, _, _, _, _, _, _, _, _, e, rfl, h1.call hb, h2.call hb, h3.call hb, h4.call hb⟩
theorem BkF.to {w : World} {S T : Nat → Prop} {u0 u : Value} {b : Bk} (h : BkF w S u0 u b) (hT : ∀ q, T q → S q ∨ w.heap.size ≤ q) : BkF w T u0 u b := by
 obtain ⟨_, _, _, _, _, _, _, _, _, e, rfl, h1, h2, h3, h4⟩ := h;exact ⟨_, _, _, _, _, _, _, _, _, e, rfl, h1.to hT, h2.to hT, h3.to hT, h4.to hT⟩
theorem BkF.chg {a w w' : World} {S : Nat → Prop} {u0 u : Value} {b b0 : Bk} (h : BkF w S u0 u b) (hx : BkAt a u0 b0) (hS : ∀ q, S q → a.heap.size ≤ q) (hsz : w.heap.size ≤ w'.heap.size) (hk : ∀ j, j < w.heap.size → ¬ S j → w'.heap[j]? = w.heap[j]?) : BkF w' S u0 u b := by
 obtain ⟨_, _, _, _, _, _, _, _, _, rfl, rfl, h1, h2, h3, h4⟩ := h;obtain ⟨_, _, _, _, e, j1, j2, j3, j4⟩ := hx;injection e with e
 simp only [Array.mk.injEq, List.cons.injEq, and_true] at e;obtain ⟨rfl, rfl, rfl, rfl, _⟩ := e;exact ⟨_, _, _, _, _, _, _, _, _, rfl, rfl, h1.chg j1 hS hsz hk, h2.chg j2 hS hsz hk, h3.chg j3 hS hsz hk, h4.chg j4 hS hsz hk⟩
theorem BkF.step2 {w wc w' : World} {S T : Nat → Prop} {u0 u u' : Value} {b b' : Bk} {lo hi : Nat} (h : BkF w S u0 u b) (hk : Kin lo u u') (hc : BkAt wc u' b') (hi' : wc.heap.size = hi) (hr : BkAt w' u' b') (hT : ∀ q, T q → (S q ∧ q < lo) ∨ (w.heap.size ≤ q ∧ (q < lo ∨ hi ≤ q))) : BkF w' T u0 u' b' := by
 obtain ⟨_, _, _, _, _, _, _, _, _, e0, rfl, h1, h2, h3, h4⟩ := h;obtain ⟨_, _, _, _, _, _, _, _, _, _, e, rfl, k1, k2, k3, k4⟩ := hk;injection e with e
 simp only [Array.mk.injEq, List.cons.injEq, and_true] at e;obtain ⟨rfl, rfl, rfl, rfl, rfl⟩ := e;obtain ⟨_, _, _, _, e, j1, j2, j3, j4⟩ := hr;injection e with e
 simp only [Array.mk.injEq, List.cons.injEq, and_true] at e;obtain ⟨rfl, rfl, rfl, rfl, rfl⟩ := e;obtain ⟨_, _, _, _, e, i1, i2, i3, i4⟩ := hc;injection e with e
 simp only [Array.mk.injEq, List.cons.injEq, and_true] at e;obtain ⟨rfl, rfl, rfl, rfl, _⟩ := e;exact ⟨_, _, _, _, _, _, _, _, _, e0, rfl, h1.step2 k1 i1 hi' j1 hT, h2.step2 k2 i2 hi' j2 hT, h3.step2 k3 i3 hi' j3 hT, h4.step2 k4 i4 hi' j4 hT⟩
def flatU (us : List Value) : List Value := us.flatMap fun u => u.cells.toList
theorem zz4q (us vs : List Value) : flatU (us ++ vs) = flatU us ++ flatU vs := by simp [flatU]
theorem zz90 : ∀ {us : List Value} {i j : Nat} {a0 a1 a2 a3 a4 x : Value}, (∀ u ∈ us, u.cells.size = 5) → us[i]? = some (.agg #[a0, a1, a2, a3, a4]) → ([a0, a1, a2, a3, a4] : List Value)[j]? = some x → (flatU us)[i * 5 + j]? = some x
 | [], i, j, _, _, _, _, _, x, _, hi, _ => by simp at hi
 | a :: t, 0, j, _, _, _, _, _, x, _, hi, hj => by
  obtain rfl := (show a = _ by simpa using hi)
  rw [flatU, List.flatMap_cons, Nat.zero_mul, Nat.zero_add];show ([_, _, _, _, _] ++ _)[j]? = _;rw [List.getElem?_append_left (List.getElem?_eq_some_iff.1 hj).1];exact hj
 | a :: t, i + 1, j, _, _, _, _, _, x, hl, hi, hj => by
  have ha := hl a (.head _);rw [flatU, List.flatMap_cons, List.getElem?_append_right (by simp; omega), show (i + 1) * 5 + j - a.cells.toList.length = i * 5 + j by simp; omega]
  exact zz90 (fun u hu => hl u (.tail _ hu)) (by simpa using hi) hj
section
variable {P : Program} {ops : Array Oper} {rest : List Oper} {o : Oper} {a : Act} {Q : Exit → Act → World → Prop}
theorem zz17 {wr : World} {B : Nat} (s x : Operand) (t e : TypeId) (z : Value) (k bytes : Nat) (he : Elt P t e z k bytes) (cs : List Value) (v : Value) (n : Nat) (xs : List Value)
  (hown : Hid (wr.ownsRow B e k v n xs)) (hB : B ≤ wr.heap.size) (hgd : o.guard = none) (ho : o.op = .call { callee := .builtin .append, args := #[s, x], argTypes := #[t, t] })
  (hs : a.eval s = v) (hx : a.eval x = .slice (some ⟨wr.heap.size, 0, none⟩) 1 1) (hcs : cs.length = k) (h1 : ∀ u ∈ cs, u.oneCell' = true) (hn : n + 1 ≤ 4000000) (hby : bytes ≤ 256)
  (h : ∀ v' w', Hid (w'.ownsRow B e k v' (n + 1) (xs ++ cs)) → Hid ((wr.alloc (.cells cs.toArray e)).grownBy w' v.ownBlock) → Hid (v'.ownBlock = v.ownBlock ∨ v'.ownBlock = some (wr.heap.size + 1)) → wpList P ops Q rest (a.put o.dst v') w') :
  wpList P ops Q (o :: rest) a (wr.alloc (.cells cs.toArray e)) := by
 obtain ⟨i, hi, hz, hsz, hbs⟩ := he.info;refine wpList_append_own_at _ hgd s x t ho B e i z k bytes he.und hi hz hsz hbs he.zs he.pos v n xs hs (hown.out.alloc _) ⟨wr.heap.size, 0, none⟩ 1 1 cs hx (by rw [hcs, Nat.one_mul]) ?_ h1 ?_ ?_ ?_ ?_
 ·intro j u hj
  rw [Addr.add_lit, Nat.zero_add];exact zz00 (zz02 wr (.cells cs.toArray e)) j u (by simpa using hj)
 ·unfold maxLen; omega
 ·have h1 := Nat.mul_le_mul hn hby; omega
 ·simp; omega
 ·intro v' w' h1 h2 _ h3
  exact h v' w' h1 h2 (show _ ∨ _ by simpa using h3)
end
theorem zzbm : Elt Tryz.prog 48 27 (.agg BZ) 5 104 := Elt.mk' Tryz.underlying48 zk rfl zx
end
section
open Go Go.RowKit
section
variable {P : Program} {ops : Array Oper} {md : Region.Mode} {C : World → Prop} {ex : List Nat}
theorem zz78 {Q : Exit → Act → World → Prop} {W0 : World} (i : Nat) (hs : List Nat) (di : Tmp) (Rv : Nat → Nat → Value → World → Prop) (vs0 : Value → List (Tmp × Value)) (f : Nat) (Lf : Array Bool) (T : List Tmp) (N : Nat)
  (hC : ∀ w, Below W0.heap.size W0 w → C w) (hdi : di ∈ T) (hvT : ∀ v, ∀ p ∈ vs0 v, p.1 ∈ T)
  (hp : ∀ (lo hi : Nat) (v : Value) (w : World), Rv lo hi v w → ∀ (a' : Act) (K : Act → Prop), a'.tmps.size = N → K (putsV (a'.put (some di) v) (vs0 v)) → wpPure P ops C K (opsAt ops hs) (a'.put (some di) v))
  (hRs : ∀ lo hi v w1 w2, Rv lo hi v w1 → Below w1.heap.size w1 w2 → Rv lo hi v w2) :
  ∀ (n : Nat) (es : List FreeC) (L : Array Bool) (a : Act) (w : World), es.length = n → Below W0.heap.size W0 w → okC md ops ex i hs Lf n (es.map (·.i)) L = true → (es.map (·.i)).Nodup → (es.map (·.d)).Nodup →
  (∀ e ∈ es, e.i ≠ i ∧ e.d ≠ di ∧ ∀ v, ∀ p ∈ vs0 v, p.1 ≠ e.d) → (∀ e ∈ es, CanC P ops T W0 e a ∧ e.d ∈ T) → CanC P ops T W0 ⟨i, di, Rv⟩ a → a.tmps.size = N →
  (∀ e ∈ es, ∀ lo hi v w1 w2, e.R lo hi v w1 → Below w1.heap.size w1 w2 → e.R lo hi v w2) →
  (∀ lo hi v vs w', w.heap.size ≤ lo → (∀ r ∈ vs, r.hi ≤ lo ∨ hi ≤ r.lo) → Rv lo hi v w' → Holds w.heap.size es vs w' → Apart (fun _ _ => false) es vs → Below w.heap.size w w' → wpAnyD P md ops C ex (OnlyN Q) f Lf (putsE es vs (putsV (a.put (some di) v) (vs0 v))) w') →
  wpAnyD P md ops C ex (OnlyN Q) (f + hs.length + 1 + n) L a w
 | 0, es, L, a, w, hn, hB, hok, _, _, _, _, hca, hN, _, K => by
  obtain rfl : es = [] := List.eq_nil_of_length_eq_zero hn;simp only [okC, Bool.and_eq_true, beq_iff_eq] at hok;obtain ⟨⟨⟨_, hr⟩, hh⟩, hL⟩ := hok;refine ⟨fun h => (by rw [hr] at h; cases h), fun k hk => ?_⟩
  rw [hr] at hk;obtain rfl : k = i := by simpa using hk
  refine hca.run _ a w _ (fun _ _ => rfl) hB fun u w1 hu hb => ⟨fun _ => hC _ (hB.trans (hb.mono hB.size)), ?_⟩
  exact zz1k hs f hh hL (hC _ (hB.trans (hb.mono hB.size))) (hp _ _ _ _ hu a _ hN (K _ _ _ [] w1 (Nat.le_refl _) (fun r hr => by cases hr) hu trivial trivial hb))
 | n + 1, es, L, a, w, hn, hB, hok, hni, hnd, hdis, hga, hca, hN, hst, K => by
  simp only [okC, Bool.and_eq_true, List.all_eq_true] at hok;obtain ⟨hr0, hr2⟩ := hok;refine ⟨fun h0 => ?_, fun k hk => ?_⟩
  ·rw [h0] at hr0
   simp at hr0
  have h2 := hr2 k hk;by_cases hki : k = i
  ·subst hki
   rw [if_pos (by simp), Bool.and_eq_true] at h2
   refine hca.run _ a w _ (fun _ _ => rfl) hB fun u w1 hu hb => ⟨fun _ => hC _ (hB.trans (hb.mono hB.size)), ?_⟩
   have hB1 := hB.trans (hb.mono hB.size);have hev : ∀ x : Operand, (∀ t ∈ T, x ≠ .tmp t) → (putsV (a.put (some di) u) (vs0 u)).eval x = a.eval x := fun x hx => by rw [zz35 T (vs0 u) _ (hvT u) x hx, zz0f a x di u (hx _ hdi)]
   show wpAnyD P md ops C ex (OnlyN Q) (f + hs.length + 1 + n) _ _ _;rw [show f + hs.length + 1 + n = (f + (n + 1)) + hs.length by omega]
   refine zz1k hs (f + (n + 1)) h2.1 rfl (hC _ hB1) (hp _ _ _ _ hu a _ hN ?_);exact zz84 f Lf (fun _ _ => false) hC T (n + 1) es _ _ w1 hn hB1 h2.2 hni hnd (fun e he => ⟨(hga e he).1.act hev, (hga e he).2⟩) hst
    (fun vs w' hh hap hb' => K _ _ _ vs w' (Nat.le_refl _) (fun r hr => .inr (hh.all r hr)) (hRs _ _ _ _ _ hu hb') (hh.lower hb.size) hap (hb.trans (hb'.mono hb.size)))
  ·rw [if_neg (by simpa using hki), Bool.and_eq_true] at h2
   obtain ⟨hin0, h2⟩ := h2;obtain ⟨e, he, rfl⟩ := List.mem_map.1 (show k ∈ es.map (·.i) by simpa using hin0)
   obtain ⟨l1, l2, rfl⟩ := List.append_of_mem he;have hni' := hni;have hnd' := hnd;rw [List.map_append, List.map_cons] at hni' hnd' h2;have hi1 : e.i ∉ l1.map (·.i) := fun h => (List.nodup_append.1 hni').2.2 _ h _ (by simp) rfl
   have hd1 : e.d ∉ l1.map (·.d) := fun h => (List.nodup_append.1 hnd').2.2 _ h _ (by simp) rfl
   rw [List.erase_append_right _ hi1, List.erase_cons_head, ← List.map_append] at h2;have hin : ∀ x ∈ l1 ++ l2, x ∈ l1 ++ e :: l2 := fun x hx => by
    exact zt73
   have hsub : List.Sublist (l1 ++ l2) (l1 ++ e :: l2) := List.Sublist.append (List.Sublist.refl l1) (List.sublist_cons_self e l2);refine (hga e (by simp)).1.run _ a w _ (fun _ _ => rfl) hB fun ve w1 hv hb => ?_
   have hB1 := hB.trans (hb.mono hB.size);refine ⟨fun _ => hC _ hB1, ?_⟩
   have heT := (hga e (by simp)).2
   refine zz78 i hs di Rv vs0 f Lf T N hC hdi hvT hp hRs n (l1 ++ l2) (L.setIfInBounds e.i true) (a.put (some e.d) ve) w1 (by simp at hn ⊢; omega) hB1 h2 ((hsub.map _).nodup hni) ((hsub.map _).nodup hnd) (fun x hx => hdis x (hin x hx))
    (fun x hx => ⟨(hga x (hin x hx)).1.put heT ve, (hga x (hin x hx)).2⟩) (hca.put heT ve) (by rw [zz4d]; exact hN) (fun x hx => hst x (hin x hx)) ?_
   intro lo hi v vs w' hlo hrs hv2 hh hap hb';obtain ⟨v1, v2, rfl, h1, h2'⟩ := Holds.split hh;have hall := hh.all;have := K lo hi v (v1 ++ ⟨w.heap.size, w1.heap.size, ve⟩ :: v2) w' (Nat.le_trans hb.size hlo) (fun r hr => by
    rcases List.mem_append.1 hr with hr | hr
    ·exact hrs r (List.mem_append_left _ hr)
    ·rcases List.mem_cons.1 hr with rfl | hr
     ·exact .inl hlo
     ·exact hrs r (List.mem_append_right _ hr)) hv2 (Holds.join (h1.lower hb.size) ⟨⟨hst e (by simp) _ _ ve w1 w' hv hb', Nat.le_refl _⟩, h2'.lower hb.size⟩)
    (Apart.mid h1.len hap hall (fun x hx => rfl)) (hb.trans (hb'.mono hb.size))
   obtain ⟨_, hne, hnv⟩ := hdis e (by simp)
   rw [zz3x e _ l2 v2 l1 v1 _ h1.len (fun x hx h => hd1 (h ▸ List.mem_map_of_mem hx))] at this
   have hcomm : (a.put (some e.d) ve).put (some di) v = (a.put (some di) v).put (some e.d) ve := Act.put_comm a _ _ (fun d h1 h2 => hne (by injection h1 with h1; injection h2 with h2; rw [h1, h2]))
   rw [hcomm, zz3w _ _ _ _ (hnv v)];exact this
end
end
section
open Go Go.RowKit Mon
def Sx (vp vb : Value) : Nat → Prop := fun q => vp.ownBlock = some q ∨ vb.ownBlock = some q
structure RRun (w0 : World) (u0 : Value) (PL : List (List Int)) (KL : List Bk) (w : World) (vp vb : Value) : Prop where
 below : Below w0.heap.size w0 w
 pairs : RowOwn w w0.heap.size 98 vp 9 PL
 row : ∃ us : List Value, w.ownsRow w0.heap.size 27 5 vb KL.length (flatU us) ∧ us.length = KL.length ∧ (∀ u ∈ us, u.cells.size = 5) ∧ ∀ (i : Nat) (u : Value) (b : Bk), us[i]? = some u → KL[i]? = some b → BkF w (Sx vp vb) u0 u b
section
variable {w0 w w1 : World} {u0 vp vb : Value} {b0 : Bk} {PL : List (List Int)} {KL : List Bk}
theorem zz0n {B : Nat} {e : TypeId} {k n : Nat} {v : Value} {xs : List Value} (h : w.ownsRow B e k v n xs) {q : Nat} (hq : v.ownBlock = some q) : B ≤ q ∧ q < w.heap.size ∧ ∃ cs, w.heap[q]? = some (.cells cs e (0, 0)) := by
 rcases h.2 with ⟨rfl, _⟩ | ⟨g, cap, cur, rfl, h1, h3, _⟩
 ·cases hq
 ·obtain rfl : g = q := by simpa [Value.ownBlock] using hq
  exact ⟨h1, (zL h3), _, h3⟩
theorem zz4g {B B' : Nat} {e e' : TypeId} {k k' n n' : Nat} {v v' : Value} {xs xs' : List Value} (h : w.ownsRow B e k v n xs) (h' : w.ownsRow B' e' k' v' n' xs') (hne : e ≠ e') {q : Nat} (hq : v.ownBlock = some q) : v'.ownBlock ≠ some q := fun hq' => by
 obtain ⟨_, _, cs, h1⟩ := zz0n h hq;obtain ⟨_, _, cs', h2⟩ := zz0n h' hq';rw [h1] at h2;injection h2 with h2
 injection h2 with _ h2 _
 exact hne h2
theorem RRun.blk (h : RRun w0 u0 PL KL w vp vb) {q : Nat} (hq : Sx vp vb q) : w0.heap.size ≤ q ∧ q < w.heap.size := by
 obtain ⟨us, hr, _⟩ := h.row;rcases hq with hq | hq
 ·exact ⟨(zz0n h.pairs.1 hq).1, (zz0n h.pairs.1 hq).2.1⟩
 ·exact ⟨(zz0n hr hq).1, (zz0n hr hq).2.1⟩
theorem zz2x {B : Nat} {e : TypeId} {k n : Nat} {v : Value} {xs : List Value} (h : w.ownsRow B e k v n xs) (hb : Below w.heap.size w w1) : w1.ownsRow B e k v n xs := by
 refine h.kept (row := none) ⟨hb.os, hb.tape, hb.output, hb.size, fun j hj _ => hb.block j hj⟩ ?_
 cases hv : v.ownBlock with
 | none => exact .inl rfl
 | some b => exact .inr (by simp)
theorem zz29 {B : Nat} {e : TypeId} {k n : Nat} {v : Value} {xs : List Value} {row : Option Nat} (h : w.ownsRow B e k v n xs) (hg : w.grownBy w1 row) (hne : ∀ q, v.ownBlock = some q → row ≠ some q) : w1.ownsRow B e k v n xs := by
 refine h.kept hg ?_;cases hv : v.ownBlock with
 | none => exact .inl rfl
 | some b => exact .inr (fun e => hne b hv (by first | exact e | exact e.symm))
theorem RRun.call (h : RRun w0 u0 PL KL w vp vb) (hb : Below w.heap.size w w1) : RRun w0 u0 PL KL w1 vp vb := by
 obtain ⟨us, hr, hl, h5, hk⟩ := h.row;exact ⟨h.below.trans (hb.mono h.below.size), h.pairs.kept hb, us, zz2x hr hb, hl, h5, fun i u b hi hj => (hk i u b hi hj).call hb⟩
theorem RRun.get (h : RRun w0 u0 PL KL w vp vb) {i : Nat} {b : Bk} (hi : KL[i]? = some b) : ∃ g c A1 c1 A2 c2 A3 c3 A4 c4, vb = .slice (some ⟨g, 0, none⟩) KL.length c ∧ g < w.heap.size ∧
  BkF w (Sx vp vb) u0 (.agg (BF A1 c1 A2 c2 A3 c3 A4 c4 b b.n)) b ∧
  w.cell? ⟨g, i * 5, none⟩ = some (.slice A1 b.h.length c1) ∧ w.cell? ⟨g, i * 5 + 1, none⟩ = some (.slice A2 b.s.length c2) ∧ w.cell? ⟨g, i * 5 + 2, none⟩ = some (.slice A3 b.o.length c3) ∧ w.cell? ⟨g, i * 5 + 3, none⟩ = some (.slice A4 b.r.length c4) ∧ w.cell? ⟨g, i * 5 + 4, none⟩ = some (.int .i64 b.n) := by
 obtain ⟨us, hr, hl, h5, hk⟩ := h.row;have hlt := (List.getElem?_eq_some_iff.1 hi).1;have hu : us[i]? = some us[i] := List.getElem?_eq_getElem zw;have hf := hk i _ _ hu hi;obtain ⟨A1, c1, A2, c2, A3, c3, A4, c4, hv⟩ := hf.at.forms;rw [hv] at hu hf;rcases hr.2 with ⟨_, h0⟩ | ⟨g, cap, cur, rfl, h1, h3, _⟩
 ·omega
 have key : ∀ j x, ((BF A1 c1 A2 c2 A3 c3 A4 c4 b b.n) : List Value)[j]? = some x → w.cell? ⟨g, 0 + (i * 5 + j), none⟩ = some x := fun j x hj => by
  have := hr.cells (g := g) rfl (i * 5 + j) x (zz90 h5 hu hj)
  rwa [Addr.add_lit] at this
 refine ⟨g, cap, A1, c1, A2, c2, A3, c3, A4, c4, rfl, (zL h3), hf, ?_, ?_, ?_, ?_, ?_⟩
 ·simpa using key 0 _ rfl
 ·simpa using key 1 _ rfl
 ·simpa using key 2 _ rfl
 ·simpa using key 3 _ rfl
 ·simpa using key 4 _ rfl
theorem BkF.app {S T : Nat → Prop} {u : Value} {b : Bk} {tmp : Obj} {row : Option Nat} (h : BkF w S u0 u b) (B0 : BkAt w0 u0 b0) (hS : ∀ q, S q → w0.heap.size ≤ q) (hT : ∀ q, T q → S q ∨ q = w.heap.size + 1) (hsz : w0.heap.size ≤ w.heap.size) (hrow : ∀ q, row = some q → S q) (hg : (w.alloc tmp).grownBy w1 row) : BkF w1 T u0 u b := by
 have h1 : BkF (w.alloc tmp) (fun q => S q ∨ T q) u0 u b := (h.call zBa).to fun q hq => by
  rcases hq with hq | hq
  ·exact .inl hq
  ·rcases hT q hq with h | h
   ·exact .inl h
   ·exact .inr (by simp; omega)
 have hST : ∀ q, S q ∨ T q → w0.heap.size ≤ q := fun q hq => by
  rcases hq with hq | hq
  ·exact hS q hq
  ·rcases hT q hq with h | h
   ·exact hS q h
   ·omega
 exact (h1.chg B0 hST hg.size fun j hj hn => hg.block j hj fun e => hn (.inl (hrow j e.symm))).to fun q hq => .inl (.inr hq)
theorem RRun.pair (h : RRun w0 u0 PL KL w vp vb) (B0 : BkAt w0 u0 b0) {tmp : Obj} {vp' : Value} {r : List Int} (hr : r.length = 9) (ho : w1.ownsRow w0.heap.size 98 9 vp' (PL.length + 1) (flatC PL ++ r.map (Value.int .i64))) (hg : (w.alloc tmp).grownBy w1 vp.ownBlock) (hat : vp'.ownBlock = vp.ownBlock ∨ vp'.ownBlock = some (w.heap.size + 1)) : RRun w0 u0 (PL ++ [r]) KL w1 vp' vb := by
 obtain ⟨us, hro, hl, h5, hk⟩ := h.row;refine ⟨(zz01 h.below h.below.size tmp).grown hg (by simp; have := h.below.size; omega) (fun q hq => (h.blk (.inl hq)).1), ⟨?_, ?_⟩, us, ?_, hl, h5, fun i u b hi hj => (hk i u b hi hj).app B0 (fun q hq => (h.blk hq).1) (fun q hq => ?_) h.below.size (fun q hq => .inl hq) hg⟩
 ·rw [List.length_append, zz0i, show flatC [r] = r.map (Value.int .i64) by simp [flatC]]
  exact ho
 ·intro x hx
  rcases List.mem_append.1 hx with hx | hx
  ·exact h.pairs.2 x hx
  ·simp at hx; rw [hx]; exact hr
 ·exact zz29 (zz2x hro (zz01 (Below.refl _ _) (Nat.le_refl _) tmp)) hg fun q hq e => zz4g h.pairs.1 hro zx e hq
 ·rcases hq with hq | hq
  ·rcases hat with e | e
   ·exact .inl (.inl (e ▸ hq))
   ·rw [e] at hq; injection hq with hq; exact .inr hq.symm
  ·exact .inl (.inr hq)
theorem RRun.book (h : RRun w0 u0 PL KL w vp vb) (B0 : BkAt w0 u0 b0) {us : List Value} (hl : us.length = KL.length) (h5 : ∀ u ∈ us, u.cells.size = 5) (hk : ∀ (i : Nat) (u : Value) (b : Bk), us[i]? = some u → KL[i]? = some b → BkF w (Sx vp vb) u0 u b) {tmp : Obj} {vb' : Value} {a0 a1 a2 a3 a4 : Value} {nb : Bk} (hn : BkF w (Sx vp vb) u0 (.agg #[a0, a1, a2, a3, a4]) nb)
  (ho : w1.ownsRow w0.heap.size 27 5 vb' (KL.length + 1) (flatU us ++ [a0, a1, a2, a3, a4])) (hg : (w.alloc tmp).grownBy w1 vb.ownBlock) (hat : vb'.ownBlock = vb.ownBlock ∨ vb'.ownBlock = some (w.heap.size + 1)) : RRun w0 u0 PL (KL ++ [nb]) w1 vp vb' := by
 obtain ⟨us0, hro, _⟩ := h.row;have hT : ∀ q, Sx vp vb' q → Sx vp vb q ∨ q = w.heap.size + 1 := fun q hq => by
  rcases hq with hq | hq
  ·exact .inl (.inl hq)
  ·rcases hat with e | e
   ·exact .inl (.inr (e ▸ hq))
   ·rw [e] at hq; injection hq with hq; exact .inr hq.symm
 refine ⟨(zz01 h.below h.below.size tmp).grown hg (by simp; have := h.below.size; omega) (fun q hq => (h.blk (.inr hq)).1), ⟨zz29 (zz2x h.pairs.1 (zz01 (Below.refl _ _) (Nat.le_refl _) tmp)) hg fun q hq e => zz4g h.pairs.1 hro zx hq e, h.pairs.2⟩, us ++ [.agg #[a0, a1, a2, a3, a4]], ?_, by simp [hl], ?_, ?_⟩
 ·rw [List.length_append, zz4q]
  exact ho
 ·intro u hu
  rcases List.mem_append.1 hu with hu | hu
  ·exact h5 u hu
  ·simp at hu; rw [hu]; rfl
 ·intro i u b hi hj
  by_cases hlt : i < us.length
  ·rw [List.getElem?_append_left hlt] at hi
   rw [List.getElem?_append_left zw] at hj;exact (hk i u b hi hj).app B0 (fun q hq => (h.blk hq).1) hT h.below.size (fun q hq => .inr hq) hg
  ·rw [List.getElem?_append_right zw] at hi
   rw [List.getElem?_append_right zw] at hj;have h1 := (List.getElem?_eq_some_iff.1 hi).1;simp at h1;rw [h1] at hi;rw [show i - KL.length = 0 by omega] at hj
   simp at hi hj;subst hi hj;exact hn.app B0 (fun q hq => (h.blk hq).1) hT h.below.size (fun q hq => .inr hq) hg
theorem BkF.put {T : Nat → Prop} {u : Value} {b : Bk} {g o : Nat} {vs : List Value} (h : BkF w T u0 u b) (B0 : BkAt w0 u0 b0) (hT : ∀ q, T q → w0.heap.size ≤ q) (hg : T g) (E : putC w g o vs = w1) : BkF w1 T u0 u b := by
 subst E;exact h.chg B0 hT (by rw [zz36]; exact Nat.le_refl _) fun j hj hn => zz03 (fun e => hn (by rw [e]; exact hg)) rfl
theorem blk_app {q : Nat} {ob tmp : Obj} {row : Option Nat} (h : w.heap[q]? = some ob) (hg : (w.alloc tmp).grownBy w1 row) (hne : row ≠ some q) : w1.heap[q]? = some ob :=
 (hg.block q (by have := zL h; simp; omega) (fun e => hne e.symm)).trans (zz05 h _)
theorem own_ne {B : Nat} {e t : TypeId} {k n : Nat} {v : Value} {xs : List Value} {q : Nat} {cs : Array Value} {fr : Nat × Nat} (h : w.ownsRow B e k v n xs) (hq : w.heap[q]? = some (.cells cs t fr)) (hne : e ≠ t) : v.ownBlock ≠ some q := fun e' => by
 obtain ⟨_, _, cs', h2⟩ := zz0n h e';rw [hq] at h2;injection h2 with h2
 injection h2 with _ h2 _
 exact hne h2.symm
end
end
end Go.Proofs.YtajogedbacpohaaGreatDoor
