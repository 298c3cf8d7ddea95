/- Part 23 of what the claim rests on. -/
import Derived.Test.YtajogedbacpohaaGreatDoorC00
import Derived.Test.YtajogedbacpohaaGreatDoorC13
import Derived.Test.YtajogedbacpohaaGreatDoorC14
import Derived.Test.YtajogedbacpohaaGreatDoorC17
import Derived.Test.YtajogedbacpohaaGreatDoorC19
import Derived.Test.YtajogedbacpohaaGreatDoorC21
import Derived.Laws.AppendOwnNone
import Derived.Maps.AppendAt
import Derived.SizedLaws
set_option linter.unusedVariables false
set_option linter.unusedSimpArgs false
set_option maxRecDepth 1000000
set_option maxHeartbeats 32000000
namespace Go.Proofs.YtajogedbacpohaaGreatDoor
section
open Go Go.RowKit Go.Shelf Mon
attribute [local go_sem] Oper.semAt_some
def rightC (b : Bk) (n : Nat) (rate : Int) : Int :=
 if 65536 < n then 4 else if (b.mayB && (decide (0 ≤ rate) && decide (rate ≤ 1000))) = true then (if 1099511627776 < b.n + n then 11 else 0) else 1
theorem zt52 {p : Prop} (h : p := by
 go_in;go_wp2_with fail;(with_reducible refine (q.out _ _ (zH (hb.out.call HB.out))).mono ?_);rintro r w1 ⟨rfl, hb1⟩;have HB1 := zB HB hb1;clear hb1;go_wp2_with fail;go_ret;exact ⟨rfl, HB1.out⟩) : p := h
theorem zz5r (v : Value) (b : Bk) (n : Nat) (rate : Int) (w : World) (hb : Hid (BkAt w v b)) (hs : Hid b.Small) (hn : n ≤ 9223372036854775807) :
  Calls Tryz.prog 48 #[v, .int .i64 n, .int .i64 rate] w fun e w' => e = .returned (.int .i64 (rightC b n rate)) ∧ Below w.heap.size w w' := by
 obtain ⟨Ah, ch, As, cs, Ao, co, Ar, cr, rfl⟩ := hb.out.forms;have HB : Hid (Below w.heap.size w (w.alloc (.cells (BF Ah ch As cs Ao co Ar cr b b.n) 27))) := zBa;have k := zz02 w (.cells (BF Ah ch As cs Ao co Ar cr b b.n) 27);have K := zH k;clear k;by_cases h1 : 65536 < n
 ·have t1 : decide ((65536 : Int) < (n : Int)) = true := decide_eq_true zw
  have hr : rightC b n rate = 4 := if_pos h1;rw [hr];go_in;go_wp2_with fail;go_ret;exact ⟨rfl, HB.out⟩
 have t1 : decide ((65536 : Int) < (n : Int)) = false := decide_eq_false zw;have q := zH (fun u wz h => zz2m u b wz h hs)
 obtain ⟨M, hM⟩ : ∃ M, b.mayB = M := ⟨_, rfl⟩;rw [hM] at q;cases M with
 | false =>
  have hr : rightC b n rate = 1 := by unfold rightC; rw [if_neg h1, hM, if_neg (by simp)]
  rw [hr];exact zt52
 | true =>
 have hf := (Bk.mayB_iff b).1 hM;have hn0 := hf.n0;have hn1 := hf.n1;by_cases h2 : rate < 0
 ·have t2 : decide (rate < 0) = true := decide_eq_true h2
  have hr : rightC b n rate = 1 := by unfold rightC; rw [if_neg h1, hM, decide_eq_false (show ¬ 0 ≤ rate by omega), if_neg (by simp)]
  rw [hr];clear hf hn0 hn1 h2;exact zt52
 have t2 : decide (rate < 0) = false := decide_eq_false h2;by_cases h3 : 1000 < rate
 ·have t3 : decide (1000 < rate) = true := decide_eq_true h3
  have hr : rightC b n rate = 1 := by unfold rightC; rw [if_neg h1, hM, decide_eq_false (show ¬ rate ≤ 1000 by omega), if_neg (by simp)]
  rw [hr];clear hf hn0 hn1 h2 h3;exact zt52
 have t3 : decide (1000 < rate) = false := decide_eq_false h3;have hw : IntKind.i64.wrap (b.n + (n : Int)) = b.n + (n : Int) := by rw [IntKind.wrap_i64]; omega
 obtain ⟨D, hD⟩ : ∃ D, decide (1099511627776 < b.n + (n : Int)) = D := ⟨_, rfl⟩;have hr : rightC b n rate = if D then 11 else 0 := by
  unfold rightC;rw [if_neg h1, hM, decide_eq_true (show 0 ≤ rate by omega), decide_eq_true (show rate ≤ 1000 by omega), if_pos (by simp), ← hD]
  simp
 rw [hr];clear hf hn0 hn1 h1 h2 h3 hr;go_in;go_wp2_with fail;(with_reducible refine (q.out _ _ (zH (hb.out.call HB.out))).mono ?_);rintro r w1 ⟨rfl, hb1⟩;have HB1 := zB HB hb1;have K1 := zK K hb1;clear hb1;have c4 := zz00 K1.out 4 _ rfl;cases D <;> (go_wp2_with fail; go_ret; exact ⟨rfl, HB1.out⟩)
theorem ret_tct {P : Program} {fn : Func} {p s1 s2 : Tmp} {ty : TypeId} (h : fn.results = #[.tmp s1, .cell p ty, .tmp s2]) (tmps : Array Value) (w : World) (g : Nat) (t : TypeId) (cs : Array Value) (d : TypeDesc)
  (hp : tmps.getD p undef = .pointer (some ⟨g, 0, none⟩)) (hg : w.heap[g]? = some (.cells cs t (0, 0)))
  (hu : P.underlying ty = some d) (hd : (match d with | .struct _ | .array _ _ => true | _ => false) = true) (hi : (P.info? ty).map (·.size) = some cs.size)
  (x y : Value) (hx : tmps.getD s1 undef = x) (hy : tmps.getD s2 undef = y) : (results fn tmps).run P w = .ok (.tuple #[x, .agg cs, y]) w := by
 subst hx hy;exact zt86
theorem RowOwn.baseTo {w : World} {B B' : Nat} {e : TypeId} {v : Value} {k : Nat} {l : List (List Int)} (h : RowOwn w B e v k l) (hB : B' ≤ B) : RowOwn w B' e v k l := by
 obtain ⟨⟨hl, ho⟩, h2⟩ := h;refine ⟨⟨hl, ?_⟩, h2⟩;rcases ho with h | ⟨g, cap, cur, h1, h3, h4⟩
 ·exact .inl h
 ·exact .inr ⟨g, cap, cur, h1, Nat.le_trans hB h3, h4⟩
structure IRun (w0 : World) (no nl Bs : Nat) (vl : Value) (b : Bk) (rate : Int) (pre : List Ev) (M : Nat) (W : World) (vo : Value) (bv : Array Value) : Prop where
 below : Below w0.heap.size w0 W
 lbox : W.heap[w0.heap.size + 1]? = some (.cells #[vl] 44 (0, 0))
 res : W.heap[w0.heap.size + 1 + 1]? = some (.cells BZ 27 (0, 0))
 out : W.heap[no]? = some (.cells #[vo] 45 (0, 0))
 last : W.heap[nl]? = some (.cells bv 27 (0, 0))
 row : RowOwn W (Bs + 3) 98 vo 9 (foldP b rate pre)
 rowM : ∀ q, vo.ownBlock = some q → q < M
 bk : BkOwn W w0.heap.size (.agg bv) (foldB b rate pre)
 bkB : NotIn Bs (.agg bv)
theorem IRun.grow {w0 A B : World} {no nl Bs N M : Nat} {vl vo : Value} {bv : Array Value} {b : Bk} {rate : Int} {pre : List Ev} {row : Option Nat} (h : IRun w0 no nl Bs vl b rate pre M A vo bv) (hg : A.grownBy B row) (hr : ∀ r, row = some r → r = Bs ∨ (N ≤ r ∧ ∃ o : Obj, A.heap[r]? = some o ∧ o.isCells = false))
  (h1 : w0.heap.size + 1 + 1 < Bs ∧ no < Bs ∧ nl < Bs ∧ Bs ≤ N) : IRun w0 no nl Bs vl b rate pre M B vo bv := by
 have fx : ∀ {k : Nat} {cs : Array Value} {t : TypeId} {fr : Nat × Nat}, A.heap[k]? = some (.cells cs t fr) → k < Bs → B.heap[k]? = some (.cells cs t fr) := fun {k cs t fr} hk hlt => (hg.block k (zL hk) fun e => by
  rcases hr k e.symm with h | ⟨h, _⟩ <;> omega).trans hk
 refine ⟨h.below.grown hg h.below.size (fun k e => ?_), fx h.lbox zw, fx h.res h1.1, fx h.out h1.2.1, fx h.last h1.2.2.1, h.row.grow hg fun q hq e => ?_, h.rowM, h.bk.grow h.bkB hg hr, h.bkB⟩
 ·rcases hr k e with h | ⟨h, _⟩ <;> omega
 ·rcases hr q e with h2 | ⟨h2, o, ho, hc⟩
  ·have := (h.row.block hq).1
   omega
  ·obtain ⟨o', ho', hc'⟩ := h.row.cellsB hq
   rw [ho] at ho';cases ho';rw [hc] at hc';cases hc'
theorem IRun.call {w0 A B : World} {no nl Bs M : Nat} {vl vo : Value} {bv : Array Value} {b : Bk} {rate : Int} {pre : List Ev} (h : IRun w0 no nl Bs vl b rate pre M A vo bv) (hb : Below A.heap.size A B) (h1 : w0.heap.size + 1 + 1 < Bs ∧ no < Bs ∧ nl < Bs) : IRun w0 no nl Bs vl b rate pre M B vo bv :=
 h.grow (N := Bs) (zz2w hb none) (fun r e => by cases e) ⟨h1.1, h1.2.1, h1.2.2, Nat.le_refl _⟩
theorem zz4y (Ah As Ao Ar AL : Option Addr) (ch cs co cr cL : Nat) (b : Bk) (L : List Ev) (rate : Int) (w : World) (hT : Hid (Law16 w)) (B0 : Hid (BkAt w (.agg (BF Ah ch As cs Ao co Ar cr b b.n)) b)) (HL : Hid (EvsAt w (.slice AL L.length cL) L)) (hgd : Hid b.Good) (hE : Hid (∀ e ∈ L, e.I64s)) (hr0 : Hid (0 ≤ rate ∧ rate ≤ 1000))
  (hcount : Hid (b.n + L.length ≤ 1099511627776)) (hst : Hid (b.s.length + L.length ≤ 900000)) (hln : L.length ≤ 60000) :
  Calls Tryz.prog 16 #[.agg (BF Ah ch As cs Ao co Ar cr b b.n), .slice AL L.length cL, .int .i64 rate] w fun r w' => ∃ vp vb, r = .returned (.tuple #[vp, vb, .int .i64 0]) ∧ RowOwn w' w.heap.size 98 vp 9 (foldP b rate L) ∧ BkOwn w' w.heap.size vb (foldB b rate L) ∧ Below w.heap.size w w' := by
 have hsm : Hid b.Small := hgd.out.small (by have := hst.out; omega)
 have q1 : Hid (∀ (v : Value) (wz : World), Hid (BkAt wz v b) → Calls Tryz.prog 48 #[v, .int .i64 L.length, .int .i64 rate] wz fun e w' => e = .returned (.int .i64 0) ∧ Below wz.heap.size wz w') := (show _ from fun v wz hv => by
  have h := zz5r v b L.length rate wz hv hsm zw;rw [show rightC b L.length rate = 0 from by unfold rightC; rw [if_neg zw, hgd.out.may, decide_eq_true hr0.out.1, decide_eq_true hr0.out.2, if_pos (by rfl), if_neg (by have := hcount.out; omega)]] at h
  exact h)
 refine (callsIn_wide (n := 3)).1 ?_;have h1 : 1 ≤ 3 := by omega
 have hro : Fence.wide.round = none := rfl;obtain ⟨wb, hwb⟩ : ∃ wb : World, ((w.alloc (.cells (BF Ah ch As cs Ao co Ar cr b b.n) 27)).alloc (.cells #[.slice AL L.length cL] 44)).alloc (.cells BZ 27) = wb := ⟨_, rfl⟩;have HB : Hid (Below w.heap.size w wb) := by rw [← hwb]; exact zz01 (zz01 zBa (by simp) _) (by simp; omega) _
 have K0 : ZB wb w.heap.size (BF Ah ch As cs Ao co Ar cr b b.n) 27 := by rw [← hwb]; exact zz05 (zz05 (zz02 _ _) _) _
 have K1 : ZB wb (w.heap.size + 1) #[.slice AL L.length cL] 44 := by rw [← hwb]; exact zz05 (zz0d _ _ _ (by simp)) _
 have K2 : ZB wb (w.heap.size + 1 + 1) BZ 27 := by rw [← hwb]; exact zz0d _ _ _ (by simp)
 replace hwb := zH hwb;have b0 := zC K0.out;have l0 := zz00 K1.out 0 _ rfl;rw [← hwb.out] at b0 l0;refine callsIn_of_wp_marks Tryz.func16 rfl trivial ?_ hro;simp only [Tryz.ntmps16, List.size_toArray, List.length_cons, List.length_nil, Nat.reduceAdd, Nat.reduceSub, Array.replicate_succ, Array.replicate_zero, List.push_toArray, List.append_toArray, List.nil_append, List.cons_append]
 gi_wp2_with (fail)
 rw [hwb.out];refine ⟨trivial, callsIn_wide.2 ((q1.out _ _ (zH (B0.out.call HB.out))).mono ?_)⟩;rintro r w1 ⟨rfl, hb⟩;clear b0 l0 hwb q1;replace K0 := zK K0 hb;replace K1 := zK K1 hb;replace K2 := zK K2 hb;replace HB := zB HB hb;clear hb;have b0 := zC K0.out;have lt0 := zL K0.out
 gi_wp2_with (fail)
 clear b0 lt0;generalize hwo : World.alloc _ _ = wo;have hbo := zM0 hwo;have KO : ZB wo w1.heap.size #[.slice none 0 0] 45 := by rw [← hwo]; exact zz02 _ _
 have NO : Hid (w.heap.size + 1 + 1 < w1.heap.size) := zL K2.out;replace K0 := zK K0 hbo;replace K1 := zK K1 hbo;replace K2 := zK K2 hbo;replace HB := zB HB hbo;have NW := zH HB.out.size;clear hbo hwo;refine ⟨trivial, callsIn_wide.2 ((zz32 _ b _ (zH (B0.out.call HB.out)) hsm).mono ?_)⟩;rintro r w2 ⟨v6, rfl, hOw, hb⟩;obtain ⟨C1, d1, C2, d2, C3, d3, C4, d4, hv6⟩ := hOw.at.forms;subst hv6;have HO := zH hOw;replace KO := zK KO hb;replace K0 := zK K0 hb;replace K1 := zK K1 hb;replace K2 := zK K2 hb;replace HB := zB HB hb;clear hb hOw;have b0 := zC K0.out;have l0 := zz00 K1.out 0 _ rfl;have lt0 := zL K0.out;have lt1 := zL K1.out
 gi_wp2_with (fail)
 clear b0 l0 lt0 lt1;generalize hwl : World.alloc _ _ = wl;have hbl := zM0 hwl;have KL : ZB wl w2.heap.size (BF C1 d1 C2 d2 C3 d3 C4 d4 b b.n) 27 := by rw [← hwl]; exact zz02 _ _
 have NL : Hid (w1.heap.size < w2.heap.size) := zL KO.out;have NI := zH (fun Bs (h : w2.heap.size ≤ Bs) => HO.out.notIn (.inr h))
 replace KO := zK KO hbl;replace K1 := zK K1 hbl;replace K2 := zK K2 hbl;replace HO := zH (HO.out.kept hbl);replace HB := zB HB hbl;clear hbl hwl K0;have NB : Hid (w2.heap.size < wl.heap.size) := zL KL.out;refine ⟨trivial, callsIn_wide.2 ((zz6m Ah As Ao Ar AL ch cs co cr L.length cL b rate wl).mono ?_)⟩;rintro r w3 ⟨rfl, hw3⟩;have hb3 : Below wl.heap.size wl w3 := by rw [hw3]; exact zz01 (zz01 zBa (by simp) _) (by simp; omega) _
 have S0 : ZB w3 wl.heap.size (BF Ah ch As cs Ao co Ar cr b b.n) 27 := by rw [hw3]; exact zz05 (zz05 (zz02 _ _) _) _
 have S1 : ZB w3 (wl.heap.size + 1) #[.slice AL L.length cL] 44 := by rw [hw3]; exact zz05 (zz0d _ _ _ (by simp)) _
 have S2 : ZB w3 (wl.heap.size + 2) #[rate] 3 := by rw [hw3]; exact zz0d _ _ _ (by simp)
 replace KO := zK KO hb3;replace KL := zK KL hb3;replace K1 := zK K1 hb3;replace K2 := zK K2 hb3;replace HO := zH (HO.out.kept hb3);replace HB := zB HB hb3;have N3 : Hid (wl.heap.size + 2 < w3.heap.size) := zL S2.out;clear hw3 hb3
 gi_wp2_with (fail)
 have hsz : w.heap.size + 1 + 1 < wl.heap.size ∧ w1.heap.size < wl.heap.size ∧ w2.heap.size < wl.heap.size ∧ wl.heap.size + 2 < w3.heap.size ∧ w.heap.size + 1 + 1 < w1.heap.size ∧ w1.heap.size < w2.heap.size := by have h1 := NO.out; have h2 := NL.out; have h3 := NB.out; have h4 := N3.out; omega
 have SZ := zH hsz;refine zz4f hro h1 (gf := 114) (lb := #[.pointer (some ⟨wl.heap.size + 1, 0, none⟩), .pointer (some ⟨wl.heap.size, 0, none⟩), .pointer (some ⟨wl.heap.size + 2, 0, none⟩)]) rfl trivial (enters_of Tryz.func114 zk rfl)
  (EnF b rate) (KpF w.heap.size wl.heap.size) L wl.heap.size
  (fun pre x args M W h => by obtain ⟨_, _, _, _, _, _, _, _, rfl, _⟩ := h; rfl) (fun h k => h.trans k) (fun M W l o o' hl ho hc => KpF.put o' zw ho hc)
  (zzah b L rate w w3 wl.heap.size Ah As Ao Ar AL ch cs co cr cL hT B0 HL hgd hE hr0 hcount hst zw HB (zH (by show _ ≤ _; omega)) S0 S1 S2) zw
  (fun pre M W => ∃ vo bv, Hid (IRun w w1.heap.size w2.heap.size wl.heap.size (.slice AL L.length cL) b rate pre M W vo bv)) (fun _ _ _ => False)
  (fun M pre A B row ⟨vo, bv, h⟩ hg hr => ⟨vo, bv, h.out.grow hg hr zw⟩)
  (fun pre M W ⟨vo, bv, h⟩ => ⟨vo, bv, { h.out with rowM := fun q hq => (h.out.row.block hq).2 }⟩)
  (fun c pre A B row h _ _ => h)
  ⟨_, _, zH ⟨HB.out, K1.out, K2.out, KO.out, KL.out, ⟨World.ownsRow_nil _ _ _ _, (show ∀ r ∈ ([] : List (List Int)), r.length = 9 from fun r hr => by simp at hr)⟩, (fun q hq => by cases hq), HO.out.mono NW.out, NI.out _ zw⟩⟩
  (fun pre x M a' W => ∃ (g : Nat) (Y1 : Option Addr) (e1 : Nat) (Y2 : Option Addr) (e2 : Nat) (Y3 : Option Addr) (e3 : Nat) (Y4 : Option Addr) (e4 : Nat), a' = { tmps := #[.agg (BF Ah ch As cs Ao co Ar cr b b.n), .slice AL L.length cL, .int .i64 rate, .pointer (some ⟨w.heap.size, 0, none⟩), .pointer (some ⟨w.heap.size + 1, 0, none⟩), undef, .slice none 0 0, .pointer (some ⟨w.heap.size + 1 + 1, 0, none⟩), .int .i64 0, .int .i64 0, .pointer (some ⟨w1.heap.size, 0, none⟩), .pointer (some ⟨w2.heap.size, 0, none⟩), .int .i64 (pre.length : Nat), .pointer (some ⟨g, 0, none⟩), .agg (BF Ah ch As cs Ao co Ar cr b b.n), .slice AL L.length cL, .int .i64 L.length, .int .i64 rate, .int .i64 0, .int .i64 0, .bool false, undef, undef, .agg (BF Ah ch As cs Ao co Ar cr b b.n), .agg (BF C1 d1 C2 d2 C3 d3 C4 d4 b b.n), .agg (BF Ah ch As cs Ao co Ar cr b b.n), .slice AL L.length cL, .int .i64 rate, .func (.func 114) #[] #[.pointer (some ⟨wl.heap.size + 1, 0, none⟩), .pointer (some ⟨wl.heap.size, 0, none⟩), .pointer (some ⟨wl.heap.size + 2, 0, none⟩)], .int .i64 (pre.length : Nat), .agg #[.int .i64 (gateV (foldB b rate pre) x rate).1, .int .i64 (gateV (foldB b rate pre) x rate).2, .slice Y1 (foldB b rate (pre ++ [x])).h.length e1, .slice Y2 (foldB b rate (pre ++ [x])).s.length e2, .slice Y3 (foldB b rate (pre ++ [x])).o.length e3, .slice Y4 (foldB b rate (pre ++ [x])).r.length e4, .int .i64 (foldB b rate (pre ++ [x])).n], undef, undef, undef, undef, undef, undef, undef, undef, undef, undef, undef, undef, undef, undef], defers := [] } ∧ M ≤ g ∧ ZB W g #[.int .i64 (gateV (foldB b rate pre) x rate).1, .int .i64 (gateV (foldB b rate pre) x rate).2, .slice Y1 (foldB b rate (pre ++ [x])).h.length e1, .slice Y2 (foldB b rate (pre ++ [x])).s.length e2, .slice Y3 (foldB b rate (pre ++ [x])).o.length e3, .slice Y4 (foldB b rate (pre ++ [x])).r.length e4, .int .i64 (foldB b rate (pre ++ [x])).n] 104 ∧ Hid (BkOwn W M (.agg #[.slice Y1 (foldB b rate (pre ++ [x])).h.length e1, .slice Y2 (foldB b rate (pre ++ [x])).s.length e2, .slice Y3 (foldB b rate (pre ++ [x])).o.length e3, .slice Y4 (foldB b rate (pre ++ [x])).r.length e4, .int .i64 (foldB b rate (pre ++ [x])).n]) (foldB b rate (pre ++ [x]))))
  ?hAx ?assign ?body ?done ?stop
 case hAx =>
  rintro pre x M a' W l o o' ⟨g, Y1, e1, Y2, e2, Y3, e3, Y4, e4, rfl, hg, hk, hO⟩ hl ho hc;have fx : ∀ {k : Nat} {cs : Array Value} {t : TypeId} {fr : Nat × Nat}, W.heap[k]? = some (.cells cs t fr) → (W.putObj l o').heap[k]? = some (.cells cs t fr) := fun {k cs t fr} hk => by
   rw [World.putObj_heap_other (fun e => ?_)]
   ·exact hk
   ·subst e
    rw [ho] at hk;cases hk;cases hc
  exact ⟨g, Y1, e1, Y2, e2, Y3, e3, Y4, e4, rfl, hg, zH (fx hk.out), zH (hO.out.still (by simp) fun q cs t fr hq _ => fx hq)⟩
 case assign =>
  rintro l pre x args M W K hwM hMW ⟨vo, bv, hI⟩ ⟨Y1, e1, Y2, e2, Y3, e3, Y4, e4, rfl, hO⟩ hpre hK;have hbW : Below W.heap.size W (W.alloc (.cells #[.int .i64 (gateV (foldB b rate pre) x rate).1, .int .i64 (gateV (foldB b rate pre) x rate).2, .slice Y1 (foldB b rate (pre ++ [x])).h.length e1, .slice Y2 (foldB b rate (pre ++ [x])).s.length e2, .slice Y3 (foldB b rate (pre ++ [x])).o.length e3, .slice Y4 (foldB b rate (pre ++ [x])).r.length e4, .int .i64 (foldB b rate (pre ++ [x])).n] 104)) := zBa;have hK2 := zH (hK _ (W.alloc (.cells #[.int .i64 (gateV (foldB b rate pre) x rate).1, .int .i64 (gateV (foldB b rate pre) x rate).2, .slice Y1 (foldB b rate (pre ++ [x])).h.length e1, .slice Y2 (foldB b rate (pre ++ [x])).s.length e2, .slice Y3 (foldB b rate (pre ++ [x])).o.length e3, .slice Y4 (foldB b rate (pre ++ [x])).r.length e4, .int .i64 (foldB b rate (pre ++ [x])).n] 104)) ((KeepsOthers.alloc _ _).from _) (KpF.of hbW zw) ⟨vo, bv, hI.out.call hbW zw⟩ ⟨W.heap.size, Y1, e1, Y2, e2, Y3, e3, Y4, e4, rfl, hMW, zH (zz02 _ _), zH (hO.kept hbW)⟩)
  clear hK hbW hO hI
  gi_wp2
  exact hK2.out
 case body =>
  rintro l pre x M a' W hwM hMW ⟨vo, bv, hI⟩ ⟨g, Y1, e1, Y2, e2, Y3, e3, Y4, e4, rfl, hMg, hS, hO⟩ hpre;have hlt : pre.length < L.length := by
   obtain ⟨t, ht⟩ := hpre;rw [← ht];simp
  have hxi : L[pre.length]? = some x := by
   obtain ⟨t, ht⟩ := hpre;rw [← ht];simp
  have HX := zH hxi;have HEv := zH (HL.out.call hI.out.below);have hlenP := zH (zz20 rate pre b);have hsnP := zH (zz74 b rate pre x);obtain ⟨nb, hnb⟩ : ∃ nb, foldB b rate (pre ++ [x]) = nb := ⟨_, rfl⟩;obtain ⟨X1, hX1⟩ : ∃ X1, (gateV (foldB b rate pre) x rate).1 = X1 := ⟨_, rfl⟩;obtain ⟨X2, hX2⟩ : ∃ X2, (gateV (foldB b rate pre) x rate).2 = X2 := ⟨_, rfl⟩;have hpc : Hid (pairC x (gateV (foldB b rate pre) x rate) = [x.kind, x.acc, x.ord, x.sym, x.side, x.qty, x.px, X1, X2]) := (show _ = _ by rw [← hX1, ← hX2]; rfl)
  rw [hnb, hX1, hX2] at hS;rw [hnb] at hO;simp only [hnb, hX1, hX2];have HNB := zH hnb;clear hpre hxi hnb hX1 hX2;obtain ⟨bb, oo, rfl, _⟩ := HEv.out.get HX.out;have hPL : pre.length ≤ 60000 := by omega
  gi_wp2_with (fail)
  obtain ⟨Z1, z1, Z2, z2, Z3, z3, Z4, z4, hbv⟩ := hI.out.bk.at.forms;injection hbv with hbv
  subst hbv;refine zz3r [10] (C := fun wz : World => ZB wz w1.heap.size #[vo] 45 ∧ ZB wz (w.heap.size + 1) #[.slice (some ⟨bb, oo, none⟩) L.length cL] 44 ∧ Hid (EvsAt wz (.slice (some ⟨bb, oo, none⟩) L.length cL) L) ∧ ZB wz g #[X1, X2, .slice Y1 nb.h.length e1, .slice Y2 nb.s.length e2, .slice Y3 nb.o.length e3, .slice Y4 nb.r.length e4, nb.n] 104) 11 (zb 11 0) zk zk zk zk ?_
  obtain ⟨wd, hwd⟩ : ∃ wd : World, { W with drawn := W.drawn + 1 } = wd := ⟨_, rfl⟩
  rw [hwd];have hb : Below W.heap.size W wd := by rw [← hwd]; exact (Below.refl _ _).drew
  replace hI := zH (hI.out.call hb (by have := SZ.out; omega))
  replace HEv := zH (HEv.out.call hb);replace hS := zK hS hb;replace hO := zH (hO.out.kept hb);have hMd := Nat.le_trans hMW hb.size;have HF : Hid (KpF w.heap.size wl.heap.size M W wd) := KpF.of hb (by have := SZ.out; omega)
  have HK : Hid (KeepsOthers W wd) := zz3o hb;clear hwd hb;refine zM [0, 1, 2, 3, 4, 5, 6, 7] 3 ⟨zH hI.out.out, zH hI.out.lbox, HEv, hS⟩ ?_;simp only [opsAt, zA];refine zq (fun wz hC => zC hC.1.out) ?_
  refine zq (fun wz hC => zC hC.2.1.out) ?_
  iterate 2 refine zp ?_
  refine zz08 (.agg #[x.kind, x.acc, x.ord, x.sym, x.side, x.qty, x.px]) rfl (fun wz hC => by obtain ⟨_, y0, y1, y2, y3, y4, y5, y6⟩ := hC.2.2.1.out.got HX.out; unfold execOp; go_simp) ?_
  refine zp ?_;refine zq (fun wz hC => zC hC.2.2.2.out) ?_
  refine zp ?_;unfold wpPure;go_simp;refine zW 8 ?_;go_wp2_with fail;refine zQs (fun _ => ⟨zH (zz05 hI.out.out _), zH (zz05 hI.out.lbox _), zH (HEv.out.call zBa), zH (zz05 hS.out _)⟩) ?_
  refine zW 9 ?_;have hBle : wl.heap.size + 3 ≤ wd.heap.size := by have := SZ.out; omega
  refine zz17 (wr := wd) _ _ 45 98 (.agg #[.int .i64 0, .int .i64 0, .int .i64 0, .int .i64 0, .int .i64 0, .int .i64 0, .int .i64 0, .int .i64 0, .int .i64 0]) 9 72 el_Pair [x.kind, x.acc, x.ord, x.sym, x.side, x.qty, x.px, X1, X2] vo (foldP b rate pre) (zH hI.out.row) hBle rfl rfl rfl rfl rfl (by rw [hlenP.out]; omega) zx ?_
  intro v' w9 hown' hg';obtain ⟨ko, kb, kk⟩ := zz4p hI.out.row hBle hg'.out;have fx : ∀ {k : Nat} {cs : Array Value} {t : TypeId} {fr : Nat × Nat}, wd.heap[k]? = some (.cells cs t fr) → 98 ≠ t → w9.heap[k]? = some (.cells cs t fr) := fun {k cs t fr} hk hne => (kk k (zL hk) (hI.out.row.neB hk hne)).trans hk
  have k9o := zH (fx hI.out.out zx);have k9l := zH (fx hI.out.lbox zx);have k9r := zH (fx hI.out.res zx);have k9t := zH (fx hI.out.last zx);have k9s := zH (fx hS.out zx);have b9 : Hid (BkOwn w9 w.heap.size (.agg (BF Z1 z1 Z2 z2 Z3 z3 Z4 z4 (foldB b rate pre) (foldB b rate pre).n)) (foldB b rate pre)) := hI.out.bk.grown hI.out.row zx kb.size kk;have o9 : Hid (BkOwn w9 M (.agg (BF Y1 e1 Y2 e2 Y3 e3 Y4 e4 nb nb.n)) nb) := hO.out.grown hI.out.row zx kb.size kk;have w9b : Hid (Below w.heap.size w w9) := hI.out.below.trans (kb.mono (by have := SZ.out; omega))
  have e9 := zH (HL.out.call w9b.out);have s9 : M ≤ w9.heap.size := Nat.le_trans hMd kb.size;have F9 : Hid (KpF w.heap.size wl.heap.size M W w9) := HF.out.trans ⟨kb.mono (by have := SZ.out; omega), fun k cs t fr hk hr => (kk k (zL hk) fun e => by
   have h1 := hI.out.rowM k e;have h2 := (hI.out.row.block e).1;omega).trans hk⟩
  have K9 : Hid (KeepsOthers W w9) := HK.out.trans ko;have bkB := zH hI.out.bkB;obtain ⟨A', c', hv'⟩ := hown'.out.form;obtain ⟨nL, hnL⟩ : ∃ nL, (foldP b rate pre ++ [[x.kind, x.acc, x.ord, x.sym, x.side, x.qty, x.px, X1, X2]]).length = nL := ⟨_, rfl⟩;rw [hnL] at hv';subst hv';clear hnL;clear hI HEv hS hO HF HK hg' ko kb kk fx hBle hMd;go_wp2_with fail;refine zQs (fun _ => ⟨k9o, k9l, e9, k9s⟩) ?_
  refine zW 10 ?_;have c0 := zz00 k9o.out 0 _ rfl;have f0 := zz04 k9o.out 0;go_wp2_with fail;generalize hws : World.setCell _ _ _ = ws;have E1 : putC w9 w1.heap.size 0 [.slice A' nL c'] = ws := hws;clear hws c0 f0;have hz := SZ.out;have p0 := zz0u (o := 0) (vs := [.slice A' nL c']) k9o.out;have pl := zz03 (g := w1.heap.size) zw (o := 0) (vs := [.slice A' nL c']) k9l.out;have pr := zz03 (g := w1.heap.size) zw (o := 0) (vs := [.slice A' nL c']) k9r.out;have pt := zz03 (g := w1.heap.size) zw (o := 0) (vs := [.slice A' nL c']) k9t.out;have ps := zz03 (g := w1.heap.size) zw (o := 0) (vs := [.slice A' nL c']) k9s.out;have pb := BkOwn.putT (g := w1.heap.size) zx (o := 0) (us := [.slice A' nL c']) o9.out k9o.out;have pw := RowOwn.putT (g := w1.heap.size) (t := 45) zx (o := 0) (us := [.slice A' nL c']) hown'.out k9o.out;have pq := zz0x (g := w1.heap.size) zw (o := 0) (vs := [.slice A' nL c']) w9b.out;have pf := F9.out.trans (KpF.putC (g := w1.heap.size) (M := M) (n0 := w.heap.size) (Bs := wl.heap.size) zw zw zw 0 [.slice A' nL c']);have pk := K9.out.trans (zz37 (g := w1.heap.size) [.slice A' nL c'] 0 w9);have pz := zz2i (g := w1.heap.size) [.slice A' nL c'] 0 w9;rw [E1] at p0 pl pr pt ps pb pw pq pf pk pz;have P0 : ZB ws w1.heap.size #[.slice A' nL c'] 45 := p0;have PL := zH pl; have PR := zH pr; have PT := zH pt; have PS := zH ps; have PB := zH pb; have PW := zH pw; have PQ := zH pq; have PF := zH pf; have PK := zH pk;have PZ : Hid (M ≤ ws.heap.size) := by show _ ≤ _; omega
  clear p0 pl pr pt ps pb pw pq pf pk pz E1 k9o k9l k9r k9t k9s o9 hown' w9b F9 K9 e9 b9 s9 hz;refine zQs (fun h => absurd h zx) ?_
  refine ⟨by kernel_rfl, ?_⟩
  rw [zz31];have s0 := zC PS.out;have l0 := zC PT.out;have f0 := zF PT.out;have ne1 := zz0a PS.out PT.out zx;have ne2 := ne1.symm;have hN : Hid (∀ we : World, putC ws w2.heap.size 0 [(.slice Y1 nb.h.length e1 : Value), .slice Y2 nb.s.length e2, .slice Y3 nb.o.length e3, .slice Y4 nb.r.length e4, .int .i64 nb.n] = we → KeepsFrom w3.heap.size W we ∧ KpF w.heap.size wl.heap.size M W we ∧ ∃ vo bv, Hid (IRun w w1.heap.size w2.heap.size wl.heap.size (.slice (some ⟨bb, oo, none⟩) L.length cL) b rate (pre ++ [x]) we.heap.size we vo bv)) := by
   intro we hwe;have hz := SZ.out;have hPZ := PZ.out;have q0 := zz03 (g := w2.heap.size) zw (o := 0) (vs := [(.slice Y1 nb.h.length e1 : Value), .slice Y2 nb.s.length e2, .slice Y3 nb.o.length e3, .slice Y4 nb.r.length e4, nb.n]) P0.out;have ql := zz03 (g := w2.heap.size) zw (o := 0) (vs := [(.slice Y1 nb.h.length e1 : Value), .slice Y2 nb.s.length e2, .slice Y3 nb.o.length e3, .slice Y4 nb.r.length e4, nb.n]) PL.out;have qr := zz03 (g := w2.heap.size) zw (o := 0) (vs := [(.slice Y1 nb.h.length e1 : Value), .slice Y2 nb.s.length e2, .slice Y3 nb.o.length e3, .slice Y4 nb.r.length e4, nb.n]) PR.out;have qt : (putC ws w2.heap.size 0 [(.slice Y1 nb.h.length e1 : Value), .slice Y2 nb.s.length e2, .slice Y3 nb.o.length e3, .slice Y4 nb.r.length e4, .int .i64 nb.n]).heap[w2.heap.size]? = some (.cells (BF Y1 e1 Y2 e2 Y3 e3 Y4 e4 nb nb.n) 27 (0, 0)) := zz0u PT.out;have qb := BkOwn.putT (g := w2.heap.size) (t := 27) zx (o := 0) (us := [(.slice Y1 nb.h.length e1 : Value), .slice Y2 nb.s.length e2, .slice Y3 nb.o.length e3, .slice Y4 nb.r.length e4, .int .i64 nb.n]) PB.out PT.out;have qw := RowOwn.putT (g := w2.heap.size) (t := 27) zx (o := 0) (us := [(.slice Y1 nb.h.length e1 : Value), .slice Y2 nb.s.length e2, .slice Y3 nb.o.length e3, .slice Y4 nb.r.length e4, .int .i64 nb.n]) PW.out PT.out;have qq := zz0x (g := w2.heap.size) zw (o := 0) (vs := [(.slice Y1 nb.h.length e1 : Value), .slice Y2 nb.s.length e2, .slice Y3 nb.o.length e3, .slice Y4 nb.r.length e4, nb.n]) PQ.out;have qf := PF.out.trans (KpF.putC (g := w2.heap.size) (M := M) (n0 := w.heap.size) (Bs := wl.heap.size) zw zw zw 0 [(.slice Y1 nb.h.length e1 : Value), .slice Y2 nb.s.length e2, .slice Y3 nb.o.length e3, .slice Y4 nb.r.length e4, .int .i64 nb.n]);have qk := PK.out.trans (zz37 (g := w2.heap.size) [(.slice Y1 nb.h.length e1 : Value), .slice Y2 nb.s.length e2, .slice Y3 nb.o.length e3, .slice Y4 nb.r.length e4, .int .i64 nb.n] 0 ws);rw [hwe] at q0 ql qr qt qb qw qq qf qk;have hrow : RowOwn we (wl.heap.size + 3) 98 (.slice A' nL c') 9 (foldP b rate (pre ++ [x])) := by
    rw [hsnP.out, hpc.out];exact qw
   exact ⟨qk.from _, qf, _, _, zH ⟨qq, ql, qr, q0, qt, hrow, fun q hq => (hrow.block hq).2, by rw [HNB.out]; exact qb.mono zw, qb.notIn (.inl zw)⟩⟩
  gi_wp2_with (fail)
  exact hN.out _ rfl
 case done =>
  rintro D M W hD ⟨vo, bv, hI⟩ hK;obtain ⟨Z1, z1, Z2, z2, Z3, z3, Z4, z4, hbv⟩ := hI.out.bk.at.forms;injection hbv with hbv
  subst hbv;obtain ⟨A', c', rfl⟩ := hI.out.row.form;have HK := zH hK;clear hK
  gi_wp2_with (fail)
  refine wpIn_wide.2 ?_;obtain ⟨nL, hnL⟩ : ∃ nL, (foldP b rate L).length = nL := ⟨_, rfl⟩;have ho := zH hI.out.out;have hrw := zH hI.out.row;rw [hnL] at ho hrw;clear hnL;refine zRD [3] (fun wz : World => ZB wz w1.heap.size #[.slice A' nL c'] 45 ∧ ZB wz w2.heap.size (BF Z1 z1 Z2 z2 Z3 z3 Z4 z4 (foldB b rate L) (foldB b rate L).n) 27) 5 ?_
  obtain ⟨wd, hwd⟩ : ∃ wd : World, { W with drawn := W.drawn + 1 } = wd := ⟨_, rfl⟩
  rw [hwd];have hb : Below W.heap.size W wd := by rw [← hwd]; exact (Below.refl _ _).drew
  replace hI := zH (hI.out.call hb (by have := SZ.out; omega))
  replace ho := zK ho hb;replace hrw := zH (hrw.out.kept hb);replace HK := zK HK hb;clear hb hwd;refine zM [0, 1, 2] 2 ⟨ho, zH hI.out.last⟩ ?_;simp only [opsAt, zA];refine zq (fun wz hC => zC hC.1.out) ?_
  refine zq (fun wz hC => zC hC.2.out) ?_
  refine zp ?_;unfold wpPure;go_simp;refine zW 3 ?_;have r0 := zC hI.out.res;have f0 := zF hI.out.res;go_wp2_with fail;have hE : ∀ we : World, putC wd (w.heap.size + 1 + 1) 0 [(.slice Z1 (foldB b rate L).h.length z1 : Value), .slice Z2 (foldB b rate L).s.length z2, .slice Z3 (foldB b rate L).o.length z3, .slice Z4 (foldB b rate L).r.length z4, .int .i64 (foldB b rate L).n] = we → ZB we w1.heap.size #[.slice A' nL c'] 45 ∧ ZB we w2.heap.size (BF Z1 z1 Z2 z2 Z3 z3 Z4 z4 (foldB b rate L) (foldB b rate L).n) 27 ∧ ZB we (w.heap.size + 1 + 1) (BF Z1 z1 Z2 z2 Z3 z3 Z4 z4 (foldB b rate L) (foldB b rate L).n) 27 ∧ Hid (BkOwn we w.heap.size (.agg (BF Z1 z1 Z2 z2 Z3 z3 Z4 z4 (foldB b rate L) (foldB b rate L).n)) (foldB b rate L)) ∧ Hid (RowOwn we (wl.heap.size + 3) 98 (.slice A' nL c') 9 (foldP b rate L)) ∧ Hid (Below w.heap.size w we) ∧ Hid (we.heap[D]? = some (.deferred (some []))) := by
   intro we hwe;have hz := SZ.out;have q0 := zz03 (g := w.heap.size + 1 + 1) zw (o := 0) (vs := [(.slice Z1 (foldB b rate L).h.length z1 : Value), .slice Z2 (foldB b rate L).s.length z2, .slice Z3 (foldB b rate L).o.length z3, .slice Z4 (foldB b rate L).r.length z4, .int .i64 (foldB b rate L).n]) ho.out;have q1 := zz03 (g := w.heap.size + 1 + 1) zw (o := 0) (vs := [(.slice Z1 (foldB b rate L).h.length z1 : Value), .slice Z2 (foldB b rate L).s.length z2, .slice Z3 (foldB b rate L).o.length z3, .slice Z4 (foldB b rate L).r.length z4, .int .i64 (foldB b rate L).n]) hI.out.last;have q2 : (putC wd (w.heap.size + 1 + 1) 0 [(.slice Z1 (foldB b rate L).h.length z1 : Value), .slice Z2 (foldB b rate L).s.length z2, .slice Z3 (foldB b rate L).o.length z3, .slice Z4 (foldB b rate L).r.length z4, .int .i64 (foldB b rate L).n]).heap[w.heap.size + 1 + 1]? = some (.cells (BF Z1 z1 Z2 z2 Z3 z3 Z4 z4 (foldB b rate L) (foldB b rate L).n) 27 (0, 0)) := zz0u hI.out.res;have q3 := BkOwn.putT (g := w.heap.size + 1 + 1) (t := 27) zx (o := 0) (us := [(.slice Z1 (foldB b rate L).h.length z1 : Value), .slice Z2 (foldB b rate L).s.length z2, .slice Z3 (foldB b rate L).o.length z3, .slice Z4 (foldB b rate L).r.length z4, .int .i64 (foldB b rate L).n]) hI.out.bk hI.out.res;have q4 := RowOwn.putT (g := w.heap.size + 1 + 1) (t := 27) zx (o := 0) (us := [(.slice Z1 (foldB b rate L).h.length z1 : Value), .slice Z2 (foldB b rate L).s.length z2, .slice Z3 (foldB b rate L).o.length z3, .slice Z4 (foldB b rate L).r.length z4, .int .i64 (foldB b rate L).n]) hrw.out hI.out.res;have q5 := zz0x (g := w.heap.size + 1 + 1) zw (o := 0) (vs := [(.slice Z1 (foldB b rate L).h.length z1 : Value), .slice Z2 (foldB b rate L).s.length z2, .slice Z3 (foldB b rate L).o.length z3, .slice Z4 (foldB b rate L).r.length z4, .int .i64 (foldB b rate L).n]) hI.out.below;have q6 := zz03 (g := w.heap.size + 1 + 1) (p := D) zw (o := 0) (vs := [(.slice Z1 (foldB b rate L).h.length z1 : Value), .slice Z2 (foldB b rate L).s.length z2, .slice Z3 (foldB b rate L).o.length z3, .slice Z4 (foldB b rate L).r.length z4, .int .i64 (foldB b rate L).n]) HK.out;rw [hwe] at q0 q1 q2 q3 q4 q5 q6;exact ⟨zH q0, zH q1, zH q2, zH q3, zH q4, zH q5, zH q6⟩
  obtain ⟨we, hwe⟩ : ∃ we : World, putC wd (w.heap.size + 1 + 1) 0 [(.slice Z1 (foldB b rate L).h.length z1 : Value), .slice Z2 (foldB b rate L).s.length z2, .slice Z3 (foldB b rate L).o.length z3, .slice Z4 (foldB b rate L).r.length z4, .int .i64 (foldB b rate L).n] = we := ⟨_, rfl⟩;obtain ⟨e0, e1, e2, e3, e4, e5, e6⟩ := hE we hwe;rw [show ((((wd.setCell ⟨w.heap.size + 1 + 1, 0, none⟩ (.slice Z1 (foldB b rate L).h.length z1)).setCell ⟨w.heap.size + 1 + 1, 1, none⟩ (.slice Z2 (foldB b rate L).s.length z2)).setCell ⟨w.heap.size + 1 + 1, 2, none⟩ (.slice Z3 (foldB b rate L).o.length z3)).setCell ⟨w.heap.size + 1 + 1, 3, none⟩ (.slice Z4 (foldB b rate L).r.length z4)).setCell ⟨w.heap.size + 1 + 1, 4, none⟩ (.int .i64 (foldB b rate L).n) = we from hwe]
  clear hE hwe r0 f0 hI ho hrw HK;refine zQs (fun h => absurd h zx) ?_
  refine zW 4 ?_;go_wp2_with fail;refine zQs (fun _ => ⟨e0, e1⟩) ?_
  refine zQe ?_
  gi_wp2_with (fail)
  have hz := SZ.out;refine ⟨by simp, .inl ⟨_, _, rfl, run_takeDeferred e6.out, ?_⟩⟩
  have fx : ∀ {k : Nat} {cs : Array Value} {t : TypeId} {fr : Nat × Nat} (o' : Obj), we.heap[k]? = some (.cells cs t fr) → (we.putObj D o').heap[k]? = some (.cells cs t fr) := fun {k cs t fr} o' hk => by
   rw [World.putObj_heap_other (fun e => ?_)]
   ·exact hk
   ·subst e
    rw [e6.out] at hk;cases hk
  exact ⟨_, ret_tct rfl _ _ _ _ _ _ rfl (fx _ e2.out) Tryz.underlying27 rfl zk _ _ rfl rfl, _, _, rfl, (e4.out.still (by simp) fun q cs t fr hq _ => fx _ hq).baseTo zw, e3.out.still (by simp) fun q cs t fr hq _ => fx _ hq, e5.out.trans (belowK_b (w := w) (Nat.le_refl _) we D _ _ zw e6.out rfl rfl)⟩
 case stop =>
  rintro D c pre W _ _ h _;exact h.elim
end
section
open Go Go.RowKit Mon
section
variable {P : Program} {ops : Array Oper} {rest : List Oper} {o : Oper} {a : Act} {Q : Exit → Act → World → Prop}
end
theorem zz84 : Elt Tryz.prog 44 29 (.agg #[.int .i64 0, .int .i64 0, .int .i64 0, .int .i64 0, .int .i64 0, .int .i64 0, .int .i64 0]) 7 56 := Elt.mk' Tryz.underlying44 zk rfl zx
theorem bZ_good : bZ.Good := ⟨by decide +kernel, by unfold Bk.I64s bZ; simp, by unfold Bk.Lens bZ; simp⟩
def eZ : Ev := ⟨0, 0, 0, 0, 0, 0, 0⟩
theorem fold_eg : gateV bZ eZ 20 = (1, 0) ∧ (foldB bZ 20 [eZ]).n = 1 := by refine ⟨?_, ?_⟩ <;> decide +kernel
theorem EvsAt.nil (w : World) : EvsAt w (.slice none 0 0) [] := ⟨none, 0, rfl, by simp, .inl rfl⟩
theorem EvsAt.one (w : World) : EvsAt (w.alloc (.cells #[.int .i64 0, .int .i64 0, .int .i64 0, .int .i64 0, .int .i64 0, .int .i64 0, .int .i64 0] 29)) (.slice (some ⟨w.heap.size, 0, none⟩) 1 1) [eZ] := by
 refine ⟨some ⟨w.heap.size, 0, none⟩, 1, rfl, by simp [eZ, Ev.cells], .inr ⟨w.heap.size, 0, rfl, by simp, fun j x hj => ?_⟩⟩
 rw [Nat.zero_add];refine zz00 (zz02 w (.cells #[.int .i64 0, .int .i64 0, .int .i64 0, .int .i64 0, .int .i64 0, .int .i64 0, .int .i64 0] 29)) j _ ?_;have hj : ([0, 0, 0, 0, 0, 0, 0] : List Int)[j]? = some x := hj
 match j with
 | 0 | 1 | 2 | 3 | 4 | 5 | 6 => cases hj; rfl
 | j + 7 => simp at hj
theorem alive18 (w : World) (hT : Hid (Law16 w)) : Calls Tryz.prog 15 #[] w fun e w' => e = .returned (.bool true) ∧ Below w.heap.size w w' := by
 obtain ⟨g1, g2⟩ := fold_eg;have z1 : Hid (0 ≤ (20 : Int) ∧ (20 : Int) ≤ 1000) := (show _ ∧ _ by omega)
 have q1 := zH (fun (wz : World) (hz : Hid (Law16 wz)) => zz4y none none none none none 0 0 0 0 0 bZ [] 20 wz hz (zH (BkAt.zero wz)) (zH (EvsAt.nil wz)) (zH bZ_good) (zH (fun e he => by simp at he)) z1 (zH zx) (zH zx) zx)
 have q1 : Hid (∀ wz : World, Hid (Law16 wz) → Calls Tryz.prog 16 #[.agg BZ, .slice none 0 0, .int .i64 20] wz fun r w' => ∃ vp vb, r = .returned (.tuple #[vp, vb, .int .i64 0]) ∧ RowOwn w' wz.heap.size 98 vp 9 [] ∧ BkOwn w' wz.heap.size vb bZ ∧ Below wz.heap.size wz w') := q1
 have q2 := zH (fun (A : Option Addr) (wz : World) (hz : Hid (Law16 wz)) (hv : Hid (EvsAt wz (.slice A 1 1) [eZ])) => zz4y none none none none A 0 0 0 0 1 bZ [eZ] 20 wz hz (zH (BkAt.zero wz)) hv (zH bZ_good) (zH (fun e he => by simp at he; subst he; exact ⟨zz0k zx, zz0k zx, zz0k zx, zz0k zx, zz0k zx, zz0k zx, zz0k zx⟩)) z1 (zH zx) (zH zx) zx)
 rw [show foldP bZ 20 [eZ] = [[0, 0, 0, 0, 0, 0, 0, 1, 0]] from by unfold foldP foldP pairC; rw [g1]; rfl] at q2
 obtain ⟨nb, hnb⟩ : ∃ nb, foldB bZ 20 [eZ] = nb := ⟨_, rfl⟩;rw [hnb] at q2 g2;have q2 : Hid (∀ (A : Option Addr) (wz : World), Hid (Law16 wz) → Hid (EvsAt wz (.slice A 1 1) [eZ]) → Calls Tryz.prog 16 #[.agg BZ, .slice A 1 1, .int .i64 20] wz fun r w' => ∃ vp vb, r = .returned (.tuple #[vp, vb, .int .i64 0]) ∧ RowOwn w' wz.heap.size 98 vp 9 [[0, 0, 0, 0, 0, 0, 0, 1, 0]] ∧ BkOwn w' wz.heap.size vb nb ∧ Below wz.heap.size wz w') := q2
 clear hnb g1;go_in;go_wp2_with fail;(with_reducible refine (q1.out _ hT).mono ?_);rintro r w1 ⟨vp, vb, rfl, hp, hbk, hb⟩;obtain ⟨A1, c1, rfl⟩ := hp.form;obtain ⟨U1, u1, U2, u2, U3, u3, U4, u4, rfl⟩ := hbk.at.forms;have HB := zH hb;clear hp hbk hb q1;have hl0 : ([] : List (List Int)).length = 0 := rfl;go_wp2_with fail;obtain ⟨wa, hwa⟩ : ∃ wa : World, w1.alloc (.cells (BF U1 u1 U2 u2 U3 u3 U4 u4 bZ bZ.n) 27) = wa := ⟨_, rfl⟩;have hza : wa.heap.size = w1.heap.size + 1 := by rw [← hwa]; simp
 have ha := zM0 hwa;have K1 : ZB wa w1.heap.size (BF U1 u1 U2 u2 U3 u3 U4 u4 bZ bZ.n) 27 := by rw [← hwa]; exact zz02 _ _
 have hev := EvsAt.one wa;rw [hza] at hev;rw [hwa];have hbb : Below wa.heap.size wa (wa.alloc (.cells #[.int .i64 0, .int .i64 0, .int .i64 0, .int .i64 0, .int .i64 0, .int .i64 0, .int .i64 0] 29)) := zBa;generalize wa.alloc (.cells #[.int .i64 0, .int .i64 0, .int .i64 0, .int .i64 0, .int .i64 0, .int .i64 0, .int .i64 0] 29) = wb at *;replace K1 := zK K1 hbb;replace HB := zH ((HB.out.trans (ha.mono HB.out.size)).trans (hbb.mono (Nat.le_trans HB.out.size ha.size)));clear ha hbb hwa hza;(with_reducible refine (q2.out _ _ (zH (hT.out.call HB.out)) (zH hev)).mono ?_);rintro r w2 ⟨vp, vb, rfl, hp, hbk, hb⟩;obtain ⟨A', c', hA, hi⟩ := hp.row.rec';obtain ⟨_, bb, o, hAA, hlt, hc⟩ := hi 0 _ rfl;have c7 : w2.cell? ⟨bb, o + 7, none⟩ = some (.int .i64 1) := by simpa using hc 7 _ rfl
 subst hA;subst hAA;obtain ⟨Y1, d1, Y2, d2, Y3, d3, Y4, d4, hvb⟩ := hbk.at.forms;rw [g2] at hvb;subst hvb;have K2 := zK K1 hb;have HB2 := zB HB hb;clear hp hi hc hbk hb hev K1 HB q2;have b4 : w2.cell? ⟨w1.heap.size, 4, none⟩ = some (.int .i64 0) := zz00 K2.out 4 _ rfl;have lt1 := zL K2.out;have hl1 : ([[0, 0, 0, 0, 0, 0, 0, 1, 0]] : List (List Int)).length = 1 := rfl;go_wp2_with fail;go_ret;exact ⟨rfl, zz01 HB2.out HB2.out.size _⟩
end
section
open Go Go.Lib Go.ChangeShapes Go.WideShapes Go.Deep Go.ChangeAt Go.RowKit

end
section
open Go Go.RowKit Go.Shelf
def prC (p : Ev × Int × Int) : List Int := pairC p.1 p.2
def PrsAt (w : World) (v : Value) (L : List (Ev × Int × Int)) : Prop := RowAt w v 9 (L.map prC)
theorem PrsAt.call {w w' : World} {v : Value} {L : List (Ev × Int × Int)} (h : PrsAt w v L) (hb : Below w.heap.size w w') : PrsAt w' v L := RowAt.call h hb
theorem PrsAt.get {w : World} {A : Option Addr} {n c : Nat} {L : List (Ev × Int × Int)} (h : PrsAt w (.slice A n c) L) {i : Nat} {e : Ev} {x y : Int} (hi : L[i]? = some (e, x, y)) : ∃ b o, A = some ⟨b, o, none⟩ ∧ b < w.heap.size ∧
  w.cell? ⟨b, o + i * 9, none⟩ = some (.int .i64 e.kind) ∧ w.cell? ⟨b, o + i * 9 + 1, none⟩ = some (.int .i64 e.acc) ∧ w.cell? ⟨b, o + i * 9 + 2, none⟩ = some (.int .i64 e.ord) ∧ w.cell? ⟨b, o + i * 9 + 3, none⟩ = some (.int .i64 e.sym) ∧ w.cell? ⟨b, o + i * 9 + 4, none⟩ = some (.int .i64 e.side) ∧ w.cell? ⟨b, o + i * 9 + 5, none⟩ = some (.int .i64 e.qty) ∧ w.cell? ⟨b, o + i * 9 + 6, none⟩ = some (.int .i64 e.px) ∧ w.cell? ⟨b, o + i * 9 + 7, none⟩ = some (.int .i64 x) ∧ w.cell? ⟨b, o + i * 9 + 8, none⟩ = some (.int .i64 y) := by
 obtain ⟨A', c', hA, hi'⟩ := RowAt.rec' h;injection hA with hA1 _ _
 subst hA1;obtain ⟨_, b, o, hA2, hb, hc⟩ := hi' i (prC (e, x, y)) (by rw [List.getElem?_map, hi]; rfl)
 exact ⟨b, o, hA2, hb, hc 0 _ rfl, hc 1 _ rfl, hc 2 _ rfl, hc 3 _ rfl, hc 4 _ rfl, hc 5 _ rfl, hc 6 _ rfl, hc 7 _ rfl, hc 8 _ rfl⟩
def evsC (L : List (Ev × Int × Int)) : List (List Int) := (L.map (·.1)).map Ev.cells
theorem zt74 {p : Prop} (h : p := by
 obtain rfl : i = L.length := by have := hi.out; omega
 have tn : decide ((L.length : Int) < (L.length : Int)) = false := decide_eq_false zw;go_wp2_with fail;go_ret;exact ⟨_, rfl, by have := HO.out; rw [List.take_length] at this; exact this, HB.out⟩) : p := h
theorem zz5c (A : Option Addr) (c : Nat) (L : List (Ev × Int × Int)) (w : World) (h : Hid (PrsAt w (.slice A L.length c) L)) (hl : L.length ≤ 100000) :
  Calls Tryz.prog 23 #[.slice A L.length c] w fun r w' => ∃ v, r = .returned v ∧ RowOwn w' w.heap.size 29 v 7 (evsC L) ∧ Below w.heap.size w w' := by
 go_in;go_wp2_with fail;go_loopw [3, 4] (fun s3 s4 wr => ∃ (i : Nat), s4 = .int .i64 i ∧ Hid (i ≤ L.length) ∧ Hid (RowOwn wr w.heap.size 29 s3 7 (evsC (L.take i))) ∧ Hid (Below w.heap.size w wr)) (fun _ s4 _ => L.length - (intOf s4).toNat)
 case atStart => exact ⟨0, rfl, Nat.zero_le _, ⟨World.ownsRow_nil _ _ _ _, fun r hr => by simp [evsC] at hr⟩, Below.refl _ _⟩
 case round =>
  obtain ⟨i, rfl, hi, HO, HB⟩ := hrel;by_cases hin : i < L.length
  ·have tn : decide ((i : Int) < (L.length : Int)) = true := decide_eq_true zw
   obtain ⟨⟨e, x, y⟩, he⟩ : ∃ p, L[i]? = some p := ⟨_, List.getElem?_eq_getElem hin⟩;have HT : Hid (evsC (L.take (i + 1)) = evsC (L.take i) ++ [e.cells]) := (show _ = _ from by unfold evsC; rw [zz5m he]; simp)
   have HN : (evsC (L.take i)).length + 1 ≤ 4000000 := by unfold evsC; simp; omega
   obtain ⟨b, o, rfl, hbl, c0, c1, c2, c3, c4, c5, c6, _, _⟩ := (h.out.call HB.out).get he;have HS : w.heap.size ≤ wr.heap.size := HB.out.size;clear he;go_wp2_with (at_builtin; refine zz17 _ _ 44 29 (.agg #[.int .i64 0, .int .i64 0, .int .i64 0, .int .i64 0, .int .i64 0, .int .i64 0, .int .i64 0]) 7 56 zz84 [e.kind, e.acc, e.ord, e.sym, e.side, e.qty, e.px] _ (evsC (L.take i)) HO HS rfl rfl rfl rfl rfl HN zx ?_);intro v' w' hO' hg';obtain ⟨_, hb', _⟩ := zz4p HO.out HS hg'.out;have HB' := zH (HB.out.trans hb');have HO2 : Hid (RowOwn w' w.heap.size 29 v' 7 (evsC (L.take (i + 1)))) := (show RowOwn _ _ _ _ _ _ by rw [HT.out]; exact hO'.out)
   clear hO' hg' hb' c0 c1 c2 c3 c4 c5 c6 hbl HN HT HO HB HS;go_wp2_with fail;go_roundw
   case rel => exact ⟨i + 1, by go_num, hin, HO2.out, HB'.out⟩
   case measure => simp [intOf]; omega
  ·exact zt74
theorem zzcc (A : Option Addr) (c : Nat) (L : List (Ev × Int × Int)) (w : World) (h : Hid (PrsAt w (.slice A L.length c) L)) (hl : L.length ≤ 100000) :
  Calls Tryz.prog 21 #[.slice A L.length c] w fun r w' => ∃ v, r = .returned v ∧ RowOwn w' w.heap.size 29 v 7 (evsC L) ∧ Below w.heap.size w w' := by
 go_in;go_wp2_with fail;go_loopw [3, 8] (fun s3 s4 wr => ∃ (i : Nat), s4 = .int .i64 i ∧ Hid (i ≤ L.length) ∧ Hid (RowOwn wr w.heap.size 29 s3 7 (evsC (L.take i))) ∧ Hid (Below w.heap.size w wr)) (fun _ s4 _ => L.length - (intOf s4).toNat)
 case atStart => exact ⟨0, rfl, Nat.zero_le _, ⟨World.ownsRow_nil _ _ _ _, fun r hr => by simp [evsC] at hr⟩, Below.refl _ _⟩
 case round =>
  obtain ⟨i, rfl, hi, HO, HB⟩ := hrel;by_cases hin : i < L.length
  ·have tn : decide ((i : Int) < (L.length : Int)) = true := decide_eq_true zw
   obtain ⟨⟨e, x, y⟩, he⟩ : ∃ p, L[i]? = some p := ⟨_, List.getElem?_eq_getElem hin⟩;have HT : Hid (evsC (L.take (i + 1)) = evsC (L.take i) ++ [e.cells]) := (show _ = _ from by unfold evsC; rw [zz5m he]; simp)
   have HN : (evsC (L.take i)).length + 1 ≤ 4000000 := by unfold evsC; simp; omega
   obtain ⟨b, o, rfl, hbl, c0, c1, c2, c3, c4, c5, c6, c7, c8⟩ := (h.out.call HB.out).get he;obtain ⟨wa, hwa⟩ : ∃ wa, wr.alloc (.cells #[e.kind, e.acc, e.ord, e.sym, e.side, e.qty, e.px, x, y] 98) = wa := ⟨_, rfl⟩;have hba : Below wr.heap.size wr wa := hwa ▸ zBa;have K : ZB wa wr.heap.size #[e.kind, e.acc, e.ord, e.sym, e.side, e.qty, e.px, x, y] 98 := hwa ▸ zz02 _ _;have HOa : Hid (RowOwn wa w.heap.size 29 _ 7 (evsC (L.take i))) := HO.out.kept hba;have HBa := zB HB hba;have HS : w.heap.size ≤ wa.heap.size := HBa.out.size;clear he hba HO;have k0 := zC K.out;go_wp2_with (at_builtin; refine zz17 _ _ 44 29 (.agg #[.int .i64 0, .int .i64 0, .int .i64 0, .int .i64 0, .int .i64 0, .int .i64 0, .int .i64 0]) 7 56 zz84 [e.kind, e.acc, e.ord, e.sym, e.side, e.qty, e.px] _ (evsC (L.take i)) HOa HS rfl rfl rfl rfl rfl HN zx ?_);intro v' w' hO' hg';obtain ⟨_, hb', _⟩ := zz4p HOa.out HS hg'.out;have HB' := zH (HBa.out.trans hb');have HO2 : Hid (RowOwn w' w.heap.size 29 v' 7 (evsC (L.take (i + 1)))) := (show RowOwn _ _ _ _ _ _ by rw [HT.out]; exact hO'.out)
   clear hO' hg' hb' c0 c1 c2 c3 c4 c5 c6 c7 c8 k0 K hbl HN HT HOa HBa HB HS;go_wp2_with fail;go_roundw
   case rel => exact ⟨i + 1, by go_num, hin, HO2.out, HB'.out⟩
   case measure => simp [intOf]; omega
  ·exact zt74
end
section
open Go Go.Lib Go.ChangeShapes Go.WideShapes Go.Deep Go.ChangeAt Go.RowKit
section
variable {H : Type} {enc : TypeId × Value → H} {P : Program} {w : World}
theorem zzb4 {t e : TypeId} (n0 k : Nat) (ht : P.underlying t = some (.slice e)) (hC : P.cellsOf e = k) (hpos : 0 < k)
  (hI : ∀ i, i < k → ∃ u, (i, u) ∈ leavesOf P n0 e ∧ P.underlying u = some (.int .i64)) {m : Nat} {c : Value} {y : DataW H × List MemPlace} (hf : DataW.trod enc P w 0 (fun _ => true) true m t [c] = some y) :
  ∃ l : List (List Int), RowAt w c k l ∧ l.length ≤ maxLen ∧ ∀ r ∈ l, ∀ x ∈ r, I64 x := by
 rcases open_slice ht hf with ⟨hcs, _⟩ | ⟨a, len, cap, m', n, D, Pl, hcs, hb, hl, hm, hmm, _, hi⟩
 ·have hcs := List.cons.inj hcs |>.1
  subst hcs;exact ⟨[], ⟨none, 0, rfl, fun r hr => by simp at hr, .inl rfl⟩, Nat.zero_le _, fun r hr => by simp at hr⟩
 ·have hcs := List.cons.inj hcs |>.1
  subst hcs;simp only [if_true] at hmm;subst hmm;have hA : ∀ ij : Nat × Nat, ∃ x : Int, ij.1 < len → ij.2 < k → ((∃ b o, a = ⟨b, o, none⟩ ∧ b < w.heap.size ∧ w.cell? ⟨b, o + ij.1 * k + ij.2, none⟩ = some (.int .i64 x)) ∧ I64 x) := by
   rintro ⟨i, j⟩;by_cases hin : i < len
   ·by_cases hjn : j < k
    ·obtain ⟨cs', hc, ht'⟩ := hi i zw
     rw [hC] at hc;obtain ⟨_, hcl, hat⟩ := World.cells?_some hc;obtain ⟨u, hm, hu⟩ := hI j hjn;obtain ⟨c, m9, y9, hcj, hy9⟩ := trod_leaf n0 _ _ _ _ ht' j u hm;obtain ⟨x, hx, hwf⟩ := leaf_int hu hy9;have hcell := hat j hjn;rw [hcj, hx] at hcell;have hsp0 : a.spot = none := by
      obtain ⟨cs0, hc0, _⟩ := hi 0 zw;rw [hC] at hc0;obtain ⟨_, hcl0, hat0⟩ := World.cells?_some hc0;have h2 := hat0 0 hpos;rw [Nat.zero_mul] at h2;have e0 : (a.add 0).add 0 = a := by simp [Addr.add]
      rw [e0, List.getElem?_eq_getElem zw] at h2;exact spot_none h2
     have h0 := addr_none hsp0;generalize a.block = b at h0;generalize a.off = o at h0;subst h0;rw [add_at, add_at] at hcell;exact ⟨x, fun _ _ => ⟨⟨b, o, rfl, World.block_lt_of_cell? w _ hcell, hcell⟩, (wf_i64 hwf).out⟩⟩
    ·exact ⟨0, fun _ h => absurd h hjn⟩
   ·exact ⟨0, fun h => absurd h hin⟩
  obtain ⟨g, hg⟩ := Classical.axiomOfChoice hA;have hk : ∀ r ∈ (List.range len).map (fun i => (List.range k).map fun j => g (i, j)), r.length = k := fun r hr => by
   obtain ⟨i, _, rfl⟩ := List.mem_map.1 hr;simp
  have hlen : ((List.range len).map (fun i => (List.range k).map fun j => g (i, j))).length = len := by simp
  refine ⟨(List.range len).map (fun i => (List.range k).map fun j => g (i, j)), ⟨some a, m', by rw [hlen], hk, ?_⟩, by rw [hlen]; omega, fun r hr x hx => ?_⟩
  ·by_cases h0 : len = 0
   ·subst h0; exact .inl rfl
   ·obtain ⟨⟨b, o, rfl, hbl, _⟩, _⟩ := hg (0, 0) (by show 0 < len; omega) hpos
    refine .inr ⟨b, o, rfl, hbl, fun j x hj => ?_⟩
    have hjl := (List.getElem?_eq_some_iff.1 hj).1;rw [zz80 hk, hlen] at hjl;have hd : j / k < len := (Nat.div_lt_iff_lt_mul hpos).2 hjl;have hmd : j % k < k := Nat.mod_lt _ hpos;have h1 := zz81 (l := (List.range len).map (fun i => (List.range k).map fun j => g (i, j))) (i := j / k) (j := j % k) hk (by rw [List.getElem?_map, List.getElem?_range hd]; rfl) (x := g (j / k, j % k)) (by rw [List.getElem?_map, List.getElem?_range hmd]; rfl)
    have hj' : j / k * k + j % k = j := by rw [Nat.mul_comm]; exact Nat.div_add_mod j k
    rw [hj', hj] at h1;injection h1 with h1
    obtain ⟨⟨b', o', he', _, hcell⟩, _⟩ := hg (j / k, j % k) hd hmd;injection he' with hb' ho'
    subst hb' ho' h1;simp only at hcell;rw [Nat.add_assoc, hj'] at hcell;exact hcell
  ·obtain ⟨i, hi', rfl⟩ := List.mem_map.1 hr
   obtain ⟨j, hj', rfl⟩ := List.mem_map.1 hx;exact (hg (i, j) (by simpa using hi') (by simpa using hj')).2
end
def prOf : List Int → Ev × Int × Int
 | [a, b, c, d, e, f, g, x, y] => (⟨a, b, c, d, e, f, g⟩, x, y)
 | _ => (eZ, 0, 0)
theorem zzb2 {r : List Int} (h : r.length = 9) : prC (prOf r) = r := by
 match r, h with
 | [a, b, c, d, e, f, g, x, y], _ => rfl
theorem prOf_i64s {r : List Int} (h : r.length = 9) (hi : ∀ x ∈ r, I64 x) : (prOf r).1.I64s := by
 match r, h with
 | [a, b, c, d, e, f, g, x, y], _ => exact ⟨hi a (by simp), hi b (by simp), hi c (by simp), hi d (by simp), hi e (by simp), hi f (by simp), hi g (by simp)⟩
theorem open_prs {H : Type} {enc : TypeId × Value → H} {W : World} {r : Reach} {b0 : Nat} {v : Value} {d : DataW H} {ps : List MemPlace} (hv : Value.okWide Tryz.prog W r b0 45 v) (h : DataW.Trod enc Tryz.prog W 0 (fun _ => true) true 45 v d ps) :
  ∃ (A : Option Addr) (c : Nat) (L : List (Ev × Int × Int)), v = .slice A L.length c ∧ PrsAt W v L ∧ (∀ e ∈ L.map (·.1), e.I64s) ∧ (L = [] ∨ ∃ es sp, d = .slice es sp ∧ es.length = L.length) := by
 obtain ⟨a0, len, cap, rfl⟩ := okWide_slice Tryz.underlying45 hv;obtain ⟨fuel, hf⟩ := h;have hf : DataW.trod enc Tryz.prog W 0 (fun _ => true) true fuel 45 [.slice a0 len cap] = some (d, ps) := hf
 obtain ⟨l, hat, _, hi⟩ := zzb4 3 9 Tryz.underlying45 zk zx (zza4 zk) hf;obtain ⟨A', c', hA, h7, hc⟩ := hat;injection hA with hA hn hcc
 subst hA hn hcc;have hl : (l.map prOf).map prC = l := by
  rw [List.map_map]
  conv => rhs; rw [← List.map_id l]
  exact List.map_congr_left fun r hr => zzb2 (h7 r hr)
 refine ⟨a0, cap, l.map prOf, by rw [List.length_map], ?_, ?_, ?_⟩
 ·show RowAt W _ 9 ((l.map prOf).map prC)
  rw [hl];exact ⟨a0, cap, rfl, h7, hc⟩
 ·intro e he
  rw [List.map_map] at he;obtain ⟨r, hr, rfl⟩ := List.mem_map.1 he;exact prOf_i64s (h7 r hr) (hi r hr)
 ·rcases open_slice Tryz.underlying45 hf with ⟨hcs, _⟩ | ⟨a, len', cap', m, n, D, Pl, hcs, _, _, _, _, hx, _⟩
  ·left
   have := List.cons.inj hcs |>.1
   injection this with _ h0 _
   rw [List.map_eq_nil_iff];exact List.eq_nil_of_length_eq_zero h0
  ·right
   have := List.cons.inj hcs |>.1
   injection this with _ h0 _
   have hx := congrArg Prod.fst hx;refine ⟨_, _, hx, ?_⟩;rw [List.length_map, List.length_map, List.length_range, h0]
theorem prs_len {H : Type} {ts : List TypeId} {ds : List (DataW H)} (h : (DataW.weightsEach Tryz.prog ts ds).all (· ≤ reachBytes) = true) {j : Nat} {d : DataW H} {L : List (Ev × Int × Int)} (ht : ts[j]? = some 45) (hd : ds[j]? = some d) (hl : L = [] ∨ ∃ es sp, d = .slice es sp ∧ es.length = L.length) : L.length ≤ 4611686018427387903 := by
 rcases hl with rfl | ⟨es, sp, rfl, hl⟩
 ·simp
 ·have h1 := sized_slice h ht hd Tryz.underlying45
  rw [show Tryz.prog.bytesOf 98 = 72 by kernel_rfl] at h1
  unfold reachBytes at h1;omega
end
section
open Go Go.RowKit Go.Shelf
def chkP (b : Bk) (rate : Int) : List (Ev × Int × Int) → Nat
 | [] => 0
 | p :: l => if p.2 = gateV b p.1 rate then chkP (gateB b p.1 rate) rate l + 1 else 0
def foldQ (b : Bk) (rate : Int) : List Ev → List (Ev × Int × Int)
 | [] => []
 | e :: l => (e, gateV b e rate) :: foldQ (gateB b e rate) rate l
theorem zz5g (rate : Int) : ∀ (l : List Ev) (b : Bk), (foldQ b rate l).map prC = foldP b rate l
 | [], _ => rfl
 | e :: l, b => by rw [foldQ, List.map_cons, zz5g rate l, foldP]; rfl
theorem zz75 (rate : Int) : ∀ (l : List Ev) (b : Bk), chkP b rate (foldQ b rate l) = l.length
 | [], _ => rfl
 | e :: l, b => by rw [foldQ, chkP, if_pos rfl, zz75 rate l, List.length_cons]
def okP (b : Bk) (rate : Int) (L : List (Ev × Int × Int)) (i : Nat) : Prop := ∀ e v, L[i]? = some (e, v) → v = gateV (foldB b rate ((L.map (·.1)).take i)) e rate
theorem zz76 (rate : Int) : ∀ (L : List (Ev × Int × Int)) (b : Bk) (k : Nat), k ≤ L.length → (∀ i, i < k → okP b rate L i) → (k < L.length → ¬ okP b rate L k) → chkP b rate L = k
 | [], _, k, hk, _, _ => by simp at hk; subst hk; rfl
 | (e, v) :: l, b, 0, _, _, h2 => by
  rw [chkP, if_neg (fun h => h2 (by simp) (fun e' v' he => by simp at he; obtain ⟨rfl, rfl⟩ := he; exact h))]
 | (e, v) :: l, b, k + 1, hk, h1, h2 => by
  rw [chkP, if_pos (show (e, v).2 = gateV b (e, v).1 rate from h1 0 zw e v rfl), zz76 rate l (gateB b e rate) k (by simpa using hk) (fun i hi e' v' he => ?_) (fun hk' ho => h2 (by simp; omega) (fun e' v' he => ?_))]
  ·exact h1 (i + 1) zw e' v' (by simpa using he)
  ·exact ho e' v' (by simpa using he)
theorem okP_row {b : Bk} {rate : Int} {L : List (Ev × Int × Int)} {i : Nat} {e : Ev} {x y : Int} (h : L[i]? = some (e, x, y)) : okP b rate L i ↔ (x = (gateV (foldB b rate ((L.map (·.1)).take i)) e rate).1 ∧ y = (gateV (foldB b rate ((L.map (·.1)).take i)) e rate).2) := by
 refine ⟨fun ho => ?_, fun ⟨h1, h2⟩ e' v' he => ?_⟩
 ·have := ho e (x, y) h
  rw [← this];exact ⟨rfl, rfl⟩
 ·rw [h] at he
  injection he with he
  injection he with he1 he2
  subst he1 he2;rw [h1, h2]
end
section
open Go Go.RowKit Mon
def FarR (w : World) (S : Nat → Prop) (x y : Value) (k : Nat) (l : List (List Int)) : Prop := RowAt w y k l ∧ (l = [] ∨ y = x ∨ ∀ q, y.ownBlock = some q → ¬ S q)
theorem FarR.call {w w' : World} {S : Nat → Prop} {x y : Value} {k : Nat} {l : List (List Int)} (h : FarR w S x y k l) (hb : Below w.heap.size w w') : FarR w' S x y k l := ⟨h.1.call hb, h.2⟩
theorem FarR.to {w : World} {S T : Nat → Prop} {x y : Value} {k : Nat} {l : List (List Int)} (h : FarR w S x y k l) (hT : ∀ q, T q → S q ∨ w.heap.size ≤ q) : FarR w T x y k l := by
 obtain ⟨hr, hs⟩ := h;refine ⟨hr, ?_⟩;obtain ⟨A, c, rfl, _, hl⟩ := hr;rcases hl with hl | ⟨b, o, rfl, hb, _⟩
 ·exact .inl hl
 ·rcases hs with hs | hs | hs
  ·exact .inl hs
  ·exact .inr (.inl hs)
  ·refine .inr (.inr fun q hq hTq => ?_)
   rcases hT q hTq with h | h
   ·exact hs q hq h
   ·have : b = q := by simpa [Value.ownBlock] using hq
    omega
theorem FarR.chg {a w w' : World} {S : Nat → Prop} {x y : Value} {k : Nat} {l l0 : List (List Int)} (h : FarR w S x y k l) (hx : RowAt a x k l0) (hS : ∀ q, S q → a.heap.size ≤ q) (hsz : w.heap.size ≤ w'.heap.size) (hk : ∀ j, j < w.heap.size → ¬ S j → w'.heap[j]? = w.heap[j]?) : FarR w' S x y k l := by
 obtain ⟨hr, hs⟩ := h;refine ⟨?_, hs⟩;obtain ⟨A, c, rfl, hlen, hl⟩ := hr;refine ⟨A, c, rfl, hlen, ?_⟩;rcases hl with hl | ⟨b, o, rfl, hb, hc⟩
 ·exact .inl hl
 by_cases hz : l = []
 ·exact .inl hz
 refine .inr ⟨b, o, rfl, Nat.lt_of_lt_of_le hb hsz, fun j u hj => ?_⟩
 have hn : ¬ S b := by
  rcases hs with hs | hs | hs
  ·exact absurd hs hz
  ·obtain ⟨A0, c0, e0, _, h0⟩ := hx
   rw [← hs] at e0;injection e0 with e1 e2 _
   rcases h0 with h0 | ⟨b2, o2, e3, hb2, _⟩
   ·subst h0
    exact absurd (List.eq_nil_of_length_eq_zero (by simpa using e2)) hz
   ·rw [← e1] at e3
    injection e3 with e3
    injection e3 with e3
    intro hSb;have := hS b hSb;omega
  ·exact hs b rfl
 have : w'.cell? ⟨b, o + j, none⟩ = w.cell? ⟨b, o + j, none⟩ := by
  unfold World.cell?;simp [hk b hb hn]
 rw [this];exact hc j u hj
theorem FarR.step2 {w wc w' : World} {S T : Nat → Prop} {x y y' : Value} {k lo hi : Nat} {l l' : List (List Int)} (h : FarR w S x y k l) (hk : Kin1 lo y y') (hc : RowAt wc y' k l') (hi' : wc.heap.size = hi) (hr : RowAt w' y' k l') (hT : ∀ q, T q → (S q ∧ q < lo) ∨ (w.heap.size ≤ q ∧ (q < lo ∨ hi ≤ q))) : FarR w' T x y' k l' := by
 refine ⟨hr, ?_⟩;obtain ⟨A', c', e', _, hl'⟩ := hc;rcases hl' with hl' | ⟨b, o, rfl, hb, _⟩
 ·exact .inl hl'
 subst e';by_cases hz : l' = []
 ·exact .inl hz
 rcases hk with rfl | hk
 ·have hw := h.1
  rcases h.2 with hs | hs | hs
  ·left
   obtain ⟨A, c, e, _, _⟩ := hw;injection e with _ e _
   exact List.eq_nil_of_length_eq_zero (by rw [e, hs]; rfl)
  ·exact .inr (.inl hs)
  ·refine .inr (.inr fun q hq hTq => ?_)
   rcases hT q hTq with h1 | h1
   ·exact hs q hq h1.1
   ·obtain ⟨A, c, e, _, hl⟩ := hw
    injection e with e1 e2 _
    have hqb : b = q := by simpa [Value.ownBlock] using hq
    rcases hl with hl | ⟨b2, o2, h2, hb2, _⟩
    ·subst hl
     exact absurd (List.eq_nil_of_length_eq_zero (by simpa using e2)) hz
    ·rw [← e1] at h2
     injection h2 with h2
     injection h2 with h2
     omega
 ·refine .inr (.inr fun q hq hTq => ?_)
  have hqb : b = q := by simpa [Value.ownBlock] using hq
  have := hk q hq;rcases hT q hTq with h1 | h1 <;> omega
def BkF (w : World) (S : Nat → Prop) (u0 u : Value) (b : Bk) : Prop :=
 ∃ x1 x2 x3 x4 n y1 y2 y3 y4, u0 = .agg #[x1, x2, x3, x4, n] ∧ u = .agg #[y1, y2, y3, y4, b.n] ∧ FarR w S x1 y1 4 b.h ∧ FarR w S x2 y2 3 b.s ∧ FarR w S x3 y3 6 b.o ∧ FarR w S x4 y4 2 b.r
theorem BkF.of {w : World} {S : Nat → Prop} {u0 : Value} {b : Bk} (h : BkAt w u0 b) : BkF w S u0 u0 b := by
 obtain ⟨y1, y2, y3, y4, rfl, h1, h2, h3, h4⟩ := h;exact ⟨_, _, _, _, _, _, _, _, _, rfl, rfl, ⟨h1, .inr (.inl rfl)⟩, ⟨h2, .inr (.inl rfl)⟩, ⟨h3, .inr (.inl rfl)⟩, ⟨h4, .inr (.inl rfl)⟩⟩
theorem BkF.at {w : World} {S : Nat → Prop} {u0 u : Value} {b : Bk} (h : BkF w S u0 u b) : BkAt w u b := by
 obtain ⟨_, _, _, _, _, _, _, _, _, _, rfl, h1, h2, h3, h4⟩ := h;exact ⟨_, _, _, _, rfl, h1.1, h2.1, h3.1, h4.1⟩
theorem BkF.call {w w' : World} {S : Nat → Prop} {u0 u : Value} {b : Bk} (h : BkF w S u0 u b) (hb : Below w.heap.size w w') : BkF w' S u0 u b := by
 obtain ⟨_, _, _, _, _, _, _, _, _, e, rfl, h1, h2, h3, h4⟩ := h;exact ⟨_, _, _, _, _, _, _, _, _, e, rfl, h1.call hb, h2.call hb, h3.call hb, h4.call hb⟩
theorem BkF.to {w : World} {S T : Nat → Prop} {u0 u : Value} {b : Bk} (h : BkF w S u0 u b) (hT : ∀ q, T q → S q ∨ w.heap.size ≤ q) : BkF w T u0 u b := by
 obtain ⟨_, _, _, _, _, _, _, _, _, e, rfl, h1, h2, h3, h4⟩ := h;exact ⟨_, _, _, _, _, _, _, _, _, e, rfl, h1.to hT, h2.to hT, h3.to hT, h4.to hT⟩
theorem BkF.chg {a w w' : World} {S : Nat → Prop} {u0 u : Value} {b b0 : Bk} (h : BkF w S u0 u b) (hx : BkAt a u0 b0) (hS : ∀ q, S q → a.heap.size ≤ q) (hsz : w.heap.size ≤ w'.heap.size) (hk : ∀ j, j < w.heap.size → ¬ S j → w'.heap[j]? = w.heap[j]?) : BkF w' S u0 u b := by
 obtain ⟨_, _, _, _, _, _, _, _, _, rfl, rfl, h1, h2, h3, h4⟩ := h;obtain ⟨_, _, _, _, e, j1, j2, j3, j4⟩ := hx;injection e with e
 simp only [Array.mk.injEq, List.cons.injEq, and_true] at e;obtain ⟨rfl, rfl, rfl, rfl, _⟩ := e;exact ⟨_, _, _, _, _, _, _, _, _, rfl, rfl, h1.chg j1 hS hsz hk, h2.chg j2 hS hsz hk, h3.chg j3 hS hsz hk, h4.chg j4 hS hsz hk⟩
theorem BkF.step2 {w wc w' : World} {S T : Nat → Prop} {u0 u u' : Value} {b b' : Bk} {lo hi : Nat} (h : BkF w S u0 u b) (hk : Kin lo u u') (hc : BkAt wc u' b') (hi' : wc.heap.size = hi) (hr : BkAt w' u' b') (hT : ∀ q, T q → (S q ∧ q < lo) ∨ (w.heap.size ≤ q ∧ (q < lo ∨ hi ≤ q))) : BkF w' T u0 u' b' := by
 obtain ⟨_, _, _, _, _, _, _, _, _, e0, rfl, h1, h2, h3, h4⟩ := h;obtain ⟨_, _, _, _, _, _, _, _, _, _, e, rfl, k1, k2, k3, k4⟩ := hk;injection e with e
 simp only [Array.mk.injEq, List.cons.injEq, and_true] at e;obtain ⟨rfl, rfl, rfl, rfl, rfl⟩ := e;obtain ⟨_, _, _, _, e, j1, j2, j3, j4⟩ := hr;injection e with e
 simp only [Array.mk.injEq, List.cons.injEq, and_true] at e;obtain ⟨rfl, rfl, rfl, rfl, rfl⟩ := e;obtain ⟨_, _, _, _, e, i1, i2, i3, i4⟩ := hc;injection e with e
 simp only [Array.mk.injEq, List.cons.injEq, and_true] at e;obtain ⟨rfl, rfl, rfl, rfl, _⟩ := e;exact ⟨_, _, _, _, _, _, _, _, _, e0, rfl, h1.step2 k1 i1 hi' j1 hT, h2.step2 k2 i2 hi' j2 hT, h3.step2 k3 i3 hi' j3 hT, h4.step2 k4 i4 hi' j4 hT⟩
def flatU (us : List Value) : List Value := us.flatMap fun u => u.cells.toList
theorem zz82 (us vs : List Value) : flatU (us ++ vs) = flatU us ++ flatU vs := by simp [flatU]
theorem zz90 : ∀ {us : List Value} {i j : Nat} {a0 a1 a2 a3 a4 x : Value}, (∀ u ∈ us, u.cells.size = 5) → us[i]? = some (.agg #[a0, a1, a2, a3, a4]) → ([a0, a1, a2, a3, a4] : List Value)[j]? = some x → (flatU us)[i * 5 + j]? = some x
 | [], i, j, _, _, _, _, _, x, _, hi, _ => by simp at hi
 | a :: t, 0, j, _, _, _, _, _, x, _, hi, hj => by
  obtain rfl := (show a = _ by simpa using hi)
  rw [flatU, List.flatMap_cons, Nat.zero_mul, Nat.zero_add];show ([_, _, _, _, _] ++ _)[j]? = _;rw [List.getElem?_append_left (List.getElem?_eq_some_iff.1 hj).1];exact hj
 | a :: t, i + 1, j, _, _, _, _, _, x, hl, hi, hj => by
  have ha := hl a (.head _);rw [flatU, List.flatMap_cons, List.getElem?_append_right (by simp; omega), show (i + 1) * 5 + j - a.cells.toList.length = i * 5 + j by simp; omega]
  exact zz90 (fun u hu => hl u (.tail _ hu)) (by simpa using hi) hj
section
variable {P : Program} {ops : Array Oper} {rest : List Oper} {o : Oper} {a : Act} {Q : Exit → Act → World → Prop}
theorem zz1s {wr : World} {B : Nat} (s x : Operand) (t e : TypeId) (z : Value) (k bytes : Nat) (he : Elt P t e z k bytes) (cs : List Value) (v : Value) (n : Nat) (xs : List Value)
  (hown : Hid (wr.ownsRow B e k v n xs)) (hB : B ≤ wr.heap.size) (hgd : o.guard = none) (ho : o.op = .call { callee := .builtin .append, args := #[s, x], argTypes := #[t, t] })
  (hs : a.eval s = v) (hx : a.eval x = .slice (some ⟨wr.heap.size, 0, none⟩) 1 1) (hcs : cs.length = k) (h1 : ∀ u ∈ cs, u.oneCell' = true) (hn : n + 1 ≤ 4000000) (hby : bytes ≤ 256)
  (h : ∀ v' w', Hid (w'.ownsRow B e k v' (n + 1) (xs ++ cs)) → Hid ((wr.alloc (.cells cs.toArray e)).grownBy w' v.ownBlock) → Hid (v'.ownBlock = v.ownBlock ∨ v'.ownBlock = some (wr.heap.size + 1)) → wpList P ops Q rest (a.put o.dst v') w') :
  wpList P ops Q (o :: rest) a (wr.alloc (.cells cs.toArray e)) := by
 obtain ⟨i, hi, hz, hsz, hbs⟩ := he.info;refine wpList_append_own_at _ hgd s x t ho B e i z k bytes he.und hi hz hsz hbs he.zs he.pos v n xs hs (hown.out.alloc _) ⟨wr.heap.size, 0, none⟩ 1 1 cs hx (by rw [hcs, Nat.one_mul]) ?_ h1 ?_ ?_ ?_ ?_
 ·intro j u hj
  rw [Addr.add_lit, Nat.zero_add];exact zz00 (zz02 wr (.cells cs.toArray e)) j u (by simpa using hj)
 ·unfold maxLen; omega
 ·have h1 := Nat.mul_le_mul hn hby; omega
 ·simp; omega
 ·intro v' w' h1 h2 _ h3
  exact h v' w' h1 h2 (show _ ∨ _ by simpa using h3)
end
theorem el_BookR : Elt Tryz.prog 48 27 (.agg BZ) 5 104 := Elt.mk' Tryz.underlying48 zk rfl zx
end
section
open Go Go.RowKit
section
variable {P : Program} {ops : Array Oper} {md : Region.Mode} {C : World → Prop} {ex : List Nat}
theorem zz73 {Q : Exit → Act → World → Prop} {W0 : World} (i : Nat) (hs : List Nat) (di : Tmp) (Rv : Nat → Nat → Value → World → Prop) (vs0 : Value → List (Tmp × Value)) (f : Nat) (Lf : Array Bool) (T : List Tmp) (N : Nat)
  (hC : ∀ w, Below W0.heap.size W0 w → C w) (hdi : di ∈ T) (hvT : ∀ v, ∀ p ∈ vs0 v, p.1 ∈ T)
  (hp : ∀ (lo hi : Nat) (v : Value) (w : World), Rv lo hi v w → ∀ (a' : Act) (K : Act → Prop), a'.tmps.size = N → K (putsV (a'.put (some di) v) (vs0 v)) → wpPure P ops C K (opsAt ops hs) (a'.put (some di) v))
  (hRs : ∀ lo hi v w1 w2, Rv lo hi v w1 → Below w1.heap.size w1 w2 → Rv lo hi v w2) :
  ∀ (n : Nat) (es : List FreeC) (L : Array Bool) (a : Act) (w : World), es.length = n → Below W0.heap.size W0 w → okC md ops ex i hs Lf n (es.map (·.i)) L = true → (es.map (·.i)).Nodup → (es.map (·.d)).Nodup →
  (∀ e ∈ es, e.i ≠ i ∧ e.d ≠ di ∧ ∀ v, ∀ p ∈ vs0 v, p.1 ≠ e.d) → (∀ e ∈ es, CanC P ops T W0 e a ∧ e.d ∈ T) → CanC P ops T W0 ⟨i, di, Rv⟩ a → a.tmps.size = N →
  (∀ e ∈ es, ∀ lo hi v w1 w2, e.R lo hi v w1 → Below w1.heap.size w1 w2 → e.R lo hi v w2) →
  (∀ lo hi v vs w', w.heap.size ≤ lo → (∀ r ∈ vs, r.hi ≤ lo ∨ hi ≤ r.lo) → Rv lo hi v w' → Holds w.heap.size es vs w' → Apart (fun _ _ => false) es vs → Below w.heap.size w w' → wpAnyD P md ops C ex (OnlyN Q) f Lf (putsE es vs (putsV (a.put (some di) v) (vs0 v))) w') →
  wpAnyD P md ops C ex (OnlyN Q) (f + hs.length + 1 + n) L a w
 | 0, es, L, a, w, hn, hB, hok, _, _, _, _, hca, hN, _, K => by
  obtain rfl : es = [] := List.eq_nil_of_length_eq_zero hn;simp only [okC, Bool.and_eq_true, beq_iff_eq] at hok;obtain ⟨⟨⟨_, hr⟩, hh⟩, hL⟩ := hok;refine ⟨fun h => (by rw [hr] at h; cases h), fun k hk => ?_⟩
  rw [hr] at hk;obtain rfl : k = i := by simpa using hk
  refine hca.run _ a w _ (fun _ _ => rfl) hB fun u w1 hu hb => ⟨fun _ => hC _ (hB.trans (hb.mono hB.size)), ?_⟩
  exact zz1j hs f hh hL (hC _ (hB.trans (hb.mono hB.size))) (hp _ _ _ _ hu a _ hN (K _ _ _ [] w1 (Nat.le_refl _) (fun r hr => by cases hr) hu trivial trivial hb))
 | n + 1, es, L, a, w, hn, hB, hok, hni, hnd, hdis, hga, hca, hN, hst, K => by
  simp only [okC, Bool.and_eq_true, List.all_eq_true] at hok;obtain ⟨hr0, hr2⟩ := hok;refine ⟨fun h0 => ?_, fun k hk => ?_⟩
  ·rw [h0] at hr0
   simp at hr0
  have h2 := hr2 k hk;by_cases hki : k = i
  ·subst hki
   rw [if_pos (by simp), Bool.and_eq_true] at h2
   refine hca.run _ a w _ (fun _ _ => rfl) hB fun u w1 hu hb => ⟨fun _ => hC _ (hB.trans (hb.mono hB.size)), ?_⟩
   have hB1 := hB.trans (hb.mono hB.size);have hev : ∀ x : Operand, (∀ t ∈ T, x ≠ .tmp t) → (putsV (a.put (some di) u) (vs0 u)).eval x = a.eval x := fun x hx => by rw [zz36 T (vs0 u) _ (hvT u) x hx, zz0f a x di u (hx _ hdi)]
   show wpAnyD P md ops C ex (OnlyN Q) (f + hs.length + 1 + n) _ _ _;rw [show f + hs.length + 1 + n = (f + (n + 1)) + hs.length by omega]
   refine zz1j hs (f + (n + 1)) h2.1 rfl (hC _ hB1) (hp _ _ _ _ hu a _ hN ?_);exact zz7z f Lf (fun _ _ => false) hC T (n + 1) es _ _ w1 hn hB1 h2.2 hni hnd (fun e he => ⟨(hga e he).1.act hev, (hga e he).2⟩) hst
    (fun vs w' hh hap hb' => K _ _ _ vs w' (Nat.le_refl _) (fun r hr => .inr (hh.all r hr)) (hRs _ _ _ _ _ hu hb') (hh.lower hb.size) hap (hb.trans (hb'.mono hb.size)))
  ·rw [if_neg (by simpa using hki), Bool.and_eq_true] at h2
   obtain ⟨hin0, h2⟩ := h2;obtain ⟨e, he, rfl⟩ := List.mem_map.1 (show k ∈ es.map (·.i) by simpa using hin0)
   obtain ⟨l1, l2, rfl⟩ := List.append_of_mem he;have hni' := hni;have hnd' := hnd;rw [List.map_append, List.map_cons] at hni' hnd' h2;have hi1 : e.i ∉ l1.map (·.i) := fun h => (List.nodup_append.1 hni').2.2 _ h _ (by simp) rfl
   have hd1 : e.d ∉ l1.map (·.d) := fun h => (List.nodup_append.1 hnd').2.2 _ h _ (by simp) rfl
   rw [List.erase_append_right _ hi1, List.erase_cons_head, ← List.map_append] at h2;have hin : ∀ x ∈ l1 ++ l2, x ∈ l1 ++ e :: l2 := fun x hx => by
    exact zt70
   have hsub : List.Sublist (l1 ++ l2) (l1 ++ e :: l2) := List.Sublist.append (List.Sublist.refl l1) (List.sublist_cons_self e l2);refine (hga e (by simp)).1.run _ a w _ (fun _ _ => rfl) hB fun ve w1 hv hb => ?_
   have hB1 := hB.trans (hb.mono hB.size);refine ⟨fun _ => hC _ hB1, ?_⟩
   have heT := (hga e (by simp)).2
   refine zz73 i hs di Rv vs0 f Lf T N hC hdi hvT hp hRs n (l1 ++ l2) (L.setIfInBounds e.i true) (a.put (some e.d) ve) w1 (by simp at hn ⊢; omega) hB1 h2 ((hsub.map _).nodup hni) ((hsub.map _).nodup hnd) (fun x hx => hdis x (hin x hx))
    (fun x hx => ⟨(hga x (hin x hx)).1.put heT ve, (hga x (hin x hx)).2⟩) (hca.put heT ve) (by rw [zz4g]; exact hN) (fun x hx => hst x (hin x hx)) ?_
   intro lo hi v vs w' hlo hrs hv2 hh hap hb';obtain ⟨v1, v2, rfl, h1, h2'⟩ := Holds.split hh;have hall := hh.all;have := K lo hi v (v1 ++ ⟨w.heap.size, w1.heap.size, ve⟩ :: v2) w' (Nat.le_trans hb.size hlo) (fun r hr => by
    rcases List.mem_append.1 hr with hr | hr
    ·exact hrs r (List.mem_append_left _ hr)
    ·rcases List.mem_cons.1 hr with rfl | hr
     ·exact .inl hlo
     ·exact hrs r (List.mem_append_right _ hr)) hv2 (Holds.join (h1.lower hb.size) ⟨⟨hst e (by simp) _ _ ve w1 w' hv hb', Nat.le_refl _⟩, h2'.lower hb.size⟩)
    (Apart.mid h1.len hap hall (fun x hx => rfl)) (hb.trans (hb'.mono hb.size))
   obtain ⟨_, hne, hnv⟩ := hdis e (by simp)
   rw [zz40 e _ l2 v2 l1 v1 _ h1.len (fun x hx h => hd1 (h ▸ List.mem_map_of_mem hx))] at this
   have hcomm : (a.put (some e.d) ve).put (some di) v = (a.put (some di) v).put (some e.d) ve := Act.put_comm a _ _ (fun d h1 h2 => hne (by injection h1 with h1; injection h2 with h2; rw [h1, h2]))
   rw [hcomm, zz3z _ _ _ _ (hnv v)];exact this
end
end
section
open Go Go.RowKit Mon
def Sx (vp vb : Value) : Nat → Prop := fun q => vp.ownBlock = some q ∨ vb.ownBlock = some q
structure RRun (w0 : World) (u0 : Value) (PL : List (List Int)) (KL : List Bk) (w : World) (vp vb : Value) : Prop where
 below : Below w0.heap.size w0 w
 pairs : RowOwn w w0.heap.size 98 vp 9 PL
 row : ∃ us : List Value, w.ownsRow w0.heap.size 27 5 vb KL.length (flatU us) ∧ us.length = KL.length ∧ (∀ u ∈ us, u.cells.size = 5) ∧ ∀ (i : Nat) (u : Value) (b : Bk), us[i]? = some u → KL[i]? = some b → BkF w (Sx vp vb) u0 u b
section
variable {w0 w w1 : World} {u0 vp vb : Value} {b0 : Bk} {PL : List (List Int)} {KL : List Bk}
theorem zz19 {B : Nat} {e : TypeId} {k n : Nat} {v : Value} {xs : List Value} (h : w.ownsRow B e k v n xs) {q : Nat} (hq : v.ownBlock = some q) : B ≤ q ∧ q < w.heap.size ∧ ∃ cs, w.heap[q]? = some (.cells cs e (0, 0)) := by
 rcases h.2 with ⟨rfl, _⟩ | ⟨g, cap, cur, rfl, h1, h3, _⟩
 ·cases hq
 ·obtain rfl : g = q := by simpa [Value.ownBlock] using hq
  exact ⟨h1, (zL h3), _, h3⟩
theorem zz6z {B B' : Nat} {e e' : TypeId} {k k' n n' : Nat} {v v' : Value} {xs xs' : List Value} (h : w.ownsRow B e k v n xs) (h' : w.ownsRow B' e' k' v' n' xs') (hne : e ≠ e') {q : Nat} (hq : v.ownBlock = some q) : v'.ownBlock ≠ some q := fun hq' => by
 obtain ⟨_, _, cs, h1⟩ := zz19 h hq;obtain ⟨_, _, cs', h2⟩ := zz19 h' hq';rw [h1] at h2;injection h2 with h2
 injection h2 with _ h2 _
 exact hne h2
theorem RRun.blk (h : RRun w0 u0 PL KL w vp vb) {q : Nat} (hq : Sx vp vb q) : w0.heap.size ≤ q ∧ q < w.heap.size := by
 obtain ⟨us, hr, _⟩ := h.row;rcases hq with hq | hq
 ·exact ⟨(zz19 h.pairs.1 hq).1, (zz19 h.pairs.1 hq).2.1⟩
 ·exact ⟨(zz19 hr hq).1, (zz19 hr hq).2.1⟩
theorem zz2v {B : Nat} {e : TypeId} {k n : Nat} {v : Value} {xs : List Value} (h : w.ownsRow B e k v n xs) (hb : Below w.heap.size w w1) : w1.ownsRow B e k v n xs := by
 refine h.kept (row := none) ⟨hb.os, hb.tape, hb.output, hb.size, fun j hj _ => hb.block j hj⟩ ?_
 cases hv : v.ownBlock with
 | none => exact .inl rfl
 | some b => exact .inr (by simp)
theorem zz3t {B : Nat} {e : TypeId} {k n : Nat} {v : Value} {xs : List Value} {row : Option Nat} (h : w.ownsRow B e k v n xs) (hg : w.grownBy w1 row) (hne : ∀ q, v.ownBlock = some q → row ≠ some q) : w1.ownsRow B e k v n xs := by
 refine h.kept hg ?_;cases hv : v.ownBlock with
 | none => exact .inl rfl
 | some b => exact .inr (fun e => hne b hv (by first | exact e | exact e.symm))
theorem RRun.call (h : RRun w0 u0 PL KL w vp vb) (hb : Below w.heap.size w w1) : RRun w0 u0 PL KL w1 vp vb := by
 obtain ⟨us, hr, hl, h5, hk⟩ := h.row;exact ⟨h.below.trans (hb.mono h.below.size), h.pairs.kept hb, us, zz2v hr hb, hl, h5, fun i u b hi hj => (hk i u b hi hj).call hb⟩
theorem RRun.get (h : RRun w0 u0 PL KL w vp vb) {i : Nat} {b : Bk} (hi : KL[i]? = some b) : ∃ g c A1 c1 A2 c2 A3 c3 A4 c4, vb = .slice (some ⟨g, 0, none⟩) KL.length c ∧ g < w.heap.size ∧
  BkF w (Sx vp vb) u0 (.agg (BF A1 c1 A2 c2 A3 c3 A4 c4 b b.n)) b ∧
  w.cell? ⟨g, i * 5, none⟩ = some (.slice A1 b.h.length c1) ∧ w.cell? ⟨g, i * 5 + 1, none⟩ = some (.slice A2 b.s.length c2) ∧ w.cell? ⟨g, i * 5 + 2, none⟩ = some (.slice A3 b.o.length c3) ∧ w.cell? ⟨g, i * 5 + 3, none⟩ = some (.slice A4 b.r.length c4) ∧ w.cell? ⟨g, i * 5 + 4, none⟩ = some (.int .i64 b.n) := by
 obtain ⟨us, hr, hl, h5, hk⟩ := h.row;have hlt := (List.getElem?_eq_some_iff.1 hi).1;have hu : us[i]? = some us[i] := List.getElem?_eq_getElem zw;have hf := hk i _ _ hu hi;obtain ⟨A1, c1, A2, c2, A3, c3, A4, c4, hv⟩ := hf.at.forms;rw [hv] at hu hf;rcases hr.2 with ⟨_, h0⟩ | ⟨g, cap, cur, rfl, h1, h3, _⟩
 ·omega
 have key : ∀ j x, ((BF A1 c1 A2 c2 A3 c3 A4 c4 b b.n) : List Value)[j]? = some x → w.cell? ⟨g, 0 + (i * 5 + j), none⟩ = some x := fun j x hj => by
  have := hr.cells (g := g) rfl (i * 5 + j) x (zz90 h5 hu hj)
  rwa [Addr.add_lit] at this
 refine ⟨g, cap, A1, c1, A2, c2, A3, c3, A4, c4, rfl, (zL h3), hf, ?_, ?_, ?_, ?_, ?_⟩
 ·simpa using key 0 _ rfl
 ·simpa using key 1 _ rfl
 ·simpa using key 2 _ rfl
 ·simpa using key 3 _ rfl
 ·simpa using key 4 _ rfl
theorem BkF.app {S T : Nat → Prop} {u : Value} {b : Bk} {tmp : Obj} {row : Option Nat} (h : BkF w S u0 u b) (B0 : BkAt w0 u0 b0) (hS : ∀ q, S q → w0.heap.size ≤ q) (hT : ∀ q, T q → S q ∨ q = w.heap.size + 1) (hsz : w0.heap.size ≤ w.heap.size) (hrow : ∀ q, row = some q → S q) (hg : (w.alloc tmp).grownBy w1 row) : BkF w1 T u0 u b := by
 have h1 : BkF (w.alloc tmp) (fun q => S q ∨ T q) u0 u b := (h.call zBa).to fun q hq => by
  rcases hq with hq | hq
  ·exact .inl hq
  ·rcases hT q hq with h | h
   ·exact .inl h
   ·exact .inr (by simp; omega)
 have hST : ∀ q, S q ∨ T q → w0.heap.size ≤ q := fun q hq => by
  rcases hq with hq | hq
  ·exact hS q hq
  ·rcases hT q hq with h | h
   ·exact hS q h
   ·omega
 exact (h1.chg B0 hST hg.size fun j hj hn => hg.block j hj fun e => hn (.inl (hrow j e.symm))).to fun q hq => .inl (.inr hq)
theorem RRun.pair (h : RRun w0 u0 PL KL w vp vb) (B0 : BkAt w0 u0 b0) {tmp : Obj} {vp' : Value} {r : List Int} (hr : r.length = 9) (ho : w1.ownsRow w0.heap.size 98 9 vp' (PL.length + 1) (flatC PL ++ r.map (Value.int .i64))) (hg : (w.alloc tmp).grownBy w1 vp.ownBlock) (hat : vp'.ownBlock = vp.ownBlock ∨ vp'.ownBlock = some (w.heap.size + 1)) : RRun w0 u0 (PL ++ [r]) KL w1 vp' vb := by
 obtain ⟨us, hro, hl, h5, hk⟩ := h.row;refine ⟨(zz01 h.below h.below.size tmp).grown hg (by simp; have := h.below.size; omega) (fun q hq => (h.blk (.inl hq)).1), ⟨?_, ?_⟩, us, ?_, hl, h5, fun i u b hi hj => (hk i u b hi hj).app B0 (fun q hq => (h.blk hq).1) (fun q hq => ?_) h.below.size (fun q hq => .inl hq) hg⟩
 ·rw [List.length_append, zz0i, show flatC [r] = r.map (Value.int .i64) by simp [flatC]]
  exact ho
 ·intro x hx
  rcases List.mem_append.1 hx with hx | hx
  ·exact h.pairs.2 x hx
  ·simp at hx; rw [hx]; exact hr
 ·exact zz3t (zz2v hro (zz01 (Below.refl _ _) (Nat.le_refl _) tmp)) hg fun q hq e => zz6z h.pairs.1 hro zx e hq
 ·rcases hq with hq | hq
  ·rcases hat with e | e
   ·exact .inl (.inl (e ▸ hq))
   ·rw [e] at hq; injection hq with hq; exact .inr hq.symm
  ·exact .inl (.inr hq)
theorem RRun.book (h : RRun w0 u0 PL KL w vp vb) (B0 : BkAt w0 u0 b0) {us : List Value} (hl : us.length = KL.length) (h5 : ∀ u ∈ us, u.cells.size = 5) (hk : ∀ (i : Nat) (u : Value) (b : Bk), us[i]? = some u → KL[i]? = some b → BkF w (Sx vp vb) u0 u b) {tmp : Obj} {vb' : Value} {a0 a1 a2 a3 a4 : Value} {nb : Bk} (hn : BkF w (Sx vp vb) u0 (.agg #[a0, a1, a2, a3, a4]) nb)
  (ho : w1.ownsRow w0.heap.size 27 5 vb' (KL.length + 1) (flatU us ++ [a0, a1, a2, a3, a4])) (hg : (w.alloc tmp).grownBy w1 vb.ownBlock) (hat : vb'.ownBlock = vb.ownBlock ∨ vb'.ownBlock = some (w.heap.size + 1)) : RRun w0 u0 PL (KL ++ [nb]) w1 vp vb' := by
 obtain ⟨us0, hro, _⟩ := h.row;have hT : ∀ q, Sx vp vb' q → Sx vp vb q ∨ q = w.heap.size + 1 := fun q hq => by
  rcases hq with hq | hq
  ·exact .inl (.inl hq)
  ·rcases hat with e | e
   ·exact .inl (.inr (e ▸ hq))
   ·rw [e] at hq; injection hq with hq; exact .inr hq.symm
 refine ⟨(zz01 h.below h.below.size tmp).grown hg (by simp; have := h.below.size; omega) (fun q hq => (h.blk (.inr hq)).1), ⟨zz3t (zz2v h.pairs.1 (zz01 (Below.refl _ _) (Nat.le_refl _) tmp)) hg fun q hq e => zz6z h.pairs.1 hro zx hq e, h.pairs.2⟩, us ++ [.agg #[a0, a1, a2, a3, a4]], ?_, by simp [hl], ?_, ?_⟩
 ·rw [List.length_append, zz82]
  exact ho
 ·intro u hu
  rcases List.mem_append.1 hu with hu | hu
  ·exact h5 u hu
  ·simp at hu; rw [hu]; rfl
 ·intro i u b hi hj
  by_cases hlt : i < us.length
  ·rw [List.getElem?_append_left hlt] at hi
   rw [List.getElem?_append_left zw] at hj;exact (hk i u b hi hj).app B0 (fun q hq => (h.blk hq).1) hT h.below.size (fun q hq => .inr hq) hg
  ·rw [List.getElem?_append_right zw] at hi
   rw [List.getElem?_append_right zw] at hj;have h1 := (List.getElem?_eq_some_iff.1 hi).1;simp at h1;rw [h1] at hi;rw [show i - KL.length = 0 by omega] at hj
   simp at hi hj;subst hi hj;exact hn.app B0 (fun q hq => (h.blk hq).1) hT h.below.size (fun q hq => .inr hq) hg
theorem BkF.put {T : Nat → Prop} {u : Value} {b : Bk} {g o : Nat} {vs : List Value} (h : BkF w T u0 u b) (B0 : BkAt w0 u0 b0) (hT : ∀ q, T q → w0.heap.size ≤ q) (hg : T g) (E : putC w g o vs = w1) : BkF w1 T u0 u b := by
 subst E;exact h.chg B0 hT (by rw [zz2i]; exact Nat.le_refl _) fun j hj hn => zz03 (fun e => hn (by rw [e]; exact hg)) rfl
theorem blk_app {q : Nat} {ob tmp : Obj} {row : Option Nat} (h : w.heap[q]? = some ob) (hg : (w.alloc tmp).grownBy w1 row) (hne : row ≠ some q) : w1.heap[q]? = some ob :=
 (hg.block q (by have := zL h; simp; omega) (fun e => hne e.symm)).trans (zz05 h _)
theorem own_ne {B : Nat} {e t : TypeId} {k n : Nat} {v : Value} {xs : List Value} {q : Nat} {cs : Array Value} {fr : Nat × Nat} (h : w.ownsRow B e k v n xs) (hq : w.heap[q]? = some (.cells cs t fr)) (hne : e ≠ t) : v.ownBlock ≠ some q := fun e' => by
 obtain ⟨_, _, cs', h2⟩ := zz19 h e';rw [hq] at h2;injection h2 with h2
 injection h2 with _ h2 _
 exact hne h2.symm
end
def tupG (u : Value) (k : Nat) : Value := match u with | .tuple xs => xs.getD k undef | _ => undef
theorem RRun.start {w : World} {b : Bk} {a0 a1 a2 a3 : Value} {t : TypeId} {cs : Array Value} (B0 : BkAt w (.agg #[a0, a1, a2, a3, b.n]) b) {wb : World} (h : (w.alloc (.cells cs t)).alloc (.cells #[a0, a1, a2, a3, b.n] 27) = wb) : RRun w (.agg #[a0, a1, a2, a3, b.n]) [] [b] wb (.slice none 0 0) (.slice (some ⟨w.heap.size + 1, 0, none⟩) 1 1) := by
 have hb : Below w.heap.size w wb := h ▸ zz01 zBa (by simp) _
 refine ⟨hb, ⟨World.ownsRow_nil _ _ _ _, fun r hr => by simp at hr⟩, [.agg #[a0, a1, a2, a3, b.n]], ⟨rfl, .inr ⟨w.heap.size + 1, 1, _, rfl, Nat.le_succ _, h ▸ zz0d _ _ _ (by simp), Nat.le_refl _, by unfold maxLen; omega, rfl, rfl⟩⟩, rfl, fun u hu => by simp at hu; rw [hu]; rfl, fun i u c hi hj => ?_⟩
 match i with
 | 0 =>
  simp at hi hj;subst hi hj;exact (BkF.of B0).call hb
 | i + 1 => simp at hi
theorem rRun_some (v : Value) (b : Bk) (bb oo : Nat) (cL : Nat) (L : List Ev) (rate : Int) (w : World) (B0 : Hid (BkAt w v b)) (HL : Hid (EvsAt w (.slice (some ⟨bb, oo, none⟩) L.length cL) L)) (hgd : Hid b.Good) (hE : Hid (∀ e ∈ L, e.I64s)) (hr0 : Hid (0 ≤ rate ∧ rate ≤ 1000))
  (hcount : Hid (b.n + L.length ≤ 1099511627776)) (hst : Hid (b.s.length + L.length ≤ 900000)) (hln : L.length ≤ 60000) :
  Calls Tryz.prog 18 #[v, .slice (some ⟨bb, oo, none⟩) L.length cL, .int .i64 rate] w fun r w' => ∃ vp vb, r = .returned (.tuple #[vp, vb]) ∧ RRun w v (foldP b rate L) (foldK b rate L) w' vp vb := by
 obtain ⟨Ah, ch, As, cs, Ao, co, Ar, cr, rfl⟩ := B0.out.forms;have k0 := zM1 (w := w) (cs := BF Ah ch As cs Ao co Ar cr b b.n) (t := 27) rfl;have c := zC k0.out;go_in;go_wp2_with fail;generalize hw : World.alloc _ _ = wb;have H0 := zH (RRun.start B0.out hw);clear c k0 hw;go_loopw [8, 9, 10] (fun s8 s9 s10 wr => ∃ i : Nat, s10 = .int .i64 (i : Int) ∧ Hid (i ≤ L.length) ∧ Hid (RRun w (.agg (BF Ah ch As cs Ao co Ar cr b b.n)) (foldP b rate (L.take i)) (foldK b rate (L.take i)) wr s8 s9)) (fun _ _ s10 _ => L.length - (intOf s10).toNat)
 case atStart => exact ⟨0, rfl, Nat.zero_le _, H0.out⟩
 case round =>
  obtain ⟨i, rfl, hil, HR⟩ := hrel;replace hil := hil.out;by_cases hin : i < L.length
  ·have tn : decide ((i : Int) < (L.length : Int)) = true := decide_eq_true zw
   obtain ⟨e, he⟩ : ∃ e, L[i]? = some e := ⟨_, List.getElem?_eq_getElem hin⟩;have hEe : Hid e.I64s := hE.out e (List.mem_of_getElem? he);have hlt : (L.take i).length = i := by rw [List.length_take]; omega
   have hsn : L.take (i + 1) = L.take i ++ [e] := by rw [List.take_add_one, he]; rfl
   obtain ⟨pb, hpb⟩ : ∃ pb, foldB b rate (L.take i) = pb := ⟨_, rfl⟩;have hkl : (foldK b rate (L.take i)).length = i + 1 := by rw [zz2y, hlt]
   have hg := zz4q rate (L.take i) b hgd.out (by rw [hlt]; have := hcount.out; omega) (fun e he => hE.out e (List.mem_of_mem_take he))
   have hnn := zzbo rate (L.take i) b;have hss := zz2z rate (L.take i) b;rw [hpb] at hg hnn hss;rw [hlt] at hnn hss;have HG := zH hg;have Hs : Hid pb.Small := hg.small (by have := hst.out; omega)
   have HP1 : Hid (foldP b rate (L.take (i + 1)) = foldP b rate (L.take i) ++ [pairC e (gateV pb e rate)]) := (show _ = _ by rw [hsn, zz74, hpb])
   have HP2 : Hid (foldK b rate (L.take (i + 1)) = foldK b rate (L.take i) ++ [gateB pb e rate]) := (show _ = _ by rw [hsn, zz8y, hpb])
   obtain ⟨g, c, A1, c1, A2, c2, A3, c3, A4, c4, hvb, hgl, hF, m0, m1, m2, m3, m4⟩ := HR.out.get (i := i) (b := pb) (by rw [zz8x rate _ b _ (by rw [hlt]; exact Nat.le_refl _), List.take_take, Nat.min_self, hpb])
   rw [hkl] at hvb;subst hvb;have HF := zH hF;have hm : Hid (∀ wz : World, Hid (Below wr.heap.size wr wz) → wz.cell? ⟨g, i * 5, none⟩ = some (.slice A1 pb.h.length c1) ∧ wz.cell? ⟨g, i * 5 + 1, none⟩ = some (.slice A2 pb.s.length c2) ∧ wz.cell? ⟨g, i * 5 + 2, none⟩ = some (.slice A3 pb.o.length c3) ∧ wz.cell? ⟨g, i * 5 + 3, none⟩ = some (.slice A4 pb.r.length c4) ∧ wz.cell? ⟨g, i * 5 + 4, none⟩ = some (.int .i64 pb.n)) := (show ∀ _ _, _ from fun wz h => ⟨(h.out.cell (p := ⟨_, _, _⟩) hgl).trans m0, (h.out.cell (p := ⟨_, _, _⟩) hgl).trans m1, (h.out.cell (p := ⟨_, _, _⟩) hgl).trans m2, (h.out.cell (p := ⟨_, _, _⟩) hgl).trans m3, (h.out.cell (p := ⟨_, _, _⟩) hgl).trans m4⟩)
   have hz : Hid (∀ wz : World, Hid (Below wr.heap.size wr wz) → bb < wz.heap.size ∧ wz.cell? ⟨bb, oo + i * 7, none⟩ = some (.int .i64 e.kind) ∧ wz.cell? ⟨bb, oo + i * 7 + 1, none⟩ = some (.int .i64 e.acc) ∧ wz.cell? ⟨bb, oo + i * 7 + 2, none⟩ = some (.int .i64 e.ord) ∧ wz.cell? ⟨bb, oo + i * 7 + 3, none⟩ = some (.int .i64 e.sym) ∧ wz.cell? ⟨bb, oo + i * 7 + 4, none⟩ = some (.int .i64 e.side) ∧ wz.cell? ⟨bb, oo + i * 7 + 5, none⟩ = some (.int .i64 e.qty) ∧ wz.cell? ⟨bb, oo + i * 7 + 6, none⟩ = some (.int .i64 e.px)) := (show ∀ _ _, _ from fun wz h => (HL.out.call (HR.out.below.trans (h.out.mono HR.out.below.size))).got he)
   have hq := zH (fun wz hv => rStep_kin (.slice A1 pb.h.length c1) (.slice A2 pb.s.length c2) (.slice A3 pb.o.length c3) (.slice A4 pb.r.length c4) pb e rate wz hv Hs HG.out.ints HG.out.may hEe (zH (by unfold I64; have := hr0.out; omega)) (zH HG.out.price) HG.out.n)
   unfold Ev.val at hq;obtain ⟨nb, hnb⟩ : ∃ nb, gateB pb e rate = nb := ⟨_, rfl⟩;obtain ⟨V1, hV1⟩ : ∃ V1, (gateV pb e rate).1 = V1 := ⟨_, rfl⟩;obtain ⟨V2, hV2⟩ : ∃ V2, (gateV pb e rate).2 = V2 := ⟨_, rfl⟩;rw [hnb] at HP2;rw [hnb, hV1, hV2] at hq;have hpc : Hid (pairC e (gateV pb e rate) = [e.kind, e.acc, e.ord, e.sym, e.side, e.qty, e.px, V1, V2]) := (show _ = _ by rw [← hV1, ← hV2]; rfl)
   rw [hpc.out] at HP1;clear hnb hV1 hV2 hpc;have hi1 : (i : Int) < (i : Int) + 1 := by omega
   have hi2 : (i : Int) < (L.length : Int) := by omega
   have Hhe := zH he;clear hg hnn hss hF m0 m1 m2 m3 m4 hpb hsn hlt hkl he;go_wp2_with fail;refine zS [] (fun wz => Hid (Below wr.heap.size wr wz)) 19 zk zk ?_
   intro wd hbd;refine zM [0, 1, 2, 3, 4, 5, 6, 7, 8] 10 hbd ?_;simp only [opsAt, zA]
   iterate 3 refine zp ?_
   refine zq hm.out ?_
   iterate 3 refine zp ?_
   refine zq hz.out ?_;refine zp ?_;unfold wpPure;go_simp;refine zz73 (W0 := wd) 9 [10, 11, 12, 13] 32 (fun lo hi u wz => ∃ X1 x1 X2 x2 X3 x3 X4 x4 S, u = .tuple #[.agg (BF X1 x1 X2 x2 X3 x3 X4 x4 nb nb.n), .agg #[V1, V2], S] ∧ BkAt wz (.agg (BF X1 x1 X2 x2 X3 x3 X4 x4 nb nb.n)) nb ∧ Kin lo (.agg (BF A1 c1 A2 c2 A3 c3 A4 c4 pb pb.n)) (.agg (BF X1 x1 X2 x2 X3 x3 X4 x4 nb nb.n)) ∧ ∃ wc : World, wc.heap.size = hi ∧ BkAt wc (.agg (BF X1 x1 X2 x2 X3 x3 X4 x4 nb nb.n)) nb)
    (fun u => [(22, u), (33, tupG u 0), (34, tupG u 1), (35, tupG u 2)]) 3 (setAll [10, 11, 12, 13] ((((setAll [0, 1, 2, 3, 4, 5, 6, 7, 8] (Array.replicate 19 false)).setIfInBounds 14 true).setIfInBounds 15 true).setIfInBounds 9 true)) [32, 22, 33, 34, 35, 11, 12] 51 (fun wz hz => zH (hbd.trans (hz.mono hbd.size))) (by simp) (fun v p hp => by simp at hp; rcases hp with rfl | rfl | rfl | rfl <;> simp) ?_ ?_ 2
    [⟨14, 11, fun lo hi v wz => v = .pointer (some ⟨lo, 0, none⟩) ∧ lo < hi ∧ wz.heap[lo]? = some (.cells BZ 27 (0, 0))⟩, ⟨15, 12, fun lo hi v wz => v = .pointer (some ⟨lo, 0, none⟩) ∧ lo < hi ∧ wz.heap[lo]? = some (.cells #[.int .i64 0, .int .i64 0] 33 (0, 0))⟩] _ _ _ rfl (Below.refl _ _)
    (zz28 (S1 := [([14, 15], setAll [0, 1, 2, 3, 4, 5, 6, 7, 8] (Array.replicate 19 false)), ([15], (setAll [0, 1, 2, 3, 4, 5, 6, 7, 8] (Array.replicate 19 false)).setIfInBounds 14 true), ([14], (setAll [0, 1, 2, 3, 4, 5, 6, 7, 8] (Array.replicate 19 false)).setIfInBounds 15 true), ([], ((setAll [0, 1, 2, 3, 4, 5, 6, 7, 8] (Array.replicate 19 false)).setIfInBounds 14 true).setIfInBounds 15 true)])
     (S2 := [([14, 15], setAll [10, 11, 12, 13] ((setAll [0, 1, 2, 3, 4, 5, 6, 7, 8] (Array.replicate 19 false)).setIfInBounds 9 true)), ([15], setAll [10, 11, 12, 13] (((setAll [0, 1, 2, 3, 4, 5, 6, 7, 8] (Array.replicate 19 false)).setIfInBounds 14 true).setIfInBounds 9 true)), ([14], setAll [10, 11, 12, 13] (((setAll [0, 1, 2, 3, 4, 5, 6, 7, 8] (Array.replicate 19 false)).setIfInBounds 15 true).setIfInBounds 9 true)), ([], setAll [10, 11, 12, 13] ((((setAll [0, 1, 2, 3, 4, 5, 6, 7, 8] (Array.replicate 19 false)).setIfInBounds 14 true).setIfInBounds 15 true).setIfInBounds 9 true))])
     zk zk 2 _ _ (List.mem_cons_self ..) rfl) (by simp) (by simp) (by simp) ?_ ?_ rfl ?_ ?_
   ·intro lo hi u wz hR a' K hN hK
    obtain ⟨X1, x1, X2, x2, X3, x3, X4, x4, S, rfl, _⟩ := hR;generalize hU : Value.agg (BF X1 x1 X2 x2 X3 x3 X4 x4 nb nb.n) = U at *;generalize hV : Value.agg #[V1, V2] = V at *;have n0 : (a'.put (some 32) (.tuple #[U, V, S])).tmps.size = 51 := by rw [zz4g]; exact hN
    have e0 : (a'.put (some 32) (.tuple #[U, V, S])).eval (.tmp 32) = .tuple #[U, V, S] := zz2l _ _ _ (by rw [hN]; decide)
    refine zz08 (.tuple #[U, V, S]) rfl (fun wz _ => by unfold execOp; simp only [e0]; go_simp) ?_
    have e1 : ((a'.put (some 32) (.tuple #[U, V, S])).put (some 22) (.tuple #[U, V, S])).eval (.tmp 22) = .tuple #[U, V, S] := zz2l _ _ _ (by rw [n0]; decide)
    refine zz08 U rfl (fun wz _ => by unfold execOp; simp only [e1]; go_simp) ?_
    have e2 : (((a'.put (some 32) (.tuple #[U, V, S])).put (some 22) (.tuple #[U, V, S])).put (some 33) U).eval (.tmp 22) = .tuple #[U, V, S] := (zz0f _ _ _ _ (by simp)).trans e1
    refine zz08 V rfl (fun wz _ => by unfold execOp; simp only [e2]; go_simp) ?_
    have e3 : ((((a'.put (some 32) (.tuple #[U, V, S])).put (some 22) (.tuple #[U, V, S])).put (some 33) U).put (some 34) V).eval (.tmp 22) = .tuple #[U, V, S] := (zz0f _ _ _ _ (by simp)).trans e2
    refine zz08 S rfl (fun wz _ => by unfold execOp; simp only [e3]; go_simp) ?_
    unfold wpPure;exact hK
   ·rintro lo hi v w1 w2 ⟨X1, x1, X2, x2, X3, x3, X4, x4, S, rfl, h1, h2, h3⟩ hb
    exact ⟨X1, x1, X2, x2, X3, x3, X4, x4, S, rfl, h1.call hb, h2, h3⟩
   ·intro e he
    simp only [List.mem_cons, List.not_mem_nil, or_false] at he;rcases he with rfl | rfl
    ·exact ⟨zz22 _ rfl rfl rfl #[.slice none 0 0, .slice none 0 0, .slice none 0 0, .slice none 0 0, .int .i64 0] 27 (fun ev wz => by unfold execOp; go_simp) (fun wz hz => ⟨rfl, by simp, zz02 wz _⟩), by simp⟩
    ·exact ⟨zz22 _ rfl rfl rfl #[.int .i64 0, .int .i64 0] 33 (fun ev wz => by unfold execOp; go_simp) (fun wz hz => ⟨rfl, by simp, zz02 wz _⟩), by simp⟩
   ·exact zz30 13 #[.agg (BF A1 c1 A2 c2 A3 c3 A4 c4 pb pb.n), .agg #[e.kind, e.acc, e.ord, e.sym, e.side, e.qty, e.px], .int .i64 rate] ⟨_, _, _, rfl, rfl, rfl, rfl, by simp [Act.eval, Act.put], by simp⟩ (fun w => enters_of Tryz.func13 zk rfl _ w) (fun wz hz => (hq.out wz (zH (HF.out.at.call (hbd.trans (hz.mono hbd.size))))).mono fun r w' ⟨x, S, hr, h1, h2, _, h4⟩ => by
     obtain ⟨X1, x1, X2, x2, X3, x3, X4, x4, rfl⟩ := h1.forms;exact ⟨_, hr, ⟨X1, x1, X2, x2, X3, x3, X4, x4, S, rfl, h1, h2, w', rfl, h1⟩, h4⟩)
   ·intro e he lo hi v w1 w2 hv hb
    simp only [List.mem_cons, List.not_mem_nil, or_false] at he;rcases he with rfl | rfl <;> exact ⟨hv.1, hv.2.1, zz06 hv.2.2 hb⟩
   intro lo hi u us wf hlo hrs hR hus hap hb;obtain ⟨X1, x1, X2, x2, X3, x3, X4, x4, S, rfl, hO, hK, wc, hwc, hOc⟩ := hR
   match us, hus, hrs with
   | [t1, t2], ⟨⟨⟨e1, n1, g1⟩, m1⟩, ⟨⟨e2, n2, g2⟩, m2⟩, _⟩, hrs =>
   obtain ⟨q1, i1, v1⟩ := t1;obtain ⟨q2, i2, v2⟩ := t2;have ra := hrs _ (.head _);have rb := hrs _ (.tail _ (.head _));simp only at e1 n1 g1 m1 e2 n2 g2 m2 ra rb ⊢;subst e1 e2;simp only [putsE, putsV, tupG];go_simp;have Kx : ZB wf q1 BZ 27 := g1;have Kv : ZB wf q2 #[.int .i64 0, .int .i64 0] 33 := g2;obtain ⟨T, hT⟩ : ∃ T : Nat → Prop, (fun q => Sx u8 (.slice (some ⟨g, 0, none⟩) (i + 1) c) q ∨ q = q1 ∨ q = q2) = T := ⟨_, rfl⟩
   have hN : Hid (BkF wf T (.agg (BF Ah ch As cs Ao co Ar cr b b.n)) (.agg (BF X1 x1 X2 x2 X3 x3 X4 x4 nb nb.n)) nb) := HF.out.step2 hK hOc hwc hO (fun q hq => by
    subst hT;have s1 := hbd.size;rcases hq with hq | hq | hq
    ·have := (HR.out.blk hq).2
     exact .inl ⟨hq, by omega⟩
    ·subst hq; exact .inr ⟨by omega, by omega⟩
    ·subst hq; exact .inr ⟨by omega, by omega⟩)
   have HT1 : Hid (∀ q, T q → w.heap.size ≤ q) := (show ∀ _ _, _ from fun q hq => by
    subst hT;have s1 := hbd.size;have s2 := HR.out.below.size;rcases hq with hq | hq | hq
    ·exact (HR.out.blk hq).1
    ·omega
    ·omega)
   have HTx : Hid (T q1 ∧ T q2 ∧ ∀ q, Sx u8 (.slice (some ⟨g, 0, none⟩) (i + 1) c) q → T q) := (show _ ∧ _ ∧ _ by subst hT; exact ⟨.inr (.inl rfl), .inr (.inr rfl), fun q hq => .inl hq⟩)
   have M1 : Hid (wd.heap.size ≤ q1) := m1;have M2 : Hid (wd.heap.size ≤ q2) := m2;have HBd : Hid (Below wd.heap.size wd wf) := hb;have hBd := zH hbd;clear hT g1 g2 m1 m2 ra rb n1 n2 hb hbd hK hOc hwc hO hrs hap hus hlo hm hq HF;have k1 := zC Kx.out;have k2 := zF Kx.out;have k3 := zC Kv.out;have k4 := zz0a Kx.out Kv.out zx;have k5 := k4.symm;refine zW 16 ?_;go_wp2_with fail;generalize hs : World.setCell _ _ _ = ws1;clear k1 k2 k3 k4 k5;obtain ⟨vs, zE, hvs⟩ := zV5 hs;replace hN := zH (hN.out.put B0.out HT1.out HTx.out.1 zE);replace HBd := zQ zE M1 HBd;replace Kv := zO zE Kx Kv;replace Kx := zP zE Kx;subst hvs;replace Kx : ZB ws1 q1 (BF X1 x1 X2 x2 X3 x3 X4 x4 nb nb.n) 27 := Kx.out;clear zE hs;refine zY ?_ (fun _ => zH (hBd.out.trans (HBd.out.mono hBd.out.size)))
   have k1 := zC Kv.out;have k2 := zF Kv.out;refine zW 17 ?_;go_wp2_with fail;generalize hs : World.setCell _ _ _ = ws2;clear k1 k2;obtain ⟨vs, zE, hvs⟩ := zV2 hs;replace hN := zH (hN.out.put B0.out HT1.out HTx.out.2.1 zE);replace HBd := zQ zE M2 HBd;replace Kx := zO zE Kv Kx;replace Kv := zP zE Kv;subst hvs;replace Kv : ZB ws2 q2 #[V1, V2] 33 := Kv.out;clear zE hs;refine zY ?_ (fun _ => zH (hBd.out.trans (HBd.out.mono hBd.out.size)))
   refine zW 18 ?_;go_wp2_with fail;refine zY ?_ (fun _ => zH (hBd.out.trans (HBd.out.mono hBd.out.size)))
   refine zQe ?_;replace HR := zH (HR.out.call (hBd.out.trans (HBd.out.mono hBd.out.size)));replace hN := zH (hN.out.to fun q hq => .inl (HTx.out.2.2 q hq))
   have HEv := zH (HL.out.call HR.out.below);clear HBd hBd HTx HT1 M1 M2 hz;go_wp2_with fail;refine zS [] (fun wz => Hid (EvsAt wz (.slice (some ⟨bb, oo, none⟩) L.length cL) L) ∧ ZB wz q2 #[V1, V2] 33) 10 zk zk ?_
   intro we hbe;replace HR := zH (HR.out.call hbe);replace hN := zH (hN.out.call hbe);replace HEv := zH (HEv.out.call hbe);replace Kx := zK Kx hbe;replace Kv := zK Kv hbe;clear hbe;refine zM [0, 1, 2, 3, 4, 5, 6] 3 ⟨HEv, Kv⟩ ?_;simp only [opsAt, zA]
   iterate 4 refine zp ?_
   refine zq (fun wz hC => hC.1.out.got Hhe.out) ?_
   refine zq (fun wz hC => zC hC.2.out) ?_
   refine zp ?_;unfold wpPure;go_simp;refine zW 7 ?_;go_wp2_with fail;refine zY ?_ (fun _ => ⟨zH (HEv.out.call zBa), zH (zz05 Kv.out _)⟩)
   refine zW 8 ?_;have hPl := zH (show (foldP b rate (L.take i)).length + 1 ≤ 4000000 by rw [zz20, List.length_take]; omega)
   refine zz1s (wr := we) (B := w.heap.size) _ _ 45 98 _ 9 72 el_Pair (([e.kind, e.acc, e.ord, e.sym, e.side, e.qty, e.px, V1, V2] : List Int).map (Value.int .i64)) u8 (foldP b rate (L.take i)).length (flatC (foldP b rate (L.take i))) HR.out.pairs.1 HR.out.below.size rfl rfl rfl rfl rfl (by intro u hu; obtain ⟨y, _, rfl⟩ := List.mem_map.1 hu; rfl) hPl.out zx ?_
   intro vp' w9 hown hg hat;have n1 := own_ne HR.out.pairs.1 Kx.out zx;have n2 := own_ne HR.out.pairs.1 Kv.out zx;replace hN := zH (hN.out.app (T := Sx vp' (.slice (some ⟨g, 0, none⟩) (i + 1) c)) B0.out (fun q hq => (HR.out.blk hq).1) (fun q hq => by
    rcases hq with hq | hq
    ·rcases hat.out with e | e
     ·exact .inl (.inl (e ▸ hq))
     ·rw [e] at hq; injection hq with hq; exact .inr hq.symm
    ·exact .inl (.inr hq)) HR.out.below.size (fun q hq => .inl hq) hg.out)
   replace HR := zH (HR.out.pair B0.out rfl hown.out hg.out hat.out);replace HEv := zH (HL.out.call HR.out.below);replace Kx := zH (blk_app Kx.out hg.out n1);replace Kv := zH (blk_app Kv.out hg.out n2);obtain ⟨A9, c9, hv9⟩ := HR.out.pairs.form;obtain ⟨nP, hnP⟩ : ∃ nP, (foldP b rate (L.take i) ++ [[e.kind, e.acc, e.ord, e.sym, e.side, e.qty, e.px, V1, V2]]).length = nP := ⟨_, rfl⟩;rw [hnP] at hv9;subst hv9;clear hown hg hat n1 n2 hnP hPl;go_wp2_with fail;refine zY ?_ (fun _ => ⟨HEv, Kv⟩)
   refine zW 9 ?_;go_wp2_with fail;refine zY ?_ (fun _ => ⟨HEv, Kv⟩)
   refine zQe ?_;obtain ⟨us, hro, hl, h5, hk⟩ := HR.out.row;have Hro := zH hro;have Hk := zH hk;have H5 := zH h5;have Hl := zH hl;have hKl := zH (show (foldK b rate (L.take i)).length + 1 ≤ 4000000 by rw [zz2y, List.length_take]; omega)
   clear hro hk h5 hl HEv Kv;have k1 := zC Kx.out;go_wp2_with (at_builtin; refine zz1s (wr := w9) (B := w.heap.size) _ _ 48 27 _ 5 104 el_BookR (BF X1 x1 X2 x2 X3 x3 X4 x4 nb nb.n) _ (foldK b rate (L.take i)).length (flatU us) Hro.out HR.out.below.size rfl rfl rfl rfl rfl (by intro u hu; simp at hu; rcases hu with rfl | rfl | rfl | rfl | rfl <;> rfl) hKl.out zx ?_)
   intro vb' w10 hown hg hat;replace HR := zH (HR.out.book B0.out Hl.out H5.out Hk.out hN.out hown.out hg.out hat.out);clear hown hg hat hN Kx k1 Hro Hk H5 Hl hKl;rw [← HP2.out] at HR;go_wp2_with fail;go_roundw
   case rel => exact ⟨i + 1, by go_num, by show _ ≤ _; omega, by have h := HR.out; rw [← HP1.out] at h; exact h⟩
   case measure => simp [intOf]; omega
  ·obtain rfl : i = L.length := by omega
   rw [List.take_length] at HR;have tn : decide ((L.length : Int) < (L.length : Int)) = false := decide_eq_false zw;go_wp2_with fail;go_ret2;exact ⟨_, _, rfl, HR.out⟩
theorem rRun_nil (v : Value) (b : Bk) (A : Option Addr) (cL : Nat) (rate : Int) (w : World) (B0 : Hid (BkAt w v b)) :
  Calls Tryz.prog 18 #[v, .slice A 0 cL, .int .i64 rate] w fun r w' => ∃ vp vb, r = .returned (.tuple #[vp, vb]) ∧ RRun w v [] [b] w' vp vb := by
 obtain ⟨Ah, ch, As, cs, Ao, co, Ar, cr, rfl⟩ := B0.out.forms;have k0 := zM1 (w := w) (cs := BF Ah ch As cs Ao co Ar cr b b.n) (t := 27) rfl;have c := zC k0.out;go_in;go_wp2_with fail;generalize hw : World.alloc _ _ = wb;have H0 := zH (RRun.start B0.out hw);clear c k0 hw;go_loopw [8, 9, 10] (fun s8 s9 s10 wr => s10 = .int .i64 0 ∧ Hid (RRun w (.agg (BF Ah ch As cs Ao co Ar cr b b.n)) [] [b] wr s8 s9)) (fun _ _ _ _ => 0)
 case atStart => exact ⟨rfl, H0.out⟩
 case round =>
  obtain ⟨rfl, HR⟩ := hrel;go_wp2_with fail;go_ret2;exact ⟨_, _, rfl, HR.out⟩
theorem rRun_any (v : Value) (b : Bk) (A : Option Addr) (cL : Nat) (L : List Ev) (rate : Int) (w : World) (B0 : Hid (BkAt w v b)) (HL : Hid (EvsAt w (.slice A L.length cL) L)) (hgd : Hid b.Good) (hE : Hid (∀ e ∈ L, e.I64s)) (hr0 : Hid (0 ≤ rate ∧ rate ≤ 1000))
  (hcount : Hid (b.n + L.length ≤ 1099511627776)) (hst : Hid (b.s.length + L.length ≤ 900000)) (hln : L.length ≤ 60000) :
  Calls Tryz.prog 18 #[v, .slice A L.length cL, .int .i64 rate] w fun r w' => ∃ vp vb, r = .returned (.tuple #[vp, vb]) ∧ RRun w v (foldP b rate L) (foldK b rate L) w' vp vb := by
 obtain ⟨A', c', hA, _, h⟩ := HL.out;rcases h with h | ⟨bb, oo, rfl, _⟩
 ·obtain rfl : L = [] := List.map_eq_nil_iff.1 h
  exact rRun_nil v b A cL rate w B0
 ·injection hA with hA _ _
  subst hA;exact rRun_some v b bb oo cL L rate w B0 HL hgd hE hr0 hcount hst hln
end
section
open Go Go.RowKit Go.Shelf Mon
theorem zzbq {w : World} {B : Nat} {v : Value} {L : List (Ev × Int × Int)} (h : RowOwn w B 29 v 7 (evsC L)) : EvsAt w v (L.map (·.1)) := h.row
theorem zt73 {p : Prop} (h : p := by
 go_wp2_with fail;go_quiet (fail);go_wp2_with fail;go_ret;exact ⟨by rw [hc.out]; rfl, zz0c (zz0c HB2.out _) _⟩) : p := h
theorem zzb0 (A : Option Addr) (c : Nat) (L : List (Ev × Int × Int)) (rate : Int) (w : World) (h : Hid (PrsAt w (.slice A L.length c) L)) (hE : Hid (∀ e ∈ L.map (·.1), e.I64s)) (hr0 : Hid (0 ≤ rate ∧ rate ≤ 1000)) (hl : L.length ≤ 60000) :
  Calls Tryz.prog 24 #[.slice A L.length c, .int .i64 rate] w fun r w' => r = .returned (.int .i64 (chkP bZ rate L)) ∧ Below w.heap.size w w' := by
 have q1 := zH (fun wz hz => zz5c A c L wz hz zw)
 have q2 := zH (fun A' c' wz (hz : Hid (EvsAt wz (.slice A' (L.map (·.1)).length c') (L.map (·.1)))) => rRun_any _ bZ A' c' (L.map (·.1)) rate wz (zH (BkAt.zero wz)) hz (zH bZ_good) hE hr0 (zH (by show (0 : Int) + _ ≤ _; simp; omega)) (zH (by show 0 + _ ≤ _; simp; omega)) (by simp; omega))
 rw [List.length_map] at q2;go_in;go_wp2_with fail;(with_reducible refine (q1.out _ h).mono ?_);rintro r w1 ⟨v, rfl, hO, hb1⟩;have HE := zzbq hO;obtain ⟨A1, c1, hv⟩ := HE.form;rw [List.length_map] at hv;subst hv;have HE := zH HE;have HB1 := zH hb1;clear hO hb1 q1;go_wp2_with fail;(with_reducible refine (q2.out _ _ _ HE).mono ?_);rintro r w2 ⟨vp, vb, rfl, hR⟩;have HB2 := zH (HB1.out.trans (hR.below.mono HB1.out.size));have HP : Hid (RowAt w2 vp 9 (foldP bZ rate (L.map (·.1)))) := zH hR.pairs.row;have H := zH (h.out.call HB2.out);clear hR q2 HE HB1 h;have hpl : (foldP bZ rate (L.map (·.1))).length = L.length := by rw [zz20, List.length_map]
 obtain ⟨Ap, cp, hv, hp⟩ := HP.out.rec';rw [hpl] at hv;subst hv;have HPP := zH hp;clear hp hpl HP;go_wp2_with fail;go_loopw [7] (fun s7 wr => ∃ i : Nat, s7 = .int .i64 i ∧ Hid (i ≤ L.length) ∧ Hid (∀ j, j < i → okP bZ rate L j) ∧ Hid (∃ d, wr = w2.drewN d)) (fun s7 _ => L.length - (intOf s7).toNat)
 case atStart => exact ⟨0, rfl, Nat.zero_le _, (fun j hj => by omega), ⟨0, rfl⟩⟩
 case round =>
  obtain ⟨i, rfl, hi, ho, hd⟩ := hrel;obtain ⟨d, rfl⟩ := hd.out;by_cases hin : i < L.length
  ·have tn : decide ((i : Int) < (L.length : Int)) = true := decide_eq_true zw
   obtain ⟨⟨e, x, y⟩, he⟩ : ∃ p, L[i]? = some p := ⟨_, List.getElem?_eq_getElem hin⟩;have hok := okP_row (b := bZ) (rate := rate) he;obtain ⟨b1, o1, rfl, hb1, p10, p11, p12, p13, p14, p15, p16, p17, p18⟩ := H.out.get he;obtain ⟨_, b2, o2, rfl, hb2, m2⟩ := HPP.out i _ (zz8v rate (L.map (·.1)) bZ i e (by rw [List.getElem?_map, he]; rfl))
   have p20 := m2 0 _ rfl;have p21 := m2 1 _ rfl;have p22 := m2 2 _ rfl;have p23 := m2 3 _ rfl;have p24 := m2 4 _ rfl;have p25 := m2 5 _ rfl;have p26 := m2 6 _ rfl;have p27 := m2 7 _ rfl;have p28 := m2 8 _ rfl;clear m2;generalize (gateV (foldB bZ rate ((L.map (·.1)).take i)) e rate).1 = X1 at *;generalize (gateV (foldB bZ rate ((L.map (·.1)).take i)) e rate).2 = X2 at *;simp only [Nat.add_zero] at p20;have HOK := zH hok;clear hok he;by_cases hq : x = X1 ∧ y = X2
   ·have hk := zH (HOK.out.2 hq)
    obtain ⟨rfl, rfl⟩ := hq;go_wp2_with fail;go_quiet (fail);go_wp2_with fail;go_roundw
    case rel => exact ⟨i + 1, by go_num, hin, (fun j hj => by
     rcases Nat.lt_or_ge j i with h | h
     ·exact ho.out j h
     ·obtain rfl : j = i := by omega
      exact hk.out), ⟨_, rfl⟩⟩
    case measure => simp [intOf]; omega
   ·have hc : Hid (chkP bZ rate L = i) := zH (zz76 rate L bZ i (Nat.le_of_lt hin) ho.out fun _ h => hq (HOK.out.1 h))
    by_cases hx : x = X1
    ·subst hx
     have hy : ¬ y = X2 := fun h => hq ⟨rfl, h⟩
     have t1 : (y == X2) = false := by simpa using hy
     have t2 : decide (y = X2) = false := decide_eq_false hy;clear hq HOK;exact zt73
    ·have t1 : (x == X1) = false := by simpa using hx
     have t2 : decide (x = X1) = false := decide_eq_false hx;clear hq HOK;exact zt73
  ·obtain rfl : i = L.length := by have := hi.out; omega
   have tn : decide ((L.length : Int) < (L.length : Int)) = false := decide_eq_false zw;have hc : Hid (chkP bZ rate L = L.length) := zH (zz76 rate L bZ _ (Nat.le_refl _) ho.out fun h => absurd h zw)
   exact zt73
end
section
open Go Go.RowKit Go.Shelf
theorem Check_bad (A : Option Addr) (c : Nat) (n : Nat) (rate : Int) (k : Int) (w : World) (hn : n ≤ 9223372036854775807) (hk : rightC bZ n rate = k) (h0 : (k != 0) = true) :
  Calls Tryz.prog 22 #[.slice A n c, .int .i64 rate] w fun r w' => r = .returned (.tuple #[.int .i64 0, .int .i64 k]) ∧ Below w.heap.size w w' := by
 have q1 := zH (fun v wz hv => zz5r v bZ n rate wz hv (zH (by unfold Bk.Small bZ; simp)) hn)
 rw [hk] at q1;clear hk;have K := zEa (c := #[.slice A n c]) (t := 45) rfl (zE0 w);have c := zEc K;go_in;go_wp2_with fail;generalize hw : World.alloc _ _ = wb;rw [hw] at K;clear c hw;(with_reducible refine (q1.out _ _ (zH (BkAt.zero _))).mono ?_);rintro r wc ⟨rfl, hb⟩;replace K := zEk K hb;clear hb q1;go_wp2_with fail;go_ret2;exact ⟨rfl, zEb K⟩
end
section
open Go Go.RowKit Mon
section
variable {P : Program} {ops : Array Oper} {Q : Exit → Act → World → Prop}
end
theorem zEgr {a A B : World} {l : Bl} {row : Option Nat} (K : Hid (En a A l)) (hg : A.grownBy B row) (hr : ∀ r, row = some r → a.heap.size ≤ r ∧ ∀ x ∈ l, x.1 ≠ r) : Hid (En a B l) :=
 ⟨K.out.1.grown hg K.out.1.size fun k e => (hr k e).1, K.out.2.1.imp fun g c t hm h => (hg.block g (zL h) fun e => (hr g e.symm).2 _ hm rfl).trans h, K.out.2.2⟩
def RowS (Bs N : Nat) (A : World) (row : Option Nat) : Prop := ∀ r, row = some r → r = Bs ∨ (N ≤ r ∧ ∃ o : Obj, A.heap[r]? = some o ∧ o.isCells = false)
theorem zEgs {a A B : World} {l : Bl} {row : Option Nat} {Bs N : Nat} (K : Hid (En a A l)) (hg : A.grownBy B row) (hr : RowS Bs N A row) (h1 : a.heap.size ≤ Bs ∧ Bs ≤ N) (h2 : ∀ x ∈ l, x.1 < Bs) : Hid (En a B l) :=
 zEgr K hg fun r e => by
  rcases hr r e with rfl | ⟨h, _⟩
  ·exact ⟨h1.1, fun x hx => Nat.ne_of_lt (h2 x hx)⟩
  ·exact ⟨by omega, fun x hx => by have := h2 x hx; omega⟩
theorem KpX.trans {X : World → Prop} {Bs M : Nat} {A B C : World} (h : KpX X Bs M A B) (k : KpX X Bs M B C) : KpX X Bs M A C := ⟨Nat.le_trans h.1 k.1, fun x => k.2.1 (h.2.1 x), fun i cs t fr hi hk => k.2.2 i cs t fr (h.2.2 i cs t fr hi hk) hk⟩
end
section
open Go Go.RowKit Go.Shelf Mon
attribute [local go_sem] Oper.semAt_some
def EvX (w0 : World) (B : Nat) (v : Value) (L : List (Ev × Int × Int)) (W : World) : Prop := Below w0.heap.size w0 W ∧ RowOwn W B 29 v 7 (evsC L)
theorem EvX.gr {w0 A C : World} {B : Nat} {v : Value} {L : List (Ev × Int × Int)} {row : Option Nat} (h : EvX w0 B v L A) (hg : A.grownBy C row) (hr : ∀ r, row = some r → w0.heap.size ≤ r ∧ v.ownBlock ≠ some r) : EvX w0 B v L C := ⟨h.1.grown hg h.1.size fun k e => (hr k e).1, h.2.grow hg fun q hq e => (hr q e).2 hq⟩
theorem EvX.gs {w0 A C : World} {B Bs N : Nat} {v : Value} {L : List (Ev × Int × Int)} {row : Option Nat} (h : EvX w0 B v L A) (hg : A.grownBy C row) (hr : RowS Bs N A row) (h1 : w0.heap.size ≤ Bs ∧ Bs ≤ N) (hv : ∀ q, v.ownBlock = some q → q < Bs) : EvX w0 B v L C :=
 h.gr hg fun r e => by
  rcases hr r e with rfl | ⟨h2, o, ho, hc⟩
  ·exact ⟨h1.1, fun e2 => by have := hv _ e2; omega⟩
  ·exact ⟨by omega, fun e2 => by have := hv _ e2; omega⟩
theorem EvX.call {w0 A C : World} {B : Nat} {v : Value} {L : List (Ev × Int × Int)} (h : EvX w0 B v L A) (hb : Below A.heap.size A C) : EvX w0 B v L C := ⟨h.1.trans (hb.mono h.1.size), h.2.kept hb⟩
theorem EvX.st {w0 : World} {B Bs : Nat} {v : Value} {L : List (Ev × Int × Int)} {LE : List Ev} (hL : L.map (·.1) = LE) (hT : Hid (Law16 w0)) (h1 : w0.heap.size ≤ Bs) (hv : ∀ q, v.ownBlock = some q → q < Bs) : StX (EvX w0 B v L) Bs v LE :=
 hL ▸ ⟨fun W h => hT.out.call h.1, fun W h => zzbq h.2, fun A C h hb => h.call hb, fun A cs us h _ => h.gr (zz38 us 0 A) fun r e => by cases e; exact ⟨h1, fun e2 => by have := hv _ e2; omega⟩⟩
theorem EvX.kp {w0 A : World} {B Bs M g : Nat} {v : Value} {L : List (Ev × Int × Int)} (h1 : w0.heap.size ≤ g) (h2 : g < Bs) (h3 : g < M) (hv : v.ownBlock ≠ some g) (us : List Value) : KpX (EvX w0 B v L) Bs M A (putC A g 0 us) :=
 ⟨by rw [zz2i]; exact Nat.le_refl _, fun h => h.gr (zz38 us 0 A) fun r e => by cases e; exact ⟨h1, hv⟩, fun k cs t fr hk hr => zz03 zw hk⟩
theorem EvX.kb {w0 A C : World} {B Bs M : Nat} {v : Value} {L : List (Ev × Int × Int)} (hb : Below A.heap.size A C) : KpX (EvX w0 B v L) Bs M A C := ⟨hb.size, fun h => h.call hb, fun k cs t fr hk _ => (hb.block k (zL hk)).trans hk⟩
theorem EvX.ko {w0 W : World} {B Bs N M l : Nat} {v : Value} {L : List (Ev × Int × Int)} {o : Obj} (o' : Obj) (h1 : w0.heap.size ≤ Bs ∧ Bs ≤ N) (hv : ∀ q, v.ownBlock = some q → q < Bs) (hl : N ≤ l) (hk : W.heap[l]? = some o) (ho : o.isCells = false) : KpX (EvX w0 B v L) Bs M W (W.putObj l o') :=
 ⟨by simp, fun h => h.gs (grownBy_putObj' W l o') (fun r e => by cases e; exact .inr ⟨hl, o, hk, ho⟩) h1 hv, fun k cs t fr h _ => by
  rw [World.putObj_heap_other (fun e => ?_)]
  ·exact h
  ·subst e; rw [hk] at h; cases h; cases ho⟩
theorem zt55 {p : Prop} (h : p := by
 refine zM [0, 1, 2, 3, 4, 5, 6, 7] 0 hb ?_;simp only [opsAt, zA];refine zq (fun wz hC => zC (zK KL hC.out).out) ?_
 iterate 3 refine zp ?_
 refine zq M1.out ?_;refine zp ?_;refine zq (fun wz hC => zC (zK hS hC.out).out) ?_
 refine zp ?_;unfold wpPure;go_simp;refine ⟨by kernel_rfl, ?_⟩
 rw [zz31]
 gi_wp2_with (fail)
 exact ⟨hfin.out.1, rfl, hfin.out.2⟩) : p := h
theorem zzce (A : Option Addr) (c : Nat) (L : List (Ev × Int × Int)) (rate : Int) (w : World) (hT : Hid (Law16 w)) (h : Hid (PrsAt w (.slice A L.length c) L)) (hE : Hid (∀ e ∈ L.map (·.1), e.I64s)) (hr0 : Hid (0 ≤ rate ∧ rate ≤ 1000)) (hln : L.length ≤ 60000) :
  Calls Tryz.prog 22 #[.slice A L.length c, .int .i64 rate] w fun r w' => r = .returned (.tuple #[.int .i64 (chkP bZ rate L), .int .i64 0]) ∧ Below w.heap.size w w' := by
 have q1 : Hid (∀ (v : Value) (wz : World), Hid (BkAt wz v bZ) → Calls Tryz.prog 48 #[v, .int .i64 L.length, .int .i64 rate] wz fun e w' => e = .returned (.int .i64 0) ∧ Below wz.heap.size wz w') := (show _ from fun v wz hv => by
  have h := zz5r v bZ L.length rate wz hv (zH (by unfold Bk.Small bZ; simp)) zw
  rw [show rightC bZ L.length rate = 0 from by unfold rightC; rw [if_neg zw, bZ_good.may, decide_eq_true hr0.out.1, decide_eq_true hr0.out.2, if_pos (by rfl), if_neg (by show ¬ _ < (0 : Int) + _; omega)]] at h
  exact h)
 have q2 := zH (fun wz hz => zzcc A c L wz hz zw)
 obtain ⟨LE, hLE⟩ : ∃ LE, L.map (·.1) = LE := ⟨_, rfl⟩;have hlE : LE.length = L.length := by rw [← hLE, List.length_map]
 have HG : Hid (∀ pre x, pre ++ [x] <+: LE → pre.length < L.length ∧ ∃ X Y, L[pre.length]? = some (x, X, Y) ∧ (okP bZ rate L pre.length ↔ (X = (gateV (foldB bZ rate pre) x rate).1 ∧ Y = (gateV (foldB bZ rate pre) x rate).2))) := (show _ from fun pre x ⟨t, ht⟩ => by
  have h2 : LE[pre.length]? = some x := by rw [← ht]; simp
  rw [← hLE, List.getElem?_map] at h2;obtain ⟨⟨e, X, Y⟩, h3, h4⟩ := Option.map_eq_some_iff.1 h2;obtain rfl : e = x := h4;refine ⟨(List.getElem?_eq_some_iff.1 h3).1, X, Y, h3, ?_⟩;have h5 := okP_row (b := bZ) (rate := rate) h3
  rwa [show (L.map (·.1)).take pre.length = pre by rw [hLE, ← ht]; simp] at h5)
 have HLE := zH hLE;have HlE := zH hlE;have hEE : Hid (∀ e ∈ LE, e.I64s) := zH (hLE ▸ hE.out);clear hLE hlE;refine (callsIn_wide (n := 3)).1 ?_;have h1 : 1 ≤ 3 := by omega
 have hro : Fence.wide.round = none := rfl;have K := zEa (c := #[.slice A L.length c]) (t := 45) rfl (zE0 w);have c := zEc K;refine callsIn_of_wp_marks Tryz.func22 rfl trivial ?_ hro;simp only [Tryz.ntmps22, List.size_toArray, List.length_cons, List.length_nil, Nat.reduceAdd, Nat.reduceSub, Array.replicate_succ, Array.replicate_zero, List.push_toArray, List.append_toArray, List.nil_append, List.cons_append]
 gi_wp2_with (fail)
 generalize hw : World.alloc _ _ = wb;rw [hw] at K;clear c hw;refine ⟨trivial, callsIn_wide.2 ((q1.out _ _ (zH (BkAt.zero _))).mono ?_)⟩;rintro r w1 ⟨rfl, hb⟩;replace K := zEk K hb;clear hb q1;have n0 : w.heap.size < w1.heap.size := zL (zEg K);have c := zEc K
 gi_wp2_with (fail)
 clear c;generalize hw : World.alloc _ _ = wo;replace K := zEa hw K;clear hw;refine ⟨trivial, callsIn_wide.2 ((q2.out _ (zH (h.out.call (zEb K)))).mono ?_)⟩;rintro r w2 ⟨v, rfl, hO, hb⟩;obtain ⟨AE, cE, hv⟩ := (zzbq hO).form;rw [HLE.out] at hv;subst hv;have NE : Hid (∀ q, (Value.slice AE LE.length cE).ownBlock = some q → wo.heap.size ≤ q ∧ q < w2.heap.size) := zH fun q hq => hO.block hq
 have n1 : w1.heap.size < wo.heap.size := zL (zEg K);have n2 := hb.size;replace K := zEk K hb;have HX : Hid (EvX w wo.heap.size (.slice AE LE.length cE) L w2) := zH ⟨zEb K, hO⟩;clear hO hb q2
 gi_wp2_with (fail)
 refine ⟨trivial, callsIn_wide.2 ((zz6m none none none none AE 0 0 0 0 LE.length cE bZ rate w2).mono ?_)⟩;rintro r w3 ⟨rfl, hw3⟩;have hb3 : Below w2.heap.size w2 w3 := by rw [hw3]; exact zz01 (zz01 zBa (by simp) _) (by simp; omega) _
 have S0 : ZB w3 w2.heap.size BZ 27 := by rw [hw3]; exact zz05 (zz05 (zz02 _ _) _) _
 have S1 : ZB w3 (w2.heap.size + 1) #[.slice AE LE.length cE] 44 := by rw [hw3]; exact zz05 (zz0d _ _ _ (by simp)) _
 have S2 : ZB w3 (w2.heap.size + 2) #[rate] 3 := by rw [hw3]; exact zz0d _ _ _ (by simp)
 replace K := zEk K hb3;replace HX := zH (HX.out.call hb3);have n3 : w2.heap.size + 2 < w3.heap.size := zL S2.out;clear hw3 hb3
 gi_wp2_with (fail)
 have HV : Hid (∀ q, (Value.slice AE LE.length cE).ownBlock = some q → q < w2.heap.size) := zH fun q hq => (NE.out q hq).2
 have HW : Hid ((Value.slice AE LE.length cE).ownBlock ≠ some w1.heap.size) := zH fun e => by have := (NE.out _ e).1; omega
 refine zz4f hro h1 (gf := 114) (lb := #[.pointer (some ⟨w2.heap.size + 1, 0, none⟩), .pointer (some ⟨w2.heap.size, 0, none⟩), .pointer (some ⟨w2.heap.size + 2, 0, none⟩)]) rfl trivial (enters_of Tryz.func114 zk rfl)
  (EnF bZ rate) (KpX (EvX w wo.heap.size (.slice AE LE.length cE) L) w2.heap.size) LE w2.heap.size
  (fun pre x args M W h => by obtain ⟨_, _, _, _, _, _, _, _, rfl, _⟩ := h; rfl) (fun h k => h.trans k) (fun M W l o o' hl ho hc => EvX.ko (N := w3.heap.size) o' ⟨by omega, by omega⟩ HV.out hl ho hc)
  (zz8d bZ LE rate _ _ w3 w2.heap.size none none none none AE 0 0 0 0 cE (zH (EvX.st HLE.out hT zw HV.out)) HX (zH fun _ _ _ h => h) (zH (BkAt.zero _)) (zH bZ_good) hEE hr0 (zH (by show (0 : Int) + _ ≤ _; have := HlE.out; omega)) (zH (by show 0 + _ ≤ _; have := HlE.out; omega)) (by have := HlE.out; omega) S0 S1 S2) zw
  (fun pre M W => Hid (EvX w wo.heap.size (.slice AE LE.length cE) L W) ∧ Hid (En w W [(w1.heap.size, #[.int .i64 (pre.length : Nat)], 3), (w.heap.size, #[.slice A L.length c], 45)]) ∧ Hid (∀ j, j < pre.length → okP bZ rate L j))
  (fun cd pre W => cd = .exit 0 ∧ Hid (En w W [(w1.heap.size, #[.int .i64 (chkP bZ rate L : Nat)], 3), (w.heap.size, #[.slice A L.length c], 45)]))
  (fun M pre A B row ⟨hx, hk, ho⟩ hg hr => ⟨hx.out.gs hg hr ⟨by omega, by omega⟩ HV.out, zEgs hk hg hr ⟨by omega, by omega⟩ (by simp; omega), ho⟩)
  (fun pre M W h => h)
  (fun cd pre A B row ⟨hc, hk⟩ hg hr => ⟨hc, zEgs hk hg hr ⟨by omega, by omega⟩ (by simp; omega)⟩)
  ⟨HX, K, zH fun j hj => by simp at hj⟩
  (fun pre x M a' W => ∃ (g : Nat) (b0 b1 b2 b3 b4 : Value), a' = { tmps := #[.slice A L.length c, .int .i64 rate, .pointer (some ⟨w.heap.size, 0, none⟩), undef, .int .i64 0, .int .i64 0, .int .i64 0, .pointer (some ⟨w1.heap.size, 0, none⟩), .int .i64 (pre.length : Nat), .pointer (some ⟨g, 0, none⟩), .agg BZ, .slice A L.length c, .int .i64 L.length, .int .i64 rate, .int .i64 0, .int .i64 0, .bool false, undef, .agg BZ, .slice A L.length c, .slice AE LE.length cE, .int .i64 rate, .func (.func 114) #[] #[.pointer (some ⟨w2.heap.size + 1, 0, none⟩), .pointer (some ⟨w2.heap.size, 0, none⟩), .pointer (some ⟨w2.heap.size + 2, 0, none⟩)], .int .i64 (pre.length : Nat), .agg #[.int .i64 (gateV (foldB bZ rate pre) x rate).1, .int .i64 (gateV (foldB bZ rate pre) x rate).2, b0, b1, b2, b3, b4], undef, undef, undef, undef, undef, undef, undef, undef, undef, undef, undef], defers := [] } ∧ M ≤ g ∧ ZB W g #[.int .i64 (gateV (foldB bZ rate pre) x rate).1, .int .i64 (gateV (foldB bZ rate pre) x rate).2, b0, b1, b2, b3, b4] 104)
  ?hAx ?assign ?body ?done ?stop
 case hAx =>
  rintro pre x M a' W l o o' ⟨g, b0, b1, b2, b3, b4, rfl, hg, hk⟩ hl ho hc;refine ⟨g, b0, b1, b2, b3, b4, rfl, hg, zH ?_⟩;rw [World.putObj_heap_other (fun e => ?_)]
  ·exact hk.out
  ·subst e
   have h2 := hk.out;rw [ho] at h2;cases h2;cases hc
 case assign =>
  rintro l pre x args M W K' hwM hMW ⟨hx, hk, ho⟩ ⟨Y1, e1, Y2, e2, Y3, e3, Y4, e4, rfl, hO⟩ hpre hK;have hbW : ∀ ob, Below W.heap.size W (W.alloc ob) := fun ob => zBa
  have hK2 := zH (hK _ (W.alloc (.cells #[.int .i64 (gateV (foldB bZ rate pre) x rate).1, .int .i64 (gateV (foldB bZ rate pre) x rate).2, .slice Y1 (foldB bZ rate (pre ++ [x])).h.length e1, .slice Y2 (foldB bZ rate (pre ++ [x])).s.length e2, .slice Y3 (foldB bZ rate (pre ++ [x])).o.length e3, .slice Y4 (foldB bZ rate (pre ++ [x])).r.length e4, .int .i64 (foldB bZ rate (pre ++ [x])).n] 104)) ((KeepsOthers.alloc _ _).from _) (EvX.kb (hbW _)) ⟨hx.out.call (hbW _), zEk hk (hbW _), ho⟩ ⟨W.heap.size, _, _, _, _, _, rfl, hMW, zH (zz02 _ _)⟩)
  clear hK hO hbW hx hk
  gi_wp2
  exact hK2.out
 case body =>
  rintro l pre x M a' W hwM hMW ⟨HX, K, ho⟩ ⟨g, b0, b1, b2, b3, b4, rfl, hMg, hS⟩ hpre;obtain ⟨hlt, X, Y, hi, hok⟩ := HG.out pre x hpre;obtain ⟨X1, hX1⟩ : ∃ X1, (gateV (foldB bZ rate pre) x rate).1 = X1 := ⟨_, rfl⟩;obtain ⟨X2, hX2⟩ : ∃ X2, (gateV (foldB bZ rate pre) x rate).2 = X2 := ⟨_, rfl⟩;rw [hX1, hX2] at hS hok;simp only [hX1, hX2];have hi8 : (pre.length : Int) < (L.length : Int) := by omega
  have hPL : pre.length ≤ 60000 := by omega
  have HP := zH (h.out.call (zEb K));obtain ⟨bb, oo, rfl, _⟩ := HP.out.get hi;have M1 : Hid (∀ wz : World, Hid (Below W.heap.size W wz) → wz.cell? ⟨bb, oo + pre.length * 9 + 7, none⟩ = some (.int .i64 X) ∧ wz.cell? ⟨bb, oo + pre.length * 9 + 8, none⟩ = some (.int .i64 Y)) := zH fun wz hb => by
   obtain ⟨b1, o1, hA, _, _, _, _, _, _, _, _, p7, p8⟩ := (HP.out.call hb.out).get hi;injection hA with hA
   injection hA with hb ho _
   subst hb ho;exact ⟨p7, p8⟩
  have HOK := zH hok;have hsn : (pre ++ [x]).length = pre.length + 1 := by simp
  have HSN := zH hsn;have KL := zH (K.out.2.1.2.1.2);clear hX1 hX2 hok hi hsn
  gi_wp2_with (fail)
  refine zz3r [] (C := fun wz : World => Hid (Below W.heap.size W wz)) 8 (zb 8 0) zk zk zk zk ?_
  obtain ⟨wd, hwd⟩ : ∃ wd : World, { W with drawn := W.drawn + 1 } = wd := ⟨_, rfl⟩
  rw [hwd];have hb : Hid (Below W.heap.size W wd) := by rw [← hwd]; exact (Below.refl _ _).drew
  clear hwd;by_cases hq : X = X1 ∧ Y = X2
  ·have hk := zH (HOK.out.2 hq)
   obtain ⟨rfl, rfl⟩ := hq;refine zM [0, 1, 2, 3, 4, 5, 6, 7] 0 hb ?_;simp only [opsAt, zA];refine zq (fun wz hC => zC (zK KL hC.out).out) ?_
   iterate 3 refine zp ?_
   refine zq M1.out ?_;refine zp ?_;refine zq (fun wz hC => zC (zK hS hC.out).out) ?_
   refine zp ?_;unfold wpPure;go_simp;refine ⟨by kernel_rfl, ?_⟩
   rw [zz31];have K2 := zEk K hb.out;have c := zEx K2
   gi_wp2_with (fail)
   generalize hs : World.setCell _ _ _ = ws;have E : putC wd w1.heap.size 0 [.int .i64 (pre.length + 1 : Nat)] = ws := hs;have kp : KpX (EvX w wo.heap.size (.slice AE LE.length cE) L) w2.heap.size M W ws := (EvX.kb hb.out).trans (E ▸ EvX.kp zw zw zw HW.out _);refine ⟨((zz3o hb.out).trans (E ▸ zz37 _ 0 wd)).from _, kp, zH (kp.2.1 HX.out), ?_, zH fun j hj => ?_⟩
   ·rw [HSN.out]; exact zEp E K2
   ·rw [HSN.out] at hj
    rcases Nat.lt_or_ge j pre.length with h | h
    ·exact ho.out j h
    ·obtain rfl : j = pre.length := by omega
     exact hk.out
  ·have hc : Hid (chkP bZ rate L = pre.length) := zH (zz76 rate L bZ pre.length (Nat.le_of_lt hlt) ho.out fun _ h => hq (HOK.out.1 h))
   have hfin : Hid (KeepsFrom w3.heap.size W wd ∧ Hid (En w wd [(w1.heap.size, #[.int .i64 (chkP bZ rate L : Nat)], 3), (w.heap.size, #[.slice (some ⟨bb, oo, none⟩) L.length c], 45)])) := zH ⟨(zz3o hb.out).from _, by rw [hc.out]; exact zEk K hb.out⟩
   by_cases hx : X = X1
   ·subst hx
    have hy : ¬ Y = X2 := fun h => hq ⟨rfl, h⟩
    have t1 : (Y == X2) = false := by simpa using hy
    have t2 : decide (Y = X2) = false := decide_eq_false hy;clear hq HOK hc hy;exact zt55
   ·have t1 : (X == X1) = false := by simpa using hx
    have t2 : decide (X = X1) = false := decide_eq_false hx;clear hq HOK hc hx;exact zt55
 case done =>
  rintro D M W hD ⟨HX, K, ho⟩ hK;have hc : Hid (chkP bZ rate L = LE.length) := zH (by rw [HlE.out]; exact zz76 rate L bZ _ (Nat.le_refl _) (HlE.out ▸ ho.out) fun h => absurd h zw)
  have HK := zH hK;clear hK;have c := zEc K
  gi_wp2_with (fail)
  refine ⟨by simp, .inl ⟨_, _, rfl, run_takeDeferred HK.out, ?_⟩⟩
  exact ⟨_, results_tmp2 rfl _ _ _, by rw [hc.out]; rfl, (zEb K).trans (belowK_b (w := w) (Nat.le_refl _) W D _ _ zw HK.out rfl rfl)⟩
 case stop =>
  rintro D cd pre W hD hpre ⟨rfl, K⟩ hK;have HK := zH hK;clear hK;have c := zEc K
  gi_wp2_with (fail)
  refine ⟨by simp, .inl ⟨_, _, rfl, run_takeDeferred HK.out, ?_⟩⟩
  exact ⟨_, results_tmp2 rfl _ _ _, rfl, (zEb K).trans (belowK_b (w := w) (Nat.le_refl _) W D _ _ zw HK.out rfl rfl)⟩
end
section
open Go Go.RowKit Mon
theorem zz9k {b : Bk} {n : Nat} {rate : Int} (h : rightC b n rate = 0) : b.mayB = true ∧ 0 ≤ rate ∧ rate ≤ 1000 ∧ b.n + n ≤ 1099511627776 ∧ n ≤ 65536 := by
 unfold rightC at h;by_cases h1 : 65536 < n
 ·rw [if_pos h1] at h; cases h
 rw [if_neg h1] at h;by_cases h2 : (b.mayB && (decide (0 ≤ rate) && decide (rate ≤ 1000))) = true
 ·rw [if_pos h2] at h
  by_cases h3 : 1099511627776 < b.n + n
  ·rw [if_pos h3] at h; cases h
  ·simp only [Bool.and_eq_true, decide_eq_true_eq] at h2
   exact ⟨h2.1, h2.2.1, h2.2.2, by omega, by omega⟩
 ·rw [if_neg h2] at h; cases h
theorem zz7n {b : Bk} {n : Nat} {rate k : Int} (h : rightC b n rate = k) (hk : k ≠ 0) (hn : ¬ 65536 < n) : (b.mayB = false ∧ k = 1) ∨ (b.mayB = true ∧ decide (rate < 0) = true ∧ k = 1) ∨ (b.mayB = true ∧ decide (rate < 0) = false ∧ decide (1000 < rate) = true ∧ k = 1) ∨ (b.mayB = true ∧ decide (rate < 0) = false ∧ decide (1000 < rate) = false ∧ decide (1099511627776 < b.n + (n : Int)) = true ∧ IntKind.i64.wrap (b.n + (n : Int)) = b.n + (n : Int) ∧ k = 11) := by
 unfold rightC at h;rw [if_neg hn] at h;cases hm : b.mayB with
 | false =>
  rw [hm, if_neg (by simp)] at h
  exact .inl ⟨rfl, h.symm⟩
 | true =>
 rw [hm] at h;by_cases h1 : rate < 0
 ·rw [if_neg (by simp; omega)] at h
  exact .inr (.inl ⟨rfl, decide_eq_true h1, h.symm⟩)
 by_cases h2 : 1000 < rate
 ·rw [if_neg (by simp; omega)] at h
  exact .inr (.inr (.inl ⟨rfl, decide_eq_false h1, decide_eq_true h2, h.symm⟩))
 rw [if_pos (by simp; omega)] at h
 by_cases h3 : 1099511627776 < b.n + (n : Int)
 ·rw [if_pos h3] at h
  have hf := (Bk.mayB_iff b).1 hm;have hn0 := hf.n0;have hn1 := hf.n1;exact .inr (.inr (.inr ⟨rfl, decide_eq_false h1, decide_eq_false h2, decide_eq_true h3, by rw [IntKind.wrap_i64]; omega, h.symm⟩))
 ·rw [if_neg h3] at h
  exact absurd h.symm hk
end
section
open Go Go.RowKit Go.Shelf Mon
theorem zz8u (rate : Int) : ∀ (l : List Ev) (b : Bk), (foldQ b rate l).map (·.1) = l
 | [], _ => rfl
 | e :: l, b => by rw [foldQ, List.map_cons, zz8u rate l]
theorem zt60 {p : Prop} (h : p := by
 go_wp2_with fail;(with_reducible refine (q1.out _).mono ?_);rintro r wc2 ⟨rfl, hb⟩;replace K := zEk K hb;clear hb;go_wp2_with fail;go_ret;exact ⟨rfl, zEb K⟩) : p := h
theorem zz56 (A : Option Addr) (cA : Nat) (L : List (Ev × Int × Int)) (rate : Int) (w : World) (hT : Hid (Law16 w)) (HL : Hid (PrsAt w (.slice A L.length cA) L)) (hE : Hid (∀ e ∈ L.map (·.1), e.I64s)) (hl : L.length ≤ 4611686018427387903) :
  Calls Tryz.prog 6 #[.slice A L.length cA, .int .i64 rate] w fun r w' => r = .returned (.bool true) ∧ Below w.heap.size w w' := by
 have t0 : ∀ x : Int, (x == x) = true := fun x => by simp
 go_in;go_wp2_with fail;(with_reducible refine (alive18 _ hT).mono ?_);rintro r wc1 ⟨rfl, hb⟩;have K := zEk (zE0 w) hb;clear hb;by_cases h1 : 60 < L.length ∧ L.length ≤ 65536
 ·have t1 : decide (60 < (L.length : Int)) = true := decide_eq_true zw
  have t2 : decide ((L.length : Int) ≤ 65536) = true := decide_eq_true zw;go_wp2_with fail;go_ret;exact ⟨rfl, zEb K⟩
 obtain ⟨k, hk⟩ : ∃ k, rightC bZ L.length rate = k := ⟨_, rfl⟩;by_cases hk0 : k = 0
 ·obtain ⟨_, hr0, hr1, _, h2⟩ := zz9k (hk.trans hk0)
  have hln : L.length ≤ 60 := by omega
  have t1 : decide (60 < (L.length : Int)) = false := decide_eq_false zw;have t3 : decide (65536 < (L.length : Int)) = false := decide_eq_false zw;have t4 : decide (rate < 0) = false := decide_eq_false zw;have t5 : decide (1000 < rate) = false := decide_eq_false zw;have HR0 : Hid (0 ≤ rate ∧ rate ≤ 1000) := ⟨hr0, hr1⟩;obtain ⟨LE, hLE⟩ : ∃ LE, L.map (·.1) = LE := ⟨_, rfl⟩;have hlE : LE.length = L.length := by rw [← hLE, List.length_map]
  have q1 := zH (fun wz h1 h2 => zzce A cA L rate wz h1 h2 hE HR0 zw)
  have q2 := zH (fun wz h2 => zz5c A cA L wz h2 zw)
  have q5 := zH (fun wz h2 => zzb0 A cA L rate wz h2 hE HR0 zw)
  rw [hLE] at hE;have q3 := zH (fun A' c' wz h1 (h2 : Hid (EvsAt wz (.slice A' LE.length c') LE)) => zz4y none none none none A' 0 0 0 0 c' bZ LE rate wz h1 (zH (BkAt.zero wz)) h2 (zH bZ_good) hE HR0 (zH (by show (0 : Int) + _ ≤ _; omega)) (zH (by show 0 + _ ≤ _; omega)) zw)
  have q3 : Hid (∀ A' c' wz, Hid (Law16 wz) → Hid (EvsAt wz (.slice A' LE.length c') LE) → Calls Tryz.prog 16 #[.agg BZ, .slice A' LE.length c', .int .i64 rate] wz fun r w' => ∃ vp vb, r = .returned (.tuple #[vp, vb, .int .i64 0]) ∧ RowOwn w' wz.heap.size 98 vp 9 (foldP bZ rate LE) ∧ BkOwn w' wz.heap.size vb (foldB bZ rate LE) ∧ Below wz.heap.size wz w') := q3
  obtain ⟨LQ, hLQ⟩ : ∃ LQ, foldQ bZ rate LE = LQ := ⟨_, rfl⟩;have hq1 : LQ.map prC = foldP bZ rate LE := by rw [← hLQ, zz5g]
  have hq2 : LQ.map (·.1) = LE := by rw [← hLQ, zz8u]
  have hq3 : LQ.length = L.length := by rw [← hlE, ← hq2, List.length_map]
  have hq4 : chkP bZ rate LQ = L.length := by rw [← hLQ, zz75, hlE]
  have q4 := zH (fun A' c' wz h1 h2 => zzce A' c' LQ rate wz h1 h2 (by rw [hq2]; exact hE) HR0 zw)
  rw [hq3, hq4] at q4;rw [← hq1] at q3;have HQ := zH (show LQ.length = L.length ∧ evsC L = LE.map Ev.cells from ⟨hq3, by rw [← hLE]; rfl⟩)
  clear hk hk0 hr0 hr1 h2 h1 hLE hLQ hq1 hq2 hq3 hq4 hlE;go_wp2_with fail;(with_reducible refine (q1.out _ (zH (hT.out.call (zEb K))) (zH (HL.out.call (zEb K)))).mono ?_);rintro r wc2 ⟨rfl, hb⟩;replace K := zEk K hb;clear hb q1;go_wp2_with fail;(with_reducible refine (q2.out _ (zH (HL.out.call (zEb K)))).mono ?_);rintro r wc3 ⟨v, rfl, hO, hb⟩;replace K := zEk K hb;have HE : Hid (EvsAt wc3 v LE) := zH (by have := hO.row; rw [HQ.out.2] at this; exact this)
  obtain ⟨A1, c1, rfl⟩ := HE.out.form;clear hb hO q2;go_wp2_with fail;(with_reducible refine (q3.out _ _ _ (zH (hT.out.call (zEb K))) HE).mono ?_);rintro r wc4 ⟨vp, vb, rfl, hP, hO, hb⟩;replace K := zEk K hb;obtain ⟨U1, u1, U2, u2, U3, u3, U4, u4, rfl⟩ := hO.at.forms;obtain ⟨A3, c3, hv⟩ := hP.form;rw [List.length_map, HQ.out.1] at hv;subst hv;have HP : Hid (PrsAt wc4 (.slice A3 L.length c3) LQ) := zH hP.row;clear hb hO hP q3 HE;go_wp2_with fail;generalize hw : World.alloc _ _ = wa;replace HP := zH (HP.out.call (zM0 hw));replace K := zEa hw K;clear hw;(with_reducible refine (q4.out _ _ _ (zH (hT.out.call (zEb K))) HP).mono ?_);rintro r wc5 ⟨rfl, hb⟩;replace K := zEk K hb;clear hb q4 HP;go_wp2_with fail;(with_reducible refine (q5.out _ (zH (HL.out.call (zEb K)))).mono ?_);rintro r wc6 ⟨rfl, hb⟩;replace K := zEk K hb;clear hb q5;go_wp2_with fail;go_ret;exact ⟨rfl, zEb K⟩
 have q1 := zH (fun wz => Check_bad A cA L.length rate k wz zw hk (by simpa using hk0))
 by_cases h2 : 65536 < L.length
 ·have t1 : decide (60 < (L.length : Int)) = true := decide_eq_true zw
  have t2 : decide ((L.length : Int) ≤ 65536) = false := decide_eq_false zw;have t3 : decide (65536 < (L.length : Int)) = true := decide_eq_true zw;obtain rfl : k = 4 := by rw [← hk]; unfold rightC; rw [if_pos h2]
  clear hk hk0 h1 h2;exact zt60
 have t1 : decide (60 < (L.length : Int)) = false := decide_eq_false zw;have t3 : decide (65536 < (L.length : Int)) = false := decide_eq_false zw;have hcase := zz7n hk hk0 h2;have hz := bZ_good.may;have hn0 : bZ.n = 0 := rfl;clear hk hk0 h1;rcases hcase with ⟨m, rfl⟩ | ⟨m, t4, rfl⟩ | ⟨m, t4, t5, rfl⟩ | ⟨m, t4, t5, t6, t7, rfl⟩
 ·rw [hz] at m; cases m
 ·clear m h2 hz hn0
  exact zt60
 ·clear m h2 hz hn0
  exact zt60
 ·have := of_decide_eq_true t6
  rw [hn0] at this;omega
end
end Go.Proofs.YtajogedbacpohaaGreatDoor
