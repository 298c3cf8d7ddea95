/- Part 21 of what the claim rests on. -/
import Derived.Test.YtajogedbacpohaaGreatDoorE00
import Derived.Test.YtajogedbacpohaaGreatDoorE13
import Derived.Test.YtajogedbacpohaaGreatDoorE14
import Derived.Test.YtajogedbacpohaaGreatDoorE15
import Derived.Test.YtajogedbacpohaaGreatDoorE16
import Derived.Test.YtajogedbacpohaaGreatDoorE19
set_option linter.unusedVariables false
set_option linter.unusedSimpArgs false
set_option maxRecDepth 1000000
set_option maxHeartbeats 32000000
namespace Go.Proofs.YtajogedbacpohaaGreatDoor
section
open Go Go.RowKit Mon Bg
theorem zt63 {p : Prop} (h : p := by
 have c := zEc K;go_wp2_with fail;clear c;(with_reducible refine (zz46 K L JN.out JE.out).mono ?_);rintro r w36 ⟨A36, k36, c36, d36, rfl, L2, K2⟩;replace L := L2;replace K := K2;clear L2 K2;have c := zEx K;go_wp2_with fail;generalize hs : World.setCell _ _ _ = w37;clear c;replace K := zEl hs L K;clear hs L;obtain ⟨L, K⟩ := K;go_ret;exact zEf K L hall) : p := h
theorem zt77 {p : Prop} (h : p := by
 rintro r w10 ⟨A10, k10, c10, d10, rfl, L2, K2⟩;replace L := L2;replace K := K2;clear L2 K2;have c := zEx K;go_wp2_with fail;generalize hs : World.setCell _ _ _ = w11;clear c;replace K := zEl hs L K;clear hs L;obtain ⟨L, K⟩ := K;go_ret;exact zEf K L hall) : p := h
theorem zzav (vh vs vo vr : Value) (b : Bk) (e : Ev) (rate : Int) (w : World) (B0 : Hid (BkAt w (.agg #[vh, vs, vo, vr, b.n]) b)) (hs : Hid b.Small) (hi : Hid b.I64s) (hm : Hid (b.mayB = true)) (hE : Hid e.I64s) (hrt : Hid (I64 rate)) (hpr : Hid (∀ sym, 0 ≤ priceOf b sym)) :
  Calls Tryz.prog 39 #[.agg #[vh, vs, vo, vr, b.n], e.val, .int .i64 rate] w fun r w' => ∃ v, r = .returned v ∧ StepsOwn w' w.heap.size v (gateL b e rate) ∧ Below w.heap.size w w' := by
 unfold Ev.val;obtain ⟨_, _, _, _, hv, r1, r2, r3, r4⟩ := B0.out;injection hv with hv
 simp only [Array.mk.injEq, List.cons.injEq, and_true] at hv;obtain ⟨rfl, rfl, rfl, rfl, _⟩ := hv;have LH : Hid (∀ r ∈ b.h, r.length = 4) := (by obtain ⟨_, _, _, h, _⟩ := r1; exact h)
 have LO : Hid (∀ r ∈ b.o, r.length = 6) := (by obtain ⟨_, _, _, h, _⟩ := r3; exact h)
 have LR : Hid (∀ r ∈ b.r, r.length = 2) := (by obtain ⟨_, _, _, h, _⟩ := r4; exact h)
 obtain ⟨Ah, ch, rfl, _⟩ := r1;obtain ⟨As, cs, rfl, _⟩ := r2;obtain ⟨Ao, co, rfl, _⟩ := r3;obtain ⟨Ar, cr, rfl, _⟩ := r4;have F1 : b.h.length ≤ 1000000 ∧ b.o.length ≤ 1000000 ∧ b.r.length ≤ 1000000 := by have := hs.out; unfold Bk.Small at this; omega
 have HL1 := zH F1;clear F1;obtain ⟨rh, FH, hl1, hx1⟩ := zz16 LH.out (isId e.acc)
 match rh, hl1, hx1 with
 | [h0, h1, h2, h3], _, hx1 =>
 have hF : FH = hasH b e.acc := zz0q hx1;subst hF;have HX1 := zH hx1;clear hx1;obtain ⟨ro, FO, hl2, hx2⟩ := zz16 LO.out (isId e.ord)
 match ro, hl2, hx2 with
 | [o0, o1, o2, o3, o4, o5], _, hx2 =>
 have hFo : FO = hasO b e.ord := zz0q hx2;subst hFo;have HX2 := zH hx2;clear hx2;obtain ⟨rr, FR, hl3, hx3⟩ := zz16 LR.out (isId e.sym)
 match rr, hl3, hx3 with
 | [r0, r1], _, hx3 =>
 have hFr : FR = hasR b e.sym := zz0q hx3;subst hFr;have HX3 := zH hx3;clear hx3;have hrH : Hid (recH b e.acc = [h0, h1, h2, h3]) := (show _ = _ from by unfold recH; rw [HX1.out])
 have hrO : Hid (recO b e.ord = [o0, o1, o2, o3, o4, o5]) := (show _ = _ from by unfold recO; rw [HX2.out])
 have K := zEa2 (c := (BF Ah ch As cs Ao co Ar cr b b.n)) (t := 27) (c2 := #[e.kind, e.acc, e.ord, e.sym, e.side, e.qty, e.px]) (t2 := 29) rfl (zE0 w);have c := zEc K;go_in;go_wp2_with fail;generalize hw : World.alloc _ _ = wb;rw [hw] at K;clear c hw;(with_reducible refine (zz1j _ b e.acc h0 h1 h2 h3 (hasH b e.acc) _ (zH (B0.out.call (zEb K))) HL1.out.1 HX1).mono ?_);rintro r wc0 ⟨rfl, hb⟩;replace K := zEk K hb;clear hb;have c := zEc K;go_wp2_with fail;clear c;generalize hw : World.alloc _ _ = wa0;replace K := zEa hw K;clear hw;(with_reducible refine (zz8i _ b e.ord o0 o1 o2 o3 o4 o5 (hasO b e.ord) _ (zH (B0.out.call (zEb K))) HL1.out.2.1 HX2).mono ?_);rintro r wc1 ⟨rfl, hb⟩;replace K := zEk K hb;clear hb;have c := zEc K;go_wp2_with fail;clear c;generalize hw : World.alloc _ _ = wa1;replace K := zEa hw K;clear hw;(with_reducible refine (zz3s _ b e.sym r0 r1 (hasR b e.sym) _ (zH (B0.out.call (zEb K))) HL1.out.2.2 HX3).mono ?_);rintro r wc2 ⟨rfl, hb⟩;replace K := zEk K hb;clear hb;have c := zEc K;go_wp2_with fail;clear c;generalize hw : World.alloc _ _ = wa2;replace K := zEa hw K;clear hw;have L : Hid (LkAt _ w.heap.size (.agg #[.slice none 0 0, .bool false]) []) := LkAt.nil wa2 _;(with_reducible refine (zz0p K L hE.out.kind).mono ?_);rintro r w1 ⟨A1, k1, c1, d1, rfl, L2, K2⟩;replace L := L2;replace K := K2;clear L2 K2;have c := zEx K;go_wp2_with fail;generalize hs : World.setCell _ _ _ = w2;clear c;replace K := zEl hs L K;clear hs L;obtain ⟨L, K⟩ := K;(with_reducible refine (zz0p K L hE.out.kind).mono ?_);rintro r w3 ⟨A3, k3, c3, d3, rfl, L2, K2⟩;replace L := L2;replace K := K2;clear L2 K2;by_cases hk : e.kind = 1
 ·skip
  have tk1 : (e.kind == 1) = true := by rw [hk]; rfl
  have hall : allS b e rate = headS e ++ accS b e := by unfold allS kindS; simp [hk]
  clear hk;have c := zEx K;go_wp2_with fail;generalize hs : World.setCell _ _ _ = w4;clear c;replace K := zEl hs L K;clear hs L;obtain ⟨L, K⟩ := K;(with_reducible refine (zz0p K L hE.out.qty).mono ?_);rintro r w5 ⟨A5, k5, c5, d5, rfl, L2, K2⟩;replace L := L2;replace K := K2;clear L2 K2;have c := zEx K;go_wp2_with fail;generalize hs : World.setCell _ _ _ = w6;clear c;replace K := zEl hs L K;clear hs L;obtain ⟨L, K⟩ := K;refine zSE [4] 5 (zEh K) ?_;intro w7 hb;replace K := zEk K hb;replace L := zH (L.out.kept hb);clear hb;refine zM [0, 1] 3 (zEh K) ?_;simp only [opsAt, zA];refine zv ?_;refine zp ?_;unfold wpPure;go_simp;refine zW 2 ?_;go_wp2_with fail;(with_reducible refine (zz2p _ _).mono ?_);rintro r _ ⟨rfl, rfl⟩;go_wp2_with fail;refine zY ?_ fun _ => zEh K
  refine zW 3 ?_;go_wp2_with fail;(with_reducible refine (zz0p K L (zz1o _)).mono ?_);rintro r w8 ⟨A8, k8, c8, d8, rfl, L2, K2⟩;replace L := L2;replace K := K2;clear L2 K2;go_wp2_with fail;refine zY ?_ fun _ => zEh K
  have c := zEx K;refine zW 4 ?_;go_wp2_with fail;generalize hs : World.setCell _ _ _ = w9;clear c;replace K := zEl hs L K;clear hs L;obtain ⟨L, K⟩ := K;refine zY ?_ fun h => absurd h zx
  refine zQe ?_;have c := zEc K;go_wp2_with fail;clear c;(with_reducible refine (zz0p K L (zz5c HL1.out.1)).mono ?_);exact zt77
 have nk1 : (e.kind == 1) = false := beq_eq_false_iff_ne.2 hk;have ok1 := zH hk;clear hk;by_cases hk : e.kind = 2
 ·skip
  have tk1 : (e.kind == 1) = false := by rw [hk]; rfl
  have tk2 : (e.kind == 2) = true := by rw [hk]; rfl
  have hall : allS b e rate = headS e ++ limS b e := by unfold allS kindS; simp [hk]
  clear hk;have c := zEx K;go_wp2_with fail;generalize hs : World.setCell _ _ _ = w4;clear c;replace K := zEl hs L K;clear hs L;obtain ⟨L, K⟩ := K;refine zSE [4] 5 (zEh K) ?_;intro w5 hb;replace K := zEk K hb;replace L := zH (L.out.kept hb);clear hb;refine zM [0, 1] 3 (zEh K) ?_;simp only [opsAt, zA];refine zv ?_;refine zp ?_;unfold wpPure;go_simp;refine zW 2 ?_;go_wp2_with fail;(with_reducible refine (zz2p _ _).mono ?_);rintro r _ ⟨rfl, rfl⟩;go_wp2_with fail;refine zY ?_ fun _ => zEh K
  refine zW 3 ?_;go_wp2_with fail;(with_reducible refine (zz0p K L (zz1o _)).mono ?_);rintro r w6 ⟨A6, k6, c6, d6, rfl, L2, K2⟩;replace L := L2;replace K := K2;clear L2 K2;go_wp2_with fail;refine zY ?_ fun _ => zEh K
  have c := zEx K;refine zW 4 ?_;go_wp2_with fail;generalize hs : World.setCell _ _ _ = w7;clear c;replace K := zEl hs L K;clear hs L;obtain ⟨L, K⟩ := K;refine zY ?_ fun h => absurd h zx
  refine zQe ?_;have c := zEc K;go_wp2_with fail;clear c;(with_reducible refine (zz0p K L hE.out.qty).mono ?_);rintro r w8 ⟨A8, k8, c8, d8, rfl, L2, K2⟩;replace L := L2;replace K := K2;clear L2 K2;have c := zEx K;go_wp2_with fail;generalize hs : World.setCell _ _ _ = w9;clear c;replace K := zEl hs L K;clear hs L;obtain ⟨L, K⟩ := K;(with_reducible refine (zz0p K L hE.out.px).mono ?_);exact zt77
 have nk2 : (e.kind == 2) = false := beq_eq_false_iff_ne.2 hk;have ok2 := zH hk;clear hk;by_cases hk : e.kind = 3
 ·skip
  have tk1 : (e.kind == 1) = false := by rw [hk]; rfl
  have tk2 : (e.kind == 2) = false := by rw [hk]; rfl
  have tk3 : (e.kind == 3) = true := by rw [hk]; rfl
  have HKD := zH hk;clear hk;have c := zEx K;go_wp2_with fail;generalize hs : World.setCell _ _ _ = w4;clear c;replace K := zEl hs L K;clear hs L;obtain ⟨L, K⟩ := K;(with_reducible refine (zz0p K L hE.out.px).mono ?_);rintro r w5 ⟨A5, k5, c5, d5, rfl, L2, K2⟩;replace L := L2;replace K := K2;clear L2 K2;cases hRv : hasR b e.sym with
  | true =>
   have hall : allS b e rate = headS e ++ [sS 6 e.px 1] := by unfold allS kindS quoS; simp [HKD.out, hRv]
   clear hRv;have c := zEx K;go_wp2_with fail;generalize hs : World.setCell _ _ _ = w6;clear c;replace K := zEl hs L K;clear hs L;obtain ⟨L, K⟩ := K;go_ret;exact zEf K L hall
  | false =>
   have hall : allS b e rate = headS e ++ [sS 6 e.px 1, sS 17 b.r.length 31] := by unfold allS kindS quoS; simp [HKD.out, hRv]
   clear hRv;have c := zEx K;go_wp2_with fail;generalize hs : World.setCell _ _ _ = w6;clear c;replace K := zEl hs L K;clear hs L;obtain ⟨L, K⟩ := K;(with_reducible refine (zz0p K L (zz5c HL1.out.2.2)).mono ?_);rintro r w7 ⟨A7, k7, c7, d7, rfl, L2, K2⟩;replace L := L2;replace K := K2;clear L2 K2;have c := zEx K;go_wp2_with fail;generalize hs : World.setCell _ _ _ = w8;clear c;replace K := zEl hs L K;clear hs L;obtain ⟨L, K⟩ := K;go_ret;exact zEf K L hall
 have nk3 : (e.kind == 3) = false := beq_eq_false_iff_ne.2 hk;have ok3 := zH hk;clear hk;by_cases hk : e.kind = 4
 ·skip
  have tk1 : (e.kind == 1) = false := by rw [hk]; rfl
  have tk2 : (e.kind == 2) = false := by rw [hk]; rfl
  have tk3 : (e.kind == 3) = false := by rw [hk]; rfl
  have tk4 : (e.kind == 4) = true := by rw [hk]; rfl
  have hEq : Hid (I64 e.qty) := hE.out.qty;have hEp : Hid (I64 e.px) := hE.out.px;have bQ : Hid (e.qty.natAbs < 10000 ^ 40) := bigB (by have := hEq.out; unfold I64 at this; omega)
  have bP : Hid (e.px.natAbs < 10000 ^ 40) := bigB (by have := hEp.out; unfold I64 at this; omega)
  have bM : Hid ((e.qty * e.px).natAbs < 10000 ^ 40) := bigB (by
   rw [Int.natAbs_mul];have h1 := Nat.mul_le_mul (show e.qty.natAbs ≤ 9223372036854775808 by have := hEq.out; unfold I64 at this; omega) (show e.px.natAbs ≤ 9223372036854775808 by have := hEp.out; unfold I64 at this; omega)
   omega)
  have I3 : Hid (I64 h3) := zz1m hi.out.1 HX1.out h3 (by simp)
  have I2 : Hid (I64 h2) := zz1m hi.out.1 HX1.out h2 (by simp)
  have qN := zH (fun wz hv => rNeed_any (.agg (BF Ah ch As cs Ao co Ar cr b b.n)) b e.acc e.qty e.px rate wz hv hs hi hpr hEq hEp hrt)
  have qE := zH (fun wz hv => zz9n (.agg (BF Ah ch As cs Ao co Ar cr b b.n)) b e.acc wz hv hs hi)
  obtain ⟨⟨N1, N2⟩, hN⟩ : ∃ N, needR (needX b e.acc e.qty e.px) rate = N := ⟨_, rfl⟩;obtain ⟨⟨E1, E2⟩, hEE⟩ : ∃ N, fitsP (cashOf b e.acc + sumQ (heldP b e.acc b.s)) = N := ⟨_, rfl⟩;have JN : Hid (I64 N1) := (show I64 N1 from by have := zz8n (needX b e.acc e.qty e.px) rate; rw [hN] at this; exact this)
  have JE : Hid (I64 E1) := (show I64 E1 from by have := zz1p (cashOf b e.acc + sumQ (heldP b e.acc b.s)); rw [hEE] at this; exact this)
  have hall : allS b e rate = headS e ++ [sS 3 e.side 0, sS 4 e.side 1, sS 5 e.qty 1, sS 6 e.px 1, sS 10 (bitI (hasH b e.acc)) 1, sS 12 (bitI (hasO b e.ord)) 0, sS 14 (bitI (hasR b e.sym)) 1, sS 16 b.o.length 63, oS 18 (fitsP (e.qty * e.px)).1 h3 (fitsP (e.qty * e.px)).2, oS 19 (reachR b e.acc e.sym e.side e.qty).1 h2 (reachR b e.acc e.sym e.side e.qty).2, oS 20 N1 E1 (N2 && E2)] := by
   unfold allS kindS;rw [if_neg zw, if_neg zw, if_neg zw, if_pos hk];unfold ordS;rw [hrH.out, show needE b e rate = (N1, N2) from hN, show eqR b e.acc = (E1, E2) from hEE]
   rfl
  rw [hN] at qN;rw [hEE] at qE;clear hk hN hEE;have c := zEx K;go_wp2_with fail;generalize hs : World.setCell _ _ _ = w4;clear c;replace K := zEl hs L K;clear hs L;obtain ⟨L, K⟩ := K;(with_reducible refine (zz0p K L hE.out.side).mono ?_);rintro r w5 ⟨A5, k5, c5, d5, rfl, L2, K2⟩;replace L := L2;replace K := K2;clear L2 K2;have c := zEx K;go_wp2_with fail;generalize hs : World.setCell _ _ _ = w6;clear c;replace K := zEl hs L K;clear hs L;obtain ⟨L, K⟩ := K;(with_reducible refine (zz0p K L hE.out.side).mono ?_);rintro r w7 ⟨A7, k7, c7, d7, rfl, L2, K2⟩;replace L := L2;replace K := K2;clear L2 K2;have c := zEx K;go_wp2_with fail;generalize hs : World.setCell _ _ _ = w8;clear c;replace K := zEl hs L K;clear hs L;obtain ⟨L, K⟩ := K;(with_reducible refine (zz0p K L hE.out.qty).mono ?_);rintro r w9 ⟨A9, k9, c9, d9, rfl, L2, K2⟩;replace L := L2;replace K := K2;clear L2 K2;have c := zEx K;go_wp2_with fail;generalize hs : World.setCell _ _ _ = w10;clear c;replace K := zEl hs L K;clear hs L;obtain ⟨L, K⟩ := K;(with_reducible refine (zz0p K L hE.out.px).mono ?_);rintro r w11 ⟨A11, k11, c11, d11, rfl, L2, K2⟩;replace L := L2;replace K := K2;clear L2 K2;have c := zEx K;go_wp2_with fail;generalize hs : World.setCell _ _ _ = w12;clear c;replace K := zEl hs L K;clear hs L;obtain ⟨L, K⟩ := K;refine zSE [4] 5 (zEh K) ?_;intro w13 hb;replace K := zEk K hb;replace L := zH (L.out.kept hb);clear hb;refine zM [0, 1] 3 (zEh K) ?_;simp only [opsAt, zA];refine zv ?_;refine zp ?_;unfold wpPure;go_simp;refine zW 2 ?_;go_wp2_with fail;(with_reducible refine (zz2p _ _).mono ?_);rintro r _ ⟨rfl, rfl⟩;go_wp2_with fail;refine zY ?_ fun _ => zEh K
  refine zW 3 ?_;go_wp2_with fail;(with_reducible refine (zz0p K L (zz1o _)).mono ?_);rintro r w14 ⟨A14, k14, c14, d14, rfl, L2, K2⟩;replace L := L2;replace K := K2;clear L2 K2;go_wp2_with fail;refine zY ?_ fun _ => zEh K
  have c := zEx K;refine zW 4 ?_;go_wp2_with fail;generalize hs : World.setCell _ _ _ = w15;clear c;replace K := zEl hs L K;clear hs L;obtain ⟨L, K⟩ := K;refine zY ?_ fun h => absurd h zx
  refine zQe ?_;have c := zEc K;go_wp2_with fail;clear c;refine zSE [4] 5 (zEh K) ?_;intro w16 hb;replace K := zEk K hb;replace L := zH (L.out.kept hb);clear hb;refine zM [0, 1] 3 (zEh K) ?_;simp only [opsAt, zA];refine zv ?_;refine zp ?_;unfold wpPure;go_simp;refine zW 2 ?_;go_wp2_with fail;(with_reducible refine (zz2p _ _).mono ?_);rintro r _ ⟨rfl, rfl⟩;go_wp2_with fail;refine zY ?_ fun _ => zEh K
  refine zW 3 ?_;go_wp2_with fail;(with_reducible refine (zz0p K L (zz1o _)).mono ?_);rintro r w17 ⟨A17, k17, c17, d17, rfl, L2, K2⟩;replace L := L2;replace K := K2;clear L2 K2;go_wp2_with fail;refine zY ?_ fun _ => zEh K
  have c := zEx K;refine zW 4 ?_;go_wp2_with fail;generalize hs : World.setCell _ _ _ = w18;clear c;replace K := zEl hs L K;clear hs L;obtain ⟨L, K⟩ := K;refine zY ?_ fun h => absurd h zx
  refine zQe ?_;have c := zEc K;go_wp2_with fail;clear c;refine zSE [4] 5 (zEh K) ?_;intro w19 hb;replace K := zEk K hb;replace L := zH (L.out.kept hb);clear hb;refine zM [0, 1] 3 (zEh K) ?_;simp only [opsAt, zA];refine zv ?_;refine zp ?_;unfold wpPure;go_simp;refine zW 2 ?_;go_wp2_with fail;(with_reducible refine (zz2p _ _).mono ?_);rintro r _ ⟨rfl, rfl⟩;go_wp2_with fail;refine zY ?_ fun _ => zEh K
  refine zW 3 ?_;go_wp2_with fail;(with_reducible refine (zz0p K L (zz1o _)).mono ?_);rintro r w20 ⟨A20, k20, c20, d20, rfl, L2, K2⟩;replace L := L2;replace K := K2;clear L2 K2;go_wp2_with fail;refine zY ?_ fun _ => zEh K
  have c := zEx K;refine zW 4 ?_;go_wp2_with fail;generalize hs : World.setCell _ _ _ = w21;clear c;replace K := zEl hs L K;clear hs L;obtain ⟨L, K⟩ := K;refine zY ?_ fun h => absurd h zx
  refine zQe ?_;have c := zEc K;go_wp2_with fail;clear c;(with_reducible refine (zz0p K L (zz5c HL1.out.2.1)).mono ?_);rintro r w22 ⟨A22, k22, c22, d22, rfl, L2, K2⟩;replace L := L2;replace K := K2;clear L2 K2;have c := zEx K;go_wp2_with fail;generalize hs : World.setCell _ _ _ = w23;clear c;replace K := zEl hs L K;clear hs L;obtain ⟨L, K⟩ := K;refine zSE [] 13 (zEz K) ?_;intro w24 hb;replace K := zEk K hb;replace L := zH (L.out.kept hb);clear hb;refine zM [0, 1, 3, 4] 9 (zEz K) ?_;simp only [opsAt, zA]
  iterate 2
   refine zp ?_;refine zv ?_
  unfold wpPure;go_simp;refine zW 2 ?_;go_wp2_with fail;(with_reducible refine (zz33 e.qty hEq.out _).mono ?_);rintro r w25 ⟨⟨va, rfl, hva⟩, hb⟩;replace K := zEk K hb;replace L := zH (L.out.kept hb);clear hb;go_wp2_with fail;refine zY ?_ fun _ => zEz K
  have Va := zH hva;clear hva;refine zW 5 ?_;go_wp2_with fail;(with_reducible refine (zz33 e.px hEp.out _).mono ?_);rintro r w26 ⟨⟨vb, rfl, hvb⟩, hb⟩;replace K := zEk K hb;replace L := zH (L.out.kept hb);replace Va := zH (Va.out.call hb);clear hb;go_wp2_with fail;refine zY ?_ fun _ => zEz K
  have Vb := zH hvb;clear hvb;refine zW 6 ?_;go_wp2_with fail;(with_reducible refine (zz8c _ _ e.qty e.px _ Va Vb bQ.out bP.out).mono ?_);rintro r w27 ⟨⟨vc, rfl, hvc⟩, hb⟩;replace K := zEk K hb;replace L := zH (L.out.kept hb);replace Va := zH (Va.out.call hb);replace Vb := zH (Vb.out.call hb);clear hb;go_wp2_with fail;refine zY ?_ fun _ => zEz K
  have Vc := zH hvc;clear hvc;refine zW 7 ?_;go_wp2_with fail;(with_reducible refine (zz2f _ (e.qty * e.px) _ Vc bM.out).mono ?_);rintro r w28 ⟨rfl, hb⟩;replace K := zEk K hb;replace L := zH (L.out.kept hb);replace Va := zH (Va.out.call hb);replace Vb := zH (Vb.out.call hb);replace Vc := zH (Vc.out.call hb);clear hb;go_wp2_with fail;refine zY ?_ fun _ => zEz K
  clear Va Vb Vc;refine zM [8, 9, 10, 11, 12] 0 (zEz K) ?_;simp only [opsAt, zA]
  iterate 5 refine zp ?_
  unfold wpPure;go_simp;refine zQe ?_;have c := zEc K;go_wp2_with fail;clear c;(with_reducible refine (zz46 K L (zz1p _) I3.out).mono ?_);rintro r w29 ⟨A29, k29, c29, d29, rfl, L2, K2⟩;replace L := L2;replace K := K2;clear L2 K2;have c := zEx K;go_wp2_with fail;generalize hs : World.setCell _ _ _ = w30;clear c;replace K := zEl hs L K;clear hs L;obtain ⟨L, K⟩ := K;(with_reducible refine (zzaw (.agg (BF Ah ch As cs Ao co Ar cr b b.n)) b e.acc e.sym e.side e.qty _ (zH (B0.out.call (zEb K))) hs hi hEq).mono ?_);rintro r w31 ⟨rfl, hb⟩;replace K := zEk K hb;replace L := zH (L.out.kept hb);clear hb;have c := zEc K;go_wp2_with fail;clear c;(with_reducible refine (zz46 K L (zz6s _ _ _ _ _) I2.out).mono ?_);rintro r w32 ⟨A32, k32, c32, d32, rfl, L2, K2⟩;replace L := L2;replace K := K2;clear L2 K2;have c := zEx K;go_wp2_with fail;generalize hs : World.setCell _ _ _ = w33;clear c;replace K := zEl hs L K;clear hs L;obtain ⟨L, K⟩ := K;(with_reducible refine (qN.out _ (zH (B0.out.call (zEb K)))).mono ?_);rintro r w34 ⟨rfl, hb⟩;replace K := zEk K hb;replace L := zH (L.out.kept hb);clear hb;have c := zEc K;go_wp2_with fail;clear c;(with_reducible refine (qE.out _ (zH (B0.out.call (zEb K)))).mono ?_);rintro r w35 ⟨rfl, hb⟩;replace K := zEk K hb;replace L := zH (L.out.kept hb);clear hb;cases N2 with
  | true =>
   exact zt63
  | false =>
   exact zt63
 have nk4 : (e.kind == 4) = false := beq_eq_false_iff_ne.2 hk;have ok4 := zH hk;clear hk;by_cases hk : e.kind = 5
 ·skip
  have tk1 : (e.kind == 1) = false := by rw [hk]; rfl
  have tk2 : (e.kind == 2) = false := by rw [hk]; rfl
  have tk3 : (e.kind == 3) = false := by rw [hk]; rfl
  have tk4 : (e.kind == 4) = false := by rw [hk]; rfl
  have tk5 : (e.kind == 5) = true := by rw [hk]; rfl
  have hEq : Hid (I64 e.qty) := hE.out.qty;have hEp : Hid (I64 e.px) := hE.out.px;have I4 : Hid (I64 o4) := zz1m hi.out.2.2.1 HX2.out o4 (by simp)
  have qA := zH (fun wz hv => zz6w (.agg (BF Ah ch As cs Ao co Ar cr b b.n)) b o0 o1 o2 o3 o4 o5 e.qty e.px wz hv hs hi hEq hEp)
  obtain ⟨⟨⟨C, X⟩, ⟨S, Y⟩⟩, hA⟩ : ∃ A, afterR b o1 o2 o3 e.qty e.px = A := ⟨_, rfl⟩;have IC : Hid (I64 C) := (show I64 C from by have := (zz31 b o1 o2 o3 e.qty e.px).1; rw [hA] at this; exact this)
  have IS : Hid (I64 S) := (show I64 S from by have := (zz31 b o1 o2 o3 e.qty e.px).2; rw [hA] at this; exact this)
  have hall : allS b e rate = headS e ++ [sS 13 (bitI (hasO b e.ord)) 1, sS 5 e.qty 1, sS 6 e.px 1, sS 21 e.qty o4, oS 22 C C X, oS 23 S S Y] := by
   unfold allS kindS;rw [if_neg zw, if_neg zw, if_neg zw, if_neg zw, if_pos hk];unfold fillS afterE;rw [hrO.out];show headS e ++ [_, _, _, _, oS 22 (afterR b o1 o2 o3 e.qty e.px).1.1 (afterR b o1 o2 o3 e.qty e.px).1.1 (afterR b o1 o2 o3 e.qty e.px).1.2, oS 23 (afterR b o1 o2 o3 e.qty e.px).2.1 (afterR b o1 o2 o3 e.qty e.px).2.1 (afterR b o1 o2 o3 e.qty e.px).2.2] = _;rw [hA]
   rfl
  rw [hA] at qA;clear hk hA;have c := zEx K;go_wp2_with fail;generalize hs : World.setCell _ _ _ = w4;clear c;replace K := zEl hs L K;clear hs L;obtain ⟨L, K⟩ := K;refine zSE [4] 5 (zEh K) ?_;intro w5 hb;replace K := zEk K hb;replace L := zH (L.out.kept hb);clear hb;refine zM [0, 1] 3 (zEh K) ?_;simp only [opsAt, zA];refine zv ?_;refine zp ?_;unfold wpPure;go_simp;refine zW 2 ?_;go_wp2_with fail;(with_reducible refine (zz2p _ _).mono ?_);rintro r _ ⟨rfl, rfl⟩;go_wp2_with fail;refine zY ?_ fun _ => zEh K
  refine zW 3 ?_;go_wp2_with fail;(with_reducible refine (zz0p K L (zz1o _)).mono ?_);rintro r w6 ⟨A6, k6, c6, d6, rfl, L2, K2⟩;replace L := L2;replace K := K2;clear L2 K2;go_wp2_with fail;refine zY ?_ fun _ => zEh K
  have c := zEx K;refine zW 4 ?_;go_wp2_with fail;generalize hs : World.setCell _ _ _ = w7;clear c;replace K := zEl hs L K;clear hs L;obtain ⟨L, K⟩ := K;refine zY ?_ fun h => absurd h zx
  refine zQe ?_;have c := zEc K;go_wp2_with fail;clear c;(with_reducible refine (zz0p K L hE.out.qty).mono ?_);rintro r w8 ⟨A8, k8, c8, d8, rfl, L2, K2⟩;replace L := L2;replace K := K2;clear L2 K2;have c := zEx K;go_wp2_with fail;generalize hs : World.setCell _ _ _ = w9;clear c;replace K := zEl hs L K;clear hs L;obtain ⟨L, K⟩ := K;(with_reducible refine (zz0p K L hE.out.px).mono ?_);rintro r w10 ⟨A10, k10, c10, d10, rfl, L2, K2⟩;replace L := L2;replace K := K2;clear L2 K2;have c := zEx K;go_wp2_with fail;generalize hs : World.setCell _ _ _ = w11;clear c;replace K := zEl hs L K;clear hs L;obtain ⟨L, K⟩ := K;(with_reducible refine (zz0p K L hE.out.qty I4.out).mono ?_);rintro r w12 ⟨A12, k12, c12, d12, rfl, L2, K2⟩;replace L := L2;replace K := K2;clear L2 K2;have c := zEx K;go_wp2_with fail;generalize hs : World.setCell _ _ _ = w13;clear c;replace K := zEl hs L K;clear hs L;obtain ⟨L, K⟩ := K;(with_reducible refine (qA.out _ (zH (B0.out.call (zEb K)))).mono ?_);rintro r w14 ⟨rfl, hb⟩;replace K := zEk K hb;replace L := zH (L.out.kept hb);clear hb;have c := zEc K;go_wp2_with fail;clear c;(with_reducible refine (zz46 K L IC.out IC.out).mono ?_);rintro r w15 ⟨A15, k15, c15, d15, rfl, L2, K2⟩;replace L := L2;replace K := K2;clear L2 K2;have c := zEx K;go_wp2_with fail;generalize hs : World.setCell _ _ _ = w16;clear c;replace K := zEl hs L K;clear hs L;obtain ⟨L, K⟩ := K;(with_reducible refine (zz46 K L IS.out IS.out).mono ?_);rintro r w17 ⟨A17, k17, c17, d17, rfl, L2, K2⟩;replace L := L2;replace K := K2;clear L2 K2;have c := zEx K;go_wp2_with fail;generalize hs : World.setCell _ _ _ = w18;clear c;replace K := zEl hs L K;clear hs L;obtain ⟨L, K⟩ := K;go_ret;exact zEf K L hall
 have nk5 : (e.kind == 5) = false := beq_eq_false_iff_ne.2 hk;have ok5 := zH hk;clear hk;by_cases hk : e.kind = 6
 ·skip
  have tk1 : (e.kind == 1) = false := by rw [hk]; rfl
  have tk2 : (e.kind == 2) = false := by rw [hk]; rfl
  have tk3 : (e.kind == 3) = false := by rw [hk]; rfl
  have tk4 : (e.kind == 4) = false := by rw [hk]; rfl
  have tk5 : (e.kind == 5) = false := by rw [hk]; rfl
  have tk6 : (e.kind == 6) = true := by rw [hk]; rfl
  have hall : allS b e rate = headS e ++ canS b e := by unfold allS kindS; simp [hk]
  clear hk;have c := zEx K;go_wp2_with fail;generalize hs : World.setCell _ _ _ = w4;clear c;replace K := zEl hs L K;clear hs L;obtain ⟨L, K⟩ := K;refine zSE [4] 5 (zEh K) ?_;intro w5 hb;replace K := zEk K hb;replace L := zH (L.out.kept hb);clear hb;refine zM [0, 1] 3 (zEh K) ?_;simp only [opsAt, zA];refine zv ?_;refine zp ?_;unfold wpPure;go_simp;refine zW 2 ?_;go_wp2_with fail;(with_reducible refine (zz2p _ _).mono ?_);rintro r _ ⟨rfl, rfl⟩;go_wp2_with fail;refine zY ?_ fun _ => zEh K
  refine zW 3 ?_;go_wp2_with fail;(with_reducible refine (zz0p K L (zz1o _)).mono ?_);rintro r w6 ⟨A6, k6, c6, d6, rfl, L2, K2⟩;replace L := L2;replace K := K2;clear L2 K2;go_wp2_with fail;refine zY ?_ fun _ => zEh K
  have c := zEx K;refine zW 4 ?_;go_wp2_with fail;generalize hs : World.setCell _ _ _ = w7;clear c;replace K := zEl hs L K;clear hs L;obtain ⟨L, K⟩ := K;refine zY ?_ fun h => absurd h zx
  refine zQe ?_;have c := zEc K;go_wp2_with fail;clear c;go_ret;exact zEf K L hall
 have nk6 : (e.kind == 6) = false := beq_eq_false_iff_ne.2 hk;have ok6 := zH hk;clear hk;have hall : allS b e rate = headS e ++ [] := by unfold allS kindS; rw [if_neg ok1.out, if_neg ok2.out, if_neg ok3.out, if_neg ok4.out, if_neg ok5.out, if_neg ok6.out]
 have c := zEx K;go_wp2_with fail;generalize hs : World.setCell _ _ _ = w4;clear c;replace K := zEl hs L K;clear hs L;obtain ⟨L, K⟩ := K;go_ret;exact zEf K L hall
end
section
open Go Go.RowKit
theorem zzat (v : Value) (l : List Stp) (w : World) (hv : Hid (StepsAt w v l)) (hl : l.length ≤ 1000) :
  Calls Tryz.prog 40 #[v] w fun e w' => e = .returned (.agg #[.int .i64 (goW l 0).1, .int .i64 (goW l 0).2]) ∧ Below w.heap.size w w' := by
 have qH := zH (fun s w => zz6v s w)
 have qC := zH (fun n w => zz0w n w)
 have hb0 := (Below.refl w.heap.size w).alloc (Nat.le_refl _) (.cells #[.int .i64 0, .int .i64 0] 33);have hblk0 : Hid (VerBlk (w.alloc (.cells #[.int .i64 0, .int .i64 0] 33)) w.heap.size 0 0) := zz02 _ _;have HB0 := zH hb0;clear hb0;obtain ⟨A, c, rfl, _⟩ := hv.out;go_in;go_wp2_with fail;go_loopw [3, 4] (fun s3 s4 wr => ∃ (k : Nat) (need : Int), s3 = .int .i64 need ∧ s4 = .int .i64 k ∧ Hid (k ≤ l.length) ∧ Hid (VerBlk wr w.heap.size 0 0) ∧ Hid (goW (l.drop k) need = goW l 0) ∧ Hid (Below w.heap.size w wr)) (fun _ s4 _ => l.length - (intOf s4).toNat)
 case atStart => exact ⟨0, 0, rfl, rfl, Nat.zero_le _, hblk0.out, rfl, HB0.out⟩
 case round =>
  obtain ⟨k, need, rfl, rfl, hk, hR, hW, hB⟩ := hrel;clear hblk0 HB0;by_cases hkl : k < l.length
  ·obtain ⟨A', c', hA', hci⟩ := (hv.out.call hB.out)
   cases hA';have hge : l[k]? = some l[k] := List.getElem?_eq_getElem hkl;obtain ⟨hf, b, o, rfl, hbl, h0, h1, h2, h3⟩ := hci k _ hge;have hst := zH (zzbf hge need);clear hci hge;generalize l[k] = s at *;obtain ⟨r, x, y, ov⟩ := s;have h0 : wr.cell? ⟨b, o + k * 4, none⟩ = some (.int .i64 r) := h0;have h1 : wr.cell? ⟨b, o + k * 4 + 1, none⟩ = some (.int .i64 x) := h1;have h2 : wr.cell? ⟨b, o + k * 4 + 2, none⟩ = some (.int .i64 y) := h2;have h3 : wr.cell? ⟨b, o + k * 4 + 3, none⟩ = some (.bool ov) := h3;have q2 : Hid (∀ w, Calls Tryz.prog 108 #[.agg #[r, x, y, .bool ov]] w fun e w' => e = .returned (.bool (Stp.mk r x y ov).holds) ∧ Below w.heap.size w w') := fun w => qH.out ⟨r, x, y, ov⟩ w
   clear qH hf;cases ov with
   | true =>
    have hs1 : Hid (goW l 0 = (12, 0)) := hW.out.symm.trans (hst.out.trans (if_pos rfl));have e0 := hR.out.c0; have e1 := hR.out.c1; have z0 := hR.out.z;clear hst q2;go_wp2_with fail;have hk := (hR.out.s0 (12)).s1 (0);have HB9 := zH (zz1n hB.out (Nat.le_refl _) (.int .i64 (12)) (.int .i64 (0)));generalize (wr.setCell ⟨w.heap.size, 0, none⟩ (.int .i64 (12))).setCell ⟨w.heap.size, 1, none⟩ (.int .i64 (0)) = w9 at *;clear e0 e1 z0;have e0 := hk.c0; have e1 := hk.c1;rw [hs1.out];refine bodyPost_ret (v := .agg #[.int .i64 (12), .int .i64 (0)]) ?_ rfl ⟨rfl, HB9.out⟩;rw [zz0n rfl]; go_simp
   | false =>
    obtain ⟨hb, hhb⟩ : ∃ hb, (Stp.mk r x y false).holds = hb := ⟨_, rfl⟩;rw [hhb] at q2;have hst2 : Hid (goW l 0 = if hb then (if r = 20 then goW (l.drop (k + 1)) x else goW (l.drop (k + 1)) need) else (((codeS r : Nat) : Int), 0)) := by
     show _ = _;rw [← hW.out, hst.out, if_neg (by simp), hhb]
    clear hhb hst hW;cases hb with
    | false =>
     have hs1 : Hid (goW l 0 = (((codeS r : Nat) : Int), 0)) := hst2.out.trans (if_neg (by simp))
     have hfl := row_f2 ⟨(Rule.name (numR r)).toArray⟩ (relS r) (codeS r);clear hst2;go_wp2_with fail;(with_reducible refine (q2.out _).mono ?_);rintro e w3 ⟨rfl, hb3⟩;have HB3 := zB hB hb3;have hR3 := zH (hR.out.call hb3);have d0 := (hb3.cell (p := ⟨b, o + k * 4, none⟩) hbl).trans h0;clear hb3 h0 h1 h2 h3;go_wp2_with fail;(with_reducible refine (qC.out r _).mono ?_);rintro e w4 ⟨rfl, hb4⟩;have HB4 := zB HB3 hb4;have hR4 := zH (hR3.out.call hb4);clear hb4 d0;generalize ((codeS r : Nat) : Int) = cd at *;have e0 := hR4.out.c0; have e1 := hR4.out.c1; have z0 := hR4.out.z;go_wp2_with fail;have hk := (hR4.out.s0 (cd)).s1 (0);have HB9 := zH (zz1n HB4.out (Nat.le_refl _) (.int .i64 (cd)) (.int .i64 (0)));generalize (w4.setCell ⟨w.heap.size, 0, none⟩ (.int .i64 (cd))).setCell ⟨w.heap.size, 1, none⟩ (.int .i64 (0)) = w9 at *;clear e0 e1 z0;have e0 := hk.c0; have e1 := hk.c1;rw [hs1.out];refine bodyPost_ret (v := .agg #[.int .i64 (cd), .int .i64 (0)]) ?_ rfl ⟨rfl, HB9.out⟩;rw [zz0n rfl]; go_simp
    | true =>
     have hs1 := zH (hst2.out.trans (if_pos rfl));clear hst2;by_cases h20 : r = 20
     ·have hs2 : Hid (goW (l.drop (k + 1)) x = goW l 0) := (hs1.out.trans (if_pos h20)).symm
      subst h20;go_wp2_with fail;(with_reducible refine (q2.out _).mono ?_);rintro e w3 ⟨rfl, hb3⟩;have HB3 := zB hB hb3;have hR3 := zH (hR.out.call hb3);have d0 := (hb3.cell (p := ⟨b, o + k * 4, none⟩) hbl).trans h0;have d1 := (hb3.cell (p := ⟨b, o + k * 4 + 1, none⟩) hbl).trans h1;clear hb3 h0 h1 h2 h3;go_wp2_with fail;go_roundw
      case rel => exact ⟨k + 1, x, rfl, by go_num, by show _ ≤ _; omega, hR3.out, hs2.out, HB3.out⟩
      case measure => simp [intOf]; omega
     ·have hs2 : Hid (goW (l.drop (k + 1)) need = goW l 0) := (hs1.out.trans (if_neg h20)).symm
      have t2 : (r == 20) = false := beq_eq_false_iff_ne.2 h20;clear h20 hs1;go_wp2_with fail;(with_reducible refine (q2.out _).mono ?_);rintro e w3 ⟨rfl, hb3⟩;have HB3 := zB hB hb3;have hR3 := zH (hR.out.call hb3);have d0 := (hb3.cell (p := ⟨b, o + k * 4, none⟩) hbl).trans h0;clear hb3 h0 h1 h2 h3;go_wp2_with fail;go_roundw
      case rel => exact ⟨k + 1, need, rfl, by go_num, by show _ ≤ _; omega, hR3.out, hs2.out, HB3.out⟩
      case measure => simp [intOf]; omega
  ·have hkk : k = l.length := by have := hk.out; omega
   subst hkk;have hs1 : Hid (goW l 0 = (0, need)) := by
    have := hW.out;rw [List.drop_length] at this;exact this.symm
   have e0 := hR.out.c0; have e1 := hR.out.c1; have z0 := hR.out.z;go_wp2_with fail;have hk := (hR.out.s0 (0)).s1 (need);have HB9 := zH (zz1n hB.out (Nat.le_refl _) (.int .i64 (0)) (.int .i64 (need)));generalize (wr.setCell ⟨w.heap.size, 0, none⟩ (.int .i64 (0))).setCell ⟨w.heap.size, 1, none⟩ (.int .i64 (need)) = w9 at *;clear e0 e1 z0;have e0 := hk.c0; have e1 := hk.c1;rw [hs1.out];refine bodyPost_ret (v := .agg #[.int .i64 (0), .int .i64 (need)]) ?_ rfl ⟨rfl, HB9.out⟩;rw [zz0n rfl]; go_simp
def Kin1 (B : Nat) (a b : Value) : Prop := b = a ∨ ∀ q, b.ownBlock = some q → B ≤ q
def Kin (B : Nat) (v v' : Value) : Prop := ∃ a0 a1 a2 a3 n b0 b1 b2 b3 m, v = .agg #[a0, a1, a2, a3, n] ∧ v' = .agg #[b0, b1, b2, b3, m] ∧ Kin1 B a0 b0 ∧ Kin1 B a1 b1 ∧ Kin1 B a2 b2 ∧ Kin1 B a3 b3
theorem zz8f {ge ne : List Int → Bool} {x : List Int} {d : Bool} {l R acc : List (List Int)} {i : Nat} {r : List Int} (hi : l[i]? = some r) (h : acc ++ setK ge ne x d (l.drop i) = R) : acc ++ ((if !d && ge r then [x] else []) ++ ((if ne r then [r] else []) ++ setK ge ne x (d || ge r) (l.drop (i + 1)))) = R := by
 rw [← setK_step hi]; exact h
theorem zge (a b : Int) : (!decide (a < b)) = decide (b ≤ a) := by
 by_cases h : a < b
 ·rw [decide_eq_true h, decide_eq_false zw]; rfl
 ·rw [decide_eq_false h, decide_eq_true zw]; rfl
theorem zne (a b : Int) : (!decide (a = b)) = (a != b) := by
 by_cases h : a = b <;> simp [h]
theorem zz5n {w w0 wr : World} {e t t1 : TypeId} {v : Value} {k : Nat} {l : List (List Int)} {c1 : Array Value} {z0 z1 z2 z3 z4 : Value} (HB0 : Hid (Below w.heap.size w w0)) (hBr : Below w0.heap.size w0 wr) (K1 : ZB w0 w.heap.size c1 t1) (K3 : ZB w0 (w.heap.size + 2) #[z0, z1, z2, z3, z4] t) (HL : Hid (RowOwn wr w0.heap.size e v k l)) (fi : Nat) (x a0 a1 a2 a3 a4 : Value) :
  ∃ wF, (((((wr.setCell ⟨w.heap.size, fi, none⟩ x).setCell ⟨w.heap.size + 2, 0, none⟩ a0).setCell ⟨w.heap.size + 2, 1, none⟩ a1).setCell ⟨w.heap.size + 2, 2, none⟩ a2).setCell ⟨w.heap.size + 2, 3, none⟩ a3).setCell ⟨w.heap.size + 2, 4, none⟩ a4 = wF ∧ (∀ i, wF.cell? ⟨w.heap.size + 2, i, none⟩ = (#[a0, a1, a2, a3, a4] : Array Value)[i]?) ∧ Below w.heap.size w wF ∧ RowOwn wF w0.heap.size e v k l := by
 have n3 := zz09 (zK K3 hBr).out fi x (show w.heap.size + 2 ≠ w.heap.size by omega)
 refine ⟨_, rfl, zC (cs := #[a0, a1, a2, a3, a4]) (zz0d (zz0d (zz0d (zz0d (zz0d n3 0 a0) 1 a1) 2 a2) 3 a3) 4 a4), ?_, ?_⟩
 ·exact zz9c (Below.setCell (p := ⟨_, _, _⟩) (HB0.out.trans (hBr.mono HB0.out.size)) (Nat.le_refl _) _) (Nat.le_add_right _ 2) _ _ _ _ _
 ·exact (RowOwn.setBelow (a := ⟨_, _, _⟩) HL.out (zL K1.out) _).set5R (zL K3.out) _ _ _ _ _
theorem zDr {w : World} {a : World} {B b0 : Nat} {e : TypeId} {v : Value} {k : Nat} {l : List (List Int)} (h : Hid (Below B a w)) (ho : Hid (RowOwn w b0 e v k l)) (n : Nat) : Hid (Below B a (w.drewN n)) ∧ Hid (RowOwn (w.drewN n) b0 e v k l) := ⟨zz0b h.out n, ho.out.kept (zz0b (Below.refl _ _) n)⟩
theorem zt38 {p : Prop} (h : p := by
 go_wp2_with fail;go_roundw
 case rel => exact ⟨i + 1, _, _, by go_num, rfl, HO.out, by show _ ≤ _; omega, by have := hal.out; show _ ≤ _; first | omega | (simp; omega), by have h := hR.out; show _ = _; simpa using h, hBr.out⟩
 case measure => simp [intOf]; omega) : p := h
theorem zz20 (v : Value) (b : Bk) (x0 x1 x2 x3 : Int) (w : World) (hb : Hid (BkAt w v b)) (hl : b.h.length ≤ 1000000) :
  Calls Tryz.prog 43 #[v, .agg #[x0, x1, x2, x3]] w fun e w' => ∃ v', e = .returned v' ∧ BkAt w' v' { b with h := setH x0 [x0, x1, x2, x3] false b.h } ∧ Kin w.heap.size v v' ∧ Below w.heap.size w w' := by
 obtain ⟨vh, vs, vo, vr, rfl, h1, h2, h3, h4⟩ := hb.out;obtain ⟨Ah, ch, rfl, _⟩ := h1.rec';obtain ⟨As, cs, rfl, _⟩ := h2.rec';obtain ⟨Ao, co, rfl, _⟩ := h3.rec';obtain ⟨Ar, cr, rfl, _⟩ := h4.rec';obtain ⟨R, hR⟩ : ∃ R, setH x0 [x0, x1, x2, x3] false b.h = R := ⟨_, rfl⟩;obtain ⟨w0, hw0⟩ : ∃ w0, ((w.alloc (.cells (BF Ah ch As cs Ao co Ar cr b b.n) 27)).alloc (.cells #[x0, x1, x2, x3] 78)).alloc (.cells BZ 27) = w0 := ⟨_, rfl⟩;have HB0 : Hid (Below w.heap.size w w0) := by rw [← hw0]; exact zz01 (zz01 zBa (by simp) _) zo _
 have K1 : ZB w0 w.heap.size (BF Ah ch As cs Ao co Ar cr b b.n) 27 := by rw [← hw0]; exact zz04 (zz04 (zz02 _ _) _) _
 have K2 : ZB w0 (w.heap.size + 1) #[x0, x1, x2, x3] 78 := by rw [← hw0]; exact zz04 (zz0e _ _ _ (by simp)) _
 have K3 : ZB w0 (w.heap.size + 2) BZ 27 := by rw [← hw0]; exact zz0e _ _ _ (by simp)
 obtain ⟨A', c', hA', hi⟩ := (h1.call HB0.out).rec';injection hA' with hA1 _ hA3
 subst hA1 hA3;have HI := zH hi;have HBK : Hid (BkAt w (.agg (BF Ah ch As cs Ao co Ar cr b b.n)) b) := hb;have HR := zH hR;replace hw0 := zH hw0;clear hb h1 h2 h3 h4 hi hR;have q0 := zC K2.out;rw [← hw0.out] at q0;go_in;go_wp2_with fail;rw [hw0.out];clear q0;go_loopw [5, 6, 7] (fun s5 s6 s7 wr => ∃ (i : Nat) (acc : List (List Int)) (done : Bool), s7 = .int .i64 i ∧ s6 = .bool done ∧ Hid (RowOwn wr w0.heap.size 78 s5 4 acc) ∧ Hid (i ≤ b.h.length) ∧ Hid (acc.length ≤ 2 * i) ∧ Hid (acc ++ setK (fun r => !decide (r.headD 0 < x0)) (fun r => !isId x0 r) [x0, x1, x2, x3] done (b.h.drop i) = R) ∧ Hid (Below w0.heap.size w0 wr)) (fun _ _ s7 _ => b.h.length - (intOf s7).toNat)
 case atStart => exact ⟨0, [], _, rfl, rfl, ⟨World.ownsRow_nil _ _ _ _, fun r hr => by simp at hr⟩, Nat.zero_le _, Nat.zero_le _, zH (Eq.trans rfl HR.out), Below.refl _ _⟩
 case round =>
  obtain ⟨i, acc, done, rfl, rfl, HO, hil, hal, hrest, hBr⟩ := hrel;replace hil := hil.out;by_cases hin : i < b.h.length
  ·have tn : decide ((i : Int) < (b.h.length : Int)) = true := decide_eq_true zw
   have hge : b.h[i]? = some b.h[i] := List.getElem?_eq_getElem hin;obtain ⟨hk, b0, o0, rfl, hbl, hc⟩ := HI.out i _ hge;have hR := zz8f hge hrest.out;clear hge hrest;generalize b.h[i] = r at *;obtain ⟨y0, y1, y2, y3, rfl⟩ : ∃ y0 y1 y2 y3, r = [y0, y1, y2, y3] := by
    match r, hk with
    | [y0, y1, y2, y3], _ => exact ⟨y0, y1, y2, y3, rfl⟩
   have HCC := zH hc;clear hk hc;cases done <;> rcases Int.lt_trichotomy y0 x0 with ho | ho | ho
   all_goals
    have eg : (!decide (([y0, y1, y2, y3] : List Int).headD 0 < x0)) = decide (x0 ≤ y0) := zge y0 x0;have en : (!isId x0 [y0, y1, y2, y3]) = (y0 != x0) := zne y0 x0;rw [eg, en] at hR
    first
    | (have tg : decide (x0 ≤ y0) = true := decide_eq_true zw; rw [tg] at hR; have tg' : x0 ≤ y0 := by omega)
    | (have tg : decide (x0 ≤ y0) = false := decide_eq_false zw; rw [tg] at hR; have tg' : ¬ x0 ≤ y0 := by omega)
    first
    | (have tne : (y0 != x0) = true := by simp; omega); rw [tne] at hR
    | (have tne : (y0 != x0) = false := by simp; omega); rw [tne] at hR
    clear eg en;replace hR := zH hR
    iterate 5
     try
      have cb := zC (zK K1 hBr.out).out; have q0 := zC (zK K2 hBr.out).out; obtain ⟨c0, c1, c2, c3⟩ := zR4 hBr.out hbl HCC.out;go_wp2_with (at_builtin; first | refine zz0h (W := w0) _ _ _ _ _ _ _ zz23 [y0, y1, y2, y3] _ _ hBr.out HO hBr.out.size rfl rfl rfl rfl rfl ?ln zx ?_ | refine zz0h (W := w0) _ _ _ _ _ _ _ zz23 [x0, x1, x2, x3] _ _ hBr.out HO hBr.out.size rfl rfl rfl rfl rfl ?ln zx ?_)
      first
      | (case ln => have := hal.out; first | omega | (simp; omega)
         intro v3 w3 hO3 hB3 hS3;replace HO := hO3;replace hBr := hB3;clear hO3 hB3 hS3)
      | (go_quiet (fail)
         obtain ⟨h1, h2⟩ := zDr hBr HO nq;replace HO := h2;replace hBr := h1;clear h1 h2;generalize World.drewN _ nq = wq at *)
      clear cb q0 c0 c1 c2 c3
    have cb := zC (zK K1 hBr.out).out; have q0 := zC (zK K2 hBr.out).out; obtain ⟨c0, c1, c2, c3⟩ := zR4 hBr.out hbl HCC.out;exact zt38
  ·have tn : decide ((i : Int) < (b.h.length : Int)) = false := decide_eq_false zw
   have hR := hrest.out;rw [List.drop_eq_nil_of_le zw] at hR;clear hrest;cases done
   all_goals
    have cb := zC (zK K1 hBr.out).out; have q0 := zC (zK K2 hBr.out).out
    first
    | (go_wp2_with (at_builtin; refine zz0h (W := w0) _ _ _ _ _ _ _ zz23 [x0, x1, x2, x3] _ _ hBr.out HO hBr.out.size rfl rfl rfl rfl rfl ?ln zx ?_)
       (case ln => have := hal.out; omega)
       intro v3 w3 hO3 hB3 hS3;replace HO := hO3;replace hBr := hB3;clear hO3 hB3 hS3)
    | skip
    clear cb q0;obtain ⟨L1, e1, HL⟩ : ∃ L1, L1 = R ∧ Hid (RowOwn _ w0.heap.size 78 _ 4 L1) := ⟨_, by simpa [setK] using hR, HO⟩
    subst e1;clear hR HO;obtain ⟨A5, c5', rfl⟩ := HL.out.form;have n1 := zK K1 hBr.out;have n3 := zK K3 hBr.out;have p0 := zC n1.out;have pf := zF n1.out;have v0 := zC n3.out;have vf := zF n3.out;go_wp2_with fail;obtain ⟨wF, e5, h5, HF, GF⟩ := zz5n HB0 hBr.out K1 K3 HL 0 (.slice A5 L1.length c5') (.slice A5 L1.length c5') (.slice As b.s.length cs) (.slice Ao b.o.length co) (.slice Ar b.r.length cr) (.int .i64 b.n);rw [e5];refine bodyPost_ret (v := .agg #[.slice A5 L1.length c5', .slice As b.s.length cs, .slice Ao b.o.length co, .slice Ar b.r.length cr, b.n]) ?_ rfl ⟨_, rfl, ?_, ⟨_, _, _, _, _, _, _, _, _, _, rfl, rfl, .inr (fun q hq => Nat.le_trans HB0.out.size (GF.1.lt q hq).1), .inl rfl, .inl rfl, .inl rfl⟩, HF⟩
    ·simp [results, Tryz.results43, go_sem, h5]
    ·obtain ⟨_, _, _, _, hh, g1, g2, g3, g4⟩ := HBK.out.call HF
     injection hh with hh
     simp only [Array.mk.injEq, List.cons.injEq] at hh;obtain ⟨rfl, rfl, rfl, rfl, _⟩ := hh;have GG := GF.row;have hacc := HR.out;generalize L1 = L0 at *;subst hacc;exact ⟨_, _, _, _, rfl, GG, g2, g3, g4⟩
theorem zz7p (v : Value) (b : Bk) (x0 x1 : Int) (w : World) (hb : Hid (BkAt w v b)) (hl : b.r.length ≤ 1000000) :
  Calls Tryz.prog 44 #[v, .agg #[x0, x1]] w fun e w' => ∃ v', e = .returned v' ∧ BkAt w' v' { b with r := setH x0 [x0, x1] false b.r } ∧ Kin w.heap.size v v' ∧ Below w.heap.size w w' := by
 obtain ⟨vh, vs, vo, vr, rfl, h1, h2, h3, h4⟩ := hb.out;obtain ⟨Ah, ch, rfl, _⟩ := h1.rec';obtain ⟨As, cs, rfl, _⟩ := h2.rec';obtain ⟨Ao, co, rfl, _⟩ := h3.rec';obtain ⟨Ar, cr, rfl, _⟩ := h4.rec';obtain ⟨R, hR⟩ : ∃ R, setH x0 [x0, x1] false b.r = R := ⟨_, rfl⟩;obtain ⟨w0, hw0⟩ : ∃ w0, ((w.alloc (.cells (BF Ah ch As cs Ao co Ar cr b b.n) 27)).alloc (.cells #[x0, x1] 84)).alloc (.cells BZ 27) = w0 := ⟨_, rfl⟩;have HB0 : Hid (Below w.heap.size w w0) := by rw [← hw0]; exact zz01 (zz01 zBa (by simp) _) zo _
 have K1 : ZB w0 w.heap.size (BF Ah ch As cs Ao co Ar cr b b.n) 27 := by rw [← hw0]; exact zz04 (zz04 (zz02 _ _) _) _
 have K2 : ZB w0 (w.heap.size + 1) #[x0, x1] 84 := by rw [← hw0]; exact zz04 (zz0e _ _ _ (by simp)) _
 have K3 : ZB w0 (w.heap.size + 2) BZ 27 := by rw [← hw0]; exact zz0e _ _ _ (by simp)
 obtain ⟨A', c', hA', hi⟩ := (h4.call HB0.out).rec';injection hA' with hA1 _ hA3
 subst hA1 hA3;have HI := zH hi;have HBK : Hid (BkAt w (.agg (BF Ah ch As cs Ao co Ar cr b b.n)) b) := hb;have HR := zH hR;replace hw0 := zH hw0;clear hb h1 h2 h3 h4 hi hR;have q0 := zC K2.out;rw [← hw0.out] at q0;go_in;go_wp2_with fail;rw [hw0.out];clear q0;go_loopw [5, 6, 7] (fun s5 s6 s7 wr => ∃ (i : Nat) (acc : List (List Int)) (done : Bool), s7 = .int .i64 i ∧ s6 = .bool done ∧ Hid (RowOwn wr w0.heap.size 84 s5 2 acc) ∧ Hid (i ≤ b.r.length) ∧ Hid (acc.length ≤ 2 * i) ∧ Hid (acc ++ setK (fun r => !decide (r.headD 0 < x0)) (fun r => !isId x0 r) [x0, x1] done (b.r.drop i) = R) ∧ Hid (Below w0.heap.size w0 wr)) (fun _ _ s7 _ => b.r.length - (intOf s7).toNat)
 case atStart => exact ⟨0, [], _, rfl, rfl, ⟨World.ownsRow_nil _ _ _ _, fun r hr => by simp at hr⟩, Nat.zero_le _, Nat.zero_le _, zH (Eq.trans rfl HR.out), Below.refl _ _⟩
 case round =>
  obtain ⟨i, acc, done, rfl, rfl, HO, hil, hal, hrest, hBr⟩ := hrel;replace hil := hil.out;by_cases hin : i < b.r.length
  ·have tn : decide ((i : Int) < (b.r.length : Int)) = true := decide_eq_true zw
   have hge : b.r[i]? = some b.r[i] := List.getElem?_eq_getElem hin;obtain ⟨hk, b0, o0, rfl, hbl, hc⟩ := HI.out i _ hge;have hR := zz8f hge hrest.out;clear hge hrest;generalize b.r[i] = r at *;obtain ⟨y0, y1, rfl⟩ : ∃ y0 y1, r = [y0, y1] := by
    match r, hk with
    | [y0, y1], _ => exact ⟨y0, y1, rfl⟩
   have HCC := zH hc;clear hk hc;cases done <;> rcases Int.lt_trichotomy y0 x0 with ho | ho | ho
   all_goals
    have eg : (!decide (([y0, y1] : List Int).headD 0 < x0)) = decide (x0 ≤ y0) := zge y0 x0;have en : (!isId x0 [y0, y1]) = (y0 != x0) := zne y0 x0;rw [eg, en] at hR
    first
    | (have tg : decide (x0 ≤ y0) = true := decide_eq_true zw; rw [tg] at hR; have tg' : x0 ≤ y0 := by omega)
    | (have tg : decide (x0 ≤ y0) = false := decide_eq_false zw; rw [tg] at hR; have tg' : ¬ x0 ≤ y0 := by omega)
    first
    | (have tne : (y0 != x0) = true := by simp; omega); rw [tne] at hR
    | (have tne : (y0 != x0) = false := by simp; omega); rw [tne] at hR
    clear eg en;replace hR := zH hR
    iterate 5
     try
      have cb := zC (zK K1 hBr.out).out; have q0 := zC (zK K2 hBr.out).out; obtain ⟨c0, c1⟩ := zR2 hBr.out hbl HCC.out;go_wp2_with (at_builtin; first | refine zz0h (W := w0) _ _ _ _ _ _ _ zz4n [y0, y1] _ _ hBr.out HO hBr.out.size rfl rfl rfl rfl rfl ?ln zx ?_ | refine zz0h (W := w0) _ _ _ _ _ _ _ zz4n [x0, x1] _ _ hBr.out HO hBr.out.size rfl rfl rfl rfl rfl ?ln zx ?_)
      first
      | (case ln => have := hal.out; first | omega | (simp; omega)
         intro v3 w3 hO3 hB3 hS3;replace HO := hO3;replace hBr := hB3;clear hO3 hB3 hS3)
      | (go_quiet (fail)
         obtain ⟨h1, h2⟩ := zDr hBr HO nq;replace HO := h2;replace hBr := h1;clear h1 h2;generalize World.drewN _ nq = wq at *)
      clear cb q0 c0 c1
    have cb := zC (zK K1 hBr.out).out; have q0 := zC (zK K2 hBr.out).out; obtain ⟨c0, c1⟩ := zR2 hBr.out hbl HCC.out;exact zt38
  ·have tn : decide ((i : Int) < (b.r.length : Int)) = false := decide_eq_false zw
   have hR := hrest.out;rw [List.drop_eq_nil_of_le zw] at hR;clear hrest;cases done
   all_goals
    have cb := zC (zK K1 hBr.out).out; have q0 := zC (zK K2 hBr.out).out
    first
    | (go_wp2_with (at_builtin; refine zz0h (W := w0) _ _ _ _ _ _ _ zz4n [x0, x1] _ _ hBr.out HO hBr.out.size rfl rfl rfl rfl rfl ?ln zx ?_)
       (case ln => have := hal.out; omega)
       intro v3 w3 hO3 hB3 hS3;replace HO := hO3;replace hBr := hB3;clear hO3 hB3 hS3)
    | skip
    clear cb q0;obtain ⟨L1, e1, HL⟩ : ∃ L1, L1 = R ∧ Hid (RowOwn _ w0.heap.size 84 _ 2 L1) := ⟨_, by simpa [setK] using hR, HO⟩
    subst e1;clear hR HO;obtain ⟨A5, c5', rfl⟩ := HL.out.form;have n1 := zK K1 hBr.out;have n3 := zK K3 hBr.out;have p0 := zC n1.out;have pf := zF n1.out;have v0 := zC n3.out;have vf := zF n3.out;go_wp2_with fail;obtain ⟨wF, e5, h5, HF, GF⟩ := zz5n HB0 hBr.out K1 K3 HL 3 (.slice A5 L1.length c5') (.slice Ah b.h.length ch) (.slice As b.s.length cs) (.slice Ao b.o.length co) (.slice A5 L1.length c5') (.int .i64 b.n);rw [e5];refine bodyPost_ret (v := .agg #[.slice Ah b.h.length ch, .slice As b.s.length cs, .slice Ao b.o.length co, .slice A5 L1.length c5', b.n]) ?_ rfl ⟨_, rfl, ?_, ⟨_, _, _, _, _, _, _, _, _, _, rfl, rfl, .inl rfl, .inl rfl, .inl rfl, .inr (fun q hq => Nat.le_trans HB0.out.size (GF.1.lt q hq).1)⟩, HF⟩
    ·simp [results, Tryz.results44, go_sem, h5]
    ·obtain ⟨_, _, _, _, hh, g1, g2, g3, g4⟩ := HBK.out.call HF
     injection hh with hh
     simp only [Array.mk.injEq, List.cons.injEq] at hh;obtain ⟨rfl, rfl, rfl, rfl, _⟩ := hh;have GG := GF.row;have hacc := HR.out;generalize L1 = L0 at *;subst hacc;exact ⟨_, _, _, _, rfl, g1, g2, g3, GG⟩
theorem zz2q (v : Value) (b : Bk) (x0 x1 x2 x3 x4 x5 : Int) (w : World) (hb : Hid (BkAt w v b)) (hl : b.o.length ≤ 1000000) :
  Calls Tryz.prog 45 #[v, .agg #[x0, x1, x2, x3, x4, x5]] w fun e w' => ∃ v', e = .returned v' ∧ BkAt w' v' { b with o := setH x0 [x0, x1, x2, x3, x4, x5] (x4 == 0) b.o } ∧ Kin w.heap.size v v' ∧ Below w.heap.size w w' := by
 obtain ⟨vh, vs, vo, vr, rfl, h1, h2, h3, h4⟩ := hb.out;obtain ⟨Ah, ch, rfl, _⟩ := h1.rec';obtain ⟨As, cs, rfl, _⟩ := h2.rec';obtain ⟨Ao, co, rfl, _⟩ := h3.rec';obtain ⟨Ar, cr, rfl, _⟩ := h4.rec';obtain ⟨R, hR⟩ : ∃ R, setH x0 [x0, x1, x2, x3, x4, x5] (x4 == 0) b.o = R := ⟨_, rfl⟩;obtain ⟨w0, hw0⟩ : ∃ w0, ((w.alloc (.cells (BF Ah ch As cs Ao co Ar cr b b.n) 27)).alloc (.cells #[x0, x1, x2, x3, x4, x5] 82)).alloc (.cells BZ 27) = w0 := ⟨_, rfl⟩;have HB0 : Hid (Below w.heap.size w w0) := by rw [← hw0]; exact zz01 (zz01 zBa (by simp) _) zo _
 have K1 : ZB w0 w.heap.size (BF Ah ch As cs Ao co Ar cr b b.n) 27 := by rw [← hw0]; exact zz04 (zz04 (zz02 _ _) _) _
 have K2 : ZB w0 (w.heap.size + 1) #[x0, x1, x2, x3, x4, x5] 82 := by rw [← hw0]; exact zz04 (zz0e _ _ _ (by simp)) _
 have K3 : ZB w0 (w.heap.size + 2) BZ 27 := by rw [← hw0]; exact zz0e _ _ _ (by simp)
 obtain ⟨A', c', hA', hi⟩ := (h3.call HB0.out).rec';injection hA' with hA1 _ hA3
 subst hA1 hA3;have HI := zH hi;have HBK : Hid (BkAt w (.agg (BF Ah ch As cs Ao co Ar cr b b.n)) b) := hb;have HR := zH hR;replace hw0 := zH hw0;clear hb h1 h2 h3 h4 hi hR;have q0 := zC K2.out;rw [← hw0.out] at q0;go_in;go_wp2_with fail;rw [hw0.out];clear q0;go_loopw [5, 6, 7] (fun s5 s6 s7 wr => ∃ (i : Nat) (acc : List (List Int)) (done : Bool), s7 = .int .i64 i ∧ s6 = .bool done ∧ Hid (RowOwn wr w0.heap.size 82 s5 6 acc) ∧ Hid (i ≤ b.o.length) ∧ Hid (acc.length ≤ 2 * i) ∧ Hid (acc ++ setK (fun r => !decide (r.headD 0 < x0)) (fun r => !isId x0 r) [x0, x1, x2, x3, x4, x5] done (b.o.drop i) = R) ∧ Hid (Below w0.heap.size w0 wr)) (fun _ _ s7 _ => b.o.length - (intOf s7).toNat)
 case atStart => exact ⟨0, [], _, rfl, rfl, ⟨World.ownsRow_nil _ _ _ _, fun r hr => by simp at hr⟩, Nat.zero_le _, Nat.zero_le _, zH (Eq.trans rfl HR.out), Below.refl _ _⟩
 case round =>
  obtain ⟨i, acc, done, rfl, rfl, HO, hil, hal, hrest, hBr⟩ := hrel;replace hil := hil.out;by_cases hin : i < b.o.length
  ·have tn : decide ((i : Int) < (b.o.length : Int)) = true := decide_eq_true zw
   have hge : b.o[i]? = some b.o[i] := List.getElem?_eq_getElem hin;obtain ⟨hk, b0, o0, rfl, hbl, hc⟩ := HI.out i _ hge;have hR := zz8f hge hrest.out;clear hge hrest;generalize b.o[i] = r at *;obtain ⟨y0, y1, y2, y3, y4, y5, rfl⟩ : ∃ y0 y1 y2 y3 y4 y5, r = [y0, y1, y2, y3, y4, y5] := by
    match r, hk with
    | [y0, y1, y2, y3, y4, y5], _ => exact ⟨y0, y1, y2, y3, y4, y5, rfl⟩
   have HCC := zH hc;clear hk hc;cases done <;> rcases Int.lt_trichotomy y0 x0 with ho | ho | ho
   all_goals
    have eg : (!decide (([y0, y1, y2, y3, y4, y5] : List Int).headD 0 < x0)) = decide (x0 ≤ y0) := zge y0 x0;have en : (!isId x0 [y0, y1, y2, y3, y4, y5]) = (y0 != x0) := zne y0 x0;rw [eg, en] at hR
    first
    | (have tg : decide (x0 ≤ y0) = true := decide_eq_true zw; rw [tg] at hR; have tg' : x0 ≤ y0 := by omega)
    | (have tg : decide (x0 ≤ y0) = false := decide_eq_false zw; rw [tg] at hR; have tg' : ¬ x0 ≤ y0 := by omega)
    first
    | (have tne : (y0 != x0) = true := by simp; omega); rw [tne] at hR
    | (have tne : (y0 != x0) = false := by simp; omega); rw [tne] at hR
    clear eg en;replace hR := zH hR
    iterate 5
     try
      have cb := zC (zK K1 hBr.out).out; have q0 := zC (zK K2 hBr.out).out; obtain ⟨c0, c1, c2, c3, c4, c5⟩ := zR6 hBr.out hbl HCC.out;go_wp2_with (at_builtin; first | refine zz0h (W := w0) _ _ _ _ _ _ _ el_Open [y0, y1, y2, y3, y4, y5] _ _ hBr.out HO hBr.out.size rfl rfl rfl rfl rfl ?ln zx ?_ | refine zz0h (W := w0) _ _ _ _ _ _ _ el_Open [x0, x1, x2, x3, x4, x5] _ _ hBr.out HO hBr.out.size rfl rfl rfl rfl rfl ?ln zx ?_)
      first
      | (case ln => have := hal.out; first | omega | (simp; omega)
         intro v3 w3 hO3 hB3 hS3;replace HO := hO3;replace hBr := hB3;clear hO3 hB3 hS3)
      | (go_quiet (fail)
         obtain ⟨h1, h2⟩ := zDr hBr HO nq;replace HO := h2;replace hBr := h1;clear h1 h2;generalize World.drewN _ nq = wq at *)
      clear cb q0 c0 c1 c2 c3 c4 c5
    have cb := zC (zK K1 hBr.out).out; have q0 := zC (zK K2 hBr.out).out; obtain ⟨c0, c1, c2, c3, c4, c5⟩ := zR6 hBr.out hbl HCC.out;exact zt38
  ·have tn : decide ((i : Int) < (b.o.length : Int)) = false := decide_eq_false zw
   have hR := hrest.out;rw [List.drop_eq_nil_of_le zw] at hR;clear hrest;cases done
   all_goals
    have cb := zC (zK K1 hBr.out).out; have q0 := zC (zK K2 hBr.out).out
    first
    | (go_wp2_with (at_builtin; refine zz0h (W := w0) _ _ _ _ _ _ _ el_Open [x0, x1, x2, x3, x4, x5] _ _ hBr.out HO hBr.out.size rfl rfl rfl rfl rfl ?ln zx ?_)
       (case ln => have := hal.out; omega)
       intro v3 w3 hO3 hB3 hS3;replace HO := hO3;replace hBr := hB3;clear hO3 hB3 hS3)
    | skip
    clear cb q0;obtain ⟨L1, e1, HL⟩ : ∃ L1, L1 = R ∧ Hid (RowOwn _ w0.heap.size 82 _ 6 L1) := ⟨_, by simpa [setK] using hR, HO⟩
    subst e1;clear hR HO;obtain ⟨A5, c5', rfl⟩ := HL.out.form;have n1 := zK K1 hBr.out;have n3 := zK K3 hBr.out;have p0 := zC n1.out;have pf := zF n1.out;have v0 := zC n3.out;have vf := zF n3.out;go_wp2_with fail;obtain ⟨wF, e5, h5, HF, GF⟩ := zz5n HB0 hBr.out K1 K3 HL 2 (.slice A5 L1.length c5') (.slice Ah b.h.length ch) (.slice As b.s.length cs) (.slice A5 L1.length c5') (.slice Ar b.r.length cr) (.int .i64 b.n);rw [e5];refine bodyPost_ret (v := .agg #[.slice Ah b.h.length ch, .slice As b.s.length cs, .slice A5 L1.length c5', .slice Ar b.r.length cr, b.n]) ?_ rfl ⟨_, rfl, ?_, ⟨_, _, _, _, _, _, _, _, _, _, rfl, rfl, .inl rfl, .inl rfl, .inr (fun q hq => Nat.le_trans HB0.out.size (GF.1.lt q hq).1), .inl rfl⟩, HF⟩
    ·simp [results, Tryz.results45, go_sem, h5]
    ·obtain ⟨_, _, _, _, hh, g1, g2, g3, g4⟩ := HBK.out.call HF
     injection hh with hh
     simp only [Array.mk.injEq, List.cons.injEq] at hh;obtain ⟨rfl, rfl, rfl, rfl, _⟩ := hh;have GG := GF.row;have hacc := HR.out;generalize L1 = L0 at *;subst hacc;exact ⟨_, _, _, _, rfl, g1, g2, GG, g4⟩
theorem zz6u (v : Value) (b : Bk) (x0 x1 x2 : Int) (w : World) (hb : Hid (BkAt w v b)) (hl : b.s.length ≤ 1000000) :
  Calls Tryz.prog 47 #[v, .agg #[x0, x1, x2]] w fun e w' => ∃ v', e = .returned v' ∧ BkAt w' v' { b with s := setS x0 x1 [x0, x1, x2] (x2 == 0) b.s } ∧ Kin w.heap.size v v' ∧ Below w.heap.size w w' := by
 obtain ⟨vh, vs, vo, vr, rfl, h1, h2, h3, h4⟩ := hb.out;obtain ⟨Ah, ch, rfl, _⟩ := h1.rec';obtain ⟨As, cs, rfl, _⟩ := h2.rec';obtain ⟨Ao, co, rfl, _⟩ := h3.rec';obtain ⟨Ar, cr, rfl, _⟩ := h4.rec';obtain ⟨R, hR⟩ : ∃ R, setS x0 x1 [x0, x1, x2] (x2 == 0) b.s = R := ⟨_, rfl⟩;obtain ⟨w0, hw0⟩ : ∃ w0, ((w.alloc (.cells (BF Ah ch As cs Ao co Ar cr b b.n) 27)).alloc (.cells #[x0, x1, x2] 80)).alloc (.cells BZ 27) = w0 := ⟨_, rfl⟩;have HB0 : Hid (Below w.heap.size w w0) := by rw [← hw0]; exact zz01 (zz01 zBa (by simp) _) zo _
 have K1 : ZB w0 w.heap.size (BF Ah ch As cs Ao co Ar cr b b.n) 27 := by rw [← hw0]; exact zz04 (zz04 (zz02 _ _) _) _
 have K2 : ZB w0 (w.heap.size + 1) #[x0, x1, x2] 80 := by rw [← hw0]; exact zz04 (zz0e _ _ _ (by simp)) _
 have K3 : ZB w0 (w.heap.size + 2) BZ 27 := by rw [← hw0]; exact zz0e _ _ _ (by simp)
 obtain ⟨A', c', hA', hi⟩ := (h2.call HB0.out).rec';injection hA' with hA1 _ hA3
 subst hA1 hA3;have HI := zH hi;have HBK : Hid (BkAt w (.agg (BF Ah ch As cs Ao co Ar cr b b.n)) b) := hb;have HR := zH hR;replace hw0 := zH hw0;clear hb h1 h2 h3 h4 hi hR;have q0 := zC K2.out;rw [← hw0.out] at q0;go_in;go_wp2_with fail;rw [hw0.out];clear q0;go_loopw [5, 6, 7] (fun s5 s6 s7 wr => ∃ (i : Nat) (acc : List (List Int)) (done : Bool), s7 = .int .i64 i ∧ s6 = .bool done ∧ Hid (RowOwn wr w0.heap.size 80 s5 3 acc) ∧ Hid (i ≤ b.s.length) ∧ Hid (acc.length ≤ 2 * i) ∧ Hid (acc ++ setK (fun r => !decide (r.headD 0 < x0 ∨ r.headD 0 = x0 ∧ r.tail.headD 0 < x1)) (fun r => !isKey x0 x1 r) [x0, x1, x2] done (b.s.drop i) = R) ∧ Hid (Below w0.heap.size w0 wr)) (fun _ _ s7 _ => b.s.length - (intOf s7).toNat)
 case atStart => exact ⟨0, [], _, rfl, rfl, ⟨World.ownsRow_nil _ _ _ _, fun r hr => by simp at hr⟩, Nat.zero_le _, Nat.zero_le _, zH (Eq.trans rfl HR.out), Below.refl _ _⟩
 case round =>
  obtain ⟨i, acc, done, rfl, rfl, HO, hil, hal, hrest, hBr⟩ := hrel;replace hil := hil.out;by_cases hin : i < b.s.length
  ·have tn : decide ((i : Int) < (b.s.length : Int)) = true := decide_eq_true zw
   have hge : b.s[i]? = some b.s[i] := List.getElem?_eq_getElem hin;obtain ⟨hk, b0, o0, rfl, hbl, hc⟩ := HI.out i _ hge;have hR := zz8f hge hrest.out;clear hge hrest;generalize b.s[i] = r at *;obtain ⟨y0, y1, y2, rfl⟩ : ∃ y0 y1 y2, r = [y0, y1, y2] := by
    match r, hk with
    | [y0, y1, y2], _ => exact ⟨y0, y1, y2, rfl⟩
   have HCC := zH hc;clear hk hc;have hBw := hBr;have c0 := zR3 hBr.out hbl HCC.out;have cbw := zC (zK K1 hBr.out).out;have qw := zC (zK K2 hBr.out).out;have l0 := zL (zK K1 hBr.out).out;have l1 := zL (zK K2 hBr.out).out;have l2 := Nat.lt_of_lt_of_le hbl hBr.out.size;have KX : Hid ((wr.alloc (.cells #[y0, y1, y2] 80)).heap[wr.heap.size]? = some (.cells #[y0, y1, y2] 80 (0, 0))) := zz02 _ _;have hNE : Hid (u5.ownBlock ≠ some wr.heap.size) := (show _ ≠ _ from fun h => by have := (HO.out.1.lt _ h).2; omega)
   replace HO : Hid (RowOwn (wr.alloc (.cells #[y0, y1, y2] 80)) w0.heap.size 80 u5 3 acc) := HO.out.kept zBa;replace hBr : Hid (Below w0.heap.size w0 (wr.alloc (.cells #[y0, y1, y2] 80))) := zz01 hBw.out hBw.out.size _;cases done <;> rcases Int.lt_trichotomy y0 x0 with ho | ho | ho <;> rcases Int.lt_trichotomy y1 x1 with hp | hp | hp
   all_goals
    first | have tA : decide (x0 < y0) = true := decide_eq_true zw | have tA : decide (x0 < y0) = false := decide_eq_false zw
    first | have tE : (y0 == x0) = true := by simp; omega | have tE : (y0 == x0) = false := by simp; omega
    first | have tN0 : (y0 != x0) = true := by simp; omega | have tN0 : (y0 != x0) = false := by simp; omega
    first | have tG : decide (x1 ≤ y1) = true := decide_eq_true zw | have tG : decide (x1 ≤ y1) = false := decide_eq_false zw
    first | have tN1 : (y1 != x1) = true := by simp; omega | have tN1 : (y1 != x1) = false := by simp; omega
    first | (have eg : (!decide (([y0, y1, y2] : List Int).headD 0 < x0 ∨ ([y0, y1, y2] : List Int).headD 0 = x0 ∧ ([y0, y1, y2] : List Int).tail.headD 0 < x1)) = true := by simp; omega); rw [eg] at hR | (have eg : (!decide (([y0, y1, y2] : List Int).headD 0 < x0 ∨ ([y0, y1, y2] : List Int).headD 0 = x0 ∧ ([y0, y1, y2] : List Int).tail.headD 0 < x1)) = false := by simp; omega); rw [eg] at hR
    first | (have en : (!isKey x0 x1 [y0, y1, y2]) = true := by simp [isKey]; omega); rw [en] at hR | (have en : (!isKey x0 x1 [y0, y1, y2]) = false := by simp [isKey]; omega); rw [en] at hR
    clear eg en;replace hR := zH hR;clear ho hp
    iterate 2
     try
      have cb := zC (zK K1 hBr.out).out; have q0 := zC (zK K2 hBr.out).out; have kx := zC KX.out;go_wp2_with (at_builtin; first | refine zz1b (W := w0) _ _ _ _ _ _ _ el_Stake [y0, y1, y2] _ _ hBr.out HO hBr.out.size rfl rfl rfl rfl (by first | rfl | simp) rfl ?ln zx ?_ | refine zz1b (W := w0) _ _ _ _ _ _ _ el_Stake [x0, x1, x2] _ _ hBr.out HO hBr.out.size rfl rfl rfl rfl (by first | rfl | simp) rfl ?ln zx ?_)
      (case ln => have := hal.out; first | omega | (simp; omega))
      intro v3 w3 hO3 hB3 hS3 ho3
      try replace KX := zH (ho3.out _ _ hNE.out KX.out)
      replace HO := hO3;replace hBr := hB3;clear hO3 hB3 hS3 ho3 cb q0 kx
    have cb := zC (zK K1 hBr.out).out; have q0 := zC (zK K2 hBr.out).out; have kx := zC KX.out;exact zt38
  ·have tn : decide ((i : Int) < (b.s.length : Int)) = false := decide_eq_false zw
   have hR := hrest.out;rw [List.drop_eq_nil_of_le zw] at hR;clear hrest;cases done
   all_goals
    have cb := zC (zK K1 hBr.out).out; have q0 := zC (zK K2 hBr.out).out
    first
    | (go_wp2_with (at_builtin; refine zz1b (W := w0) _ _ _ _ _ _ _ el_Stake [x0, x1, x2] _ _ hBr.out HO hBr.out.size rfl rfl rfl rfl (by first | rfl | simp) rfl ?ln zx ?_)
       (case ln => have := hal.out; omega)
       intro v3 w3 hO3 hB3 hS3 ho3;replace HO := hO3;replace hBr := hB3;clear hO3 hB3 hS3 ho3)
    | skip
    clear cb q0;obtain ⟨L1, e1, HL⟩ : ∃ L1, L1 = R ∧ Hid (RowOwn _ w0.heap.size 80 _ 3 L1) := ⟨_, by simpa [setK] using hR, HO⟩
    subst e1;clear hR HO;obtain ⟨A5, c5', rfl⟩ := HL.out.form;have n1 := zK K1 hBr.out;have n3 := zK K3 hBr.out;have p0 := zC n1.out;have pf := zF n1.out;have v0 := zC n3.out;have vf := zF n3.out;go_wp2_with fail;obtain ⟨wF, e5, h5, HF, GF⟩ := zz5n HB0 hBr.out K1 K3 HL 1 (.slice A5 L1.length c5') (.slice Ah b.h.length ch) (.slice A5 L1.length c5') (.slice Ao b.o.length co) (.slice Ar b.r.length cr) (.int .i64 b.n);rw [e5];refine bodyPost_ret (v := .agg #[.slice Ah b.h.length ch, .slice A5 L1.length c5', .slice Ao b.o.length co, .slice Ar b.r.length cr, b.n]) ?_ rfl ⟨_, rfl, ?_, ⟨_, _, _, _, _, _, _, _, _, _, rfl, rfl, .inl rfl, .inr (fun q hq => Nat.le_trans HB0.out.size (GF.1.lt q hq).1), .inl rfl, .inl rfl⟩, HF⟩
    ·simp [results, Tryz.results47, go_sem, h5]
    ·obtain ⟨_, _, _, _, hh, g1, g2, g3, g4⟩ := HBK.out.call HF
     injection hh with hh
     simp only [Array.mk.injEq, List.cons.injEq] at hh;obtain ⟨rfl, rfl, rfl, rfl, _⟩ := hh;have GG := GF.row;have hacc := HR.out;generalize L1 = L0 at *;subst hacc;exact ⟨_, _, _, _, rfl, g1, GG, g3, g4⟩
theorem zz8j {g p i : Nat} (hne : p ≠ g) : ∀ (us : List Value) (o : Nat) (w : World), (putC w g o us).cell? ⟨p, i, none⟩ = w.cell? ⟨p, i, none⟩
 | [], _, _ => rfl
 | u :: us, o, w => by
  show (putC (w.setCell ⟨g, o, none⟩ u) g (o + 1) us).cell? ⟨p, i, none⟩ = _;rw [zz8j hne us (o + 1)];unfold World.cell?;have := zz03 (vs := [u]) (o := o) (w := w) hne (x := w.heap[p]?) rfl;simp only [putC] at this;simp [this]
theorem zz5s {g : Nat} : ∀ (us : List Value) (o : Nat) (w : World), (putC w g o us).heap.size = w.heap.size
 | [], _, _ => rfl
 | u :: us, o, w => by
  show (putC (w.setCell ⟨g, o, none⟩ u) g (o + 1) us).heap.size = _;rw [zz5s us (o + 1)];simp
theorem RowAt.putKin {w0 w : World} {u v : Value} {k B g : Nat} {l0 l : List (List Int)} (hk : Kin1 B u v) (hv : RowAt w v k l) (hu : RowAt w0 u k l0) (hg : w0.heap.size ≤ g) (hB : g < B) (o : Nat) (us : List Value) : RowAt (putC w g o us) v k l := by
 obtain ⟨A, c, rfl, hl, h⟩ := hv;refine ⟨A, c, rfl, hl, ?_⟩;rcases h with h | ⟨p, q, rfl, hp, hc⟩
 ·exact .inl h
 by_cases hz : l = []
 ·exact .inl hz
 refine .inr ⟨p, q, rfl, by rw [zz5s]; exact hp, fun j x hj => ?_⟩
 have hne : p ≠ g := by
  rcases hk with e | e
  ·obtain ⟨A0, c0, e0, _, h0⟩ := hu
   rw [← e] at e0;injection e0 with e1 e2 _
   rcases h0 with h0 | ⟨p0, q0, e3, hp0, _⟩
   ·subst h0
    exact absurd (List.eq_nil_of_length_eq_zero (by simpa using e2)) hz
   ·rw [← e1] at e3
    injection e3 with e3
    injection e3 with e3
    omega
  ·have := e p rfl
   omega
 rw [zz8j hne];exact hc j x hj
theorem BkAt.putKin {w0 w : World} {u v : Value} {b0 b : Bk} {B g : Nat} (hk : Kin B u v) (hv : BkAt w v b) (hu : BkAt w0 u b0) (hg : w0.heap.size ≤ g) (hB : g < B) (o : Nat) (us : List Value) : BkAt (putC w g o us) v b := by
 obtain ⟨a0, a1, a2, a3, n, c0, c1, c2, c3, m, rfl, rfl, k0, k1, k2, k3⟩ := hk;obtain ⟨_, _, _, _, e, h0, h1, h2, h3⟩ := hv;injection e with e
 simp only [Array.mk.injEq, List.cons.injEq, and_true] at e;obtain ⟨rfl, rfl, rfl, rfl, rfl⟩ := e;obtain ⟨_, _, _, _, e, j0, j1, j2, j3⟩ := hu;injection e with e
 simp only [Array.mk.injEq, List.cons.injEq, and_true] at e;obtain ⟨rfl, rfl, rfl, rfl, rfl⟩ := e;exact ⟨_, _, _, _, rfl, RowAt.putKin k0 h0 j0 hg hB o us, RowAt.putKin k1 h1 j1 hg hB o us, RowAt.putKin k2 h2 j2 hg hB o us, RowAt.putKin k3 h3 j3 hg hB o us⟩
theorem Kin1.trans {B B' : Nat} {a b c : Value} (h : Kin1 B a b) (k : Kin1 B' b c) (hB : B ≤ B') : Kin1 B a c := by
 rcases k with rfl | k
 ·exact h
 ·exact .inr fun q hq => Nat.le_trans hB (k q hq)
theorem Kin.trans {B B' : Nat} {u v x : Value} (h : Kin B u v) (k : Kin B' v x) (hB : B ≤ B') : Kin B u x := by
 obtain ⟨a0, a1, a2, a3, n, c0, c1, c2, c3, m, rfl, rfl, k0, k1, k2, k3⟩ := h;obtain ⟨_, _, _, _, _, d0, d1, d2, d3, y, e, rfl, j0, j1, j2, j3⟩ := k;injection e with e
 simp only [Array.mk.injEq, List.cons.injEq, and_true] at e;obtain ⟨rfl, rfl, rfl, rfl, rfl⟩ := e;exact ⟨a0, a1, a2, a3, n, d0, d1, d2, d3, y, rfl, rfl, k0.trans j0 hB, k1.trans j1 hB, k2.trans j2 hB, k3.trans j3 hB⟩
end
end Go.Proofs.YtajogedbacpohaaGreatDoor
