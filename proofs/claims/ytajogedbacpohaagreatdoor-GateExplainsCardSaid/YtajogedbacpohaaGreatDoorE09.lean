/- Part 10 of what the claim rests on. -/
import Derived.Test.YtajogedbacpohaaGreatDoorE00
import Derived.Test.YtajogedbacpohaaGreatDoorE01
import Derived.Test.YtajogedbacpohaaGreatDoorE06
import Derived.Test.YtajogedbacpohaaGreatDoorE07
import Derived.Test.YtajogedbacpohaaGreatDoorE08
set_option linter.unusedVariables false
set_option linter.unusedSimpArgs false
set_option maxRecDepth 1000000
set_option maxHeartbeats 32000000
namespace Go.Proofs.YtajogedbacpohaaGreatDoor
section
open Go Go.RowKit Bg
structure UpInv (f h : Nat → Nat) (n k Q r : Nat) : Prop where
 lt : ∀ p, h p < 10000
 lo : ∀ p, p < k → h p = 0
 hi : ∀ p, n ≤ p → h p = 0
 val : pv h n = Q * 10000 ^ k
 all : pv f n = pv f k + (100 * Q + r) * 10000 ^ k
 rest : r < 100
theorem UpInv.step {f h : Nat → Nat} {n j Q r : Nat} (H : UpInv f h n (j + 1) Q r) (hf : f j < 10000) (hj : j < n) :
  UpInv f (upd h j ((r * 10000 + f j) / 100)) n j (Q * 10000 + (r * 10000 + f j) / 100) ((r * 10000 + f j) % 100) := by
 have h0 := H.rest;refine ⟨fun p => ?_, fun p hp => ?_, fun p hp => ?_, ?_, ?_, by omega⟩
 ·unfold upd; split
  ·omega
  ·exact H.lt p
 ·unfold upd; rw [if_neg zw]; exact H.lo p zw
 ·unfold upd; rw [if_neg zw]; exact H.hi p hp
 ·have h1 := pv_upd h j ((r * 10000 + f j) / 100) n hj
  have h2 := H.val;rw [H.lo j zw] at h1;rw [Nat.pow_succ] at h2;generalize (r * 10000 + f j) / 100 = d at *;generalize pv (upd h j d) n = v1 at *;generalize pv h n = v0 at *;generalize 10000 ^ j = q at *
  grind
 ·have h1 := H.all
  have h2 := Nat.div_add_mod (r * 10000 + f j) 100;rw [Nat.pow_succ] at h1;rw [h1];show pv f j + f j * 10000 ^ j + _ = _;generalize (r * 10000 + f j) / 100 = d at *;generalize (r * 10000 + f j) % 100 = e at *;generalize pv f j = v at *;generalize f j = a at *;generalize 10000 ^ j = q at *;have h3 : (100 * d + e) * q = (r * 10000 + a) * q := by rw [h2]
  grind
structure UpW (w wr : World) (A : Option Addr) (n c p : Nat) (h : Nat → Nat) : Prop where
 k1 : BigBlk wr w.heap.size false (.slice A n c)
 k3 : BigBlk wr (w.heap.size + 1) false (.slice none 0 0)
 k4 : BigBlk wr p false (.slice (some ⟨w.heap.size + 2, 0, none⟩) n n)
 row : wr.heap[w.heap.size + 2]? = some (.cells (rowA h n) 3 (0, 0))
 low : Below w.heap.size w wr
 hp : w.heap.size + 3 ≤ p
theorem UpW.ext {w wr : World} {A : Option Addr} {n c p : Nat} {h : Nat → Nat} (H : UpW w wr A n c p h) {w' : World} (hb : Below wr.heap.size wr w') : UpW w w' A n c p h :=
 ⟨H.k1.call hb, H.k3.call hb, H.k4.call hb, zz06 H.row hb, H.low.trans (hb.mono H.low.size), H.hp⟩
theorem UpW.set {w wr : World} {A : Option Addr} {n c p : Nat} {h : Nat → Nat} (H : UpW w wr A n c p h) (q x : Nat) (hq : q < n) :
  UpW w (wr.setCell ⟨w.heap.size + 2, q, none⟩ (.int .i64 (x : Nat))) A n c p (upd h q x) :=
 have hp := H.hp
 ⟨H.k1.oth _ _ zw, H.k3.oth _ _ zw, H.k4.oth _ _ zw, by rw [← zzal h hq x]; exact zz0d H.row q _, H.low.setCell (p := ⟨w.heap.size + 2, q, none⟩) (by show w.heap.size ≤ w.heap.size + 2; omega) _, H.hp⟩
def up100 (X : Int) : Int := (X + 99) / 100
theorem zt14 {p : Prop} (h : p := by
 refine zz0s 2 (L' := #[true, true, true, false]) zk zk rfl rfl ?_;go_wp2_with fail;(with_reducible refine (zz1t _ _ _ _ _ IV HO hQb hone).mono ?_);rintro e w9 ⟨⟨v9, rfl, hv9⟩, hb9⟩;obtain ⟨t9, A9, n9, c9, rfl⟩ := hv9.form;have HV9 := zH hv9;have J3 := zH (I3.out.call hb9);have J4 := zH (I4.out.call hb9);have JB := zB IB hb9;clear hv9 hb9 I3 I4 IB;go_wp2_with fail;refine zQs (trivial) ?_;refine zz0s 3 (L' := #[true, true, true, true]) zk zk rfl rfl ?_;have u0 := J4.out.c0;have u1 := J4.out.c1;have u2 := J4.out.z 0;have u3 := J4.out.z 1;go_wp2_with fail;refine zQs (trivial) ?_;refine ⟨by kernel_rfl, ?_⟩
 rw [zz1e];have M3 := zH ((J3.out.oth (q := p) 0 (.bool t9) zw).oth (q := p) 1 (.slice A9 n9 c9) zw);have M4 := zH ((J4.out.set0 t9).set1 (.slice A9 n9 c9));have MB := zH ((JB.out.setCell (p := ⟨p, 0, none⟩) (by show w.heap.size ≤ p; omega) (.bool t9)).setCell (p := ⟨p, 1, none⟩) (by show w.heap.size ≤ p; omega) (.slice A9 n9 c9))
 have MV := zH (HV9.out.store J4.out);clear u0 u1 u2 u3;have d0 := J3.out.c0;have d1 := J3.out.c1;have d2 := J3.out.z 0;have d3 := J3.out.z 1;have d4 := J4.out.c0;have d5 := J4.out.c1;have hlt9 := J4.out.lt;have hlt8 := J3.out.lt;go_wp2_with fail;refine bodyPost_ret (v := .agg #[.bool t9, .slice A9 n9 c9]) ?_ rfl ⟨⟨_, rfl, ?_⟩, ?_⟩
 ·have d0 := M3.out.c0
  have d1 := M3.out.c1;simp [results, Tryz.results160, go_sem, d0, d1]
 ·rw [HUP.out]; exact MV.out.store M3.out
 ·exact (MB.out.setCell (Nat.le_succ _) _).setCell (Nat.le_succ _) _) : p := h
theorem UpBy_any (x : Value) (X : Int) (w : World) (hx : Hid (BigAt w x X)) (bX : X.natAbs < 10000 ^ 39) (h0 : 0 ≤ X) :
  Calls Tryz.prog 160 #[x, .int .i64 100] w fun e w' => (∃ v, e = .returned v ∧ BigAt w' v (up100 X)) ∧ Below w.heap.size w w' := by
 obtain ⟨A, n, c, f, rfl, hc, hv, hd, hn⟩ := hx.out;have hn40 := zz1q (k := 39) hc (by rw [hv]; exact bX)
 rw [decide_eq_false (show ¬ X < 0 by omega)]
 have Hf : Hid (Dg f n) := hc.toDg;have HA := zH hd;have HV := zH hv;have h1 := (BigBlk.mk w _ false (.slice A n c) rfl).alloc (.cells #[.bool false, .slice none 0 0] 143);have h3 := BigBlk.mk (w.alloc (.cells #[.bool false, .slice A n c] 143)) (w.heap.size + 1) false (.slice none 0 0) (by rw [World.size_alloc])
 have hb1 := zz01 (zz01 (Below.refl w.heap.size w) (Nat.le_refl _) (.cells #[.bool false, .slice A n c] 143)) (by rw [World.size_alloc]; omega) (.cells #[.bool false, .slice none 0 0] 143)
 have hsz : ((w.alloc (.cells #[.bool false, .slice A n c] 143)).alloc (.cells #[.bool false, .slice none 0 0] 143)).heap.size = w.heap.size + 2 := by rw [World.size_alloc, World.size_alloc]
 clear hc hv hd hx;obtain ⟨ti, hti, htz, hts, htb⟩ := el_int.info;go_in;go_wp2_with (at_make; refine wpList_make_full _ rfl (.tmp 10) (.tmp 10) 141 rfl 0 3 ti (.int .i64 0) 1 el_int.und hti htz hts .i64 .i64 n n n rfl rfl rfl rfl (by rw [htb]; omega) (by unfold maxLen; omega) (Nat.zero_le _) ?_; intro w2 hown hgr; refine Hid.out ?_)
 refine zH ?_;generalize (w.alloc (.cells #[.bool false, .slice A n c] 143)).alloc (.cells #[.bool false, .slice none 0 0] 143) = w1 at *;rw [hsz] at hown;have hrow := zz7z hown;have hlt := zL hrow;have hb2 : Below w1.heap.size w1 w2 := ⟨hgr.os, hgr.tape, hgr.output, hgr.size, fun k hk => hgr.block k hk (by simp)⟩
 obtain ⟨p, hp⟩ : ∃ p, w2.heap.size = p := ⟨_, rfl⟩;have hUW : UpW w (w2.alloc (.cells #[.bool false, .slice (some ⟨w.heap.size + 2, 0, none⟩) n n] 143)) A n c p (fun _ => 0) :=
  ⟨(h1.call hb2).alloc _, (h3.call hb2).alloc _, BigBlk.mk w2 p false _ hp, zz04 hrow _, hb1.trans ((zz01 hb2 hb2.size _).mono hb1.size), by omega⟩
 have HUW := zH hUW;clear hown hgr h1 h3 hb1 hsz hb2 hrow hUW hti htz hts htb;have e0 := HUW.out.k1.c1;go_wp2_with fail;clear hp hlt e0;generalize w2.alloc (.cells #[.bool false, .slice (some ⟨w.heap.size + 2, 0, none⟩) n n] 143) = wS at *;go_loopw [6, 7] (fun s6 s7 wr => ∃ (k Q r : Nat) (h : Nat → Nat), s6 = .int .i64 (r : Int) ∧ s7 = .int .i64 ((k : Int) - 1) ∧ k ≤ n ∧ Hid (UpInv f h n k Q r) ∧ Hid (UpW w wr A n c p h)) (fun _ s7 _ => (intOf s7 + 1).toNat)
 case atStart => exact ⟨n, 0, 0, fun _ => 0, rfl, rfl, Nat.le_refl _, ⟨fun _ => by omega, fun _ _ => rfl, fun _ _ => rfl, by rw [zz28 (f := fun _ => 0) (n := 0) (fun _ _ => rfl) n (Nat.zero_le _), Nat.zero_mul]; rfl, by simp, by omega⟩, HUW.out⟩
 case round =>
  clear HUW;obtain ⟨k, Q, r, h, rfl, rfl, hk, HI, HW⟩ := hrel;have e0 := HW.out.k1.c1;have e1 := HW.out.k4.c1;by_cases hk0 : k = 0
  ·subst hk0
   have hvl : pv h n = Q := by have := HI.out.val; omega
   have hal : pv f n = 100 * Q + r := by have h1 := HI.out.all; have h2 : pv f 0 = 0 := rfl; omega
   have hr := HI.out.rest;have hX : X = ((100 * Q + r : Nat) : Int) := by have := HV.out; omega
   have hD4 : Hid (DigAt wr (some ⟨w.heap.size + 2, 0, none⟩) n h) := fun x hx => ⟨w.heap.size + 2, 0, rfl, (zL HW.out.row), by rw [Nat.zero_add]; exact zz00 HW.out.row x _ (zz2o h hx)⟩
   have qT := zz1y false (some ⟨w.heap.size + 2, 0, none⟩) n n h wr hD4 ⟨HI.out.lt, HI.out.hi⟩ zw (Nat.le_refl _);rw [hvl] at qT;have QT := zH qT;have e2 := HW.out.k4.c0;have HXQ := zH hX;clear qT hvl hal hX HI;go_wp2_with fail;(with_reducible refine QT.out.mono ?_);rintro e w5 ⟨⟨v5, rfl, hv5⟩, hb5⟩;obtain ⟨t5, A5, n5, c5, rfl⟩ := hv5.form;have H5 := zH (HW.out.ext hb5);have HV5 := zH hv5;have d0 := H5.out.k4.c0;have d1 := H5.out.k4.c1;have f0 := H5.out.k4.z 0;have f1 := H5.out.k4.z 1;clear hv5 hb5 HW e0 e1 e2 QT hD4;have hp3 := H5.out.hp;have hplt := H5.out.k4.lt;have K3 := zH ((H5.out.k3.oth (q := p) 0 (.bool t5) zw).oth (q := p) 1 (.slice A5 n5 c5) zw);have K4 := zH ((H5.out.k4.set0 t5).set1 (.slice A5 n5 c5));have KB := zH ((H5.out.low.setCell (p := ⟨p, 0, none⟩) (by show w.heap.size ≤ p; omega) (.bool t5)).setCell (p := ⟨p, 1, none⟩) (by show w.heap.size ≤ p; omega) (.slice A5 n5 c5))
   have KV := zH (HV5.out.store H5.out.k4);by_cases hr0 : r = 0
   ·have hr0' : ¬ (0 < (r : Int)) := by omega
    have hup : up100 X = sgn false Q := by unfold up100 sgn; rw [HXQ.out]; simp; omega
    have HUP := zH hup;have g0 := H5.out.k3.c0;have g1 := H5.out.k3.c1;have g2 := H5.out.k3.z 0;have g3 := H5.out.k3.z 1;have hne1 : ¬ p = w.heap.size + 1 := by omega
    have hne2 : ¬ w.heap.size + 1 = p := by omega
    have hlt1 := H5.out.k3.lt;clear hup hr0;go_wp2_with fail;refine bodyPost_ret (v := .agg #[.bool t5, .slice A5 n5 c5]) ?_ rfl ⟨⟨_, rfl, ?_⟩, ?_⟩
    ·have d0 := K3.out.c0
     have d1 := K3.out.c1;simp [results, Tryz.results160, go_sem, d0, d1]
    ·rw [HUP.out]; exact KV.out.store K3.out
    ·exact (KB.out.setCell (Nat.le_succ _) _).setCell (Nat.le_succ _) _
   ·have hr0' : 0 < (r : Int) := by omega
    have hup : up100 X = sgn false Q + 1 := by unfold up100 sgn; rw [HXQ.out]; simp; omega
    have HUP := zH hup;have qO := zH (fun w => zz33 1 (by unfold I64; omega) w)
    have hone : (1 : Int).natAbs < 10000 ^ 40 := by decide
    have hQb : (sgn false Q).natAbs < 10000 ^ 40 := by
     have h1 := HXQ.out;have h2 : (sgn false Q).natAbs ≤ X.natAbs := by unfold sgn; simp; omega
     have h3 : (10000 : Nat) ^ 39 ≤ 10000 ^ 40 := Nat.pow_le_pow_right zx zx;omega
    have hne1 : ¬ p = w.heap.size + 1 := by omega
    have hne2 : ¬ w.heap.size + 1 = p := by omega
    go_wp2_with fail;generalize (w5.setCell ⟨p, 0, none⟩ (.bool t5)).setCell ⟨p, 1, none⟩ (.slice A5 n5 c5) = w6 at *;clear d0 d1 f0 f1 H5 HV5 hplt hup;have e0 := K4.out.c0;have e1 := K4.out.c1;refine zz1l [] 4 #[false, false, false, false] zk zk zk zk (fun _ => True) trivial ?_
    unfold opsAt wpPure;refine zz6i 0 1 (Li := #[true, false, false, false]) (Lj := #[false, true, false, false]) zk zk zk rfl rfl rfl rfl ?_ ?_
    ·go_wp2_with fail
     refine zQs (trivial) ?_;refine zz0s 1 (L' := #[true, true, false, false]) zk zk rfl rfl ?_;go_wp2_with fail;(with_reducible refine (qO.out _).mono ?_);rintro e w8 ⟨⟨v8, rfl, hv8⟩, hb8⟩;obtain ⟨t8, A8, n8, c8, rfl⟩ := hv8.form;have HO := zH hv8;replace hb8 : Below w6.heap.size w6 w8 := (Below.refl w6.heap.size w6).drew.trans hb8;have I3 := zH (K3.out.call hb8);have I4 := zH (K4.out.call hb8);have IB := zB KB hb8;have IV := zH (KV.out.call hb8);clear hv8 hb8;go_wp2_with fail;refine zQs (trivial) ?_;exact zt14
    ·go_wp2_with fail
     (with_reducible refine (qO.out _).mono ?_);rintro e w8 ⟨⟨v8, rfl, hv8⟩, hb8⟩
     obtain ⟨t8, A8, n8, c8, rfl⟩ := hv8.form;have HO := zH hv8;replace hb8 : Below w6.heap.size w6 w8 := (Below.refl w6.heap.size w6).drew.trans hb8;have I3 := zH (K3.out.call hb8);have I4 := zH (K4.out.call hb8);have IB := zB KB hb8;have IV := zH (KV.out.call hb8);clear hv8 hb8;go_wp2_with fail;refine zQs (trivial) ?_;have e2 := I4.out.c0;have e3 := I4.out.c1;refine zz0s 0 (L' := #[true, true, false, false]) zk zk rfl rfl ?_;go_wp2_with fail;refine zQs (trivial) ?_;clear e2 e3;exact zt14
  ·obtain ⟨j, rfl⟩ : ∃ j, k = j + 1 := ⟨k - 1, by omega⟩
   have ej : ((j + 1 : Nat) : Int) - 1 = (j : Int) := by omega
   rw [ej];obtain ⟨b, ob, rfl, hblt, hbc⟩ := (HA.out.call HW.out.low) j zw;have a1 := Hf.out.lt j;have hr := HI.out.rest;have hst := zH (HI.out.step a1 zw);obtain ⟨a, ha⟩ : ∃ x, f j = x := ⟨_, rfl⟩;rw [ha] at a1 hst hbc;obtain ⟨x, hx⟩ : ∃ x, r * 10000 + a = x := ⟨_, rfl⟩;have hxi : (r : Int) * 10000 + (a : Int) = (x : Int) := by omega
   rw [hx] at hst;obtain ⟨dd, hdd⟩ : ∃ y, x / 100 = y := ⟨_, rfl⟩;obtain ⟨ee, hee⟩ : ∃ y, x % 100 = y := ⟨_, rfl⟩;have t2 : (x : Int).tdiv 100 = (dd : Int) := by rw [Int.tdiv_eq_ediv_of_nonneg zw]; omega
   have t3 : (x : Int).tmod 100 = (ee : Int) := by rw [Int.tmod_eq_emod_of_nonneg zw]; omega
   have hx1 : x < 1000000 := by omega
   have hd1 : dd < 10000 := by omega
   have he1 : ee < 100 := by omega
   rw [hdd, hee] at hst;have hjn : (j : Int) < n := by omega
   have hjn' : j < n := by omega
   have hplt := HW.out.k4.lt;clear ha hx hdd hee HI hk0 ej;go_wp2_with fail;refine zz35 7 zk zk ?_;simp only [List.take_succ_cons, List.take_zero, List.drop_succ_cons, List.drop_zero]
   repeat (go_big_quiet_step (fail))
   refine wpQuiet_nil ?_;rintro w' ⟨y, rfl⟩;have HW2 := zH (HW.out.ext y.below);generalize y.w = wq at *;clear y HW e0 e1 hplt hblt hbc;clear wr;have e3 := zz00 HW2.out.row j _ (zz2o h hjn');have e4 := zz05 HW2.out.row j;go_wp2_with fail;go_roundw
   case rel => exact ⟨j, Q * 10000 + dd, ee, _, rfl, rfl, by omega, hst.out, HW2.out.set j dd hjn'⟩
   case measure => simp [intOf]
def fitsP (X : Int) : Int × Bool := if Mon.fits X then (X, true) else (0, false)
theorem zz8y {X : Int} (h : -9223372036854775808 ≤ X ∧ X ≤ 9223372036854775807) : fitsP X = (X, true) := by
 unfold fitsP Mon.fits; rw [if_pos (by simp [h])]
theorem zz5z {X : Int} (h : ¬ (-9223372036854775808 ≤ X ∧ X ≤ 9223372036854775807)) : fitsP X = (0, false) := by
 unfold fitsP Mon.fits; rw [if_neg (by simpa using h)]
structure FitInv (f : Nat → Nat) (n k T : Nat) : Prop where
 all : pv f n = pv f k + T * 10000 ^ k
theorem FitInv.step {f : Nat → Nat} {n j T : Nat} (H : FitInv f n (j + 1) T) : FitInv f n j (T * 10000 + f j) := by
 refine ⟨?_⟩;have h := H.all;rw [h, Nat.pow_succ];show pv f j + f j * 10000 ^ j + _ = _;generalize pv f j = v at *;generalize f j = a at *;generalize 10000 ^ j = q at *
 grind
theorem FitInv.le {f : Nat → Nat} {n k T : Nat} (H : FitInv f n k T) : T ≤ pv f n := by
 have h := H.all;have h1 : T * 1 ≤ T * 10000 ^ k := Nat.mul_le_mul_left _ (Nat.pow_pos zx);omega
theorem zt25 {p : Prop} (h : p := by
 obtain ⟨j, rfl⟩ : ∃ j, k = j + 1 := ⟨k - 1, by omega⟩
 have ej : ((j + 1 : Nat) : Int) - 1 = (j : Int) := by omega
 rw [ej];obtain ⟨b, ob, rfl, hblt, hbc⟩ := HD1.out j zw;have a1 := Hf.out.lt j;have hst := zH HI.out.step;have hT2 := HI.out.step.le;obtain ⟨a, ha⟩ : ∃ y, f j = y := ⟨_, rfl⟩;rw [ha] at a1 hst hbc hT2;obtain ⟨T2, hT2e⟩ : ∃ y, T * 10000 + a = y := ⟨_, rfl⟩;rw [hT2e] at hst hT2;have t1 : -(T : Int) * 10000 = -((T * 10000 : Nat) : Int) := by omega
 have t4 : wrap64 (-(T : Int) * 10000) = -((T * 10000 : Nat) : Int) := by rw [t1]; unfold wrap64; omega
 have t2 : wrap64 (wrap64 (-(T : Int) * 10000) - (a : Int)) = -(T2 : Int) := by rw [t4]; unfold wrap64; omega
 have t5 : wrap64 (-(T : Int) * 10000 - (a : Int)) = -(T2 : Int) := by unfold wrap64; omega
 have t6 : -(T : Int) * 10000 - (a : Int) = -(T2 : Int) := by omega
 have hjn : (j : Int) < n := by omega
 clear ha hT2e ej hk0 t1;go_wp2_with fail;go_roundw
 case rel => exact ⟨j, T2, rfl, rfl, by omega, hst.out, trivial⟩
 case measure => simp [intOf]) : p := h
theorem zz2f (x : Value) (X : Int) (w : World) (hx : Hid (BigAt w x X)) (bX : X.natAbs < 10000 ^ 40) :
  Calls Tryz.prog 101 #[x] w fun e w' => e = .returned (.tuple #[.int .i64 (fitsP X).1, .bool (fitsP X).2]) ∧ Below w.heap.size w w' := by
 obtain ⟨A, n, c, f, rfl, hc, hv, hd, hn⟩ := hx.out;have hn40 := zz1q (k := 40) hc (by rw [hv]; exact bX)
 obtain ⟨s, hs⟩ : ∃ s, decide (X < 0) = s := ⟨_, rfl⟩;rw [hs];have Hf : Hid (Dg f n) := hc.toDg;have h1 := BigBlk.mk w _ s (.slice A n c) rfl;have hb1 := zz01 (Below.refl w.heap.size w) (Nat.le_refl _) (.cells #[.bool s, .slice A n c] 143);have HA := zH hd;have qO := zH (fun w => zz33 (-9223372036854775808) (by unfold I64; omega) w)
 clear hc hd hx;go_in;go_wp2_with fail;generalize w.alloc (.cells #[.bool s, .slice A n c] 143) = w1 at *;(with_reducible refine (qO.out _).mono ?_);rintro e w2 ⟨⟨v8, rfl, hv8⟩, hb8⟩;obtain ⟨A2, n2, c2, f2, rfl, hc2, kv2, hd2, _⟩ := hv8;have hn2 := zz1q (k := 40) hc2 (by rw [kv2]; decide)
 rw [show decide ((-9223372036854775808 : Int) < 0) = true by decide]
 have kv3 : pv f2 n2 = 9223372036854775808 := by rw [kv2]; decide
 have Hf2 : Hid (Dg f2 n2) := hc2.toDg;obtain ⟨q, hq⟩ : ∃ q, w2.heap.size = q := ⟨_, rfl⟩;have K1 := zH ((h1.call hb8).alloc (.cells #[.bool true, .slice A2 n2 c2] 143));have K2 := zH (BigBlk.mk w2 q true (.slice A2 n2 c2) hq);have KB := zH (zz01 (hb1.trans (hb8.mono hb1.size)) (Nat.le_trans hb1.size hb8.size) (.cells #[.bool true, .slice A2 n2 c2] 143));have hbw := (zz01 (Below.refl w2.heap.size w2) (Nat.le_refl _) (.cells #[.bool true, .slice A2 n2 c2] 143));have HD2 := zH (hd2.call hbw);have HD1 := zH (HA.out.call KB.out);clear hc2 kv2 hd2 hb8 h1 hb1 hbw qO;rw [← hv] at bX;have e0 := K1.out.c0;have e1 := K1.out.c1;have e3 := K2.out.c1;by_cases hX : X < 0
 ·obtain rfl : s = true := by rw [← hs]; exact decide_eq_true hX
  have qL0 := zH (zz5u A2 A n2 n c2 c f2 f);have qL := zH (fun w' h1 h2 => qL0.out w' h1 h2 Hf2 Hf zw zw)
  clear qL0;by_cases hg : pv f n ≤ 9223372036854775808
  ·have hc : decide (pv f2 n2 < pv f n) = false := decide_eq_false zw
   rw [hc] at qL;have HF := zH (zz8y (X := X) zw);clear hs hc;go_wp2_with (go_at_call 157; with_reducible refine (qL.out _ HD2 HD1).mono ?_; rintro e w9 ⟨rfl, rfl⟩);clear qL e3 hq;generalize w2.alloc (.cells #[.bool true, .slice A2 n2 c2] 143) = wr at *;go_loopw [5, 6] (fun s5 s6 wr' => ∃ k T : Nat, s5 = .int .i64 (-(T : Int)) ∧ s6 = .int .i64 ((k : Int) - 1) ∧ k ≤ n ∧ Hid (FitInv f n k T) ∧ wr' = wr) (fun _ s6 _ => (intOf s6 + 1).toNat)
   case atStart => exact ⟨n, 0, rfl, rfl, Nat.le_refl _, ⟨by rw [Nat.zero_mul]; rfl⟩, rfl⟩
   case round =>
    obtain ⟨k, T, rfl, rfl, hk, HI, rfl⟩ := hrel;have hT := HI.out.le;by_cases hk0 : k = 0
    ·subst hk0
     have hTv : T = pv f n := by have := HI.out.all; have h0 : pv f 0 = 0 := rfl; omega
     have hTX : -(T : Int) = X := by omega
     have HTX := zH hTX;clear hTv hTX;go_wp2_with fail;go_ret2;refine ⟨?_, KB.out⟩;rw [HF.out, ← HTX.out]
     rfl
    ·exact zt25
  ·have hc : decide (pv f2 n2 < pv f n) = true := decide_eq_true zw
   rw [hc] at qL;have HF := zH (zz5z (X := X) zw);clear hs hc;go_wp2_with (go_at_call 157; with_reducible refine (qL.out _ HD2 HD1).mono ?_; rintro e w9 ⟨rfl, rfl⟩);go_ret2;exact ⟨by rw [HF.out]; rfl, KB.out⟩
 ·obtain rfl : s = false := by rw [← hs]; exact decide_eq_false hX
  have qL0 := zH (zz5u A A2 n n2 c c2 f f2);have qL := zH (fun w' h1 h2 => qL0.out w' h1 h2 Hf Hf2 zw zw)
  clear qL0;by_cases hg : pv f n < 9223372036854775808
  ·have hc : decide (pv f n < pv f2 n2) = true := decide_eq_true zw
   rw [hc] at qL;have HF := zH (zz8y (X := X) zw);clear hs hc;go_wp2_with (go_at_call 157; with_reducible refine (qL.out _ HD1 HD2).mono ?_; rintro e w9 ⟨rfl, rfl⟩);clear qL e3 hq;generalize w2.alloc (.cells #[.bool true, .slice A2 n2 c2] 143) = wr at *;go_loopw [5, 6] (fun s5 s6 wr' => ∃ k T : Nat, s5 = .int .i64 (-(T : Int)) ∧ s6 = .int .i64 ((k : Int) - 1) ∧ k ≤ n ∧ Hid (FitInv f n k T) ∧ wr' = wr) (fun _ s6 _ => (intOf s6 + 1).toNat)
   case atStart => exact ⟨n, 0, rfl, rfl, Nat.le_refl _, ⟨by rw [Nat.zero_mul]; rfl⟩, rfl⟩
   case round =>
    obtain ⟨k, T, rfl, rfl, hk, HI, rfl⟩ := hrel;have hT := HI.out.le;by_cases hk0 : k = 0
    ·subst hk0
     have hTv : T = pv f n := by have := HI.out.all; have h0 : pv f 0 = 0 := rfl; omega
     have hTX : (T : Int) = X := by omega
     have HTX := zH hTX;clear hTv hTX;have hTb : T < 9223372036854775808 := by omega
     go_wp2_with fail;go_ret2;refine ⟨?_, KB.out⟩;rw [HF.out, ← HTX.out]
     rfl
    ·exact zt25
  ·have hc : decide (pv f n < pv f2 n2) = false := decide_eq_false zw
   rw [hc] at qL;have HF := zH (zz5z (X := X) zw);clear hs hc;go_wp2_with (go_at_call 157; with_reducible refine (qL.out _ HD1 HD2).mono ?_; rintro e w9 ⟨rfl, rfl⟩);go_ret2;exact ⟨by rw [HF.out]; rfl, KB.out⟩
end
section
open Go Go.RowKit Mon
def sumA (V : Int) : Array Value := #[.int .u64 (w0 V), .int .u64 (w1 V), .int .u64 (w2 V)]
def SumAt (w : World) (g : Nat) (V : Int) : Prop := w.heap[g]? = some (.cells (sumA V) 196 (0, 0))
def acC (a b c d e f : Int) : Nat → Int
 | 0 => 0
 | 1 => (a + d) / 18446744073709551616
 | 2 => (b + e + (a + d) / 18446744073709551616) / 18446744073709551616
 | _ => (c + f + (b + e + (a + d) / 18446744073709551616) / 18446744073709551616) / 18446744073709551616
def acW (a b c d e f : Int) : Nat → Array Value
 | 0 => #[.int .u64 a, .int .u64 b, .int .u64 c]
 | 1 => #[.int .u64 ((a + d) % 18446744073709551616), .int .u64 b, .int .u64 c]
 | 2 => #[.int .u64 ((a + d) % 18446744073709551616), .int .u64 ((b + e + (a + d) / 18446744073709551616) % 18446744073709551616), .int .u64 c]
 | _ => #[.int .u64 ((a + d) % 18446744073709551616), .int .u64 ((b + e + (a + d) / 18446744073709551616) % 18446744073709551616), .int .u64 ((c + f + (b + e + (a + d) / 18446744073709551616) / 18446744073709551616) % 18446744073709551616)]
theorem zz4m {a w : World} {g : Option Nat} (h : a.grownBy w g) (o : Obj) : a.grownBy (w.alloc o) g :=
 ⟨h.os, h.tape, h.output, by rw [World.size_alloc]; exact Nat.le_succ_of_le h.size, fun i hi hne => (Below.heap_alloc w o i (Nat.lt_of_lt_of_le hi h.size)).trans (h.block i hi hne)⟩
theorem zzby (g : Nat) (a b c d e f : Int) (ha : 0 ≤ a ∧ a < M) (hb : 0 ≤ b ∧ b < M) (hc : 0 ≤ c ∧ c < M) (hd : 0 ≤ d ∧ d < M) (he : 0 ≤ e ∧ e < M) (hf : 0 ≤ f ∧ f < M) (w : World)
  (hS : ZB w g (acW a b c d e f 0) 196) :
  Calls Tryz.prog 179 #[.pointer (some ⟨g, 0, none⟩), .agg #[.int .u64 d, .int .u64 e, .int .u64 f]] w fun r w' =>
   r = .returned (.tuple #[]) ∧ w'.heap[g]? = some (.cells (acW a b c d e f 3) 196 (0, 0)) ∧ w.grownBy w' (some g) := by
 have hglt : g < w.heap.size := zL hS.out;go_in;go_wp2_with fail;go_loopw [4, 5, 6] (fun s4 s5 s6 wr => ∃ k : Nat, k ≤ 3 ∧ s4 = .int .u64 (acC a b c d e f k) ∧ s6 = .int .i64 k ∧
  ZB wr g (acW a b c d e f k) 196 ∧ ZB wr w.heap.size #[.int .u64 d, .int .u64 e, .int .u64 f] 194 ∧ Hid (w.grownBy wr (some g))) (fun _ _ s6 _ => 3 - (intOf s6).toNat)
 case atStart => exact ⟨0, by decide, rfl, rfl, zz04 hS.out _, zz02 _ _, zz4m (World.grownBy.refl _ _) _⟩
 case round =>
  obtain ⟨k, hk, rfl, rfl, H0, H1, HB⟩ := hrel;have hne : ¬ g = w.heap.size := by omega
  have ha0 := ha.1; have hb0 := hb.1; have hc0 := hc.1; have hd0 := hd.1; have he0 := he.1; have hf0 := hf.1;have ha1 := ha.2; have hb1 := hb.2; have hc1 := hc.2; have hd1 := hd.2; have he1 := he.2; have hf1 := hf.2;unfold M at ha1 hb1 hc1 hd1 he1 hf1;clear ha hb hc hd he hf;clear hS;have hglt2 : g < wr.heap.size := zL H0.out;have hblt : w.heap.size < wr.heap.size := zL H1.out;by_cases hk3 : k = 3
  ·subst hk3
   go_wp2_with fail;go_end0;exact ⟨rfl, H0.out, HB.out⟩
  ·have hk' : k < 3 := by omega
   have key : ∃ x y s c' : Int, (wr.cell? ⟨g, k, none⟩ = some (.int .u64 x)) ∧ (wr.cell? ⟨w.heap.size, k, none⟩ = some (.int .u64 y)) ∧
     (∀ w : World, (callFunc 184 #[.int .u64 x, .int .u64 y, .int .u64 (acC a b c d e f k)]).run Tryz.prog w = .ok (.value (.tuple #[.int .u64 s, .int .u64 c'])) w) ∧
     c' = acC a b c d e f (k + 1) ∧ (acW a b c d e f k).setIfInBounds k (.int .u64 s) = acW a b c d e f (k + 1) := by
    rcases three k hk with rfl | rfl | rfl | rfl
    ·exact ⟨a, d, _, _, zz00 H0.out 0 _ rfl, zz00 H1.out 0 _ rfl, fun w => zz7a a d ha0 hd0 w, rfl, rfl⟩
    ·exact ⟨b, e, _, _, zz00 H0.out 1 _ rfl, zz00 H1.out 1 _ rfl, fun w => add64 b e _ hb0 he0 (by simp only [acC]; omega) (by simp only [acC]; omega) w, rfl, rfl⟩
    ·exact ⟨c, f, _, _, zz00 H0.out 2 _ rfl, zz00 H1.out 2 _ rfl, fun w => add64 c f _ hc0 hf0 (by simp only [acC]; omega) (by simp only [acC]; omega) w, rfl, rfl⟩
    ·omega
   obtain ⟨x, y, s, c', hx, hy, q, hc', hs⟩ := key;obtain ⟨cc, hcc⟩ : ∃ cc : Int, acC a b c d e f k = cc := ⟨_, rfl⟩;rw [hcc] at q ⊢;have HC := zH hc';have HS := zH hs;have f0 := zz05 H0.out k;clear hc' hs hcc hk;go_wp2_with fail;refine zz1l [0, 1, 2, 3, 4, 5, 6, 8, 9, 10, 11, 16, 17] 8 (zb 21 200575) zk zk zk zk (fun wz => Hid (wz.cell? ⟨w.heap.size, k, none⟩ = some (.int .u64 y))) hy ?_
   simp only [opsAt, zA];refine zz2j rfl rfl ?_;refine zz2j rfl rfl ?_;refine zz2j rfl rfl ?_;refine zz2j rfl rfl ?_;refine zz0z (.pointer (some ⟨g, 0, none⟩)) rfl (fun wz _ => by unfold execOp; go_simp) ?_
   refine zz0z (.pointer (some ⟨g, 0, none⟩)) rfl (fun wz _ => by unfold execOp; go_simp) ?_
   refine zz0z (.pointer (some ⟨g, k, none⟩)) rfl (fun wz _ => by unfold execOp; go_simp) ?_
   refine zz2j rfl rfl ?_;refine zz0z (.pointer (some ⟨w.heap.size, k, none⟩)) rfl (fun wz _ => by unfold execOp; go_simp) ?_
   refine zz0z (.int .u64 y) rfl (fun wz hC => by have := (Hid.out hC); unfold execOp; go_simp) ?_
   refine zz2j rfl rfl ?_;refine zz0z (.pointer (some ⟨g, 0, none⟩)) rfl (fun wz _ => by unfold execOp; go_simp) ?_
   refine zz0z (.pointer (some ⟨g, 0, none⟩)) rfl (fun wz _ => by unfold execOp; go_simp) ?_
   unfold wpPure;go_simp;refine zz0s 7 (L' := (zb 21 200703)) zk zk rfl rfl ?_;go_wp2_with fail;refine zQs (hy) ?_;refine zz0s 12 (L' := (zb 21 204799)) zk zk rfl rfl ?_;go_wp2_with fail;refine zQs (hy) ?_;refine zz0s 13 (L' := (zb 21 212991)) zk zk rfl rfl ?_;go_wp2_with fail;refine zQs (hy) ?_;refine zz4f zk hy 3 [14, 15] _ _ zk ?_ (fun a' h => h)
   simp only [opsAt, zA];refine zz0z (.int .u64 s) rfl (fun wz _ => by unfold execOp; go_simp) ?_
   refine zz0z (.int .u64 c') rfl (fun wz _ => by unfold execOp; go_simp) ?_
   unfold wpPure;go_simp;refine zz0s 18 (L' := (zb 21 524287)) zk zk rfl rfl ?_;go_wp2_with fail;refine zQs (hy) ?_;refine zz0s 19 (L' := (zb 21 1048575)) zk zk rfl rfl ?_;go_wp2_with fail;rw [zz1d];have HY2 : Hid ((wr.drew.setCell ⟨g, k, none⟩ (.int .u64 s)).cell? ⟨w.heap.size, k, none⟩ = some (.int .u64 y)) := by
    have e : (wr.drew.setCell ⟨g, k, none⟩ (.int .u64 s)).heap[w.heap.size]? = wr.heap[w.heap.size]? := zz09 rfl _ _ (Ne.symm hne);have h1 := hy;unfold World.cell? at h1;show World.cell? _ _ = _;unfold World.cell?;rw [e]; exact h1
   refine ⟨HY2.out, ?_⟩;refine zz0s 20 (L' := (zb 21 2097151)) zk zk rfl rfl ?_;go_wp2_with fail;refine zQs (HY2.out) ?_;refine ⟨by kernel_rfl, ?_⟩
   rw [zz1e];clear HY2 hx hy q f0;go_wp2_with fail;go_roundw
   case rel => exact ⟨k + 1, by omega, by rw [HC.out], by go_num, by rw [← HS.out]; exact zz0d H0.out _ _, zz09 H1.out _ _ (Ne.symm hne), zz8u HB.out 1 _ _⟩
   case measure => simp [intOf]; omega
theorem zz21 (x : Int) : 0 ≤ x % 18446744073709551616 ∧ x % 18446744073709551616 < M := by unfold M; omega
theorem acW_sum {V a b c d e f : Int} (hV : Ok V) (h0 : w0 V = a) (h1 : w1 V = b) (h2 : w2 V = c) (hd : 0 ≤ d ∧ d < M) (he : 0 ≤ e ∧ e < M) (hf : 0 ≤ f ∧ f < M) :
  acW a b c d e f 3 = sumA ((V + (d + e * M + f * (M * M))) % M3) := by
 obtain ⟨ha, hb, hc⟩ := w_ok hV;have hv := w_back hV;rw [h0] at ha; rw [h1] at hb; rw [h2] at hc;rw [h0, h1, h2] at hv;have h := add_words ha hb hc hd he hf;rw [hv] at h;obtain ⟨e0, e1, e2, _⟩ := w_of (V := (V + (d + e * M + f * (M * M))) % M3) (zz21 _) (zz21 _) (zz21 _) h;unfold sumA;rw [e0, e1, e2]
 rfl
theorem ngW_sum (W : Int) (h : 0 ≤ W ∧ W < M * M) : ∃ d e f : Int, (0 ≤ d ∧ d < M) ∧ (0 ≤ e ∧ e < M) ∧ (0 ≤ f ∧ f < M) ∧
  ngW (W % 18446744073709551616) (W / 18446744073709551616) 0 (18446744073709551615 - W % 18446744073709551616) (18446744073709551615 - W / 18446744073709551616) (18446744073709551615 - 0) 3 = #[.int .u64 d, .int .u64 e, .int .u64 f] ∧ d + e * M + f * (M * M) = (M3 - W) % M3 := by
 refine ⟨_, _, _, zz21 _, zz21 _, zz21 _, rfl, ?_⟩;have := neg_words (a := W % M) (b := W / M) (c := 0) (by unfold M; omega) (by unfold M at *; omega) (by unfold M; omega)
 rw [show W % M + W / M * M + 0 * (M * M) = W by unfold M; omega] at this
 rw [this]
 rfl
theorem zz5x (w : World) (o : Obj) {w2 : World} (h : Below (w.alloc o).heap.size (w.alloc o) w2) (g : Nat) : w.grownBy w2 (some g) := by
 have h1 : Below w.heap.size w w2 := (zz01 (Below.refl _ _) (Nat.le_refl _) o).trans (h.mono (by rw [World.size_alloc]; omega))
 exact ⟨h1.os, h1.tape, h1.output, h1.size, fun k hk _ => h1.block k hk⟩
theorem zz2b {w wz : World} {g : Option Nat} (h : w.grownBy wz g) {p : Addr} (hp : w.heap.size ≤ p.block) (v : Value) : w.grownBy (wz.setCell p v) g :=
 ⟨h.os, h.tape, h.output, by simpa [World.setCell] using h.size, fun k hk hne => by
  rw [Below.heap_setCell _ _ _ _ zw];exact h.block k hk hne⟩
theorem ab_prod {a b : Int} (ha : I64 a) (hb : I64 b) : 0 ≤ ab a * ab b ∧ ab a * ab b < M * M := by
 have h1 := (zz94 ha).1;have h2 := (zz94 hb).1;have h3 : ab a ≤ 9223372036854775808 := by unfold I64 at ha; unfold ab; split <;> omega
 have h4 : ab b ≤ 9223372036854775808 := by unfold I64 at hb; unfold ab; split <;> omega
 have h5 := Int.mul_le_mul h3 h4 h2 zx;have h6 := Int.mul_nonneg h1 h2;unfold M;omega
theorem zt9 {p : Prop} (h : p := by
 have HW := zH hW;rw [hW2];clear hW hW2 hp;go_in;go_wp2_with (first
  | (go_at_call 176; with_reducible refine (qm.out _).mono ?_; rintro e w' ⟨rfl, rfl⟩)
  | (go_at_call 177; first | (with_reducible refine (qa.out _).mono ?_; rintro e w' ⟨rfl, rfl⟩) | (with_reducible refine (qb.out _).mono ?_; rintro e w' ⟨rfl, rfl⟩)))
 refine (neg_any (W % 18446744073709551616) (W / 18446744073709551616) 0 (zz21 _) ⟨by have := HP.out; omega, by have := HP.out; unfold M at *; omega⟩ (by unfold M; omega) _).mono ?_
 rintro e wz ⟨rfl, hb2⟩;obtain ⟨d, e, f, hd, he, hf, hng, hdef⟩ := ngW_sum W HP.out;rw [hng];have c0 : wz.cell? ⟨w'.heap.size, 0, none⟩ = some (.int .u64 (W % 18446744073709551616)) := zz00 (zz06 (zz02 _ _) hb2) 0 _ rfl;have c1 : wz.cell? ⟨w'.heap.size, 1, none⟩ = some (.int .u64 (W / 18446744073709551616)) := zz00 (zz06 (zz02 _ _) hb2) 1 _ rfl;have c2 : wz.cell? ⟨w'.heap.size, 2, none⟩ = some (.int .u64 0) := zz00 (zz06 (zz02 _ _) hb2) 2 _ rfl;have f0 := zz05 (zz06 (zz02 w' (.cells #[.int .u64 (W % 18446744073709551616), .int .u64 (W / 18446744073709551616), .int .u64 0] 194)) hb2) 0;have f1 := zz05 (zz06 (zz02 w' (.cells #[.int .u64 (W % 18446744073709551616), .int .u64 (W / 18446744073709551616), .int .u64 0] 194)) hb2) 1;have f2 := zz05 (zz06 (zz02 w' (.cells #[.int .u64 (W % 18446744073709551616), .int .u64 (W / 18446744073709551616), .int .u64 0] 194)) hb2) 2;have hne : ¬ g = w'.heap.size := by omega
 have HB2 := zH (zz5x w' _ hb2 g);have HS2 : Hid (SumAt wz g V) := zz06 (zz04 hS.out _) hb2;have HD := zH (And.intro hd (And.intro he (And.intro hf hdef)));clear hb2 hng hd he hf hdef hS;go_wp2_with fail;refine (zzby g (w0 V) (w1 V) (w2 V) d e f k0 k1 k2 HD.out.1 HD.out.2.1 HD.out.2.2.1 _ (zz09 (zz09 (zz09 HS2.out _ _ hne) _ _ hne) _ _ hne)).mono ?_;rintro e w3 ⟨rfl, h2, h3⟩;have e1 := acW_sum hV rfl rfl rfl HD.out.1 HD.out.2.1 HD.out.2.2.1;rw [e1, HD.out.2.2.2, show (V + (M3 - W) % M3) % M3 = (V + -W) % M3 by unfold M3; omega] at h2
 have H2 := zH h2;have H3 := zH h3;clear h2 h3 e1;go_wp2_with fail;go_end0;exact ⟨rfl, H2.out, zz1k (zz2b (zz2b (zz2b HB2.out (Nat.le_refl _) _) (Nat.le_refl _) _) (Nat.le_refl _) _) H3.out⟩) : p := h
theorem zt24 {p : Prop} (h : p := by
 have HW := zH hW;rw [hW2];clear hW hW2 hp;go_in;go_wp2_with (first
  | (go_at_call 176; with_reducible refine (qm.out _).mono ?_; rintro e w' ⟨rfl, rfl⟩)
  | (go_at_call 177; first | (with_reducible refine (qa.out _).mono ?_; rintro e w' ⟨rfl, rfl⟩) | (with_reducible refine (qb.out _).mono ?_; rintro e w' ⟨rfl, rfl⟩)))
 refine (zzby g (w0 V) (w1 V) (w2 V) (W % 18446744073709551616) (W / 18446744073709551616) 0 k0 k1 k2 (zz21 _) ⟨by have := HP.out; omega, by have := HP.out; unfold M at *; omega⟩ (by unfold M; omega) _ (zz04 hS.out _)).mono ?_
 rintro e wz ⟨rfl, h2, h3⟩;have e1 := acW_sum hV rfl rfl rfl (zz21 W) (e := W / 18446744073709551616) (f := 0) ⟨by have := HP.out; omega, by have := HP.out; unfold M at *; omega⟩ (by unfold M; omega)
 rw [e1, show W % 18446744073709551616 + W / 18446744073709551616 * M + 0 * (M * M) = W by unfold M; omega] at h2
 have H2 := zH h2;have H3 := zH h3;clear h2 h3 e1;go_wp2_with fail;go_end0;exact ⟨rfl, H2.out, zz1k (zz4m (World.grownBy.refl _ _) _) H3.out⟩) : p := h
theorem zz0x (g : Nat) (V a b : Int) (hV : Ok V) (ha : I64 a) (hb : I64 b) (w : World) (hS : Hid (SumAt w g V)) :
  Calls Tryz.prog 145 #[.pointer (some ⟨g, 0, none⟩), .int .i64 a, .int .i64 b] w fun r w' =>
   r = .returned (.tuple #[]) ∧ SumAt w' g ((V + a * b) % M3) ∧ w.grownBy w' (some g) := by
 have hglt : g < w.heap.size := zL hS.out;have hp := ab_prod ha hb;have qa := zH (fun w => zzae a ha w)
 have qb := zH (fun w => zzae b hb w)
 have qm := zH (fun w => mul64 (ab a) (ab b) (zz94 ha) (zz94 hb) w)
 obtain ⟨W, hW⟩ : ∃ W : Int, ab a * ab b = W := ⟨_, rfl⟩;rw [hW] at hp qm;have HP := zH hp;obtain ⟨k0, k1, k2⟩ := w_ok hV;by_cases h1 : a < 0
 ·by_cases h2 : b < 0
  ·skip
   have d1 : decide (a < 0) = true := decide_eq_true h1;have d2 : decide (b < 0) = true := decide_eq_true h2;have hW2 : a * b = W := by rw [← hW]; unfold ab; rw [if_pos h1, if_pos h2]; exact (Int.neg_mul_neg a b).symm
   exact zt24
  ·skip
   have d1 : decide (a < 0) = true := decide_eq_true h1;have d2 : decide (b < 0) = false := decide_eq_false h2;have hW2 : a * b = -W := by rw [← hW]; unfold ab; rw [if_pos h1, if_neg h2]; rw [Int.neg_mul, Int.neg_neg]
   exact zt9
 ·by_cases h2 : b < 0
  ·skip
   have d1 : decide (a < 0) = false := decide_eq_false h1;have d2 : decide (b < 0) = true := decide_eq_true h2;have hW2 : a * b = -W := by rw [← hW]; unfold ab; rw [if_neg h1, if_pos h2]; rw [Int.mul_neg, Int.neg_neg]
   exact zt9
  ·skip
   have d1 : decide (a < 0) = false := decide_eq_false h1;have d2 : decide (b < 0) = false := decide_eq_false h2;have hW2 : a * b = W := by rw [← hW]; unfold ab; rw [if_neg h1, if_neg h2]
   exact zt24
theorem zz5j (g : Nat) (V a : Int) (hV : Ok V) (ha : I64 a) (w : World) (hS : Hid (SumAt w g V)) :
  Calls Tryz.prog 149 #[.pointer (some ⟨g, 0, none⟩), .int .i64 a] w fun r w' =>
   r = .returned (.tuple #[]) ∧ SumAt w' g ((V + a) % M3) ∧ w.grownBy w' (some g) := by
 go_in;go_wp2_with fail;refine (zz0x g V a 1 hV ha (by unfold I64; omega) w hS).mono ?_
 rintro e w2 ⟨rfl, h2, h3⟩;rw [Int.mul_one] at h2;have H2 := zH h2;have H3 := zH h3;clear h2 h3;go_wp2_with fail;go_end0;exact ⟨rfl, H2.out, H3.out⟩
theorem total_in {V : Int} (h : -9223372036854775808 ≤ sg V ∧ sg V ≤ 9223372036854775807) : total V = (sg V, true) := by
 unfold total fits; rw [if_pos (by simp [h])]
theorem total_out {V : Int} (h : ¬ (-9223372036854775808 ≤ sg V ∧ sg V ≤ 9223372036854775807)) : total V = (0, false) := by
 unfold total fits; rw [if_neg (by simpa using h)]
theorem zt64 {p : Prop} (h : p := by
 clear K' hs2 hv2 hn3 e1;go_in;go_wp2;go_ret2;exact ⟨by rw [E1.out]; first | rfl | (rw [← hn]; rfl), rfl⟩) : p := h
theorem zt65 {p : Prop} (h : p := by
 have K' := K.out; have hs2 := hs'.out; have hv2 := hv'.out; have hn3 := hn2.out;unfold M at K' hv2; unfold M3 at hs2;have e0 : s = n := by omega
 have e1 := hI.out zw;rw [e0] at e1;have E1 := zH e1;subst h1;subst h2;clear K' hs2 hv2 hn3 e1 e0;go_in;go_wp2;go_ret2;exact ⟨by rw [E1.out]; first | rfl | (rw [← hn]; rfl), rfl⟩) : p := h
theorem zz32 (g : Nat) (V : Int) (hV : Ok V) (w : World) (hS : Hid (SumAt w g V)) :
  Calls Tryz.prog 146 #[.pointer (some ⟨g, 0, none⟩)] w fun r w' =>
   r = .returned (.tuple #[.int .i64 (total V).1, .bool (total V).2]) ∧ w' = w := by
 have c0 : w.cell? ⟨g, 0, none⟩ = some (.int .u64 (w0 V)) := zz00 hS.out 0 _ rfl;have c1 : w.cell? ⟨g, 1, none⟩ = some (.int .u64 (w1 V)) := zz00 hS.out 1 _ rfl;have c2 : w.cell? ⟨g, 2, none⟩ = some (.int .u64 (w2 V)) := zz00 hS.out 2 _ rfl;obtain ⟨k0, k1, k2⟩ := w_ok hV;have hv := w_back hV;have hO := zH hV;have hs : sg V = if V < 3138550867693340381917894711603833208051177722232017256448 then V else V - M3 := rfl
 obtain ⟨T, hT⟩ : ∃ T, total V = T := ⟨_, rfl⟩;have hin := @total_in V;have hout := @total_out V;rw [hT] at hin hout ⊢;obtain ⟨s, hsV⟩ : ∃ s, sg V = s := ⟨_, rfl⟩;rw [hsV] at hs hin hout;obtain ⟨a, hA⟩ : ∃ a, w0 V = a := ⟨_, rfl⟩;obtain ⟨b, hB⟩ : ∃ b, w1 V = b := ⟨_, rfl⟩;obtain ⟨c, hC⟩ : ∃ c, w2 V = c := ⟨_, rfl⟩;rw [hA] at c0 k0 hv;rw [hB] at c1 k1 hv;rw [hC] at c2 k2 hv;obtain ⟨n, hn⟩ : ∃ n, wrap64 a = n := ⟨_, rfl⟩;have hn' : n = if a < 9223372036854775808 then a else a - 18446744073709551616 := by rw [← hn]; unfold M at k0; unfold wrap64; split <;> omega
 have hI := zH hin; have hO2 := zH hout; have hs' := zH hs; have hv' := zH hv; have hn2 := zH hn';have K := zH (And.intro k0 (And.intro k1 k2));clear hin hout hs hv hn' hT hsV hA hB hC k0 k1 k2 hV;by_cases h0 : n < 0
 ·skip
  by_cases h1 : b = 18446744073709551615
  ·by_cases h2 : c = 18446744073709551615
   ·skip
    exact zt65
   ·skip
    have tc : (c != 18446744073709551615) = true := by simpa using h2
    have K' := K.out; have hs2 := hs'.out; have hv2 := hv'.out; have hn3 := hn2.out;unfold M at K' hv2; unfold M3 at hs2;have e1 := hO2.out zw;have E1 := zH e1;subst h1;exact zt64
  ·skip
   have tb : (b != 18446744073709551615) = true := by simpa using h1
   have K' := K.out; have hs2 := hs'.out; have hv2 := hv'.out; have hn3 := hn2.out;unfold M at K' hv2; unfold M3 at hs2;have e1 := hO2.out zw;have E1 := zH e1;exact zt64
 ·skip
  by_cases h1 : b = 0
  ·by_cases h2 : c = 0
   ·skip
    exact zt65
   ·skip
    have tc : (c != 0) = true := by simpa using h2
    have K' := K.out; have hs2 := hs'.out; have hv2 := hv'.out; have hn3 := hn2.out;unfold M at K' hv2; unfold M3 at hs2;have e1 := hO2.out zw;have E1 := zH e1;subst h1;exact zt64
  ·skip
   have tb : (b != 0) = true := by simpa using h1
   have K' := K.out; have hs2 := hs'.out; have hv2 := hv'.out; have hn3 := hn2.out;unfold M at K' hv2; unfold M3 at hs2;have e1 := hO2.out zw;have E1 := zH e1;exact zt64
def pick4 (a b c d : Int) : Nat → Int
 | 0 => a
 | 1 => b
 | 2 => c
 | _ => d
def upW (a b c x y z : Int) : Nat → Array Value
 | 0 => #[.int .u64 x, .int .u64 y, .int .u64 z]
 | 1 => #[.int .u64 a, .int .u64 y, .int .u64 z]
 | 2 => #[.int .u64 a, .int .u64 b, .int .u64 z]
 | _ => #[.int .u64 a, .int .u64 b, .int .u64 c]
theorem zz9b {V r a b c x y z m0 K1 m1 K2 m2 n0 d1 n1 d2 n2 q0 q1 q2 r1 r2 : Int} (hV : Ok V) (h1 : V < 3138550867693340381917894711603833208051177722232017256448) (h2 : 0 ≤ r) (h3 : r ≤ 1000)
  (hA : w0 V = a ∧ w1 V = b ∧ w2 V = c) (hX : a * r = x ∧ b * r = y ∧ c * r = z)
  (hM : (x % 18446744073709551616 + 0) % 18446744073709551616 = m0 ∧ x / 18446744073709551616 + (x % 18446744073709551616 + 0) / 18446744073709551616 = K1 ∧
   (y % 18446744073709551616 + K1) % 18446744073709551616 = m1 ∧ y / 18446744073709551616 + (y % 18446744073709551616 + K1) / 18446744073709551616 = K2 ∧
   (z % 18446744073709551616 + K2) % 18446744073709551616 = m2)
  (hN : (m0 + 99) % 18446744073709551616 = n0 ∧ (m0 + 99) / 18446744073709551616 = d1 ∧ (m1 + d1) % 18446744073709551616 = n1 ∧ (m1 + d1) / 18446744073709551616 = d2 ∧ (m2 + d2) % 18446744073709551616 = n2)
  (hQ : (0 * 18446744073709551616 + n2) / 100 = q2 ∧ (0 * 18446744073709551616 + n2) % 100 = r2 ∧ (r2 * 18446744073709551616 + n1) / 100 = q1 ∧ (r2 * 18446744073709551616 + n1) % 100 = r1 ∧ (r1 * 18446744073709551616 + n0) / 100 = q0) :
  share V r = if q1 = 0 ∧ q2 = 0 ∧ q0 ≤ 9223372036854775807 then (q0, true) else (0, false) := by
 have hv := w_back hV;rw [hA.1, hA.2.1, hA.2.2] at hv;have e1 : V * r = x + y * M + z * (M * M) := by
  rw [← hv, ← hX.1, ← hX.2.1, ← hX.2.2, Int.add_mul, Int.add_mul, Int.mul_right_comm, Int.mul_right_comm c]
 have e2 : (V * r) % M3 = m0 + m1 * M + m2 * (M * M) := by
  rw [e1]; unfold M M3; omega
 have e3 : ((V * r) % M3 + 99) % M3 = n0 + n1 * M + n2 * (M * M) := by
  rw [e2]; unfold M M3; omega
 have e4 : ((V * r) % M3 + 99) % M3 / 100 = q0 + q1 * M + q2 * (M * M) := by
  rw [e3, div_words (by unfold M; omega) (by unfold M; omega) (by unfold M; omega)]
  unfold M; omega
 unfold share;rw [if_pos ⟨h1, h2, h3⟩, e4];have g0 : 0 ≤ q0 := by omega
 have g1 : 0 ≤ q1 := by omega
 have g2 : 0 ≤ q2 := by omega
 by_cases h : q1 = 0 ∧ q2 = 0 ∧ q0 ≤ 9223372036854775807
 ·rw [if_pos h, if_pos (by unfold M; omega), h.1, h.2.1]; simp
 ·rw [if_neg h, if_neg (by unfold M; omega)]
theorem zz91 (g : Nat) (V : Int) (hV : Ok V) (w : World) (hS : Hid (SumAt w g V)) :
  Calls Tryz.prog 183 #[.pointer (some ⟨g, 0, none⟩)] w fun r w' => r = .returned (.bool (decide (¬ V < 3138550867693340381917894711603833208051177722232017256448))) ∧ w' = w := by
 have c2 : w.cell? ⟨g, 2, none⟩ = some (.int .u64 (w2 V)) := zz00 hS.out 2 _ rfl;have e : (w2 V / 9223372036854775808 == 1) = decide (¬ V < 3138550867693340381917894711603833208051177722232017256448) := by
  have h : (w2 V / 9223372036854775808 = 1) ↔ (¬ V < 3138550867693340381917894711603833208051177722232017256448) := by
   unfold w2 M; unfold Ok M3 at hV; omega
  by_cases h1 : w2 V / 9223372036854775808 = 1
  ·rw [decide_eq_true (h.1 h1)]; simpa using h1
  ·rw [decide_eq_false (fun h2 => h1 (h.2 h2))]; simpa using h1
 go_in;go_wp2;go_ret;exact ⟨by rw [← e]; rfl, rfl⟩
theorem zt78 {p : Prop} (h : p := by
 go_in;go_wp2_with (go_at_call 183; with_reducible refine q.out.mono ?_; rintro e w' ⟨rfl, rfl⟩);go_ret2;exact ⟨rfl, rfl⟩) : p := h
theorem Share_off (g : Nat) (V r : Int) (hV : Ok V) (w : World) (hS : Hid (SumAt w g V))
  (h : ¬ (V < 3138550867693340381917894711603833208051177722232017256448 ∧ 0 ≤ r ∧ r ≤ 1000)) :
  Calls Tryz.prog 151 #[.pointer (some ⟨g, 0, none⟩), .int .i64 r] w fun e w' => e = .returned (.tuple #[.int .i64 0, .bool false]) ∧ w' = w := by
 have q := zH (zz91 g V hV w hS);have H := zH h;by_cases h1 : V < 3138550867693340381917894711603833208051177722232017256448
 ·have e1 : decide (¬ V < 3138550867693340381917894711603833208051177722232017256448) = false := decide_eq_false (fun h2 => h2 h1)
  rw [e1] at q;by_cases h2 : r < 0
  ·have e2 : decide (r < 0) = true := decide_eq_true h2
   clear h e1 h1;exact zt78
  ·have h3 : 1000 < r := by omega
   have e2 : decide (r < 0) = false := decide_eq_false h2;have e3 : decide (1000 < r) = true := decide_eq_true h3;clear h e1 h1 h2;exact zt78
 ·have e1 : decide (¬ V < 3138550867693340381917894711603833208051177722232017256448) = true := decide_eq_true h1
  rw [e1] at q;clear h e1 h1;exact zt78
theorem Share_on (g : Nat) (V r : Int) (hV : Ok V) (w : World) (hS : Hid (SumAt w g V))
  (h1 : V < 3138550867693340381917894711603833208051177722232017256448) (h2 : 0 ≤ r) (h3 : r ≤ 1000) :
  Calls Tryz.prog 151 #[.pointer (some ⟨g, 0, none⟩), .int .i64 r] w fun e w' => e = .returned (.tuple #[.int .i64 (share V r).1, .bool (share V r).2]) ∧ Below w.heap.size w w' := by
 have q := zH (zz91 g V hV w hS);rw [decide_eq_false (fun h => h h1)] at q
 have hglt : g < w.heap.size := zL hS.out;obtain ⟨k0, k1, k2⟩ := w_ok hV;obtain ⟨a, hA⟩ : ∃ a, w0 V = a := ⟨_, rfl⟩;obtain ⟨b, hB⟩ : ∃ b, w1 V = b := ⟨_, rfl⟩;obtain ⟨c, hC⟩ : ∃ c, w2 V = c := ⟨_, rfl⟩;rw [hA] at k0; rw [hB] at k1; rw [hC] at k2;have hS2 : ZB w g #[.int .u64 a, .int .u64 b, .int .u64 c] 196 := by rw [← hA, ← hB, ← hC]; exact hS.out
 have mulb : ∀ x : Int, 0 ≤ x ∧ x < M → 0 ≤ x * r ∧ x * r ≤ 18446744073709551615000 := fun x hx => ⟨Int.mul_nonneg hx.1 h2, by have := Int.mul_le_mul (show x ≤ 18446744073709551615 by unfold M at hx; omega) h3 h2 zx; omega⟩
 have b0 := mulb a k0;have b1 := mulb b k1;have b2 := mulb c k2;have qa := zH (fun w => mul64 a r k0 ⟨h2, by unfold M; omega⟩ w)
 have qb := zH (fun w => mul64 b r k1 ⟨h2, by unfold M; omega⟩ w)
 have qc := zH (fun w => mul64 c r k2 ⟨h2, by unfold M; omega⟩ w)
 obtain ⟨x, hx⟩ : ∃ x, a * r = x := ⟨_, rfl⟩;obtain ⟨y, hy⟩ : ∃ x, b * r = x := ⟨_, rfl⟩;obtain ⟨z, hz⟩ : ∃ x, c * r = x := ⟨_, rfl⟩;rw [hx] at b0 qa; rw [hy] at b1 qb; rw [hz] at b2 qc;obtain ⟨m0, hm0⟩ : ∃ t, (x % 18446744073709551616 + 0) % 18446744073709551616 = t := ⟨_, rfl⟩;obtain ⟨K1, hK1⟩ : ∃ t, x / 18446744073709551616 + (x % 18446744073709551616 + 0) / 18446744073709551616 = t := ⟨_, rfl⟩;obtain ⟨m1, hm1⟩ : ∃ t, (y % 18446744073709551616 + K1) % 18446744073709551616 = t := ⟨_, rfl⟩;obtain ⟨K2, hK2⟩ : ∃ t, y / 18446744073709551616 + (y % 18446744073709551616 + K1) / 18446744073709551616 = t := ⟨_, rfl⟩;obtain ⟨m2, hm2⟩ : ∃ t, (z % 18446744073709551616 + K2) % 18446744073709551616 = t := ⟨_, rfl⟩;obtain ⟨K3, hK3⟩ : ∃ t, z / 18446744073709551616 + (z % 18446744073709551616 + K2) / 18446744073709551616 = t := ⟨_, rfl⟩;have HM := zH (And.intro hm0 (And.intro hK1 (And.intro hm1 (And.intro hK2 (And.intro hm2 hK3)))));have HB := zH (And.intro b0 (And.intro b1 b2));have HX := zH (And.intro hx (And.intro hy hz));have HA := zH (And.intro hA (And.intro hB hC));have HK := zH (And.intro k0 (And.intro k1 k2));clear hm0 hK1 hm1 hK2 hm2 hK3 b0 b1 b2 hx hy hz hA hB hC k0 k1 k2 mulb;have HV := zH (And.intro hV h1);have e2 : decide (r < 0) = false := decide_eq_false zw;have e3 : decide (1000 < r) = false := decide_eq_false zw;clear hV h1 hS;go_in;go_wp2_with (go_at_call 183; with_reducible refine q.out.mono ?_; rintro e w' ⟨rfl, rfl⟩);go_loopw [7, 8, 9, 10, 11, 28] (fun s7 s8 s9 s10 s11 s28 wr => ∃ k : Nat, k ≤ 3 ∧ s7 = .int .u64 (pick4 0 K1 K2 K3 k) ∧ s28 = .int .i64 k ∧
  ZB wr g #[.int .u64 a, .int .u64 b, .int .u64 c] 196 ∧ ZB wr w'.heap.size (upW m0 m1 m2 0 0 0 k) 194 ∧ Hid (Below w'.heap.size w' wr)) (fun _ _ _ _ _ s28 _ => 3 - (intOf s28).toNat)
 case atStart => exact ⟨0, by decide, rfl, rfl, zz04 hS2.out _, zz02 _ _, zBa⟩
 case round =>
  obtain ⟨k, hk, rfl, rfl, H0, H1, HW⟩ := hrel;have hlt2 := zL H0.out;have hlt3 := zL H1.out;have hne : ¬ g = w'.heap.size := by omega
  by_cases hk3 : k = 3
  ·rw [hk3] at H1
   have hk4 : ¬ ((k : Int) < 3) := by omega
   clear hS2 hk3;have c0 : wr.cell? ⟨w'.heap.size, 0, none⟩ = some (.int .u64 m0) := zz00 H1.out 0 _ rfl;have c1 : wr.cell? ⟨w'.heap.size, 1, none⟩ = some (.int .u64 m1) := zz00 H1.out 1 _ rfl;have c2 : wr.cell? ⟨w'.heap.size, 2, none⟩ = some (.int .u64 m2) := zz00 H1.out 2 _ rfl;have f0 := zz05 H1.out 0;have f1 := zz05 H1.out 1;have f2 := zz05 H1.out 2;have hm := HM.out;obtain ⟨n0, hn0⟩ : ∃ t, (m0 + 99) % 18446744073709551616 = t := ⟨_, rfl⟩;obtain ⟨d1, hd1⟩ : ∃ t, (m0 + 99) / 18446744073709551616 = t := ⟨_, rfl⟩;obtain ⟨n1, hn1⟩ : ∃ t, (m1 + d1) % 18446744073709551616 = t := ⟨_, rfl⟩;obtain ⟨d2, hd2⟩ : ∃ t, (m1 + d1) / 18446744073709551616 = t := ⟨_, rfl⟩;obtain ⟨n2, hn2⟩ : ∃ t, IntKind.u64.wrap (m2 + d2) = t := ⟨_, rfl⟩;have qA := fun w => zz7a m0 99 zw zx w
   have qB := fun w => add64_0'' m1 d1 w zw zw zw
   rw [hn0, hd1] at qA;rw [hn1, hd2] at qB;have hn2' : (m2 + d2) % 18446744073709551616 = n2 := by rw [← hn2, IntKind.wrap_u64]
   have HN := zH (And.intro hn0 (And.intro hd1 (And.intro hn1 (And.intro hd2 hn2'))));clear hn0 hd1 hn1 hd2 hn2' hm;obtain ⟨q2, hq2⟩ : ∃ t, (0 * 18446744073709551616 + n2) / 100 = t := ⟨_, rfl⟩;obtain ⟨r2, hr2⟩ : ∃ t, (0 * 18446744073709551616 + n2) % 100 = t := ⟨_, rfl⟩;obtain ⟨q1, hq1⟩ : ∃ t, (r2 * 18446744073709551616 + n1) / 100 = t := ⟨_, rfl⟩;obtain ⟨r1, hr1⟩ : ∃ t, (r2 * 18446744073709551616 + n1) % 100 = t := ⟨_, rfl⟩;obtain ⟨q0, hq0⟩ : ∃ t, (r1 * 18446744073709551616 + n0) / 100 = t := ⟨_, rfl⟩;obtain ⟨r0, hr0⟩ : ∃ t, (r1 * 18446744073709551616 + n0) % 100 = t := ⟨_, rfl⟩;have qc2 := zH (fun w => zz62 0 n2 zw (by have := HN.out; unfold M; omega) w)
   have qc1 := zH (fun w => zz62 r2 n1 zw (by have := HN.out; unfold M; omega) w)
   have qc0 := zH (fun w => zz62 r1 n0 zw (by have := HN.out; unfold M; omega) w)
   rw [hq2, hr2] at qc2;rw [hq1, hr1] at qc1;rw [hq0, hr0] at qc0;have HSH := zH (zz9b HV.out.1 HV.out.2 h2 h3 HA.out HX.out ⟨HM.out.1, HM.out.2.1, HM.out.2.2.1, HM.out.2.2.2.1, HM.out.2.2.2.2.1⟩ HN.out ⟨hq2, hr2, hq1, hr1, hq0⟩);have g0 : 0 ≤ q0 := by have := HN.out; omega
   have g1 : 0 ≤ q1 := by have := HN.out; omega
   have g2 : 0 ≤ q2 := by have := HN.out; omega
   have g3 : q0 < 18446744073709551616 := by have := HN.out; omega
   clear hq2 hr2 hq1 hr1 hq0 hr0;go_wp2_with fail;have H2 := zH (zz0d (zz0d (zz0d H1.out 0 (.int .u64 n0)) 1 (.int .u64 n1)) 2 (.int .u64 n2));have H3 : Hid (Below w'.heap.size w' (((wr.setCell ⟨w'.heap.size, 0, none⟩ (.int .u64 n0)).setCell ⟨w'.heap.size, 1, none⟩ (.int .u64 n1)).setCell ⟨w'.heap.size, 2, none⟩ (.int .u64 n2))) := ((HW.out.setCell (Nat.le_refl _) _).setCell (Nat.le_refl _) _).setCell (Nat.le_refl _) _;generalize ((wr.setCell ⟨w'.heap.size, 0, none⟩ (.int .u64 n0)).setCell ⟨w'.heap.size, 1, none⟩ (.int .u64 n1)).setCell ⟨w'.heap.size, 2, none⟩ (.int .u64 n2) = wb at *;clear c0 c1 c2 f0 f1 f2 H0 H1 HW hlt2 hlt3 qA qB hn2 qa qb qc e2 e3 q hglt hne hk wr;go_loopw [12, 13] (fun s12 s13 wr => ∃ i : Nat, i ≤ 3 ∧ s12 = .int .u64 (pick4 r0 r1 r2 0 i) ∧ s13 = .int .i64 ((i : Int) - 1) ∧
    ZB wr w'.heap.size (upW n0 n1 n2 q0 q1 q2 i) 194 ∧ Hid (Below w'.heap.size w' wr)) (fun _ s13 _ => (intOf s13 + 1).toNat)
   case atStart => exact ⟨3, by decide, rfl, rfl, H2.out, H3.out⟩
   case round =>
    obtain ⟨i, hi, rfl, rfl, H0, HW⟩ := hrel;clear H2 H3;have hlt3 := zL H0.out;by_cases hi0 : i = 0
    ·subst hi0
     have c0 : wr.cell? ⟨w'.heap.size, 0, none⟩ = some (.int .u64 q0) := zz00 H0.out 0 _ rfl;have c1 : wr.cell? ⟨w'.heap.size, 1, none⟩ = some (.int .u64 q1) := zz00 H0.out 1 _ rfl;have c2 : wr.cell? ⟨w'.heap.size, 2, none⟩ = some (.int .u64 q2) := zz00 H0.out 2 _ rfl;by_cases t1 : q1 = 0
     ·by_cases t2 : q2 = 0
      ·by_cases t3 : q0 ≤ 9223372036854775807
       ·have hs := HSH.out
        rw [if_pos ⟨t1, t2, t3⟩] at hs;have HS3 := zH hs;clear hs;subst t1 t2;have u3 : decide (9223372036854775807 < q0) = false := decide_eq_false zw;go_wp2_with fail;go_ret2;exact ⟨by rw [HS3.out]; rfl, HW.out⟩
       ·have hs := HSH.out
        rw [if_neg (fun h => t3 h.2.2)] at hs
        have HS3 := zH hs;clear hs;subst t1 t2;have u3 : decide (9223372036854775807 < q0) = true := decide_eq_true zw;go_wp2_with fail;go_ret2;exact ⟨by rw [HS3.out]; rfl, HW.out⟩
      ·have hs := HSH.out
       rw [if_neg (fun h => t2 h.2.1)] at hs
       have HS3 := zH hs;clear hs;subst t1;have u3 : (q2 != 0) = true := by simpa using t2
       go_wp2_with fail;go_ret2;exact ⟨by rw [HS3.out]; rfl, HW.out⟩
     ·have hs := HSH.out
      rw [if_neg (fun h => t1 h.1)] at hs
      have HS3 := zH hs;clear hs;have u3 : (q1 != 0) = true := by simpa using t1
      go_wp2_with fail;go_ret2;exact ⟨by rw [HS3.out]; rfl, HW.out⟩
    ·obtain ⟨k, rfl⟩ : ∃ k, i = k + 1 := ⟨i - 1, by omega⟩
     have hk' : k < 3 := by omega
     have key : ∃ X R Q R' : Int, (wr.cell? ⟨w'.heap.size, k, none⟩ = some (.int .u64 X)) ∧ pick4 r0 r1 r2 0 (k + 1) = R ∧
       (∀ w, Calls Tryz.prog 185 #[.int .u64 R, .int .u64 X, .int .u64 100] w fun e w' => e = .returned (.tuple #[.int .u64 Q, .int .u64 R']) ∧ ∃ n, w' = w.drewN n) ∧
       R' = pick4 r0 r1 r2 0 k ∧ (upW n0 n1 n2 q0 q1 q2 (k + 1)).setIfInBounds k (.int .u64 Q) = upW n0 n1 n2 q0 q1 q2 k := by
      rcases three k zw with rfl | rfl | rfl | rfl
      ·exact ⟨n0, r1, q0, r0, zz00 H0.out 0 _ rfl, rfl, qc0.out, rfl, rfl⟩
      ·exact ⟨n1, r2, q1, r1, zz00 H0.out 1 _ rfl, rfl, qc1.out, rfl, rfl⟩
      ·exact ⟨n2, 0, q2, r2, zz00 H0.out 2 _ rfl, rfl, qc2.out, rfl, rfl⟩
      ·omega
     obtain ⟨X, R, Q, R', cX, hR, QD, hR2, hU⟩ := key;have QD := zH QD; have HR2 := zH hR2; have HU := zH hU;have e1 : ((k + 1 : Nat) : Int) - 1 = (k : Int) := by omega
     have f0 := zz05 H0.out k;rw [hR, e1];clear hR hR2 hU e1 hi hi0;go_wp2_with (go_at_call 185; with_reducible refine (QD.out _).mono ?_; rintro e w9 ⟨rfl, nd, rfl⟩);go_roundw
     case rel => exact ⟨k, by omega, by rw [HR2.out], rfl, by rw [← HU.out]; exact zz0d (w := wr.drewN nd) H0.out _ _, (zz0b HW.out nd).setCell (Nat.le_refl _) _⟩
     case measure => simp [intOf]
  ·have hk' : k < 3 := by omega
   have hm := HM.out;have hb := HB.out;have key : ∃ X C hi lo s cy C' : Int, (wr.cell? ⟨g, k, none⟩ = some (.int .u64 X)) ∧ (wr.cell? ⟨w'.heap.size, k, none⟩ = some (.int .u64 0)) ∧ pick4 0 K1 K2 K3 k = C ∧
     (∀ w, Calls Tryz.prog 176 #[.int .u64 X, .int .u64 r] w fun e w' => e = .returned (.tuple #[.int .u64 hi, .int .u64 lo]) ∧ w' = w) ∧
     (∀ w : World, (callFunc 184 #[.int .u64 lo, .int .u64 C, .int .u64 0]).run Tryz.prog w = .ok (.value (.tuple #[.int .u64 s, .int .u64 cy])) w) ∧
     IntKind.u64.wrap (hi + cy) = C' ∧ C' = pick4 0 K1 K2 K3 (k + 1) ∧ (upW m0 m1 m2 0 0 0 k).setIfInBounds k (.int .u64 s) = upW m0 m1 m2 0 0 0 (k + 1) := by
    rcases three k hk with rfl | rfl | rfl | rfl
    ·exact ⟨a, 0, _, _, m0, _, K1, zz00 H0.out 0 _ rfl, zz00 H1.out 0 _ rfl, rfl, qa.out, fun w => by rw [zz7a _ 0 zw zx w, hm.1], by rw [IntKind.wrap_u64]; omega, rfl, rfl⟩
    ·exact ⟨b, K1, _, _, m1, _, K2, zz00 H0.out 1 _ rfl, zz00 H1.out 1 _ rfl, rfl, qb.out, fun w => by rw [zz7a _ K1 zw zw w, hm.2.2.1], by rw [IntKind.wrap_u64]; omega, rfl, rfl⟩
    ·exact ⟨c, K2, _, _, m2, _, K3, zz00 H0.out 2 _ rfl, zz00 H1.out 2 _ rfl, rfl, qc.out, fun w => by rw [zz7a _ K2 zw zw w, hm.2.2.2.2.1], by rw [IntKind.wrap_u64]; omega, rfl, rfl⟩
    ·omega
   clear hm hb;obtain ⟨X, C, hi, lo, s, cy, C', cX, cY, hC, QM, QA, hC', hC2, hU⟩ := key;rw [hC];have QM := zH QM;have HC2 := zH hC2;have HU := zH hU;have f0 := zz05 H1.out k;clear hC hC2 hU hS2;go_wp2_with (go_at_call 176; with_reducible refine (QM.out _).mono ?_; rintro e w9 ⟨rfl, rfl⟩);go_roundw
   case rel => exact ⟨k + 1, by omega, by rw [HC2.out], by go_num, zz09 H0.out _ _ hne, by rw [← HU.out]; exact zz0d H1.out _ _, HW.out.setCell (Nat.le_refl _) _⟩
   case measure => simp [intOf]; omega
theorem ok_zero : Ok 0 := by unfold Ok M3; omega
theorem sumA_zero : sumA 0 = #[.int .u64 0, .int .u64 0, .int .u64 0] := by kernel_rfl
theorem zz56 (w : World) : SumAt (w.alloc (.cells #[.int .u64 0, .int .u64 0, .int .u64 0] 196)) w.heap.size 0 := by
 unfold SumAt; rw [sumA_zero]; exact zz02 _ _
theorem SumAt.oth {w w' : World} {g h : Nat} {V : Int} (hs : SumAt w g V) (hg : w.grownBy w' (some h)) (hne : g ≠ h) : SumAt w' g V :=
 (hg.block g (zL hs) (fun e => hne (Option.some.inj e))).trans hs
theorem SumAt.call {w w' : World} {g : Nat} {V : Int} (hs : SumAt w g V) (hg : Below w.heap.size w w') : SumAt w' g V := zz06 hs hg
theorem zz0f {B g : Nat} {a w w' : World} (h : Below B a w) (hg : w.grownBy w' (some g)) (hB : B ≤ g) (hsz : B ≤ w.heap.size) : Below B a w' :=
 ⟨hg.os.trans h.os, hg.tape.trans h.tape, hg.output.trans h.output, Nat.le_trans h.size hg.size, fun k hk => (hg.block k (Nat.lt_of_lt_of_le hk hsz) (fun e => by have := Option.some.inj e; omega)).trans (h.block k hk)⟩
theorem Share_any (g : Nat) (V r : Int) (hV : Ok V) (w : World) (hS : Hid (SumAt w g V)) :
  Calls Tryz.prog 151 #[.pointer (some ⟨g, 0, none⟩), .int .i64 r] w fun e w' => e = .returned (.tuple #[.int .i64 (share V r).1, .bool (share V r).2]) ∧ Below w.heap.size w w' := by
 by_cases h : V < 3138550867693340381917894711603833208051177722232017256448 ∧ 0 ≤ r ∧ r ≤ 1000
 ·exact Share_on g V r hV w hS h.1 h.2.1 h.2.2
 ·refine (Share_off g V r hV w hS h).mono ?_
  rintro e w' ⟨rfl, rfl⟩;have e1 : share V r = (0, false) := by unfold share; rw [if_neg h]
  rw [e1];exact ⟨rfl, Below.refl _ _⟩
theorem Mul_any (a b : Int) (ha : I64 a) (hb : I64 b) (w : World) :
  Calls Tryz.prog 79 #[.int .i64 a, .int .i64 b] w fun r w' =>
   r = .returned (.tuple #[.int .i64 (total ((a * b) % M3)).1, .bool (total ((a * b) % M3)).2]) ∧ Below w.heap.size w w' := by
 have q1 := zH (zz0x w.heap.size 0 a b ok_zero ha hb (w.alloc (.cells #[.int .u64 0, .int .u64 0, .int .u64 0] 196)) (zz56 w));rw [Int.zero_add] at q1;have q2 := zH (fun w' h => zz32 w.heap.size ((a * b) % M3) (zz26 _) w' h)
 go_in;go_wp2_with fail;(with_reducible refine q1.out.mono ?_);rintro e w1 ⟨rfl, h1, h2⟩;have H1 := zH h1;have H2 := zH h2;clear h1 h2;go_wp2_with (go_at_call 146; with_reducible refine (q2.out _ H1).mono ?_; rintro e w9 ⟨rfl, rfl⟩);go_ret2;exact ⟨rfl, zz0f zBa H2.out (Nat.le_refl _) (by rw [World.size_alloc]; omega)⟩
end
section
open Go Go.RowKit Bg Mon
theorem zz27 {x : Int} (h : -1569275433846670190958947355801916604025588861116008628224 ≤ x ∧ x ≤ 1569275433846670190958947355801916604025588861116008628224) : total (x % M3) = fitsP x := by
 have e : sg (x % M3) = x := by unfold sg M3; split <;> omega
 unfold total fitsP;rw [e]
end
end Go.Proofs.YtajogedbacpohaaGreatDoor
