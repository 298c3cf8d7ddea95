/- Part 9 of what the claim rests on. -/
import Derived.Test.YtajogedbacpohaaGreatDoorC00
import Derived.Test.YtajogedbacpohaaGreatDoorC01
import Derived.Test.YtajogedbacpohaaGreatDoorC06
import Derived.Test.YtajogedbacpohaaGreatDoorC07
set_option linter.unusedVariables false
set_option linter.unusedSimpArgs false
set_option maxRecDepth 1000000
set_option maxHeartbeats 32000000
namespace Go.Proofs.YtajogedbacpohaaGreatDoor
section
open Go Go.RowKit Bg
def rowA (h : Nat → Nat) (n : Nat) : Array Value := (Array.range n).map fun j => .int .i64 (h j : Nat)
theorem zz2s (h : Nat → Nat) {n p : Nat} (hp : p < n) : (rowA h n)[p]? = some (.int .i64 (h p : Nat)) := by
 unfold rowA; simp [hp]
def upd (h : Nat → Nat) (p d j : Nat) : Nat := if j = p then d else h j
theorem zzao (h : Nat → Nat) {n p : Nat} (hp : p < n) (d : Nat) : (rowA h n).setIfInBounds p (.int .i64 (d : Nat)) = rowA (upd h p d) n := by
 apply Array.ext_getElem?;intro i;rw [Array.getElem?_setIfInBounds];by_cases hi : i < n
 ·rw [zz2s _ hi, zz2s _ hi]
  unfold upd;by_cases e : p = i
  ·subst e; rw [if_pos rfl, if_pos rfl, if_pos (by unfold rowA; simpa using hp)]
  ·rw [if_neg e, if_neg (fun h => e h.symm)]
 ·have hs : ∀ h, (rowA h n).size = n := fun h => by unfold rowA; simp
  rw [if_neg zw, Array.getElem?_eq_none (by rw [hs]; omega), Array.getElem?_eq_none (by rw [hs]; omega)]
theorem rowA_zero (n : Nat) : rowA (fun _ => 0) n = madeCells #[.int .i64 0] (n * 1) := by
 apply Array.toList_inj.1;rw [toList_madeCells_one, Nat.mul_one];unfold rowA;apply List.ext_getElem (by simp)
 intro i h1 h2;simp
theorem pv_upd (h : Nat → Nat) (p d : Nat) : ∀ n, p < n → pv (upd h p d) n + h p * 10000 ^ p = pv h n + d * 10000 ^ p
 | 0, hp => by omega
 | n + 1, hp => by
  show pv (upd h p d) n + upd h p d n * 10000 ^ n + _ = pv h n + h n * 10000 ^ n + _;by_cases e : p = n
  ·subst e
   have h1 : pv (upd h p d) p = pv h p := zz3m p fun i hi => by unfold upd; rw [if_neg zw]
   have h2 : upd h p d p = d := by unfold upd; rw [if_pos rfl]
   rw [h1, h2]; omega
  ·have h1 := pv_upd h p d n zw
   have h2 : upd h p d n = h n := by unfold upd; rw [if_neg zw]
   rw [h2]; omega
structure MulInv (f g : Nat → Nat) (h : Nat → Nat) (n i j c N : Nat) : Prop where
 lt : ∀ p, h p < 10000
 zero : ∀ p, N ≤ p → h p = 0
 val : pv h N + c * 10000 ^ (i + j) = pv f i * pv g n + f i * pv g j * 10000 ^ i
 one : c ≤ 9999
theorem MulInv.step {f g h : Nat → Nat} {n i j c N : Nat} (H : MulInv f g h n i j c N) (hf : f i < 10000) (hg : g j < 10000) (hp : i + j < N) :
  MulInv f g (upd h (i + j) ((h (i + j) + f i * g j + c) % 10000)) n i (j + 1) ((h (i + j) + f i * g j + c) / 10000) N := by
 have hb : f i * g j ≤ 9999 * 9999 := Nat.mul_le_mul zw zw;have h1 := H.lt (i + j);have h2 := H.one;refine ⟨fun p => ?_, fun p hp2 => ?_, ?_, by omega⟩
 ·unfold upd; split
  ·omega
  ·exact H.lt p
 ·unfold upd; rw [if_neg zw]; exact H.zero p hp2
 ·have h3 := pv_upd h (i + j) ((h (i + j) + f i * g j + c) % 10000) N hp
  have h4 := H.val;have h5 := Nat.div_add_mod (h (i + j) + f i * g j + c) 10000;generalize (h (i + j) + f i * g j + c) % 10000 = d at *;generalize (h (i + j) + f i * g j + c) / 10000 = k at *;have h6 : (10000 * k + d) * 10000 ^ (i + j) = (h (i + j) + f i * g j + c) * 10000 ^ (i + j) := by rw [h5]
  have h7 : 10000 ^ (i + j) = 10000 ^ i * 10000 ^ j := Nat.pow_add _ _ _;have h8 : 10000 ^ (i + (j + 1)) = 10000 ^ (i + j) * 10000 := Nat.pow_succ _ _;show _ + k * 10000 ^ (i + (j + 1)) = pv f i * pv g n + f i * (pv g j + g j * 10000 ^ j) * 10000 ^ i;rw [h8];generalize pv (upd h (i + j) d) N = v1 at *;generalize pv h N = v0 at *;generalize h (i + j) = hp0 at *;rw [h7] at h3 h4 h6 ⊢;generalize 10000 ^ i = q1 at *;generalize 10000 ^ j = q2 at *;generalize pv f i * pv g n = z at *;generalize f i = a at *;generalize g j = b at *;generalize pv g j = y at *
  grind
structure MulOut (f g : Nat → Nat) (h : Nat → Nat) (n i N : Nat) : Prop where
 lt : ∀ p, h p < 10000
 zero : ∀ p, N ≤ p → h p = 0
 val : pv h N = pv f i * pv g n
theorem MulOut.begin {f g h : Nat → Nat} {n i N : Nat} (H : MulOut f g h n i N) : MulInv f g h n i 0 0 N := ⟨H.lt, H.zero, by rw [H.val]; show _ + 0 * _ = _ + f i * 0 * _; omega, by omega⟩
theorem MulInv.close {f g h : Nat → Nat} {m i c N : Nat} (H : MulInv f g h m i (m + 1) c N) (hf : ∀ i, f i < 10000) (hg : Dg g m) : MulOut f g h m (i + 1) N := by
 refine ⟨H.lt, H.zero, ?_⟩;have h1 := H.val;have h2 : pv g (m + 1) = pv g m := zz26 hg.zero _ zw;have h3 := pv_lt (i + 1) (fun j _ => hf j)
 have h4 := pv_lt m (fun j _ => hg.lt j)
 rw [h2] at h1;have h5 : pv f (i + 1) * pv g m = pv f i * pv g m + f i * pv g m * 10000 ^ i := by
  show (pv f i + f i * 10000 ^ i) * pv g m = _
  grind
 rw [← h5] at h1;have h6 : pv f (i + 1) * pv g m < 10000 ^ (i + 1) * 10000 ^ m := Nat.mul_lt_mul'' h3 h4;have h7 : 10000 ^ (i + (m + 1)) = 10000 ^ (i + 1) * 10000 ^ m := by rw [← Nat.pow_add]; congr 1; omega
 rw [h7] at h1;have hc : c = 0 := by
  by_cases hc : c = 0
  ·exact hc
  ·have : 1 * (10000 ^ (i + 1) * 10000 ^ m) ≤ c * (10000 ^ (i + 1) * 10000 ^ m) := Nat.mul_le_mul_right _ zw
   omega
 rw [hc] at h1;omega
theorem sgn_mul {X Y : Int} {s t : Bool} (hs : decide (X < 0) = s) (ht : decide (Y < 0) = t) : sgn (s != t) (X.natAbs * Y.natAbs) = X * Y := by
 have h1 : X = if s then -(X.natAbs : Int) else X.natAbs := by
  cases s
  ·have := of_decide_eq_false hs; simp; omega
  ·have := of_decide_eq_true hs; simp; omega
 have h2 : Y = if t then -(Y.natAbs : Int) else Y.natAbs := by
  cases t
  ·have := of_decide_eq_false ht; simp; omega
  ·have := of_decide_eq_true ht; simp; omega
 generalize X.natAbs = x at *;generalize Y.natAbs = y at *;subst h1 h2;unfold sgn;cases s <;> cases t <;> simp [Int.neg_mul, Int.mul_neg]
theorem zz7w {w : World} {R n B : Nat} (h : w.ownsRow B 3 1 (.slice (some ⟨R, 0, none⟩) n n) n (madeCells (Value.cells (.int .i64 0)) (n * 1)).toList) : w.heap[R]? = some (.cells (rowA (fun _ => 0) n) 3 (0, 0)) := by
 rcases h.2 with ⟨h1, _⟩ | ⟨g, cap, cur, h1, hb, hg, hnc, hcm, hcs, htk⟩
 ·cases h1
 ·cases h1
  have e : cur = rowA (fun _ => 0) n := by
   rw [rowA_zero];apply Array.toList_inj.1;rw [← show cur.toList.take (n * 1) = cur.toList from List.take_of_length_le (by simp; omega), htk]
   rfl
  rw [hg, e]
structure MulW (w wr : World) (s t u : Bool) (A B : Option Addr) (n c m d p R N : Nat) (h : Nat → Nat) : Prop where
 k1 : BigBlk wr w.heap.size s (.slice A n c)
 k2 : BigBlk wr (w.heap.size + 1) t (.slice B m d)
 k3 : BigBlk wr (w.heap.size + 1 + 1) false (.slice none 0 0)
 k4 : BigBlk wr p u (.slice (some ⟨R, 0, none⟩) N N)
 row : wr.heap[R]? = some (.cells (rowA h N) 3 (0, 0))
 low : Below w.heap.size w wr
 ne : p ≠ R
 hp : w.heap.size + 3 ≤ p
 hR : w.heap.size + 3 ≤ R
theorem MulW.drewN {w wr : World} {s t u : Bool} {A B : Option Addr} {n c m d p R N : Nat} {h : Nat → Nat} (H : MulW w wr s t u A B n c m d p R N h) (k : Nat) : MulW w (wr.drewN k) s t u A B n c m d p R N h :=
 ⟨H.k1, H.k2, H.k3, H.k4, H.row, zz0c H.low k, H.ne, H.hp, H.hR⟩
theorem MulW.set {w wr : World} {s t u : Bool} {A B : Option Addr} {n c m d p R N : Nat} {h : Nat → Nat} (H : MulW w wr s t u A B n c m d p R N h) (q x : Nat) (hq : q < N) :
  MulW w (wr.setCell ⟨R, q, none⟩ (.int .i64 (x : Nat))) s t u A B n c m d p R N (upd h q x) :=
 have hp := H.hp;have hR := H.hR
 ⟨H.k1.oth _ _ zw, H.k2.oth _ _ zw, H.k3.oth _ _ zw, H.k4.oth _ _ H.ne, by rw [← zzao h hq x]; exact zz0b H.row q _, H.low.setCell (p := ⟨R, q, none⟩) (by show w.heap.size ≤ R; omega) _, H.ne, H.hp, H.hR⟩
theorem zt4 {p : Prop} (h : p := by
 have HLT := zH hMW.low.size;clear hrow;go_wp2_with fail;go_loopw [6, 7, 8, 9] (fun s6 s7 s8 s9 wr => ∃ (i : Nat) (h : Nat → Nat), s6 = .int .i64 (i : Int) ∧ i ≤ n ∧ Hid (MulOut f g h m i N) ∧ Hid (MulW w wr s t u A B n c m d p R N h)) (fun s6 _ _ _ _ => 100 - (intOf s6).toNat)
 case atStart => exact ⟨0, fun _ => 0, rfl, Nat.zero_le _, ⟨fun _ => by omega, fun _ _ => rfl, by rw [zz26 (f := fun _ => 0) (n := 0) (fun _ _ => rfl) N (Nat.zero_le _)]; show 0 = 0 * _; omega⟩, HMW.out⟩
 case round =>
  clear HMW HLT hMW;obtain ⟨i, h, rfl, hi, HO, HW⟩ := hrel;have e0 := HW.out.k1.c1;have e1 := HW.out.k2.c1;by_cases hin : i < n
  ·have hin' : (i : Int) < n := by omega
   go_wp2_with fail;go_loopw [7, 8, 9] (fun s7 s8 s9 wr => ∃ (j k : Nat) (h : Nat → Nat), s7 = .int .i64 (k : Int) ∧ s8 = .int .i64 (j : Int) ∧ j ≤ m + 1 ∧ Hid (MulInv f g h m i j k N) ∧ Hid (MulW w wr s t u A B n c m d p R N h)) (fun _ s8 _ _ => 100 - (intOf s8).toNat)
   case atStart => exact ⟨0, 0, h, rfl, rfl, Nat.zero_le _, HO.out.begin, HW.out⟩
   case round =>
    clear HO HW e0 e1 h;obtain ⟨j, k, h, rfl, rfl, hj, HI, HW⟩ := hrel;have e0 := HW.out.k1.c1;have e1 := HW.out.k2.c1;have e2 := HW.out.k4.c1;by_cases hjm : j ≤ m
    ·have hjm' : (j : Int) ≤ m := by omega
     have hn3 := HN.out;obtain ⟨b, ob, rfl, hblt, hbc⟩ := (HA.out.call HW.out.low) i hin;have q2 := zH (fun x => qB.out j (wr.drewN x) (zH (HB.out.call (zz0c HW.out.low x))) zw)
     have a1 := Hf.out.lt i;have b1 := Hg.out.lt j;have c1 := HI.out.lt (i + j);have hk1 := HI.out.one;have hst := zH (HI.out.step a1 b1 zw);have hrq := zz00 HW.out.row (i + j) _ (zz2s h (show i + j < N by omega))
     have hrz := zz04 HW.out.row (i + j);have hqN : i + j < N := by omega
     obtain ⟨q, hq⟩ : ∃ q, i + j = q := ⟨_, rfl⟩;rw [hq] at c1 hst hrq hrz hqN;have hij : (i : Int) + (j : Int) = (q : Int) := by omega
     obtain ⟨hv, hhv⟩ : ∃ x, h q = x := ⟨_, rfl⟩;obtain ⟨a, ha⟩ : ∃ x, f i = x := ⟨_, rfl⟩;obtain ⟨bb, hbb⟩ : ∃ x, g j = x := ⟨_, rfl⟩;rw [hhv] at c1 hst hrq;rw [ha] at a1 hst hbc;rw [hbb] at b1 hst q2;have hpb : a * bb ≤ 9999 * 9999 := Nat.mul_le_mul zw zw;obtain ⟨pp, hpp⟩ : ∃ x, a * bb = x := ⟨_, rfl⟩;rw [hpp] at hst hpb;have hppi : (a : Int) * (bb : Int) = (pp : Int) := by rw [← hpp]; simp
     obtain ⟨mm, hmm⟩ : ∃ x, (hv + pp + k) % 10000 = x := ⟨_, rfl⟩;obtain ⟨kk, hkk⟩ : ∃ x, (hv + pp + k) / 10000 = x := ⟨_, rfl⟩;rw [hmm, hkk] at hst;have t2 : ((hv : Int) + (pp : Int) + (k : Int)).tmod 10000 = (mm : Int) := by rw [Int.tmod_eq_emod_of_nonneg zw]; omega
     have t3 : ((hv : Int) + (pp : Int) + (k : Int)).tdiv 10000 = (kk : Int) := by rw [Int.tdiv_eq_ediv_of_nonneg zw]; omega
     have hmm1 : mm < 10000 := by omega
     have hkk1 : kk ≤ 100000 := by omega
     have hqN' : (q : Int) < N := by omega
     clear hq hhv ha hbb hpp hmm hkk HI hn3;go_wp2_with fail;go_quiet ((go_at_call 158; with_reducible exact zz0r (q2.out _)));have HW2 := zH (HW.out.drewN nq);clear HW e0 e1 e2 hrq hrz q2;generalize wr.drewN nq = wq at *;clear hblt hbc;clear wr;have e0 := HW2.out.k4.c1;have e2 := HW2.out.row;have e3 := zz00 HW2.out.row q _ (zz2s h hqN);have e4 := zz04 HW2.out.row q;clear e2;go_wp2_with fail;go_roundw
     case rel => exact ⟨j + 1, kk, _, rfl, by go_num, by omega, hst.out, HW2.out.set q mm hqN⟩
     case measure => simp [intOf]; omega
    ·have hjm' : ¬ ((j : Int) ≤ m) := by omega
     have hj2 : j = m + 1 := by omega
     have HO2 : Hid (MulOut f g h m (i + 1) N) := by have := HI.out; rw [hj2] at this; exact this.close Hf.out.lt Hg.out
     clear hj2 HI;go_wp2_with fail;go_roundw
     case rel => exact ⟨i + 1, h, by go_num, by omega, HO2.out, HW.out⟩
     case measure => simp [intOf]; omega
  ·have hin' : ¬ ((i : Int) < n) := by omega
   have e2 := HW.out.k4.c0;have e3 := HW.out.k4.c1;have hvl : pv h N = pv f n * pv g m := by rw [HO.out.val, show i = n by omega]
   have hD4 : Hid (DigAt wr (some ⟨R, 0, none⟩) N h) := fun x hx => ⟨R, 0, rfl, (zL HW.out.row), by rw [Nat.zero_add]; exact zz00 HW.out.row x _ (zz2s h hx)⟩
   have qT := zz1w u (some ⟨R, 0, none⟩) N N h wr hD4 ⟨HO.out.lt, HO.out.zero⟩ zw (Nat.le_refl _);rw [hvl, HVAL.out] at qT;have QT := zH qT;clear qT hvl;go_wp2_with fail;(with_reducible refine QT.out.mono ?_);rintro e w5 ⟨⟨v5, rfl, hv5⟩, hb5⟩;obtain ⟨t5, A5, n5, c5, rfl⟩ := hv5.form;have H5 := zH (HW.out.k3.call hb5);have HV5 := zH hv5;have HB5 := zH (HW.out.low.trans (hb5.mono HW.out.low.size));have d0 := H5.out.c0;have d1 := H5.out.c1;have f0 := H5.out.z 0;have f1 := H5.out.z 1;clear hv5 hb5 HW e0 e1 e2 e3;go_wp2_with fail;refine bodyPost_ret (v := .agg #[.bool t5, .slice A5 n5 c5]) ?_ rfl ⟨⟨_, rfl, ?_⟩, ?_⟩
   ·simp [results, Tryz.results102, go_sem, d0, d1]
   ·exact HV5.out.store H5.out
   ·exact (HB5.out.setCell (by show w.heap.size ≤ w.heap.size + 1 + 1; omega) _).setCell (by show w.heap.size ≤ w.heap.size + 1 + 1; omega) _) : p := h
theorem zz8b (x y : Value) (X Y : Int) (w : World) (hx : Hid (BigAt w x X)) (hy : Hid (BigAt w y Y)) (bX : X.natAbs < 10000 ^ 40) (bY : Y.natAbs < 10000 ^ 40) :
  Calls Tryz.prog 102 #[x, y] w fun e w' => (∃ v, e = .returned v ∧ BigAt w' v (X * Y)) ∧ Below w.heap.size w w' := by
 obtain ⟨A, n, c, f, rfl, hc, hv, hd, hn⟩ := hx.out;obtain ⟨B, m, d, g, rfl, kc, kv, kd, km⟩ := hy.out;have hn40 := zz1o (k := 40) hc (by rw [hv]; exact bX)
 have hm40 := zz1o (k := 40) kc (by rw [kv]; exact bY)
 obtain ⟨s, hs⟩ : ∃ s, decide (X < 0) = s := ⟨_, rfl⟩;obtain ⟨t, ht⟩ : ∃ t, decide (Y < 0) = t := ⟨_, rfl⟩;rw [hs, ht];have hval := sgn_mul hs ht;rw [← hv, ← kv] at hval;have HVAL := zH hval;have Hf : Hid (Dg f n) := hc.toDg;have Hg : Hid (Dg g m) := kc.toDg;have HA := zH hd;have HB := zH kd;have qB := zH (fun i w' (h : Hid (DigAt w' B m g)) (hi : i ≤ 100) => zzbz B m d g i w' h Hg zw zw)
 have h1 := ((BigBlk.mk w _ s (.slice A n c) rfl).alloc (.cells #[.bool t, .slice B m d] 143)).alloc (.cells #[.bool false, .slice none 0 0] 143);have h2 := (BigBlk.mk (w.alloc (.cells #[.bool s, .slice A n c] 143)) (w.heap.size + 1) t (.slice B m d) (by rw [World.size_alloc])).alloc (.cells #[.bool false, .slice none 0 0] 143)
 have h3 := BigBlk.mk ((w.alloc (.cells #[.bool s, .slice A n c] 143)).alloc (.cells #[.bool t, .slice B m d] 143)) (w.heap.size + 1 + 1) false (.slice none 0 0) (by rw [World.size_alloc, World.size_alloc])
 have hb1 := zz01 (zz01 (zz01 (Below.refl w.heap.size w) (Nat.le_refl _) (.cells #[.bool s, .slice A n c] 143)) (by rw [World.size_alloc]; omega) (.cells #[.bool t, .slice B m d] 143)) (by rw [World.size_alloc, World.size_alloc]; omega) (.cells #[.bool false, .slice none 0 0] 143)
 have hsz : (((w.alloc (.cells #[.bool s, .slice A n c] 143)).alloc (.cells #[.bool t, .slice B m d] 143)).alloc (.cells #[.bool false, .slice none 0 0] 143)).heap.size = w.heap.size + 3 := by rw [World.size_alloc, World.size_alloc, World.size_alloc]
 clear hc kc hv kv hd kd hs ht hx hy bX bY hval;obtain ⟨u, hu⟩ : ∃ u, (s != t) = u := ⟨_, rfl⟩;rw [hu] at HVAL;go_in;go_wp2_with fail;generalize ((w.alloc (.cells #[.bool s, .slice A n c] 143)).alloc (.cells #[.bool t, .slice B m d] 143)).alloc (.cells #[.bool false, .slice none 0 0] 143) = w1 at *;have H1 := zH h1; have H2 := zH h2; have H3 := zH h3; have HB1 := zH hb1; have HSZ := zH hsz;have l1 := h1.lt;have l2 := h2.lt;have l3 := h3.lt;have e0 := h1.c0; have e1 := h1.c1; have e2 := h2.c0; have e3 := h2.c1;have hnm : ((n : Nat) : Int) + ((m : Nat) : Int) = ((n + m : Nat) : Int) := by omega
 have hnm1 : ((n + m : Nat) : Int) + 1 = ((n + m + 1 : Nat) : Int) := by omega
 obtain ⟨N, hN⟩ : ∃ N, n + m + 1 = N := ⟨_, rfl⟩;rw [hN] at hnm1;obtain ⟨N0, hN0⟩ : ∃ N0, n + m = N0 := ⟨_, rfl⟩;rw [hN0] at hnm hnm1;have hN81 : N ≤ 81 := by omega
 have hN081 : N0 ≤ 80 := by omega
 have HN := zH (And.intro hN hN0);clear h1 h2 h3 hb1 hsz hN hN0;refine zz1h [0, 1, 2, 3, 4, 5, 6, 7, 8, 9, 10, 11, 12] 4 (zb 17 8191) zk zk zk zk (fun wz => Hid (Below w1.heap.size w1 wz)) (Below.refl _ _).drew ?_
 simp only [opsAt, zA];refine zz0v (.pointer (some ⟨w.heap.size, 0, none⟩)) rfl (fun wz hC => by unfold execOp; go_simp) ?_
 refine zz0v (.bool s) rfl (fun wz hC => by unfold execOp; have := ((Hid.out hC).cell (p := ⟨w.heap.size, 0, none⟩) l1).trans e0; go_simp) ?_
 refine zz0v (.pointer (some ⟨w.heap.size + 1, 0, none⟩)) rfl (fun wz hC => by unfold execOp; go_simp) ?_
 refine zz0v (.bool t) rfl (fun wz hC => by unfold execOp; have := ((Hid.out hC).cell (p := ⟨w.heap.size + 1, 0, none⟩) l2).trans e2; go_simp) ?_
 refine zz0v (.bool u) rfl (fun wz hC => by unfold execOp; go_simp; rw [← hu]; cases s <;> cases t <;> rfl) ?_
 refine zz0v (.pointer (some ⟨w.heap.size, 1, none⟩)) rfl (fun wz hC => by unfold execOp; go_simp) ?_
 refine zz0v (.slice A n c) rfl (fun wz hC => by unfold execOp; have := ((Hid.out hC).cell (p := ⟨w.heap.size, 1, none⟩) l1).trans e1; go_simp) ?_
 refine zz0v (.int .i64 n) rfl (fun wz hC => by unfold execOp; go_simp) ?_
 refine zz0v (.pointer (some ⟨w.heap.size + 1, 1, none⟩)) rfl (fun wz hC => by unfold execOp; go_simp) ?_
 refine zz0v (.slice B m d) rfl (fun wz hC => by unfold execOp; have := ((Hid.out hC).cell (p := ⟨w.heap.size + 1, 1, none⟩) l2).trans e3; go_simp) ?_
 refine zz0v (.int .i64 m) rfl (fun wz hC => by unfold execOp; go_simp) ?_
 refine zz0v (.int .i64 N0) rfl (fun wz hC => by unfold execOp; go_simp; rw [IntKind.wrap_i64]; omega) ?_
 refine zz0v (.int .i64 N) rfl (fun wz hC => by unfold execOp; go_simp; rw [IntKind.wrap_i64]; omega) ?_
 unfold wpPure;go_simp;obtain ⟨ti, hti, htz, hts, htb⟩ := el_int.info;refine zz6h 13 15 (Li := (zb 17 16383)) (Lj := (zb 17 40959)) zk zk zk rfl rfl rfl rfl ?_ ?_
 ·skip
  refine wpList_make_full _ rfl (.tmp 22) (.tmp 22) 141 rfl w1.heap.size 3 ti (.int .i64 0) 1 el_int.und hti htz hts .i64 .i64 N N N rfl rfl rfl rfl (by rw [htb]; omega) (by unfold maxLen; omega) (Nat.le_refl _) ?_
  intro w2 hown hgr;go_wp2_with fail;rw [zz1a];have hrow := zz7w hown;clear hown;have hc2 : Hid (Below w1.heap.size w1 w2) := ⟨hgr.os, hgr.tape, hgr.output, hgr.size, fun k hk => hgr.block k hk (by simp)⟩
  clear hgr;refine ⟨hc2, ?_⟩;refine zz4h zk hc2 2 [14] _ _ zk ?_ (fun a' h => h)
  simp only [opsAt, zA];refine zz0v (.agg #[.bool u, .slice (some ⟨w1.heap.size, 0, none⟩) N N]) rfl (fun wz _ => by unfold execOp; go_simp) ?_
  unfold wpPure;go_simp;refine zz0n 15 (L' := (zb 17 65535)) zk zk rfl rfl ?_;go_wp2_with fail;rw [zz1a];have hc3 : Below w1.heap.size w1 (w2.alloc (.cells #[.bool false, .slice none 0 0] 143)) := zz01 hc2.out hc2.out.size _;refine ⟨hc3, ?_⟩;refine zz0n 16 (L' := (zb 17 131071)) zk zk rfl rfl ?_;go_wp2_with fail;refine zQs (zz01 hc2.out hc2.out.size _) ?_;refine ⟨by kernel_rfl, ?_⟩
  rw [zz1b];have hlt2 : w1.heap.size < w2.heap.size := zL hrow;have hsz := HSZ.out;obtain ⟨p, hp⟩ : ∃ p, w2.heap.size = p := ⟨_, rfl⟩;obtain ⟨R, hR⟩ : ∃ R, w1.heap.size = R := ⟨_, rfl⟩;have hMW : MulW w (w2.alloc (.cells #[.bool u, .slice (some ⟨R, 0, none⟩) N N] 143)) s t u A B n c m d p R N (fun _ => 0) :=
   ⟨(H1.out.below hc2.out l1).alloc _, (H2.out.below hc2.out l2).alloc _, (H3.out.below hc2.out l3).alloc _, BigBlk.mk w2 p u _ hp, zz05 (by rw [← hR]; exact hrow) _,
    HB1.out.trans ((zz01 hc2.out hc2.out.size _).mono HB1.out.size), by omega, by omega, by omega⟩
  rw [hp, hR];have HMW := zH hMW;clear H1 H2 H3 HB1 HSZ l1 l2 l3 e0 e1 e2 e3 hc2 hc3 hp hR hsz hlt2 hnm hnm1 hti htz hts htb;generalize w2.alloc (.cells #[.bool u, .slice (some ⟨R, 0, none⟩) N N] 143) = wS at *;exact zt4
 ·skip
  go_wp2_with fail;rw [zz1a];have hc2 : Hid (Below w1.heap.size w1 (w1.alloc (.cells #[.bool false, .slice none 0 0] 143)).drew) := zBa.drew;refine ⟨hc2, ?_⟩;have hp5 : Hid (BigBlk (w1.alloc (.cells #[.bool false, .slice none 0 0] 143)).drew w1.heap.size false (.slice none 0 0)) := BigBlk.mk w1 _ _ _ rfl;have hs5 : (w1.alloc (.cells #[.bool false, .slice none 0 0] 143)).drew.heap.size = w1.heap.size + 1 := World.size_alloc _ _;generalize (w1.alloc (.cells #[.bool false, .slice none 0 0] 143)).drew = wA at *;have HS5 := zH hs5;clear hs5;refine zz0n 13 (L' := (zb 17 49151)) zk zk rfl rfl ?_;refine wpList_make_full _ rfl (.tmp 22) (.tmp 22) 141 rfl wA.heap.size 3 ti (.int .i64 0) 1 el_int.und hti htz hts .i64 .i64 N N N rfl rfl rfl rfl (by rw [htb]; omega) (by unfold maxLen; omega) (Nat.le_refl _) ?_
  intro w2 hown hgr;go_wp2_with fail;rw [zz1a];have hrow := zz7w hown;clear hown;have hc3 : Hid (Below w1.heap.size w1 w2) := hc2.out.trans (Below.mono ⟨hgr.os, hgr.tape, hgr.output, hgr.size, fun k hk => hgr.block k hk (by simp)⟩ hc2.out.size)
  have hp6 : Hid (BigBlk w2 w1.heap.size false (.slice none 0 0)) := (hgr.block _ hp5.out.lt (by simp)).trans hp5.out
  have hz6 := zH hgr.size;clear hgr hc2 hp5;refine ⟨hc3, ?_⟩;refine zz4h zk hc3 1 [14] _ _ zk ?_ (fun a' h => h)
  simp only [opsAt, zA];refine zz0v (.agg #[.bool u, .slice (some ⟨wA.heap.size, 0, none⟩) N N]) rfl (fun wz _ => by unfold execOp; go_simp) ?_
  unfold wpPure;go_simp;have g0 := hp6.out.c0;have g1 := hp6.out.c1;have g2 := hp6.out.z 0;have g3 := hp6.out.z 1;refine zz0n 16 (L' := (zb 17 131071)) zk zk rfl rfl ?_;go_wp2_with fail;rw [zz1a];have hc4 : Below w1.heap.size w1 ((w2.setCell ⟨w1.heap.size, 0, none⟩ (.bool u)).setCell ⟨w1.heap.size, 1, none⟩ (.slice (some ⟨wA.heap.size, 0, none⟩) N N)) := (hc3.out.setCell (Nat.le_refl _) _).setCell (Nat.le_refl _) _;refine ⟨hc4, ?_⟩;refine ⟨by kernel_rfl, ?_⟩
  rw [zz1b];have hsz := HSZ.out;have hs5 := HS5.out;obtain ⟨p, hp⟩ : ∃ p, w1.heap.size = p := ⟨_, rfl⟩;obtain ⟨R, hR⟩ : ∃ R, wA.heap.size = R := ⟨_, rfl⟩;rw [hR] at hc4;have hMW : MulW w ((w2.setCell ⟨p, 0, none⟩ (.bool u)).setCell ⟨p, 1, none⟩ (.slice (some ⟨R, 0, none⟩) N N)) s t u A B n c m d p R N (fun _ => 0) :=
   ⟨((H1.out.below hc3.out l1).oth _ _ zw).oth _ _ zw, ((H2.out.below hc3.out l2).oth _ _ zw).oth _ _ zw, ((H3.out.below hc3.out l3).oth _ _ zw).oth _ _ zw,
    by rw [← hp]; exact (hp6.out.set0 u).set1 _, zz09 (zz09 (by rw [← hR]; exact hrow) _ _ zw) _ _ zw, by rw [hp] at hc4; exact HB1.out.trans (hc4.mono (by have := HB1.out.size; omega)), by omega, by omega, by omega⟩
  rw [hp, hR];have HMW := zH hMW;clear H1 H2 H3 HB1 HSZ l1 l2 l3 e0 e1 e2 e3 hc3 hc4 hp6 hz6 g0 g1 g2 g3 HS5 hp hR hsz hs5 hnm hnm1 hti htz hts htb;generalize (w2.setCell ⟨p, 0, none⟩ (.bool u)).setCell ⟨p, 1, none⟩ (.slice (some ⟨R, 0, none⟩) N N) = wS at *;exact zt4
structure UpInv (f h : Nat → Nat) (n k Q r : Nat) : Prop where
 lt : ∀ p, h p < 10000
 lo : ∀ p, p < k → h p = 0
 hi : ∀ p, n ≤ p → h p = 0
 val : pv h n = Q * 10000 ^ k
 all : pv f n = pv f k + (100 * Q + r) * 10000 ^ k
 rest : r < 100
theorem UpInv.step {f h : Nat → Nat} {n j Q r : Nat} (H : UpInv f h n (j + 1) Q r) (hf : f j < 10000) (hj : j < n) :
  UpInv f (upd h j ((r * 10000 + f j) / 100)) n j (Q * 10000 + (r * 10000 + f j) / 100) ((r * 10000 + f j) % 100) := by
 have h0 := H.rest;refine ⟨fun p => ?_, fun p hp => ?_, fun p hp => ?_, ?_, ?_, by omega⟩
 ·unfold upd; split
  ·omega
  ·exact H.lt p
 ·unfold upd; rw [if_neg zw]; exact H.lo p zw
 ·unfold upd; rw [if_neg zw]; exact H.hi p hp
 ·have h1 := pv_upd h j ((r * 10000 + f j) / 100) n hj
  have h2 := H.val;rw [H.lo j zw] at h1;rw [Nat.pow_succ] at h2;generalize (r * 10000 + f j) / 100 = d at *;generalize pv (upd h j d) n = v1 at *;generalize pv h n = v0 at *;generalize 10000 ^ j = q at *
  grind
 ·have h1 := H.all
  have h2 := Nat.div_add_mod (r * 10000 + f j) 100;rw [Nat.pow_succ] at h1;rw [h1];show pv f j + f j * 10000 ^ j + _ = _;generalize (r * 10000 + f j) / 100 = d at *;generalize (r * 10000 + f j) % 100 = e at *;generalize pv f j = v at *;generalize f j = a at *;generalize 10000 ^ j = q at *;have h3 : (100 * d + e) * q = (r * 10000 + a) * q := by rw [h2]
  grind
structure UpW (w wr : World) (A : Option Addr) (n c p : Nat) (h : Nat → Nat) : Prop where
 k1 : BigBlk wr w.heap.size false (.slice A n c)
 k3 : BigBlk wr (w.heap.size + 1) false (.slice none 0 0)
 k4 : BigBlk wr p false (.slice (some ⟨w.heap.size + 2, 0, none⟩) n n)
 row : wr.heap[w.heap.size + 2]? = some (.cells (rowA h n) 3 (0, 0))
 low : Below w.heap.size w wr
 hp : w.heap.size + 3 ≤ p
theorem UpW.ext {w wr : World} {A : Option Addr} {n c p : Nat} {h : Nat → Nat} (H : UpW w wr A n c p h) {w' : World} (hb : Below wr.heap.size wr w') : UpW w w' A n c p h :=
 ⟨H.k1.call hb, H.k3.call hb, H.k4.call hb, zz06 H.row hb, H.low.trans (hb.mono H.low.size), H.hp⟩
theorem UpW.set {w wr : World} {A : Option Addr} {n c p : Nat} {h : Nat → Nat} (H : UpW w wr A n c p h) (q x : Nat) (hq : q < n) :
  UpW w (wr.setCell ⟨w.heap.size + 2, q, none⟩ (.int .i64 (x : Nat))) A n c p (upd h q x) :=
 have hp := H.hp
 ⟨H.k1.oth _ _ zw, H.k3.oth _ _ zw, H.k4.oth _ _ zw, by rw [← zzao h hq x]; exact zz0b H.row q _, H.low.setCell (p := ⟨w.heap.size + 2, q, none⟩) (by show w.heap.size ≤ w.heap.size + 2; omega) _, H.hp⟩
def up100 (X : Int) : Int := (X + 99) / 100
theorem zt14 {p : Prop} (h : p := by
 refine zz0n 2 (L' := #[true, true, true, false]) zk zk rfl rfl ?_;go_wp2_with fail;(with_reducible refine (zz1q _ _ _ _ _ IV HO hQb hone).mono ?_);rintro e w9 ⟨⟨v9, rfl, hv9⟩, hb9⟩;obtain ⟨t9, A9, n9, c9, rfl⟩ := hv9.form;have HV9 := zH hv9;have J3 := zH (I3.out.call hb9);have J4 := zH (I4.out.call hb9);have JB := zB IB hb9;clear hv9 hb9 I3 I4 IB;go_wp2_with fail;refine zQs (trivial) ?_;refine zz0n 3 (L' := #[true, true, true, true]) zk zk rfl rfl ?_;have u0 := J4.out.c0;have u1 := J4.out.c1;have u2 := J4.out.z 0;have u3 := J4.out.z 1;go_wp2_with fail;refine zQs (trivial) ?_;refine ⟨by kernel_rfl, ?_⟩
 rw [zz1b];have M3 := zH ((J3.out.oth (q := p) 0 (.bool t9) zw).oth (q := p) 1 (.slice A9 n9 c9) zw);have M4 := zH ((J4.out.set0 t9).set1 (.slice A9 n9 c9));have MB := zH ((JB.out.setCell (p := ⟨p, 0, none⟩) (by show w.heap.size ≤ p; omega) (.bool t9)).setCell (p := ⟨p, 1, none⟩) (by show w.heap.size ≤ p; omega) (.slice A9 n9 c9))
 have MV := zH (HV9.out.store J4.out);clear u0 u1 u2 u3;have d0 := J3.out.c0;have d1 := J3.out.c1;have d2 := J3.out.z 0;have d3 := J3.out.z 1;have d4 := J4.out.c0;have d5 := J4.out.c1;have hlt9 := J4.out.lt;have hlt8 := J3.out.lt;go_wp2_with fail;refine bodyPost_ret (v := .agg #[.bool t9, .slice A9 n9 c9]) ?_ rfl ⟨⟨_, rfl, ?_⟩, ?_⟩
 ·have d0 := M3.out.c0
  have d1 := M3.out.c1;simp [results, Tryz.results160, go_sem, d0, d1]
 ·rw [HUP.out]; exact MV.out.store M3.out
 ·exact (MB.out.setCell (Nat.le_succ _) _).setCell (Nat.le_succ _) _) : p := h
theorem UpBy_any (x : Value) (X : Int) (w : World) (hx : Hid (BigAt w x X)) (bX : X.natAbs < 10000 ^ 39) (h0 : 0 ≤ X) :
  Calls Tryz.prog 160 #[x, .int .i64 100] w fun e w' => (∃ v, e = .returned v ∧ BigAt w' v (up100 X)) ∧ Below w.heap.size w w' := by
 obtain ⟨A, n, c, f, rfl, hc, hv, hd, hn⟩ := hx.out;have hn40 := zz1o (k := 39) hc (by rw [hv]; exact bX)
 rw [decide_eq_false (show ¬ X < 0 by omega)]
 have Hf : Hid (Dg f n) := hc.toDg;have HA := zH hd;have HV := zH hv;have h1 := (BigBlk.mk w _ false (.slice A n c) rfl).alloc (.cells #[.bool false, .slice none 0 0] 143);have h3 := BigBlk.mk (w.alloc (.cells #[.bool false, .slice A n c] 143)) (w.heap.size + 1) false (.slice none 0 0) (by rw [World.size_alloc])
 have hb1 := zz01 (zz01 (Below.refl w.heap.size w) (Nat.le_refl _) (.cells #[.bool false, .slice A n c] 143)) (by rw [World.size_alloc]; omega) (.cells #[.bool false, .slice none 0 0] 143)
 have hsz : ((w.alloc (.cells #[.bool false, .slice A n c] 143)).alloc (.cells #[.bool false, .slice none 0 0] 143)).heap.size = w.heap.size + 2 := by rw [World.size_alloc, World.size_alloc]
 clear hc hv hd hx;obtain ⟨ti, hti, htz, hts, htb⟩ := el_int.info;go_in;go_wp2_with (at_make; refine wpList_make_full _ rfl (.tmp 10) (.tmp 10) 141 rfl 0 3 ti (.int .i64 0) 1 el_int.und hti htz hts .i64 .i64 n n n rfl rfl rfl rfl (by rw [htb]; omega) (by unfold maxLen; omega) (Nat.zero_le _) ?_; intro w2 hown hgr; refine Hid.out ?_)
 refine zH ?_;generalize (w.alloc (.cells #[.bool false, .slice A n c] 143)).alloc (.cells #[.bool false, .slice none 0 0] 143) = w1 at *;rw [hsz] at hown;have hrow := zz7w hown;have hlt := zL hrow;have hb2 : Below w1.heap.size w1 w2 := ⟨hgr.os, hgr.tape, hgr.output, hgr.size, fun k hk => hgr.block k hk (by simp)⟩
 obtain ⟨p, hp⟩ : ∃ p, w2.heap.size = p := ⟨_, rfl⟩;have hUW : UpW w (w2.alloc (.cells #[.bool false, .slice (some ⟨w.heap.size + 2, 0, none⟩) n n] 143)) A n c p (fun _ => 0) :=
  ⟨(h1.call hb2).alloc _, (h3.call hb2).alloc _, BigBlk.mk w2 p false _ hp, zz05 hrow _, hb1.trans ((zz01 hb2 hb2.size _).mono hb1.size), by omega⟩
 have HUW := zH hUW;clear hown hgr h1 h3 hb1 hsz hb2 hrow hUW hti htz hts htb;have e0 := HUW.out.k1.c1;go_wp2_with fail;clear hp hlt e0;generalize w2.alloc (.cells #[.bool false, .slice (some ⟨w.heap.size + 2, 0, none⟩) n n] 143) = wS at *;go_loopw [6, 7] (fun s6 s7 wr => ∃ (k Q r : Nat) (h : Nat → Nat), s6 = .int .i64 (r : Int) ∧ s7 = .int .i64 ((k : Int) - 1) ∧ k ≤ n ∧ Hid (UpInv f h n k Q r) ∧ Hid (UpW w wr A n c p h)) (fun _ s7 _ => (intOf s7 + 1).toNat)
 case atStart => exact ⟨n, 0, 0, fun _ => 0, rfl, rfl, Nat.le_refl _, ⟨fun _ => by omega, fun _ _ => rfl, fun _ _ => rfl, by rw [zz26 (f := fun _ => 0) (n := 0) (fun _ _ => rfl) n (Nat.zero_le _), Nat.zero_mul]; rfl, by simp, by omega⟩, HUW.out⟩
 case round =>
  clear HUW;obtain ⟨k, Q, r, h, rfl, rfl, hk, HI, HW⟩ := hrel;have e0 := HW.out.k1.c1;have e1 := HW.out.k4.c1;by_cases hk0 : k = 0
  ·subst hk0
   have hvl : pv h n = Q := by have := HI.out.val; omega
   have hal : pv f n = 100 * Q + r := by have h1 := HI.out.all; have h2 : pv f 0 = 0 := rfl; omega
   have hr := HI.out.rest;have hX : X = ((100 * Q + r : Nat) : Int) := by have := HV.out; omega
   have hD4 : Hid (DigAt wr (some ⟨w.heap.size + 2, 0, none⟩) n h) := fun x hx => ⟨w.heap.size + 2, 0, rfl, (zL HW.out.row), by rw [Nat.zero_add]; exact zz00 HW.out.row x _ (zz2s h hx)⟩
   have qT := zz1w false (some ⟨w.heap.size + 2, 0, none⟩) n n h wr hD4 ⟨HI.out.lt, HI.out.hi⟩ zw (Nat.le_refl _);rw [hvl] at qT;have QT := zH qT;have e2 := HW.out.k4.c0;have HXQ := zH hX;clear qT hvl hal hX HI;go_wp2_with fail;(with_reducible refine QT.out.mono ?_);rintro e w5 ⟨⟨v5, rfl, hv5⟩, hb5⟩;obtain ⟨t5, A5, n5, c5, rfl⟩ := hv5.form;have H5 := zH (HW.out.ext hb5);have HV5 := zH hv5;have d0 := H5.out.k4.c0;have d1 := H5.out.k4.c1;have f0 := H5.out.k4.z 0;have f1 := H5.out.k4.z 1;clear hv5 hb5 HW e0 e1 e2 QT hD4;have hp3 := H5.out.hp;have hplt := H5.out.k4.lt;have K3 := zH ((H5.out.k3.oth (q := p) 0 (.bool t5) zw).oth (q := p) 1 (.slice A5 n5 c5) zw);have K4 := zH ((H5.out.k4.set0 t5).set1 (.slice A5 n5 c5));have KB := zH ((H5.out.low.setCell (p := ⟨p, 0, none⟩) (by show w.heap.size ≤ p; omega) (.bool t5)).setCell (p := ⟨p, 1, none⟩) (by show w.heap.size ≤ p; omega) (.slice A5 n5 c5))
   have KV := zH (HV5.out.store H5.out.k4);by_cases hr0 : r = 0
   ·have hr0' : ¬ (0 < (r : Int)) := by omega
    have hup : up100 X = sgn false Q := by unfold up100 sgn; rw [HXQ.out]; simp; omega
    have HUP := zH hup;have g0 := H5.out.k3.c0;have g1 := H5.out.k3.c1;have g2 := H5.out.k3.z 0;have g3 := H5.out.k3.z 1;have hne1 : ¬ p = w.heap.size + 1 := by omega
    have hne2 : ¬ w.heap.size + 1 = p := by omega
    have hlt1 := H5.out.k3.lt;clear hup hr0;go_wp2_with fail;refine bodyPost_ret (v := .agg #[.bool t5, .slice A5 n5 c5]) ?_ rfl ⟨⟨_, rfl, ?_⟩, ?_⟩
    ·have d0 := K3.out.c0
     have d1 := K3.out.c1;simp [results, Tryz.results160, go_sem, d0, d1]
    ·rw [HUP.out]; exact KV.out.store K3.out
    ·exact (KB.out.setCell (Nat.le_succ _) _).setCell (Nat.le_succ _) _
   ·have hr0' : 0 < (r : Int) := by omega
    have hup : up100 X = sgn false Q + 1 := by unfold up100 sgn; rw [HXQ.out]; simp; omega
    have HUP := zH hup;have qO := zH (fun w => zz3f 1 (by unfold I64; omega) w)
    have hone : (1 : Int).natAbs < 10000 ^ 40 := by decide
    have hQb : (sgn false Q).natAbs < 10000 ^ 40 := by
     have h1 := HXQ.out;have h2 : (sgn false Q).natAbs ≤ X.natAbs := by unfold sgn; simp; omega
     have h3 : (10000 : Nat) ^ 39 ≤ 10000 ^ 40 := Nat.pow_le_pow_right zx zx;omega
    have hne1 : ¬ p = w.heap.size + 1 := by omega
    have hne2 : ¬ w.heap.size + 1 = p := by omega
    go_wp2_with fail;generalize (w5.setCell ⟨p, 0, none⟩ (.bool t5)).setCell ⟨p, 1, none⟩ (.slice A5 n5 c5) = w6 at *;clear d0 d1 f0 f1 H5 HV5 hplt hup;have e0 := K4.out.c0;have e1 := K4.out.c1;refine zz1h [] 4 #[false, false, false, false] zk zk zk zk (fun _ => True) trivial ?_
    unfold opsAt wpPure;refine zz6h 0 1 (Li := #[true, false, false, false]) (Lj := #[false, true, false, false]) zk zk zk rfl rfl rfl rfl ?_ ?_
    ·go_wp2_with fail
     refine zQs (trivial) ?_;refine zz0n 1 (L' := #[true, true, false, false]) zk zk rfl rfl ?_;go_wp2_with fail;(with_reducible refine (qO.out _).mono ?_);rintro e w8 ⟨⟨v8, rfl, hv8⟩, hb8⟩;obtain ⟨t8, A8, n8, c8, rfl⟩ := hv8.form;have HO := zH hv8;replace hb8 : Below w6.heap.size w6 w8 := (Below.refl w6.heap.size w6).drew.trans hb8;have I3 := zH (K3.out.call hb8);have I4 := zH (K4.out.call hb8);have IB := zB KB hb8;have IV := zH (KV.out.call hb8);clear hv8 hb8;go_wp2_with fail;refine zQs (trivial) ?_;exact zt14
    ·go_wp2_with fail
     (with_reducible refine (qO.out _).mono ?_);rintro e w8 ⟨⟨v8, rfl, hv8⟩, hb8⟩
     obtain ⟨t8, A8, n8, c8, rfl⟩ := hv8.form;have HO := zH hv8;replace hb8 : Below w6.heap.size w6 w8 := (Below.refl w6.heap.size w6).drew.trans hb8;have I3 := zH (K3.out.call hb8);have I4 := zH (K4.out.call hb8);have IB := zB KB hb8;have IV := zH (KV.out.call hb8);clear hv8 hb8;go_wp2_with fail;refine zQs (trivial) ?_;have e2 := I4.out.c0;have e3 := I4.out.c1;refine zz0n 0 (L' := #[true, true, false, false]) zk zk rfl rfl ?_;go_wp2_with fail;refine zQs (trivial) ?_;clear e2 e3;exact zt14
  ·obtain ⟨j, rfl⟩ : ∃ j, k = j + 1 := ⟨k - 1, by omega⟩
   have ej : ((j + 1 : Nat) : Int) - 1 = (j : Int) := by omega
   rw [ej];obtain ⟨b, ob, rfl, hblt, hbc⟩ := (HA.out.call HW.out.low) j zw;have a1 := Hf.out.lt j;have hr := HI.out.rest;have hst := zH (HI.out.step a1 zw);obtain ⟨a, ha⟩ : ∃ x, f j = x := ⟨_, rfl⟩;rw [ha] at a1 hst hbc;obtain ⟨x, hx⟩ : ∃ x, r * 10000 + a = x := ⟨_, rfl⟩;have hxi : (r : Int) * 10000 + (a : Int) = (x : Int) := by omega
   rw [hx] at hst;obtain ⟨dd, hdd⟩ : ∃ y, x / 100 = y := ⟨_, rfl⟩;obtain ⟨ee, hee⟩ : ∃ y, x % 100 = y := ⟨_, rfl⟩;have t2 : (x : Int).tdiv 100 = (dd : Int) := by rw [Int.tdiv_eq_ediv_of_nonneg zw]; omega
   have t3 : (x : Int).tmod 100 = (ee : Int) := by rw [Int.tmod_eq_emod_of_nonneg zw]; omega
   have hx1 : x < 1000000 := by omega
   have hd1 : dd < 10000 := by omega
   have he1 : ee < 100 := by omega
   rw [hdd, hee] at hst;have hjn : (j : Int) < n := by omega
   have hjn' : j < n := by omega
   have hplt := HW.out.k4.lt;clear ha hx hdd hee HI hk0 ej;go_wp2_with fail;refine zz3h 7 zk zk ?_;simp only [List.take_succ_cons, List.take_zero, List.drop_succ_cons, List.drop_zero]
   repeat (go_big_quiet_step (fail))
   refine wpQuiet_nil ?_;rintro w' ⟨y, rfl⟩;have HW2 := zH (HW.out.ext y.below);generalize y.w = wq at *;clear y HW e0 e1 hplt hblt hbc;clear wr;have e3 := zz00 HW2.out.row j _ (zz2s h hjn');have e4 := zz04 HW2.out.row j;go_wp2_with fail;go_roundw
   case rel => exact ⟨j, Q * 10000 + dd, ee, _, rfl, rfl, by omega, hst.out, HW2.out.set j dd hjn'⟩
   case measure => simp [intOf]
def fitsP (X : Int) : Int × Bool := if Mon.fits X then (X, true) else (0, false)
theorem zz92 {X : Int} (h : -9223372036854775808 ≤ X ∧ X ≤ 9223372036854775807) : fitsP X = (X, true) := by
 unfold fitsP Mon.fits; rw [if_pos (by simp [h])]
theorem zz5z {X : Int} (h : ¬ (-9223372036854775808 ≤ X ∧ X ≤ 9223372036854775807)) : fitsP X = (0, false) := by
 unfold fitsP Mon.fits; rw [if_neg (by simpa using h)]
structure FitInv (f : Nat → Nat) (n k T : Nat) : Prop where
 all : pv f n = pv f k + T * 10000 ^ k
theorem FitInv.step {f : Nat → Nat} {n j T : Nat} (H : FitInv f n (j + 1) T) : FitInv f n j (T * 10000 + f j) := by
 refine ⟨?_⟩;have h := H.all;rw [h, Nat.pow_succ];show pv f j + f j * 10000 ^ j + _ = _;generalize pv f j = v at *;generalize f j = a at *;generalize 10000 ^ j = q at *
 grind
theorem FitInv.le {f : Nat → Nat} {n k T : Nat} (H : FitInv f n k T) : T ≤ pv f n := by
 have h := H.all;have h1 : T * 1 ≤ T * 10000 ^ k := Nat.mul_le_mul_left _ (Nat.pow_pos zx);omega
theorem zt24 {p : Prop} (h : p := by
 obtain ⟨j, rfl⟩ : ∃ j, k = j + 1 := ⟨k - 1, by omega⟩
 have ej : ((j + 1 : Nat) : Int) - 1 = (j : Int) := by omega
 rw [ej];obtain ⟨b, ob, rfl, hblt, hbc⟩ := HD1.out j zw;have a1 := Hf.out.lt j;have hst := zH HI.out.step;have hT2 := HI.out.step.le;obtain ⟨a, ha⟩ : ∃ y, f j = y := ⟨_, rfl⟩;rw [ha] at a1 hst hbc hT2;obtain ⟨T2, hT2e⟩ : ∃ y, T * 10000 + a = y := ⟨_, rfl⟩;rw [hT2e] at hst hT2;have t1 : -(T : Int) * 10000 = -((T * 10000 : Nat) : Int) := by omega
 have t4 : wrap64 (-(T : Int) * 10000) = -((T * 10000 : Nat) : Int) := by rw [t1]; unfold wrap64; omega
 have t2 : wrap64 (wrap64 (-(T : Int) * 10000) - (a : Int)) = -(T2 : Int) := by rw [t4]; unfold wrap64; omega
 have t5 : wrap64 (-(T : Int) * 10000 - (a : Int)) = -(T2 : Int) := by unfold wrap64; omega
 have t6 : -(T : Int) * 10000 - (a : Int) = -(T2 : Int) := by omega
 have hjn : (j : Int) < n := by omega
 clear ha hT2e ej hk0 t1;go_wp2_with fail;go_roundw
 case rel => exact ⟨j, T2, rfl, rfl, by omega, hst.out, trivial⟩
 case measure => simp [intOf]) : p := h
theorem zz2e (x : Value) (X : Int) (w : World) (hx : Hid (BigAt w x X)) (bX : X.natAbs < 10000 ^ 40) :
  Calls Tryz.prog 101 #[x] w fun e w' => e = .returned (.tuple #[.int .i64 (fitsP X).1, .bool (fitsP X).2]) ∧ Below w.heap.size w w' := by
 obtain ⟨A, n, c, f, rfl, hc, hv, hd, hn⟩ := hx.out;have hn40 := zz1o (k := 40) hc (by rw [hv]; exact bX)
 obtain ⟨s, hs⟩ : ∃ s, decide (X < 0) = s := ⟨_, rfl⟩;rw [hs];have Hf : Hid (Dg f n) := hc.toDg;have h1 := BigBlk.mk w _ s (.slice A n c) rfl;have hb1 := zz01 (Below.refl w.heap.size w) (Nat.le_refl _) (.cells #[.bool s, .slice A n c] 143);have HA := zH hd;have qO := zH (fun w => zz3f (-9223372036854775808) (by unfold I64; omega) w)
 clear hc hd hx;go_in;go_wp2_with fail;generalize w.alloc (.cells #[.bool s, .slice A n c] 143) = w1 at *;(with_reducible refine (qO.out _).mono ?_);rintro e w2 ⟨⟨v8, rfl, hv8⟩, hb8⟩;obtain ⟨A2, n2, c2, f2, rfl, hc2, kv2, hd2, _⟩ := hv8;have hn2 := zz1o (k := 40) hc2 (by rw [kv2]; decide)
 rw [show decide ((-9223372036854775808 : Int) < 0) = true by decide]
 have kv3 : pv f2 n2 = 9223372036854775808 := by rw [kv2]; decide
 have Hf2 : Hid (Dg f2 n2) := hc2.toDg;obtain ⟨q, hq⟩ : ∃ q, w2.heap.size = q := ⟨_, rfl⟩;have K1 := zH ((h1.call hb8).alloc (.cells #[.bool true, .slice A2 n2 c2] 143));have K2 := zH (BigBlk.mk w2 q true (.slice A2 n2 c2) hq);have KB := zH (zz01 (hb1.trans (hb8.mono hb1.size)) (Nat.le_trans hb1.size hb8.size) (.cells #[.bool true, .slice A2 n2 c2] 143));have hbw := (zz01 (Below.refl w2.heap.size w2) (Nat.le_refl _) (.cells #[.bool true, .slice A2 n2 c2] 143));have HD2 := zH (hd2.call hbw);have HD1 := zH (HA.out.call KB.out);clear hc2 kv2 hd2 hb8 h1 hb1 hbw qO;rw [← hv] at bX;have e0 := K1.out.c0;have e1 := K1.out.c1;have e3 := K2.out.c1;by_cases hX : X < 0
 ·obtain rfl : s = true := by rw [← hs]; exact decide_eq_true hX
  have qL0 := zH (zz5t A2 A n2 n c2 c f2 f);have qL := zH (fun w' h1 h2 => qL0.out w' h1 h2 Hf2 Hf zw zw)
  clear qL0;by_cases hg : pv f n ≤ 9223372036854775808
  ·have hc : decide (pv f2 n2 < pv f n) = false := decide_eq_false zw
   rw [hc] at qL;have HF := zH (zz92 (X := X) zw);clear hs hc;go_wp2_with (go_at_call 157; with_reducible refine (qL.out _ HD2 HD1).mono ?_; rintro e w9 ⟨rfl, rfl⟩);clear qL e3 hq;generalize w2.alloc (.cells #[.bool true, .slice A2 n2 c2] 143) = wr at *;go_loopw [5, 6] (fun s5 s6 wr' => ∃ k T : Nat, s5 = .int .i64 (-(T : Int)) ∧ s6 = .int .i64 ((k : Int) - 1) ∧ k ≤ n ∧ Hid (FitInv f n k T) ∧ wr' = wr) (fun _ s6 _ => (intOf s6 + 1).toNat)
   case atStart => exact ⟨n, 0, rfl, rfl, Nat.le_refl _, ⟨by rw [Nat.zero_mul]; rfl⟩, rfl⟩
   case round =>
    obtain ⟨k, T, rfl, rfl, hk, HI, rfl⟩ := hrel;have hT := HI.out.le;by_cases hk0 : k = 0
    ·subst hk0
     have hTv : T = pv f n := by have := HI.out.all; have h0 : pv f 0 = 0 := rfl; omega
     have hTX : -(T : Int) = X := by omega
     have HTX := zH hTX;clear hTv hTX;go_wp2_with fail;go_ret2;refine ⟨?_, KB.out⟩;rw [HF.out, ← HTX.out]
     rfl
    ·exact zt24
  ·have hc : decide (pv f2 n2 < pv f n) = true := decide_eq_true zw
   rw [hc] at qL;have HF := zH (zz5z (X := X) zw);clear hs hc;go_wp2_with (go_at_call 157; with_reducible refine (qL.out _ HD2 HD1).mono ?_; rintro e w9 ⟨rfl, rfl⟩);go_ret2;exact ⟨by rw [HF.out]; rfl, KB.out⟩
 ·obtain rfl : s = false := by rw [← hs]; exact decide_eq_false hX
  have qL0 := zH (zz5t A A2 n n2 c c2 f f2);have qL := zH (fun w' h1 h2 => qL0.out w' h1 h2 Hf Hf2 zw zw)
  clear qL0;by_cases hg : pv f n < 9223372036854775808
  ·have hc : decide (pv f n < pv f2 n2) = true := decide_eq_true zw
   rw [hc] at qL;have HF := zH (zz92 (X := X) zw);clear hs hc;go_wp2_with (go_at_call 157; with_reducible refine (qL.out _ HD1 HD2).mono ?_; rintro e w9 ⟨rfl, rfl⟩);clear qL e3 hq;generalize w2.alloc (.cells #[.bool true, .slice A2 n2 c2] 143) = wr at *;go_loopw [5, 6] (fun s5 s6 wr' => ∃ k T : Nat, s5 = .int .i64 (-(T : Int)) ∧ s6 = .int .i64 ((k : Int) - 1) ∧ k ≤ n ∧ Hid (FitInv f n k T) ∧ wr' = wr) (fun _ s6 _ => (intOf s6 + 1).toNat)
   case atStart => exact ⟨n, 0, rfl, rfl, Nat.le_refl _, ⟨by rw [Nat.zero_mul]; rfl⟩, rfl⟩
   case round =>
    obtain ⟨k, T, rfl, rfl, hk, HI, rfl⟩ := hrel;have hT := HI.out.le;by_cases hk0 : k = 0
    ·subst hk0
     have hTv : T = pv f n := by have := HI.out.all; have h0 : pv f 0 = 0 := rfl; omega
     have hTX : (T : Int) = X := by omega
     have HTX := zH hTX;clear hTv hTX;have hTb : T < 9223372036854775808 := by omega
     go_wp2_with fail;go_ret2;refine ⟨?_, KB.out⟩;rw [HF.out, ← HTX.out]
     rfl
    ·exact zt24
  ·have hc : decide (pv f n < pv f2 n2) = false := decide_eq_false zw
   rw [hc] at qL;have HF := zH (zz5z (X := X) zw);clear hs hc;go_wp2_with (go_at_call 157; with_reducible refine (qL.out _ HD1 HD2).mono ?_; rintro e w9 ⟨rfl, rfl⟩);go_ret2;exact ⟨by rw [HF.out]; rfl, KB.out⟩
end
section
open Go Go.RowKit Mon
def sumA (V : Int) : Array Value := #[.int .u64 (w0 V), .int .u64 (w1 V), .int .u64 (w2 V)]
def SumAt (w : World) (g : Nat) (V : Int) : Prop := w.heap[g]? = some (.cells (sumA V) 196 (0, 0))
def acC (a b c d e f : Int) : Nat → Int
 | 0 => 0
 | 1 => (a + d) / 18446744073709551616
 | 2 => (b + e + (a + d) / 18446744073709551616) / 18446744073709551616
 | _ => (c + f + (b + e + (a + d) / 18446744073709551616) / 18446744073709551616) / 18446744073709551616
def acW (a b c d e f : Int) : Nat → Array Value
 | 0 => #[.int .u64 a, .int .u64 b, .int .u64 c]
 | 1 => #[.int .u64 ((a + d) % 18446744073709551616), .int .u64 b, .int .u64 c]
 | 2 => #[.int .u64 ((a + d) % 18446744073709551616), .int .u64 ((b + e + (a + d) / 18446744073709551616) % 18446744073709551616), .int .u64 c]
 | _ => #[.int .u64 ((a + d) % 18446744073709551616), .int .u64 ((b + e + (a + d) / 18446744073709551616) % 18446744073709551616), .int .u64 ((c + f + (b + e + (a + d) / 18446744073709551616) / 18446744073709551616) % 18446744073709551616)]
theorem zz4o {a w : World} {g : Option Nat} (h : a.grownBy w g) (o : Obj) : a.grownBy (w.alloc o) g :=
 ⟨h.os, h.tape, h.output, by rw [World.size_alloc]; exact Nat.le_succ_of_le h.size, fun i hi hne => (Below.heap_alloc w o i (Nat.lt_of_lt_of_le hi h.size)).trans (h.block i hi hne)⟩
theorem zzc1 (g : Nat) (a b c d e f : Int) (ha : 0 ≤ a ∧ a < M) (hb : 0 ≤ b ∧ b < M) (hc : 0 ≤ c ∧ c < M) (hd : 0 ≤ d ∧ d < M) (he : 0 ≤ e ∧ e < M) (hf : 0 ≤ f ∧ f < M) (w : World)
  (hS : ZB w g (acW a b c d e f 0) 196) :
  Calls Tryz.prog 179 #[.pointer (some ⟨g, 0, none⟩), .agg #[.int .u64 d, .int .u64 e, .int .u64 f]] w fun r w' =>
   r = .returned (.tuple #[]) ∧ w'.heap[g]? = some (.cells (acW a b c d e f 3) 196 (0, 0)) ∧ w.grownBy w' (some g) := by
 have hglt : g < w.heap.size := zL hS.out;go_in;go_wp2_with fail;go_loopw [4, 5, 6] (fun s4 s5 s6 wr => ∃ k : Nat, k ≤ 3 ∧ s4 = .int .u64 (acC a b c d e f k) ∧ s6 = .int .i64 k ∧
  ZB wr g (acW a b c d e f k) 196 ∧ ZB wr w.heap.size #[.int .u64 d, .int .u64 e, .int .u64 f] 194 ∧ Hid (w.grownBy wr (some g))) (fun _ _ s6 _ => 3 - (intOf s6).toNat)
 case atStart => exact ⟨0, by decide, rfl, rfl, zz05 hS.out _, zz02 _ _, zz4o (World.grownBy.refl _ _) _⟩
 case round =>
  obtain ⟨k, hk, rfl, rfl, H0, H1, HB⟩ := hrel;have hne : ¬ g = w.heap.size := by omega
  have ha0 := ha.1; have hb0 := hb.1; have hc0 := hc.1; have hd0 := hd.1; have he0 := he.1; have hf0 := hf.1;have ha1 := ha.2; have hb1 := hb.2; have hc1 := hc.2; have hd1 := hd.2; have he1 := he.2; have hf1 := hf.2;unfold M at ha1 hb1 hc1 hd1 he1 hf1;clear ha hb hc hd he hf;clear hS;have hglt2 : g < wr.heap.size := zL H0.out;have hblt : w.heap.size < wr.heap.size := zL H1.out;by_cases hk3 : k = 3
  ·subst hk3
   go_wp2_with fail;go_end0;exact ⟨rfl, H0.out, HB.out⟩
  ·have hk' : k < 3 := by omega
   have key : ∃ x y s c' : Int, (wr.cell? ⟨g, k, none⟩ = some (.int .u64 x)) ∧ (wr.cell? ⟨w.heap.size, k, none⟩ = some (.int .u64 y)) ∧
     (∀ w : World, (callFunc 184 #[.int .u64 x, .int .u64 y, .int .u64 (acC a b c d e f k)]).run Tryz.prog w = .ok (.value (.tuple #[.int .u64 s, .int .u64 c'])) w) ∧
     c' = acC a b c d e f (k + 1) ∧ (acW a b c d e f k).setIfInBounds k (.int .u64 s) = acW a b c d e f (k + 1) := by
    rcases three k hk with rfl | rfl | rfl | rfl
    ·exact ⟨a, d, _, _, zz00 H0.out 0 _ rfl, zz00 H1.out 0 _ rfl, fun w => zz7a a d ha0 hd0 w, rfl, rfl⟩
    ·exact ⟨b, e, _, _, zz00 H0.out 1 _ rfl, zz00 H1.out 1 _ rfl, fun w => add64 b e _ hb0 he0 (by simp only [acC]; omega) (by simp only [acC]; omega) w, rfl, rfl⟩
    ·exact ⟨c, f, _, _, zz00 H0.out 2 _ rfl, zz00 H1.out 2 _ rfl, fun w => add64 c f _ hc0 hf0 (by simp only [acC]; omega) (by simp only [acC]; omega) w, rfl, rfl⟩
    ·omega
   obtain ⟨x, y, s, c', hx, hy, q, hc', hs⟩ := key;obtain ⟨cc, hcc⟩ : ∃ cc : Int, acC a b c d e f k = cc := ⟨_, rfl⟩;rw [hcc] at q ⊢;have HC := zH hc';have HS := zH hs;have f0 := zz04 H0.out k;clear hc' hs hcc hk;go_wp2_with fail;refine zz1h [0, 1, 2, 3, 4, 5, 6, 8, 9, 10, 11, 16, 17] 8 (zb 21 200575) zk zk zk zk (fun wz => Hid (wz.cell? ⟨w.heap.size, k, none⟩ = some (.int .u64 y))) hy ?_
   simp only [opsAt, zA];refine zz2j rfl rfl ?_;refine zz2j rfl rfl ?_;refine zz2j rfl rfl ?_;refine zz2j rfl rfl ?_;refine zz0v (.pointer (some ⟨g, 0, none⟩)) rfl (fun wz _ => by unfold execOp; go_simp) ?_
   refine zz0v (.pointer (some ⟨g, 0, none⟩)) rfl (fun wz _ => by unfold execOp; go_simp) ?_
   refine zz0v (.pointer (some ⟨g, k, none⟩)) rfl (fun wz _ => by unfold execOp; go_simp) ?_
   refine zz2j rfl rfl ?_;refine zz0v (.pointer (some ⟨w.heap.size, k, none⟩)) rfl (fun wz _ => by unfold execOp; go_simp) ?_
   refine zz0v (.int .u64 y) rfl (fun wz hC => by have := (Hid.out hC); unfold execOp; go_simp) ?_
   refine zz2j rfl rfl ?_;refine zz0v (.pointer (some ⟨g, 0, none⟩)) rfl (fun wz _ => by unfold execOp; go_simp) ?_
   refine zz0v (.pointer (some ⟨g, 0, none⟩)) rfl (fun wz _ => by unfold execOp; go_simp) ?_
   unfold wpPure;go_simp;refine zz0n 7 (L' := (zb 21 200703)) zk zk rfl rfl ?_;go_wp2_with fail;refine zQs (hy) ?_;refine zz0n 12 (L' := (zb 21 204799)) zk zk rfl rfl ?_;go_wp2_with fail;refine zQs (hy) ?_;refine zz0n 13 (L' := (zb 21 212991)) zk zk rfl rfl ?_;go_wp2_with fail;refine zQs (hy) ?_;refine zz4h zk hy 3 [14, 15] _ _ zk ?_ (fun a' h => h)
   simp only [opsAt, zA];refine zz0v (.int .u64 s) rfl (fun wz _ => by unfold execOp; go_simp) ?_
   refine zz0v (.int .u64 c') rfl (fun wz _ => by unfold execOp; go_simp) ?_
   unfold wpPure;go_simp;refine zz0n 18 (L' := (zb 21 524287)) zk zk rfl rfl ?_;go_wp2_with fail;refine zQs (hy) ?_;refine zz0n 19 (L' := (zb 21 1048575)) zk zk rfl rfl ?_;go_wp2_with fail;rw [zz1a];have HY2 : Hid ((wr.drew.setCell ⟨g, k, none⟩ (.int .u64 s)).cell? ⟨w.heap.size, k, none⟩ = some (.int .u64 y)) := by
    have e : (wr.drew.setCell ⟨g, k, none⟩ (.int .u64 s)).heap[w.heap.size]? = wr.heap[w.heap.size]? := zz09 rfl _ _ (Ne.symm hne);have h1 := hy;unfold World.cell? at h1;show World.cell? _ _ = _;unfold World.cell?;rw [e]; exact h1
   refine ⟨HY2.out, ?_⟩;refine zz0n 20 (L' := (zb 21 2097151)) zk zk rfl rfl ?_;go_wp2_with fail;refine zQs (HY2.out) ?_;refine ⟨by kernel_rfl, ?_⟩
   rw [zz1b];clear HY2 hx hy q f0;go_wp2_with fail;go_roundw
   case rel => exact ⟨k + 1, by omega, by rw [HC.out], by go_num, by rw [← HS.out]; exact zz0b H0.out _ _, zz09 H1.out _ _ (Ne.symm hne), zz8s HB.out 1 _ _⟩
   case measure => simp [intOf]; omega
theorem zz1z (x : Int) : 0 ≤ x % 18446744073709551616 ∧ x % 18446744073709551616 < M := by unfold M; omega
theorem acW_sum {V a b c d e f : Int} (hV : Ok V) (h0 : w0 V = a) (h1 : w1 V = b) (h2 : w2 V = c) (hd : 0 ≤ d ∧ d < M) (he : 0 ≤ e ∧ e < M) (hf : 0 ≤ f ∧ f < M) :
  acW a b c d e f 3 = sumA ((V + (d + e * M + f * (M * M))) % M3) := by
 obtain ⟨ha, hb, hc⟩ := w_ok hV;have hv := w_back hV;rw [h0] at ha; rw [h1] at hb; rw [h2] at hc;rw [h0, h1, h2] at hv;have h := add_words ha hb hc hd he hf;rw [hv] at h;obtain ⟨e0, e1, e2, _⟩ := w_of (V := (V + (d + e * M + f * (M * M))) % M3) (zz1z _) (zz1z _) (zz1z _) h;unfold sumA;rw [e0, e1, e2]
 rfl
theorem ngW_sum (W : Int) (h : 0 ≤ W ∧ W < M * M) : ∃ d e f : Int, (0 ≤ d ∧ d < M) ∧ (0 ≤ e ∧ e < M) ∧ (0 ≤ f ∧ f < M) ∧
  ngW (W % 18446744073709551616) (W / 18446744073709551616) 0 (18446744073709551615 - W % 18446744073709551616) (18446744073709551615 - W / 18446744073709551616) (18446744073709551615 - 0) 3 = #[.int .u64 d, .int .u64 e, .int .u64 f] ∧ d + e * M + f * (M * M) = (M3 - W) % M3 := by
 refine ⟨_, _, _, zz1z _, zz1z _, zz1z _, rfl, ?_⟩;have := neg_words (a := W % M) (b := W / M) (c := 0) (by unfold M; omega) (by unfold M at *; omega) (by unfold M; omega)
 rw [show W % M + W / M * M + 0 * (M * M) = W by unfold M; omega] at this
 rw [this]
 rfl
theorem zz5w (w : World) (o : Obj) {w2 : World} (h : Below (w.alloc o).heap.size (w.alloc o) w2) (g : Nat) : w.grownBy w2 (some g) := by
 have h1 : Below w.heap.size w w2 := (zz01 (Below.refl _ _) (Nat.le_refl _) o).trans (h.mono (by rw [World.size_alloc]; omega))
 exact ⟨h1.os, h1.tape, h1.output, h1.size, fun k hk _ => h1.block k hk⟩
theorem zz29 {w wz : World} {g : Option Nat} (h : w.grownBy wz g) {p : Addr} (hp : w.heap.size ≤ p.block) (v : Value) : w.grownBy (wz.setCell p v) g :=
 ⟨h.os, h.tape, h.output, by simpa [World.setCell] using h.size, fun k hk hne => by
  rw [Below.heap_setCell _ _ _ _ zw];exact h.block k hk hne⟩
theorem ab_prod {a b : Int} (ha : I64 a) (hb : I64 b) : 0 ≤ ab a * ab b ∧ ab a * ab b < M * M := by
 have h1 := (zz98 ha).1;have h2 := (zz98 hb).1;have h3 : ab a ≤ 9223372036854775808 := by unfold I64 at ha; unfold ab; split <;> omega
 have h4 : ab b ≤ 9223372036854775808 := by unfold I64 at hb; unfold ab; split <;> omega
 have h5 := Int.mul_le_mul h3 h4 h2 zx;have h6 := Int.mul_nonneg h1 h2;unfold M;omega
theorem zt9 {p : Prop} (h : p := by
 have HW := zH hW;rw [hW2];clear hW hW2 hp;go_in;go_wp2_with (first
  | (go_at_call 176; with_reducible refine (qm.out _).mono ?_; rintro e w' ⟨rfl, rfl⟩)
  | (go_at_call 177; first | (with_reducible refine (qa.out _).mono ?_; rintro e w' ⟨rfl, rfl⟩) | (with_reducible refine (qb.out _).mono ?_; rintro e w' ⟨rfl, rfl⟩)))
 refine (neg_any (W % 18446744073709551616) (W / 18446744073709551616) 0 (zz1z _) ⟨by have := HP.out; omega, by have := HP.out; unfold M at *; omega⟩ (by unfold M; omega) _).mono ?_
 rintro e wz ⟨rfl, hb2⟩;obtain ⟨d, e, f, hd, he, hf, hng, hdef⟩ := ngW_sum W HP.out;rw [hng];have c0 : wz.cell? ⟨w'.heap.size, 0, none⟩ = some (.int .u64 (W % 18446744073709551616)) := zz00 (zz06 (zz02 _ _) hb2) 0 _ rfl;have c1 : wz.cell? ⟨w'.heap.size, 1, none⟩ = some (.int .u64 (W / 18446744073709551616)) := zz00 (zz06 (zz02 _ _) hb2) 1 _ rfl;have c2 : wz.cell? ⟨w'.heap.size, 2, none⟩ = some (.int .u64 0) := zz00 (zz06 (zz02 _ _) hb2) 2 _ rfl;have f0 := zz04 (zz06 (zz02 w' (.cells #[.int .u64 (W % 18446744073709551616), .int .u64 (W / 18446744073709551616), .int .u64 0] 194)) hb2) 0;have f1 := zz04 (zz06 (zz02 w' (.cells #[.int .u64 (W % 18446744073709551616), .int .u64 (W / 18446744073709551616), .int .u64 0] 194)) hb2) 1;have f2 := zz04 (zz06 (zz02 w' (.cells #[.int .u64 (W % 18446744073709551616), .int .u64 (W / 18446744073709551616), .int .u64 0] 194)) hb2) 2;have hne : ¬ g = w'.heap.size := by omega
 have HB2 := zH (zz5w w' _ hb2 g);have HS2 : Hid (SumAt wz g V) := zz06 (zz05 hS.out _) hb2;have HD := zH (And.intro hd (And.intro he (And.intro hf hdef)));clear hb2 hng hd he hf hdef hS;go_wp2_with fail;refine (zzc1 g (w0 V) (w1 V) (w2 V) d e f k0 k1 k2 HD.out.1 HD.out.2.1 HD.out.2.2.1 _ (zz09 (zz09 (zz09 HS2.out _ _ hne) _ _ hne) _ _ hne)).mono ?_;rintro e w3 ⟨rfl, h2, h3⟩;have e1 := acW_sum hV rfl rfl rfl HD.out.1 HD.out.2.1 HD.out.2.2.1;rw [e1, HD.out.2.2.2, show (V + (M3 - W) % M3) % M3 = (V + -W) % M3 by unfold M3; omega] at h2
 have H2 := zH h2;have H3 := zH h3;clear h2 h3 e1;go_wp2_with fail;go_end0;exact ⟨rfl, H2.out, zz1g (zz29 (zz29 (zz29 HB2.out (Nat.le_refl _) _) (Nat.le_refl _) _) (Nat.le_refl _) _) H3.out⟩) : p := h
theorem zt23 {p : Prop} (h : p := by
 have HW := zH hW;rw [hW2];clear hW hW2 hp;go_in;go_wp2_with (first
  | (go_at_call 176; with_reducible refine (qm.out _).mono ?_; rintro e w' ⟨rfl, rfl⟩)
  | (go_at_call 177; first | (with_reducible refine (qa.out _).mono ?_; rintro e w' ⟨rfl, rfl⟩) | (with_reducible refine (qb.out _).mono ?_; rintro e w' ⟨rfl, rfl⟩)))
 refine (zzc1 g (w0 V) (w1 V) (w2 V) (W % 18446744073709551616) (W / 18446744073709551616) 0 k0 k1 k2 (zz1z _) ⟨by have := HP.out; omega, by have := HP.out; unfold M at *; omega⟩ (by unfold M; omega) _ (zz05 hS.out _)).mono ?_
 rintro e wz ⟨rfl, h2, h3⟩;have e1 := acW_sum hV rfl rfl rfl (zz1z W) (e := W / 18446744073709551616) (f := 0) ⟨by have := HP.out; omega, by have := HP.out; unfold M at *; omega⟩ (by unfold M; omega)
 rw [e1, show W % 18446744073709551616 + W / 18446744073709551616 * M + 0 * (M * M) = W by unfold M; omega] at h2
 have H2 := zH h2;have H3 := zH h3;clear h2 h3 e1;go_wp2_with fail;go_end0;exact ⟨rfl, H2.out, zz1g (zz4o (World.grownBy.refl _ _) _) H3.out⟩) : p := h
theorem zz0s (g : Nat) (V a b : Int) (hV : Ok V) (ha : I64 a) (hb : I64 b) (w : World) (hS : Hid (SumAt w g V)) :
  Calls Tryz.prog 145 #[.pointer (some ⟨g, 0, none⟩), .int .i64 a, .int .i64 b] w fun r w' =>
   r = .returned (.tuple #[]) ∧ SumAt w' g ((V + a * b) % M3) ∧ w.grownBy w' (some g) := by
 have hglt : g < w.heap.size := zL hS.out;have hp := ab_prod ha hb;have qa := zH (fun w => zzai a ha w)
 have qb := zH (fun w => zzai b hb w)
 have qm := zH (fun w => mul64 (ab a) (ab b) (zz98 ha) (zz98 hb) w)
 obtain ⟨W, hW⟩ : ∃ W : Int, ab a * ab b = W := ⟨_, rfl⟩;rw [hW] at hp qm;have HP := zH hp;obtain ⟨k0, k1, k2⟩ := w_ok hV;by_cases h1 : a < 0
 ·by_cases h2 : b < 0
  ·skip
   have d1 : decide (a < 0) = true := decide_eq_true h1;have d2 : decide (b < 0) = true := decide_eq_true h2;have hW2 : a * b = W := by rw [← hW]; unfold ab; rw [if_pos h1, if_pos h2]; exact (Int.neg_mul_neg a b).symm
   exact zt23
  ·skip
   have d1 : decide (a < 0) = true := decide_eq_true h1;have d2 : decide (b < 0) = false := decide_eq_false h2;have hW2 : a * b = -W := by rw [← hW]; unfold ab; rw [if_pos h1, if_neg h2]; rw [Int.neg_mul, Int.neg_neg]
   exact zt9
 ·by_cases h2 : b < 0
  ·skip
   have d1 : decide (a < 0) = false := decide_eq_false h1;have d2 : decide (b < 0) = true := decide_eq_true h2;have hW2 : a * b = -W := by rw [← hW]; unfold ab; rw [if_neg h1, if_pos h2]; rw [Int.mul_neg, Int.neg_neg]
   exact zt9
  ·skip
   have d1 : decide (a < 0) = false := decide_eq_false h1;have d2 : decide (b < 0) = false := decide_eq_false h2;have hW2 : a * b = W := by rw [← hW]; unfold ab; rw [if_neg h1, if_neg h2]
   exact zt23
theorem zz5l (g : Nat) (V a : Int) (hV : Ok V) (ha : I64 a) (w : World) (hS : Hid (SumAt w g V)) :
  Calls Tryz.prog 149 #[.pointer (some ⟨g, 0, none⟩), .int .i64 a] w fun r w' =>
   r = .returned (.tuple #[]) ∧ SumAt w' g ((V + a) % M3) ∧ w.grownBy w' (some g) := by
 go_in;go_wp2_with fail;refine (zz0s g V a 1 hV ha (by unfold I64; omega) w hS).mono ?_
 rintro e w2 ⟨rfl, h2, h3⟩;rw [Int.mul_one] at h2;have H2 := zH h2;have H3 := zH h3;clear h2 h3;go_wp2_with fail;go_end0;exact ⟨rfl, H2.out, H3.out⟩
theorem total_in {V : Int} (h : -9223372036854775808 ≤ sg V ∧ sg V ≤ 9223372036854775807) : total V = (sg V, true) := by
 unfold total fits; rw [if_pos (by simp [h])]
theorem total_out {V : Int} (h : ¬ (-9223372036854775808 ≤ sg V ∧ sg V ≤ 9223372036854775807)) : total V = (0, false) := by
 unfold total fits; rw [if_neg (by simpa using h)]
theorem zt57 {p : Prop} (h : p := by
 clear K' hs2 hv2 hn3 e1;go_in;go_wp2;go_ret2;exact ⟨by rw [E1.out]; first | rfl | (rw [← hn]; rfl), rfl⟩) : p := h
theorem zt58 {p : Prop} (h : p := by
 have K' := K.out; have hs2 := hs'.out; have hv2 := hv'.out; have hn3 := hn2.out;unfold M at K' hv2; unfold M3 at hs2;have e0 : s = n := by omega
 have e1 := hI.out zw;rw [e0] at e1;have E1 := zH e1;subst h1;subst h2;clear K' hs2 hv2 hn3 e1 e0;go_in;go_wp2;go_ret2;exact ⟨by rw [E1.out]; first | rfl | (rw [← hn]; rfl), rfl⟩) : p := h
theorem zz3d (g : Nat) (V : Int) (hV : Ok V) (w : World) (hS : Hid (SumAt w g V)) :
  Calls Tryz.prog 146 #[.pointer (some ⟨g, 0, none⟩)] w fun r w' =>
   r = .returned (.tuple #[.int .i64 (total V).1, .bool (total V).2]) ∧ w' = w := by
 have c0 : w.cell? ⟨g, 0, none⟩ = some (.int .u64 (w0 V)) := zz00 hS.out 0 _ rfl;have c1 : w.cell? ⟨g, 1, none⟩ = some (.int .u64 (w1 V)) := zz00 hS.out 1 _ rfl;have c2 : w.cell? ⟨g, 2, none⟩ = some (.int .u64 (w2 V)) := zz00 hS.out 2 _ rfl;obtain ⟨k0, k1, k2⟩ := w_ok hV;have hv := w_back hV;have hO := zH hV;have hs : sg V = if V < 3138550867693340381917894711603833208051177722232017256448 then V else V - M3 := rfl
 obtain ⟨T, hT⟩ : ∃ T, total V = T := ⟨_, rfl⟩;have hin := @total_in V;have hout := @total_out V;rw [hT] at hin hout ⊢;obtain ⟨s, hsV⟩ : ∃ s, sg V = s := ⟨_, rfl⟩;rw [hsV] at hs hin hout;obtain ⟨a, hA⟩ : ∃ a, w0 V = a := ⟨_, rfl⟩;obtain ⟨b, hB⟩ : ∃ b, w1 V = b := ⟨_, rfl⟩;obtain ⟨c, hC⟩ : ∃ c, w2 V = c := ⟨_, rfl⟩;rw [hA] at c0 k0 hv;rw [hB] at c1 k1 hv;rw [hC] at c2 k2 hv;obtain ⟨n, hn⟩ : ∃ n, wrap64 a = n := ⟨_, rfl⟩;have hn' : n = if a < 9223372036854775808 then a else a - 18446744073709551616 := by rw [← hn]; unfold M at k0; unfold wrap64; split <;> omega
 have hI := zH hin; have hO2 := zH hout; have hs' := zH hs; have hv' := zH hv; have hn2 := zH hn';have K := zH (And.intro k0 (And.intro k1 k2));clear hin hout hs hv hn' hT hsV hA hB hC k0 k1 k2 hV;by_cases h0 : n < 0
 ·skip
  by_cases h1 : b = 18446744073709551615
  ·by_cases h2 : c = 18446744073709551615
   ·skip
    exact zt58
   ·skip
    have tc : (c != 18446744073709551615) = true := by simpa using h2
    have K' := K.out; have hs2 := hs'.out; have hv2 := hv'.out; have hn3 := hn2.out;unfold M at K' hv2; unfold M3 at hs2;have e1 := hO2.out zw;have E1 := zH e1;subst h1;exact zt57
  ·skip
   have tb : (b != 18446744073709551615) = true := by simpa using h1
   have K' := K.out; have hs2 := hs'.out; have hv2 := hv'.out; have hn3 := hn2.out;unfold M at K' hv2; unfold M3 at hs2;have e1 := hO2.out zw;have E1 := zH e1;exact zt57
 ·skip
  by_cases h1 : b = 0
  ·by_cases h2 : c = 0
   ·skip
    exact zt58
   ·skip
    have tc : (c != 0) = true := by simpa using h2
    have K' := K.out; have hs2 := hs'.out; have hv2 := hv'.out; have hn3 := hn2.out;unfold M at K' hv2; unfold M3 at hs2;have e1 := hO2.out zw;have E1 := zH e1;subst h1;exact zt57
  ·skip
   have tb : (b != 0) = true := by simpa using h1
   have K' := K.out; have hs2 := hs'.out; have hv2 := hv'.out; have hn3 := hn2.out;unfold M at K' hv2; unfold M3 at hs2;have e1 := hO2.out zw;have E1 := zH e1;exact zt57
end
end Go.Proofs.YtajogedbacpohaaGreatDoor
