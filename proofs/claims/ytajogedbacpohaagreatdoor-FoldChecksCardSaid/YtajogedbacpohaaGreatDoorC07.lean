/- Part 8 of what the claim rests on. -/
import Derived.Test.YtajogedbacpohaaGreatDoorC00
import Derived.Test.YtajogedbacpohaaGreatDoorC06
set_option linter.unusedVariables false
set_option linter.unusedSimpArgs false
set_option maxRecDepth 1000000
set_option maxHeartbeats 32000000
namespace Go.Proofs.YtajogedbacpohaaGreatDoor
section
open Go Go.RowKit Bg
def sgn (s : Bool) (n : Nat) : Int := if s then -(n : Int) else n
def sliceLen : Option Value → Nat
 | some (.slice _ m _) => m
 | _ => 0
theorem big_of {w : World} {A : Option Addr} {m c n : Nat} {f : Nat → Nat} {s t : Bool} (hf : Dg f n) (hm : m ≤ n) (hz : ∀ i, m ≤ i → f i = 0) (htop : m = 0 ∨ f (m - 1) ≠ 0) (hd : DigAt w A n f) (hc : m ≤ c)
  (ht : t = if m = 0 then false else s) : BigAt w (.agg #[.bool t, .slice A m c]) (sgn s (pv f n)) := by
 have hcan : Canon (cut f m) m := ⟨dg_cut hf, by
  rcases htop with h | h
  ·exact .inl h
  ·refine .inr ?_
   unfold cut;by_cases e : m = 0
   ·subst e; simp at h; exact absurd (hz 0 (Nat.le_refl _)) h
   ·rw [if_pos zw]; exact h⟩
 have hv : pv f n = pv (cut f m) m := by rw [pv_cut, zz26 hz n hm]
 refine ⟨A, m, c, cut f m, ?_, hcan, ?_, fun i hi => ?_, hc⟩
 ·have e : decide (sgn s (pv f n) < 0) = t := by
   rw [ht];by_cases h0 : m = 0
   ·rw [if_pos h0]
    have : pv f n = 0 := by rw [hv, h0]; rfl
    rw [this]; unfold sgn; cases s <;> rfl
   ·rw [if_neg h0]
    have h1 : ¬ pv (cut f m) m = 0 := fun h => h0 ((canon_pos hcan).1 h)
    rw [← hv] at h1;unfold sgn;cases s
    ·simp
    ·simp; omega
  rw [e]
 ·rw [← hv]; unfold sgn; cases s <;> simp
 ·have := hd i zw
  unfold cut;rw [if_pos hi]; exact this
theorem zz1w (s : Bool) (A : Option Addr) (n c : Nat) (f : Nat → Nat) (w : World) (hA : Hid (DigAt w A n f)) (hf : Hid (Dg f n)) (hn : n ≤ 1000000) (hc : n ≤ c) :
  Calls Tryz.prog 159 #[.agg #[.bool s, .slice A n c]] w fun e w' => (∃ v, e = .returned v ∧ BigAt w' v (sgn s (pv f n))) ∧ Below w.heap.size w w' := by
 go_in;go_wp2_with fail;go_loopw [] (fun wr => ∃ m : Nat, m ≤ n ∧ ZB wr w.heap.size #[.bool s, .slice A m c] 143 ∧ ZB wr (w.heap.size + 1) #[.bool false, .slice none 0 0] 143 ∧
  Hid (∀ i, m ≤ i → f i = 0) ∧ Hid (Below w.heap.size w wr)) (fun wr => sliceLen (wr.cell? ⟨w.heap.size, 1, none⟩))
 case atStart =>
  refine ⟨n, Nat.le_refl _, zz05 (zz02 _ _) _, ?_, hf.out.zero, zz01 zBa (by rw [World.size_alloc]; omega) _⟩
  have := zz02 (w.alloc (.cells #[.bool s, .slice A n c] 143)) (.cells #[.bool false, .slice none 0 0] 143);rw [World.size_alloc] at this;exact this
 case round =>
  obtain ⟨m, hm, H0, H1, HZ, HB⟩ := hrel;have c1 : wr.cell? ⟨w.heap.size, 1, none⟩ = some (.slice A m c) := zz00 H0.out 1 _ rfl;have f1 := zz04 H0.out 1;have c0 : wr.cell? ⟨w.heap.size, 0, none⟩ = some (.bool s) := zz00 H0.out 0 _ rfl;have f0 := zz04 H0.out 0;have d0 : wr.cell? ⟨w.heap.size + 1, 0, none⟩ = some (.bool false) := zz00 H1.out 0 _ rfl;have d1 : wr.cell? ⟨w.heap.size + 1, 1, none⟩ = some (.slice none 0 0) := zz00 H1.out 1 _ rfl;have g0 := zz04 H1.out 0;have g1 := zz04 H1.out 1;by_cases hm0 : m = 0
  ·subst hm0
   go_wp2_with fail;refine bodyPost_ret (v := .agg #[.bool false, .slice A 0 c]) ?_ rfl ⟨⟨_, rfl, ?_⟩, ?_⟩
   ·simp [results, Tryz.results159, go_sem, d0, d1]
   ·have hb2 : Below w.heap.size w (((wr.setCell ⟨w.heap.size, 0, none⟩ (.bool false)).setCell ⟨w.heap.size + 1, 0, none⟩ (.bool false)).setCell ⟨w.heap.size + 1, 1, none⟩ (.slice A 0 c)) := ((HB.out.setCell (Nat.le_refl _) _).setCell (Nat.le_succ _) _).setCell (Nat.le_succ _) _
    exact big_of hf.out (Nat.zero_le _) HZ.out (.inl rfl) (hA.out.call hb2) (Nat.zero_le _) rfl
   ·exact ((HB.out.setCell (Nat.le_refl _) _).setCell (Nat.le_succ _) _).setCell (Nat.le_succ _) _
  ·obtain ⟨k, rfl⟩ : ∃ k, m = k + 1 := ⟨m - 1, by omega⟩
   obtain ⟨b, o, rfl, hlt, hck⟩ := hA.out k zw;have ck := (HB.out.cell (p := ⟨b, o + k, none⟩) hlt).trans hck;have hbr : b < wr.heap.size := Nat.lt_of_lt_of_le hlt HB.out.size;have ek : ((k + 1 : Nat) : Int) - 1 = (k : Int) := by omega
   by_cases hfk : f k = 0
   ·have t1 : (((f k : Nat) : Int) == 0) = true := by simp [hfk]
    have HZ2 : Hid (∀ i, k ≤ i → f i = 0) := fun i hi => by
     by_cases e : i = k
     ·rw [e]; exact hfk
     ·exact HZ.out i zw
    go_wp2_with fail;go_roundw
    case rel => exact ⟨k, by omega, zz0b H0.out _ _, zz09 H1.out _ _ zw, HZ2.out, HB.out.setCell (Nat.le_refl _) _⟩
    case measure => rw [World.cell?_setCell_same _ _ _ c1, c1]; exact Nat.lt_succ_self k
   ·have t1 : (((f k : Nat) : Int) == 0) = false := by simp; omega
    go_wp2_with fail;refine bodyPost_ret (v := .agg #[.bool s, .slice (some ⟨b, o, none⟩) (k + 1) c]) ?_ rfl ⟨⟨_, rfl, ?_⟩, ?_⟩
    ·simp [results, Tryz.results159, go_sem, d0, d1]
    ·have hb2 : Below w.heap.size w ((wr.setCell ⟨w.heap.size + 1, 0, none⟩ (.bool s)).setCell ⟨w.heap.size + 1, 1, none⟩ (.slice (some ⟨b, o, none⟩) (k + 1) c)) := (HB.out.setCell (Nat.le_succ _) _).setCell (Nat.le_succ _) _
     exact big_of hf.out hm HZ.out (.inr hfk) (hA.out.call hb2) zw (by rw [if_neg zw])
    ·exact (HB.out.setCell (Nat.le_succ _) _).setCell (Nat.le_succ _) _
theorem el_int : Elt Tryz.prog 141 3 (.int .i64 0) 1 8 := Elt.mk' Tryz.underlying141 zk rfl zx
theorem zz0w {w : World} {B : Nat} {v : Value} {ds : List Nat} (h : w.ownsRow B 3 1 v ds.length (ds.map fun d => .int .i64 (d : Nat))) : ∃ A c, v = .slice A ds.length c ∧ DigAt w A ds.length (dg ds) ∧ ds.length ≤ c ∧ c ≤ maxLen ∧ (∀ a, A = some a → B ≤ a.block) := by
 rcases h.2 with ⟨rfl, hn⟩ | ⟨g, cap, cur, rfl, hb, hg, hnc, hcm, hcs, htk⟩
 ·rw [hn]; exact ⟨none, 0, rfl, fun i hi => by omega, Nat.le_refl _, Nat.zero_le _, fun a ha => by cases ha⟩
 ·refine ⟨some ⟨g, 0, none⟩, cap, rfl, fun i hi => ⟨g, 0, rfl, (zL hg), ?_⟩, hnc, hcm, fun a ha => by cases ha; exact hb⟩
  rw [cell_of_row w g (0 + i) cur _ _ hg, Nat.zero_add];have h1 : (cur.toList.take (ds.length * 1))[i]? = some (.int .i64 (dg ds i : Nat)) := by
   rw [htk, List.getElem?_map, List.getElem?_eq_getElem hi];unfold dg; simp [List.getD, hi]
  rw [List.getElem?_take] at h1;rw [if_pos zw] at h1;simpa using h1
theorem zzb3 {n q N : Nat} (h : 1 ≤ q) (hN : N ≤ 9223372036854775808) (he : q * 10000 ^ n ≤ N) : n ≤ 4 := by
 by_cases hn : n ≤ 4
 ·exact hn
 ·have h1 : 10000 ^ 5 ≤ 10000 ^ n := Nat.pow_le_pow_right zx zw
  have h2 : 1 * 10000 ^ n ≤ q * 10000 ^ n := Nat.mul_le_mul_right _ h;have h3 : (10000 : Nat) ^ 5 = 100000000000000000000 := by decide
  omega
structure OfInv (N : Nat) (ds : List Nat) (q : Nat) : Prop where
 lt : ∀ d ∈ ds, d < 10000
 val : vl ds + q * 10000 ^ ds.length = N
 top : q = 0 → ds.length = 0 ∨ dg ds (ds.length - 1) ≠ 0
theorem OfInv.step {N : Nat} {ds : List Nat} {q : Nat} (h : OfInv N ds q) (hq : q ≠ 0) : OfInv N (ds ++ [q % 10000]) (q / 10000) := by
 refine ⟨fun d hd => ?_, ?_, fun h0 => .inr ?_⟩
 ·rcases List.mem_append.1 hd with h1 | h1
  ·exact h.lt d h1
  ·simp at h1; omega
 ·rw [zz3y, List.length_append, ← h.val]
  show vl ds + q % 10000 * 10000 ^ ds.length + q / 10000 * 10000 ^ (ds.length + 1) = _;rw [Nat.pow_succ];have h1 := Nat.div_add_mod q 10000;generalize q % 10000 = m at *;generalize q / 10000 = d at *;rw [← h1]
  grind
 ·rw [List.length_append]
  show dg _ (ds.length + 1 - 1) ≠ 0;rw [Nat.add_sub_cancel, zz4s];omega
theorem zt12 {p : Prop} (h : p := by
 have K1 := zz00 ((hb4.block (w.heap.size + 1) zw).trans H1.out) 1 v rfl;have L1 := zz04 ((hb4.block (w.heap.size + 1) zw).trans H1.out) 1;have H0b := zH ((hb4.block w.heap.size zw).trans H0.out);have H1b := zH ((hb4.block (w.heap.size + 1) zw).trans H1.out);have HBb := zH (HB.out.trans (hb4.mono (show w.heap.size ≤ w.heap.size + 2 by omega)))
 have HBz := zH hb4.size;clear hb4 HR H0 H1 HB;go_wp2_with fail;go_roundw
 case rel => exact ⟨ds ++ [m], d, _, rfl, hstep.out, zz09 H0b.out _ _ zw, zz0b H1b.out _ _, by rw [show (ds ++ [m]).length = ds.length + 1 by simp] at hown4 ⊢; exact ownsRow_setCell_below hown4.out (a := ⟨w.heap.size + 1, 1, none⟩) (Nat.lt_succ_self _) _, HBb.out.setCell (Nat.le_succ _) _, by show _ ≤ _; simpa [World.setCell] using hB4⟩
 case measure => simp [intOf]; omega) : p := h
theorem zt91 {p : Prop} (h : p := by
 injection hs' with hA' _ _
 subst hA';exact ⟨A, ds.length, c, dg ds, by rw [e1], ⟨dg_dg HI.out.lt, HI.out.top rfl⟩, hv.trans hN.symm, hd', hlc⟩) : p := h
theorem zz3f (n : Int) (h : I64 n) (w : World) :
  Calls Tryz.prog 103 #[.int .i64 n] w fun e w' => (∃ v, e = .returned v ∧ BigAt w' v n) ∧ Below w.heap.size w w' := by
 unfold I64 at h;obtain ⟨N, hN⟩ : ∃ N, n.natAbs = N := ⟨_, rfl⟩;have hN2 : N ≤ 9223372036854775808 := by omega
 by_cases hs : n < 0
 ·have e1 : decide (n < 0) = true := decide_eq_true hs
  go_in;go_wp2_with fail;go_loopw [0, 4] (fun s0 s4 wr => ∃ (ds : List Nat) (q : Nat) (v : Value), s0 = .int .i64 (-(q : Int)) ∧ Hid (OfInv N ds q) ∧ ZB wr w.heap.size #[.bool false, .slice none 0 0] 143 ∧
   ZB wr (w.heap.size + 1) #[.bool true, v] 143 ∧ Hid (wr.ownsRow (w.heap.size + 2) 3 1 v ds.length (ds.map fun d => .int .i64 (d : Nat))) ∧ Hid (Below w.heap.size w wr) ∧ Hid (w.heap.size + 2 ≤ wr.heap.size)) (fun s0 _ _ => (intOf s0).natAbs)
  case atStart =>
   refine ⟨[], N, .slice none 0 0, ?_, ⟨fun d hd => by simp at hd, by rw [vl_nil]; simp, fun _ => .inl rfl⟩, zz05 (zz02 _ _) _, ?_, World.ownsRow_nil _ _ _ _, zz01 zBa (by rw [World.size_alloc]; omega) _, by show _ ≤ _; simp⟩
   ·congr 1; omega
   ·have := zz02 (w.alloc (.cells #[.bool false, .slice none 0 0] 143)) (.cells #[.bool true, .slice none 0 0] 143)
    rw [World.size_alloc] at this;exact this
  case round =>
   obtain ⟨ds, q, v, rfl, HI, H0, H1, HR, HB, HSZ⟩ := hrel;have c0 : wr.cell? ⟨w.heap.size + 1, 0, none⟩ = some (.bool true) := zz00 H1.out 0 _ rfl;have c1 : wr.cell? ⟨w.heap.size + 1, 1, none⟩ = some v := zz00 H1.out 1 _ rfl;have f0 := zz04 H1.out 0;have f1 := zz04 H1.out 1;have d0 : wr.cell? ⟨w.heap.size, 0, none⟩ = some (.bool false) := zz00 H0.out 0 _ rfl;have d1 : wr.cell? ⟨w.heap.size, 1, none⟩ = some (.slice none 0 0) := zz00 H0.out 1 _ rfl;have g0 := zz04 H0.out 0;have g1 := zz04 H0.out 1;by_cases hq : q = 0
   ·subst hq
    have t1 : (((0 : Nat) : Int) != 0) = false := rfl;obtain ⟨A, c, rfl, hd, hlc, _, hAB⟩ := zz0w HR.out;go_wp2_with fail;refine bodyPost_ret (v := .agg #[.bool true, .slice A ds.length c]) ?_ rfl ⟨⟨_, rfl, ?_⟩, ?_⟩
    ·simp [results, Tryz.results103, go_sem, d0, d1]
    ·have hv := HI.out.val
     rw [Nat.zero_mul, Nat.add_zero] at hv;obtain ⟨A', c', hs', hd', _, _, _⟩ := zz0w (ownsRow_setCell_below (ownsRow_setCell_below HR.out (a := ⟨w.heap.size, 0, none⟩) (by show w.heap.size < _; omega) (.bool true)) (a := ⟨w.heap.size, 1, none⟩) (by show w.heap.size < _; omega) (.slice A ds.length c))
     exact zt91
    ·exact (HB.out.setCell (Nat.le_refl _) _).setCell (Nat.le_refl _) _
   ·have t1 : ((-(q : Int)) != 0) = true := by simp; omega
    have e2 : (-(q : Int)).tmod 10000 = -((q % 10000 : Nat) : Int) := by rw [Int.neg_tmod, Int.tmod_eq_emod_of_nonneg zw]; omega
    have e3 : (-(q : Int)).tdiv 10000 = -((q / 10000 : Nat) : Int) := by rw [Int.neg_tdiv, Int.tdiv_eq_ediv_of_nonneg zw]; omega
    have hl := zzb3 (n := ds.length) (show 1 ≤ q by omega) hN2 (by have := HI.out.val; omega)
    have hB2 : Hid (w.heap.size + 2 ≤ wr.heap.size) := HSZ.out;have hstep := zH (HI.out.step hq);obtain ⟨m, hm⟩ : ∃ m, q % 10000 = m := ⟨_, rfl⟩;obtain ⟨d, hd⟩ : ∃ d, q / 10000 = d := ⟨_, rfl⟩;rw [hm] at hstep e2;rw [hd] at hstep e3;have hm1 : m < 10000 := by omega
    have hdq : d < q := by omega
    have hqN : q ≤ N := by have h1 := HI.out.val; have h2 : q * 1 ≤ q * 10000 ^ ds.length := Nat.mul_le_mul_left _ (Nat.pow_pos zx); omega
    have hd9 : d ≤ 922337203685478 := by omega
    have e5 : wrap64 (-(d : Int)) = -(d : Int) := by unfold wrap64; omega
    clear hm hd;by_cases hm0 : m = 0
    ·have e4 : (-(q : Int)).tmod 10000 = (m : Int) := by rw [e2]; omega
     have u1 : ¬ ((m : Int) < 0) := by omega
     clear e2 hm0;go_wp2_with (at_builtin; refine zz0j _ _ _ _ _ _ el_int (fun d : Nat => Value.int .i64 (d : Int)) m _ _ _ (Below.refl _ wr) HR hB2.out rfl rfl rfl rfl rfl zw zx ?_; intro v4 w4 hown4 hb4 hB4; refine Hid.out ?_)
     refine zH ?_;obtain ⟨A4, c4, rfl, _, _, _, _⟩ := zz0w (ds := ds ++ [m]) (by rw [List.length_append]; exact hown4.out)
     have K0 := zz00 ((hb4.block (w.heap.size + 1) zw).trans H1.out) 0 (.bool true) rfl;exact zt12
    ·have u1 : (-((m : Nat) : Int) < 0) := by omega
     go_wp2_with (at_builtin; refine zz0j _ _ _ _ _ _ el_int (fun d : Nat => Value.int .i64 (d : Int)) m _ _ _ (Below.refl _ wr) HR hB2.out rfl rfl rfl rfl rfl zw zx ?_; intro v4 w4 hown4 hb4 hB4; refine Hid.out ?_)
     refine zH ?_;obtain ⟨A4, c4, rfl, _, _, _, _⟩ := zz0w (ds := ds ++ [m]) (by rw [List.length_append]; exact hown4.out)
     have K0 := zz00 ((hb4.block (w.heap.size + 1) zw).trans H1.out) 0 (.bool true) rfl;exact zt12
 ·have e1 : decide (n < 0) = false := decide_eq_false hs
  go_in;go_wp2_with fail;go_loopw [0, 4] (fun s0 s4 wr => ∃ (ds : List Nat) (q : Nat) (v : Value), s0 = .int .i64 ((q : Int)) ∧ Hid (OfInv N ds q) ∧ ZB wr w.heap.size #[.bool false, .slice none 0 0] 143 ∧
   ZB wr (w.heap.size + 1) #[.bool false, v] 143 ∧ Hid (wr.ownsRow (w.heap.size + 2) 3 1 v ds.length (ds.map fun d => .int .i64 (d : Nat))) ∧ Hid (Below w.heap.size w wr) ∧ Hid (w.heap.size + 2 ≤ wr.heap.size)) (fun s0 _ _ => (intOf s0).natAbs)
  case atStart =>
   refine ⟨[], N, .slice none 0 0, ?_, ⟨fun d hd => by simp at hd, by rw [vl_nil]; simp, fun _ => .inl rfl⟩, zz05 (zz02 _ _) _, ?_, World.ownsRow_nil _ _ _ _, zz01 zBa (by rw [World.size_alloc]; omega) _, by show _ ≤ _; simp⟩
   ·congr 1; omega
   ·have := zz02 (w.alloc (.cells #[.bool false, .slice none 0 0] 143)) (.cells #[.bool false, .slice none 0 0] 143)
    rw [World.size_alloc] at this;exact this
  case round =>
   obtain ⟨ds, q, v, rfl, HI, H0, H1, HR, HB, HSZ⟩ := hrel;have c0 : wr.cell? ⟨w.heap.size + 1, 0, none⟩ = some (.bool false) := zz00 H1.out 0 _ rfl;have c1 : wr.cell? ⟨w.heap.size + 1, 1, none⟩ = some v := zz00 H1.out 1 _ rfl;have f0 := zz04 H1.out 0;have f1 := zz04 H1.out 1;have d0 : wr.cell? ⟨w.heap.size, 0, none⟩ = some (.bool false) := zz00 H0.out 0 _ rfl;have d1 : wr.cell? ⟨w.heap.size, 1, none⟩ = some (.slice none 0 0) := zz00 H0.out 1 _ rfl;have g0 := zz04 H0.out 0;have g1 := zz04 H0.out 1;by_cases hq : q = 0
   ·subst hq
    have t1 : (((0 : Nat) : Int) != 0) = false := rfl;obtain ⟨A, c, rfl, hd, hlc, _, hAB⟩ := zz0w HR.out;go_wp2_with fail;refine bodyPost_ret (v := .agg #[.bool false, .slice A ds.length c]) ?_ rfl ⟨⟨_, rfl, ?_⟩, ?_⟩
    ·simp [results, Tryz.results103, go_sem, d0, d1]
    ·have hv := HI.out.val
     rw [Nat.zero_mul, Nat.add_zero] at hv;obtain ⟨A', c', hs', hd', _, _, _⟩ := zz0w (ownsRow_setCell_below (ownsRow_setCell_below HR.out (a := ⟨w.heap.size, 0, none⟩) (by show w.heap.size < _; omega) (.bool false)) (a := ⟨w.heap.size, 1, none⟩) (by show w.heap.size < _; omega) (.slice A ds.length c))
     exact zt91
    ·exact (HB.out.setCell (Nat.le_refl _) _).setCell (Nat.le_refl _) _
   ·have t1 : (((q : Int)) != 0) = true := by simp; omega
    have e2 : (q : Int).tmod 10000 = ((q % 10000 : Nat) : Int) := by rw [Int.tmod_eq_emod_of_nonneg zw]; omega
    have e3 : (q : Int).tdiv 10000 = ((q / 10000 : Nat) : Int) := by rw [Int.tdiv_eq_ediv_of_nonneg zw]; omega
    have hl := zzb3 (n := ds.length) (show 1 ≤ q by omega) hN2 (by have := HI.out.val; omega)
    have hB2 : Hid (w.heap.size + 2 ≤ wr.heap.size) := HSZ.out;have hstep := zH (HI.out.step hq);obtain ⟨m, hm⟩ : ∃ m, q % 10000 = m := ⟨_, rfl⟩;obtain ⟨d, hd⟩ : ∃ d, q / 10000 = d := ⟨_, rfl⟩;rw [hm] at hstep e2;rw [hd] at hstep e3;have hm1 : m < 10000 := by omega
    have hdq : d < q := by omega
    have hqN : q ≤ N := by have h1 := HI.out.val; have h2 : q * 1 ≤ q * 10000 ^ ds.length := Nat.mul_le_mul_left _ (Nat.pow_pos zx); omega
    have hd9 : d ≤ 922337203685478 := by omega
    have e5 : wrap64 (d : Int) = (d : Int) := by unfold wrap64; omega
    clear hm hd;go_wp2_with (at_builtin; refine zz0j _ _ _ _ _ _ el_int (fun d : Nat => Value.int .i64 (d : Int)) m _ _ _ (Below.refl _ wr) HR hB2.out rfl rfl rfl rfl rfl zw zx ?_; intro v4 w4 hown4 hb4 hB4; refine Hid.out ?_)
    refine zH ?_;obtain ⟨A4, c4, rfl, _, _, _, _⟩ := zz0w (ds := ds ++ [m]) (by rw [List.length_append]; exact hown4.out)
    have K0 := zz00 ((hb4.block (w.heap.size + 1) zw).trans H1.out) 0 (.bool false) rfl;exact zt12
theorem zz0r {P : Program} {f : FuncId} {args : Array Value} {w : World} {n : Nat} {v : Value}
  (h : Calls P f args (w.drewN n) fun e w' => e = .returned v ∧ w.drewN n = w') : Calls P f args (w.drewN n) fun e w'' => e = .returned v ∧ ∃ m, w'' = w.drewN m :=
 h.mono fun _ _ ⟨he, hb⟩ => ⟨he, n, hb.symm⟩
def BigBlk (w : World) (p : Nat) (s : Bool) (v : Value) : Prop := w.heap[p]? = some (.cells #[.bool s, v] 143 (0, 0))
theorem BigBlk.lt {w : World} {p : Nat} {s : Bool} {v : Value} (h : BigBlk w p s v) : p < w.heap.size := zL h
theorem BigBlk.c0 {w : World} {p : Nat} {s : Bool} {v : Value} (h : BigBlk w p s v) : w.cell? ⟨p, 0, none⟩ = some (.bool s) := zz00 h 0 _ rfl
theorem BigBlk.c1 {w : World} {p : Nat} {s : Bool} {v : Value} (h : BigBlk w p s v) : w.cell? ⟨p, 1, none⟩ = some v := zz00 h 1 _ rfl
theorem BigBlk.z {w : World} {p : Nat} {s : Bool} {v : Value} (h : BigBlk w p s v) (i : Nat) : w.frozen? ⟨p, i, none⟩ = false := zz04 h i
theorem BigBlk.set0 {w : World} {p : Nat} {s : Bool} {v : Value} (h : BigBlk w p s v) (t : Bool) : BigBlk (w.setCell ⟨p, 0, none⟩ (.bool t)) p t v := zz0b h 0 _
theorem BigBlk.set1 {w : World} {p : Nat} {s : Bool} {v : Value} (h : BigBlk w p s v) (u : Value) : BigBlk (w.setCell ⟨p, 1, none⟩ u) p s u := zz0b h 1 _
theorem BigBlk.oth {w : World} {p : Nat} {s : Bool} {v : Value} (h : BigBlk w p s v) {q : Nat} (i : Nat) (u : Value) (hne : p ≠ q) : BigBlk (w.setCell ⟨q, i, none⟩ u) p s v := zz09 h i u hne
theorem BigBlk.alloc {w : World} {p : Nat} {s : Bool} {v : Value} (h : BigBlk w p s v) (o : Obj) : BigBlk (w.alloc o) p s v := zz05 h o
theorem BigBlk.call {w w' : World} {p : Nat} {s : Bool} {v : Value} (h : BigBlk w p s v) (hb : Below w.heap.size w w') : BigBlk w' p s v := zz06 h hb
theorem BigBlk.below {w w' : World} {p B : Nat} {s : Bool} {v : Value} (h : BigBlk w p s v) (hb : Below B w w') (hp : p < B) : BigBlk w' p s v := (hb.block p hp).trans h
theorem BigBlk.mk (w : World) (p : Nat) (s : Bool) (v : Value) (hp : w.heap.size = p) : BigBlk (w.alloc (.cells #[.bool s, v] 143)) p s v := by subst hp; exact zz02 _ _
theorem DigAt.set {w : World} {A a : Option Addr} {n p l c : Nat} {f : Nat → Nat} {s : Bool} (h : DigAt w A n f) (hp : BigBlk w p s (.slice a l c)) (j : Nat) (u : Value) : DigAt (w.setCell ⟨p, j, none⟩ u) A n f := fun i hi => by
 obtain ⟨b, o, e, hlt, hc⟩ := h i hi;have hne : b ≠ p := fun hbp => by
  subst hbp;rw [cell_of_row w b (o + i) _ _ _ hp] at hc
  match o + i, hc with
  | 0, hc => cases hc
  | 1, hc => cases hc
  | k + 2, hc => cases hc
 refine ⟨b, o, e, by simpa [World.setCell] using hlt, ?_⟩
 rw [World.cell?_setCell_other _ _ _ _ (by intro h; simp only [Addr.mk.injEq] at h; exact hne h.1.symm), hc]
theorem BigAt.form {w : World} {v : Value} {z : Int} (h : BigAt w v z) : ∃ t A n c, v = .agg #[.bool t, .slice A n c] := by
 obtain ⟨A, n, c, f, e, _⟩ := h;exact ⟨_, A, n, c, e⟩
theorem BigAt.set {w : World} {v : Value} {z : Int} {a : Option Addr} {p l c : Nat} {s : Bool} (h : BigAt w v z) (hp : BigBlk w p s (.slice a l c)) (j : Nat) (u : Value) : BigAt (w.setCell ⟨p, j, none⟩ u) v z := by
 obtain ⟨A, n, c', f, e, hc, hv, hd, hn⟩ := h;exact ⟨A, n, c', f, e, hc, hv, hd.set hp j u, hn⟩
theorem BigAt.store {w : World} {z : Int} {a A : Option Addr} {p l c n m : Nat} {s t : Bool} (h : BigAt w (.agg #[.bool t, .slice A n m]) z) (hp : BigBlk w p s (.slice a l c)) :
  BigAt ((w.setCell ⟨p, 0, none⟩ (.bool t)).setCell ⟨p, 1, none⟩ (.slice A n m)) (.agg #[.bool t, .slice A n m]) z := (h.set hp 0 _).set (hp.set0 t) 1 _
theorem zzc2 (x : Value) (X : Int) (w : World) (hx : Hid (BigAt w x X)) (bX : X.natAbs < 10000 ^ 40) :
  Calls Tryz.prog 111 #[x] w fun e w' => (∃ v, e = .returned v ∧ BigAt w' v (-X)) ∧ Below w.heap.size w w' := by
 obtain ⟨A, n, c, f, rfl, hc, hv, hd, hn⟩ := hx.out;have hn40 := zz1o (k := 40) hc (by rw [hv]; exact bX)
 obtain ⟨s, hs⟩ : ∃ s, decide (X < 0) = s := ⟨_, rfl⟩;rw [hs];have hz : sgn (!s) (pv f n) = -X := by
  rw [hv, ← hs]; unfold sgn;by_cases h : X < 0
  ·simp [h]; omega
  ·simp [h]; omega
 have HZ := zH hz;have qT := zH (fun w' (h : Hid (DigAt w' A n f)) => zz1w (!s) A n c f w' h hc.toDg zw hn)
 have h1 := BigBlk.mk (w.alloc (.cells #[.bool (!s), .slice A n c] 143)) (w.heap.size + 1) false (.slice none 0 0) (by rw [World.size_alloc])
 have hb1 := zz01 (zz01 (Below.refl w.heap.size w) (Nat.le_refl _) (.cells #[.bool (!s), .slice A n c] 143)) (by rw [World.size_alloc]; omega) (.cells #[.bool false, .slice none 0 0] 143)
 have HD := zH hd;clear hz hv hc hs hd hx bX;go_in;go_wp2_with fail;generalize (w.alloc (.cells #[.bool (!s), .slice A n c] 143)).alloc (.cells #[.bool false, .slice none 0 0] 143) = w1 at *;have hd1 := zH (HD.out.call hb1);have H1 := zH h1;have HB1 := zH hb1;clear h1 hb1;(with_reducible refine (qT.out w1 hd1).mono ?_);rintro e w5 ⟨⟨v5, rfl, hv5⟩, hb5⟩;obtain ⟨t5, A5, n5, c5, rfl⟩ := hv5.form;have H5 := zH (H1.out.call hb5);have HV := zH hv5;have HB5 := zB HB1 hb5;have d0 := H5.out.c0;have d1 := H5.out.c1;have f0 := H5.out.z 0;have f1 := H5.out.z 1;clear hv5 hb5 H1 HB1;go_wp2_with fail;refine bodyPost_ret (v := .agg #[.bool t5, .slice A5 n5 c5]) ?_ rfl ⟨⟨_, rfl, ?_⟩, ?_⟩
 ·simp [results, Tryz.results111, go_sem, d0, d1]
 ·rw [← HZ.out]; exact HV.out.store H5.out
 ·exact (HB5.out.setCell (Nat.le_succ _) _).setCell (Nat.le_succ _) _
theorem zzbb {ds : List Nat} {m : Nat} (h : ∀ d ∈ ds, d < 10000) (hm : m < 10000) : ∀ d ∈ ds ++ [m], d < 10000 := fun d hd => by
 rcases List.mem_append.1 hd with h1 | h1
 ·exact h d h1
 ·simp at h1; omega
structure AddInv (f g : Nat → Nat) (ds : List Nat) (k : Nat) : Prop where
 lt : ∀ d ∈ ds, d < 10000
 val : vl ds + k * 10000 ^ ds.length = pv f ds.length + pv g ds.length
 one : k ≤ 1
theorem AddInv.step {f g : Nat → Nat} {ds : List Nat} {k : Nat} (h : AddInv f g ds k) (hf : f ds.length < 10000) (hg : g ds.length < 10000) :
  AddInv f g (ds ++ [(f ds.length + g ds.length + k) % 10000]) ((f ds.length + g ds.length + k) / 10000) := by
 refine ⟨zzbb h.lt zw, ?_, by have := h.one; omega⟩
 rw [zz3y, List.length_append];show _ + _ / 10000 * 10000 ^ (ds.length + 1) = pv f (ds.length + 1) + pv g (ds.length + 1);rw [Nat.pow_succ];exact add_step h.val
theorem AddInv.last {f g : Nat → Nat} {ds : List Nat} {k n m N : Nat} (h : AddInv f g ds k) (hf : Dg f n) (hg : Dg g m) (hn : n ≤ N) (hm : m ≤ N) (hl : ds.length = N + 1) : vl ds = pv f n + pv g m := by
 have hv := h.val;rw [hl, zz26 hf.zero (N + 1) zw, zz26 hg.zero (N + 1) zw] at hv;have h1 := pv_lt n (fun i _ => hf.lt i)
 have h2 := pv_lt m (fun i _ => hg.lt i)
 have h3 : 10000 ^ n ≤ 10000 ^ N := Nat.pow_le_pow_right zx hn;have h4 : 10000 ^ m ≤ 10000 ^ N := Nat.pow_le_pow_right zx hm;rw [Nat.pow_succ] at hv;have hk : k = 0 := by
  by_cases hk : k = 0
  ·exact hk
  ·have : 1 * (10000 ^ N * 10000) ≤ k * (10000 ^ N * 10000) := Nat.mul_le_mul_right _ zw
   omega
 rw [hk] at hv;omega
structure SubInv (f g : Nat → Nat) (ds : List Nat) (k : Nat) : Prop where
 lt : ∀ d ∈ ds, d < 10000
 val : vl ds + pv g ds.length = pv f ds.length + k * 10000 ^ ds.length
 one : k ≤ 1
theorem SubInv.step0 {f g : Nat → Nat} {ds : List Nat} {k : Nat} (h : SubInv f g ds k) (hf : f ds.length < 10000) (hg : g ds.length < 10000) (hle : g ds.length + k ≤ f ds.length) :
  SubInv f g (ds ++ [f ds.length - g ds.length - k]) 0 := by
 refine ⟨zzbb h.lt zw, ?_, by omega⟩
 rw [zz3y, List.length_append];show _ + pv g (ds.length + 1) = pv f (ds.length + 1) + _ * 10000 ^ (ds.length + 1);rw [Nat.pow_succ];exact (zzag h.val h.one hf hg).1 hle
theorem SubInv.step1 {f g : Nat → Nat} {ds : List Nat} {k : Nat} (h : SubInv f g ds k) (hf : f ds.length < 10000) (hg : g ds.length < 10000) (hlt : f ds.length < g ds.length + k) :
  SubInv f g (ds ++ [f ds.length + 10000 - g ds.length - k]) 1 := by
 have h1 := h.one;refine ⟨zzbb h.lt zw, ?_, by omega⟩
 rw [zz3y, List.length_append];show _ + pv g (ds.length + 1) = pv f (ds.length + 1) + _ * 10000 ^ (ds.length + 1);rw [Nat.pow_succ];exact (zzag h.val h.one hf hg).2 hlt
theorem SubInv.last {f g : Nat → Nat} {ds : List Nat} {k n m N : Nat} (h : SubInv f g ds k) (hf : Dg f n) (hg : Dg g m) (hn : n ≤ N) (hm : m ≤ N) (hl : ds.length = N) (hle : pv g m ≤ pv f n) : vl ds = pv f n - pv g m := by
 have hv := h.val;have hb : vl ds < 10000 ^ N := by
  rw [← hl]; exact pv_lt _ (fun i _ => (dg_dg h.lt).lt i)
 rw [hl, zz26 hf.zero N hn, zz26 hg.zero N hm] at hv;have hk : k = 0 := by
  by_cases hk : k = 0
  ·exact hk
  ·have : 1 * 10000 ^ N ≤ k * 10000 ^ N := Nat.mul_le_mul_right _ zw
   omega
 rw [hk] at hv;omega
theorem sgn_add {X Y : Int} {s : Bool} (hs : decide (X < 0) = s) (ht : decide (Y < 0) = s) : sgn s (X.natAbs + Y.natAbs) = X + Y := by
 unfold sgn;cases s
 ·have h1 := of_decide_eq_false hs; have h2 := of_decide_eq_false ht; simp; omega
 ·have h1 := of_decide_eq_true hs; have h2 := of_decide_eq_true ht; simp; omega
theorem zzak {X Y : Int} {s t : Bool} (hs : decide (X < 0) = s) (ht : decide (Y < 0) = t) (hst : s ≠ t) (hle : Y.natAbs ≤ X.natAbs) : sgn s (X.natAbs - Y.natAbs) = X + Y := by
 unfold sgn;cases s
 ·cases t
  ·exact absurd rfl hst
  ·have h1 := of_decide_eq_false hs; have h2 := of_decide_eq_true ht; simp; omega
 ·cases t
  ·have h1 := of_decide_eq_true hs; have h2 := of_decide_eq_false ht; simp; omega
  ·exact absurd rfl hst
theorem zt2 {p : Prop} (h : p := by
 have q1 := zH (fun i => qB.out ds.length (wr.drewN i) (zH (HB.out.call (zz0c KB.out i))) zw)
 have q2 := zH (fun i => qA.out ds.length (wr.drewN i) (zH (HA.out.call (zz0c KB.out i))) zw)
 have a1 := Hg.out.lt ds.length;have b1 := Hf.out.lt ds.length;have hk1 := HI.out.one;by_cases hbor : f ds.length + k ≤ g ds.length
 ·have hst := zH (HI.out.step0 a1 b1 hbor)
  obtain ⟨a, ha⟩ : ∃ a, g ds.length = a := ⟨_, rfl⟩;obtain ⟨b, hb⟩ : ∃ b, f ds.length = b := ⟨_, rfl⟩;rw [ha] at q1 hst a1 hbor;rw [hb] at q2 hst b1 hbor;obtain ⟨mm, hm⟩ : ∃ x, a - b - k = x := ⟨_, rfl⟩;have t3 : ((a : Int) - (b : Int) - (k : Int)) = (mm : Int) := by omega
  have t2 : ¬ ((mm : Int) < 0) := by omega
  have hmm : mm < 10000 := by omega
  rw [hm] at hst;clear ha hb hm HI;go_wp2_with fail;go_quiet ((go_at_call 158; first | (with_reducible exact zz0r (q1.out _)) | (with_reducible exact zz0r (q2.out _))))
  replace K1 : Hid (BigBlk (wr.drewN nq) w.heap.size t (.slice B m d)) := K1.out;replace K2 : Hid (BigBlk (wr.drewN nq) (w.heap.size + 1) s (.slice A n c)) := K2.out;replace K3 : Hid (BigBlk (wr.drewN nq) (w.heap.size + 1 + 1) false (.slice none 0 0)) := K3.out;replace K4 : Hid (BigBlk (wr.drewN nq) (w.heap.size + 3) t v) := K4.out;replace HR : Hid ((wr.drewN nq).ownsRow (w.heap.size + 4) 3 1 v ds.length (ds.map fun d => .int .i64 (d : Nat))) := HR.out
  replace KB : Hid (Below w.heap.size w (wr.drewN nq)) := zz0c KB.out nq;replace HZ : Hid (w.heap.size + 4 ≤ (wr.drewN nq).heap.size) := HZ.out;clear e0 e1 e2 e3 q1 q2;generalize wr.drewN nq = wq at *;clear wr;have e0 := K1.out.c1;have e1 := K2.out.c1;have e2 := K4.out.c0;have e3 := K4.out.c1;go_wp2_with (at_builtin; refine zz0j _ _ _ _ _ _ el_int (fun d : Nat => Value.int .i64 (d : Int)) mm _ _ _ (Below.refl _ wq) HR HZ.out rfl rfl rfl rfl rfl zw zx ?_; intro v4 w4 hown4 hb4 hB4; refine Hid.out ?_)
  refine zH ?_;obtain ⟨A4, c4, rfl, _, _, _, _⟩ := zz0w (ds := ds ++ [mm]) (by rw [List.length_append]; exact hown4.out)
  rw [show (ds ++ [mm]).length = ds.length + 1 by simp] at hown4
  have G1 := zH (K1.out.below hb4 (show w.heap.size < w.heap.size + 4 by omega))
  have G2 := zH (K2.out.below hb4 (show w.heap.size + 1 < w.heap.size + 4 by omega))
  have G3 := zH (K3.out.below hb4 (show w.heap.size + 1 + 1 < w.heap.size + 4 by omega))
  have G4 := zH (K4.out.below hb4 (show w.heap.size + 3 < w.heap.size + 4 by omega))
  have HKB2 := zH (KB.out.trans (hb4.mono (show w.heap.size ≤ w.heap.size + 4 by omega)))
  have L0 := G4.out.c0;have L1 := G4.out.c1;have Lz := G4.out.z 1;clear hb4 HR KB;go_wp2_with fail;go_roundw
  case rel => exact ⟨ds ++ [mm], 0, _, rfl, by simp, by simp; omega, hst.out, G1.out.oth _ _ zw, G2.out.oth _ _ zw, G3.out.oth _ _ zw, G4.out.set1 _, by rw [show (ds ++ [mm]).length = ds.length + 1 by simp]; exact ownsRow_setCell_below hown4.out (a := ⟨w.heap.size + 3, 1, none⟩) (Nat.lt_succ_self _) _, HKB2.out.setCell (by show w.heap.size ≤ w.heap.size + 3; omega) _, by show _ ≤ _; simpa [World.setCell] using hB4⟩
  case measure => simp [intOf]; omega
 ·have hst := zH (HI.out.step1 a1 b1 zw)
  obtain ⟨a, ha⟩ : ∃ a, g ds.length = a := ⟨_, rfl⟩;obtain ⟨b, hb⟩ : ∃ b, f ds.length = b := ⟨_, rfl⟩;rw [ha] at q1 hst a1 hbor;rw [hb] at q2 hst b1 hbor;obtain ⟨mm, hm⟩ : ∃ x, a + 10000 - b - k = x := ⟨_, rfl⟩;have t2 : ((a : Int) - (b : Int) - (k : Int)) < 0 := by omega
  have t3 : ((a : Int) - (b : Int) - (k : Int)) + 10000 = (mm : Int) := by omega
  have hmm : mm < 10000 := by omega
  rw [hm] at hst;clear ha hb hm HI;go_wp2_with fail;go_quiet ((go_at_call 158; first | (with_reducible exact zz0r (q1.out _)) | (with_reducible exact zz0r (q2.out _))))
  replace K1 : Hid (BigBlk (wr.drewN nq) w.heap.size t (.slice B m d)) := K1.out;replace K2 : Hid (BigBlk (wr.drewN nq) (w.heap.size + 1) s (.slice A n c)) := K2.out;replace K3 : Hid (BigBlk (wr.drewN nq) (w.heap.size + 1 + 1) false (.slice none 0 0)) := K3.out;replace K4 : Hid (BigBlk (wr.drewN nq) (w.heap.size + 3) t v) := K4.out;replace HR : Hid ((wr.drewN nq).ownsRow (w.heap.size + 4) 3 1 v ds.length (ds.map fun d => .int .i64 (d : Nat))) := HR.out
  replace KB : Hid (Below w.heap.size w (wr.drewN nq)) := zz0c KB.out nq;replace HZ : Hid (w.heap.size + 4 ≤ (wr.drewN nq).heap.size) := HZ.out;clear e0 e1 e2 e3 q1 q2;generalize wr.drewN nq = wq at *;clear wr;have e0 := K1.out.c1;have e1 := K2.out.c1;have e2 := K4.out.c0;have e3 := K4.out.c1;go_wp2_with (at_builtin; refine zz0j _ _ _ _ _ _ el_int (fun d : Nat => Value.int .i64 (d : Int)) mm _ _ _ (Below.refl _ wq) HR HZ.out rfl rfl rfl rfl rfl zw zx ?_; intro v4 w4 hown4 hb4 hB4; refine Hid.out ?_)
  refine zH ?_;obtain ⟨A4, c4, rfl, _, _, _, _⟩ := zz0w (ds := ds ++ [mm]) (by rw [List.length_append]; exact hown4.out)
  rw [show (ds ++ [mm]).length = ds.length + 1 by simp] at hown4
  have G1 := zH (K1.out.below hb4 (show w.heap.size < w.heap.size + 4 by omega))
  have G2 := zH (K2.out.below hb4 (show w.heap.size + 1 < w.heap.size + 4 by omega))
  have G3 := zH (K3.out.below hb4 (show w.heap.size + 1 + 1 < w.heap.size + 4 by omega))
  have G4 := zH (K4.out.below hb4 (show w.heap.size + 3 < w.heap.size + 4 by omega))
  have HKB2 := zH (KB.out.trans (hb4.mono (show w.heap.size ≤ w.heap.size + 4 by omega)))
  have L0 := G4.out.c0;have L1 := G4.out.c1;have Lz := G4.out.z 1;clear hb4 HR KB;go_wp2_with fail;go_roundw
  case rel => exact ⟨ds ++ [mm], 1, _, rfl, by simp, by simp; omega, hst.out, G1.out.oth _ _ zw, G2.out.oth _ _ zw, G3.out.oth _ _ zw, G4.out.set1 _, by rw [show (ds ++ [mm]).length = ds.length + 1 by simp]; exact ownsRow_setCell_below hown4.out (a := ⟨w.heap.size + 3, 1, none⟩) (Nat.lt_succ_self _) _, HKB2.out.setCell (by show w.heap.size ≤ w.heap.size + 3; omega) _, by show _ ≤ _; simpa [World.setCell] using hB4⟩
  case measure => simp [intOf]; omega) : p := h
theorem zt3 {p : Prop} (h : p := by
 have q1 := zH (fun i => qA.out ds.length (wr.drewN i) (zH (HA.out.call (zz0c KB.out i))) zw)
 have q2 := zH (fun i => qB.out ds.length (wr.drewN i) (zH (HB.out.call (zz0c KB.out i))) zw)
 have a1 := Hf.out.lt ds.length;have b1 := Hg.out.lt ds.length;have hk1 := HI.out.one;by_cases hbor : g ds.length + k ≤ f ds.length
 ·have hst := zH (HI.out.step0 a1 b1 hbor)
  obtain ⟨a, ha⟩ : ∃ a, f ds.length = a := ⟨_, rfl⟩;obtain ⟨b, hb⟩ : ∃ b, g ds.length = b := ⟨_, rfl⟩;rw [ha] at q1 hst a1 hbor;rw [hb] at q2 hst b1 hbor;obtain ⟨mm, hm⟩ : ∃ x, a - b - k = x := ⟨_, rfl⟩;have t3 : ((a : Int) - (b : Int) - (k : Int)) = (mm : Int) := by omega
  have t2 : ¬ ((mm : Int) < 0) := by omega
  have hmm : mm < 10000 := by omega
  rw [hm] at hst;clear ha hb hm HI;go_wp2_with fail;go_quiet ((go_at_call 158; first | (with_reducible exact zz0r (q1.out _)) | (with_reducible exact zz0r (q2.out _))))
  replace K1 : Hid (BigBlk (wr.drewN nq) w.heap.size s (.slice A n c)) := K1.out;replace K2 : Hid (BigBlk (wr.drewN nq) (w.heap.size + 1) t (.slice B m d)) := K2.out;replace K3 : Hid (BigBlk (wr.drewN nq) (w.heap.size + 1 + 1) false (.slice none 0 0)) := K3.out;replace K4 : Hid (BigBlk (wr.drewN nq) (w.heap.size + 3) s v) := K4.out;replace HR : Hid ((wr.drewN nq).ownsRow (w.heap.size + 4) 3 1 v ds.length (ds.map fun d => .int .i64 (d : Nat))) := HR.out
  replace KB : Hid (Below w.heap.size w (wr.drewN nq)) := zz0c KB.out nq;replace HZ : Hid (w.heap.size + 4 ≤ (wr.drewN nq).heap.size) := HZ.out;clear e0 e1 e2 e3 q1 q2;generalize wr.drewN nq = wq at *;clear wr;have e0 := K1.out.c1;have e1 := K2.out.c1;have e2 := K4.out.c0;have e3 := K4.out.c1;go_wp2_with (at_builtin; refine zz0j _ _ _ _ _ _ el_int (fun d : Nat => Value.int .i64 (d : Int)) mm _ _ _ (Below.refl _ wq) HR HZ.out rfl rfl rfl rfl rfl zw zx ?_; intro v4 w4 hown4 hb4 hB4; refine Hid.out ?_)
  refine zH ?_;obtain ⟨A4, c4, rfl, _, _, _, _⟩ := zz0w (ds := ds ++ [mm]) (by rw [List.length_append]; exact hown4.out)
  rw [show (ds ++ [mm]).length = ds.length + 1 by simp] at hown4
  have G1 := zH (K1.out.below hb4 (show w.heap.size < w.heap.size + 4 by omega))
  have G2 := zH (K2.out.below hb4 (show w.heap.size + 1 < w.heap.size + 4 by omega))
  have G3 := zH (K3.out.below hb4 (show w.heap.size + 1 + 1 < w.heap.size + 4 by omega))
  have G4 := zH (K4.out.below hb4 (show w.heap.size + 3 < w.heap.size + 4 by omega))
  have HKB2 := zH (KB.out.trans (hb4.mono (show w.heap.size ≤ w.heap.size + 4 by omega)))
  have L0 := G4.out.c0;have L1 := G4.out.c1;have Lz := G4.out.z 1;clear hb4 HR KB;go_wp2_with fail;go_roundw
  case rel => exact ⟨ds ++ [mm], 0, _, rfl, by simp, by simp; omega, hst.out, G1.out.oth _ _ zw, G2.out.oth _ _ zw, G3.out.oth _ _ zw, G4.out.set1 _, by rw [show (ds ++ [mm]).length = ds.length + 1 by simp]; exact ownsRow_setCell_below hown4.out (a := ⟨w.heap.size + 3, 1, none⟩) (Nat.lt_succ_self _) _, HKB2.out.setCell (by show w.heap.size ≤ w.heap.size + 3; omega) _, by show _ ≤ _; simpa [World.setCell] using hB4⟩
  case measure => simp [intOf]; omega
 ·have hst := zH (HI.out.step1 a1 b1 zw)
  obtain ⟨a, ha⟩ : ∃ a, f ds.length = a := ⟨_, rfl⟩;obtain ⟨b, hb⟩ : ∃ b, g ds.length = b := ⟨_, rfl⟩;rw [ha] at q1 hst a1 hbor;rw [hb] at q2 hst b1 hbor;obtain ⟨mm, hm⟩ : ∃ x, a + 10000 - b - k = x := ⟨_, rfl⟩;have t2 : ((a : Int) - (b : Int) - (k : Int)) < 0 := by omega
  have t3 : ((a : Int) - (b : Int) - (k : Int)) + 10000 = (mm : Int) := by omega
  have hmm : mm < 10000 := by omega
  rw [hm] at hst;clear ha hb hm HI;go_wp2_with fail;go_quiet ((go_at_call 158; first | (with_reducible exact zz0r (q1.out _)) | (with_reducible exact zz0r (q2.out _))))
  replace K1 : Hid (BigBlk (wr.drewN nq) w.heap.size s (.slice A n c)) := K1.out;replace K2 : Hid (BigBlk (wr.drewN nq) (w.heap.size + 1) t (.slice B m d)) := K2.out;replace K3 : Hid (BigBlk (wr.drewN nq) (w.heap.size + 1 + 1) false (.slice none 0 0)) := K3.out;replace K4 : Hid (BigBlk (wr.drewN nq) (w.heap.size + 3) s v) := K4.out;replace HR : Hid ((wr.drewN nq).ownsRow (w.heap.size + 4) 3 1 v ds.length (ds.map fun d => .int .i64 (d : Nat))) := HR.out
  replace KB : Hid (Below w.heap.size w (wr.drewN nq)) := zz0c KB.out nq;replace HZ : Hid (w.heap.size + 4 ≤ (wr.drewN nq).heap.size) := HZ.out;clear e0 e1 e2 e3 q1 q2;generalize wr.drewN nq = wq at *;clear wr;have e0 := K1.out.c1;have e1 := K2.out.c1;have e2 := K4.out.c0;have e3 := K4.out.c1;go_wp2_with (at_builtin; refine zz0j _ _ _ _ _ _ el_int (fun d : Nat => Value.int .i64 (d : Int)) mm _ _ _ (Below.refl _ wq) HR HZ.out rfl rfl rfl rfl rfl zw zx ?_; intro v4 w4 hown4 hb4 hB4; refine Hid.out ?_)
  refine zH ?_;obtain ⟨A4, c4, rfl, _, _, _, _⟩ := zz0w (ds := ds ++ [mm]) (by rw [List.length_append]; exact hown4.out)
  rw [show (ds ++ [mm]).length = ds.length + 1 by simp] at hown4
  have G1 := zH (K1.out.below hb4 (show w.heap.size < w.heap.size + 4 by omega))
  have G2 := zH (K2.out.below hb4 (show w.heap.size + 1 < w.heap.size + 4 by omega))
  have G3 := zH (K3.out.below hb4 (show w.heap.size + 1 + 1 < w.heap.size + 4 by omega))
  have G4 := zH (K4.out.below hb4 (show w.heap.size + 3 < w.heap.size + 4 by omega))
  have HKB2 := zH (KB.out.trans (hb4.mono (show w.heap.size ≤ w.heap.size + 4 by omega)))
  have L0 := G4.out.c0;have L1 := G4.out.c1;have Lz := G4.out.z 1;clear hb4 HR KB;go_wp2_with fail;go_roundw
  case rel => exact ⟨ds ++ [mm], 1, _, rfl, by simp, by simp; omega, hst.out, G1.out.oth _ _ zw, G2.out.oth _ _ zw, G3.out.oth _ _ zw, G4.out.set1 _, by rw [show (ds ++ [mm]).length = ds.length + 1 by simp]; exact ownsRow_setCell_below hown4.out (a := ⟨w.heap.size + 3, 1, none⟩) (Nat.lt_succ_self _) _, HKB2.out.setCell (by show w.heap.size ≤ w.heap.size + 3; omega) _, by show _ ≤ _; simpa [World.setCell] using hB4⟩
  case measure => simp [intOf]; omega) : p := h
theorem zt6 {p : Prop} (h : p := by
 rw [show pv (dg ds) ds.length = vl ds from rfl] at qT
 rw [hvl] at qT; rw [hval.out] at qT;have QT := zH qT;clear qT hdd hlN hvl hlen;go_wp2_with fail;(with_reducible refine QT.out.mono ?_);rintro e w5 ⟨⟨v5, rfl, hv5⟩, hb5⟩;obtain ⟨t5, A5, n5, c5, rfl⟩ := hv5.form;have H5 := zH (K3.out.call hb5);have HV5 := zH hv5;have HB5 := zB KB hb5;have d0 := H5.out.c0;have d1 := H5.out.c1;have f0 := H5.out.z 0;have f1 := H5.out.z 1;clear hv5 hb5 K3 KB;go_wp2_with fail;refine bodyPost_ret (v := .agg #[.bool t5, .slice A5 n5 c5]) ?_ rfl ⟨⟨_, rfl, ?_⟩, ?_⟩
 ·simp [results, Tryz.results112, go_sem, d0, d1]
 ·exact HV5.out.store H5.out
 ·exact (HB5.out.setCell (by show w.heap.size ≤ w.heap.size + 1 + 1; omega) _).setCell (by show w.heap.size ≤ w.heap.size + 1 + 1; omega) _) : p := h
theorem zt7 {p : Prop} (h : p := by
 have q1 := zH (fun i => qA.out ds.length (wr.drewN i) (zH (HA.out.call (zz0c KB.out i))) zw)
 have q2 := zH (fun i => qB.out ds.length (wr.drewN i) (zH (HB.out.call (zz0c KB.out i))) zw)
 have a1 := Hf.out.lt ds.length;have b1 := Hg.out.lt ds.length;have hk1 := HI.out.one;have hst := zH (HI.out.step a1 b1);obtain ⟨a, ha⟩ : ∃ a, f ds.length = a := ⟨_, rfl⟩;obtain ⟨b, hb⟩ : ∃ b, g ds.length = b := ⟨_, rfl⟩;rw [ha] at q1 hst a1;rw [hb] at q2 hst b1;obtain ⟨mm, hm⟩ : ∃ x, (a + b + k) % 10000 = x := ⟨_, rfl⟩;obtain ⟨kk, hk⟩ : ∃ x, (a + b + k) / 10000 = x := ⟨_, rfl⟩;have t2 : ((a : Int) + (b : Int) + (k : Int)).tmod 10000 = (mm : Int) := by rw [Int.tmod_eq_emod_of_nonneg zw]; omega
 have t3 : ((a : Int) + (b : Int) + (k : Int)).tdiv 10000 = (kk : Int) := by rw [Int.tdiv_eq_ediv_of_nonneg zw]; omega
 have hkk : kk ≤ 1 := by omega
 have hmm : mm < 10000 := by omega
 rw [hm, hk] at hst;clear ha hb hm hk HI;go_wp2_with fail;go_quiet ((go_at_call 158; first | (with_reducible exact zz0r (q1.out _)) | (with_reducible exact zz0r (q2.out _))))
 replace K1 : Hid (BigBlk (wr.drewN nq) w.heap.size s (.slice A n c)) := K1.out;replace K2 : Hid (BigBlk (wr.drewN nq) (w.heap.size + 1) s (.slice B m d)) := K2.out;replace K3 : Hid (BigBlk (wr.drewN nq) (w.heap.size + 1 + 1) false (.slice none 0 0)) := K3.out;replace K4 : Hid (BigBlk (wr.drewN nq) (w.heap.size + 3) s v) := K4.out;replace HR : Hid ((wr.drewN nq).ownsRow (w.heap.size + 4) 3 1 v ds.length (ds.map fun d => .int .i64 (d : Nat))) := HR.out
 replace KB : Hid (Below w.heap.size w (wr.drewN nq)) := zz0c KB.out nq;replace HZ : Hid (w.heap.size + 4 ≤ (wr.drewN nq).heap.size) := HZ.out;clear e0 e1 e2 e3 q1 q2;generalize wr.drewN nq = wq at *;clear wr;have e0 := K1.out.c1;have e1 := K2.out.c1;have e2 := K4.out.c0;have e3 := K4.out.c1;go_wp2_with (at_builtin; refine zz0j _ _ _ _ _ _ el_int (fun d : Nat => Value.int .i64 (d : Int)) mm _ _ _ (Below.refl _ wq) HR HZ.out rfl rfl rfl rfl rfl zw zx ?_; intro v4 w4 hown4 hb4 hB4; refine Hid.out ?_)
 refine zH ?_;obtain ⟨A4, c4, rfl, _, _, _, _⟩ := zz0w (ds := ds ++ [mm]) (by rw [List.length_append]; exact hown4.out)
 rw [show (ds ++ [mm]).length = ds.length + 1 by simp] at hown4
 have G1 := zH (K1.out.below hb4 (show w.heap.size < w.heap.size + 4 by omega))
 have G2 := zH (K2.out.below hb4 (show w.heap.size + 1 < w.heap.size + 4 by omega))
 have G3 := zH (K3.out.below hb4 (show w.heap.size + 1 + 1 < w.heap.size + 4 by omega))
 have G4 := zH (K4.out.below hb4 (show w.heap.size + 3 < w.heap.size + 4 by omega))
 have HKB2 := zH (KB.out.trans (hb4.mono (show w.heap.size ≤ w.heap.size + 4 by omega)))
 have L0 := G4.out.c0;have L1 := G4.out.c1;have Lz := G4.out.z 1;clear hb4 HR KB;go_wp2_with fail;go_roundw
 case rel => exact ⟨ds ++ [mm], kk, _, rfl, by simp, by simp; omega, hst.out, G1.out.oth _ _ zw, G2.out.oth _ _ zw, G3.out.oth _ _ zw, G4.out.set1 _, by rw [show (ds ++ [mm]).length = ds.length + 1 by simp]; exact ownsRow_setCell_below hown4.out (a := ⟨w.heap.size + 3, 1, none⟩) (Nat.lt_succ_self _) _, HKB2.out.setCell (by show w.heap.size ≤ w.heap.size + 3; omega) _, by show _ ≤ _; simpa [World.setCell] using hB4⟩
 case measure => simp [intOf]; omega) : p := h
theorem zt85 {p : Prop} (h : p := by
 show _ = _;have hv1 := HV.out.1;have hv2 := HV.out.2;have := zzak (X := Y) (Y := X) HS.out.2 HS.out.1 (fun h => hst h.symm) zw
 rw [hv1, hv2];rw [Int.add_comm X Y]; exact this) : p := h
theorem zz1q (x y : Value) (X Y : Int) (w : World) (hx : Hid (BigAt w x X)) (hy : Hid (BigAt w y Y)) (bX : X.natAbs < 10000 ^ 40) (bY : Y.natAbs < 10000 ^ 40) :
  Calls Tryz.prog 112 #[x, y] w fun e w' => (∃ v, e = .returned v ∧ BigAt w' v (X + Y)) ∧ Below w.heap.size w w' := by
 obtain ⟨A, n, c, f, rfl, hc, hv, hd, hn⟩ := hx.out;obtain ⟨B, m, d, g, rfl, kc, kv, kd, km⟩ := hy.out;have hn40 := zz1o (k := 40) hc (by rw [hv]; exact bX)
 have hm40 := zz1o (k := 40) kc (by rw [kv]; exact bY)
 obtain ⟨s, hs⟩ : ∃ s, decide (X < 0) = s := ⟨_, rfl⟩;obtain ⟨t, ht⟩ : ∃ t, decide (Y < 0) = t := ⟨_, rfl⟩;rw [hs, ht];have HS := zH (And.intro hs ht);have HV := zH (And.intro hv kv);have Hf : Hid (Dg f n) := hc.toDg;have Hg : Hid (Dg g m) := kc.toDg;have HA := zH hd;have HB := zH kd;have qA := zH (fun i w' (h : Hid (DigAt w' A n f)) (hi : i ≤ 100) => zzbz A n c f i w' h Hf zw zw)
 have qB := zH (fun i w' (h : Hid (DigAt w' B m g)) (hi : i ≤ 100) => zzbz B m d g i w' h Hg zw zw)
 have h1 := ((BigBlk.mk w _ s (.slice A n c) rfl).alloc (.cells #[.bool t, .slice B m d] 143)).alloc (.cells #[.bool false, .slice none 0 0] 143);have h2 := (BigBlk.mk (w.alloc (.cells #[.bool s, .slice A n c] 143)) (w.heap.size + 1) t (.slice B m d) (by rw [World.size_alloc])).alloc (.cells #[.bool false, .slice none 0 0] 143)
 have h3 := BigBlk.mk ((w.alloc (.cells #[.bool s, .slice A n c] 143)).alloc (.cells #[.bool t, .slice B m d] 143)) (w.heap.size + 1 + 1) false (.slice none 0 0) (by rw [World.size_alloc, World.size_alloc])
 have hb1 := zz01 (zz01 (zz01 (Below.refl w.heap.size w) (Nat.le_refl _) (.cells #[.bool s, .slice A n c] 143)) (by rw [World.size_alloc]; omega) (.cells #[.bool t, .slice B m d] 143)) (by rw [World.size_alloc, World.size_alloc]; omega) (.cells #[.bool false, .slice none 0 0] 143)
 have hsz : (((w.alloc (.cells #[.bool s, .slice A n c] 143)).alloc (.cells #[.bool t, .slice B m d] 143)).alloc (.cells #[.bool false, .slice none 0 0] 143)).heap.size = w.heap.size + 3 := by rw [World.size_alloc, World.size_alloc, World.size_alloc]
 clear hc kc hv kv hd kd hs ht hx hy bX bY;by_cases hnm : n < m
 ·have hnm' : (n : Int) < m := by omega
  have hN1 : n ≤ m := by omega
  have hN2 : m ≤ m := Nat.le_refl _;have hN40 : m ≤ 40 := hm40;by_cases hst : s = t
  ·subst hst
   have hval := zH (sgn_add HS.out.1 HS.out.2);have hss : (s == s) = true := by simp
   go_in;go_wp2_with fail;generalize ((w.alloc (.cells #[.bool s, .slice A n c] 143)).alloc (.cells #[.bool s, .slice B m d] 143)).alloc (.cells #[.bool false, .slice none 0 0] 143) = w1 at *;have h4 := BigBlk.mk w1 (w.heap.size + 3) s (.slice none 0 0) hsz;have hb4 := zz01 hb1 hb1.size (.cells #[.bool s, .slice none 0 0] 143);have hsz4 : (w1.alloc (.cells #[.bool s, .slice none 0 0] 143)).heap.size = w.heap.size + 4 := by rw [World.size_alloc, hsz]
   have K1 := zH (h1.alloc (.cells #[.bool s, .slice none 0 0] 143));have K2 := zH (h2.alloc (.cells #[.bool s, .slice none 0 0] 143));have K3 := zH (h3.alloc (.cells #[.bool s, .slice none 0 0] 143));have K4 := zH h4;have KB := zH hb4;have KZ := zH hsz4;clear h1 h2 h3 h4 hb1 hb4 hsz4 hss hnm hnm' HS;go_loopw [7, 8, 9] (fun s7 s8 s9 wr => ∃ (ds : List Nat) (k : Nat) (v : Value), s7 = .int .i64 (k : Int) ∧ s8 = .int .i64 (ds.length : Int) ∧ ds.length ≤ m + 1 ∧ Hid (AddInv f g ds k) ∧
    Hid (BigBlk wr w.heap.size s (.slice A n c)) ∧ Hid (BigBlk wr (w.heap.size + 1) s (.slice B m d)) ∧ Hid (BigBlk wr (w.heap.size + 1 + 1) false (.slice none 0 0)) ∧ Hid (BigBlk wr (w.heap.size + 3) s v) ∧
    Hid (wr.ownsRow (w.heap.size + 4) 3 1 v ds.length (ds.map fun d => .int .i64 (d : Nat))) ∧ Hid (Below w.heap.size w wr) ∧ Hid (w.heap.size + 4 ≤ wr.heap.size)) (fun _ s8 _ _ => 100 - (intOf s8).toNat)
   case atStart => exact ⟨[], 0, .slice none 0 0, rfl, rfl, Nat.zero_le _, ⟨fun d hd => by simp at hd, rfl, by omega⟩, K1.out, K2.out, K3.out, K4.out, World.ownsRow_nil _ _ _ _, KB.out, Nat.le_of_eq KZ.out.symm⟩
   case round =>
    clear K1 K2 K3 K4 KB KZ;obtain ⟨ds, k, v, rfl, rfl, hlen, HI, K1, K2, K3, K4, HR, KB, HZ⟩ := hrel;have e0 := K1.out.c1;have e1 := K2.out.c1;have e2 := K4.out.c0;have e3 := K4.out.c1;by_cases hl : ds.length ≤ m
    ·have hl' : (ds.length : Int) ≤ m := by omega
     exact zt7
    ·have hl' : ¬ ((ds.length : Int) ≤ m) := by omega
     have hlN : ds.length = m + 1 := by omega
     have hvl := HI.out.last Hf.out Hg.out hN1 hN2 hlN;rw [HV.out.1, HV.out.2] at hvl;obtain ⟨A4, c4, rfl, _, hcc, _, _⟩ := zz0w HR.out;have hdd := zH (zz0w HR.out);have hDG : Hid (Dg (dg ds) ds.length) := dg_dg HI.out.lt;have hD4 : Hid (DigAt wr A4 ds.length (dg ds)) := by
      obtain ⟨A', c', hs', hd', _, _, _⟩ := hdd.out;cases hs';exact hd'
     have qT := zz1w s A4 ds.length c4 (dg ds) wr hD4 hDG zw hcc;exact zt6
  ·have hss : (s == t) = false := by cases s <;> cases t <;> simp_all
   have qL := zH (zz5t A B n m c d f g);by_cases hlt : pv f n < pv g m
   ·have hle : pv f n ≤ pv g m := by omega
    have hL : decide (pv f n < pv g m) = true := decide_eq_true hlt;have hval : Hid (sgn t ((pv g m - pv f n : Nat)) = X + Y) := by
     exact zt85
    have qL := zH (fun w' h1 h2 => qL.out w' h1 h2 Hf Hg zw zw)
    rw [hL] at qL;clear hlt hL;go_in;go_wp2_with fail;generalize ((w.alloc (.cells #[.bool s, .slice A n c] 143)).alloc (.cells #[.bool t, .slice B m d] 143)).alloc (.cells #[.bool false, .slice none 0 0] 143) = w1 at *;have L1 := zH (HA.out.call hb1);have L2 := zH (HB.out.call hb1);(with_reducible refine (qL.out w1 L1 L2).mono ?_);rintro e w9 ⟨rfl, rfl⟩;have u0 := h1.c0;have u1 := h1.c1;have u2 := h2.c0;have u3 := h2.c1;have u4 := h1.z 0;have u5 := h1.z 1;have u6 := h2.z 0;have u7 := h2.z 1;have hW1 : w.heap.size < w1.heap.size := h1.lt;have hW2 : w.heap.size + 1 < w1.heap.size := h2.lt;have p1 := (((h1.set0 t).set1 (.slice B m d)).oth (q := w.heap.size + 1) 0 (.bool s) zw).oth (q := w.heap.size + 1) 1 (.slice A n c) zw;have p2 := ((((h2.oth (q := w.heap.size) 0 (.bool t) zw).oth (q := w.heap.size) 1 (.slice B m d) zw).set0 s).set1 (.slice A n c));have p3 := (((h3.oth (q := w.heap.size) 0 (.bool t) zw).oth (q := w.heap.size) 1 (.slice B m d) zw).oth (q := w.heap.size + 1) 0 (.bool s) zw).oth (q := w.heap.size + 1) 1 (.slice A n c) zw;have pb := (((hb1.setCell (p := ⟨w.heap.size, 0, none⟩) (Nat.le_refl _) (.bool t)).setCell (p := ⟨w.heap.size, 1, none⟩) (Nat.le_refl _) (.slice B m d)).setCell (p := ⟨w.heap.size + 1, 0, none⟩) (Nat.le_succ _) (.bool s)).setCell (p := ⟨w.heap.size + 1, 1, none⟩) (Nat.le_succ _) (.slice A n c);have pz : ((((w1.setCell ⟨w.heap.size, 0, none⟩ (.bool t)).setCell ⟨w.heap.size, 1, none⟩ (.slice B m d)).setCell ⟨w.heap.size + 1, 0, none⟩ (.bool s)).setCell ⟨w.heap.size + 1, 1, none⟩ (.slice A n c)).heap.size = w.heap.size + 3 := by simpa [World.setCell] using hsz
    go_wp2_with fail;have h4 := BigBlk.mk ((((w1.setCell ⟨w.heap.size, 0, none⟩ (.bool t)).setCell ⟨w.heap.size, 1, none⟩ (.slice B m d)).setCell ⟨w.heap.size + 1, 0, none⟩ (.bool s)).setCell ⟨w.heap.size + 1, 1, none⟩ (.slice A n c)) (w.heap.size + 3) t (.slice none 0 0) pz;have hb4 := zz01 pb pb.size (.cells #[.bool t, .slice none 0 0] 143);have hsz4 : (((((w1.setCell ⟨w.heap.size, 0, none⟩ (.bool t)).setCell ⟨w.heap.size, 1, none⟩ (.slice B m d)).setCell ⟨w.heap.size + 1, 0, none⟩ (.bool s)).setCell ⟨w.heap.size + 1, 1, none⟩ (.slice A n c)).alloc (.cells #[.bool t, .slice none 0 0] 143)).heap.size = w.heap.size + 4 := by rw [World.size_alloc, pz]
    have K1 := zH (p1.alloc (.cells #[.bool t, .slice none 0 0] 143));have K2 := zH (p2.alloc (.cells #[.bool t, .slice none 0 0] 143));have K3 := zH (p3.alloc (.cells #[.bool t, .slice none 0 0] 143));have K4 := zH h4;have KB := zH hb4;have KZ := zH hsz4;clear h1 h2 h3 h4 hb1 hb4 hsz4 hss hnm hnm' HS p1 p2 p3 pb pz u0 u1 u2 u3 u4 u5 u6 u7 hW1 hW2 L1 L2 qL hsz;go_loopw [11, 12, 13] (fun s11 s12 s13 wr => ∃ (ds : List Nat) (k : Nat) (v : Value), s11 = .int .i64 (k : Int) ∧ s12 = .int .i64 (ds.length : Int) ∧ ds.length ≤ m ∧ Hid (SubInv g f ds k) ∧
     Hid (BigBlk wr w.heap.size t (.slice B m d)) ∧ Hid (BigBlk wr (w.heap.size + 1) s (.slice A n c)) ∧ Hid (BigBlk wr (w.heap.size + 1 + 1) false (.slice none 0 0)) ∧ Hid (BigBlk wr (w.heap.size + 3) t v) ∧
     Hid (wr.ownsRow (w.heap.size + 4) 3 1 v ds.length (ds.map fun d => .int .i64 (d : Nat))) ∧ Hid (Below w.heap.size w wr) ∧ Hid (w.heap.size + 4 ≤ wr.heap.size)) (fun _ s12 _ _ => 100 - (intOf s12).toNat)
    case atStart => exact ⟨[], 0, .slice none 0 0, rfl, rfl, Nat.zero_le _, ⟨fun d hd => by simp at hd, rfl, by omega⟩, K1.out, K2.out, K3.out, K4.out, World.ownsRow_nil _ _ _ _, KB.out, Nat.le_of_eq KZ.out.symm⟩
    case round =>
     clear K1 K2 K3 K4 KB KZ;obtain ⟨ds, k, v, rfl, rfl, hlen, HI, K1, K2, K3, K4, HR, KB, HZ⟩ := hrel;have e0 := K1.out.c1;have e1 := K2.out.c1;have e2 := K4.out.c0;have e3 := K4.out.c1;by_cases hl : ds.length < m
     ·have hl' : (ds.length : Int) < m := by omega
      exact zt2
     ·have hl' : ¬ ((ds.length : Int) < m) := by omega
      have hlN : ds.length = m := by omega
      have hvl := HI.out.last Hg.out Hf.out hN2 hN1 hlN hle;obtain ⟨A4, c4, rfl, _, hcc, _, _⟩ := zz0w HR.out;have hdd := zH (zz0w HR.out);have hDG : Hid (Dg (dg ds) ds.length) := dg_dg HI.out.lt;have hD4 : Hid (DigAt wr A4 ds.length (dg ds)) := by
       obtain ⟨A', c', hs', hd', _, _, _⟩ := hdd.out;cases hs';exact hd'
      have qT := zz1w t A4 ds.length c4 (dg ds) wr hD4 hDG zw hcc;exact zt6
   ·have hle : pv g m ≤ pv f n := by omega
    have hL : decide (pv f n < pv g m) = false := decide_eq_false hlt;have hval : Hid (sgn s ((pv f n - pv g m : Nat)) = X + Y) := by
     show _ = _;have hv1 := HV.out.1;have hv2 := HV.out.2;have := zzak (X := X) (Y := Y) HS.out.1 HS.out.2 hst zw;rw [hv1, hv2];exact this
    have qL := zH (fun w' h1 h2 => qL.out w' h1 h2 Hf Hg zw zw)
    rw [hL] at qL;clear hlt hL;go_in;go_wp2_with fail;generalize ((w.alloc (.cells #[.bool s, .slice A n c] 143)).alloc (.cells #[.bool t, .slice B m d] 143)).alloc (.cells #[.bool false, .slice none 0 0] 143) = w1 at *;have L1 := zH (HA.out.call hb1);have L2 := zH (HB.out.call hb1);(with_reducible refine (qL.out w1 L1 L2).mono ?_);rintro e w9 ⟨rfl, rfl⟩;have u0 := h1.c0;have u1 := h1.c1;have u2 := h2.c0;have u3 := h2.c1;have u4 := h1.z 0;have u5 := h1.z 1;have u6 := h2.z 0;have u7 := h2.z 1;have hW1 : w.heap.size < w1.heap.size := h1.lt;have hW2 : w.heap.size + 1 < w1.heap.size := h2.lt;have p1 := h1;have p2 := h2;have p3 := h3;have pb := hb1;have pz := hsz;go_wp2_with fail;have h4 := BigBlk.mk (w1) (w.heap.size + 3) s (.slice none 0 0) pz;have hb4 := zz01 pb pb.size (.cells #[.bool s, .slice none 0 0] 143);have hsz4 : ((w1).alloc (.cells #[.bool s, .slice none 0 0] 143)).heap.size = w.heap.size + 4 := by rw [World.size_alloc, pz]
    have K1 := zH (p1.alloc (.cells #[.bool s, .slice none 0 0] 143));have K2 := zH (p2.alloc (.cells #[.bool s, .slice none 0 0] 143));have K3 := zH (p3.alloc (.cells #[.bool s, .slice none 0 0] 143));have K4 := zH h4;have KB := zH hb4;have KZ := zH hsz4;clear h1 h2 h3 h4 hb1 hb4 hsz4 hss hnm hnm' HS p1 p2 p3 pb pz u0 u1 u2 u3 u4 u5 u6 u7 hW1 hW2 L1 L2 qL hsz;go_loopw [11, 12, 13] (fun s11 s12 s13 wr => ∃ (ds : List Nat) (k : Nat) (v : Value), s11 = .int .i64 (k : Int) ∧ s12 = .int .i64 (ds.length : Int) ∧ ds.length ≤ m ∧ Hid (SubInv f g ds k) ∧
     Hid (BigBlk wr w.heap.size s (.slice A n c)) ∧ Hid (BigBlk wr (w.heap.size + 1) t (.slice B m d)) ∧ Hid (BigBlk wr (w.heap.size + 1 + 1) false (.slice none 0 0)) ∧ Hid (BigBlk wr (w.heap.size + 3) s v) ∧
     Hid (wr.ownsRow (w.heap.size + 4) 3 1 v ds.length (ds.map fun d => .int .i64 (d : Nat))) ∧ Hid (Below w.heap.size w wr) ∧ Hid (w.heap.size + 4 ≤ wr.heap.size)) (fun _ s12 _ _ => 100 - (intOf s12).toNat)
    case atStart => exact ⟨[], 0, .slice none 0 0, rfl, rfl, Nat.zero_le _, ⟨fun d hd => by simp at hd, rfl, by omega⟩, K1.out, K2.out, K3.out, K4.out, World.ownsRow_nil _ _ _ _, KB.out, Nat.le_of_eq KZ.out.symm⟩
    case round =>
     clear K1 K2 K3 K4 KB KZ;obtain ⟨ds, k, v, rfl, rfl, hlen, HI, K1, K2, K3, K4, HR, KB, HZ⟩ := hrel;have e0 := K1.out.c1;have e1 := K2.out.c1;have e2 := K4.out.c0;have e3 := K4.out.c1;by_cases hl : ds.length < m
     ·have hl' : (ds.length : Int) < m := by omega
      exact zt3
     ·have hl' : ¬ ((ds.length : Int) < m) := by omega
      have hlN : ds.length = m := by omega
      have hvl := HI.out.last Hf.out Hg.out hN1 hN2 hlN hle;obtain ⟨A4, c4, rfl, _, hcc, _, _⟩ := zz0w HR.out;have hdd := zH (zz0w HR.out);have hDG : Hid (Dg (dg ds) ds.length) := dg_dg HI.out.lt;have hD4 : Hid (DigAt wr A4 ds.length (dg ds)) := by
       obtain ⟨A', c', hs', hd', _, _, _⟩ := hdd.out;cases hs';exact hd'
      have qT := zz1w s A4 ds.length c4 (dg ds) wr hD4 hDG zw hcc;exact zt6
 ·have hnm' : ¬ ((n : Int) < m) := by omega
  have hN1 : n ≤ n := Nat.le_refl _;have hN2 : m ≤ n := by omega
  have hN40 : n ≤ 40 := hn40;by_cases hst : s = t
  ·subst hst
   have hval := zH (sgn_add HS.out.1 HS.out.2);have hss : (s == s) = true := by simp
   go_in;go_wp2_with fail;generalize ((w.alloc (.cells #[.bool s, .slice A n c] 143)).alloc (.cells #[.bool s, .slice B m d] 143)).alloc (.cells #[.bool false, .slice none 0 0] 143) = w1 at *;have h4 := BigBlk.mk w1 (w.heap.size + 3) s (.slice none 0 0) hsz;have hb4 := zz01 hb1 hb1.size (.cells #[.bool s, .slice none 0 0] 143);have hsz4 : (w1.alloc (.cells #[.bool s, .slice none 0 0] 143)).heap.size = w.heap.size + 4 := by rw [World.size_alloc, hsz]
   have K1 := zH (h1.alloc (.cells #[.bool s, .slice none 0 0] 143));have K2 := zH (h2.alloc (.cells #[.bool s, .slice none 0 0] 143));have K3 := zH (h3.alloc (.cells #[.bool s, .slice none 0 0] 143));have K4 := zH h4;have KB := zH hb4;have KZ := zH hsz4;clear h1 h2 h3 h4 hb1 hb4 hsz4 hss hnm hnm' HS;go_loopw [7, 8, 9] (fun s7 s8 s9 wr => ∃ (ds : List Nat) (k : Nat) (v : Value), s7 = .int .i64 (k : Int) ∧ s8 = .int .i64 (ds.length : Int) ∧ ds.length ≤ n + 1 ∧ Hid (AddInv f g ds k) ∧
    Hid (BigBlk wr w.heap.size s (.slice A n c)) ∧ Hid (BigBlk wr (w.heap.size + 1) s (.slice B m d)) ∧ Hid (BigBlk wr (w.heap.size + 1 + 1) false (.slice none 0 0)) ∧ Hid (BigBlk wr (w.heap.size + 3) s v) ∧
    Hid (wr.ownsRow (w.heap.size + 4) 3 1 v ds.length (ds.map fun d => .int .i64 (d : Nat))) ∧ Hid (Below w.heap.size w wr) ∧ Hid (w.heap.size + 4 ≤ wr.heap.size)) (fun _ s8 _ _ => 100 - (intOf s8).toNat)
   case atStart => exact ⟨[], 0, .slice none 0 0, rfl, rfl, Nat.zero_le _, ⟨fun d hd => by simp at hd, rfl, by omega⟩, K1.out, K2.out, K3.out, K4.out, World.ownsRow_nil _ _ _ _, KB.out, Nat.le_of_eq KZ.out.symm⟩
   case round =>
    clear K1 K2 K3 K4 KB KZ;obtain ⟨ds, k, v, rfl, rfl, hlen, HI, K1, K2, K3, K4, HR, KB, HZ⟩ := hrel;have e0 := K1.out.c1;have e1 := K2.out.c1;have e2 := K4.out.c0;have e3 := K4.out.c1;by_cases hl : ds.length ≤ n
    ·have hl' : (ds.length : Int) ≤ n := by omega
     exact zt7
    ·have hl' : ¬ ((ds.length : Int) ≤ n) := by omega
     have hlN : ds.length = n + 1 := by omega
     have hvl := HI.out.last Hf.out Hg.out hN1 hN2 hlN;rw [HV.out.1, HV.out.2] at hvl;obtain ⟨A4, c4, rfl, _, hcc, _, _⟩ := zz0w HR.out;have hdd := zH (zz0w HR.out);have hDG : Hid (Dg (dg ds) ds.length) := dg_dg HI.out.lt;have hD4 : Hid (DigAt wr A4 ds.length (dg ds)) := by
      obtain ⟨A', c', hs', hd', _, _, _⟩ := hdd.out;cases hs';exact hd'
     have qT := zz1w s A4 ds.length c4 (dg ds) wr hD4 hDG zw hcc;exact zt6
  ·have hss : (s == t) = false := by cases s <;> cases t <;> simp_all
   have qL := zH (zz5t A B n m c d f g);by_cases hlt : pv f n < pv g m
   ·have hle : pv f n ≤ pv g m := by omega
    have hL : decide (pv f n < pv g m) = true := decide_eq_true hlt;have hval : Hid (sgn t ((pv g m - pv f n : Nat)) = X + Y) := by
     exact zt85
    have qL := zH (fun w' h1 h2 => qL.out w' h1 h2 Hf Hg zw zw)
    rw [hL] at qL;clear hlt hL;go_in;go_wp2_with fail;generalize ((w.alloc (.cells #[.bool s, .slice A n c] 143)).alloc (.cells #[.bool t, .slice B m d] 143)).alloc (.cells #[.bool false, .slice none 0 0] 143) = w1 at *;have L1 := zH (HA.out.call hb1);have L2 := zH (HB.out.call hb1);(with_reducible refine (qL.out w1 L1 L2).mono ?_);rintro e w9 ⟨rfl, rfl⟩;have u0 := h1.c0;have u1 := h1.c1;have u2 := h2.c0;have u3 := h2.c1;have u4 := h1.z 0;have u5 := h1.z 1;have u6 := h2.z 0;have u7 := h2.z 1;have hW1 : w.heap.size < w1.heap.size := h1.lt;have hW2 : w.heap.size + 1 < w1.heap.size := h2.lt;have p1 := (((h1.set0 t).set1 (.slice B m d)).oth (q := w.heap.size + 1) 0 (.bool s) zw).oth (q := w.heap.size + 1) 1 (.slice A n c) zw;have p2 := ((((h2.oth (q := w.heap.size) 0 (.bool t) zw).oth (q := w.heap.size) 1 (.slice B m d) zw).set0 s).set1 (.slice A n c));have p3 := (((h3.oth (q := w.heap.size) 0 (.bool t) zw).oth (q := w.heap.size) 1 (.slice B m d) zw).oth (q := w.heap.size + 1) 0 (.bool s) zw).oth (q := w.heap.size + 1) 1 (.slice A n c) zw;have pb := (((hb1.setCell (p := ⟨w.heap.size, 0, none⟩) (Nat.le_refl _) (.bool t)).setCell (p := ⟨w.heap.size, 1, none⟩) (Nat.le_refl _) (.slice B m d)).setCell (p := ⟨w.heap.size + 1, 0, none⟩) (Nat.le_succ _) (.bool s)).setCell (p := ⟨w.heap.size + 1, 1, none⟩) (Nat.le_succ _) (.slice A n c);have pz : ((((w1.setCell ⟨w.heap.size, 0, none⟩ (.bool t)).setCell ⟨w.heap.size, 1, none⟩ (.slice B m d)).setCell ⟨w.heap.size + 1, 0, none⟩ (.bool s)).setCell ⟨w.heap.size + 1, 1, none⟩ (.slice A n c)).heap.size = w.heap.size + 3 := by simpa [World.setCell] using hsz
    go_wp2_with fail;have h4 := BigBlk.mk ((((w1.setCell ⟨w.heap.size, 0, none⟩ (.bool t)).setCell ⟨w.heap.size, 1, none⟩ (.slice B m d)).setCell ⟨w.heap.size + 1, 0, none⟩ (.bool s)).setCell ⟨w.heap.size + 1, 1, none⟩ (.slice A n c)) (w.heap.size + 3) t (.slice none 0 0) pz;have hb4 := zz01 pb pb.size (.cells #[.bool t, .slice none 0 0] 143);have hsz4 : (((((w1.setCell ⟨w.heap.size, 0, none⟩ (.bool t)).setCell ⟨w.heap.size, 1, none⟩ (.slice B m d)).setCell ⟨w.heap.size + 1, 0, none⟩ (.bool s)).setCell ⟨w.heap.size + 1, 1, none⟩ (.slice A n c)).alloc (.cells #[.bool t, .slice none 0 0] 143)).heap.size = w.heap.size + 4 := by rw [World.size_alloc, pz]
    have K1 := zH (p1.alloc (.cells #[.bool t, .slice none 0 0] 143));have K2 := zH (p2.alloc (.cells #[.bool t, .slice none 0 0] 143));have K3 := zH (p3.alloc (.cells #[.bool t, .slice none 0 0] 143));have K4 := zH h4;have KB := zH hb4;have KZ := zH hsz4;clear h1 h2 h3 h4 hb1 hb4 hsz4 hss hnm hnm' HS p1 p2 p3 pb pz u0 u1 u2 u3 u4 u5 u6 u7 hW1 hW2 L1 L2 qL hsz;go_loopw [11, 12, 13] (fun s11 s12 s13 wr => ∃ (ds : List Nat) (k : Nat) (v : Value), s11 = .int .i64 (k : Int) ∧ s12 = .int .i64 (ds.length : Int) ∧ ds.length ≤ n ∧ Hid (SubInv g f ds k) ∧
     Hid (BigBlk wr w.heap.size t (.slice B m d)) ∧ Hid (BigBlk wr (w.heap.size + 1) s (.slice A n c)) ∧ Hid (BigBlk wr (w.heap.size + 1 + 1) false (.slice none 0 0)) ∧ Hid (BigBlk wr (w.heap.size + 3) t v) ∧
     Hid (wr.ownsRow (w.heap.size + 4) 3 1 v ds.length (ds.map fun d => .int .i64 (d : Nat))) ∧ Hid (Below w.heap.size w wr) ∧ Hid (w.heap.size + 4 ≤ wr.heap.size)) (fun _ s12 _ _ => 100 - (intOf s12).toNat)
    case atStart => exact ⟨[], 0, .slice none 0 0, rfl, rfl, Nat.zero_le _, ⟨fun d hd => by simp at hd, rfl, by omega⟩, K1.out, K2.out, K3.out, K4.out, World.ownsRow_nil _ _ _ _, KB.out, Nat.le_of_eq KZ.out.symm⟩
    case round =>
     clear K1 K2 K3 K4 KB KZ;obtain ⟨ds, k, v, rfl, rfl, hlen, HI, K1, K2, K3, K4, HR, KB, HZ⟩ := hrel;have e0 := K1.out.c1;have e1 := K2.out.c1;have e2 := K4.out.c0;have e3 := K4.out.c1;by_cases hl : ds.length < n
     ·have hl' : (ds.length : Int) < n := by omega
      exact zt2
     ·have hl' : ¬ ((ds.length : Int) < n) := by omega
      have hlN : ds.length = n := by omega
      have hvl := HI.out.last Hg.out Hf.out hN2 hN1 hlN hle;obtain ⟨A4, c4, rfl, _, hcc, _, _⟩ := zz0w HR.out;have hdd := zH (zz0w HR.out);have hDG : Hid (Dg (dg ds) ds.length) := dg_dg HI.out.lt;have hD4 : Hid (DigAt wr A4 ds.length (dg ds)) := by
       obtain ⟨A', c', hs', hd', _, _, _⟩ := hdd.out;cases hs';exact hd'
      have qT := zz1w t A4 ds.length c4 (dg ds) wr hD4 hDG zw hcc;exact zt6
   ·have hle : pv g m ≤ pv f n := by omega
    have hL : decide (pv f n < pv g m) = false := decide_eq_false hlt;have hval : Hid (sgn s ((pv f n - pv g m : Nat)) = X + Y) := by
     show _ = _;have hv1 := HV.out.1;have hv2 := HV.out.2;have := zzak (X := X) (Y := Y) HS.out.1 HS.out.2 hst zw;rw [hv1, hv2];exact this
    have qL := zH (fun w' h1 h2 => qL.out w' h1 h2 Hf Hg zw zw)
    rw [hL] at qL;clear hlt hL;go_in;go_wp2_with fail;generalize ((w.alloc (.cells #[.bool s, .slice A n c] 143)).alloc (.cells #[.bool t, .slice B m d] 143)).alloc (.cells #[.bool false, .slice none 0 0] 143) = w1 at *;have L1 := zH (HA.out.call hb1);have L2 := zH (HB.out.call hb1);(with_reducible refine (qL.out w1 L1 L2).mono ?_);rintro e w9 ⟨rfl, rfl⟩;have u0 := h1.c0;have u1 := h1.c1;have u2 := h2.c0;have u3 := h2.c1;have u4 := h1.z 0;have u5 := h1.z 1;have u6 := h2.z 0;have u7 := h2.z 1;have hW1 : w.heap.size < w1.heap.size := h1.lt;have hW2 : w.heap.size + 1 < w1.heap.size := h2.lt;have p1 := h1;have p2 := h2;have p3 := h3;have pb := hb1;have pz := hsz;go_wp2_with fail;have h4 := BigBlk.mk (w1) (w.heap.size + 3) s (.slice none 0 0) pz;have hb4 := zz01 pb pb.size (.cells #[.bool s, .slice none 0 0] 143);have hsz4 : ((w1).alloc (.cells #[.bool s, .slice none 0 0] 143)).heap.size = w.heap.size + 4 := by rw [World.size_alloc, pz]
    have K1 := zH (p1.alloc (.cells #[.bool s, .slice none 0 0] 143));have K2 := zH (p2.alloc (.cells #[.bool s, .slice none 0 0] 143));have K3 := zH (p3.alloc (.cells #[.bool s, .slice none 0 0] 143));have K4 := zH h4;have KB := zH hb4;have KZ := zH hsz4;clear h1 h2 h3 h4 hb1 hb4 hsz4 hss hnm hnm' HS p1 p2 p3 pb pz u0 u1 u2 u3 u4 u5 u6 u7 hW1 hW2 L1 L2 qL hsz;go_loopw [11, 12, 13] (fun s11 s12 s13 wr => ∃ (ds : List Nat) (k : Nat) (v : Value), s11 = .int .i64 (k : Int) ∧ s12 = .int .i64 (ds.length : Int) ∧ ds.length ≤ n ∧ Hid (SubInv f g ds k) ∧
     Hid (BigBlk wr w.heap.size s (.slice A n c)) ∧ Hid (BigBlk wr (w.heap.size + 1) t (.slice B m d)) ∧ Hid (BigBlk wr (w.heap.size + 1 + 1) false (.slice none 0 0)) ∧ Hid (BigBlk wr (w.heap.size + 3) s v) ∧
     Hid (wr.ownsRow (w.heap.size + 4) 3 1 v ds.length (ds.map fun d => .int .i64 (d : Nat))) ∧ Hid (Below w.heap.size w wr) ∧ Hid (w.heap.size + 4 ≤ wr.heap.size)) (fun _ s12 _ _ => 100 - (intOf s12).toNat)
    case atStart => exact ⟨[], 0, .slice none 0 0, rfl, rfl, Nat.zero_le _, ⟨fun d hd => by simp at hd, rfl, by omega⟩, K1.out, K2.out, K3.out, K4.out, World.ownsRow_nil _ _ _ _, KB.out, Nat.le_of_eq KZ.out.symm⟩
    case round =>
     clear K1 K2 K3 K4 KB KZ;obtain ⟨ds, k, v, rfl, rfl, hlen, HI, K1, K2, K3, K4, HR, KB, HZ⟩ := hrel;have e0 := K1.out.c1;have e1 := K2.out.c1;have e2 := K4.out.c0;have e3 := K4.out.c1;by_cases hl : ds.length < n
     ·have hl' : (ds.length : Int) < n := by omega
      exact zt3
     ·have hl' : ¬ ((ds.length : Int) < n) := by omega
      have hlN : ds.length = n := by omega
      have hvl := HI.out.last Hf.out Hg.out hN1 hN2 hlN hle;obtain ⟨A4, c4, rfl, _, hcc, _, _⟩ := zz0w HR.out;have hdd := zH (zz0w HR.out);have hDG : Hid (Dg (dg ds) ds.length) := dg_dg HI.out.lt;have hD4 : Hid (DigAt wr A4 ds.length (dg ds)) := by
       obtain ⟨A', c', hs', hd', _, _, _⟩ := hdd.out;cases hs';exact hd'
      have qT := zz1w s A4 ds.length c4 (dg ds) wr hD4 hDG zw hcc;exact zt6
end
end Go.Proofs.YtajogedbacpohaaGreatDoor
