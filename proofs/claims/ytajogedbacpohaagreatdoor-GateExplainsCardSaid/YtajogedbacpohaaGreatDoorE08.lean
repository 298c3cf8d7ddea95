/- Part 9 of what the claim rests on. -/
import Derived.Test.YtajogedbacpohaaGreatDoorE00
import Derived.Test.YtajogedbacpohaaGreatDoorE01
import Derived.Test.YtajogedbacpohaaGreatDoorE07
set_option linter.unusedVariables false
set_option linter.unusedSimpArgs false
set_option maxRecDepth 1000000
set_option maxHeartbeats 32000000
namespace Go.Proofs.YtajogedbacpohaaGreatDoor
section
open Go Go.RowKit Bg
theorem zzb7 {ds : List Nat} {m : Nat} (h : ∀ d ∈ ds, d < 10000) (hm : m < 10000) : ∀ d ∈ ds ++ [m], d < 10000 := fun d hd => by
 rcases List.mem_append.1 hd with h1 | h1
 ·exact h d h1
 ·simp at h1; omega
structure AddInv (f g : Nat → Nat) (ds : List Nat) (k : Nat) : Prop where
 lt : ∀ d ∈ ds, d < 10000
 val : vl ds + k * 10000 ^ ds.length = pv f ds.length + pv g ds.length
 one : k ≤ 1
theorem AddInv.step {f g : Nat → Nat} {ds : List Nat} {k : Nat} (h : AddInv f g ds k) (hf : f ds.length < 10000) (hg : g ds.length < 10000) :
  AddInv f g (ds ++ [(f ds.length + g ds.length + k) % 10000]) ((f ds.length + g ds.length + k) / 10000) := by
 refine ⟨zzb7 h.lt zw, ?_, by have := h.one; omega⟩
 rw [zz3r, List.length_append];show _ + _ / 10000 * 10000 ^ (ds.length + 1) = pv f (ds.length + 1) + pv g (ds.length + 1);rw [Nat.pow_succ];exact add_step h.val
theorem AddInv.last {f g : Nat → Nat} {ds : List Nat} {k n m N : Nat} (h : AddInv f g ds k) (hf : Dg f n) (hg : Dg g m) (hn : n ≤ N) (hm : m ≤ N) (hl : ds.length = N + 1) : vl ds = pv f n + pv g m := by
 have hv := h.val;rw [hl, zz28 hf.zero (N + 1) zw, zz28 hg.zero (N + 1) zw] at hv;have h1 := pv_lt n (fun i _ => hf.lt i)
 have h2 := pv_lt m (fun i _ => hg.lt i)
 have h3 : 10000 ^ n ≤ 10000 ^ N := Nat.pow_le_pow_right zx hn;have h4 : 10000 ^ m ≤ 10000 ^ N := Nat.pow_le_pow_right zx hm;rw [Nat.pow_succ] at hv;have hk : k = 0 := by
  by_cases hk : k = 0
  ·exact hk
  ·have : 1 * (10000 ^ N * 10000) ≤ k * (10000 ^ N * 10000) := Nat.mul_le_mul_right _ zw
   omega
 rw [hk] at hv;omega
structure SubInv (f g : Nat → Nat) (ds : List Nat) (k : Nat) : Prop where
 lt : ∀ d ∈ ds, d < 10000
 val : vl ds + pv g ds.length = pv f ds.length + k * 10000 ^ ds.length
 one : k ≤ 1
theorem SubInv.step0 {f g : Nat → Nat} {ds : List Nat} {k : Nat} (h : SubInv f g ds k) (hf : f ds.length < 10000) (hg : g ds.length < 10000) (hle : g ds.length + k ≤ f ds.length) :
  SubInv f g (ds ++ [f ds.length - g ds.length - k]) 0 := by
 refine ⟨zzb7 h.lt zw, ?_, by omega⟩
 rw [zz3r, List.length_append];show _ + pv g (ds.length + 1) = pv f (ds.length + 1) + _ * 10000 ^ (ds.length + 1);rw [Nat.pow_succ];exact (zzad h.val h.one hf hg).1 hle
theorem SubInv.step1 {f g : Nat → Nat} {ds : List Nat} {k : Nat} (h : SubInv f g ds k) (hf : f ds.length < 10000) (hg : g ds.length < 10000) (hlt : f ds.length < g ds.length + k) :
  SubInv f g (ds ++ [f ds.length + 10000 - g ds.length - k]) 1 := by
 have h1 := h.one;refine ⟨zzb7 h.lt zw, ?_, by omega⟩
 rw [zz3r, List.length_append];show _ + pv g (ds.length + 1) = pv f (ds.length + 1) + _ * 10000 ^ (ds.length + 1);rw [Nat.pow_succ];exact (zzad h.val h.one hf hg).2 hlt
theorem SubInv.last {f g : Nat → Nat} {ds : List Nat} {k n m N : Nat} (h : SubInv f g ds k) (hf : Dg f n) (hg : Dg g m) (hn : n ≤ N) (hm : m ≤ N) (hl : ds.length = N) (hle : pv g m ≤ pv f n) : vl ds = pv f n - pv g m := by
 have hv := h.val;have hb : vl ds < 10000 ^ N := by
  rw [← hl]; exact pv_lt _ (fun i _ => (dg_dg h.lt).lt i)
 rw [hl, zz28 hf.zero N hn, zz28 hg.zero N hm] at hv;have hk : k = 0 := by
  by_cases hk : k = 0
  ·exact hk
  ·have : 1 * 10000 ^ N ≤ k * 10000 ^ N := Nat.mul_le_mul_right _ zw
   omega
 rw [hk] at hv;omega
theorem sgn_add {X Y : Int} {s : Bool} (hs : decide (X < 0) = s) (ht : decide (Y < 0) = s) : sgn s (X.natAbs + Y.natAbs) = X + Y := by
 unfold sgn;cases s
 ·have h1 := of_decide_eq_false hs; have h2 := of_decide_eq_false ht; simp; omega
 ·have h1 := of_decide_eq_true hs; have h2 := of_decide_eq_true ht; simp; omega
theorem zzag {X Y : Int} {s t : Bool} (hs : decide (X < 0) = s) (ht : decide (Y < 0) = t) (hst : s ≠ t) (hle : Y.natAbs ≤ X.natAbs) : sgn s (X.natAbs - Y.natAbs) = X + Y := by
 unfold sgn;cases s
 ·cases t
  ·exact absurd rfl hst
  ·have h1 := of_decide_eq_false hs; have h2 := of_decide_eq_true ht; simp; omega
 ·cases t
  ·have h1 := of_decide_eq_true hs; have h2 := of_decide_eq_false ht; simp; omega
  ·exact absurd rfl hst
theorem zt2 {p : Prop} (h : p := by
 have q1 := zH (fun i => qB.out ds.length (wr.drewN i) (zH (HB.out.call (zz0b KB.out i))) zw)
 have q2 := zH (fun i => qA.out ds.length (wr.drewN i) (zH (HA.out.call (zz0b KB.out i))) zw)
 have a1 := Hg.out.lt ds.length;have b1 := Hf.out.lt ds.length;have hk1 := HI.out.one;by_cases hbor : f ds.length + k ≤ g ds.length
 ·have hst := zH (HI.out.step0 a1 b1 hbor)
  obtain ⟨a, ha⟩ : ∃ a, g ds.length = a := ⟨_, rfl⟩;obtain ⟨b, hb⟩ : ∃ b, f ds.length = b := ⟨_, rfl⟩;rw [ha] at q1 hst a1 hbor;rw [hb] at q2 hst b1 hbor;obtain ⟨mm, hm⟩ : ∃ x, a - b - k = x := ⟨_, rfl⟩;have t3 : ((a : Int) - (b : Int) - (k : Int)) = (mm : Int) := by omega
  have t2 : ¬ ((mm : Int) < 0) := by omega
  have hmm : mm < 10000 := by omega
  rw [hm] at hst;clear ha hb hm HI;go_wp2_with fail;go_quiet ((go_at_call 158; first | (with_reducible exact zz0v (q1.out _)) | (with_reducible exact zz0v (q2.out _))))
  replace K1 : Hid (BigBlk (wr.drewN nq) w.heap.size t (.slice B m d)) := K1.out;replace K2 : Hid (BigBlk (wr.drewN nq) (w.heap.size + 1) s (.slice A n c)) := K2.out;replace K3 : Hid (BigBlk (wr.drewN nq) (w.heap.size + 1 + 1) false (.slice none 0 0)) := K3.out;replace K4 : Hid (BigBlk (wr.drewN nq) (w.heap.size + 3) t v) := K4.out;replace HR : Hid ((wr.drewN nq).ownsRow (w.heap.size + 4) 3 1 v ds.length (ds.map fun d => .int .i64 (d : Nat))) := HR.out
  replace KB : Hid (Below w.heap.size w (wr.drewN nq)) := zz0b KB.out nq;replace HZ : Hid (w.heap.size + 4 ≤ (wr.drewN nq).heap.size) := HZ.out;clear e0 e1 e2 e3 q1 q2;generalize wr.drewN nq = wq at *;clear wr;have e0 := K1.out.c1;have e1 := K2.out.c1;have e2 := K4.out.c0;have e3 := K4.out.c1;go_wp2_with (at_builtin; refine zz0k _ _ _ _ _ _ el_int (fun d : Nat => Value.int .i64 (d : Int)) mm _ _ _ (Below.refl _ wq) HR HZ.out rfl rfl rfl rfl rfl zw zx ?_; intro v4 w4 hown4 hb4 hB4; refine Hid.out ?_)
  refine zH ?_;obtain ⟨A4, c4, rfl, _, _, _, _⟩ := zz10 (ds := ds ++ [mm]) (by rw [List.length_append]; exact hown4.out)
  rw [show (ds ++ [mm]).length = ds.length + 1 by simp] at hown4
  have G1 := zH (K1.out.below hb4 (show w.heap.size < w.heap.size + 4 by omega))
  have G2 := zH (K2.out.below hb4 (show w.heap.size + 1 < w.heap.size + 4 by omega))
  have G3 := zH (K3.out.below hb4 (show w.heap.size + 1 + 1 < w.heap.size + 4 by omega))
  have G4 := zH (K4.out.below hb4 (show w.heap.size + 3 < w.heap.size + 4 by omega))
  have HKB2 := zH (KB.out.trans (hb4.mono (show w.heap.size ≤ w.heap.size + 4 by omega)))
  have L0 := G4.out.c0;have L1 := G4.out.c1;have Lz := G4.out.z 1;clear hb4 HR KB;go_wp2_with fail;go_roundw
  case rel => exact ⟨ds ++ [mm], 0, _, rfl, by simp, by simp; omega, hst.out, G1.out.oth _ _ zw, G2.out.oth _ _ zw, G3.out.oth _ _ zw, G4.out.set1 _, by rw [show (ds ++ [mm]).length = ds.length + 1 by simp]; exact ownsRow_setCell_below hown4.out (a := ⟨w.heap.size + 3, 1, none⟩) (Nat.lt_succ_self _) _, HKB2.out.setCell (by show w.heap.size ≤ w.heap.size + 3; omega) _, by show _ ≤ _; simpa [World.setCell] using hB4⟩
  case measure => simp [intOf]; omega
 ·have hst := zH (HI.out.step1 a1 b1 zw)
  obtain ⟨a, ha⟩ : ∃ a, g ds.length = a := ⟨_, rfl⟩;obtain ⟨b, hb⟩ : ∃ b, f ds.length = b := ⟨_, rfl⟩;rw [ha] at q1 hst a1 hbor;rw [hb] at q2 hst b1 hbor;obtain ⟨mm, hm⟩ : ∃ x, a + 10000 - b - k = x := ⟨_, rfl⟩;have t2 : ((a : Int) - (b : Int) - (k : Int)) < 0 := by omega
  have t3 : ((a : Int) - (b : Int) - (k : Int)) + 10000 = (mm : Int) := by omega
  have hmm : mm < 10000 := by omega
  rw [hm] at hst;clear ha hb hm HI;go_wp2_with fail;go_quiet ((go_at_call 158; first | (with_reducible exact zz0v (q1.out _)) | (with_reducible exact zz0v (q2.out _))))
  replace K1 : Hid (BigBlk (wr.drewN nq) w.heap.size t (.slice B m d)) := K1.out;replace K2 : Hid (BigBlk (wr.drewN nq) (w.heap.size + 1) s (.slice A n c)) := K2.out;replace K3 : Hid (BigBlk (wr.drewN nq) (w.heap.size + 1 + 1) false (.slice none 0 0)) := K3.out;replace K4 : Hid (BigBlk (wr.drewN nq) (w.heap.size + 3) t v) := K4.out;replace HR : Hid ((wr.drewN nq).ownsRow (w.heap.size + 4) 3 1 v ds.length (ds.map fun d => .int .i64 (d : Nat))) := HR.out
  replace KB : Hid (Below w.heap.size w (wr.drewN nq)) := zz0b KB.out nq;replace HZ : Hid (w.heap.size + 4 ≤ (wr.drewN nq).heap.size) := HZ.out;clear e0 e1 e2 e3 q1 q2;generalize wr.drewN nq = wq at *;clear wr;have e0 := K1.out.c1;have e1 := K2.out.c1;have e2 := K4.out.c0;have e3 := K4.out.c1;go_wp2_with (at_builtin; refine zz0k _ _ _ _ _ _ el_int (fun d : Nat => Value.int .i64 (d : Int)) mm _ _ _ (Below.refl _ wq) HR HZ.out rfl rfl rfl rfl rfl zw zx ?_; intro v4 w4 hown4 hb4 hB4; refine Hid.out ?_)
  refine zH ?_;obtain ⟨A4, c4, rfl, _, _, _, _⟩ := zz10 (ds := ds ++ [mm]) (by rw [List.length_append]; exact hown4.out)
  rw [show (ds ++ [mm]).length = ds.length + 1 by simp] at hown4
  have G1 := zH (K1.out.below hb4 (show w.heap.size < w.heap.size + 4 by omega))
  have G2 := zH (K2.out.below hb4 (show w.heap.size + 1 < w.heap.size + 4 by omega))
  have G3 := zH (K3.out.below hb4 (show w.heap.size + 1 + 1 < w.heap.size + 4 by omega))
  have G4 := zH (K4.out.below hb4 (show w.heap.size + 3 < w.heap.size + 4 by omega))
  have HKB2 := zH (KB.out.trans (hb4.mono (show w.heap.size ≤ w.heap.size + 4 by omega)))
  have L0 := G4.out.c0;have L1 := G4.out.c1;have Lz := G4.out.z 1;clear hb4 HR KB;go_wp2_with fail;go_roundw
  case rel => exact ⟨ds ++ [mm], 1, _, rfl, by simp, by simp; omega, hst.out, G1.out.oth _ _ zw, G2.out.oth _ _ zw, G3.out.oth _ _ zw, G4.out.set1 _, by rw [show (ds ++ [mm]).length = ds.length + 1 by simp]; exact ownsRow_setCell_below hown4.out (a := ⟨w.heap.size + 3, 1, none⟩) (Nat.lt_succ_self _) _, HKB2.out.setCell (by show w.heap.size ≤ w.heap.size + 3; omega) _, by show _ ≤ _; simpa [World.setCell] using hB4⟩
  case measure => simp [intOf]; omega) : p := h
theorem zt3 {p : Prop} (h : p := by
 have q1 := zH (fun i => qA.out ds.length (wr.drewN i) (zH (HA.out.call (zz0b KB.out i))) zw)
 have q2 := zH (fun i => qB.out ds.length (wr.drewN i) (zH (HB.out.call (zz0b KB.out i))) zw)
 have a1 := Hf.out.lt ds.length;have b1 := Hg.out.lt ds.length;have hk1 := HI.out.one;by_cases hbor : g ds.length + k ≤ f ds.length
 ·have hst := zH (HI.out.step0 a1 b1 hbor)
  obtain ⟨a, ha⟩ : ∃ a, f ds.length = a := ⟨_, rfl⟩;obtain ⟨b, hb⟩ : ∃ b, g ds.length = b := ⟨_, rfl⟩;rw [ha] at q1 hst a1 hbor;rw [hb] at q2 hst b1 hbor;obtain ⟨mm, hm⟩ : ∃ x, a - b - k = x := ⟨_, rfl⟩;have t3 : ((a : Int) - (b : Int) - (k : Int)) = (mm : Int) := by omega
  have t2 : ¬ ((mm : Int) < 0) := by omega
  have hmm : mm < 10000 := by omega
  rw [hm] at hst;clear ha hb hm HI;go_wp2_with fail;go_quiet ((go_at_call 158; first | (with_reducible exact zz0v (q1.out _)) | (with_reducible exact zz0v (q2.out _))))
  replace K1 : Hid (BigBlk (wr.drewN nq) w.heap.size s (.slice A n c)) := K1.out;replace K2 : Hid (BigBlk (wr.drewN nq) (w.heap.size + 1) t (.slice B m d)) := K2.out;replace K3 : Hid (BigBlk (wr.drewN nq) (w.heap.size + 1 + 1) false (.slice none 0 0)) := K3.out;replace K4 : Hid (BigBlk (wr.drewN nq) (w.heap.size + 3) s v) := K4.out;replace HR : Hid ((wr.drewN nq).ownsRow (w.heap.size + 4) 3 1 v ds.length (ds.map fun d => .int .i64 (d : Nat))) := HR.out
  replace KB : Hid (Below w.heap.size w (wr.drewN nq)) := zz0b KB.out nq;replace HZ : Hid (w.heap.size + 4 ≤ (wr.drewN nq).heap.size) := HZ.out;clear e0 e1 e2 e3 q1 q2;generalize wr.drewN nq = wq at *;clear wr;have e0 := K1.out.c1;have e1 := K2.out.c1;have e2 := K4.out.c0;have e3 := K4.out.c1;go_wp2_with (at_builtin; refine zz0k _ _ _ _ _ _ el_int (fun d : Nat => Value.int .i64 (d : Int)) mm _ _ _ (Below.refl _ wq) HR HZ.out rfl rfl rfl rfl rfl zw zx ?_; intro v4 w4 hown4 hb4 hB4; refine Hid.out ?_)
  refine zH ?_;obtain ⟨A4, c4, rfl, _, _, _, _⟩ := zz10 (ds := ds ++ [mm]) (by rw [List.length_append]; exact hown4.out)
  rw [show (ds ++ [mm]).length = ds.length + 1 by simp] at hown4
  have G1 := zH (K1.out.below hb4 (show w.heap.size < w.heap.size + 4 by omega))
  have G2 := zH (K2.out.below hb4 (show w.heap.size + 1 < w.heap.size + 4 by omega))
  have G3 := zH (K3.out.below hb4 (show w.heap.size + 1 + 1 < w.heap.size + 4 by omega))
  have G4 := zH (K4.out.below hb4 (show w.heap.size + 3 < w.heap.size + 4 by omega))
  have HKB2 := zH (KB.out.trans (hb4.mono (show w.heap.size ≤ w.heap.size + 4 by omega)))
  have L0 := G4.out.c0;have L1 := G4.out.c1;have Lz := G4.out.z 1;clear hb4 HR KB;go_wp2_with fail;go_roundw
  case rel => exact ⟨ds ++ [mm], 0, _, rfl, by simp, by simp; omega, hst.out, G1.out.oth _ _ zw, G2.out.oth _ _ zw, G3.out.oth _ _ zw, G4.out.set1 _, by rw [show (ds ++ [mm]).length = ds.length + 1 by simp]; exact ownsRow_setCell_below hown4.out (a := ⟨w.heap.size + 3, 1, none⟩) (Nat.lt_succ_self _) _, HKB2.out.setCell (by show w.heap.size ≤ w.heap.size + 3; omega) _, by show _ ≤ _; simpa [World.setCell] using hB4⟩
  case measure => simp [intOf]; omega
 ·have hst := zH (HI.out.step1 a1 b1 zw)
  obtain ⟨a, ha⟩ : ∃ a, f ds.length = a := ⟨_, rfl⟩;obtain ⟨b, hb⟩ : ∃ b, g ds.length = b := ⟨_, rfl⟩;rw [ha] at q1 hst a1 hbor;rw [hb] at q2 hst b1 hbor;obtain ⟨mm, hm⟩ : ∃ x, a + 10000 - b - k = x := ⟨_, rfl⟩;have t2 : ((a : Int) - (b : Int) - (k : Int)) < 0 := by omega
  have t3 : ((a : Int) - (b : Int) - (k : Int)) + 10000 = (mm : Int) := by omega
  have hmm : mm < 10000 := by omega
  rw [hm] at hst;clear ha hb hm HI;go_wp2_with fail;go_quiet ((go_at_call 158; first | (with_reducible exact zz0v (q1.out _)) | (with_reducible exact zz0v (q2.out _))))
  replace K1 : Hid (BigBlk (wr.drewN nq) w.heap.size s (.slice A n c)) := K1.out;replace K2 : Hid (BigBlk (wr.drewN nq) (w.heap.size + 1) t (.slice B m d)) := K2.out;replace K3 : Hid (BigBlk (wr.drewN nq) (w.heap.size + 1 + 1) false (.slice none 0 0)) := K3.out;replace K4 : Hid (BigBlk (wr.drewN nq) (w.heap.size + 3) s v) := K4.out;replace HR : Hid ((wr.drewN nq).ownsRow (w.heap.size + 4) 3 1 v ds.length (ds.map fun d => .int .i64 (d : Nat))) := HR.out
  replace KB : Hid (Below w.heap.size w (wr.drewN nq)) := zz0b KB.out nq;replace HZ : Hid (w.heap.size + 4 ≤ (wr.drewN nq).heap.size) := HZ.out;clear e0 e1 e2 e3 q1 q2;generalize wr.drewN nq = wq at *;clear wr;have e0 := K1.out.c1;have e1 := K2.out.c1;have e2 := K4.out.c0;have e3 := K4.out.c1;go_wp2_with (at_builtin; refine zz0k _ _ _ _ _ _ el_int (fun d : Nat => Value.int .i64 (d : Int)) mm _ _ _ (Below.refl _ wq) HR HZ.out rfl rfl rfl rfl rfl zw zx ?_; intro v4 w4 hown4 hb4 hB4; refine Hid.out ?_)
  refine zH ?_;obtain ⟨A4, c4, rfl, _, _, _, _⟩ := zz10 (ds := ds ++ [mm]) (by rw [List.length_append]; exact hown4.out)
  rw [show (ds ++ [mm]).length = ds.length + 1 by simp] at hown4
  have G1 := zH (K1.out.below hb4 (show w.heap.size < w.heap.size + 4 by omega))
  have G2 := zH (K2.out.below hb4 (show w.heap.size + 1 < w.heap.size + 4 by omega))
  have G3 := zH (K3.out.below hb4 (show w.heap.size + 1 + 1 < w.heap.size + 4 by omega))
  have G4 := zH (K4.out.below hb4 (show w.heap.size + 3 < w.heap.size + 4 by omega))
  have HKB2 := zH (KB.out.trans (hb4.mono (show w.heap.size ≤ w.heap.size + 4 by omega)))
  have L0 := G4.out.c0;have L1 := G4.out.c1;have Lz := G4.out.z 1;clear hb4 HR KB;go_wp2_with fail;go_roundw
  case rel => exact ⟨ds ++ [mm], 1, _, rfl, by simp, by simp; omega, hst.out, G1.out.oth _ _ zw, G2.out.oth _ _ zw, G3.out.oth _ _ zw, G4.out.set1 _, by rw [show (ds ++ [mm]).length = ds.length + 1 by simp]; exact ownsRow_setCell_below hown4.out (a := ⟨w.heap.size + 3, 1, none⟩) (Nat.lt_succ_self _) _, HKB2.out.setCell (by show w.heap.size ≤ w.heap.size + 3; omega) _, by show _ ≤ _; simpa [World.setCell] using hB4⟩
  case measure => simp [intOf]; omega) : p := h
theorem zt6 {p : Prop} (h : p := by
 rw [show pv (dg ds) ds.length = vl ds from rfl] at qT
 rw [hvl] at qT; rw [hval.out] at qT;have QT := zH qT;clear qT hdd hlN hvl hlen;go_wp2_with fail;(with_reducible refine QT.out.mono ?_);rintro e w5 ⟨⟨v5, rfl, hv5⟩, hb5⟩;obtain ⟨t5, A5, n5, c5, rfl⟩ := hv5.form;have H5 := zH (K3.out.call hb5);have HV5 := zH hv5;have HB5 := zB KB hb5;have d0 := H5.out.c0;have d1 := H5.out.c1;have f0 := H5.out.z 0;have f1 := H5.out.z 1;clear hv5 hb5 K3 KB;go_wp2_with fail;refine bodyPost_ret (v := .agg #[.bool t5, .slice A5 n5 c5]) ?_ rfl ⟨⟨_, rfl, ?_⟩, ?_⟩
 ·simp [results, Tryz.results112, go_sem, d0, d1]
 ·exact HV5.out.store H5.out
 ·exact (HB5.out.setCell (by show w.heap.size ≤ w.heap.size + 1 + 1; omega) _).setCell (by show w.heap.size ≤ w.heap.size + 1 + 1; omega) _) : p := h
theorem zt7 {p : Prop} (h : p := by
 have q1 := zH (fun i => qA.out ds.length (wr.drewN i) (zH (HA.out.call (zz0b KB.out i))) zw)
 have q2 := zH (fun i => qB.out ds.length (wr.drewN i) (zH (HB.out.call (zz0b KB.out i))) zw)
 have a1 := Hf.out.lt ds.length;have b1 := Hg.out.lt ds.length;have hk1 := HI.out.one;have hst := zH (HI.out.step a1 b1);obtain ⟨a, ha⟩ : ∃ a, f ds.length = a := ⟨_, rfl⟩;obtain ⟨b, hb⟩ : ∃ b, g ds.length = b := ⟨_, rfl⟩;rw [ha] at q1 hst a1;rw [hb] at q2 hst b1;obtain ⟨mm, hm⟩ : ∃ x, (a + b + k) % 10000 = x := ⟨_, rfl⟩;obtain ⟨kk, hk⟩ : ∃ x, (a + b + k) / 10000 = x := ⟨_, rfl⟩;have t2 : ((a : Int) + (b : Int) + (k : Int)).tmod 10000 = (mm : Int) := by rw [Int.tmod_eq_emod_of_nonneg zw]; omega
 have t3 : ((a : Int) + (b : Int) + (k : Int)).tdiv 10000 = (kk : Int) := by rw [Int.tdiv_eq_ediv_of_nonneg zw]; omega
 have hkk : kk ≤ 1 := by omega
 have hmm : mm < 10000 := by omega
 rw [hm, hk] at hst;clear ha hb hm hk HI;go_wp2_with fail;go_quiet ((go_at_call 158; first | (with_reducible exact zz0v (q1.out _)) | (with_reducible exact zz0v (q2.out _))))
 replace K1 : Hid (BigBlk (wr.drewN nq) w.heap.size s (.slice A n c)) := K1.out;replace K2 : Hid (BigBlk (wr.drewN nq) (w.heap.size + 1) s (.slice B m d)) := K2.out;replace K3 : Hid (BigBlk (wr.drewN nq) (w.heap.size + 1 + 1) false (.slice none 0 0)) := K3.out;replace K4 : Hid (BigBlk (wr.drewN nq) (w.heap.size + 3) s v) := K4.out;replace HR : Hid ((wr.drewN nq).ownsRow (w.heap.size + 4) 3 1 v ds.length (ds.map fun d => .int .i64 (d : Nat))) := HR.out
 replace KB : Hid (Below w.heap.size w (wr.drewN nq)) := zz0b KB.out nq;replace HZ : Hid (w.heap.size + 4 ≤ (wr.drewN nq).heap.size) := HZ.out;clear e0 e1 e2 e3 q1 q2;generalize wr.drewN nq = wq at *;clear wr;have e0 := K1.out.c1;have e1 := K2.out.c1;have e2 := K4.out.c0;have e3 := K4.out.c1;go_wp2_with (at_builtin; refine zz0k _ _ _ _ _ _ el_int (fun d : Nat => Value.int .i64 (d : Int)) mm _ _ _ (Below.refl _ wq) HR HZ.out rfl rfl rfl rfl rfl zw zx ?_; intro v4 w4 hown4 hb4 hB4; refine Hid.out ?_)
 refine zH ?_;obtain ⟨A4, c4, rfl, _, _, _, _⟩ := zz10 (ds := ds ++ [mm]) (by rw [List.length_append]; exact hown4.out)
 rw [show (ds ++ [mm]).length = ds.length + 1 by simp] at hown4
 have G1 := zH (K1.out.below hb4 (show w.heap.size < w.heap.size + 4 by omega))
 have G2 := zH (K2.out.below hb4 (show w.heap.size + 1 < w.heap.size + 4 by omega))
 have G3 := zH (K3.out.below hb4 (show w.heap.size + 1 + 1 < w.heap.size + 4 by omega))
 have G4 := zH (K4.out.below hb4 (show w.heap.size + 3 < w.heap.size + 4 by omega))
 have HKB2 := zH (KB.out.trans (hb4.mono (show w.heap.size ≤ w.heap.size + 4 by omega)))
 have L0 := G4.out.c0;have L1 := G4.out.c1;have Lz := G4.out.z 1;clear hb4 HR KB;go_wp2_with fail;go_roundw
 case rel => exact ⟨ds ++ [mm], kk, _, rfl, by simp, by simp; omega, hst.out, G1.out.oth _ _ zw, G2.out.oth _ _ zw, G3.out.oth _ _ zw, G4.out.set1 _, by rw [show (ds ++ [mm]).length = ds.length + 1 by simp]; exact ownsRow_setCell_below hown4.out (a := ⟨w.heap.size + 3, 1, none⟩) (Nat.lt_succ_self _) _, HKB2.out.setCell (by show w.heap.size ≤ w.heap.size + 3; omega) _, by show _ ≤ _; simpa [World.setCell] using hB4⟩
 case measure => simp [intOf]; omega) : p := h
theorem zt92 {p : Prop} (h : p := by
 show _ = _;have hv1 := HV.out.1;have hv2 := HV.out.2;have := zzag (X := Y) (Y := X) HS.out.2 HS.out.1 (fun h => hst h.symm) zw
 rw [hv1, hv2];rw [Int.add_comm X Y]; exact this) : p := h
theorem zz1t (x y : Value) (X Y : Int) (w : World) (hx : Hid (BigAt w x X)) (hy : Hid (BigAt w y Y)) (bX : X.natAbs < 10000 ^ 40) (bY : Y.natAbs < 10000 ^ 40) :
  Calls Tryz.prog 112 #[x, y] w fun e w' => (∃ v, e = .returned v ∧ BigAt w' v (X + Y)) ∧ Below w.heap.size w w' := by
 obtain ⟨A, n, c, f, rfl, hc, hv, hd, hn⟩ := hx.out;obtain ⟨B, m, d, g, rfl, kc, kv, kd, km⟩ := hy.out;have hn40 := zz1q (k := 40) hc (by rw [hv]; exact bX)
 have hm40 := zz1q (k := 40) kc (by rw [kv]; exact bY)
 obtain ⟨s, hs⟩ : ∃ s, decide (X < 0) = s := ⟨_, rfl⟩;obtain ⟨t, ht⟩ : ∃ t, decide (Y < 0) = t := ⟨_, rfl⟩;rw [hs, ht];have HS := zH (And.intro hs ht);have HV := zH (And.intro hv kv);have Hf : Hid (Dg f n) := hc.toDg;have Hg : Hid (Dg g m) := kc.toDg;have HA := zH hd;have HB := zH kd;have qA := zH (fun i w' (h : Hid (DigAt w' A n f)) (hi : i ≤ 100) => zzbw A n c f i w' h Hf zw zw)
 have qB := zH (fun i w' (h : Hid (DigAt w' B m g)) (hi : i ≤ 100) => zzbw B m d g i w' h Hg zw zw)
 have h1 := ((BigBlk.mk w _ s (.slice A n c) rfl).alloc (.cells #[.bool t, .slice B m d] 143)).alloc (.cells #[.bool false, .slice none 0 0] 143);have h2 := (BigBlk.mk (w.alloc (.cells #[.bool s, .slice A n c] 143)) (w.heap.size + 1) t (.slice B m d) (by rw [World.size_alloc])).alloc (.cells #[.bool false, .slice none 0 0] 143)
 have h3 := BigBlk.mk ((w.alloc (.cells #[.bool s, .slice A n c] 143)).alloc (.cells #[.bool t, .slice B m d] 143)) (w.heap.size + 1 + 1) false (.slice none 0 0) (by rw [World.size_alloc, World.size_alloc])
 have hb1 := zz01 (zz01 (zz01 (Below.refl w.heap.size w) (Nat.le_refl _) (.cells #[.bool s, .slice A n c] 143)) (by rw [World.size_alloc]; omega) (.cells #[.bool t, .slice B m d] 143)) (by rw [World.size_alloc, World.size_alloc]; omega) (.cells #[.bool false, .slice none 0 0] 143)
 have hsz : (((w.alloc (.cells #[.bool s, .slice A n c] 143)).alloc (.cells #[.bool t, .slice B m d] 143)).alloc (.cells #[.bool false, .slice none 0 0] 143)).heap.size = w.heap.size + 3 := by rw [World.size_alloc, World.size_alloc, World.size_alloc]
 clear hc kc hv kv hd kd hs ht hx hy bX bY;by_cases hnm : n < m
 ·have hnm' : (n : Int) < m := by omega
  have hN1 : n ≤ m := by omega
  have hN2 : m ≤ m := Nat.le_refl _;have hN40 : m ≤ 40 := hm40;by_cases hst : s = t
  ·subst hst
   have hval := zH (sgn_add HS.out.1 HS.out.2);have hss : (s == s) = true := by simp
   go_in;go_wp2_with fail;generalize ((w.alloc (.cells #[.bool s, .slice A n c] 143)).alloc (.cells #[.bool s, .slice B m d] 143)).alloc (.cells #[.bool false, .slice none 0 0] 143) = w1 at *;have h4 := BigBlk.mk w1 (w.heap.size + 3) s (.slice none 0 0) hsz;have hb4 := zz01 hb1 hb1.size (.cells #[.bool s, .slice none 0 0] 143);have hsz4 : (w1.alloc (.cells #[.bool s, .slice none 0 0] 143)).heap.size = w.heap.size + 4 := by rw [World.size_alloc, hsz]
   have K1 := zH (h1.alloc (.cells #[.bool s, .slice none 0 0] 143));have K2 := zH (h2.alloc (.cells #[.bool s, .slice none 0 0] 143));have K3 := zH (h3.alloc (.cells #[.bool s, .slice none 0 0] 143));have K4 := zH h4;have KB := zH hb4;have KZ := zH hsz4;clear h1 h2 h3 h4 hb1 hb4 hsz4 hss hnm hnm' HS;go_loopw [7, 8, 9] (fun s7 s8 s9 wr => ∃ (ds : List Nat) (k : Nat) (v : Value), s7 = .int .i64 (k : Int) ∧ s8 = .int .i64 (ds.length : Int) ∧ ds.length ≤ m + 1 ∧ Hid (AddInv f g ds k) ∧
    Hid (BigBlk wr w.heap.size s (.slice A n c)) ∧ Hid (BigBlk wr (w.heap.size + 1) s (.slice B m d)) ∧ Hid (BigBlk wr (w.heap.size + 1 + 1) false (.slice none 0 0)) ∧ Hid (BigBlk wr (w.heap.size + 3) s v) ∧
    Hid (wr.ownsRow (w.heap.size + 4) 3 1 v ds.length (ds.map fun d => .int .i64 (d : Nat))) ∧ Hid (Below w.heap.size w wr) ∧ Hid (w.heap.size + 4 ≤ wr.heap.size)) (fun _ s8 _ _ => 100 - (intOf s8).toNat)
   case atStart => exact ⟨[], 0, .slice none 0 0, rfl, rfl, Nat.zero_le _, ⟨fun d hd => by simp at hd, rfl, by omega⟩, K1.out, K2.out, K3.out, K4.out, World.ownsRow_nil _ _ _ _, KB.out, Nat.le_of_eq KZ.out.symm⟩
   case round =>
    clear K1 K2 K3 K4 KB KZ;obtain ⟨ds, k, v, rfl, rfl, hlen, HI, K1, K2, K3, K4, HR, KB, HZ⟩ := hrel;have e0 := K1.out.c1;have e1 := K2.out.c1;have e2 := K4.out.c0;have e3 := K4.out.c1;by_cases hl : ds.length ≤ m
    ·have hl' : (ds.length : Int) ≤ m := by omega
     exact zt7
    ·have hl' : ¬ ((ds.length : Int) ≤ m) := by omega
     have hlN : ds.length = m + 1 := by omega
     have hvl := HI.out.last Hf.out Hg.out hN1 hN2 hlN;rw [HV.out.1, HV.out.2] at hvl;obtain ⟨A4, c4, rfl, _, hcc, _, _⟩ := zz10 HR.out;have hdd := zH (zz10 HR.out);have hDG : Hid (Dg (dg ds) ds.length) := dg_dg HI.out.lt;have hD4 : Hid (DigAt wr A4 ds.length (dg ds)) := by
      obtain ⟨A', c', hs', hd', _, _, _⟩ := hdd.out;cases hs';exact hd'
     have qT := zz1y s A4 ds.length c4 (dg ds) wr hD4 hDG zw hcc;exact zt6
  ·have hss : (s == t) = false := by cases s <;> cases t <;> simp_all
   have qL := zH (zz5u A B n m c d f g);by_cases hlt : pv f n < pv g m
   ·have hle : pv f n ≤ pv g m := by omega
    have hL : decide (pv f n < pv g m) = true := decide_eq_true hlt;have hval : Hid (sgn t ((pv g m - pv f n : Nat)) = X + Y) := by
     exact zt92
    have qL := zH (fun w' h1 h2 => qL.out w' h1 h2 Hf Hg zw zw)
    rw [hL] at qL;clear hlt hL;go_in;go_wp2_with fail;generalize ((w.alloc (.cells #[.bool s, .slice A n c] 143)).alloc (.cells #[.bool t, .slice B m d] 143)).alloc (.cells #[.bool false, .slice none 0 0] 143) = w1 at *;have L1 := zH (HA.out.call hb1);have L2 := zH (HB.out.call hb1);(with_reducible refine (qL.out w1 L1 L2).mono ?_);rintro e w9 ⟨rfl, rfl⟩;have u0 := h1.c0;have u1 := h1.c1;have u2 := h2.c0;have u3 := h2.c1;have u4 := h1.z 0;have u5 := h1.z 1;have u6 := h2.z 0;have u7 := h2.z 1;have hW1 : w.heap.size < w1.heap.size := h1.lt;have hW2 : w.heap.size + 1 < w1.heap.size := h2.lt;have p1 := (((h1.set0 t).set1 (.slice B m d)).oth (q := w.heap.size + 1) 0 (.bool s) zw).oth (q := w.heap.size + 1) 1 (.slice A n c) zw;have p2 := ((((h2.oth (q := w.heap.size) 0 (.bool t) zw).oth (q := w.heap.size) 1 (.slice B m d) zw).set0 s).set1 (.slice A n c));have p3 := (((h3.oth (q := w.heap.size) 0 (.bool t) zw).oth (q := w.heap.size) 1 (.slice B m d) zw).oth (q := w.heap.size + 1) 0 (.bool s) zw).oth (q := w.heap.size + 1) 1 (.slice A n c) zw;have pb := (((hb1.setCell (p := ⟨w.heap.size, 0, none⟩) (Nat.le_refl _) (.bool t)).setCell (p := ⟨w.heap.size, 1, none⟩) (Nat.le_refl _) (.slice B m d)).setCell (p := ⟨w.heap.size + 1, 0, none⟩) (Nat.le_succ _) (.bool s)).setCell (p := ⟨w.heap.size + 1, 1, none⟩) (Nat.le_succ _) (.slice A n c);have pz : ((((w1.setCell ⟨w.heap.size, 0, none⟩ (.bool t)).setCell ⟨w.heap.size, 1, none⟩ (.slice B m d)).setCell ⟨w.heap.size + 1, 0, none⟩ (.bool s)).setCell ⟨w.heap.size + 1, 1, none⟩ (.slice A n c)).heap.size = w.heap.size + 3 := by simpa [World.setCell] using hsz
    go_wp2_with fail;have h4 := BigBlk.mk ((((w1.setCell ⟨w.heap.size, 0, none⟩ (.bool t)).setCell ⟨w.heap.size, 1, none⟩ (.slice B m d)).setCell ⟨w.heap.size + 1, 0, none⟩ (.bool s)).setCell ⟨w.heap.size + 1, 1, none⟩ (.slice A n c)) (w.heap.size + 3) t (.slice none 0 0) pz;have hb4 := zz01 pb pb.size (.cells #[.bool t, .slice none 0 0] 143);have hsz4 : (((((w1.setCell ⟨w.heap.size, 0, none⟩ (.bool t)).setCell ⟨w.heap.size, 1, none⟩ (.slice B m d)).setCell ⟨w.heap.size + 1, 0, none⟩ (.bool s)).setCell ⟨w.heap.size + 1, 1, none⟩ (.slice A n c)).alloc (.cells #[.bool t, .slice none 0 0] 143)).heap.size = w.heap.size + 4 := by rw [World.size_alloc, pz]
    have K1 := zH (p1.alloc (.cells #[.bool t, .slice none 0 0] 143));have K2 := zH (p2.alloc (.cells #[.bool t, .slice none 0 0] 143));have K3 := zH (p3.alloc (.cells #[.bool t, .slice none 0 0] 143));have K4 := zH h4;have KB := zH hb4;have KZ := zH hsz4;clear h1 h2 h3 h4 hb1 hb4 hsz4 hss hnm hnm' HS p1 p2 p3 pb pz u0 u1 u2 u3 u4 u5 u6 u7 hW1 hW2 L1 L2 qL hsz;go_loopw [11, 12, 13] (fun s11 s12 s13 wr => ∃ (ds : List Nat) (k : Nat) (v : Value), s11 = .int .i64 (k : Int) ∧ s12 = .int .i64 (ds.length : Int) ∧ ds.length ≤ m ∧ Hid (SubInv g f ds k) ∧
     Hid (BigBlk wr w.heap.size t (.slice B m d)) ∧ Hid (BigBlk wr (w.heap.size + 1) s (.slice A n c)) ∧ Hid (BigBlk wr (w.heap.size + 1 + 1) false (.slice none 0 0)) ∧ Hid (BigBlk wr (w.heap.size + 3) t v) ∧
     Hid (wr.ownsRow (w.heap.size + 4) 3 1 v ds.length (ds.map fun d => .int .i64 (d : Nat))) ∧ Hid (Below w.heap.size w wr) ∧ Hid (w.heap.size + 4 ≤ wr.heap.size)) (fun _ s12 _ _ => 100 - (intOf s12).toNat)
    case atStart => exact ⟨[], 0, .slice none 0 0, rfl, rfl, Nat.zero_le _, ⟨fun d hd => by simp at hd, rfl, by omega⟩, K1.out, K2.out, K3.out, K4.out, World.ownsRow_nil _ _ _ _, KB.out, Nat.le_of_eq KZ.out.symm⟩
    case round =>
     clear K1 K2 K3 K4 KB KZ;obtain ⟨ds, k, v, rfl, rfl, hlen, HI, K1, K2, K3, K4, HR, KB, HZ⟩ := hrel;have e0 := K1.out.c1;have e1 := K2.out.c1;have e2 := K4.out.c0;have e3 := K4.out.c1;by_cases hl : ds.length < m
     ·have hl' : (ds.length : Int) < m := by omega
      exact zt2
     ·have hl' : ¬ ((ds.length : Int) < m) := by omega
      have hlN : ds.length = m := by omega
      have hvl := HI.out.last Hg.out Hf.out hN2 hN1 hlN hle;obtain ⟨A4, c4, rfl, _, hcc, _, _⟩ := zz10 HR.out;have hdd := zH (zz10 HR.out);have hDG : Hid (Dg (dg ds) ds.length) := dg_dg HI.out.lt;have hD4 : Hid (DigAt wr A4 ds.length (dg ds)) := by
       obtain ⟨A', c', hs', hd', _, _, _⟩ := hdd.out;cases hs';exact hd'
      have qT := zz1y t A4 ds.length c4 (dg ds) wr hD4 hDG zw hcc;exact zt6
   ·have hle : pv g m ≤ pv f n := by omega
    have hL : decide (pv f n < pv g m) = false := decide_eq_false hlt;have hval : Hid (sgn s ((pv f n - pv g m : Nat)) = X + Y) := by
     show _ = _;have hv1 := HV.out.1;have hv2 := HV.out.2;have := zzag (X := X) (Y := Y) HS.out.1 HS.out.2 hst zw;rw [hv1, hv2];exact this
    have qL := zH (fun w' h1 h2 => qL.out w' h1 h2 Hf Hg zw zw)
    rw [hL] at qL;clear hlt hL;go_in;go_wp2_with fail;generalize ((w.alloc (.cells #[.bool s, .slice A n c] 143)).alloc (.cells #[.bool t, .slice B m d] 143)).alloc (.cells #[.bool false, .slice none 0 0] 143) = w1 at *;have L1 := zH (HA.out.call hb1);have L2 := zH (HB.out.call hb1);(with_reducible refine (qL.out w1 L1 L2).mono ?_);rintro e w9 ⟨rfl, rfl⟩;have u0 := h1.c0;have u1 := h1.c1;have u2 := h2.c0;have u3 := h2.c1;have u4 := h1.z 0;have u5 := h1.z 1;have u6 := h2.z 0;have u7 := h2.z 1;have hW1 : w.heap.size < w1.heap.size := h1.lt;have hW2 : w.heap.size + 1 < w1.heap.size := h2.lt;have p1 := h1;have p2 := h2;have p3 := h3;have pb := hb1;have pz := hsz;go_wp2_with fail;have h4 := BigBlk.mk (w1) (w.heap.size + 3) s (.slice none 0 0) pz;have hb4 := zz01 pb pb.size (.cells #[.bool s, .slice none 0 0] 143);have hsz4 : ((w1).alloc (.cells #[.bool s, .slice none 0 0] 143)).heap.size = w.heap.size + 4 := by rw [World.size_alloc, pz]
    have K1 := zH (p1.alloc (.cells #[.bool s, .slice none 0 0] 143));have K2 := zH (p2.alloc (.cells #[.bool s, .slice none 0 0] 143));have K3 := zH (p3.alloc (.cells #[.bool s, .slice none 0 0] 143));have K4 := zH h4;have KB := zH hb4;have KZ := zH hsz4;clear h1 h2 h3 h4 hb1 hb4 hsz4 hss hnm hnm' HS p1 p2 p3 pb pz u0 u1 u2 u3 u4 u5 u6 u7 hW1 hW2 L1 L2 qL hsz;go_loopw [11, 12, 13] (fun s11 s12 s13 wr => ∃ (ds : List Nat) (k : Nat) (v : Value), s11 = .int .i64 (k : Int) ∧ s12 = .int .i64 (ds.length : Int) ∧ ds.length ≤ m ∧ Hid (SubInv f g ds k) ∧
     Hid (BigBlk wr w.heap.size s (.slice A n c)) ∧ Hid (BigBlk wr (w.heap.size + 1) t (.slice B m d)) ∧ Hid (BigBlk wr (w.heap.size + 1 + 1) false (.slice none 0 0)) ∧ Hid (BigBlk wr (w.heap.size + 3) s v) ∧
     Hid (wr.ownsRow (w.heap.size + 4) 3 1 v ds.length (ds.map fun d => .int .i64 (d : Nat))) ∧ Hid (Below w.heap.size w wr) ∧ Hid (w.heap.size + 4 ≤ wr.heap.size)) (fun _ s12 _ _ => 100 - (intOf s12).toNat)
    case atStart => exact ⟨[], 0, .slice none 0 0, rfl, rfl, Nat.zero_le _, ⟨fun d hd => by simp at hd, rfl, by omega⟩, K1.out, K2.out, K3.out, K4.out, World.ownsRow_nil _ _ _ _, KB.out, Nat.le_of_eq KZ.out.symm⟩
    case round =>
     clear K1 K2 K3 K4 KB KZ;obtain ⟨ds, k, v, rfl, rfl, hlen, HI, K1, K2, K3, K4, HR, KB, HZ⟩ := hrel;have e0 := K1.out.c1;have e1 := K2.out.c1;have e2 := K4.out.c0;have e3 := K4.out.c1;by_cases hl : ds.length < m
     ·have hl' : (ds.length : Int) < m := by omega
      exact zt3
     ·have hl' : ¬ ((ds.length : Int) < m) := by omega
      have hlN : ds.length = m := by omega
      have hvl := HI.out.last Hf.out Hg.out hN1 hN2 hlN hle;obtain ⟨A4, c4, rfl, _, hcc, _, _⟩ := zz10 HR.out;have hdd := zH (zz10 HR.out);have hDG : Hid (Dg (dg ds) ds.length) := dg_dg HI.out.lt;have hD4 : Hid (DigAt wr A4 ds.length (dg ds)) := by
       obtain ⟨A', c', hs', hd', _, _, _⟩ := hdd.out;cases hs';exact hd'
      have qT := zz1y s A4 ds.length c4 (dg ds) wr hD4 hDG zw hcc;exact zt6
 ·have hnm' : ¬ ((n : Int) < m) := by omega
  have hN1 : n ≤ n := Nat.le_refl _;have hN2 : m ≤ n := by omega
  have hN40 : n ≤ 40 := hn40;by_cases hst : s = t
  ·subst hst
   have hval := zH (sgn_add HS.out.1 HS.out.2);have hss : (s == s) = true := by simp
   go_in;go_wp2_with fail;generalize ((w.alloc (.cells #[.bool s, .slice A n c] 143)).alloc (.cells #[.bool s, .slice B m d] 143)).alloc (.cells #[.bool false, .slice none 0 0] 143) = w1 at *;have h4 := BigBlk.mk w1 (w.heap.size + 3) s (.slice none 0 0) hsz;have hb4 := zz01 hb1 hb1.size (.cells #[.bool s, .slice none 0 0] 143);have hsz4 : (w1.alloc (.cells #[.bool s, .slice none 0 0] 143)).heap.size = w.heap.size + 4 := by rw [World.size_alloc, hsz]
   have K1 := zH (h1.alloc (.cells #[.bool s, .slice none 0 0] 143));have K2 := zH (h2.alloc (.cells #[.bool s, .slice none 0 0] 143));have K3 := zH (h3.alloc (.cells #[.bool s, .slice none 0 0] 143));have K4 := zH h4;have KB := zH hb4;have KZ := zH hsz4;clear h1 h2 h3 h4 hb1 hb4 hsz4 hss hnm hnm' HS;go_loopw [7, 8, 9] (fun s7 s8 s9 wr => ∃ (ds : List Nat) (k : Nat) (v : Value), s7 = .int .i64 (k : Int) ∧ s8 = .int .i64 (ds.length : Int) ∧ ds.length ≤ n + 1 ∧ Hid (AddInv f g ds k) ∧
    Hid (BigBlk wr w.heap.size s (.slice A n c)) ∧ Hid (BigBlk wr (w.heap.size + 1) s (.slice B m d)) ∧ Hid (BigBlk wr (w.heap.size + 1 + 1) false (.slice none 0 0)) ∧ Hid (BigBlk wr (w.heap.size + 3) s v) ∧
    Hid (wr.ownsRow (w.heap.size + 4) 3 1 v ds.length (ds.map fun d => .int .i64 (d : Nat))) ∧ Hid (Below w.heap.size w wr) ∧ Hid (w.heap.size + 4 ≤ wr.heap.size)) (fun _ s8 _ _ => 100 - (intOf s8).toNat)
   case atStart => exact ⟨[], 0, .slice none 0 0, rfl, rfl, Nat.zero_le _, ⟨fun d hd => by simp at hd, rfl, by omega⟩, K1.out, K2.out, K3.out, K4.out, World.ownsRow_nil _ _ _ _, KB.out, Nat.le_of_eq KZ.out.symm⟩
   case round =>
    clear K1 K2 K3 K4 KB KZ;obtain ⟨ds, k, v, rfl, rfl, hlen, HI, K1, K2, K3, K4, HR, KB, HZ⟩ := hrel;have e0 := K1.out.c1;have e1 := K2.out.c1;have e2 := K4.out.c0;have e3 := K4.out.c1;by_cases hl : ds.length ≤ n
    ·have hl' : (ds.length : Int) ≤ n := by omega
     exact zt7
    ·have hl' : ¬ ((ds.length : Int) ≤ n) := by omega
     have hlN : ds.length = n + 1 := by omega
     have hvl := HI.out.last Hf.out Hg.out hN1 hN2 hlN;rw [HV.out.1, HV.out.2] at hvl;obtain ⟨A4, c4, rfl, _, hcc, _, _⟩ := zz10 HR.out;have hdd := zH (zz10 HR.out);have hDG : Hid (Dg (dg ds) ds.length) := dg_dg HI.out.lt;have hD4 : Hid (DigAt wr A4 ds.length (dg ds)) := by
      obtain ⟨A', c', hs', hd', _, _, _⟩ := hdd.out;cases hs';exact hd'
     have qT := zz1y s A4 ds.length c4 (dg ds) wr hD4 hDG zw hcc;exact zt6
  ·have hss : (s == t) = false := by cases s <;> cases t <;> simp_all
   have qL := zH (zz5u A B n m c d f g);by_cases hlt : pv f n < pv g m
   ·have hle : pv f n ≤ pv g m := by omega
    have hL : decide (pv f n < pv g m) = true := decide_eq_true hlt;have hval : Hid (sgn t ((pv g m - pv f n : Nat)) = X + Y) := by
     exact zt92
    have qL := zH (fun w' h1 h2 => qL.out w' h1 h2 Hf Hg zw zw)
    rw [hL] at qL;clear hlt hL;go_in;go_wp2_with fail;generalize ((w.alloc (.cells #[.bool s, .slice A n c] 143)).alloc (.cells #[.bool t, .slice B m d] 143)).alloc (.cells #[.bool false, .slice none 0 0] 143) = w1 at *;have L1 := zH (HA.out.call hb1);have L2 := zH (HB.out.call hb1);(with_reducible refine (qL.out w1 L1 L2).mono ?_);rintro e w9 ⟨rfl, rfl⟩;have u0 := h1.c0;have u1 := h1.c1;have u2 := h2.c0;have u3 := h2.c1;have u4 := h1.z 0;have u5 := h1.z 1;have u6 := h2.z 0;have u7 := h2.z 1;have hW1 : w.heap.size < w1.heap.size := h1.lt;have hW2 : w.heap.size + 1 < w1.heap.size := h2.lt;have p1 := (((h1.set0 t).set1 (.slice B m d)).oth (q := w.heap.size + 1) 0 (.bool s) zw).oth (q := w.heap.size + 1) 1 (.slice A n c) zw;have p2 := ((((h2.oth (q := w.heap.size) 0 (.bool t) zw).oth (q := w.heap.size) 1 (.slice B m d) zw).set0 s).set1 (.slice A n c));have p3 := (((h3.oth (q := w.heap.size) 0 (.bool t) zw).oth (q := w.heap.size) 1 (.slice B m d) zw).oth (q := w.heap.size + 1) 0 (.bool s) zw).oth (q := w.heap.size + 1) 1 (.slice A n c) zw;have pb := (((hb1.setCell (p := ⟨w.heap.size, 0, none⟩) (Nat.le_refl _) (.bool t)).setCell (p := ⟨w.heap.size, 1, none⟩) (Nat.le_refl _) (.slice B m d)).setCell (p := ⟨w.heap.size + 1, 0, none⟩) (Nat.le_succ _) (.bool s)).setCell (p := ⟨w.heap.size + 1, 1, none⟩) (Nat.le_succ _) (.slice A n c);have pz : ((((w1.setCell ⟨w.heap.size, 0, none⟩ (.bool t)).setCell ⟨w.heap.size, 1, none⟩ (.slice B m d)).setCell ⟨w.heap.size + 1, 0, none⟩ (.bool s)).setCell ⟨w.heap.size + 1, 1, none⟩ (.slice A n c)).heap.size = w.heap.size + 3 := by simpa [World.setCell] using hsz
    go_wp2_with fail;have h4 := BigBlk.mk ((((w1.setCell ⟨w.heap.size, 0, none⟩ (.bool t)).setCell ⟨w.heap.size, 1, none⟩ (.slice B m d)).setCell ⟨w.heap.size + 1, 0, none⟩ (.bool s)).setCell ⟨w.heap.size + 1, 1, none⟩ (.slice A n c)) (w.heap.size + 3) t (.slice none 0 0) pz;have hb4 := zz01 pb pb.size (.cells #[.bool t, .slice none 0 0] 143);have hsz4 : (((((w1.setCell ⟨w.heap.size, 0, none⟩ (.bool t)).setCell ⟨w.heap.size, 1, none⟩ (.slice B m d)).setCell ⟨w.heap.size + 1, 0, none⟩ (.bool s)).setCell ⟨w.heap.size + 1, 1, none⟩ (.slice A n c)).alloc (.cells #[.bool t, .slice none 0 0] 143)).heap.size = w.heap.size + 4 := by rw [World.size_alloc, pz]
    have K1 := zH (p1.alloc (.cells #[.bool t, .slice none 0 0] 143));have K2 := zH (p2.alloc (.cells #[.bool t, .slice none 0 0] 143));have K3 := zH (p3.alloc (.cells #[.bool t, .slice none 0 0] 143));have K4 := zH h4;have KB := zH hb4;have KZ := zH hsz4;clear h1 h2 h3 h4 hb1 hb4 hsz4 hss hnm hnm' HS p1 p2 p3 pb pz u0 u1 u2 u3 u4 u5 u6 u7 hW1 hW2 L1 L2 qL hsz;go_loopw [11, 12, 13] (fun s11 s12 s13 wr => ∃ (ds : List Nat) (k : Nat) (v : Value), s11 = .int .i64 (k : Int) ∧ s12 = .int .i64 (ds.length : Int) ∧ ds.length ≤ n ∧ Hid (SubInv g f ds k) ∧
     Hid (BigBlk wr w.heap.size t (.slice B m d)) ∧ Hid (BigBlk wr (w.heap.size + 1) s (.slice A n c)) ∧ Hid (BigBlk wr (w.heap.size + 1 + 1) false (.slice none 0 0)) ∧ Hid (BigBlk wr (w.heap.size + 3) t v) ∧
     Hid (wr.ownsRow (w.heap.size + 4) 3 1 v ds.length (ds.map fun d => .int .i64 (d : Nat))) ∧ Hid (Below w.heap.size w wr) ∧ Hid (w.heap.size + 4 ≤ wr.heap.size)) (fun _ s12 _ _ => 100 - (intOf s12).toNat)
    case atStart => exact ⟨[], 0, .slice none 0 0, rfl, rfl, Nat.zero_le _, ⟨fun d hd => by simp at hd, rfl, by omega⟩, K1.out, K2.out, K3.out, K4.out, World.ownsRow_nil _ _ _ _, KB.out, Nat.le_of_eq KZ.out.symm⟩
    case round =>
     clear K1 K2 K3 K4 KB KZ;obtain ⟨ds, k, v, rfl, rfl, hlen, HI, K1, K2, K3, K4, HR, KB, HZ⟩ := hrel;have e0 := K1.out.c1;have e1 := K2.out.c1;have e2 := K4.out.c0;have e3 := K4.out.c1;by_cases hl : ds.length < n
     ·have hl' : (ds.length : Int) < n := by omega
      exact zt2
     ·have hl' : ¬ ((ds.length : Int) < n) := by omega
      have hlN : ds.length = n := by omega
      have hvl := HI.out.last Hg.out Hf.out hN2 hN1 hlN hle;obtain ⟨A4, c4, rfl, _, hcc, _, _⟩ := zz10 HR.out;have hdd := zH (zz10 HR.out);have hDG : Hid (Dg (dg ds) ds.length) := dg_dg HI.out.lt;have hD4 : Hid (DigAt wr A4 ds.length (dg ds)) := by
       obtain ⟨A', c', hs', hd', _, _, _⟩ := hdd.out;cases hs';exact hd'
      have qT := zz1y t A4 ds.length c4 (dg ds) wr hD4 hDG zw hcc;exact zt6
   ·have hle : pv g m ≤ pv f n := by omega
    have hL : decide (pv f n < pv g m) = false := decide_eq_false hlt;have hval : Hid (sgn s ((pv f n - pv g m : Nat)) = X + Y) := by
     show _ = _;have hv1 := HV.out.1;have hv2 := HV.out.2;have := zzag (X := X) (Y := Y) HS.out.1 HS.out.2 hst zw;rw [hv1, hv2];exact this
    have qL := zH (fun w' h1 h2 => qL.out w' h1 h2 Hf Hg zw zw)
    rw [hL] at qL;clear hlt hL;go_in;go_wp2_with fail;generalize ((w.alloc (.cells #[.bool s, .slice A n c] 143)).alloc (.cells #[.bool t, .slice B m d] 143)).alloc (.cells #[.bool false, .slice none 0 0] 143) = w1 at *;have L1 := zH (HA.out.call hb1);have L2 := zH (HB.out.call hb1);(with_reducible refine (qL.out w1 L1 L2).mono ?_);rintro e w9 ⟨rfl, rfl⟩;have u0 := h1.c0;have u1 := h1.c1;have u2 := h2.c0;have u3 := h2.c1;have u4 := h1.z 0;have u5 := h1.z 1;have u6 := h2.z 0;have u7 := h2.z 1;have hW1 : w.heap.size < w1.heap.size := h1.lt;have hW2 : w.heap.size + 1 < w1.heap.size := h2.lt;have p1 := h1;have p2 := h2;have p3 := h3;have pb := hb1;have pz := hsz;go_wp2_with fail;have h4 := BigBlk.mk (w1) (w.heap.size + 3) s (.slice none 0 0) pz;have hb4 := zz01 pb pb.size (.cells #[.bool s, .slice none 0 0] 143);have hsz4 : ((w1).alloc (.cells #[.bool s, .slice none 0 0] 143)).heap.size = w.heap.size + 4 := by rw [World.size_alloc, pz]
    have K1 := zH (p1.alloc (.cells #[.bool s, .slice none 0 0] 143));have K2 := zH (p2.alloc (.cells #[.bool s, .slice none 0 0] 143));have K3 := zH (p3.alloc (.cells #[.bool s, .slice none 0 0] 143));have K4 := zH h4;have KB := zH hb4;have KZ := zH hsz4;clear h1 h2 h3 h4 hb1 hb4 hsz4 hss hnm hnm' HS p1 p2 p3 pb pz u0 u1 u2 u3 u4 u5 u6 u7 hW1 hW2 L1 L2 qL hsz;go_loopw [11, 12, 13] (fun s11 s12 s13 wr => ∃ (ds : List Nat) (k : Nat) (v : Value), s11 = .int .i64 (k : Int) ∧ s12 = .int .i64 (ds.length : Int) ∧ ds.length ≤ n ∧ Hid (SubInv f g ds k) ∧
     Hid (BigBlk wr w.heap.size s (.slice A n c)) ∧ Hid (BigBlk wr (w.heap.size + 1) t (.slice B m d)) ∧ Hid (BigBlk wr (w.heap.size + 1 + 1) false (.slice none 0 0)) ∧ Hid (BigBlk wr (w.heap.size + 3) s v) ∧
     Hid (wr.ownsRow (w.heap.size + 4) 3 1 v ds.length (ds.map fun d => .int .i64 (d : Nat))) ∧ Hid (Below w.heap.size w wr) ∧ Hid (w.heap.size + 4 ≤ wr.heap.size)) (fun _ s12 _ _ => 100 - (intOf s12).toNat)
    case atStart => exact ⟨[], 0, .slice none 0 0, rfl, rfl, Nat.zero_le _, ⟨fun d hd => by simp at hd, rfl, by omega⟩, K1.out, K2.out, K3.out, K4.out, World.ownsRow_nil _ _ _ _, KB.out, Nat.le_of_eq KZ.out.symm⟩
    case round =>
     clear K1 K2 K3 K4 KB KZ;obtain ⟨ds, k, v, rfl, rfl, hlen, HI, K1, K2, K3, K4, HR, KB, HZ⟩ := hrel;have e0 := K1.out.c1;have e1 := K2.out.c1;have e2 := K4.out.c0;have e3 := K4.out.c1;by_cases hl : ds.length < n
     ·have hl' : (ds.length : Int) < n := by omega
      exact zt3
     ·have hl' : ¬ ((ds.length : Int) < n) := by omega
      have hlN : ds.length = n := by omega
      have hvl := HI.out.last Hf.out Hg.out hN1 hN2 hlN hle;obtain ⟨A4, c4, rfl, _, hcc, _, _⟩ := zz10 HR.out;have hdd := zH (zz10 HR.out);have hDG : Hid (Dg (dg ds) ds.length) := dg_dg HI.out.lt;have hD4 : Hid (DigAt wr A4 ds.length (dg ds)) := by
       obtain ⟨A', c', hs', hd', _, _, _⟩ := hdd.out;cases hs';exact hd'
      have qT := zz1y s A4 ds.length c4 (dg ds) wr hD4 hDG zw hcc;exact zt6
def rowA (h : Nat → Nat) (n : Nat) : Array Value := (Array.range n).map fun j => .int .i64 (h j : Nat)
theorem zz2o (h : Nat → Nat) {n p : Nat} (hp : p < n) : (rowA h n)[p]? = some (.int .i64 (h p : Nat)) := by
 unfold rowA; simp [hp]
def upd (h : Nat → Nat) (p d j : Nat) : Nat := if j = p then d else h j
theorem zzal (h : Nat → Nat) {n p : Nat} (hp : p < n) (d : Nat) : (rowA h n).setIfInBounds p (.int .i64 (d : Nat)) = rowA (upd h p d) n := by
 apply Array.ext_getElem?;intro i;rw [Array.getElem?_setIfInBounds];by_cases hi : i < n
 ·rw [zz2o _ hi, zz2o _ hi]
  unfold upd;by_cases e : p = i
  ·subst e; rw [if_pos rfl, if_pos rfl, if_pos (by unfold rowA; simpa using hp)]
  ·rw [if_neg e, if_neg (fun h => e h.symm)]
 ·have hs : ∀ h, (rowA h n).size = n := fun h => by unfold rowA; simp
  rw [if_neg zw, Array.getElem?_eq_none (by rw [hs]; omega), Array.getElem?_eq_none (by rw [hs]; omega)]
theorem rowA_zero (n : Nat) : rowA (fun _ => 0) n = madeCells #[.int .i64 0] (n * 1) := by
 apply Array.toList_inj.1;rw [toList_madeCells_one, Nat.mul_one];unfold rowA;apply List.ext_getElem (by simp)
 intro i h1 h2;simp
theorem pv_upd (h : Nat → Nat) (p d : Nat) : ∀ n, p < n → pv (upd h p d) n + h p * 10000 ^ p = pv h n + d * 10000 ^ p
 | 0, hp => by omega
 | n + 1, hp => by
  show pv (upd h p d) n + upd h p d n * 10000 ^ n + _ = pv h n + h n * 10000 ^ n + _;by_cases e : p = n
  ·subst e
   have h1 : pv (upd h p d) p = pv h p := zz3e p fun i hi => by unfold upd; rw [if_neg zw]
   have h2 : upd h p d p = d := by unfold upd; rw [if_pos rfl]
   rw [h1, h2]; omega
  ·have h1 := pv_upd h p d n zw
   have h2 : upd h p d n = h n := by unfold upd; rw [if_neg zw]
   rw [h2]; omega
structure MulInv (f g : Nat → Nat) (h : Nat → Nat) (n i j c N : Nat) : Prop where
 lt : ∀ p, h p < 10000
 zero : ∀ p, N ≤ p → h p = 0
 val : pv h N + c * 10000 ^ (i + j) = pv f i * pv g n + f i * pv g j * 10000 ^ i
 one : c ≤ 9999
theorem MulInv.step {f g h : Nat → Nat} {n i j c N : Nat} (H : MulInv f g h n i j c N) (hf : f i < 10000) (hg : g j < 10000) (hp : i + j < N) :
  MulInv f g (upd h (i + j) ((h (i + j) + f i * g j + c) % 10000)) n i (j + 1) ((h (i + j) + f i * g j + c) / 10000) N := by
 have hb : f i * g j ≤ 9999 * 9999 := Nat.mul_le_mul zw zw;have h1 := H.lt (i + j);have h2 := H.one;refine ⟨fun p => ?_, fun p hp2 => ?_, ?_, by omega⟩
 ·unfold upd; split
  ·omega
  ·exact H.lt p
 ·unfold upd; rw [if_neg zw]; exact H.zero p hp2
 ·have h3 := pv_upd h (i + j) ((h (i + j) + f i * g j + c) % 10000) N hp
  have h4 := H.val;have h5 := Nat.div_add_mod (h (i + j) + f i * g j + c) 10000;generalize (h (i + j) + f i * g j + c) % 10000 = d at *;generalize (h (i + j) + f i * g j + c) / 10000 = k at *;have h6 : (10000 * k + d) * 10000 ^ (i + j) = (h (i + j) + f i * g j + c) * 10000 ^ (i + j) := by rw [h5]
  have h7 : 10000 ^ (i + j) = 10000 ^ i * 10000 ^ j := Nat.pow_add _ _ _;have h8 : 10000 ^ (i + (j + 1)) = 10000 ^ (i + j) * 10000 := Nat.pow_succ _ _;show _ + k * 10000 ^ (i + (j + 1)) = pv f i * pv g n + f i * (pv g j + g j * 10000 ^ j) * 10000 ^ i;rw [h8];generalize pv (upd h (i + j) d) N = v1 at *;generalize pv h N = v0 at *;generalize h (i + j) = hp0 at *;rw [h7] at h3 h4 h6 ⊢;generalize 10000 ^ i = q1 at *;generalize 10000 ^ j = q2 at *;generalize pv f i * pv g n = z at *;generalize f i = a at *;generalize g j = b at *;generalize pv g j = y at *
  grind
structure MulOut (f g : Nat → Nat) (h : Nat → Nat) (n i N : Nat) : Prop where
 lt : ∀ p, h p < 10000
 zero : ∀ p, N ≤ p → h p = 0
 val : pv h N = pv f i * pv g n
theorem MulOut.begin {f g h : Nat → Nat} {n i N : Nat} (H : MulOut f g h n i N) : MulInv f g h n i 0 0 N := ⟨H.lt, H.zero, by rw [H.val]; show _ + 0 * _ = _ + f i * 0 * _; omega, by omega⟩
theorem MulInv.close {f g h : Nat → Nat} {m i c N : Nat} (H : MulInv f g h m i (m + 1) c N) (hf : ∀ i, f i < 10000) (hg : Dg g m) : MulOut f g h m (i + 1) N := by
 refine ⟨H.lt, H.zero, ?_⟩;have h1 := H.val;have h2 : pv g (m + 1) = pv g m := zz28 hg.zero _ zw;have h3 := pv_lt (i + 1) (fun j _ => hf j)
 have h4 := pv_lt m (fun j _ => hg.lt j)
 rw [h2] at h1;have h5 : pv f (i + 1) * pv g m = pv f i * pv g m + f i * pv g m * 10000 ^ i := by
  show (pv f i + f i * 10000 ^ i) * pv g m = _
  grind
 rw [← h5] at h1;have h6 : pv f (i + 1) * pv g m < 10000 ^ (i + 1) * 10000 ^ m := Nat.mul_lt_mul'' h3 h4;have h7 : 10000 ^ (i + (m + 1)) = 10000 ^ (i + 1) * 10000 ^ m := by rw [← Nat.pow_add]; congr 1; omega
 rw [h7] at h1;have hc : c = 0 := by
  by_cases hc : c = 0
  ·exact hc
  ·have : 1 * (10000 ^ (i + 1) * 10000 ^ m) ≤ c * (10000 ^ (i + 1) * 10000 ^ m) := Nat.mul_le_mul_right _ zw
   omega
 rw [hc] at h1;omega
theorem sgn_mul {X Y : Int} {s t : Bool} (hs : decide (X < 0) = s) (ht : decide (Y < 0) = t) : sgn (s != t) (X.natAbs * Y.natAbs) = X * Y := by
 have h1 : X = if s then -(X.natAbs : Int) else X.natAbs := by
  cases s
  ·have := of_decide_eq_false hs; simp; omega
  ·have := of_decide_eq_true hs; simp; omega
 have h2 : Y = if t then -(Y.natAbs : Int) else Y.natAbs := by
  cases t
  ·have := of_decide_eq_false ht; simp; omega
  ·have := of_decide_eq_true ht; simp; omega
 generalize X.natAbs = x at *;generalize Y.natAbs = y at *;subst h1 h2;unfold sgn;cases s <;> cases t <;> simp [Int.neg_mul, Int.mul_neg]
theorem zz7z {w : World} {R n B : Nat} (h : w.ownsRow B 3 1 (.slice (some ⟨R, 0, none⟩) n n) n (madeCells (Value.cells (.int .i64 0)) (n * 1)).toList) : w.heap[R]? = some (.cells (rowA (fun _ => 0) n) 3 (0, 0)) := by
 rcases h.2 with ⟨h1, _⟩ | ⟨g, cap, cur, h1, hb, hg, hnc, hcm, hcs, htk⟩
 ·cases h1
 ·cases h1
  have e : cur = rowA (fun _ => 0) n := by
   rw [rowA_zero];apply Array.toList_inj.1;rw [← show cur.toList.take (n * 1) = cur.toList from List.take_of_length_le (by simp; omega), htk]
   rfl
  rw [hg, e]
structure MulW (w wr : World) (s t u : Bool) (A B : Option Addr) (n c m d p R N : Nat) (h : Nat → Nat) : Prop where
 k1 : BigBlk wr w.heap.size s (.slice A n c)
 k2 : BigBlk wr (w.heap.size + 1) t (.slice B m d)
 k3 : BigBlk wr (w.heap.size + 1 + 1) false (.slice none 0 0)
 k4 : BigBlk wr p u (.slice (some ⟨R, 0, none⟩) N N)
 row : wr.heap[R]? = some (.cells (rowA h N) 3 (0, 0))
 low : Below w.heap.size w wr
 ne : p ≠ R
 hp : w.heap.size + 3 ≤ p
 hR : w.heap.size + 3 ≤ R
theorem MulW.drewN {w wr : World} {s t u : Bool} {A B : Option Addr} {n c m d p R N : Nat} {h : Nat → Nat} (H : MulW w wr s t u A B n c m d p R N h) (k : Nat) : MulW w (wr.drewN k) s t u A B n c m d p R N h :=
 ⟨H.k1, H.k2, H.k3, H.k4, H.row, zz0b H.low k, H.ne, H.hp, H.hR⟩
theorem MulW.set {w wr : World} {s t u : Bool} {A B : Option Addr} {n c m d p R N : Nat} {h : Nat → Nat} (H : MulW w wr s t u A B n c m d p R N h) (q x : Nat) (hq : q < N) :
  MulW w (wr.setCell ⟨R, q, none⟩ (.int .i64 (x : Nat))) s t u A B n c m d p R N (upd h q x) :=
 have hp := H.hp;have hR := H.hR
 ⟨H.k1.oth _ _ zw, H.k2.oth _ _ zw, H.k3.oth _ _ zw, H.k4.oth _ _ H.ne, by rw [← zzal h hq x]; exact zz0d H.row q _, H.low.setCell (p := ⟨R, q, none⟩) (by show w.heap.size ≤ R; omega) _, H.ne, H.hp, H.hR⟩
theorem zt4 {p : Prop} (h : p := by
 have HLT := zH hMW.low.size;clear hrow;go_wp2_with fail;go_loopw [6, 7, 8, 9] (fun s6 s7 s8 s9 wr => ∃ (i : Nat) (h : Nat → Nat), s6 = .int .i64 (i : Int) ∧ i ≤ n ∧ Hid (MulOut f g h m i N) ∧ Hid (MulW w wr s t u A B n c m d p R N h)) (fun s6 _ _ _ _ => 100 - (intOf s6).toNat)
 case atStart => exact ⟨0, fun _ => 0, rfl, Nat.zero_le _, ⟨fun _ => by omega, fun _ _ => rfl, by rw [zz28 (f := fun _ => 0) (n := 0) (fun _ _ => rfl) N (Nat.zero_le _)]; show 0 = 0 * _; omega⟩, HMW.out⟩
 case round =>
  clear HMW HLT hMW;obtain ⟨i, h, rfl, hi, HO, HW⟩ := hrel;have e0 := HW.out.k1.c1;have e1 := HW.out.k2.c1;by_cases hin : i < n
  ·have hin' : (i : Int) < n := by omega
   go_wp2_with fail;go_loopw [7, 8, 9] (fun s7 s8 s9 wr => ∃ (j k : Nat) (h : Nat → Nat), s7 = .int .i64 (k : Int) ∧ s8 = .int .i64 (j : Int) ∧ j ≤ m + 1 ∧ Hid (MulInv f g h m i j k N) ∧ Hid (MulW w wr s t u A B n c m d p R N h)) (fun _ s8 _ _ => 100 - (intOf s8).toNat)
   case atStart => exact ⟨0, 0, h, rfl, rfl, Nat.zero_le _, HO.out.begin, HW.out⟩
   case round =>
    clear HO HW e0 e1 h;obtain ⟨j, k, h, rfl, rfl, hj, HI, HW⟩ := hrel;have e0 := HW.out.k1.c1;have e1 := HW.out.k2.c1;have e2 := HW.out.k4.c1;by_cases hjm : j ≤ m
    ·have hjm' : (j : Int) ≤ m := by omega
     have hn3 := HN.out;obtain ⟨b, ob, rfl, hblt, hbc⟩ := (HA.out.call HW.out.low) i hin;have q2 := zH (fun x => qB.out j (wr.drewN x) (zH (HB.out.call (zz0b HW.out.low x))) zw)
     have a1 := Hf.out.lt i;have b1 := Hg.out.lt j;have c1 := HI.out.lt (i + j);have hk1 := HI.out.one;have hst := zH (HI.out.step a1 b1 zw);have hrq := zz00 HW.out.row (i + j) _ (zz2o h (show i + j < N by omega))
     have hrz := zz05 HW.out.row (i + j);have hqN : i + j < N := by omega
     obtain ⟨q, hq⟩ : ∃ q, i + j = q := ⟨_, rfl⟩;rw [hq] at c1 hst hrq hrz hqN;have hij : (i : Int) + (j : Int) = (q : Int) := by omega
     obtain ⟨hv, hhv⟩ : ∃ x, h q = x := ⟨_, rfl⟩;obtain ⟨a, ha⟩ : ∃ x, f i = x := ⟨_, rfl⟩;obtain ⟨bb, hbb⟩ : ∃ x, g j = x := ⟨_, rfl⟩;rw [hhv] at c1 hst hrq;rw [ha] at a1 hst hbc;rw [hbb] at b1 hst q2;have hpb : a * bb ≤ 9999 * 9999 := Nat.mul_le_mul zw zw;obtain ⟨pp, hpp⟩ : ∃ x, a * bb = x := ⟨_, rfl⟩;rw [hpp] at hst hpb;have hppi : (a : Int) * (bb : Int) = (pp : Int) := by rw [← hpp]; simp
     obtain ⟨mm, hmm⟩ : ∃ x, (hv + pp + k) % 10000 = x := ⟨_, rfl⟩;obtain ⟨kk, hkk⟩ : ∃ x, (hv + pp + k) / 10000 = x := ⟨_, rfl⟩;rw [hmm, hkk] at hst;have t2 : ((hv : Int) + (pp : Int) + (k : Int)).tmod 10000 = (mm : Int) := by rw [Int.tmod_eq_emod_of_nonneg zw]; omega
     have t3 : ((hv : Int) + (pp : Int) + (k : Int)).tdiv 10000 = (kk : Int) := by rw [Int.tdiv_eq_ediv_of_nonneg zw]; omega
     have hmm1 : mm < 10000 := by omega
     have hkk1 : kk ≤ 100000 := by omega
     have hqN' : (q : Int) < N := by omega
     clear hq hhv ha hbb hpp hmm hkk HI hn3;go_wp2_with fail;go_quiet ((go_at_call 158; with_reducible exact zz0v (q2.out _)));have HW2 := zH (HW.out.drewN nq);clear HW e0 e1 e2 hrq hrz q2;generalize wr.drewN nq = wq at *;clear hblt hbc;clear wr;have e0 := HW2.out.k4.c1;have e2 := HW2.out.row;have e3 := zz00 HW2.out.row q _ (zz2o h hqN);have e4 := zz05 HW2.out.row q;clear e2;go_wp2_with fail;go_roundw
     case rel => exact ⟨j + 1, kk, _, rfl, by go_num, by omega, hst.out, HW2.out.set q mm hqN⟩
     case measure => simp [intOf]; omega
    ·have hjm' : ¬ ((j : Int) ≤ m) := by omega
     have hj2 : j = m + 1 := by omega
     have HO2 : Hid (MulOut f g h m (i + 1) N) := by have := HI.out; rw [hj2] at this; exact this.close Hf.out.lt Hg.out
     clear hj2 HI;go_wp2_with fail;go_roundw
     case rel => exact ⟨i + 1, h, by go_num, by omega, HO2.out, HW.out⟩
     case measure => simp [intOf]; omega
  ·have hin' : ¬ ((i : Int) < n) := by omega
   have e2 := HW.out.k4.c0;have e3 := HW.out.k4.c1;have hvl : pv h N = pv f n * pv g m := by rw [HO.out.val, show i = n by omega]
   have hD4 : Hid (DigAt wr (some ⟨R, 0, none⟩) N h) := fun x hx => ⟨R, 0, rfl, (zL HW.out.row), by rw [Nat.zero_add]; exact zz00 HW.out.row x _ (zz2o h hx)⟩
   have qT := zz1y u (some ⟨R, 0, none⟩) N N h wr hD4 ⟨HO.out.lt, HO.out.zero⟩ zw (Nat.le_refl _);rw [hvl, HVAL.out] at qT;have QT := zH qT;clear qT hvl;go_wp2_with fail;(with_reducible refine QT.out.mono ?_);rintro e w5 ⟨⟨v5, rfl, hv5⟩, hb5⟩;obtain ⟨t5, A5, n5, c5, rfl⟩ := hv5.form;have H5 := zH (HW.out.k3.call hb5);have HV5 := zH hv5;have HB5 := zH (HW.out.low.trans (hb5.mono HW.out.low.size));have d0 := H5.out.c0;have d1 := H5.out.c1;have f0 := H5.out.z 0;have f1 := H5.out.z 1;clear hv5 hb5 HW e0 e1 e2 e3;go_wp2_with fail;refine bodyPost_ret (v := .agg #[.bool t5, .slice A5 n5 c5]) ?_ rfl ⟨⟨_, rfl, ?_⟩, ?_⟩
   ·simp [results, Tryz.results102, go_sem, d0, d1]
   ·exact HV5.out.store H5.out
   ·exact (HB5.out.setCell (by show w.heap.size ≤ w.heap.size + 1 + 1; omega) _).setCell (by show w.heap.size ≤ w.heap.size + 1 + 1; omega) _) : p := h
theorem zz8c (x y : Value) (X Y : Int) (w : World) (hx : Hid (BigAt w x X)) (hy : Hid (BigAt w y Y)) (bX : X.natAbs < 10000 ^ 40) (bY : Y.natAbs < 10000 ^ 40) :
  Calls Tryz.prog 102 #[x, y] w fun e w' => (∃ v, e = .returned v ∧ BigAt w' v (X * Y)) ∧ Below w.heap.size w w' := by
 obtain ⟨A, n, c, f, rfl, hc, hv, hd, hn⟩ := hx.out;obtain ⟨B, m, d, g, rfl, kc, kv, kd, km⟩ := hy.out;have hn40 := zz1q (k := 40) hc (by rw [hv]; exact bX)
 have hm40 := zz1q (k := 40) kc (by rw [kv]; exact bY)
 obtain ⟨s, hs⟩ : ∃ s, decide (X < 0) = s := ⟨_, rfl⟩;obtain ⟨t, ht⟩ : ∃ t, decide (Y < 0) = t := ⟨_, rfl⟩;rw [hs, ht];have hval := sgn_mul hs ht;rw [← hv, ← kv] at hval;have HVAL := zH hval;have Hf : Hid (Dg f n) := hc.toDg;have Hg : Hid (Dg g m) := kc.toDg;have HA := zH hd;have HB := zH kd;have qB := zH (fun i w' (h : Hid (DigAt w' B m g)) (hi : i ≤ 100) => zzbw B m d g i w' h Hg zw zw)
 have h1 := ((BigBlk.mk w _ s (.slice A n c) rfl).alloc (.cells #[.bool t, .slice B m d] 143)).alloc (.cells #[.bool false, .slice none 0 0] 143);have h2 := (BigBlk.mk (w.alloc (.cells #[.bool s, .slice A n c] 143)) (w.heap.size + 1) t (.slice B m d) (by rw [World.size_alloc])).alloc (.cells #[.bool false, .slice none 0 0] 143)
 have h3 := BigBlk.mk ((w.alloc (.cells #[.bool s, .slice A n c] 143)).alloc (.cells #[.bool t, .slice B m d] 143)) (w.heap.size + 1 + 1) false (.slice none 0 0) (by rw [World.size_alloc, World.size_alloc])
 have hb1 := zz01 (zz01 (zz01 (Below.refl w.heap.size w) (Nat.le_refl _) (.cells #[.bool s, .slice A n c] 143)) (by rw [World.size_alloc]; omega) (.cells #[.bool t, .slice B m d] 143)) (by rw [World.size_alloc, World.size_alloc]; omega) (.cells #[.bool false, .slice none 0 0] 143)
 have hsz : (((w.alloc (.cells #[.bool s, .slice A n c] 143)).alloc (.cells #[.bool t, .slice B m d] 143)).alloc (.cells #[.bool false, .slice none 0 0] 143)).heap.size = w.heap.size + 3 := by rw [World.size_alloc, World.size_alloc, World.size_alloc]
 clear hc kc hv kv hd kd hs ht hx hy bX bY hval;obtain ⟨u, hu⟩ : ∃ u, (s != t) = u := ⟨_, rfl⟩;rw [hu] at HVAL;go_in;go_wp2_with fail;generalize ((w.alloc (.cells #[.bool s, .slice A n c] 143)).alloc (.cells #[.bool t, .slice B m d] 143)).alloc (.cells #[.bool false, .slice none 0 0] 143) = w1 at *;have H1 := zH h1; have H2 := zH h2; have H3 := zH h3; have HB1 := zH hb1; have HSZ := zH hsz;have l1 := h1.lt;have l2 := h2.lt;have l3 := h3.lt;have e0 := h1.c0; have e1 := h1.c1; have e2 := h2.c0; have e3 := h2.c1;have hnm : ((n : Nat) : Int) + ((m : Nat) : Int) = ((n + m : Nat) : Int) := by omega
 have hnm1 : ((n + m : Nat) : Int) + 1 = ((n + m + 1 : Nat) : Int) := by omega
 obtain ⟨N, hN⟩ : ∃ N, n + m + 1 = N := ⟨_, rfl⟩;rw [hN] at hnm1;obtain ⟨N0, hN0⟩ : ∃ N0, n + m = N0 := ⟨_, rfl⟩;rw [hN0] at hnm hnm1;have hN81 : N ≤ 81 := by omega
 have hN081 : N0 ≤ 80 := by omega
 have HN := zH (And.intro hN hN0);clear h1 h2 h3 hb1 hsz hN hN0;refine zz1l [0, 1, 2, 3, 4, 5, 6, 7, 8, 9, 10, 11, 12] 4 (zb 17 8191) zk zk zk zk (fun wz => Hid (Below w1.heap.size w1 wz)) (Below.refl _ _).drew ?_
 simp only [opsAt, zA];refine zz0z (.pointer (some ⟨w.heap.size, 0, none⟩)) rfl (fun wz hC => by unfold execOp; go_simp) ?_
 refine zz0z (.bool s) rfl (fun wz hC => by unfold execOp; have := ((Hid.out hC).cell (p := ⟨w.heap.size, 0, none⟩) l1).trans e0; go_simp) ?_
 refine zz0z (.pointer (some ⟨w.heap.size + 1, 0, none⟩)) rfl (fun wz hC => by unfold execOp; go_simp) ?_
 refine zz0z (.bool t) rfl (fun wz hC => by unfold execOp; have := ((Hid.out hC).cell (p := ⟨w.heap.size + 1, 0, none⟩) l2).trans e2; go_simp) ?_
 refine zz0z (.bool u) rfl (fun wz hC => by unfold execOp; go_simp; rw [← hu]; cases s <;> cases t <;> rfl) ?_
 refine zz0z (.pointer (some ⟨w.heap.size, 1, none⟩)) rfl (fun wz hC => by unfold execOp; go_simp) ?_
 refine zz0z (.slice A n c) rfl (fun wz hC => by unfold execOp; have := ((Hid.out hC).cell (p := ⟨w.heap.size, 1, none⟩) l1).trans e1; go_simp) ?_
 refine zz0z (.int .i64 n) rfl (fun wz hC => by unfold execOp; go_simp) ?_
 refine zz0z (.pointer (some ⟨w.heap.size + 1, 1, none⟩)) rfl (fun wz hC => by unfold execOp; go_simp) ?_
 refine zz0z (.slice B m d) rfl (fun wz hC => by unfold execOp; have := ((Hid.out hC).cell (p := ⟨w.heap.size + 1, 1, none⟩) l2).trans e3; go_simp) ?_
 refine zz0z (.int .i64 m) rfl (fun wz hC => by unfold execOp; go_simp) ?_
 refine zz0z (.int .i64 N0) rfl (fun wz hC => by unfold execOp; go_simp; rw [IntKind.wrap_i64]; omega) ?_
 refine zz0z (.int .i64 N) rfl (fun wz hC => by unfold execOp; go_simp; rw [IntKind.wrap_i64]; omega) ?_
 unfold wpPure;go_simp;obtain ⟨ti, hti, htz, hts, htb⟩ := el_int.info;refine zz6i 13 15 (Li := (zb 17 16383)) (Lj := (zb 17 40959)) zk zk zk rfl rfl rfl rfl ?_ ?_
 ·skip
  refine wpList_make_full _ rfl (.tmp 22) (.tmp 22) 141 rfl w1.heap.size 3 ti (.int .i64 0) 1 el_int.und hti htz hts .i64 .i64 N N N rfl rfl rfl rfl (by rw [htb]; omega) (by unfold maxLen; omega) (Nat.le_refl _) ?_
  intro w2 hown hgr;go_wp2_with fail;rw [zz1d];have hrow := zz7z hown;clear hown;have hc2 : Hid (Below w1.heap.size w1 w2) := ⟨hgr.os, hgr.tape, hgr.output, hgr.size, fun k hk => hgr.block k hk (by simp)⟩
  clear hgr;refine ⟨hc2, ?_⟩;refine zz4f zk hc2 2 [14] _ _ zk ?_ (fun a' h => h)
  simp only [opsAt, zA];refine zz0z (.agg #[.bool u, .slice (some ⟨w1.heap.size, 0, none⟩) N N]) rfl (fun wz _ => by unfold execOp; go_simp) ?_
  unfold wpPure;go_simp;refine zz0s 15 (L' := (zb 17 65535)) zk zk rfl rfl ?_;go_wp2_with fail;rw [zz1d];have hc3 : Below w1.heap.size w1 (w2.alloc (.cells #[.bool false, .slice none 0 0] 143)) := zz01 hc2.out hc2.out.size _;refine ⟨hc3, ?_⟩;refine zz0s 16 (L' := (zb 17 131071)) zk zk rfl rfl ?_;go_wp2_with fail;refine zQs (zz01 hc2.out hc2.out.size _) ?_;refine ⟨by kernel_rfl, ?_⟩
  rw [zz1e];have hlt2 : w1.heap.size < w2.heap.size := zL hrow;have hsz := HSZ.out;obtain ⟨p, hp⟩ : ∃ p, w2.heap.size = p := ⟨_, rfl⟩;obtain ⟨R, hR⟩ : ∃ R, w1.heap.size = R := ⟨_, rfl⟩;have hMW : MulW w (w2.alloc (.cells #[.bool u, .slice (some ⟨R, 0, none⟩) N N] 143)) s t u A B n c m d p R N (fun _ => 0) :=
   ⟨(H1.out.below hc2.out l1).alloc _, (H2.out.below hc2.out l2).alloc _, (H3.out.below hc2.out l3).alloc _, BigBlk.mk w2 p u _ hp, zz04 (by rw [← hR]; exact hrow) _,
    HB1.out.trans ((zz01 hc2.out hc2.out.size _).mono HB1.out.size), by omega, by omega, by omega⟩
  rw [hp, hR];have HMW := zH hMW;clear H1 H2 H3 HB1 HSZ l1 l2 l3 e0 e1 e2 e3 hc2 hc3 hp hR hsz hlt2 hnm hnm1 hti htz hts htb;generalize w2.alloc (.cells #[.bool u, .slice (some ⟨R, 0, none⟩) N N] 143) = wS at *;exact zt4
 ·skip
  go_wp2_with fail;rw [zz1d];have hc2 : Hid (Below w1.heap.size w1 (w1.alloc (.cells #[.bool false, .slice none 0 0] 143)).drew) := zBa.drew;refine ⟨hc2, ?_⟩;have hp5 : Hid (BigBlk (w1.alloc (.cells #[.bool false, .slice none 0 0] 143)).drew w1.heap.size false (.slice none 0 0)) := BigBlk.mk w1 _ _ _ rfl;have hs5 : (w1.alloc (.cells #[.bool false, .slice none 0 0] 143)).drew.heap.size = w1.heap.size + 1 := World.size_alloc _ _;generalize (w1.alloc (.cells #[.bool false, .slice none 0 0] 143)).drew = wA at *;have HS5 := zH hs5;clear hs5;refine zz0s 13 (L' := (zb 17 49151)) zk zk rfl rfl ?_;refine wpList_make_full _ rfl (.tmp 22) (.tmp 22) 141 rfl wA.heap.size 3 ti (.int .i64 0) 1 el_int.und hti htz hts .i64 .i64 N N N rfl rfl rfl rfl (by rw [htb]; omega) (by unfold maxLen; omega) (Nat.le_refl _) ?_
  intro w2 hown hgr;go_wp2_with fail;rw [zz1d];have hrow := zz7z hown;clear hown;have hc3 : Hid (Below w1.heap.size w1 w2) := hc2.out.trans (Below.mono ⟨hgr.os, hgr.tape, hgr.output, hgr.size, fun k hk => hgr.block k hk (by simp)⟩ hc2.out.size)
  have hp6 : Hid (BigBlk w2 w1.heap.size false (.slice none 0 0)) := (hgr.block _ hp5.out.lt (by simp)).trans hp5.out
  have hz6 := zH hgr.size;clear hgr hc2 hp5;refine ⟨hc3, ?_⟩;refine zz4f zk hc3 1 [14] _ _ zk ?_ (fun a' h => h)
  simp only [opsAt, zA];refine zz0z (.agg #[.bool u, .slice (some ⟨wA.heap.size, 0, none⟩) N N]) rfl (fun wz _ => by unfold execOp; go_simp) ?_
  unfold wpPure;go_simp;have g0 := hp6.out.c0;have g1 := hp6.out.c1;have g2 := hp6.out.z 0;have g3 := hp6.out.z 1;refine zz0s 16 (L' := (zb 17 131071)) zk zk rfl rfl ?_;go_wp2_with fail;rw [zz1d];have hc4 : Below w1.heap.size w1 ((w2.setCell ⟨w1.heap.size, 0, none⟩ (.bool u)).setCell ⟨w1.heap.size, 1, none⟩ (.slice (some ⟨wA.heap.size, 0, none⟩) N N)) := (hc3.out.setCell (Nat.le_refl _) _).setCell (Nat.le_refl _) _;refine ⟨hc4, ?_⟩;refine ⟨by kernel_rfl, ?_⟩
  rw [zz1e];have hsz := HSZ.out;have hs5 := HS5.out;obtain ⟨p, hp⟩ : ∃ p, w1.heap.size = p := ⟨_, rfl⟩;obtain ⟨R, hR⟩ : ∃ R, wA.heap.size = R := ⟨_, rfl⟩;rw [hR] at hc4;have hMW : MulW w ((w2.setCell ⟨p, 0, none⟩ (.bool u)).setCell ⟨p, 1, none⟩ (.slice (some ⟨R, 0, none⟩) N N)) s t u A B n c m d p R N (fun _ => 0) :=
   ⟨((H1.out.below hc3.out l1).oth _ _ zw).oth _ _ zw, ((H2.out.below hc3.out l2).oth _ _ zw).oth _ _ zw, ((H3.out.below hc3.out l3).oth _ _ zw).oth _ _ zw,
    by rw [← hp]; exact (hp6.out.set0 u).set1 _, zz09 (zz09 (by rw [← hR]; exact hrow) _ _ zw) _ _ zw, by rw [hp] at hc4; exact HB1.out.trans (hc4.mono (by have := HB1.out.size; omega)), by omega, by omega, by omega⟩
  rw [hp, hR];have HMW := zH hMW;clear H1 H2 H3 HB1 HSZ l1 l2 l3 e0 e1 e2 e3 hc3 hc4 hp6 hz6 g0 g1 g2 g3 HS5 hp hR hsz hs5 hnm hnm1 hti htz hts htb;generalize (w2.setCell ⟨p, 0, none⟩ (.bool u)).setCell ⟨p, 1, none⟩ (.slice (some ⟨R, 0, none⟩) N N) = wS at *;exact zt4
end
end Go.Proofs.YtajogedbacpohaaGreatDoor
