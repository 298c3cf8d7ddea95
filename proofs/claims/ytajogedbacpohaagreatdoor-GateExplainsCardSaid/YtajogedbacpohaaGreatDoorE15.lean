/- Part 16 of what the claim rests on. -/
import Derived.Test.YtajogedbacpohaaGreatDoorE00
import Derived.Test.YtajogedbacpohaaGreatDoorE01
import Derived.Test.YtajogedbacpohaaGreatDoorE06
import Derived.Test.YtajogedbacpohaaGreatDoorE14
import Derived.BigQuiet
import Derived.Deep.QuietTactic
set_option linter.unusedVariables false
set_option linter.unusedSimpArgs false
set_option maxRecDepth 1000000
set_option maxHeartbeats 32000000
namespace Go.Proofs.YtajogedbacpohaaGreatDoor
section
open Go Go.RowKit
def putsV (a : Act) : List (Tmp × Value) → Act
 | [] => a
 | p :: l => putsV (a.put (some p.1) p.2) l
theorem zz5q (t : Tmp) (v : Value) : ∀ (l : List (Tmp × Value)) (a : Act), (∀ p ∈ l, p.1 ≠ t) → putsV (a.put (some t) v) l = (putsV a l).put (some t) v
 | [], _, _ => rfl
 | p :: l, a, h => by
  show putsV ((a.put (some t) v).put (some p.1) p.2) l = (putsV (a.put (some p.1) p.2) l).put (some t) v;rw [← zz5q t v l _ (fun q hq => h q (by simp [hq])), Act.put_comm a v p.2 (fun d h1 h2 => h p (by simp) (by injection h1 with h1; injection h2 with h2; rw [h1, h2]))]
theorem zz4e (T : List Tmp) : ∀ (l : List (Tmp × Value)) (a : Act), (∀ p ∈ l, p.1 ∈ T) → ∀ x : Operand, (∀ t ∈ T, x ≠ .tmp t) → (putsV a l).eval x = a.eval x
 | [], _, _, _, _ => rfl
 | p :: l, a, h, x, hx => by
  show (putsV (a.put (some p.1) p.2) l).eval x = _;rw [zz4e T l _ (fun q hq => h q (by simp [hq])) x hx, zz0m a x p.1 p.2 (hx _ (h p (by simp)))]
section
variable {P : Program} {ops : Array Oper} {md : Region.Mode} {C : World → Prop} {ex : List Nat}
theorem zz1x {Q : Exit → Act → World → Prop} (i j : Nat) (hs : List Nat) (di dj : Tmp) (f : Nat) {L L2 : Array Bool} {a : Act} {w : World} (v : Value) (cs : Array Value) (t : TypeId) (vs : List (Tmp × Value)) (T : List Tmp)
  (hr0 : ((Region.ready md ops L).all (fun k => k == i || k == j) && !(Region.ready md ops L).isEmpty) = true)
  (hr1 : Region.ready md ops (L.setIfInBounds j true) = [i]) (hr2 : Region.ready md ops (setAll hs (L.setIfInBounds i true)) = [j])
  (hB1 : (Region.noSelect ops && headDB md ops ex hs (L.setIfInBounds i true)) = true) (hB2 : (Region.noSelect ops && headDB md ops ex hs ((L.setIfInBounds j true).setIfInBounds i true)) = true)
  (hL1 : (setAll hs (L.setIfInBounds i true)).setIfInBounds j true = L2) (hL2 : setAll hs ((L.setIfInBounds j true).setIfInBounds i true) = L2)
  (hT : (T.contains di && T.contains dj && vs.all (fun p => T.contains p.1) && vs.all (fun p => p.1 != dj) && (di != dj)) = true)
  (hi : CanC P ops T w ⟨i, di, fun _ _ u _ => u = v⟩ a) (hj : CanC P ops T w ⟨j, dj, fun lo _ u wz => u = .pointer (some ⟨lo, 0, none⟩) ∧ wz.heap[lo]? = some (.cells cs t (0, 0))⟩ a)
  (hC : ∀ w', Below w.heap.size w w' → C w')
  (hp : ∀ (a' : Act) (K : Act → Prop), (a' = a.put (some di) v ∨ ∃ p : Nat, a' = (a.put (some dj) (.pointer (some ⟨p, 0, none⟩))).put (some di) v) → K (putsV a' vs) → wpPure P ops C K (opsAt ops hs) a')
  (cont : ∀ (p : Nat) (w' : World), w.heap.size ≤ p → w'.heap[p]? = some (.cells cs t (0, 0)) → Below w.heap.size w w' → wpAnyD P md ops C ex (OnlyN Q) f L2 ((putsV (a.put (some di) v) vs).put (some dj) (.pointer (some ⟨p, 0, none⟩))) w') :
  wpAnyD P md ops C ex (OnlyN Q) (f + hs.length + 2) L a w := by
 simp only [Bool.and_eq_true, List.all_eq_true, List.contains_iff_mem, bne_iff_ne, ne_eq] at hT;obtain ⟨⟨⟨⟨hTi, hTj⟩, hTv⟩, hvj⟩, hij⟩ := hT;simp only [Bool.and_eq_true] at hr0;refine ⟨fun h => ?_, fun k hk => ?_⟩
 ·rw [h] at hr0
  simp at hr0
 have hk' : k = i ∨ k = j := by simpa using List.all_eq_true.1 hr0.1 k hk
 rcases hk' with rfl | rfl
 ·refine hi.run _ a w _ (fun _ _ => rfl) (Below.refl _ _) fun u w1 hu hb => ⟨fun _ => hC _ hb, ?_⟩
  obtain rfl : u = v := hu;rw [show f + hs.length + 1 = (f + 1) + hs.length by omega]
  refine zz29 hs (f + 1) hB1 rfl (hC _ hb) (hp _ _ (.inl rfl) ?_);refine ⟨fun h => (by rw [hr2] at h; cases h), fun k' hk' => ?_⟩
  rw [hr2] at hk';obtain rfl : k' = j := by simpa using hk'
  refine hj.run _ _ w1 _ (fun x hx => ?_) hb fun u1 w2 hu1 hb1 => ⟨fun _ => hC _ (hb.trans (hb1.mono hb.size)), ?_⟩
  ·rw [zz4e T vs _ (fun p hp => hTv p hp) x hx, zz0m a x di u (hx _ hTi)]
  ·obtain ⟨rfl, hg⟩ := hu1
   rw [hL1];exact cont _ _ hb.size hg (hb.trans (hb1.mono hb.size))
 ·refine hj.run _ a w _ (fun _ _ => rfl) (Below.refl _ _) fun u1 w1 hu1 hb => ⟨fun _ => hC _ hb, ?_⟩
  obtain ⟨rfl, hg⟩ := hu1;refine ⟨fun h => (by rw [hr1] at h; cases h), fun k' hk' => ?_⟩
  rw [hr1] at hk';obtain rfl : k' = i := by simpa using hk'
  refine hi.run _ _ w1 _ (fun x hx => zz0m a x dj _ (hx _ hTj)) hb fun u w2 hu hb1 => ⟨fun _ => hC _ (hb.trans (hb1.mono hb.size)), ?_⟩
  obtain rfl : u = v := hu;refine zz29 hs f hB2 hL2 (hC _ (hb.trans (hb1.mono hb.size))) (hp _ _ (.inr ⟨_, rfl⟩) ?_);have hcomm : (a.put (some dj) (.pointer (some ⟨w.heap.size, 0, none⟩))).put (some di) u = (a.put (some di) u).put (some dj) (.pointer (some ⟨w.heap.size, 0, none⟩)) := Act.put_comm a _ u (fun d h1 h2 => hij (by injection h1 with h1; injection h2 with h2; rw [h1, h2]))
  show wpAnyD P md ops C ex (OnlyN Q) f L2 (putsV ((a.put (some dj) (.pointer (some ⟨w.heap.size, 0, none⟩))).put (some di) u) vs) w2;rw [hcomm, zz5q _ _ _ _ (fun p hp => hvj p hp)]
  exact cont _ _ (Nat.le_refl _) (zz06 hg hb1) (hb.trans (hb1.mono hb.size))
end
end
section
open Go Go.RowKit Go.Maps Go.WideMaps Go.MapKept
theorem zt8 {p : Prop} (h : p := by
 cases kb with
 | false =>
  clear q2;go_wp2_with fail;(with_reducible refine (q1.out _).mono ?_);rintro e w2 ⟨rfl, rfl⟩;go_wp2_with fail;go_ret;exact ⟨by rw [hex.out (by rw [hok.out]; rfl)]; rfl, HB1.out⟩
 | true =>
  have hlook := hS1.out.look hr2.out HZ.out;cases z with
  | true =>
   clear q2;go_wp2_with fail;(with_reducible refine (q1.out _).mono ?_);rintro e w2 ⟨rfl, rfl⟩;go_wp2_with fail;go_ret;exact ⟨by rw [hex.out (by rw [hok.out]; simp)]; rfl, HB1.out⟩
  | false =>
   by_cases hlast : k + 1 < l.length
   ·have t9 : decide ((k : Int) < (l.length : Int) - 1) = true := decide_eq_true zw
    rw [decide_eq_true hlast] at hok;cases hb with
    | false =>
     go_wp2_with fail;(with_reducible refine (q1.out _).mono ?_);rintro e w2 ⟨rfl, rfl⟩;go_wp2_with fail;(with_reducible refine (q2.out _ hT1).mono ?_);rintro e w3 ⟨rfl, hb3⟩;have HB3 := zB HB1 hb3;clear hb3;go_wp2_with fail;go_ret;exact ⟨by rw [hex.out (by rw [hok.out]; simp)]; rfl, HB3.out⟩
    | true =>
     go_wp2_with fail;(with_reducible refine (q1.out _).mono ?_);rintro e w2 ⟨rfl, rfl⟩;go_wp2_with fail;(with_reducible refine (q2.out _ hT1).mono ?_);rintro e w3 ⟨rfl, hb3⟩;have HB3 := zB HB1 hb3;have hS3 := zH (hS1.out.call hb3);have c0 := zz00 (zz06 hblk.out hb3) 0 _ rfl;clear hb3;go_wp2_with (at_mapUpdate; refine zz1u _ rfl _ _ _ rfl hS3 zw r hr2.out rfl rfl rfl ?_; intro w4 hS4 hg4);have HB4 := zH (HB3.out.trans (zz4r (B := w.heap.size) hg4.out (Nat.le_refl _) hS3.out.lt));go_roundw
     case rel => exact ⟨k + 1, by go_num, by show _ ≤ _; omega, by rw [htk.out, List.map_append]; exact hS4.out, hgo.out (by rw [hok.out]; simp), HB4.out⟩
     case measure => simp [intOf]; omega
   ·have t9 : decide ((k : Int) < (l.length : Int) - 1) = false := decide_eq_false zw
    rw [decide_eq_false hlast] at hok;have c0 := zz00 hblk.out 0 _ rfl;go_wp2_with fail;(with_reducible refine (q1.out _).mono ?_);rintro e w2 ⟨rfl, rfl⟩;go_wp2_with (at_mapUpdate; refine zz1u _ rfl _ _ _ rfl hS1 zw r hr2.out rfl rfl rfl ?_; intro w4 hS4 hg4);have HB4 := zH (HB1.out.trans (zz4r (B := w.heap.size) hg4.out (Nat.le_refl _) hS1.out.lt));go_roundw
    case rel => exact ⟨k + 1, by go_num, by show _ ≤ _; omega, by rw [htk.out, List.map_append]; exact hS4.out, hgo.out (by rw [hok.out]; simp), HB4.out⟩
    case measure => simp [intOf]; omega) : p := h
theorem zt50 {p : Prop} (h : p := by
 clear q2;go_wp2_with fail;(with_reducible refine (q1.out _).mono ?_);rintro e w2 ⟨rfl, rfl⟩;go_wp2_with fail;go_ret;exact ⟨by rw [hex.out (by rw [hok.out]; rfl)]; rfl, HB1.out⟩) : p := h
theorem zt89 {p : Prop} (h : p := by
 clear q2;go_wp2_with fail;(with_reducible refine (q1.out _).mono ?_);rintro e w2 ⟨rfl, rfl⟩;go_wp2_with fail;go_ret;exact ⟨by rw [hex.out (by rw [hok.out]; simp_all)]; rfl, HB1.out⟩) : p := h
theorem May_any (v : Value) (l : List Stp) (w : World) (hT : Hid (Law16 w)) (hv : Hid (StepsAt w v l)) (hl : l.length ≤ 1000) :
  Calls Tryz.prog 92 #[v] w fun e w' => e = .returned (.bool (mayS l)) ∧ Below w.heap.size w w' := by
 have qT := zH (fun n hn w => zz5k n hn w)
 have qH := zH (fun s hs w h => zz6a s hs w h)
 have hmm := @run_makeMap Tryz.prog;obtain ⟨A, c, rfl, _⟩ := hv.out;go_in;go_wp2_with fail;go_loopw [10] (fun s10 wr => ∃ (k : Nat), s10 = .int .i64 k ∧ Hid (k ≤ l.length) ∧ Hid (SeenAt wr w.heap.size k ((l.take k).map (·.rule))) ∧ Hid (mayB l k = true) ∧ Hid (Below w.heap.size w wr)) (fun s10 _ => l.length - (intOf s10).toNat)
 case atStart => exact ⟨0, rfl, Nat.zero_le _, SeenAt.made w, rfl, (Below.refl _ _).alloc (Nat.le_refl _) _⟩
 case round =>
  obtain ⟨k, rfl, hk, hS, hM, hB⟩ := hrel;clear hmm;by_cases hkl : k < l.length
  ·obtain ⟨A', c', hA', hci⟩ := (hv.out.call hB.out)
   cases hA';have hge : l[k]? = some l[k] := List.getElem?_eq_getElem hkl;obtain ⟨hf, b, o, rfl, hbl, h0, h1, h2, h3⟩ := hci k _ hge;have htk : Hid (l.take (k + 1) = l.take k ++ [l[k]]) := List.take_succ_eq_append_getElem hkl;have HG := zH hge;clear hci hge;generalize l[k] = s at *;obtain ⟨r, x, y, ov⟩ := s;have h0 : wr.cell? ⟨b, o + k * 4, none⟩ = some (.int .i64 r) := h0;have h1 : wr.cell? ⟨b, o + k * 4 + 1, none⟩ = some (.int .i64 x) := h1;have h2 : wr.cell? ⟨b, o + k * 4 + 2, none⟩ = some (.int .i64 y) := h2;have h3 : wr.cell? ⟨b, o + k * 4 + 3, none⟩ = some (.bool ov) := h3;have hr : I64 r := hf.1;have hr2 : Hid (I64 r) := hr;have q1 := zH (fun w => qT.out r hr w)
   have q2 : Hid (∀ w, Hid (Law16 w) → Calls Tryz.prog 91 #[.agg #[r, x, y, .bool ov]] w fun e w' => e = .returned (.bool (Stp.mk r x y ov).holds) ∧ Below w.heap.size w w') := fun w h => qH.out ⟨r, x, y, ov⟩ hf w h
   have hkn : Hid ((Stp.mk r x y ov).known = decide (0 < r ∧ r < 24)) := rfl;have hba : Hid ((Stp.mk r x y ov).bare = (ov && (x != 0 || y != 0))) := rfl
   have hkw : w.heap.size < wr.heap.size := hS.out.lt;have hS1 := zH (hS.out.call ((Below.refl wr.heap.size wr).alloc (Nat.le_refl _) (.cells #[r, x, y, .bool ov] 65)));have HB1 := zH (zz01 hB.out hB.out.size (.cells #[r, x, y, .bool ov] 65));have hblk : Hid ((wr.alloc (.cells #[r, x, y, .bool ov] 65)).heap[wr.heap.size]? = some (.cells #[r, x, y, .bool ov] 65 (0, 0))) := zz02 _ _;have hT1 := zH (hT.out.call HB1.out);obtain ⟨z, hz⟩ : ∃ z, (((l.take k).map (·.rule)).any fun t => t == r) = z := ⟨_, rfl⟩
   have hse : Hid (((l.take k).any fun t => t.rule == r) = z) := by show _ = _; rw [← hz, List.any_map]; rfl
   have HZ := zH hz;obtain ⟨kb, hkb⟩ : ∃ kb, decide (0 < r ∧ r < 24) = kb := ⟨_, rfl⟩;rw [hkb] at q1 hkn;obtain ⟨hb, hhb⟩ : ∃ hb, (Stp.mk r x y ov).holds = hb := ⟨_, rfl⟩;rw [hhb] at q2;have HH := zH hhb;have hok : Hid (okB l k ⟨r, x, y, ov⟩ = (kb && !(ov && (x != 0 || y != 0)) && !z && (!decide (k + 1 < l.length) || hb))) := by
    show _ = _;unfold okB;rw [hkn.out, hba.out, hhb];show (kb && !(ov && (x != 0 || y != 0)) && !((l.take k).any fun t => t.rule == r) && _) = _
    rw [hse.out]
   have hex : Hid (okB l k ⟨r, x, y, ov⟩ = false → mayS l = false) := fun h => zzb5 HG.out h
   have hgo : Hid (okB l k ⟨r, x, y, ov⟩ = true → mayB l (k + 1) = true) := fun h => mayB_step HG.out hM.out h
   clear hkb hhb hz hkn hba hse qT qH hf HG hS hM;by_cases hov : ov = true
   ·by_cases hx : x = 0
    ·by_cases hy : y = 0
     ·subst hov hx hy
      exact zt8
     ·have t1 : (y != 0) = true := by simp [hy]
      subst hov hx;clear hy;cases kb with
      | false =>
       exact zt50
      | true =>
       exact zt89
    ·have t1 : (x != 0) = true := by simp [hx]
     subst hov;clear hx;cases kb with
     | false =>
      exact zt50
     | true =>
      exact zt89
   ·obtain rfl : ov = false := by simpa using hov
    clear hov;exact zt8
  ·have hkk : k = l.length := by have := hk.out; omega
   subst hkk;go_wp2_with fail;go_ret;exact ⟨by rw [show mayS l = true from hM.out]; rfl, hB.out⟩
def VerBlk (w : World) (g : Nat) (c n : Int) : Prop := w.heap[g]? = some (.cells #[c, n] 33 (0, 0))
theorem VerBlk.call {w w' : World} {g : Nat} {c n : Int} (h : VerBlk w g c n) (hb : Below w.heap.size w w') : VerBlk w' g c n := zz06 h hb
theorem VerBlk.old {w : World} {g : Nat} {c n : Int} (h : VerBlk w g c n) (o : Obj) : VerBlk (w.alloc o) g c n := zz04 h o
theorem VerBlk.lt {w : World} {g : Nat} {c n : Int} (h : VerBlk w g c n) : g < w.heap.size := zL h
theorem VerBlk.c0 {w : World} {g : Nat} {c n : Int} (h : VerBlk w g c n) : w.cell? ⟨g, 0, none⟩ = some (.int .i64 c) := zz00 h 0 _ rfl
theorem VerBlk.c1 {w : World} {g : Nat} {c n : Int} (h : VerBlk w g c n) : w.cell? ⟨g, 1, none⟩ = some (.int .i64 n) := zz00 h 1 _ rfl
theorem VerBlk.z {w : World} {g : Nat} {c n : Int} (h : VerBlk w g c n) (i : Nat) : w.frozen? ⟨g, i, none⟩ = false := zz05 h i
theorem VerBlk.s0 {w : World} {g : Nat} {c n : Int} (h : VerBlk w g c n) (d : Int) : VerBlk (w.setCell ⟨g, 0, none⟩ (.int .i64 d)) g d n := zz0d h 0 _
theorem VerBlk.s1 {w : World} {g : Nat} {c n : Int} (h : VerBlk w g c n) (d : Int) : VerBlk (w.setCell ⟨g, 1, none⟩ (.int .i64 d)) g c d := zz0d h 1 _
theorem VerBlk.oth {w : World} {g q : Nat} {c n : Int} (h : VerBlk w g c n) (i : Nat) (u : Value) (hne : g ≠ q) : VerBlk (w.setCell ⟨q, i, none⟩ u) g c n := zz09 h i u hne
theorem zz1n {w w1 : World} {g : Nat} {B : Nat} (h : Below B w w1) (hg : B ≤ g) (u v : Value) : Below B w ((w1.setCell ⟨g, 0, none⟩ u).setCell ⟨g, 1, none⟩ v) := (h.setCell hg u).setCell hg v
theorem zz95 (v : Value) (l : List Stp) (w : World) (hT : Hid (Law16 w)) (hv : Hid (StepsAt w v l)) (hl : l.length ≤ 1000) :
  Calls Tryz.prog 37 #[v] w fun e w' => e = .returned (if mayS l then .tuple #[.agg #[.int .i64 (goW l 0).1, .int .i64 (goW l 0).2], .int .i64 0] else .tuple #[.agg #[.int .i64 0, .int .i64 0], .int .i64 3]) ∧ Below w.heap.size w w' := by
 have qM : Hid (∀ w, Hid (Law16 w) → Hid (StepsAt w v l) → Calls Tryz.prog 92 #[v] w fun e w' => e = .returned (.bool (mayS l)) ∧ Below w.heap.size w w') := fun w hT hv => May_any v l w hT hv hl
 have qH := zH (fun s hs w h => zz6a s hs w h)
 have qC := zH (fun n hn w h => Code_any n hn w h)
 have hb0 := (Below.refl w.heap.size w).alloc (Nat.le_refl _) (.cells #[.int .i64 0, .int .i64 0] 33);have hT0 := zH (hT.out.call hb0);have hv0 := zH (hv.out.call hb0);have hblk0 : Hid (VerBlk (w.alloc (.cells #[.int .i64 0, .int .i64 0] 33)) w.heap.size 0 0) := zz02 _ _;have HB0 := zH hb0;clear hb0;obtain ⟨A, c, rfl, _⟩ := hv.out;obtain ⟨m, hm⟩ : ∃ m, mayS l = m := ⟨_, rfl⟩;rw [hm] at qM ⊢;clear hm;cases m with
 | false =>
  rw [if_neg (by simp)]
  go_in;go_wp2_with fail;(with_reducible refine (qM.out _ hT0 hv0).mono ?_);rintro e w1 ⟨rfl, hb1⟩;have HB1 := zB HB0 hb1;have hblk1 := zH (hblk0.out.call hb1);clear hb1 hT0 hv0 hblk0 HB0;have e0 := hblk1.out.c0; have e1 := hblk1.out.c1; have z0 := hblk1.out.z;go_wp2_with fail;have hk := (hblk1.out.s0 0).s1 0;have HB2 := zH (zz1n HB1.out (Nat.le_refl _) (.int .i64 0) (.int .i64 0));generalize (w1.setCell ⟨w.heap.size, 0, none⟩ (.int .i64 0)).setCell ⟨w.heap.size, 1, none⟩ (.int .i64 0) = w9 at *;clear e0 e1 z0;have e0 := hk.c0; have e1 := hk.c1;refine bodyPost_ret (v := .tuple #[.agg #[.int .i64 0, .int .i64 0], .int .i64 3]) ?_ rfl ⟨rfl, HB2.out⟩;rw [results_cell_tmp rfl]; go_simp
 | true =>
  rw [if_pos rfl];go_in;go_wp2_with fail;(with_reducible refine (qM.out _ hT0 hv0).mono ?_);rintro e w1 ⟨rfl, hb1⟩;have HB1 := zB HB0 hb1;have hblk1 := zH (hblk0.out.call hb1);have hG0 : w.heap.size < w1.heap.size := hblk1.out.lt;have hk2 : Hid (VerBlk (w1.alloc (.cells #[.int .i64 0, .int .i64 0] 33)) w1.heap.size 0 0) := zz02 _ _;have hk1 := zH (hblk1.out.old (.cells #[.int .i64 0, .int .i64 0] 33));have HB2 := zH (zz01 HB1.out HB1.out.size (.cells #[.int .i64 0, .int .i64 0] 33));clear hb1 hT0 hv0 hblk0 HB0 hblk1 HB1 qM;go_wp2_with fail;go_loopw [13] (fun s13 wr => ∃ (k : Nat) (need : Int), s13 = .int .i64 k ∧ Hid (k ≤ l.length) ∧ Hid (I64 need) ∧ Hid (VerBlk wr w.heap.size 0 0) ∧ Hid (VerBlk wr w1.heap.size 0 need) ∧ Hid (goW (l.drop k) need = goW l 0) ∧ Hid (Below w.heap.size w wr)) (fun s13 _ => l.length - (intOf s13).toNat)
  case atStart => exact ⟨0, 0, rfl, Nat.zero_le _, by show I64 0; unfold I64; omega, hk1.out, hk2.out, rfl, HB2.out⟩
  case round =>
   obtain ⟨k, need, rfl, hk, hn, hR, hV, hW, hB⟩ := hrel;generalize hG1 : w1.heap.size = G1 at *;clear hk1 hk2 HB2 hG1;by_cases hkl : k < l.length
   ·obtain ⟨A', c', hA', hci⟩ := (hv.out.call hB.out)
    cases hA';have hge : l[k]? = some l[k] := List.getElem?_eq_getElem hkl;obtain ⟨hf, b, o, rfl, hbl, h0, h1, h2, h3⟩ := hci k _ hge;have hst := zH (zzbf hge need);clear hci hge;generalize l[k] = s at *;obtain ⟨r, x, y, ov⟩ := s;have h0 : wr.cell? ⟨b, o + k * 4, none⟩ = some (.int .i64 r) := h0;have h1 : wr.cell? ⟨b, o + k * 4 + 1, none⟩ = some (.int .i64 x) := h1;have h2 : wr.cell? ⟨b, o + k * 4 + 2, none⟩ = some (.int .i64 y) := h2;have h3 : wr.cell? ⟨b, o + k * 4 + 3, none⟩ = some (.bool ov) := h3;have hr2 : Hid (I64 r) := hf.1;have hx2 : Hid (I64 x) := hf.2.1;have q2 : Hid (∀ w, Hid (Law16 w) → Calls Tryz.prog 91 #[.agg #[r, x, y, .bool ov]] w fun e w' => e = .returned (.bool (Stp.mk r x y ov).holds) ∧ Below w.heap.size w w') := fun w h => qH.out ⟨r, x, y, ov⟩ hf w h
    have HB1 := zH (zz01 hB.out hB.out.size (.cells #[r, x, y, .bool ov] 65));have hblk : Hid ((wr.alloc (.cells #[r, x, y, .bool ov] 65)).heap[wr.heap.size]? = some (.cells #[r, x, y, .bool ov] 65 (0, 0))) := zz02 _ _;have hT1 := zH (hT.out.call HB1.out);have hR1 := zH (hR.out.old (.cells #[r, x, y, .bool ov] 65));have hV1 := zH (hV.out.old (.cells #[r, x, y, .bool ov] 65));clear qH hf hR hV;cases ov with
    | true =>
     have hs1 : Hid (goW l 0 = (12, 0)) := hW.out.symm.trans (hst.out.trans (if_pos rfl));have e0 := hR1.out.c0; have e1 := hR1.out.c1; have z0 := hR1.out.z;clear hst q2;go_wp2_with fail;have hk := (hR1.out.s0 (12)).s1 (0);have HB9 := zH (zz1n HB1.out (Nat.le_refl _) (.int .i64 (12)) (.int .i64 (0)));generalize ((wr.alloc (.cells #[r, x, y, .bool true] 65)).setCell ⟨w.heap.size, 0, none⟩ (.int .i64 (12))).setCell ⟨w.heap.size, 1, none⟩ (.int .i64 (0)) = w9 at *;clear e0 e1 z0;have e0 := hk.c0; have e1 := hk.c1;rw [hs1.out];refine bodyPost_ret (v := .tuple #[.agg #[.int .i64 (12), .int .i64 (0)], .int .i64 0]) ?_ rfl ⟨rfl, HB9.out⟩;rw [results_cell_tmp rfl]; go_simp
    | false =>
     obtain ⟨hb, hhb⟩ : ∃ hb, (Stp.mk r x y false).holds = hb := ⟨_, rfl⟩;rw [hhb] at q2;have hst2 : Hid (goW l 0 = if hb then (if r = 20 then goW (l.drop (k + 1)) x else goW (l.drop (k + 1)) need) else (((codeS r : Nat) : Int), 0)) := by
      show _ = _;rw [← hW.out, hst.out, if_neg (by simp), hhb]
     have c0 := zz00 hblk.out 0 _ rfl;clear hhb hst hW;cases hb with
     | false =>
      have hs1 : Hid (goW l 0 = (((codeS r : Nat) : Int), 0)) := hst2.out.trans (if_neg (by simp))
      clear hst2;go_wp2_with fail;(with_reducible refine (q2.out _ hT1).mono ?_);rintro e w3 ⟨rfl, hb3⟩;have HB3 := zB HB1 hb3;have hT3 := zH (hT1.out.call hb3).rules;have hR3 := zH (hR1.out.call hb3);have d0 := zz00 (zz06 hblk.out hb3) 0 _ rfl;clear hb3 c0;go_wp2_with fail;(with_reducible refine (qC.out r hr2.out _ hT3).mono ?_);rintro e w4 ⟨rfl, hb4⟩;have HB4 := zB HB3 hb4;have hR4 := zH (hR3.out.call hb4);clear hb4 d0;generalize ((codeS r : Nat) : Int) = cd at *;have e0 := hR4.out.c0; have e1 := hR4.out.c1; have z0 := hR4.out.z;go_wp2_with fail;have hk := (hR4.out.s0 (cd)).s1 (0);have HB9 := zH (zz1n HB4.out (Nat.le_refl _) (.int .i64 (cd)) (.int .i64 (0)));generalize (w4.setCell ⟨w.heap.size, 0, none⟩ (.int .i64 (cd))).setCell ⟨w.heap.size, 1, none⟩ (.int .i64 (0)) = w9 at *;clear e0 e1 z0;have e0 := hk.c0; have e1 := hk.c1;rw [hs1.out];refine bodyPost_ret (v := .tuple #[.agg #[.int .i64 (cd), .int .i64 (0)], .int .i64 0]) ?_ rfl ⟨rfl, HB9.out⟩;rw [results_cell_tmp rfl]; go_simp
     | true =>
      have hs1 := zH (hst2.out.trans (if_pos rfl));clear hst2;by_cases h20 : r = 20
      ·have hs2 : Hid (goW (l.drop (k + 1)) x = goW l 0) := (hs1.out.trans (if_pos h20)).symm
       subst h20;go_wp2_with fail;(with_reducible refine (q2.out _ hT1).mono ?_);rintro e w3 ⟨rfl, hb3⟩;have HB3 := zB HB1 hb3;have hR3 := zH (hR1.out.call hb3);have hV3 := zH (hV1.out.call hb3);have d0 := zz00 (zz06 hblk.out hb3) 0 _ rfl;have d1 := zz00 (zz06 hblk.out hb3) 1 _ rfl;clear hb3 c0;have e1 := hV3.out.c1; have z1 := hV3.out.z;go_wp2_with fail;go_roundw
       case rel => exact ⟨k + 1, x, by go_num, by show _ ≤ _; omega, hx2.out, hR3.out.oth _ _ zw, hV3.out.s1 x, hs2.out, HB3.out.setCell (Nat.le_of_lt hG0) _⟩
       case measure => simp [intOf]; omega
      ·have hs2 : Hid (goW (l.drop (k + 1)) need = goW l 0) := (hs1.out.trans (if_neg h20)).symm
       have t2 : (r == 20) = false := beq_eq_false_iff_ne.2 h20;clear h20 hs1;go_wp2_with fail;(with_reducible refine (q2.out _ hT1).mono ?_);rintro e w3 ⟨rfl, hb3⟩;have HB3 := zB HB1 hb3;have hR3 := zH (hR1.out.call hb3);have hV3 := zH (hV1.out.call hb3);have d0 := zz00 (zz06 hblk.out hb3) 0 _ rfl;clear hb3 c0;go_wp2_with fail;go_roundw
       case rel => exact ⟨k + 1, need, by go_num, by show _ ≤ _; omega, hn.out, hR3.out, hV3.out, hs2.out, HB3.out⟩
       case measure => simp [intOf]; omega
   ·have hkk : k = l.length := by have := hk.out; omega
    subst hkk;have hs1 : Hid (goW l 0 = (0, need)) := by
     have := hW.out;rw [List.drop_length] at this;exact this.symm
    have e0 := hR.out.c0; have e1 := hR.out.c1; have z0 := hR.out.z;have e2 := hV.out.c0; have e3 := hV.out.c1;go_wp2_with fail;have hk := (hR.out.s0 (0)).s1 (need);have HB9 := zH (zz1n hB.out (Nat.le_refl _) (.int .i64 (0)) (.int .i64 (need)));generalize (wr.setCell ⟨w.heap.size, 0, none⟩ (.int .i64 (0))).setCell ⟨w.heap.size, 1, none⟩ (.int .i64 (need)) = w9 at *;clear e0 e1 z0;have e0 := hk.c0; have e1 := hk.c1;rw [hs1.out];refine bodyPost_ret (v := .tuple #[.agg #[.int .i64 (0), .int .i64 (need)], .int .i64 0]) ?_ rfl ⟨rfl, HB9.out⟩;rw [results_cell_tmp rfl]; go_simp
end
section
open Go Go.RowKit
def tabL : List Value := [.string ⟨#[]⟩, .int .i64 0, .int .i64 0, .string ⟨#[107, 105, 110, 100, 32, 97, 116, 32, 108, 101, 97, 115, 116]⟩, .int .i64 2, .int .i64 1, .string ⟨#[107, 105, 110, 100, 32, 97, 116, 32, 109, 111, 115, 116]⟩, .int .i64 1, .int .i64 1, .string ⟨#[115, 105, 100, 101, 32, 97, 116, 32, 108, 101, 97, 115, 116]⟩, .int .i64 2, .int .i64 2, .string ⟨#[115, 105, 100, 101, 32, 97, 116, 32, 109, 111, 115, 116]⟩, .int .i64 1, .int .i64 2, .string ⟨#[113, 117, 97, 110, 116, 105, 116, 121]⟩, .int .i64 2, .int .i64 2, .string ⟨#[112, 114, 105, 99, 101]⟩, .int .i64 2, .int .i64 2, .string ⟨#[99, 97, 115, 104]⟩, .int .i64 2, .int .i64 2, .string ⟨#[108, 105, 109, 105, 116, 32, 111, 102, 32, 112, 111, 115, 105, 116, 105, 111, 110]⟩, .int .i64 2, .int .i64 2, .string ⟨#[108, 105, 109, 105, 116, 32, 111, 102, 32, 111, 114, 100, 101, 114]⟩, .int .i64 2, .int .i64 2, .string ⟨#[97, 99, 99, 111, 117, 110, 116, 32, 107, 110, 111, 119, 110]⟩, .int .i64 3, .int .i64 3, .string ⟨#[97, 99, 99, 111, 117, 110, 116, 32, 110, 101, 119]⟩, .int .i64 3, .int .i64 4, .string ⟨#[111, 114, 100, 101, 114, 32, 110, 101, 119]⟩, .int .i64 3, .int .i64 5, .string ⟨#[111, 114, 100, 101, 114, 32, 107, 110, 111, 119, 110]⟩, .int .i64 3, .int .i64 6, .string ⟨#[115, 121, 109, 98, 111, 108, 32, 112, 114, 105, 99, 101, 100]⟩, .int .i64 3, .int .i64 7, .string ⟨#[114, 111, 111, 109, 32, 111, 102, 32, 97, 99, 99, 111, 117, 110, 116, 115]⟩, .int .i64 1, .int .i64 8, .string ⟨#[114, 111, 111, 109, 32, 111, 102, 32, 111, 114, 100, 101, 114, 115]⟩, .int .i64 1, .int .i64 8, .string ⟨#[114, 111, 111, 109, 32, 111, 102, 32, 112, 114, 105, 99, 101, 115]⟩, .int .i64 1, .int .i64 8, .string ⟨#[119, 111, 114, 116, 104]⟩, .int .i64 1, .int .i64 9, .string ⟨#[114, 101, 97, 99, 104]⟩, .int .i64 1, .int .i64 10, .string ⟨#[109, 97, 114, 103, 105, 110]⟩, .int .i64 1, .int .i64 11, .string ⟨#[102, 105, 108, 108, 101, 100]⟩, .int .i64 1, .int .i64 2, .string ⟨#[99, 97, 115, 104, 32, 98, 101, 104, 105, 110, 100]⟩, .int .i64 3, .int .i64 12, .string ⟨#[112, 111, 115, 105, 116, 105, 111, 110, 32, 98, 101, 104, 105, 110, 100]⟩, .int .i64 3, .int .i64 12]
theorem tab_at : ∀ n, n < 24 → tabL[n * 3]? = some (.string ⟨(Rule.name n).toArray⟩) ∧ tabL[n * 3 + 1]? = some (.int .i64 (Rule.rel n)) ∧ tabL[n * 3 + 2]? = some (.int .i64 (Rule.code n))
 | 0, _ => ⟨rfl, rfl, rfl⟩
 | 1, _ => ⟨rfl, rfl, rfl⟩
 | 2, _ => ⟨rfl, rfl, rfl⟩
 | 3, _ => ⟨rfl, rfl, rfl⟩
 | 4, _ => ⟨rfl, rfl, rfl⟩
 | 5, _ => ⟨rfl, rfl, rfl⟩
 | 6, _ => ⟨rfl, rfl, rfl⟩
 | 7, _ => ⟨rfl, rfl, rfl⟩
 | 8, _ => ⟨rfl, rfl, rfl⟩
 | 9, _ => ⟨rfl, rfl, rfl⟩
 | 10, _ => ⟨rfl, rfl, rfl⟩
 | 11, _ => ⟨rfl, rfl, rfl⟩
 | 12, _ => ⟨rfl, rfl, rfl⟩
 | 13, _ => ⟨rfl, rfl, rfl⟩
 | 14, _ => ⟨rfl, rfl, rfl⟩
 | 15, _ => ⟨rfl, rfl, rfl⟩
 | 16, _ => ⟨rfl, rfl, rfl⟩
 | 17, _ => ⟨rfl, rfl, rfl⟩
 | 18, _ => ⟨rfl, rfl, rfl⟩
 | 19, _ => ⟨rfl, rfl, rfl⟩
 | 20, _ => ⟨rfl, rfl, rfl⟩
 | 21, _ => ⟨rfl, rfl, rfl⟩
 | 22, _ => ⟨rfl, rfl, rfl⟩
 | 23, _ => ⟨rfl, rfl, rfl⟩
 | n + 24, h => absurd h zw
theorem Table_in (n : Nat) (h0 : 0 < n) (h1 : n < 24) (w : World) : Calls Tryz.prog 109 #[.int .i64 n] w fun e w' => e = .returned (.agg #[.string ⟨(Rule.name n).toArray⟩, .int .i64 (Rule.rel n), .int .i64 (Rule.code n)]) ∧ Below w.heap.size w w' := by
 have t0 : decide ((n : Int) < 1) = false := decide_eq_false zw;have t1 : decide (23 < (n : Int)) = false := decide_eq_false zw;have hf := (tab_at n h1);generalize Rule.name n = nm at *;generalize Rule.rel n = rl at *;generalize Rule.code n = cd at *;obtain ⟨f0, f1, f2⟩ := hf;have hl0 : ([.string ⟨#[]⟩, .int .i64 0, .int .i64 0, .string ⟨#[107, 105, 110, 100, 32, 97, 116, 32, 108, 101, 97, 115, 116]⟩, .int .i64 2, .int .i64 1, .string ⟨#[107, 105, 110, 100, 32, 97, 116, 32, 109, 111, 115, 116]⟩, .int .i64 1, .int .i64 1, .string ⟨#[115, 105, 100, 101, 32, 97, 116, 32, 108, 101, 97, 115, 116]⟩, .int .i64 2, .int .i64 2, .string ⟨#[115, 105, 100, 101, 32, 97, 116, 32, 109, 111, 115, 116]⟩, .int .i64 1, .int .i64 2, .string ⟨#[113, 117, 97, 110, 116, 105, 116, 121]⟩, .int .i64 2, .int .i64 2, .string ⟨#[112, 114, 105, 99, 101]⟩, .int .i64 2, .int .i64 2, .string ⟨#[99, 97, 115, 104]⟩, .int .i64 2, .int .i64 2, .string ⟨#[108, 105, 109, 105, 116, 32, 111, 102, 32, 112, 111, 115, 105, 116, 105, 111, 110]⟩, .int .i64 2, .int .i64 2, .string ⟨#[108, 105, 109, 105, 116, 32, 111, 102, 32, 111, 114, 100, 101, 114]⟩, .int .i64 2, .int .i64 2, .string ⟨#[97, 99, 99, 111, 117, 110, 116, 32, 107, 110, 111, 119, 110]⟩, .int .i64 3, .int .i64 3, .string ⟨#[97, 99, 99, 111, 117, 110, 116, 32, 110, 101, 119]⟩, .int .i64 3, .int .i64 4, .string ⟨#[111, 114, 100, 101, 114, 32, 110, 101, 119]⟩, .int .i64 3, .int .i64 5, .string ⟨#[111, 114, 100, 101, 114, 32, 107, 110, 111, 119, 110]⟩, .int .i64 3, .int .i64 6, .string ⟨#[115, 121, 109, 98, 111, 108, 32, 112, 114, 105, 99, 101, 100]⟩, .int .i64 3, .int .i64 7, .string ⟨#[114, 111, 111, 109, 32, 111, 102, 32, 97, 99, 99, 111, 117, 110, 116, 115]⟩, .int .i64 1, .int .i64 8, .string ⟨#[114, 111, 111, 109, 32, 111, 102, 32, 111, 114, 100, 101, 114, 115]⟩, .int .i64 1, .int .i64 8, .string ⟨#[114, 111, 111, 109, 32, 111, 102, 32, 112, 114, 105, 99, 101, 115]⟩, .int .i64 1, .int .i64 8, .string ⟨#[119, 111, 114, 116, 104]⟩, .int .i64 1, .int .i64 9, .string ⟨#[114, 101, 97, 99, 104]⟩, .int .i64 1, .int .i64 10, .string ⟨#[109, 97, 114, 103, 105, 110]⟩, .int .i64 1, .int .i64 11, .string ⟨#[102, 105, 108, 108, 101, 100]⟩, .int .i64 1, .int .i64 2, .string ⟨#[99, 97, 115, 104, 32, 98, 101, 104, 105, 110, 100]⟩, .int .i64 3, .int .i64 12, .string ⟨#[112, 111, 115, 105, 116, 105, 111, 110, 32, 98, 101, 104, 105, 110, 100]⟩, .int .i64 3, .int .i64 12] : List Value)[n * 3]? = some (.string ⟨nm.toArray⟩) := f0;have hl1 : ([.string ⟨#[]⟩, .int .i64 0, .int .i64 0, .string ⟨#[107, 105, 110, 100, 32, 97, 116, 32, 108, 101, 97, 115, 116]⟩, .int .i64 2, .int .i64 1, .string ⟨#[107, 105, 110, 100, 32, 97, 116, 32, 109, 111, 115, 116]⟩, .int .i64 1, .int .i64 1, .string ⟨#[115, 105, 100, 101, 32, 97, 116, 32, 108, 101, 97, 115, 116]⟩, .int .i64 2, .int .i64 2, .string ⟨#[115, 105, 100, 101, 32, 97, 116, 32, 109, 111, 115, 116]⟩, .int .i64 1, .int .i64 2, .string ⟨#[113, 117, 97, 110, 116, 105, 116, 121]⟩, .int .i64 2, .int .i64 2, .string ⟨#[112, 114, 105, 99, 101]⟩, .int .i64 2, .int .i64 2, .string ⟨#[99, 97, 115, 104]⟩, .int .i64 2, .int .i64 2, .string ⟨#[108, 105, 109, 105, 116, 32, 111, 102, 32, 112, 111, 115, 105, 116, 105, 111, 110]⟩, .int .i64 2, .int .i64 2, .string ⟨#[108, 105, 109, 105, 116, 32, 111, 102, 32, 111, 114, 100, 101, 114]⟩, .int .i64 2, .int .i64 2, .string ⟨#[97, 99, 99, 111, 117, 110, 116, 32, 107, 110, 111, 119, 110]⟩, .int .i64 3, .int .i64 3, .string ⟨#[97, 99, 99, 111, 117, 110, 116, 32, 110, 101, 119]⟩, .int .i64 3, .int .i64 4, .string ⟨#[111, 114, 100, 101, 114, 32, 110, 101, 119]⟩, .int .i64 3, .int .i64 5, .string ⟨#[111, 114, 100, 101, 114, 32, 107, 110, 111, 119, 110]⟩, .int .i64 3, .int .i64 6, .string ⟨#[115, 121, 109, 98, 111, 108, 32, 112, 114, 105, 99, 101, 100]⟩, .int .i64 3, .int .i64 7, .string ⟨#[114, 111, 111, 109, 32, 111, 102, 32, 97, 99, 99, 111, 117, 110, 116, 115]⟩, .int .i64 1, .int .i64 8, .string ⟨#[114, 111, 111, 109, 32, 111, 102, 32, 111, 114, 100, 101, 114, 115]⟩, .int .i64 1, .int .i64 8, .string ⟨#[114, 111, 111, 109, 32, 111, 102, 32, 112, 114, 105, 99, 101, 115]⟩, .int .i64 1, .int .i64 8, .string ⟨#[119, 111, 114, 116, 104]⟩, .int .i64 1, .int .i64 9, .string ⟨#[114, 101, 97, 99, 104]⟩, .int .i64 1, .int .i64 10, .string ⟨#[109, 97, 114, 103, 105, 110]⟩, .int .i64 1, .int .i64 11, .string ⟨#[102, 105, 108, 108, 101, 100]⟩, .int .i64 1, .int .i64 2, .string ⟨#[99, 97, 115, 104, 32, 98, 101, 104, 105, 110, 100]⟩, .int .i64 3, .int .i64 12, .string ⟨#[112, 111, 115, 105, 116, 105, 111, 110, 32, 98, 101, 104, 105, 110, 100]⟩, .int .i64 3, .int .i64 12] : List Value)[n * 3 + 1]? = some (.int .i64 rl) := f1;have hl2 : ([.string ⟨#[]⟩, .int .i64 0, .int .i64 0, .string ⟨#[107, 105, 110, 100, 32, 97, 116, 32, 108, 101, 97, 115, 116]⟩, .int .i64 2, .int .i64 1, .string ⟨#[107, 105, 110, 100, 32, 97, 116, 32, 109, 111, 115, 116]⟩, .int .i64 1, .int .i64 1, .string ⟨#[115, 105, 100, 101, 32, 97, 116, 32, 108, 101, 97, 115, 116]⟩, .int .i64 2, .int .i64 2, .string ⟨#[115, 105, 100, 101, 32, 97, 116, 32, 109, 111, 115, 116]⟩, .int .i64 1, .int .i64 2, .string ⟨#[113, 117, 97, 110, 116, 105, 116, 121]⟩, .int .i64 2, .int .i64 2, .string ⟨#[112, 114, 105, 99, 101]⟩, .int .i64 2, .int .i64 2, .string ⟨#[99, 97, 115, 104]⟩, .int .i64 2, .int .i64 2, .string ⟨#[108, 105, 109, 105, 116, 32, 111, 102, 32, 112, 111, 115, 105, 116, 105, 111, 110]⟩, .int .i64 2, .int .i64 2, .string ⟨#[108, 105, 109, 105, 116, 32, 111, 102, 32, 111, 114, 100, 101, 114]⟩, .int .i64 2, .int .i64 2, .string ⟨#[97, 99, 99, 111, 117, 110, 116, 32, 107, 110, 111, 119, 110]⟩, .int .i64 3, .int .i64 3, .string ⟨#[97, 99, 99, 111, 117, 110, 116, 32, 110, 101, 119]⟩, .int .i64 3, .int .i64 4, .string ⟨#[111, 114, 100, 101, 114, 32, 110, 101, 119]⟩, .int .i64 3, .int .i64 5, .string ⟨#[111, 114, 100, 101, 114, 32, 107, 110, 111, 119, 110]⟩, .int .i64 3, .int .i64 6, .string ⟨#[115, 121, 109, 98, 111, 108, 32, 112, 114, 105, 99, 101, 100]⟩, .int .i64 3, .int .i64 7, .string ⟨#[114, 111, 111, 109, 32, 111, 102, 32, 97, 99, 99, 111, 117, 110, 116, 115]⟩, .int .i64 1, .int .i64 8, .string ⟨#[114, 111, 111, 109, 32, 111, 102, 32, 111, 114, 100, 101, 114, 115]⟩, .int .i64 1, .int .i64 8, .string ⟨#[114, 111, 111, 109, 32, 111, 102, 32, 112, 114, 105, 99, 101, 115]⟩, .int .i64 1, .int .i64 8, .string ⟨#[119, 111, 114, 116, 104]⟩, .int .i64 1, .int .i64 9, .string ⟨#[114, 101, 97, 99, 104]⟩, .int .i64 1, .int .i64 10, .string ⟨#[109, 97, 114, 103, 105, 110]⟩, .int .i64 1, .int .i64 11, .string ⟨#[102, 105, 108, 108, 101, 100]⟩, .int .i64 1, .int .i64 2, .string ⟨#[99, 97, 115, 104, 32, 98, 101, 104, 105, 110, 100]⟩, .int .i64 3, .int .i64 12, .string ⟨#[112, 111, 115, 105, 116, 105, 111, 110, 32, 98, 101, 104, 105, 110, 100]⟩, .int .i64 3, .int .i64 12] : List Value)[n * 3 + 2]? = some (.int .i64 cd) := f2;clear f0 f1 f2 h0;go_in;go_wp2_with fail;clear hl0 hl1 hl2;refine bodyPost_ret (v := .agg #[.string ⟨nm.toArray⟩, rl, cd]) ?_ rfl ⟨rfl, ((Below.refl _ w).alloc (Nat.le_refl _) _).alloc (by rw [World.size_alloc]; omega) _⟩
 rw [zz0n rfl];go_simp
theorem zt79 {p : Prop} (h : p := by
 clear h h0;go_in;go_wp2_with fail;refine bodyPost_ret (v := .agg #[.string ⟨#[]⟩, .int .i64 0, .int .i64 0]) ?_ rfl ⟨rfl, ((Below.refl _ w).alloc (Nat.le_refl _) _).alloc (by rw [World.size_alloc]; omega) _⟩
 rw [zz0n rfl];go_simp) : p := h
theorem Table_out (n : Int) (h : n < 1 ∨ 23 < n) (w : World) : Calls Tryz.prog 109 #[.int .i64 n] w fun e w' => e = .returned (.agg #[.string ⟨#[]⟩, .int .i64 0, .int .i64 0]) ∧ Below w.heap.size w w' := by
 by_cases h0 : n < 1
 ·have t0 : decide (n < 1) = true := decide_eq_true h0
  exact zt79
 ·have t0 : decide (n < 1) = false := decide_eq_false h0
  have t1 : decide (23 < n) = true := decide_eq_true zw;exact zt79
theorem zz0w (n : Int) (w : World) : Calls Tryz.prog 109 #[.int .i64 n] w fun e w' => e = .returned (.agg #[.string ⟨(Rule.name (numR n)).toArray⟩, .int .i64 (relS n), .int .i64 (codeS n)]) ∧ Below w.heap.size w w' := by
 by_cases h : 0 < n ∧ n < 24
 ·obtain ⟨m, rfl⟩ : ∃ m : Nat, n = m := ⟨n.toNat, by omega⟩
  have hn : numR (m : Int) = m := by unfold numR; rw [if_pos h]; rfl
  unfold relS codeS;rw [hn];exact Table_in m zw zw w
 ·have hn : numR n = 0 := by unfold numR; rw [if_neg h]
  unfold relS codeS;rw [hn];exact Table_out n zw w
theorem row_f1 (s : ByteArray) (a b : Int) (w : World) : (Instr.field 148 (.agg #[.string s, a, b]) 1).run Tryz.prog w = .ok (.int .i64 a) w := by kernel_rfl
theorem row_f2 (s : ByteArray) (a b : Int) (w : World) : (Instr.field 148 (.agg #[.string s, a, b]) 2).run Tryz.prog w = .ok (.int .i64 b) w := by kernel_rfl
theorem zt29 {p : Prop} (h : p := by
 clear h hnm hcd hb;go_in;go_wp2_with fail;(with_reducible refine (q.out _).mono ?_);rintro e w' ⟨rfl, hb⟩;have HB2 := zB HB hb;have c1 := zz00 (zz06 hk.out hb) 1 _ rfl;have c2 := zz00 (zz06 hk.out hb) 2 _ rfl;clear hb;go_wp2_with fail;go_ret;exact ⟨rfl, HB2.out⟩) : p := h
theorem zz9l (r a b : Int) (h : relS r = 0) (w : World) : Calls Tryz.prog 108 #[.agg #[r, a, b, .bool false]] w fun e w' => e = .returned (.bool (false)) ∧ Below w.heap.size w w' := by
 have hb := (Below.refl w.heap.size w).alloc (Nat.le_refl _) (.cells #[r, a, b, .bool false] 65);have HB := zH hb;have hk : Hid ((w.alloc (.cells #[r, a, b, .bool false] 65)).heap[w.heap.size]? = some (.cells #[r, a, b, .bool false] 65)) := zz02 _ _;obtain ⟨nm, hnm⟩ : ∃ nm, Rule.name (numR r) = nm := ⟨_, rfl⟩;obtain ⟨cd, hcd⟩ : ∃ cd, codeS r = cd := ⟨_, rfl⟩;have q : Hid (∀ w, Calls Tryz.prog 109 #[.int .i64 r] w fun e w' => e = .returned (.agg #[.string ⟨nm.toArray⟩, .int .i64 0, cd]) ∧ Below w.heap.size w w') := fun w => by
  have := zz0w r w;rw [h, hnm, hcd] at this;exact this
 have hf := row_f1 ⟨nm.toArray⟩ 0 cd;exact zt29
theorem zz9k (r a b : Int) (h : relS r = 1) (w : World) : Calls Tryz.prog 108 #[.agg #[r, a, b, .bool false]] w fun e w' => e = .returned (.bool (decide (a ≤ b))) ∧ Below w.heap.size w w' := by
 have hb := (Below.refl w.heap.size w).alloc (Nat.le_refl _) (.cells #[r, a, b, .bool false] 65);have HB := zH hb;have hk : Hid ((w.alloc (.cells #[r, a, b, .bool false] 65)).heap[w.heap.size]? = some (.cells #[r, a, b, .bool false] 65)) := zz02 _ _;obtain ⟨nm, hnm⟩ : ∃ nm, Rule.name (numR r) = nm := ⟨_, rfl⟩;obtain ⟨cd, hcd⟩ : ∃ cd, codeS r = cd := ⟨_, rfl⟩;have q : Hid (∀ w, Calls Tryz.prog 109 #[.int .i64 r] w fun e w' => e = .returned (.agg #[.string ⟨nm.toArray⟩, .int .i64 1, cd]) ∧ Below w.heap.size w w') := fun w => by
  have := zz0w r w;rw [h, hnm, hcd] at this;exact this
 have hf := row_f1 ⟨nm.toArray⟩ 1 cd;exact zt29
theorem zz9j (r a b : Int) (h : relS r = 2) (w : World) : Calls Tryz.prog 108 #[.agg #[r, a, b, .bool false]] w fun e w' => e = .returned (.bool (decide (b ≤ a))) ∧ Below w.heap.size w w' := by
 have hb := (Below.refl w.heap.size w).alloc (Nat.le_refl _) (.cells #[r, a, b, .bool false] 65);have HB := zH hb;have hk : Hid ((w.alloc (.cells #[r, a, b, .bool false] 65)).heap[w.heap.size]? = some (.cells #[r, a, b, .bool false] 65)) := zz02 _ _;obtain ⟨nm, hnm⟩ : ∃ nm, Rule.name (numR r) = nm := ⟨_, rfl⟩;obtain ⟨cd, hcd⟩ : ∃ cd, codeS r = cd := ⟨_, rfl⟩;have q : Hid (∀ w, Calls Tryz.prog 109 #[.int .i64 r] w fun e w' => e = .returned (.agg #[.string ⟨nm.toArray⟩, .int .i64 2, cd]) ∧ Below w.heap.size w w') := fun w => by
  have := zz0w r w;rw [h, hnm, hcd] at this;exact this
 have hf := row_f1 ⟨nm.toArray⟩ 2 cd;exact zt29
theorem zz9i (r a b : Int) (h : relS r = 3) (w : World) : Calls Tryz.prog 108 #[.agg #[r, a, b, .bool false]] w fun e w' => e = .returned (.bool (a == b)) ∧ Below w.heap.size w w' := by
 have hb := (Below.refl w.heap.size w).alloc (Nat.le_refl _) (.cells #[r, a, b, .bool false] 65);have HB := zH hb;have hk : Hid ((w.alloc (.cells #[r, a, b, .bool false] 65)).heap[w.heap.size]? = some (.cells #[r, a, b, .bool false] 65)) := zz02 _ _;obtain ⟨nm, hnm⟩ : ∃ nm, Rule.name (numR r) = nm := ⟨_, rfl⟩;obtain ⟨cd, hcd⟩ : ∃ cd, codeS r = cd := ⟨_, rfl⟩;have q : Hid (∀ w, Calls Tryz.prog 109 #[.int .i64 r] w fun e w' => e = .returned (.agg #[.string ⟨nm.toArray⟩, .int .i64 3, cd]) ∧ Below w.heap.size w w') := fun w => by
  have := zz0w r w;rw [h, hnm, hcd] at this;exact this
 have hf := row_f1 ⟨nm.toArray⟩ 3 cd;exact zt29
theorem zz9m (r a b : Int) (w : World) : Calls Tryz.prog 108 #[.agg #[r, a, b, .bool true]] w fun e w' => e = .returned (.bool false) ∧ Below w.heap.size w w' := by
 have hb := (Below.refl w.heap.size w).alloc (Nat.le_refl _) (.cells #[r, a, b, .bool true] 65);have HB := zH hb;clear hb;go_in;go_wp2_with fail;go_ret;exact ⟨rfl, HB.out⟩
theorem zz6v (s : Stp) (w : World) : Calls Tryz.prog 108 #[s.val] w fun e w' => e = .returned (.bool s.holds) ∧ Below w.heap.size w w' := by
 obtain ⟨r, a, b, o⟩ := s;cases o with
 | true => exact zz9m r a b w
 | false =>
  have hl := zz8h r;have h4 : relS r = 0 ∨ relS r = 1 ∨ relS r = 2 ∨ relS r = 3 := by omega
  rcases h4 with h | h | h | h
  ·have := zz9l r a b h w
   rw [show (Stp.mk r a b false).holds = (false) by show (true && Rule.is (relS r) a b) = _; rw [h]; rfl]
   exact this
  ·have := zz9k r a b h w
   rw [show (Stp.mk r a b false).holds = (decide (a ≤ b)) by show (true && Rule.is (relS r) a b) = _; rw [h]; rfl]
   exact this
  ·have := zz9j r a b h w
   rw [show (Stp.mk r a b false).holds = (decide (b ≤ a)) by show (true && Rule.is (relS r) a b) = _; rw [h]; rfl]
   exact this
  ·have := zz9i r a b h w
   rw [show (Stp.mk r a b false).holds = (a == b) by show (true && Rule.is (relS r) a b) = _; rw [h]; rfl]
   exact this
theorem rHolds_ag (r a b : Int) (o : Bool) (w : World) : Calls Tryz.prog 108 #[.agg #[r, a, b, .bool o]] w fun e w' => e = .returned (.bool (Stp.mk r a b o).holds) ∧ Below w.heap.size w w' := zz6v ⟨r, a, b, o⟩ w
theorem zt81 {p : Prop} (h : p := by
 cases f with
 | true =>
  have h : bitI true = 1 := rfl;rw [h];go_in;go_wp2_with fail;go_ret;exact ⟨rfl, rfl⟩
 | false =>
  have h : bitI false = 0 := rfl;rw [h];go_in;go_wp2_with fail;go_ret;exact ⟨rfl, rfl⟩) : p := h
theorem zz2p (f : Bool) (w : World) : Calls Tryz.prog 100 #[.bool f] w fun e w' => e = .returned (.int .i64 (bitI f)) ∧ w' = w := by
 exact zt81
theorem zz2r (f : Bool) (w : World) : Calls Tryz.prog 73 #[.bool f] w fun e w' => e = .returned (.int .i64 (bitI f)) ∧ w' = w := by
 exact zt81
def LkAt (w : World) (B : Nat) (v : Value) (pre : List Stp) : Prop := ∃ vs, v = .agg #[vs, .bool (!pre.all (·.holds))] ∧ StepsOwn w B vs (cutL pre)
theorem LkAt.nil (w : World) (B : Nat) : LkAt w B (.agg #[.slice none 0 0, .bool false]) [] := ⟨_, rfl, StepsOwn.nil w B⟩
theorem LkAt.kept {w w' : World} {B : Nat} {v : Value} {pre : List Stp} (h : LkAt w B v pre) (hb : Below w.heap.size w w') : LkAt w' B v pre := by
 obtain ⟨vs, rfl, h⟩ := h;exact ⟨vs, rfl, h.kept hb⟩
theorem zz66 (pre : List Stp) (s : Stp) : (pre ++ [s]).all (·.holds) = (pre.all (·.holds) && s.holds) := by simp
theorem zt70 {p : Prop} (h : p := by
 have HB2 : Below w.heap.size w ((w.alloc (.cells #[.slice A k c, .bool true] 138)).alloc (.cells #[.slice A k c, .bool true] 138)) := zz01 zBa (by simp) _
 refine bodyPost_ret (v := .agg #[.slice A k c, .bool true]) ?_ rfl ⟨_, rfl, hfin.out _ (ho.out.kept HB2), HB2⟩;rw [zz0n rfl];go_simp) : p := h
theorem zzao (B : Nat) (vs : Value) (pre : List Stp) (n a b : Int) (w : World) (hall : Hid (pre.all (·.holds) = false)) (ho : Hid (StepsOwn w B vs (cutL pre))) :
  Calls Tryz.prog 99 #[.agg #[vs, .bool true], .int .i64 n, .int .i64 a, .int .i64 b] w fun e w' => ∃ v', e = .returned v' ∧ LkAt w' B v' (pre ++ [sS n a b]) ∧ Below w.heap.size w w' := by
 have hc : cutL (pre ++ [sS n a b]) = cutL pre := by rw [zz3z, hall.out]; rfl
 have hfin : Hid (∀ w', StepsOwn w' B vs (cutL pre) → LkAt w' B (.agg #[vs, .bool true]) (pre ++ [sS n a b])) := (show _ from fun w' h => ⟨_, by rw [zz66, hall.out]; rfl, by rw [hc]; exact h⟩)
 clear hc hall;obtain ⟨A, c, rfl⟩ := ho.out.form;obtain ⟨k, hk⟩ : ∃ k, (cutL pre).length = k := ⟨_, rfl⟩;rw [hk] at ho hfin ⊢;clear hk;obtain ⟨w1, hw1⟩ : ∃ w1, (w.alloc (.cells #[.slice A k c, .bool true] 138)).alloc (.cells #[.slice none 0 0, .bool false] 138) = w1 := ⟨_, rfl⟩;have HB1 : Hid (Below w.heap.size w w1) := by rw [← hw1]; exact zz01 zBa (by simp) _
 have K1 : ZB w1 w.heap.size #[.slice A k c, .bool true] 138 := by rw [← hw1]; exact zz04 (zz02 _ _) _
 have e0 := zC K1.out;rw [← hw1] at e0;replace hw1 := zH hw1;go_in;go_wp2_with fail;clear e0 hw1 HB1 K1;exact zt70
theorem zzan (W : World) (B : Nat) (vs : Value) (pre : List Stp) (n a b : Int) (hs : Hid ((sS n a b).fit)) (w : World) (hall : Hid (pre.all (·.holds) = true)) (ho : Hid (StepsOwn w B vs (cutL pre))) (hb : Hid (Below B W w)) (hB : Hid (B ≤ w.heap.size)) (hl : Hid (pre.length ≤ 100)) :
  Calls Tryz.prog 99 #[.agg #[vs, .bool false], .int .i64 n, .int .i64 a, .int .i64 b] w fun e w' => ∃ v', e = .returned v' ∧ LkAt w' B v' (pre ++ [sS n a b]) ∧ Below B W w' ∧ Off w w' := by
 have hc : cutL (pre ++ [sS n a b]) = cutL pre ++ [sS n a b] := by rw [zz3z, hall.out]; rfl
 have hfin : Hid (∀ w' v', StepsOwn w' B v' (cutL pre ++ [sS n a b]) → LkAt w' B (.agg #[v', .bool (!(sS n a b).holds)]) (pre ++ [sS n a b])) := (show _ from fun w' v' h => ⟨_, by rw [zz66, hall.out, Bool.true_and], by rw [hc]; exact h⟩)
 have hlc : (cutL pre).length + 1 ≤ 4000000 := by have := hl.out; have := zz63 pre; omega
 clear hc hall hl;obtain ⟨H, hH⟩ : ∃ H, (sS n a b).holds = H := ⟨_, rfl⟩;have qH := zH (fun wz => rHolds_ag n a b false wz)
 have hH' : (Stp.mk n a b false).holds = H := hH;rw [hH'] at qH;rw [hH] at hfin;clear hH hH';obtain ⟨A, c, hA⟩ := ho.out.form;obtain ⟨k, hk⟩ : ∃ k, (cutL pre).length = k := ⟨_, rfl⟩;rw [hk] at hA;subst hA;have HK := zH hk;have HLC := zH hlc;clear hk hlc;obtain ⟨w1, hw1⟩ : ∃ w1, ((w.alloc (.cells #[.slice A k c, .bool false] 138)).alloc (.cells #[.slice none 0 0, .bool false] 138)).alloc (.cells #[n, a, b, .bool false] 65) = w1 := ⟨_, rfl⟩;have HB1 : Hid (Below w.heap.size w w1) := by rw [← hw1]; exact zz01 (zz01 zBa (by simp) _) zo _
 have K1 : ZB w1 w.heap.size #[.slice A k c, .bool false] 138 := by rw [← hw1]; exact zz04 (zz04 (zz02 _ _) _) _
 have R1 : ZB w1 (w.heap.size + 1) #[.slice none 0 0, .bool false] 138 := by rw [← hw1]; exact zz04 (zz0e _ _ _ (by simp)) _
 have S1 : ZB w1 (w.heap.size + 2) #[n, a, b, .bool false] 65 := by rw [← hw1]; exact zz0e _ _ _ (by simp)
 have O1 : Hid (StepsOwn w1 B (.slice A k c) (cutL pre)) := ho.out.kept HB1.out;have HBW : Hid (Below B W w1) := hb.out.trans (HB1.out.mono hB.out);have hB1 : Hid (B ≤ w1.heap.size) := Nat.le_trans hB.out HB1.out.size;replace hw1 := zH hw1;go_in;go_wp2_with fail;rw [hw1.out];refine zz07 [9] (fun wz => ZB wz w.heap.size #[.slice A k c, .bool false] 138 ∧ ZB wz (w.heap.size + 2) #[n, a, b, .bool false] 65) 10 (zb 10 0) zk zk zk ?_
 obtain ⟨wd, hwd⟩ : ∃ wd : World, { w1 with drawn := w1.drawn + 1 } = wd := ⟨_, rfl⟩
 rw [hwd];replace K1 : ZB wd w.heap.size #[.slice A k c, .bool false] 138 := by rw [← hwd]; exact K1.out
 replace R1 : ZB wd (w.heap.size + 1) #[.slice none 0 0, .bool false] 138 := by rw [← hwd]; exact R1.out
 replace S1 : ZB wd (w.heap.size + 2) #[n, a, b, .bool false] 65 := by rw [← hwd]; exact S1.out
 replace O1 : Hid (StepsOwn wd B (.slice A k c) (cutL pre)) := by rw [← hwd]; exact O1.out
 replace HBW : Hid (Below B W wd) := by rw [← hwd]; exact HBW.out.drew
 replace HB1 : Hid (Below w.heap.size w wd) := by rw [← hwd]; exact HB1.out.drew
 replace hB1 : Hid (B ≤ wd.heap.size) := by rw [← hwd]; exact hB1.out
 have HC : ZB wd w.heap.size #[.slice A k c, .bool false] 138 ∧ ZB wd (w.heap.size + 2) #[n, a, b, .bool false] 65 := ⟨K1, S1⟩;clear hwd hw1;refine zM [0, 1, 2, 5] 6 HC ?_;simp only [opsAt, zA];refine zp ?_;refine zq (fun wz hC => zC hC.1.out) ?_
 refine zq (fun wz hC => zC hC.2.out) ?_
 refine zq (fun wz hC => zC hC.2.out) ?_
 unfold wpPure;go_simp;refine zW 3 ?_;go_wp2_with fail;refine zQs (fun _ => ⟨zz04 K1.out _, zz04 S1.out _⟩) ?_
 refine zW 4 ?_;have hFit : Stp.fit ⟨n, a, b, false⟩ := hs.out;refine zz15 (W := W) (B := B) _ _ 34 zz8z ⟨n, a, b, false⟩ (.slice A k c) (cutL pre) HBW.out O1 hB1.out rfl rfl rfl rfl rfl hFit HLC.out ?_;intro v2 w2 ho2 hb2 hB2 hoff hoth;have hne : (Value.slice A k c).ownBlock ≠ some (w.heap.size + 2) := fun h => by
  have := (ho.out.1.lt _ h).2;omega
 have K2 := zH (hoff.out.blk _ _ _ _ K1.out zx zx);have R2 := zH (hoff.out.blk _ _ _ _ R1.out zx zx);have S2 := zH (hoth.out _ _ hne S1.out);have HO2 : Hid (Off w w2) := (Off.of HB1.out).trans hoff.out;clear hoth hoff hne HC;go_wp2_with fail;refine zQs (fun _ => ⟨K2, S2⟩) ?_
 refine zW 6 ?_;go_wp2_with fail;(with_reducible refine (qH.out _).mono ?_);rintro e w3 ⟨rfl, hb⟩;have K3 := zK K2 hb;have R3 := zK R2 hb;have S3 := zK S2 hb;have HO3 : Hid (Off w w3) := HO2.out.trans (Off.of hb);have O3 := zH (ho2.out.kept hb);have HB3 : Hid (Below B W w3) := hb2.out.trans (hb.mono hB2);clear hb;go_wp2_with fail;refine zQs (fun _ => ⟨K3, S3⟩) ?_
 refine zM [7, 8] 1 ⟨K3, S3⟩ ?_;simp only [opsAt, zA];obtain ⟨A2, c2, hA2⟩ := ho2.out.form;obtain ⟨k2, hk2⟩ : ∃ k2, (cutL pre ++ [(⟨n, a, b, false⟩ : Stp)]).length = k2 := ⟨_, rfl⟩;rw [hk2] at hA2;subst hA2;clear hk2
 iterate 2 refine zp ?_
 unfold wpPure;go_simp;refine zW 9 ?_;have f0 := zz05 R3.out 0;have f1 := zz05 R3.out 1;have d0 := zC R3.out;go_wp2_with fail;refine zQs (fun h => absurd h zx) ?_
 refine zQe ?_;clear f0 f1 d0;obtain ⟨vN, hvN⟩ : ∃ vN : Value, (.slice A2 k2 c2) = vN := ⟨_, rfl⟩;rw [hvN] at O3 ⊢;obtain ⟨w4, hw4⟩ : ∃ w4, (w3.setCell ⟨w.heap.size + 1, 0, none⟩ vN).setCell ⟨w.heap.size + 1, 1, none⟩ (.bool !H) = w4 := ⟨_, rfl⟩;have R4 : ZB w4 (w.heap.size + 1) #[vN, .bool !H] 138 := by rw [← hw4]; exact zz0d (zz0d R3.out 0 _) 1 _
 have O4 : Hid (StepsOwn w4 B vN (cutL pre ++ [(⟨n, a, b, false⟩ : Stp)])) := by rw [← hw4]; exact (O3.out.setOther R3.out zx 0 _).setOther (zz0d R3.out 0 _) zx 1 _
 have hge : B ≤ w.heap.size + 1 := Nat.le_succ_of_le hB.out;have HB4 : Hid (Below B W w4) := by rw [← hw4]; exact (HB3.out.setCell (p := ⟨w.heap.size + 1, 0, none⟩) hge _).setCell (p := ⟨w.heap.size + 1, 1, none⟩) hge _
 have HO4 : Hid (Off w w4) := by rw [← hw4]; exact HO3.out.fresh2 (Nat.le_succ _) _ _ _ _
 rw [hw4];clear hw4;go_wp2_with fail;refine bodyPost_ret (v := .agg #[vN, .bool !H]) ?_ rfl ⟨_, rfl, hfin.out _ _ O4.out, HB4.out, HO4.out⟩;exact zz38 rfl _ _ (w.heap.size + 1) _ _ _ rfl R4.out Tryz.underlying138 rfl zk
theorem Off.freshC {w : World} {g : Nat} (hg : w.heap.size ≤ g) : ∀ {w' : World}, Off w w' → ∀ (o : Nat) (us : List Value), Off w (putC w' g o us)
 | w', h, o, [] => h
 | w', h, o, u :: us => by
  show Off w (putC (w'.setCell ⟨g, o, none⟩ u) g (o + 1) us);exact Off.freshC hg (h.fresh hg o u) (o + 1) us
theorem RowOwn.setO {w : World} {B : Nat} {e : TypeId} {v : Value} {k : Nat} {l : List (List Int)} (h : RowOwn w B e v k l) {g : Nat} {cs : Array Value} {t : TypeId} {fr : Nat × Nat} (hg : w.heap[g]? = some (.cells cs t fr)) (hne : e ≠ t) (i : Nat) (u : Value) : RowOwn (w.setCell ⟨g, i, none⟩ u) B e v k l := by
 obtain ⟨⟨hl, ho⟩, hk⟩ := h;refine ⟨⟨hl, ?_⟩, hk⟩;rcases ho with h | ⟨g', cap, cur, h1, h2, h3, h4⟩
 ·exact .inl h
 ·refine .inr ⟨g', cap, cur, h1, h2, zz09 h3 i u (fun e' => ?_), h4⟩
  subst e';rw [hg] at h3;injection h3 with h3
  injection h3 with _ h3 _
  exact hne h3.symm
theorem BkOwn.setO {w : World} {B : Nat} {v : Value} {b : Bk} (h : BkOwn w B v b) {g : Nat} {cs : Array Value} {fr : Nat × Nat} (hg : w.heap[g]? = some (.cells cs 27 fr)) (i : Nat) (u : Value) : BkOwn (w.setCell ⟨g, i, none⟩ u) B v b := by
 obtain ⟨vh, vs, vo, vr, rfl, h1, h2, h3, h4⟩ := h;exact ⟨vh, vs, vo, vr, rfl, h1.setO hg zx i u, h2.setO hg zx i u, h3.setO hg zx i u, h4.setO hg zx i u⟩
theorem BkOwn.put {g B : Nat} {v : Value} {b : Bk} {fr : Nat × Nat} : ∀ {w : World} {cs : Array Value}, BkOwn w B v b → w.heap[g]? = some (.cells cs 27 fr) → ∀ (o : Nat) (us : List Value), BkOwn (putC w g o us) B v b
 | w, cs, h, hg, o, [] => h
 | w, cs, h, hg, o, u :: us => by
  show BkOwn (putC (w.setCell ⟨g, o, none⟩ u) g (o + 1) us) B v b;exact BkOwn.put (h.setO hg o u) (zz0d hg o u) (o + 1) us
theorem BkOwn.low {g B : Nat} {v : Value} {b : Bk} (hlt : g < B) : ∀ {w : World}, BkOwn w B v b → ∀ (o : Nat) (us : List Value), BkOwn (putC w g o us) B v b
 | w, h, o, [] => h
 | w, h, o, u :: us => by
  show BkOwn (putC (w.setCell ⟨g, o, none⟩ u) g (o + 1) us) B v b;exact BkOwn.low hlt (BkOwn.setBelow (a := ⟨g, o, none⟩) h hlt u) (o + 1) us
def BkEi (w : World) (u v : Value) (b b' : Bk) : Prop := (v = u ∧ b' = b) ∨ BkOwn w 0 v b'
theorem BkEi.same (w : World) (u : Value) (b : Bk) : BkEi w u u b b := Or.inl ⟨rfl, rfl⟩
theorem BkEi.own {w : World} {u v : Value} {b b' : Bk} (h : BkOwn w 0 v b') : BkEi w u v b b' := Or.inr h
theorem LookIs.form {I : List Stp → World → Prop} {W : World} {f : Value} {s : Stp} (h : LookIs I W f s) : ∃ K caps, f = .func (.func K) #[] caps := by
 obtain ⟨K, caps, h1, _⟩ := h;exact ⟨K, caps, h1⟩
theorem zz1z {fn : Func} {t u v : Tmp} (h : fn.results = #[.tmp t, .tmp u, .tmp v]) (tmps : Array Value) (P : Program) (w : World) :
  (results fn tmps).run P w = .ok (.tuple #[tmps.getD t undef, tmps.getD u undef, tmps.getD v undef]) w := by
 simp [results, h, go_sem]
theorem gfit (n a b : Int) (hn : 0 ≤ n ∧ n ≤ 100) (ha : I64 a) (hb : I64 b) : Hid ((sS n a b).fit) := (show (sS n a b).fit from ⟨by show I64 n; unfold I64; omega, ha, hb⟩)
theorem zz0l {n : Int} (h : -1000 ≤ n ∧ n ≤ 1000) : I64 n := by unfold I64; omega
theorem zz1o (f : Bool) : I64 (bitI f) := by cases f <;> (unfold bitI I64; simp)
theorem zz5c {n : Nat} (h : n ≤ 1000000) : I64 (n : Int) := by unfold I64; omega
theorem Ev.I64s.all {e : Ev} (h : e.I64s) : I64 e.kind ∧ I64 e.acc ∧ I64 e.ord ∧ I64 e.sym ∧ I64 e.side ∧ I64 e.qty ∧ I64 e.px := h
theorem Ev.I64s.kind {e : Ev} (h : e.I64s) : I64 e.kind := h.all.1
theorem Ev.I64s.side {e : Ev} (h : e.I64s) : I64 e.side := h.all.2.2.2.2.1
theorem Ev.I64s.qty {e : Ev} (h : e.I64s) : I64 e.qty := h.all.2.2.2.2.2.1
theorem Ev.I64s.px {e : Ev} (h : e.I64s) : I64 e.px := h.all.2.2.2.2.2.2
end
section
open Go Go.RowKit Mon Bg
theorem mul_fits {a b : Int} (ha : I64 a) (hb : I64 b) : total ((a * b) % M3) = mulP a b := by
 unfold mulP;refine zz27 ?_;have h1 : (a * b).natAbs ≤ 9223372036854775808 * 9223372036854775808 := by
  rw [Int.natAbs_mul];exact Nat.mul_le_mul (by unfold I64 at ha; omega) (by unfold I64 at hb; omega)
 omega
theorem zz1p (X : Int) : I64 (fitsP X).1 := by
 by_cases h : -9223372036854775808 ≤ X ∧ X ≤ 9223372036854775807
 ·rw [zz8y h]; unfold I64; simp only []; omega
 ·rw [zz5z h]; unfold I64; simp
theorem zz6s (b : Bk) (acc sym side qty : Int) : I64 (reachR b acc sym side qty).1 := by
 unfold reachR
 split
 ·unfold I64; simp
 ·exact zz1p _
theorem zz8n (X rate : Int) : I64 (needR X rate).1 := by
 unfold needR
 split
 ·unfold I64; simp
 ·exact zz1p _
theorem zt104 {p : Prop} (h : p := by
 go_wp2_with fail;go_quiet (fail);go_wp2_with fail;refine bodyPost_ret (zz1z rfl _ _ _) rfl ?_;exact ⟨rfl, zz0b HB.out _⟩) : p := h
theorem order1_on (w0 : World) (g : Nat) (vh vs vo vr : Value) (b : Bk) (e : Ev) (rate : Int) (hE : Hid e.I64s) (h0 h1 h2 h3 : Int) (W : World) (p1 p2 : Nat) (hp1 : ZB W p1 #[e.kind, e.acc, e.ord, e.sym, e.side, e.qty, e.px] 29) (hp2 : ZB W p2 #[h0, h1, h2, h3] 78) :
  SideOn (Gt w0 g vh vs vo vr b e rate) W (.func (.func 78) #[] #[.pointer (some ⟨p1, 0, none⟩), .pointer (some ⟨p2, 0, none⟩)]) (mulP e.qty e.px).1 h3 (mulP e.qty e.px).2 := by
 refine ⟨_, _, rfl, fun args w => enters_of Tryz.func78 zk rfl _ w, fun w l hI hW => ?_⟩
 have K1 : ZB w p1 #[e.kind, e.acc, e.ord, e.sym, e.side, e.qty, e.px] 29 := hW.blk _ _ _ _ hp1.out zx zx;have K2 : ZB w p2 #[h0, h1, h2, h3] 78 := hW.blk _ _ _ _ hp2.out zx zx;clear hp1 hp2 hI hW;have q := zH (fun wz => Mul_any e.qty e.px hE.out.qty hE.out.px wz)
 rw [mul_fits hE.out.qty hE.out.px] at q;obtain ⟨M, hM⟩ : ∃ M, mulP e.qty e.px = M := ⟨_, rfl⟩;rw [hM] at q ⊢;clear hM;have c5 := zC K1.out;go_in;go_wp2_with fail;(with_reducible refine (q.out _).mono ?_);rintro r w1 ⟨rfl, hb⟩;replace K2 := zK K2 hb;have HB := zH hb;clear hb c5;have lt2 := zL K2.out;have c3 := zz00 K2.out 3 _ rfl;exact zt104
theorem order2_on (w0 : World) (g : Nat) (vh vs vo vr : Value) (b : Bk) (e : Ev) (rate : Int) (B0 : Hid (BkAt w0 (.agg #[vh, vs, vo, vr, b.n]) b)) (hs : Hid b.Small) (hi : Hid b.I64s) (hm : Hid (b.mayB = true)) (hE : Hid e.I64s) (h0 h1 h2 h3 : Int) (W : World) (p1 p2 p3 : Nat) (hp1 : ZB W p1 #[.pointer (some ⟨g, 0, none⟩)] 66) (hp2 : ZB W p2 #[e.kind, e.acc, e.ord, e.sym, e.side, e.qty, e.px] 29) (hp3 : ZB W p3 #[h0, h1, h2, h3] 78) :
  SideOn (Gt w0 g vh vs vo vr b e rate) W (.func (.func 80) #[] #[.pointer (some ⟨p1, 0, none⟩), .pointer (some ⟨p2, 0, none⟩), .pointer (some ⟨p3, 0, none⟩)]) (reachR b e.acc e.sym e.side e.qty).1 h2 (reachR b e.acc e.sym e.side e.qty).2 := by
 refine ⟨_, _, rfl, fun args w => enters_of Tryz.func80 zk rfl _ w, fun w l hI hW => ?_⟩
 have K1 : ZB w p1 #[.pointer (some ⟨g, 0, none⟩)] 66 := hW.blk _ _ _ _ hp1.out zx zx;have K2 : ZB w p2 #[e.kind, e.acc, e.ord, e.sym, e.side, e.qty, e.px] 29 := hW.blk _ _ _ _ hp2.out zx zx;have K3 : ZB w p3 #[h0, h1, h2, h3] 78 := hW.blk _ _ _ _ hp3.out zx zx;clear hp1 hp2 hp3;obtain ⟨_, _, _, _, hv, r1, r2, r3, r4⟩ := B0.out;injection hv with hv
 simp only [Array.mk.injEq, List.cons.injEq, and_true] at hv;obtain ⟨rfl, rfl, rfl, rfl, _⟩ := hv;obtain ⟨Ah, ch, rfl, _⟩ := r1;obtain ⟨As, cs, rfl, _⟩ := r2;obtain ⟨Ao, co, rfl, _⟩ := r3;obtain ⟨Ar, cr, rfl, _⟩ := r4;have HI := zH hI;have HB : Hid (Below w.heap.size w w) := Below.refl _ _;have KG := zH (HI.out.blk.imp fun _ h => h.1)
 clear hI hW;have q := zH (fun u wz hv => Reach_any u b e.acc e.sym e.side e.qty wz hv hs hi (zH hE.out.qty))
 have hRP : reachP b e.acc e.sym e.side e.qty = reachR b e.acc e.sym e.side e.qty := by unfold reachP; rw [hm.out]; rfl
 rw [hRP] at q;obtain ⟨M, hM⟩ : ∃ M, reachR b e.acc e.sym e.side e.qty = M := ⟨_, rfl⟩;rw [hM] at q ⊢;clear hM hRP;go_in;go_wp2_with fail;refine zz07 [] (fun wz : World => ZB wz p1 #[.pointer (some ⟨g, 0, none⟩)] 66 ∧ ZB wz p2 #[e.kind, e.acc, e.ord, e.sym, e.side, e.qty, e.px] 29 ∧ zG wz g Ah ch As cs Ao co Ar cr b e rate) 18 (zb 18 0) zk zk zk ?_
 obtain ⟨wd1, hwd1⟩ : ∃ wd1 : World, { w with drawn := w.drawn + 1 } = wd1 := ⟨_, rfl⟩
 rw [hwd1];have hbwd1 : Below w.heap.size w wd1 := by rw [← hwd1]; exact (Below.refl _ _).drew
 replace KG := zKx KG hbwd1;replace K1 := zK K1 hbwd1;replace K2 := zK K2 hbwd1;replace K3 := zK K3 hbwd1;replace HI := zH (HI.out.kept hbwd1);replace HB := zB HB hbwd1;clear hwd1 hbwd1;refine zM [0, 1, 2, 3, 4, 5, 6, 7, 8, 9, 10, 11] 6 ⟨K1, K2, KG⟩ ?_;simp only [opsAt, zA];refine zq (fun wz hC => zC hC.1.out) ?_
 iterate 2 refine zp ?_
 refine zr (fun wz hC => hC.2.2.out) ?_
 refine zp ?_;refine zq (fun wz hC => zC hC.2.1.out) ?_
 refine zp ?_;refine zq (fun wz hC => zC hC.2.1.out) ?_
 refine zp ?_;refine zq (fun wz hC => zC hC.2.1.out) ?_
 refine zp ?_;refine zq (fun wz hC => zC hC.2.1.out) ?_
 unfold wpPure;go_simp;refine zW 12 ?_;go_wp2_with fail;(with_reducible refine (q.out _ _ (zH (B0.out.call HI.out.below))).mono ?_);rintro e wc2 ⟨rfl, hb⟩;replace KG := zKx KG hb;replace K1 := zK K1 hb;replace K2 := zK K2 hb;replace K3 := zK K3 hb;replace HI := zH (HI.out.kept hb);replace HB := zB HB hb;clear hb;go_wp2_with fail;refine zQs (fun _ => ⟨K1, K2, KG⟩) ?_
 refine zM [13, 14, 15, 16, 17] 0 ⟨K1, K2, KG⟩ ?_;simp only [opsAt, zA]
 iterate 5 refine zp ?_
 unfold wpPure;go_simp;refine zQe ?_;have c_h_0 := zC K3.out;have lt2 := zL K3.out;exact zt104
theorem order3_on (w0 : World) (g : Nat) (vh vs vo vr : Value) (b : Bk) (e : Ev) (rate : Int) (B0 : Hid (BkAt w0 (.agg #[vh, vs, vo, vr, b.n]) b)) (hs : Hid b.Small) (hi : Hid b.I64s) (hm : Hid (b.mayB = true)) (hE : Hid e.I64s) (W : World) (p1 p2 : Nat) (hp1 : ZB W p1 #[.pointer (some ⟨g, 0, none⟩)] 66) (hp2 : ZB W p2 #[e.kind, e.acc, e.ord, e.sym, e.side, e.qty, e.px] 29) :
  SideOn (Gt w0 g vh vs vo vr b e rate) W (.func (.func 82) #[] #[.pointer (some ⟨p1, 0, none⟩), .pointer (some ⟨p2, 0, none⟩)]) (needE b e rate).1 (eqR b e.acc).1 ((needE b e rate).2 && (eqR b e.acc).2) := by
 refine ⟨_, _, rfl, fun args w => enters_of Tryz.func82 zk rfl _ w, fun w l hI hW => ?_⟩
 have K1 : ZB w p1 #[.pointer (some ⟨g, 0, none⟩)] 66 := hW.blk _ _ _ _ hp1.out zx zx;have K2 : ZB w p2 #[e.kind, e.acc, e.ord, e.sym, e.side, e.qty, e.px] 29 := hW.blk _ _ _ _ hp2.out zx zx;clear hp1 hp2;obtain ⟨_, _, _, _, hv, r1, r2, r3, r4⟩ := B0.out;injection hv with hv
 simp only [Array.mk.injEq, List.cons.injEq, and_true] at hv;obtain ⟨rfl, rfl, rfl, rfl, _⟩ := hv;obtain ⟨Ah, ch, rfl, _⟩ := r1;obtain ⟨As, cs, rfl, _⟩ := r2;obtain ⟨Ao, co, rfl, _⟩ := r3;obtain ⟨Ar, cr, rfl, _⟩ := r4;have HI := zH hI;have HB : Hid (Below w.heap.size w w) := Below.refl _ _;have KG := zH (HI.out.blk.imp fun _ h => h.1)
 clear hI hW;have q := zH (fun u wz hv => Need_any u b e.acc e.qty e.px rate wz hv hs hi (zH hE.out.qty) (zH hE.out.px))
 have q2 := zH (fun u wz hv => zzca u b e.acc wz hv hs hi)
 have hRP : needP b e.acc e.qty e.px rate = needE b e rate := by unfold needP needE; rw [hm.out]; rfl
 have hRQ : eqP b e.acc = eqR b e.acc := by unfold eqP eqR; rw [hm.out]; rfl
 rw [hRP] at q;rw [hRQ] at q2;obtain ⟨M, hM⟩ : ∃ M, needE b e rate = M := ⟨_, rfl⟩;obtain ⟨N, hN⟩ : ∃ N, eqR b e.acc = N := ⟨_, rfl⟩;rw [hM] at q ⊢;rw [hN] at q2 ⊢;clear hM hRP hN hRQ;obtain ⟨M1, M2⟩ := M;obtain ⟨N1, N2⟩ := N;go_in;go_wp2_with fail;refine zz07 [] (fun wz : World => ZB wz p1 #[.pointer (some ⟨g, 0, none⟩)] 66 ∧ ZB wz p2 #[e.kind, e.acc, e.ord, e.sym, e.side, e.qty, e.px] 29 ∧ zG wz g Ah ch As cs Ao co Ar cr b e rate) 20 (zb 20 0) zk zk zk ?_
 obtain ⟨wd1, hwd1⟩ : ∃ wd1 : World, { w with drawn := w.drawn + 1 } = wd1 := ⟨_, rfl⟩
 rw [hwd1];have hbwd1 : Below w.heap.size w wd1 := by rw [← hwd1]; exact (Below.refl _ _).drew
 replace KG := zKx KG hbwd1;replace K1 := zK K1 hbwd1;replace K2 := zK K2 hbwd1;replace HI := zH (HI.out.kept hbwd1);replace HB := zB HB hbwd1;clear hwd1 hbwd1;refine zM [0, 1, 2, 3, 4, 5, 6, 7, 8, 9, 10, 11, 12, 13] 6 ⟨K1, K2, KG⟩ ?_;simp only [opsAt, zA];refine zq (fun wz hC => zC hC.1.out) ?_
 iterate 2 refine zp ?_
 refine zr (fun wz hC => hC.2.2.out) ?_
 refine zp ?_;refine zq (fun wz hC => zC hC.2.1.out) ?_
 refine zp ?_;refine zq (fun wz hC => zC hC.2.1.out) ?_
 refine zp ?_;refine zq (fun wz hC => zC hC.2.1.out) ?_
 refine zq (fun wz hC => zC hC.1.out) ?_
 iterate 2 refine zp ?_
 refine zr (fun wz hC => hC.2.2.out) ?_
 unfold wpPure;go_simp;refine zW 14 ?_;go_wp2_with fail;(with_reducible refine (q.out _ _ (zH (B0.out.call HI.out.below))).mono ?_);rintro e wc2 ⟨rfl, hb⟩;replace KG := zKx KG hb;replace K1 := zK K1 hb;replace K2 := zK K2 hb;replace HI := zH (HI.out.kept hb);replace HB := zB HB hb;clear hb;go_wp2_with fail;refine zQs (fun _ => ⟨K1, K2, KG⟩) ?_
 refine zM [15, 16, 17, 18, 19] 0 ⟨K1, K2, KG⟩ ?_;simp only [opsAt, zA]
 iterate 5 refine zp ?_
 unfold wpPure;go_simp;refine zQe ?_;go_wp2_with fail;refine zz07 [] (fun wz : World => ZB wz p1 #[.pointer (some ⟨g, 0, none⟩)] 66 ∧ ZB wz p2 #[e.kind, e.acc, e.ord, e.sym, e.side, e.qty, e.px] 29 ∧ zG wz g Ah ch As cs Ao co Ar cr b e rate) 12 (zb 12 0) zk zk zk ?_
 obtain ⟨wd3, hwd3⟩ : ∃ wd3 : World, { wc2 with drawn := wc2.drawn + 1 } = wd3 := ⟨_, rfl⟩
 rw [hwd3];have hbwd3 : Below wc2.heap.size wc2 wd3 := by rw [← hwd3]; exact (Below.refl _ _).drew
 replace KG := zKx KG hbwd3;replace K1 := zK K1 hbwd3;replace K2 := zK K2 hbwd3;replace HI := zH (HI.out.kept hbwd3);replace HB := zB HB hbwd3;clear hwd3 hbwd3;refine zM [0, 1, 2, 3, 4, 5] 6 ⟨K1, K2, KG⟩ ?_;simp only [opsAt, zA];refine zq (fun wz hC => zC hC.1.out) ?_
 iterate 2 refine zp ?_
 refine zr (fun wz hC => hC.2.2.out) ?_
 refine zp ?_;refine zq (fun wz hC => zC hC.2.1.out) ?_
 unfold wpPure;go_simp;refine zW 6 ?_;go_wp2_with fail;(with_reducible refine (q2.out _ _ (zH (B0.out.call HI.out.below))).mono ?_);rintro e wc4 ⟨rfl, hb⟩;replace KG := zKx KG hb;replace K1 := zK K1 hb;replace K2 := zK K2 hb;replace HI := zH (HI.out.kept hb);replace HB := zB HB hb;clear hb;go_wp2_with fail;refine zQs (fun _ => ⟨K1, K2, KG⟩) ?_
 refine zM [7, 8, 9, 10, 11] 0 ⟨K1, K2, KG⟩ ?_;simp only [opsAt, zA]
 iterate 5 refine zp ?_
 unfold wpPure;go_simp;refine zQe ?_;cases M2 with
 | true =>
  go_wp2_with fail;refine bodyPost_ret (zz1z rfl _ _ _) rfl ?_;exact ⟨rfl, HB.out⟩
 | false =>
  go_wp2_with fail;refine bodyPost_ret (zz1z rfl _ _ _) rfl ?_;exact ⟨rfl, HB.out⟩
theorem zt60 {p : Prop} (h : p := by
 have K1 : ZB w p1 #[c] 2 := hW.blk _ _ _ _ hp1.out zx zx;have K2 : ZB w p2 #[.bool x] 4 := hW.blk _ _ _ _ hp2.out zx zx;clear hp1 hp2 hI hW;have c1 := zz00 K1.out 0 _ rfl;have c2 := zz00 K2.out 0 _ rfl;have lt1 := zL K1.out;have lt2 := zL K2.out;go_in;go_wp2_with fail;go_quiet (fail);go_wp2_with fail;refine bodyPost_ret (zz1z rfl _ _ _) rfl ?_;exact ⟨rfl, zz0b (Below.refl _ _) _⟩) : p := h
theorem fill1_on (w0 : World) (g : Nat) (vh vs vo vr : Value) (b : Bk) (e : Ev) (rate : Int) (c : Int) (x : Bool) (W : World) (p1 p2 : Nat) (hp1 : ZB W p1 #[c] 2) (hp2 : ZB W p2 #[.bool x] 4) :
  SideOn (Gt w0 g vh vs vo vr b e rate) W (.func (.func 87) #[] #[.pointer (some ⟨p1, 0, none⟩), .pointer (some ⟨p2, 0, none⟩)]) c c x := by
 refine ⟨_, _, rfl, fun args w => enters_of Tryz.func87 zk rfl _ w, fun w l hI hW => ?_⟩
 exact zt60
theorem fill2_on (w0 : World) (g : Nat) (vh vs vo vr : Value) (b : Bk) (e : Ev) (rate : Int) (c : Int) (x : Bool) (W : World) (p1 p2 : Nat) (hp1 : ZB W p1 #[c] 2) (hp2 : ZB W p2 #[.bool x] 4) :
  SideOn (Gt w0 g vh vs vo vr b e rate) W (.func (.func 88) #[] #[.pointer (some ⟨p1, 0, none⟩), .pointer (some ⟨p2, 0, none⟩)]) c c x := by
 refine ⟨_, _, rfl, fun args w => enters_of Tryz.func88 zk rfl _ w, fun w l hI hW => ?_⟩
 exact zt60
end
end Go.Proofs.YtajogedbacpohaaGreatDoor
