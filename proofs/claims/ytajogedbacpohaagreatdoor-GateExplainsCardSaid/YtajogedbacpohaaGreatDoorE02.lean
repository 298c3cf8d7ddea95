/- Part 3 of what the claim rests on. -/
import Derived.Test.YtajogedbacpohaaGreatDoorE00
import Derived.Test.YtajogedbacpohaaGreatDoorE01
import Derived.Shelf.Spec.SlicesInsertGrow
set_option linter.unusedVariables false
set_option linter.unusedSimpArgs false
set_option maxRecDepth 1000000
set_option maxHeartbeats 32000000
namespace Go.Proofs.YtajogedbacpohaaGreatDoor
section
open Go Go.RowKit
theorem zt83 {p : Prop} (h : p := by
 have := congrArg (List.take X1.length) ht
 rwa [List.take_take, Nat.min_eq_left zw, List.take_left] at this) : p := h
theorem zz81 (cur X1 X2 Y : List Value) (k n : Nat) (hY : Y.length = k) (ht : cur.take (X1.length + X2.length) = X1 ++ X2) (hc : X1.length + X2.length + k ≤ cur.length) :
  (splice (splice cur (X1.length + k) X2) X1.length Y).take (X1.length + (k + X2.length)) = X1 ++ (Y ++ X2) := by
 have e1 : cur.take X1.length = X1 := by
  exact zt83
 have e2 : (splice cur (X1.length + k) X2).take X1.length = X1 := by
  rw [splice, List.take_append_of_le_length (by rw [List.length_take]; omega), List.take_take, Nat.min_eq_left zw, e1]
 have e3 : (splice cur (X1.length + k) X2).drop (X1.length + Y.length) = X2 ++ cur.drop (X1.length + k + X2.length) := by
  rw [splice, hY, List.drop_left' (by rw [List.length_take]; omega)]
 rw [splice, e2, e3, List.take_append, List.take_of_length_le zw, List.take_append, List.take_of_length_le zw, List.take_append, hY];rw [List.take_of_length_le zw];rw [show X1.length + (k + X2.length) - X1.length - k - X2.length = 0 by omega, List.take_zero, List.append_nil]
theorem zcl {p : Prop} (h : p := by
 obtain ⟨A, c, rfl, hk, hh⟩ := hv.out;have q22 := fun (w : World) (a : Option Addr) (n c n' c' : Nat) => Lib.run_eql_slice_nil w _ _ a n c n' c' el.und
 rcases hh with rfl | ⟨b, o, rfl, hb, hc⟩
 ·cases A with
  | none =>
   clear hv;go_enter hf, hn;clear hf hn;go_wp2;go_ret;exact ⟨_, rfl, ⟨World.ownsRow_nil _ _ _ _, hk⟩, Below.refl _ _⟩
  | some a =>
   obtain ⟨ab, ao, asp⟩ := a;clear hv;obtain ⟨i0, hi, hz0, hz1, hz2⟩ := el.info;go_enter hf, hn;clear hf hn;go_wp2_with (at_builtin; refine wpList_append_own _ rfl _ _ _ rfl w.heap.size _ i0 _ _ _ el.und hi hz0 hz1 hz2 el.zs el.pos _ _ _ rfl (World.ownsRow_made w #[] 0 (Nat.le_refl _) (Nat.zero_le _) (by simp)) ⟨ab, ao, asp⟩ 0 c [] rfl (by simp) (by intro j u hj; simp at hj) (by intro u hu; simp at hu) (by unfold maxLen; omega) zw (by simp) ?_)
   intro v' w1 hown hgrow hnil;go_wp2;go_ret;exact ⟨v', rfl, ⟨hown, hk⟩, ((Below.refl _ w).alloc (Nat.le_refl _) _).grown hgrow (by simp) (by intro k hk; simp [Value.ownBlock] at hk; omega)⟩
 ·have A : Hid (∀ j u, (flatC l)[j]? = some u → w.cell? ⟨b, o + j, none⟩ = some u) := (show ∀ _ _, _ from fun j u hj => by
   rw [flatC, List.getElem?_map] at hj;obtain ⟨x, hx, rfl⟩ := Option.map_eq_some_iff.1 hj;exact hc j x hx)
  clear hc;have hlen := zH (zz0u hk);replace hk := zH hk;clear hv;obtain ⟨n, hm⟩ : ∃ n, l.length = n := ⟨_, rfl⟩;rw [hm] at hlen hl ⊢;replace hm := zH hm;obtain ⟨news, hnews⟩ : ∃ news, news = flatC l := ⟨_, rfl⟩;rw [← hnews] at A hlen;have h1 : Hid (∀ u ∈ news, u.oneCell' = true) := (show ∀ _ _, _ from hnews ▸ zz2x l)
  replace hnews := zH hnews;obtain ⟨i0, hi, hz0, hz1, hz2⟩ := el.info;go_enter hf, hn;clear hf hn;go_wp2_with (at_builtin; refine wpList_append_own _ rfl _ _ _ rfl w.heap.size _ i0 _ _ _ el.und hi hz0 hz1 hz2 el.zs el.pos _ _ _ rfl (World.ownsRow_made w #[] 0 (Nat.le_refl _) (Nat.zero_le _) (by simp)) ⟨b, o, none⟩ n c news rfl ?qc1 ?qc2 ?qc3 ?qc4 ?qc5 ?qc6 ?_)
  case qc1 => exact hlen.out
  case qc2 =>
   intro j u hj;rw [Addr.add_lit];exact Lib.cell?_alloc_some _ (A.out j u hj)
  case qc3 => exact h1.out
  case qc4 => unfold maxLen; omega
  case qc5 => omega
  case qc6 => simp
  intro v' w1 hown hgrow hnil;go_wp2;go_ret;refine ⟨v', rfl, ⟨?_, hk.out⟩, ?_⟩
  ·rw [hm.out, ← hnews.out]; exact hown
  ·exact ((Below.refl _ w).alloc (Nat.le_refl _) _).grown hgrow (by simp) (by intro k hk; simp [Value.ownBlock] at hk; omega)) : p := h
theorem zz23 : Elt Tryz.prog 22 78 (.agg #[.int .i64 0, .int .i64 0, .int .i64 0, .int .i64 0]) 4 32 := Elt.mk' Tryz.underlying22 zk rfl zx
theorem zz1s (v : Value) (l : List (List Int)) (w : World) (hv : Hid (RowAt w v 4 l)) (hl : l.length ≤ 1000000) :
  Calls Tryz.prog 94 #[v] w fun e w' => ∃ v', e = .returned v' ∧ RowOwn w' w.heap.size 78 v' 4 l ∧ Below w.heap.size w w' := by
 have el := zz23;have hf := Tryz.func94;have hn := Tryz.ntmps94;exact zcl
theorem el_Stake : Elt Tryz.prog 23 80 (.agg #[.int .i64 0, .int .i64 0, .int .i64 0]) 3 24 := Elt.mk' Tryz.underlying23 zk rfl zx
theorem zz19 (v : Value) (l : List (List Int)) (w : World) (hv : Hid (RowAt w v 3 l)) (hl : l.length ≤ 1000000) :
  Calls Tryz.prog 95 #[v] w fun e w' => ∃ v', e = .returned v' ∧ RowOwn w' w.heap.size 80 v' 3 l ∧ Below w.heap.size w w' := by
 have el := el_Stake;have hf := Tryz.func95;have hn := Tryz.ntmps95;exact zcl
theorem el_Open : Elt Tryz.prog 24 82 (.agg #[.int .i64 0, .int .i64 0, .int .i64 0, .int .i64 0, .int .i64 0, .int .i64 0]) 6 48 := Elt.mk' Tryz.underlying24 zk rfl zx
theorem zz1f (v : Value) (l : List (List Int)) (w : World) (hv : Hid (RowAt w v 6 l)) (hl : l.length ≤ 1000000) :
  Calls Tryz.prog 96 #[v] w fun e w' => ∃ v', e = .returned v' ∧ RowOwn w' w.heap.size 82 v' 6 l ∧ Below w.heap.size w w' := by
 have el := el_Open;have hf := Tryz.func96;have hn := Tryz.ntmps96;exact zcl
theorem zz4n : Elt Tryz.prog 25 84 (.agg #[.int .i64 0, .int .i64 0]) 2 16 := Elt.mk' Tryz.underlying25 zk rfl zx
theorem zz2g (v : Value) (l : List (List Int)) (w : World) (hv : Hid (RowAt w v 2 l)) (hl : l.length ≤ 1000000) :
  Calls Tryz.prog 97 #[v] w fun e w' => ∃ v', e = .returned v' ∧ RowOwn w' w.heap.size 84 v' 2 l ∧ Below w.heap.size w w' := by
 have el := zz4n;have hf := Tryz.func97;have hn := Tryz.ntmps97;exact zcl
theorem ins_fin {w w1 : World} {B n k : Nat} {e : TypeId} {v v' : Value} {l : List (List Int)} {x : List Int} {X Y : List Value} (hX : X = flatC l) (hn : l.length = n) (hY : Y = x.map (Value.int .i64)) (hk : ∀ r ∈ l, r.length = k) (hx : x.length = k) (h1 : w1.ownsRow B e k v' (n + 1) (X ++ Y)) (h2 : w.grownBy w1 v.ownBlock) : ∃ v'', (Ending.returned v') = .returned v'' ∧ RowOwn w1 B e v'' k (l ++ [x]) ∧ w.grownBy w1 v.ownBlock := by
 refine ⟨v', rfl, ⟨?_, ?_⟩, h2⟩
 ·rw [List.length_append, hn, zz0j, show flatC [x] = Y by rw [hY]; simp [flatC], ← hX]
  exact h1
 ·intro r hr
  rcases List.mem_append.1 hr with hr | hr
  ·exact hk r hr
  ·simp at hr; rw [hr]; exact hx
theorem zie {p : Prop} (h : p := by
 obtain ⟨A, c, rfl⟩ := hv.out.form;obtain ⟨i0, hi, hz0, hz1, hz2⟩ := el.info;have ho := zH hv.out.1;have hk := zH hv.out.2;have hcap : l.length ≤ c := by
  rcases hv.out.1.2 with ⟨h, h0⟩ | ⟨g, cap, cur, h, _, _, hn, _⟩
  ·rw [h0]; omega
  ·cases h; exact hn
 have hA : Hid (A = none → l.length = 0) := (show _ → _ from fun h => by
  subst h;rcases hv.out.1.2 with ⟨h, h0⟩ | ⟨g, cap, cur, h, _⟩
  ·exact h0
  ·cases h)
 have hc63 : c ≤ 9223372036854775807 := by
  rcases hv.out.1.2 with ⟨h, h0⟩ | ⟨g, cap, cur, h, _, _, hn, hm, _⟩
  ·injection h with _ _ h3; omega
  ·injection h with _ _ h3; unfold maxLen at hm; omega
 clear hv;obtain ⟨X, hX⟩ : ∃ X, X = flatC l := ⟨_, rfl⟩;obtain ⟨n, hm⟩ : ∃ n, l.length = n := ⟨_, rfl⟩;rw [← hX] at ho;rw [hm] at ho hl hcap hA ⊢;replace hX := zH hX;replace hm := zH hm;obtain ⟨Y, hY⟩ : ∃ Y, Y = x.map (Value.int .i64) := ⟨_, rfl⟩;have hYl := zH (show Y.length = 1 * x.length by rw [hY, List.length_map, Nat.one_mul])
 rw [hx] at hYl;have hY1 : Hid (∀ u ∈ Y, u.oneCell' = true) := (show ∀ _ _, _ from fun u hu => by
  rw [hY] at hu; obtain ⟨y, _, rfl⟩ := List.mem_map.1 hu; rfl)
 have hYc : Hid (∀ j u, Y[j]? = some u → w.cell? ((⟨vb, 0, none⟩ : Addr).add j) = some u) := (show ∀ _ _ _, _ from fun j u hj => by
  have := zz00 hb.out j u (by rw [← hY]; simpa using hj)
  rw [Addr.add_lit, Nat.zero_add]; exact this)
 replace hY := zH hY;replace hx := zH hx;clear hb;have hz : ((n : Int) == (n : Int)) = true := by simp
 cases A with
 | none =>
  obtain rfl := hA.out rfl;go_enter hf, hn;clear hf hn;go_wp2_with (at_builtin; refine wpList_append_own _ rfl _ _ _ rfl B _ i0 _ _ _ el.und hi hz0 hz1 hz2 el.zs el.pos _ _ X rfl ho.out ⟨vb, 0, none⟩ 1 1 Y rfl hYl.out hYc.out hY1.out (by unfold maxLen; omega) zw hB ?_)
  intro v' w1 hown hgrow hnil;go_wp2;go_ret;exact ins_fin hX.out hm.out hY.out hk.out hx.out hown hgrow
 | some a =>
  obtain ⟨g, og, sp⟩ := a;go_enter hf, hn;clear hf hn;go_wp2_with (at_builtin; refine wpList_append_own _ rfl _ _ _ rfl B _ i0 _ _ _ el.und hi hz0 hz1 hz2 el.zs el.pos _ _ X rfl ho.out ⟨vb, 0, none⟩ 1 1 Y rfl hYl.out hYc.out hY1.out (by unfold maxLen; omega) zw hB ?_)
  all_goals
   intro v' w1 hown hgrow hnil;go_wp2;go_ret;exact ins_fin hX.out hm.out hY.out hk.out hx.out hown hgrow) : p := h
theorem zzc4 (B : Nat) (v : Value) (l : List (List Int)) (x : List Int) (vb : Nat) (w : World) (hv : Hid (RowOwn w B 78 v 4 l)) (hB : B ≤ w.heap.size) (hl : l.length ≤ 1000000) (hx : x.length = 4) (hb : Hid (w.heap[vb]? = some (.cells (x.map (Value.int .i64)).toArray 78 (0, 0)))) :
  Calls Tryz.prog 172 #[v, .int .i64 l.length, .slice (some ⟨vb, 0, none⟩) 1 1] w fun e w' => ∃ v', e = .returned v' ∧ RowOwn w' B 78 v' 4 (l ++ [x]) ∧ w.grownBy w' v.ownBlock := by
 have el := zz23;have hf := Tryz.func172;have hn := Tryz.ntmps172;exact zie
theorem InsertStake_end (B : Nat) (v : Value) (l : List (List Int)) (x : List Int) (vb : Nat) (w : World) (hv : Hid (RowOwn w B 80 v 3 l)) (hB : B ≤ w.heap.size) (hl : l.length ≤ 1000000) (hx : x.length = 3) (hb : Hid (w.heap[vb]? = some (.cells (x.map (Value.int .i64)).toArray 80 (0, 0)))) :
  Calls Tryz.prog 190 #[v, .int .i64 l.length, .slice (some ⟨vb, 0, none⟩) 1 1] w fun e w' => ∃ v', e = .returned v' ∧ RowOwn w' B 80 v' 3 (l ++ [x]) ∧ w.grownBy w' v.ownBlock := by
 have el := el_Stake;have hf := Tryz.func190;have hn := Tryz.ntmps190;exact zie
theorem InsertOpen_end (B : Nat) (v : Value) (l : List (List Int)) (x : List Int) (vb : Nat) (w : World) (hv : Hid (RowOwn w B 82 v 6 l)) (hB : B ≤ w.heap.size) (hl : l.length ≤ 1000000) (hx : x.length = 6) (hb : Hid (w.heap[vb]? = some (.cells (x.map (Value.int .i64)).toArray 82 (0, 0)))) :
  Calls Tryz.prog 187 #[v, .int .i64 l.length, .slice (some ⟨vb, 0, none⟩) 1 1] w fun e w' => ∃ v', e = .returned v' ∧ RowOwn w' B 82 v' 6 (l ++ [x]) ∧ w.grownBy w' v.ownBlock := by
 have el := el_Open;have hf := Tryz.func187;have hn := Tryz.ntmps187;exact zie
theorem InsertRate_end (B : Nat) (v : Value) (l : List (List Int)) (x : List Int) (vb : Nat) (w : World) (hv : Hid (RowOwn w B 84 v 2 l)) (hB : B ≤ w.heap.size) (hl : l.length ≤ 1000000) (hx : x.length = 2) (hb : Hid (w.heap[vb]? = some (.cells (x.map (Value.int .i64)).toArray 84 (0, 0)))) :
  Calls Tryz.prog 174 #[v, .int .i64 l.length, .slice (some ⟨vb, 0, none⟩) 1 1] w fun e w' => ∃ v', e = .returned v' ∧ RowOwn w' B 84 v' 2 (l ++ [x]) ∧ w.grownBy w' v.ownBlock := by
 have el := zz4n;have hf := Tryz.func174;have hn := Tryz.ntmps174;exact zie
theorem el_size {t e : TypeId} {z : Value} {k b : Nat} (el : Elt Tryz.prog t e z k b) : (Tryz.prog.info? e).map (·.size) = some k := by
 obtain ⟨i, hi, _, hs, _⟩ := el.info;rw [hi, ← hs]; rfl
theorem zz3x {t e : TypeId} {z : Value} {k b : Nat} (el : Elt Tryz.prog t e z k b) {X2 Y : List Value} {n i c g vb : Nat} {cur : List Value} {w : World} (hi : i < n) (hroom : n + 1 ≤ c) (hvb : vb ≠ g) (hX2 : X2.length = (n - i) * k) (hg : Hid (w.heap[g]? = some (.cells cur.toArray e (0, 0)))) (hcur : cur.length = c * k) (hsrc : Hid (∀ (j : Nat) (v : Value), X2[j]? = some v → cur[i * k + j]? = some v)) (hb : Hid (w.heap[vb]? = some (.cells Y.toArray e (0, 0)))) (hY : Y.length = 1 * k) (h1 : Hid (∀ v ∈ X2, v.oneCell' = true)) (h1y : Hid (∀ v ∈ Y, v.oneCell' = true)) :
  ∃ W1 W2, (∀ ty dc sc, (Builtin.copy_ #[t, t] ty #[.slice (some ⟨g, (i + 1) * k, none⟩) (n - i) dc, .slice (some ⟨g, i * k, none⟩) (n + 1 - i) sc]).run Tryz.prog w.drew = .ok (goInt (n - i : Nat)) W1) ∧ (∀ ty dc, (Builtin.copy_ #[t, t] ty #[.slice (some ⟨g, i * k, none⟩) (n + 1 - i) dc, .slice (some ⟨vb, 0, none⟩) 1 1]).run Tryz.prog W1 = .ok (goInt (1 : Nat)) W2) ∧ Hid (W2.heap[g]? = some (.cells (splice (splice cur ((i + 1) * k) X2) (i * k) Y).toArray e (0, 0)) ∧ w.grownBy W2 (some g)) := by
 have hsz := el_size el;have hm1 : Nat.min (n + 1 - i) (n - i) = n - i := by simp only [Nat.min_def]; split <;> omega
 have hm2 : Nat.min 1 (n + 1 - i) = 1 := by simp only [Nat.min_def]; split <;> omega
 have e1 : (i + 1) * k = i * k + 1 * k := Nat.add_mul _ _ _;have e2 : i * k + (n - i) * k = n * k := by rw [← Nat.add_mul, show i + (n - i) = n by omega]
 have e3 : n * k + 1 * k ≤ c * k := by rw [← Nat.add_mul]; exact Nat.mul_le_mul_right _ hroom
 obtain ⟨A1, hA1⟩ : ∃ A1, A1 = splice cur ((i + 1) * k) X2 := ⟨_, rfl⟩;have hA1l : A1.length = c * k := by rw [hA1, length_splice _ _ _ zw, hcur]
 have hg1 : (w.drew.setRow g A1.toArray).heap[g]? = some (.cells A1.toArray e (0, 0)) := setRow_heap w.drew g _ _ e _ hg.out;have hgr1 : w.grownBy (w.drew.setRow g A1.toArray) (some g) := ⟨rfl, rfl, rfl, by simp [World.setRow], fun k hk hne => setRow_other w.drew g k _ (fun e => hne (by simp [e]))⟩
 refine ⟨w.drew.setRow g A1.toArray, (w.drew.setRow g A1.toArray).setRow g (splice A1 (i * k) Y).toArray, fun ty dc sc => ?_, fun ty dc => ?_, ?_⟩
 ·rw [zz2u w.drew t t ty e k g ((i + 1) * k) (n - i) dc ⟨g, i * k, none⟩ (n + 1 - i) sc cur.toArray e X2 el.und hsz hg.out (by rw [hm1, hX2]) (fun j v hj => by rw [Addr.add_lit]; exact zz00 (w := w.drew) hg.out _ _ (by simpa using hsrc.out j v hj)) (by simp; omega) h1.out, hm1, hA1]
  simp [splice]
 ·rw [zz2u _ t t ty e k g (i * k) (n + 1 - i) dc ⟨vb, 0, none⟩ 1 1 A1.toArray e Y el.und hsz hg1 (by rw [hm2, hY]) (fun j v hj => by rw [Addr.add_lit]; exact zz00 ((setRow_other w.drew g vb _ hvb).trans hb.out) _ _ (by simpa using hj)) (by simp; omega) h1y.out, hm2]
  simp [splice]
 ·rw [← hA1]
  exact ⟨setRow_heap _ g _ _ e _ hg1, zz1k hgr1 ⟨rfl, rfl, rfl, by simp [World.setRow], fun k hk hne => setRow_other _ g k _ (fun e => hne (by simp [e]))⟩⟩
theorem zis {p : Prop} (h : p := by
 have mixed : Tryz.prog.follows .mixedOrders = true := by kernel_rfl
 have hz2 : ((i : Int) == (n : Int)) = false := by simp; omega
 have hw0 : IntKind.i64.wrap ((n : Int) + 1) = (n : Int) + 1 := by rw [IntKind.wrap_i64]; omega
 have hw1 : IntKind.i64.wrap ((i : Int) + 1) = (i : Int) + 1 := by rw [IntKind.wrap_i64]; omega
 have hz3 : decide ((c : Int) < (n : Int) + 1) = false := decide_eq_false zw;have hz3' : decide ((n : Int) + 1 > (c : Int)) = false := decide_eq_false zw;have htn : ((i : Int) + 1).toNat = i + 1 := by omega
 have htn2 : ((n : Int) + 1).toNat = n + 1 := by omega
 have hb1 : (0 : Int) ≤ (i : Int) + 1 := by omega
 have hb2 : (i : Int) + 1 ≤ (n : Int) + 1 := by omega
 have hb3 : (i : Int) ≤ (n : Int) + 1 := by omega
 have hb4 : ¬ (c = i) := by omega
 have hb5 : ¬ (c = i + 1) := by omega
 have hm1 : Nat.min (n + 1 - i) (n - i) = n - i := by simp only [Nat.min_def]; split <;> omega
 have hm2 : Nat.min 1 (n + 1 - i) = 1 := by simp only [Nat.min_def]; split <;> omega
 clear hg hb hsrc h1 h1y hX2 hY hcur;go_enter hf, hn;clear hf hn;go_wp2_with (simp only [hov]);go_region_law_o (refine step_copy_runI rfl _ _ _ _ rfl _ _ (by simp [Act.eval, Act.put]) (by simp [Act.eval, Act.put]) (hcp1 _ _ _) ?_)
 go_wp2_with (at_builtin; refine wpList_copy_runI _ rfl _ _ _ _ rfl _ _ rfl rfl (hcp2 _ _) ?_);go_ret;exact ⟨rfl, fin.out⟩) : p := h
theorem zza5 (X1 X2 Y : List Value) (n i c g vb : Nat) (cur : List Value) (w : World) (hi : i < n) (hroom : n + 1 ≤ c) (hc63 : c ≤ 9223372036854775807) (hvb : vb ≠ g) (hX2 : X2.length = (n - i) * 4) (hg : Hid (w.heap[g]? = some (.cells cur.toArray 78 (0, 0)))) (hcur : cur.length = c * 4)
  (hsrc : Hid (∀ (j : Nat) (v : Value), X2[j]? = some v → cur[i * 4 + j]? = some v)) (hb : Hid (w.heap[vb]? = some (.cells Y.toArray 78 (0, 0)))) (hY : Y.length = 1 * 4) (h1 : Hid (∀ v ∈ X2, v.oneCell' = true)) (h1y : Hid (∀ v ∈ Y, v.oneCell' = true)) :
  Calls Tryz.prog 172 #[.slice (some ⟨g, 0, none⟩) n c, .int .i64 i, .slice (some ⟨vb, 0, none⟩) 1 1] w fun e w' => e = .returned (.slice (some ⟨g, 0, none⟩) (n + 1) c) ∧ w'.heap[g]? = some (.cells (splice (splice cur ((i + 1) * 4) X2) (i * 4) Y).toArray 78 (0, 0)) ∧ w.grownBy w' (some g) := by
 have el := zz23;have hov : ∀ lb cb, (callFunc 199 #[.slice (some ⟨vb, 0, none⟩) 1 1, .slice (some ⟨g, (i + 1) * 4, none⟩) lb cb]).run Tryz.prog w = .ok (.value (.bool false)) w := fun lb cb => by
  rw [run_callFunc_extern Tryz.func199 zk zk zk (e := Extern.SlicesOverlaps.overlaps #[22, 22] #[4]) zk,
   Lib.run_overlaps_apart w 22 4 78 el.und 4 Tryz.sizeOf78 ⟨vb, 0, none⟩ ⟨g, (i + 1) * 4, none⟩ 1 1 lb cb hvb 78 78 Y.length cur.length (by simp [World.shape?, hb.out]) (by simp [World.shape?, hg.out]) zw (by simp [World.frozen?, hb.out]) (by simp [World.frozen?, hb.out])]
  rfl
 obtain ⟨W1, W2, hcp1, hcp2, fin⟩ := zz3x el hi hroom hvb hX2 hg hcur hsrc hb hY h1 h1y;have hf := Tryz.func172;have hn := Tryz.ntmps172;exact zis
theorem zza6 (X1 X2 Y : List Value) (n i c g vb : Nat) (cur : List Value) (w : World) (hi : i < n) (hroom : n + 1 ≤ c) (hc63 : c ≤ 9223372036854775807) (hvb : vb ≠ g) (hX2 : X2.length = (n - i) * 3) (hg : Hid (w.heap[g]? = some (.cells cur.toArray 80 (0, 0)))) (hcur : cur.length = c * 3)
  (hsrc : Hid (∀ (j : Nat) (v : Value), X2[j]? = some v → cur[i * 3 + j]? = some v)) (hb : Hid (w.heap[vb]? = some (.cells Y.toArray 80 (0, 0)))) (hY : Y.length = 1 * 3) (h1 : Hid (∀ v ∈ X2, v.oneCell' = true)) (h1y : Hid (∀ v ∈ Y, v.oneCell' = true)) :
  Calls Tryz.prog 190 #[.slice (some ⟨g, 0, none⟩) n c, .int .i64 i, .slice (some ⟨vb, 0, none⟩) 1 1] w fun e w' => e = .returned (.slice (some ⟨g, 0, none⟩) (n + 1) c) ∧ w'.heap[g]? = some (.cells (splice (splice cur ((i + 1) * 3) X2) (i * 3) Y).toArray 80 (0, 0)) ∧ w.grownBy w' (some g) := by
 have el := el_Stake;have hov : ∀ lb cb, (callFunc 206 #[.slice (some ⟨vb, 0, none⟩) 1 1, .slice (some ⟨g, (i + 1) * 3, none⟩) lb cb]).run Tryz.prog w = .ok (.value (.bool false)) w := fun lb cb => by
  rw [run_callFunc_extern Tryz.func206 zk zk zk (e := Extern.SlicesOverlaps.overlaps #[23, 23] #[4]) zk,
   Lib.run_overlaps_apart w 23 4 80 el.und 3 Tryz.sizeOf80 ⟨vb, 0, none⟩ ⟨g, (i + 1) * 3, none⟩ 1 1 lb cb hvb 80 80 Y.length cur.length (by simp [World.shape?, hb.out]) (by simp [World.shape?, hg.out]) zw (by simp [World.frozen?, hb.out]) (by simp [World.frozen?, hb.out])]
  rfl
 obtain ⟨W1, W2, hcp1, hcp2, fin⟩ := zz3x el hi hroom hvb hX2 hg hcur hsrc hb hY h1 h1y;have hf := Tryz.func190;have hn := Tryz.ntmps190;exact zis
theorem zzc3 (X1 X2 Y : List Value) (n i c g vb : Nat) (cur : List Value) (w : World) (hi : i < n) (hroom : n + 1 ≤ c) (hc63 : c ≤ 9223372036854775807) (hvb : vb ≠ g) (hX2 : X2.length = (n - i) * 6) (hg : Hid (w.heap[g]? = some (.cells cur.toArray 82 (0, 0)))) (hcur : cur.length = c * 6)
  (hsrc : Hid (∀ (j : Nat) (v : Value), X2[j]? = some v → cur[i * 6 + j]? = some v)) (hb : Hid (w.heap[vb]? = some (.cells Y.toArray 82 (0, 0)))) (hY : Y.length = 1 * 6) (h1 : Hid (∀ v ∈ X2, v.oneCell' = true)) (h1y : Hid (∀ v ∈ Y, v.oneCell' = true)) :
  Calls Tryz.prog 187 #[.slice (some ⟨g, 0, none⟩) n c, .int .i64 i, .slice (some ⟨vb, 0, none⟩) 1 1] w fun e w' => e = .returned (.slice (some ⟨g, 0, none⟩) (n + 1) c) ∧ w'.heap[g]? = some (.cells (splice (splice cur ((i + 1) * 6) X2) (i * 6) Y).toArray 82 (0, 0)) ∧ w.grownBy w' (some g) := by
 have el := el_Open;have hov : ∀ lb cb, (callFunc 204 #[.slice (some ⟨vb, 0, none⟩) 1 1, .slice (some ⟨g, (i + 1) * 6, none⟩) lb cb]).run Tryz.prog w = .ok (.value (.bool false)) w := fun lb cb => by
  rw [run_callFunc_extern Tryz.func204 zk zk zk (e := Extern.SlicesOverlaps.overlaps #[24, 24] #[4]) zk,
   Lib.run_overlaps_apart w 24 4 82 el.und 6 Tryz.sizeOf82 ⟨vb, 0, none⟩ ⟨g, (i + 1) * 6, none⟩ 1 1 lb cb hvb 82 82 Y.length cur.length (by simp [World.shape?, hb.out]) (by simp [World.shape?, hg.out]) zw (by simp [World.frozen?, hb.out]) (by simp [World.frozen?, hb.out])]
  rfl
 obtain ⟨W1, W2, hcp1, hcp2, fin⟩ := zz3x el hi hroom hvb hX2 hg hcur hsrc hb hY h1 h1y;have hf := Tryz.func187;have hn := Tryz.ntmps187;exact zis
theorem zzc2 (X1 X2 Y : List Value) (n i c g vb : Nat) (cur : List Value) (w : World) (hi : i < n) (hroom : n + 1 ≤ c) (hc63 : c ≤ 9223372036854775807) (hvb : vb ≠ g) (hX2 : X2.length = (n - i) * 2) (hg : Hid (w.heap[g]? = some (.cells cur.toArray 84 (0, 0)))) (hcur : cur.length = c * 2)
  (hsrc : Hid (∀ (j : Nat) (v : Value), X2[j]? = some v → cur[i * 2 + j]? = some v)) (hb : Hid (w.heap[vb]? = some (.cells Y.toArray 84 (0, 0)))) (hY : Y.length = 1 * 2) (h1 : Hid (∀ v ∈ X2, v.oneCell' = true)) (h1y : Hid (∀ v ∈ Y, v.oneCell' = true)) :
  Calls Tryz.prog 174 #[.slice (some ⟨g, 0, none⟩) n c, .int .i64 i, .slice (some ⟨vb, 0, none⟩) 1 1] w fun e w' => e = .returned (.slice (some ⟨g, 0, none⟩) (n + 1) c) ∧ w'.heap[g]? = some (.cells (splice (splice cur ((i + 1) * 2) X2) (i * 2) Y).toArray 84 (0, 0)) ∧ w.grownBy w' (some g) := by
 have el := zz4n;have hov : ∀ lb cb, (callFunc 201 #[.slice (some ⟨vb, 0, none⟩) 1 1, .slice (some ⟨g, (i + 1) * 2, none⟩) lb cb]).run Tryz.prog w = .ok (.value (.bool false)) w := fun lb cb => by
  rw [run_callFunc_extern Tryz.func201 zk zk zk (e := Extern.SlicesOverlaps.overlaps #[25, 25] #[4]) zk,
   Lib.run_overlaps_apart w 25 4 84 el.und 2 Tryz.sizeOf84 ⟨vb, 0, none⟩ ⟨g, (i + 1) * 2, none⟩ 1 1 lb cb hvb 84 84 Y.length cur.length (by simp [World.shape?, hb.out]) (by simp [World.shape?, hg.out]) zw (by simp [World.frozen?, hb.out]) (by simp [World.frozen?, hb.out])]
  rfl
 obtain ⟨W1, W2, hcp1, hcp2, fin⟩ := zz3x el hi hroom hvb hX2 hg hcur hsrc hb hY h1 h1y;have hf := Tryz.func174;have hn := Tryz.ntmps174;exact zis
theorem zz5v {t e : TypeId} {z : Value} {k b : Nat} (el : Elt Tryz.prog t e z k b) (hbb : b ≤ 64) (B : Nat) {X1 X2 Y : List Value} {n i c g vb : Nat} {cur : List Value} {w : World} (hBw : B ≤ w.heap.size) (hi : i < n) (hn : n ≤ 1000000) (hnc : n ≤ c) (hroom : c < n + 1) (hX1 : X1.length = i * k) (hX2 : X2.length = (n - i) * k) (hg : Hid (w.heap[g]? = some (.cells cur.toArray e (0, 0))))
  (hsrc1 : Hid (∀ (j : Nat) (v : Value), X1[j]? = some v → cur[j]? = some v)) (hsrc : Hid (∀ (j : Nat) (v : Value), X2[j]? = some v → cur[i * k + j]? = some v)) (hb : Hid (w.heap[vb]? = some (.cells Y.toArray e (0, 0)))) (hY : Y.length = 1 * k) (h1 : Hid (∀ v ∈ X2, v.oneCell' = true)) (h1y : Hid (∀ v ∈ Y, v.oneCell' = true)) :
  ∃ G W1 W2 W3, n + 1 ≤ G ∧ G ≤ maxLen ∧ (∀ ty, (Builtin.append_ #[t, 3] ty #[.slice (some ⟨g, 0, none⟩) i c, .int .i64 ((n : Int) + 1 - (i : Int))]).run Tryz.prog w = .ok (.slice (some ⟨w.heap.size, 0, none⟩) (n + 1) G) W1) ∧ (∀ ty dc, (Builtin.copy_ #[t, t] ty #[.slice (some ⟨w.heap.size, i * k, none⟩) (n + 1 - i) dc, .slice (some ⟨vb, 0, none⟩) 1 1]).run Tryz.prog W1 = .ok (goInt (1 : Nat)) W2) ∧ (∀ ty dc sc, (Builtin.copy_ #[t, t] ty #[.slice (some ⟨w.heap.size, (i + 1) * k, none⟩) (n - i) dc, .slice (some ⟨g, i * k, none⟩) (n - i) sc]).run Tryz.prog W2.drew = .ok (goInt (n - i : Nat)) W3) ∧ Hid (W3.ownsRow B e k (.slice (some ⟨w.heap.size, 0, none⟩) (n + 1) G) (n + 1) (X1 ++ (Y ++ X2)) ∧ w.grownBy W3 (some g)) := by
 have hsz := el_size el;obtain ⟨i0, hi0, hz0, hzs, hzb⟩ := el.info;have hm1 : Nat.min (n - i) (n - i) = n - i := by simp only [Nat.min_def]; split <;> omega
 have hm2 : Nat.min 1 (n + 1 - i) = 1 := by simp only [Nat.min_def]; split <;> omega
 have e1 : (i + 1) * k = i * k + 1 * k := Nat.add_mul _ _ _;have e2 : i * k + (n - i) * k = n * k := by rw [← Nat.add_mul, show i + (n - i) = n by omega]
 have e4 : (n + 1) * k = n * k + 1 * k := Nat.add_mul _ _ _;have hbw : g < w.heap.size := zL hg.out;have hvw : vb < w.heap.size := zL hb.out;have hkk : (n : Int) + 1 - (i : Int) = ((n + 1 - i : Nat) : Int) := by omega
 have hik : i + (n + 1 - i) = n + 1 := by omega
 have hold : (Builtin.firstCells i0.size i (.slice (some ⟨g, 0, none⟩) i c)).run Tryz.prog w.drew = .ok X1.toArray w.drew := by
  rw [hzs];exact run_firstCells_some w.drew k i ⟨g, 0, none⟩ i c X1 hX1 (fun j v hj => by
   rw [Addr.add_lit];exact zz00 (w := w.drew) hg.out _ _ (by simpa using hsrc1.out j v hj))
 obtain ⟨G, hG⟩ : ∃ G, G = grownCap w (n + 1) c e := ⟨_, rfl⟩;obtain ⟨ROW, hROW⟩ : ∃ ROW : Array Value, ROW = X1.toArray ++ Builtin.zeroCells z.cells (n + 1 - i) ++ Builtin.zeroCells z.cells (G - (n + 1)) := ⟨_, rfl⟩;obtain ⟨W1, hW1⟩ : ∃ W1, W1 = w.drew.alloc (.cells ROW e) := ⟨_, rfl⟩;have hrz : ∀ ty, (Builtin.append_ #[t, 3] ty #[.slice (some ⟨g, 0, none⟩) i c, .int .i64 ((n : Int) + 1 - (i : Int))]).run Tryz.prog w =
   .ok (.slice (some ⟨w.heap.size, 0, none⟩) (n + 1) G) W1 := fun ty => by
  have h := Lib.run_append_grow_zeros w t 3 ty e i0 z .i64 .i64 el.und Tryz.underlying3 hi0 hz0 (some ⟨g, 0, none⟩) i c X1 hold (n + 1 - i) zw (by rw [hzs]; exact el.pos) zw zw (by rw [hzb]; exact Nat.le_trans (Nat.mul_le_mul (show n + 1 - i ≤ 1000001 by omega) hbb) zx) (by rw [hzb, hik]; exact growslice_fits zw (Nat.le_trans (Nat.mul_le_mul_left _ hbb) zw))
  rw [hik, ← hG, ← hROW, ← hW1] at h;rw [hkk];exact h
 have hGn : n + 1 ≤ G := by rw [hG]; exact grownCap_ge w _ _ _
 have hGm : G ≤ maxLen := by rw [hG]; exact grownCap_le_maxLen w (n + 1) c e (by unfold maxLen; omega)
 have e5 : (n + 1 - i) * k + (G - (n + 1)) * k = (G - i) * k := by rw [← Nat.add_mul, show n + 1 - i + (G - (n + 1)) = G - i by omega]
 have e6 : i * k + (G - i) * k = G * k := by rw [← Nat.add_mul, show i + (G - i) = G by omega]
 have e7 : (n + 1) * k ≤ G * k := Nat.mul_le_mul_right _ hGn;have hRl : ROW.size = G * k := by
  rw [hROW, Array.size_append, Array.size_append, size_zeroCells, size_zeroCells, List.size_toArray, hX1, el.zs];omega
 have hR1 : ROW.toList.take (i * k) = X1 := by
  rw [hROW];simp only [Array.toList_append, List.append_assoc];exact List.take_left' hX1
 have hN : Hid (W1.heap[w.heap.size]? = some (.cells ROW e (0, 0))) := by rw [hW1]; exact heap_alloc_new w.drew _
 have hO : Hid (∀ k, k < w.heap.size → W1.heap[k]? = w.heap[k]?) := (show ∀ _ _, _ from fun k hk => by rw [hW1]; exact Below.heap_alloc w.drew _ k hk)
 have hgr1 : Hid (w.grownBy W1 (some g)) := by rw [hW1]; exact ⟨rfl, rfl, rfl, by simp, fun k hk _ => Below.heap_alloc w.drew _ k hk⟩
 obtain ⟨A1, hA1⟩ : ∃ A1, A1 = splice ROW.toList (i * k) Y := ⟨_, rfl⟩;have hA1l : A1.length = G * k := by rw [hA1, length_splice _ _ _ (by simp; omega)]; simpa using hRl
 obtain ⟨W2, hW2⟩ : ∃ W2, W2 = W1.setRow w.heap.size A1.toArray := ⟨_, rfl⟩;have hN2 : Hid (W2.heap[w.heap.size]? = some (.cells A1.toArray e (0, 0))) := by rw [hW2]; exact setRow_heap W1 _ _ _ e _ hN.out
 have hg2 : Hid (W2.heap[g]? = some (.cells cur.toArray e (0, 0))) := by rw [hW2]; exact (setRow_other W1 _ g _ zw).trans ((hO.out g hbw).trans hg.out)
 obtain ⟨A2, hA2⟩ : ∃ A2, A2 = splice A1 ((i + 1) * k) X2 := ⟨_, rfl⟩;refine ⟨G, W1, W2, W2.drew.setRow w.heap.size A2.toArray, hGn, hGm, hrz, fun ty dc => ?_, fun ty dc sc => ?_, ⟨⟨?_, .inr ⟨w.heap.size, G, A2.toArray, rfl, hBw, ?_, hGn, hGm, ?_, ?_⟩⟩, ?_⟩⟩
 ·rw [zz2u W1 t t ty e k w.heap.size (i * k) (n + 1 - i) dc ⟨vb, 0, none⟩ 1 1 ROW e Y el.und hsz hN.out (by rw [hm2, hY]) (fun j v hj => by rw [Addr.add_lit]; exact zz00 (w := W1) ((hO.out vb hvw).trans hb.out) _ _ (by simpa using hj)) zw h1y.out, hm2, hW2, hA1]
  simp [splice]
 ·rw [zz2u W2.drew t t ty e k w.heap.size ((i + 1) * k) (n - i) dc ⟨g, i * k, none⟩ (n - i) sc A1.toArray e X2 el.und hsz hN2.out (by rw [hm1, hX2]) (fun j v hj => by rw [Addr.add_lit]; exact zz00 (w := W2.drew) hg2.out _ _ (by simpa using hsrc.out j v hj)) (by simp; omega) h1.out, hm1, hA2]
  simp [splice]
 ·simp only [List.length_append]; omega
 ·exact setRow_heap W2.drew _ _ _ e _ hN2.out
 ·rw [hA2]; simp only [List.size_toArray]; rw [length_splice _ _ _ zw, hA1l]
 ·rw [hA2, hA1]
  simp only [];rw [splice, splice, hY, hR1];have e9 : (X1 ++ (Y ++ ROW.toList.drop (i * k + 1 * k))).take ((i + 1) * k) = X1 ++ Y := by
   rw [← List.append_assoc]; exact List.take_left' (by simp; omega)
  rw [e9, List.append_assoc, ← List.append_assoc Y, ← List.append_assoc X1];exact List.take_left' (by simp; omega)
 ·rw [hW2]
  exact ⟨hgr1.out.os, hgr1.out.tape, hgr1.out.output, Nat.le_trans hgr1.out.size (by simp [World.setRow]), fun k hk hne => (setRow_other _ _ k _ zw).trans ((setRow_other W1 _ k _ zw).trans (hO.out k hk))⟩
theorem zgi {p : Prop} (h : p := by
 have mixed : Tryz.prog.follows .mixedOrders = true := by kernel_rfl
 have hz2 : ((i : Int) == (n : Int)) = false := by simp; omega
 have hw0 : IntKind.i64.wrap ((n : Int) + 1) = (n : Int) + 1 := by rw [IntKind.wrap_i64]; omega
 have hw1 : IntKind.i64.wrap ((i : Int) + 1) = (i : Int) + 1 := by rw [IntKind.wrap_i64]; omega
 have hw2 : IntKind.i64.wrap ((n : Int) + 1 - (i : Int)) = (n : Int) + 1 - (i : Int) := by rw [IntKind.wrap_i64]; omega
 have hz3 : decide ((c : Int) < (n : Int) + 1) = true := decide_eq_true zw;have hz3' : decide ((n : Int) + 1 > (c : Int)) = true := decide_eq_true zw;have htn : ((i : Int) + 1).toNat = i + 1 := by omega
 have hb1 : (0 : Int) ≤ (i : Int) + 1 := by omega
 have hb2 : (i : Int) + 1 ≤ (n : Int) + 1 := by omega
 have hb3 : (i : Int) ≤ (n : Int) + 1 := by omega
 have hb5 : (i : Int) ≤ (n : Int) := by omega
 have hG63 : G ≤ 9223372036854775807 := by unfold maxLen at hGm; omega
 have hGi : ¬ (G = i) := by omega
 have hGim : ¬ (G = i + 1) := by omega
 have hci : ¬ (c = i) := by omega
 have hbw : g < w.heap.size := zL hg.out;have hm1 : Nat.min (n - i) (n - i) = n - i := by simp only [Nat.min_def]; split <;> omega
 have hm2 : Nat.min 1 (n + 1 - i) = 1 := by simp only [Nat.min_def]; split <;> omega
 clear hg hb hsrc hsrc1 h1 h1y hX2 hX1 hY;go_enter hf, hn';clear hf hn';go_wp2_with (first
  | (at_builtin; refine Lib.wpList_append_run _ rfl _ _ _ _ rfl _ _ rfl rfl _ _ (hrz _) ?_)
  | (at_builtin; refine wpList_copy_runI _ rfl _ _ _ _ rfl _ _ rfl rfl (hcpA _ _) ?_))
 go_region_law_o (refine step_copy_runI rfl _ _ _ _ rfl _ _ (by simp [Act.eval, Act.put]) (by simp [Act.eval, Act.put]) (hcpB _ _ _) ?_)
 go_wp2;go_ret;exact ⟨_, rfl, fin.out⟩) : p := h
theorem zza7 (B : Nat) (X1 X2 Y : List Value) (n i c g vb : Nat) (cur : List Value) (w : World) (hBw : B ≤ w.heap.size) (hi : i < n) (hn : n ≤ 1000000) (hnc : n ≤ c) (hroom : c < n + 1) (hX1 : X1.length = i * 4) (hX2 : X2.length = (n - i) * 4) (hg : Hid (w.heap[g]? = some (.cells cur.toArray 78 (0, 0))))
  (hsrc1 : Hid (∀ (j : Nat) (v : Value), X1[j]? = some v → cur[j]? = some v)) (hsrc : Hid (∀ (j : Nat) (v : Value), X2[j]? = some v → cur[i * 4 + j]? = some v)) (hb : Hid (w.heap[vb]? = some (.cells Y.toArray 78 (0, 0)))) (hY : Y.length = 1 * 4) (h1 : Hid (∀ v ∈ X2, v.oneCell' = true)) (h1y : Hid (∀ v ∈ Y, v.oneCell' = true)) :
  Calls Tryz.prog 172 #[.slice (some ⟨g, 0, none⟩) n c, .int .i64 i, .slice (some ⟨vb, 0, none⟩) 1 1] w fun e w' => ∃ v', e = .returned v' ∧ w'.ownsRow B 78 4 v' (n + 1) (X1 ++ (Y ++ X2)) ∧ w.grownBy w' (some g) := by
 have t3 := Tryz.underlying3;have t24 := Tryz.underlying22;obtain ⟨G, W1, W2, W3, hGn, hGm, hrz, hcpA, hcpB, fin⟩ := zz5v zz23 zx B hBw hi hn hnc hroom hX1 hX2 hg hsrc1 hsrc hb hY h1 h1y;have hf := Tryz.func172;have hn' := Tryz.ntmps172;exact zgi
theorem zzc1 (B : Nat) (X1 X2 Y : List Value) (n i c g vb : Nat) (cur : List Value) (w : World) (hBw : B ≤ w.heap.size) (hi : i < n) (hn : n ≤ 1000000) (hnc : n ≤ c) (hroom : c < n + 1) (hX1 : X1.length = i * 3) (hX2 : X2.length = (n - i) * 3) (hg : Hid (w.heap[g]? = some (.cells cur.toArray 80 (0, 0))))
  (hsrc1 : Hid (∀ (j : Nat) (v : Value), X1[j]? = some v → cur[j]? = some v)) (hsrc : Hid (∀ (j : Nat) (v : Value), X2[j]? = some v → cur[i * 3 + j]? = some v)) (hb : Hid (w.heap[vb]? = some (.cells Y.toArray 80 (0, 0)))) (hY : Y.length = 1 * 3) (h1 : Hid (∀ v ∈ X2, v.oneCell' = true)) (h1y : Hid (∀ v ∈ Y, v.oneCell' = true)) :
  Calls Tryz.prog 190 #[.slice (some ⟨g, 0, none⟩) n c, .int .i64 i, .slice (some ⟨vb, 0, none⟩) 1 1] w fun e w' => ∃ v', e = .returned v' ∧ w'.ownsRow B 80 3 v' (n + 1) (X1 ++ (Y ++ X2)) ∧ w.grownBy w' (some g) := by
 have t3 := Tryz.underlying3;have t24 := Tryz.underlying23;obtain ⟨G, W1, W2, W3, hGn, hGm, hrz, hcpA, hcpB, fin⟩ := zz5v el_Stake zx B hBw hi hn hnc hroom hX1 hX2 hg hsrc1 hsrc hb hY h1 h1y;have hf := Tryz.func190;have hn' := Tryz.ntmps190;exact zgi
theorem InsertOpen_grow (B : Nat) (X1 X2 Y : List Value) (n i c g vb : Nat) (cur : List Value) (w : World) (hBw : B ≤ w.heap.size) (hi : i < n) (hn : n ≤ 1000000) (hnc : n ≤ c) (hroom : c < n + 1) (hX1 : X1.length = i * 6) (hX2 : X2.length = (n - i) * 6) (hg : Hid (w.heap[g]? = some (.cells cur.toArray 82 (0, 0))))
  (hsrc1 : Hid (∀ (j : Nat) (v : Value), X1[j]? = some v → cur[j]? = some v)) (hsrc : Hid (∀ (j : Nat) (v : Value), X2[j]? = some v → cur[i * 6 + j]? = some v)) (hb : Hid (w.heap[vb]? = some (.cells Y.toArray 82 (0, 0)))) (hY : Y.length = 1 * 6) (h1 : Hid (∀ v ∈ X2, v.oneCell' = true)) (h1y : Hid (∀ v ∈ Y, v.oneCell' = true)) :
  Calls Tryz.prog 187 #[.slice (some ⟨g, 0, none⟩) n c, .int .i64 i, .slice (some ⟨vb, 0, none⟩) 1 1] w fun e w' => ∃ v', e = .returned v' ∧ w'.ownsRow B 82 6 v' (n + 1) (X1 ++ (Y ++ X2)) ∧ w.grownBy w' (some g) := by
 have t3 := Tryz.underlying3;have t24 := Tryz.underlying24;obtain ⟨G, W1, W2, W3, hGn, hGm, hrz, hcpA, hcpB, fin⟩ := zz5v el_Open zx B hBw hi hn hnc hroom hX1 hX2 hg hsrc1 hsrc hb hY h1 h1y;have hf := Tryz.func187;have hn' := Tryz.ntmps187;exact zgi
theorem InsertRate_grow (B : Nat) (X1 X2 Y : List Value) (n i c g vb : Nat) (cur : List Value) (w : World) (hBw : B ≤ w.heap.size) (hi : i < n) (hn : n ≤ 1000000) (hnc : n ≤ c) (hroom : c < n + 1) (hX1 : X1.length = i * 2) (hX2 : X2.length = (n - i) * 2) (hg : Hid (w.heap[g]? = some (.cells cur.toArray 84 (0, 0))))
  (hsrc1 : Hid (∀ (j : Nat) (v : Value), X1[j]? = some v → cur[j]? = some v)) (hsrc : Hid (∀ (j : Nat) (v : Value), X2[j]? = some v → cur[i * 2 + j]? = some v)) (hb : Hid (w.heap[vb]? = some (.cells Y.toArray 84 (0, 0)))) (hY : Y.length = 1 * 2) (h1 : Hid (∀ v ∈ X2, v.oneCell' = true)) (h1y : Hid (∀ v ∈ Y, v.oneCell' = true)) :
  Calls Tryz.prog 174 #[.slice (some ⟨g, 0, none⟩) n c, .int .i64 i, .slice (some ⟨vb, 0, none⟩) 1 1] w fun e w' => ∃ v', e = .returned v' ∧ w'.ownsRow B 84 2 v' (n + 1) (X1 ++ (Y ++ X2)) ∧ w.grownBy w' (some g) := by
 have t3 := Tryz.underlying3;have t24 := Tryz.underlying25;obtain ⟨G, W1, W2, W3, hGn, hGm, hrz, hcpA, hcpB, fin⟩ := zz5v zz4n zx B hBw hi hn hnc hroom hX1 hX2 hg hsrc1 hsrc hb hY h1 h1y;have hf := Tryz.func174;have hn' := Tryz.ntmps174;exact zgi
theorem zia {p : Prop} (h : p := by
 by_cases hin : i = l.length
 ·subst hin
  rw [List.take_length, List.drop_length];exact he B v l x vb w hv hB hl hx hb
 ·obtain ⟨ho, hk⟩ := hv.out
  rcases ho.2 with ⟨_, h0⟩ | ⟨g, cap, cur, rfl, hBg, hg, hnc, hcm, hcs, ht⟩
  ·omega
  ·have hkt : ∀ r ∈ l.take i, r.length = _ := fun r hr => hk r (List.mem_of_mem_take hr)
   have hkd : ∀ r ∈ l.drop i, r.length = _ := fun r hr => hk r (List.mem_of_mem_drop hr)
   have hX1 := zz0u hkt;rw [List.length_take, Nat.min_eq_left zw] at hX1;have hX2 := zz0u hkd;rw [List.length_drop] at hX2;have hX : flatC (l.take i) ++ flatC (l.drop i) = flatC l := by rw [← zz0j, List.take_append_drop]
   have hcur := (show cur.toList.length = cur.size by simp).trans hcs
   have hle := Nat.mul_le_mul_right x.length hnc;rw [hx] at hle;have hcg : ∀ (j : Nat) (u : Value), (flatC l)[j]? = some u → cur.toList[j]? = some u := fun j u hj => by
    rw [← ht, List.getElem?_take] at hj
    split at hj
    ·exact hj
    ·cases hj
   have hY := (show (x.map (Value.int .i64)).length = 1 * x.length by rw [List.length_map, Nat.one_mul])
   rw [hx] at hY;have hY1 : ∀ u ∈ x.map (Value.int .i64), u.oneCell' = true := fun u hu => by obtain ⟨y, _, rfl⟩ := List.mem_map.1 hu; rfl
   have hs2 : ∀ (j : Nat) (u : Value), (flatC (l.drop i))[j]? = some u → cur.toList[i * x.length + j]? = some u := fun j u hj => hcg _ _ (by
    rw [hx, ← hX, List.getElem?_append_right zw, hX1, Nat.add_sub_cancel_left]; exact hj)
   rw [hx] at hs2;have hlen : (l.take i ++ x :: l.drop i).length = l.length + 1 := by simp; omega
   have hflat : flatC (l.take i ++ x :: l.drop i) = flatC (l.take i) ++ (x.map (Value.int .i64) ++ flatC (l.drop i)) := by
    rw [zz0j]; simp [flatC]
   have hrows : ∀ r ∈ l.take i ++ x :: l.drop i, r.length = x.length := fun r hr => by
    rcases List.mem_append.1 hr with hr | hr
    ·rw [hx]; exact hkt r hr
    ·rcases List.mem_cons.1 hr with rfl | hr
     ·rfl
     ·rw [hx]; exact hkd r hr
   rw [hx] at hrows;obtain ⟨cl⟩ := cur;replace hcur : cl.length = _ := hcur;have hg' := zH hg;have hvb : vb ≠ g := fun h => hne (by simp [Value.ownBlock, h])
   by_cases hroom : l.length + 1 ≤ cap
   ·refine (hsf (flatC (l.take i)) (flatC (l.drop i)) (x.map (Value.int .i64)) l.length i cap g vb cl w zw hroom (by unfold maxLen at hcm; omega) hvb hX2 hg' hcur hs2 hb hY (zz2x _) hY1).mono ?_
    rintro e w' ⟨rfl, h1, h2⟩;refine ⟨_, rfl, ⟨⟨?_, .inr ⟨g, cap, _, ?_, hBg, h1, ?_, hcm, ?_, ?_⟩⟩, hrows⟩, h2⟩
    ·rw [zz0u hrows]
    ·rw [hlen]
    ·omega
    ·rw [List.size_toArray, length_splice, length_splice, hcur]
     ·omega
     ·rw [length_splice _ _ _ zw]; omega
    ·have hp := zz81 cl (flatC (l.take i)) (flatC (l.drop i)) (x.map (Value.int .i64)) x.length l.length zw (by rw [hX, ← ht]; congr 1; omega) zw
     rw [hX1, hx] at hp;have ea := Nat.succ_mul i x.length;have eb : (l.take i ++ x :: l.drop i).length * x.length = i * x.length + (x.length + (flatC (l.drop i)).length) := by rw [hx]; omega
     rw [hx] at ea eb;rw [hflat, ← hp];simp only [];rw [eb, ea]
   ·refine (hgw B (flatC (l.take i)) (flatC (l.drop i)) (x.map (Value.int .i64)) l.length i cap g vb cl w hB zw hl hnc zw hX1 hX2 hg' ?_ hs2 hb hY (zz2x _) hY1).mono ?_
    ·intro j u hj
     exact hcg j u (by rw [← hX, List.getElem?_append_left (List.getElem?_eq_some_iff.1 hj).1]; exact hj)
    ·rintro e w' ⟨v', rfl, h1, h2⟩
     exact ⟨v', rfl, ⟨by rw [hlen, hflat]; exact h1, hrows⟩, h2⟩) : p := h
theorem zz4u (B : Nat) (v : Value) (l : List (List Int)) (x : List Int) (i vb : Nat) (w : World) (hv : Hid (RowOwn w B 78 v 4 l)) (hB : B ≤ w.heap.size) (hl : l.length ≤ 1000000) (hi : i ≤ l.length) (hx : x.length = 4) (hb : Hid (w.heap[vb]? = some (.cells (x.map (Value.int .i64)).toArray 78 (0, 0)))) (hne : v.ownBlock ≠ some vb) :
  Calls Tryz.prog 172 #[v, .int .i64 i, .slice (some ⟨vb, 0, none⟩) 1 1] w fun e w' => ∃ v', e = .returned v' ∧ RowOwn w' B 78 v' 4 (l.take i ++ x :: l.drop i) ∧ w.grownBy w' v.ownBlock := by
 have he := @zzc4;have hsf := @zza5;have hgw := @zza7;exact zia
theorem zz51 (B : Nat) (v : Value) (l : List (List Int)) (x : List Int) (i vb : Nat) (w : World) (hv : Hid (RowOwn w B 80 v 3 l)) (hB : B ≤ w.heap.size) (hl : l.length ≤ 1000000) (hi : i ≤ l.length) (hx : x.length = 3) (hb : Hid (w.heap[vb]? = some (.cells (x.map (Value.int .i64)).toArray 80 (0, 0)))) (hne : v.ownBlock ≠ some vb) :
  Calls Tryz.prog 190 #[v, .int .i64 i, .slice (some ⟨vb, 0, none⟩) 1 1] w fun e w' => ∃ v', e = .returned v' ∧ RowOwn w' B 80 v' 3 (l.take i ++ x :: l.drop i) ∧ w.grownBy w' v.ownBlock := by
 have he := @InsertStake_end;have hsf := @zza6;have hgw := @zzc1;exact zia
theorem zz68 (B : Nat) (v : Value) (l : List (List Int)) (x : List Int) (i vb : Nat) (w : World) (hv : Hid (RowOwn w B 82 v 6 l)) (hB : B ≤ w.heap.size) (hl : l.length ≤ 1000000) (hi : i ≤ l.length) (hx : x.length = 6) (hb : Hid (w.heap[vb]? = some (.cells (x.map (Value.int .i64)).toArray 82 (0, 0)))) (hne : v.ownBlock ≠ some vb) :
  Calls Tryz.prog 187 #[v, .int .i64 i, .slice (some ⟨vb, 0, none⟩) 1 1] w fun e w' => ∃ v', e = .returned v' ∧ RowOwn w' B 82 v' 6 (l.take i ++ x :: l.drop i) ∧ w.grownBy w' v.ownBlock := by
 have he := @InsertOpen_end;have hsf := @zzc3;have hgw := @InsertOpen_grow;exact zia
theorem zz67 (B : Nat) (v : Value) (l : List (List Int)) (x : List Int) (i vb : Nat) (w : World) (hv : Hid (RowOwn w B 84 v 2 l)) (hB : B ≤ w.heap.size) (hl : l.length ≤ 1000000) (hi : i ≤ l.length) (hx : x.length = 2) (hb : Hid (w.heap[vb]? = some (.cells (x.map (Value.int .i64)).toArray 84 (0, 0)))) (hne : v.ownBlock ≠ some vb) :
  Calls Tryz.prog 174 #[v, .int .i64 i, .slice (some ⟨vb, 0, none⟩) 1 1] w fun e w' => ∃ v', e = .returned v' ∧ RowOwn w' B 84 v' 2 (l.take i ++ x :: l.drop i) ∧ w.grownBy w' v.ownBlock := by
 have he := @InsertRate_end;have hsf := @zzc2;have hgw := @InsertRate_grow;exact zia
section
variable {P : Program}
theorem zz14 (w : World) {ops : Array Oper} {rest : List Oper} {o : Oper} {a : Act} {Q : Exit → Act → World → Prop} (hgd : o.guard = none) (d : Operand) (t : TypeId)
  (ho : o.op = .call { callee := .builtin .clear, args := #[d], argTypes := #[t] }) (v : Value) (hd : a.eval d = v) {v' : Value} {w' : World}
  (hr : (Builtin.clear_ #[t] o.type #[v]).run P w = .ok v' w') (h : wpList P ops Q rest (a.put o.dst v') w') : wpList P ops Q (o :: rest) a w :=
 wpList_plain hgd fun K hK => by
  unfold Oper.wp execOp;simp only [ho, resolve, invoke, builtin, Sem.run_bind, Sem.run_pure, Result.andThen_ok, List.map_toArray, List.map_cons, List.map_nil, hd, hr];exact hK _ _ h
theorem zz57 (w : World) (t ty e : TypeId) (z : Value) (k g o n c : Nat) (cur : List Value) (ht : P.underlying t = some (.slice e)) (hv : ∀ w, (zeroValue e).run P w = .ok z w) (hz : z.cells.size = k) (h1 : ∀ u ∈ z.cells.toList, u.oneCell' = true)
  (hg : w.heap[g]? = some (.cells cur.toArray e (0, 0))) (hfit : o + k ≤ cur.length) :
  (Builtin.clear_ #[t] ty #[.slice (some ⟨g, o, none⟩) 1 c]).run P w = .ok (.tuple #[]) (w.setRow g (splice cur o z.cells.toList).toArray) := by
 have ez : (Builtin.zeroCells z.cells 1).toList = z.cells.toList := by
  refine List.ext_getElem? fun j => ?_
  rw [Array.getElem?_toList, Array.getElem?_toList];by_cases hj : j < z.cells.size
  ·simp [Builtin.zeroCells, hj, Nat.mod_eq_of_lt hj]
  ·rw [Array.getElem?_eq_none (by simp [Builtin.zeroCells]; omega), Array.getElem?_eq_none zw]
 have hst := run_storeCells_at P g o e z.cells.toList 0 cur.toArray w hg (by simp; omega) h1
 simp only [Nat.add_zero] at hst;simp [Builtin.clear_, run_underlying ht, hv, ez, hst, splice, List.append_assoc]
end
theorem zz4p (cur X1 D X2 Z : List Value) (k : Nat) (hZ : Z.length = k) (hD : D.length = k) (ht : cur.take (X1.length + k + X2.length) = X1 ++ (D ++ X2)) (hc : X1.length + k + X2.length ≤ cur.length) :
  (splice (splice cur X1.length X2) (X1.length + X2.length) Z).take (X1.length + X2.length) = X1 ++ X2 := by
 have e1 : cur.take X1.length = X1 := by
  exact zt83
 rw [splice, splice, e1];rw [List.take_append_of_le_length (by first | (simp; done) | (simp; omega) | omega), List.take_take, Nat.min_self, ← List.append_assoc, List.take_left' (by simp)]
theorem zz53 (X2 : List Value) (n i c g : Nat) (cur : List Value) (w : World) (hi : i < n) (hnc : n ≤ c) (hc63 : c ≤ 9223372036854775807) (hX2 : X2.length = (n - (i + 1)) * 3) (hg : Hid (w.heap[g]? = some (.cells cur.toArray 80 (0, 0)))) (hcur : cur.length = c * 3)
  (hsrc : Hid (∀ (j : Nat) (v : Value), X2[j]? = some v → cur[(i + 1) * 3 + j]? = some v)) (h1 : Hid (∀ v ∈ X2, v.oneCell' = true)) :
  Calls Tryz.prog 189 #[.slice (some ⟨g, 0, none⟩) n c, .int .i64 i, .int .i64 ((i : Int) + 1)] w fun e w' => e = .returned (.slice (some ⟨g, 0, none⟩) (n - 1) c) ∧ w'.heap[g]? = some (.cells (splice (splice cur (i * 3) X2) ((n - 1) * 3) [.int .i64 0, .int .i64 0, .int .i64 0]).toArray 80 (0, 0)) ∧ w.grownBy w' (some g) := by
 have t24 := Tryz.underlying23;have mixed : Tryz.prog.follows .mixedOrders = true := by kernel_rfl
 obtain ⟨i0, hi0, hz0, hzs, hzb⟩ := el_Stake.info;have hz2 : ((i : Int) == (i : Int) + 1) = false := by simp; omega
 have htn : ((i : Int) + 1).toNat = i + 1 := by omega
 have hb1 : (0 : Int) ≤ (i : Int) + 1 := by omega
 have hb2 : (i : Int) + 1 ≤ (n : Int) := by omega
 have hb3 : (i : Int) ≤ (n : Int) := by omega
 have hb3' : (i : Int) ≤ (i : Int) + 1 := by omega
 have hb4 : ¬ (c = i) := by omega
 have hb5 : i ≤ c := by omega
 have hb6 : ¬ (c = n - 1) := by omega
 have hb7 : ¬ (n = i) := by omega
 have hsum : i + (n - (i + 1)) = n - 1 := by omega
 have hb8 : ((n - 1 : Nat) : Int) ≤ (n : Int) := by omega
 have hb9 : n - (n - 1) = 1 := by omega
 have hrun : ∀ ad ty c1 w0, w0.heap = w.heap → (0 < X2.length → ad = ⟨g, (i + 1) * 3, none⟩) → (Builtin.append_ #[23, 23] ty #[.slice (some ⟨g, 0, none⟩) i c, .slice (some ad) (n - (i + 1)) c1]).run Tryz.prog w0 = .ok (.slice (some ⟨g, 0, none⟩) (n - 1) c) (w0.setRow g (splice cur (i * 3) X2).toArray) := fun ad ty c1 w0 hw0 had => by
  have hgw : w0.heap[g]? = some (.cells cur.toArray 80 (0, 0)) := by rw [hw0]; exact hg.out
  rw [run_append_room w0 23 ty 80 i0 t24 hi0 g i c cur.toArray hgw ad (n - (i + 1)) c1 X2 (by rw [hzs, hX2]) (fun j v hj => by
   rw [had (by have := (List.getElem?_eq_some_iff.1 hj).1; omega), Addr.add_lit]
   exact zz00 hgw _ _ (by simpa using hsrc.out j v hj)) h1.out zw (by rw [hzs]; simp; omega), hsum, hzs]
  simp [splice]
 obtain ⟨A1, hA1⟩ : ∃ A1, A1 = splice cur (i * 3) X2 := ⟨_, rfl⟩;have hA1l : A1.length = c * 3 := by rw [hA1, length_splice _ _ _ zw, hcur]
 obtain ⟨W1, hW1⟩ : ∃ W1, W1 = w.drew.setRow g A1.toArray := ⟨_, rfl⟩;have hrun1 : ∀ ad ty c1, (0 < X2.length → ad = ⟨g, (i + 1) * 3, none⟩) → (Builtin.append_ #[23, 23] ty #[.slice (some ⟨g, 0, none⟩) i c, .slice (some ad) (n - (i + 1)) c1]).run Tryz.prog w.drew = .ok (.slice (some ⟨g, 0, none⟩) (n - 1) c) W1 := fun ad ty c1 had => by
  rw [hW1, hA1]; exact hrun ad ty c1 w.drew rfl had
 have hg1 : Hid (W1.heap[g]? = some (.cells A1.toArray 80 (0, 0))) := by rw [hW1]; exact setRow_heap w.drew g _ _ 80 _ hg.out
 have hgr1 : Hid (w.grownBy W1 (some g)) := by rw [hW1]; exact ⟨rfl, rfl, rfl, by simp [World.setRow], fun k hk hne => setRow_other w.drew g k _ (fun e => hne (by simp [e]))⟩
 obtain ⟨A2, hA2⟩ : ∃ A2, A2 = splice A1 ((n - 1) * 3) [.int .i64 0, .int .i64 0, .int .i64 0] := ⟨_, rfl⟩;obtain ⟨W2, hW2⟩ : ∃ W2, W2 = W1.setRow g A2.toArray := ⟨_, rfl⟩;have hcl : ∀ ty dc, (Builtin.clear_ #[23] ty #[.slice (some ⟨g, (n - 1) * 3, none⟩) 1 dc]).run Tryz.prog W1 = .ok (.tuple #[]) W2 := fun ty dc => by
  rw [zz57 W1 23 ty 80 (.agg #[.int .i64 0, .int .i64 0, .int .i64 0]) 3 g ((n - 1) * 3) 1 dc A1 t24 Tryz.zeroValue80 rfl (by intro u hu; simp [Value.cells] at hu; subst hu; first | done | rfl) hg1.out zw, hW2, hA2]
  rfl
 have fin : Hid (W2.heap[g]? = some (.cells A2.toArray 80 (0, 0)) ∧ w.grownBy W2 (some g)) := by
  rw [hW2];exact ⟨setRow_heap W1 g _ _ 80 _ hg1.out, zz1k hgr1.out ⟨rfl, rfl, rfl, by simp [World.setRow], fun k hk hne => setRow_other W1 g k _ (fun e => hne (by simp [e]))⟩⟩
 have hX0 : c = i + 1 → X2.length = 0 := fun h => by rw [hX2, show n - (i + 1) = 0 by omega, Nat.zero_mul]
 have hWeq : Hid (w.drew.setCells g (0 + i * 3) X2 = W1) := by
  have hr1 := hrun1 ⟨g, (i + 1) * 3, none⟩ 23 0 (fun _ => rfl)
  have h2 := run_append_room_cells (P := Tryz.prog) w.drew 23 23 80 i0 t24 hi0 g 0 i c ⟨g, (i + 1) * 3, none⟩ (n - (i + 1)) 0 X2 (by rw [hzs, hX2]) (fun j v hj => by rw [Addr.add_lit]; exact zz00 (w := w.drew) hg.out _ _ (by simpa using hsrc.out j v hj)) h1.out zw (fun j hj => by rw [hzs, zz00 (w := w.drew) hg.out _ _ (show cur.toArray[0 + i * 3 + j]? = some _ from by rw [List.getElem?_toArray]; exact List.getElem?_eq_getElem zw)]; rfl) (fun j hj => zz05 (w := w.drew) hg.out _)
  rw [hr1] at h2;injection h2 with _ h3
  rw [hzs] at h3;exact h3.symm
 have hA0 : Hid (∀ (j : Nat) (u : Value), X2[j]? = some u → w.drew.cell? ((⟨g, (i + 1) * 3, none⟩ : Addr).add j) = some u) := (show ∀ _ _ _, _ from fun j v hj => by rw [Addr.add_lit]; exact zz00 (w := w.drew) hg.out _ _ (by simpa using hsrc.out j v hj))
 have hA00 : Hid (c = i + 1 → ∀ (j : Nat) (u : Value), X2[j]? = some u → w.drew.cell? ((⟨g, 0, none⟩ : Addr).add j) = some u) := (show _ → ∀ _ _ _, _ from fun hc j v hj => by have := (List.getElem?_eq_some_iff.1 hj).1; have := hX0 hc; omega)
 have hsp : Hid (∀ (j : Nat), j < X2.length → (w.drew.cell? ⟨g, 0 + i * 3 + j, none⟩).isSome = true ∧ w.drew.frozen? ⟨g, 0 + i * 3 + j, none⟩ = false) := (show ∀ _ _, _ from fun j hj => ⟨by rw [zz00 (w := w.drew) hg.out _ _ (show cur.toArray[0 + i * 3 + j]? = some _ from by rw [List.getElem?_toArray]; exact List.getElem?_eq_getElem zw)]; rfl, zz05 (w := w.drew) hg.out _⟩)
 replace hX2 := zH hX2;rw [← hA1, ← hA2];clear hg hsrc hg1 hgr1 hcur hA1l hA1 hW1 hA2 hW2 hrun hrun1 hX0;have hroom := zH (show i + (n - (i + 1)) ≤ c by omega)
 have hsumh := zH hsum;by_cases hce : c = i + 1
 ·replace hA00 := zH (hA00.out hce)
  subst hce;have hX20 : Hid (X2.length = 0 * 3) := by show _ = _; rw [hX2.out, show n - (i + 1) = 0 by omega]
  have hr0 : Hid (i + 0 ≤ i + 1) := by show _ ≤ _; omega
  have hs0 : Hid (i + 0 = n - 1) := by show _ = _; omega
  clear hA0;go_in;go_wp2_with fail;go_region_law_o (refine step_append_room rfl _ _ 23 rfl 80 i0 3 t24 hi0 hzs g 0 i (i + 1) (by simp [Act.eval, Act.put]) ⟨g, 0, none⟩ 0 0 X2 (by simp [Act.eval, Act.put]) hX20.out hA00.out h1.out hr0.out hsp.out ?_; rw [hs0.out, hWeq.out])
  go_wp2_with (at_builtin; refine zz14 _ rfl _ 23 rfl _ rfl (hcl _ _) ?_);go_ret;exact ⟨rfl, fin.out⟩
 ·clear hA00
  go_in;go_wp2_with fail;go_region_law_o (refine step_append_room rfl _ _ 23 rfl 80 i0 3 t24 hi0 hzs g 0 i c (by simp [Act.eval, Act.put]) ⟨g, (i + 1) * 3, none⟩ (n - (i + 1)) (c - (i + 1)) X2 (by simp [Act.eval, Act.put]) hX2.out hA0.out h1.out hroom.out hsp.out ?_; rw [hsumh.out, hWeq.out])
  go_wp2_with (at_builtin; refine zz14 _ rfl _ 23 rfl _ rfl (hcl _ _) ?_);go_ret;exact ⟨rfl, fin.out⟩
theorem zz54 (B : Nat) (v : Value) (l : List (List Int)) (i : Nat) (w : World) (hv : Hid (RowOwn w B 80 v 3 l)) (hl : l.length ≤ 1000000) (hi : i < l.length) :
  Calls Tryz.prog 189 #[v, .int .i64 i, .int .i64 ((i : Int) + 1)] w fun e w' => ∃ v', e = .returned v' ∧ RowOwn w' B 80 v' 3 (l.take i ++ l.drop (i + 1)) ∧ w.grownBy w' v.ownBlock := by
 obtain ⟨ho, hk⟩ := hv.out;rcases ho.2 with ⟨_, h0⟩ | ⟨g, cap, cur, rfl, hBg, hg, hnc, hcm, hcs, ht⟩
 ·omega
 ·have hkt : ∀ r ∈ l.take i, r.length = 3 := fun r hr => hk r (List.mem_of_mem_take hr)
  have hkd : ∀ r ∈ l.drop (i + 1), r.length = 3 := fun r hr => hk r (List.mem_of_mem_drop hr)
  have hX1 : (flatC (l.take i)).length = i * 3 := by rw [zz0u hkt, List.length_take, Nat.min_eq_left zw]
  have hX2 : (flatC (l.drop (i + 1))).length = (l.length - (i + 1)) * 3 := by rw [zz0u hkd, List.length_drop]
  have hD : (flatC [l[i]]).length = 3 := by rw [zz0u (k := 3) (by intro r hr; simp at hr; rw [hr]; exact hk _ (List.getElem_mem hi))]; simp
  have hsp : l = l.take i ++ ([l[i]] ++ l.drop (i + 1)) := by
   have := List.take_append_drop i l;rw [List.drop_eq_getElem_cons hi] at this;exact this.symm
  have hX : flatC l = flatC (l.take i) ++ (flatC [l[i]] ++ flatC (l.drop (i + 1))) := by
   have := congrArg flatC hsp;rw [zz0j, zz0j] at this;exact this
  have hcur : cur.toList.length = cap * 3 := by rw [Array.length_toList]; exact hcs
  have hle : l.length * 3 ≤ cap * 3 := Nat.mul_le_mul_right _ hnc;have hs2 : ∀ (j : Nat) (u : Value), (flatC (l.drop (i + 1)))[j]? = some u → cur.toList[(i + 1) * 3 + j]? = some u := fun j u hj => by
   have h2 : (flatC l)[(i + 1) * 3 + j]? = some u := by
    rw [hX, List.getElem?_append_right zw, List.getElem?_append_right zw, ← hj]
    congr 1; omega
   rw [← ht, List.getElem?_take] at h2
   split at h2
   ·exact h2
   ·cases h2
  have hg' : Hid (w.heap[g]? = some (.cells cur.toList.toArray 80 (0, 0))) := (show _ = _ from by simpa using hg)
  have hlen : (l.take i ++ l.drop (i + 1)).length = l.length - 1 := by simp; omega
  have hrows : ∀ r ∈ l.take i ++ l.drop (i + 1), r.length = 3 := fun r hr => by
   rcases List.mem_append.1 hr with hr | hr
   ·exact hkt r hr
   ·exact hkd r hr
  refine (zz53 (flatC (l.drop (i + 1))) l.length i cap g cur.toList w hi hnc (by unfold maxLen at hcm; omega) hX2 hg' hcur hs2 (zz2x _)).mono ?_
  rintro e w' ⟨rfl, h1, h2⟩;refine ⟨_, rfl, ⟨⟨?_, .inr ⟨g, cap, _, ?_, hBg, h1, ?_, hcm, ?_, ?_⟩⟩, hrows⟩, h2⟩
  ·rw [zz0u hrows]
  ·rw [hlen]
  ·omega
  ·rw [List.size_toArray, length_splice, length_splice, hcur]
   ·omega
   ·rw [length_splice _ _ _ zw]; simp; omega
  ·have hp := zz4p cur.toList (flatC (l.take i)) (flatC [l[i]]) (flatC (l.drop (i + 1))) [.int .i64 0, .int .i64 0, .int .i64 0] 3 rfl hD (by rw [← hX, ← ht]; congr 1; omega) zw
   rw [hX1] at hp;rw [zz0j, ← hp];simp only [];rw [hlen, show (l.length - 1) * 3 = i * 3 + (flatC (l.drop (i + 1))).length by omega]
theorem zz6c (X2 : List Value) (n i c g : Nat) (cur : List Value) (w : World) (hi : i < n) (hnc : n ≤ c) (hc63 : c ≤ 9223372036854775807) (hX2 : X2.length = (n - (i + 1)) * 6) (hg : Hid (w.heap[g]? = some (.cells cur.toArray 82 (0, 0)))) (hcur : cur.length = c * 6)
  (hsrc : Hid (∀ (j : Nat) (v : Value), X2[j]? = some v → cur[(i + 1) * 6 + j]? = some v)) (h1 : Hid (∀ v ∈ X2, v.oneCell' = true)) :
  Calls Tryz.prog 186 #[.slice (some ⟨g, 0, none⟩) n c, .int .i64 i, .int .i64 ((i : Int) + 1)] w fun e w' => e = .returned (.slice (some ⟨g, 0, none⟩) (n - 1) c) ∧ w'.heap[g]? = some (.cells (splice (splice cur (i * 6) X2) ((n - 1) * 6) [.int .i64 0, .int .i64 0, .int .i64 0, .int .i64 0, .int .i64 0, .int .i64 0]).toArray 82 (0, 0)) ∧ w.grownBy w' (some g) := by
 have t24 := Tryz.underlying24;have mixed : Tryz.prog.follows .mixedOrders = true := by kernel_rfl
 obtain ⟨i0, hi0, hz0, hzs, hzb⟩ := el_Open.info;have hz2 : ((i : Int) == (i : Int) + 1) = false := by simp; omega
 have htn : ((i : Int) + 1).toNat = i + 1 := by omega
 have hb1 : (0 : Int) ≤ (i : Int) + 1 := by omega
 have hb2 : (i : Int) + 1 ≤ (n : Int) := by omega
 have hb3 : (i : Int) ≤ (n : Int) := by omega
 have hb3' : (i : Int) ≤ (i : Int) + 1 := by omega
 have hb4 : ¬ (c = i) := by omega
 have hb5 : i ≤ c := by omega
 have hb6 : ¬ (c = n - 1) := by omega
 have hb7 : ¬ (n = i) := by omega
 have hsum : i + (n - (i + 1)) = n - 1 := by omega
 have hb8 : ((n - 1 : Nat) : Int) ≤ (n : Int) := by omega
 have hb9 : n - (n - 1) = 1 := by omega
 have hrun : ∀ ad ty c1 w0, w0.heap = w.heap → (0 < X2.length → ad = ⟨g, (i + 1) * 6, none⟩) → (Builtin.append_ #[24, 24] ty #[.slice (some ⟨g, 0, none⟩) i c, .slice (some ad) (n - (i + 1)) c1]).run Tryz.prog w0 = .ok (.slice (some ⟨g, 0, none⟩) (n - 1) c) (w0.setRow g (splice cur (i * 6) X2).toArray) := fun ad ty c1 w0 hw0 had => by
  have hgw : w0.heap[g]? = some (.cells cur.toArray 82 (0, 0)) := by rw [hw0]; exact hg.out
  rw [run_append_room w0 24 ty 82 i0 t24 hi0 g i c cur.toArray hgw ad (n - (i + 1)) c1 X2 (by rw [hzs, hX2]) (fun j v hj => by
   rw [had (by have := (List.getElem?_eq_some_iff.1 hj).1; omega), Addr.add_lit]
   exact zz00 hgw _ _ (by simpa using hsrc.out j v hj)) h1.out zw (by rw [hzs]; simp; omega), hsum, hzs]
  simp [splice]
 obtain ⟨A1, hA1⟩ : ∃ A1, A1 = splice cur (i * 6) X2 := ⟨_, rfl⟩;have hA1l : A1.length = c * 6 := by rw [hA1, length_splice _ _ _ zw, hcur]
 obtain ⟨W1, hW1⟩ : ∃ W1, W1 = w.drew.setRow g A1.toArray := ⟨_, rfl⟩;have hrun1 : ∀ ad ty c1, (0 < X2.length → ad = ⟨g, (i + 1) * 6, none⟩) → (Builtin.append_ #[24, 24] ty #[.slice (some ⟨g, 0, none⟩) i c, .slice (some ad) (n - (i + 1)) c1]).run Tryz.prog w.drew = .ok (.slice (some ⟨g, 0, none⟩) (n - 1) c) W1 := fun ad ty c1 had => by
  rw [hW1, hA1]; exact hrun ad ty c1 w.drew rfl had
 have hg1 : Hid (W1.heap[g]? = some (.cells A1.toArray 82 (0, 0))) := by rw [hW1]; exact setRow_heap w.drew g _ _ 82 _ hg.out
 have hgr1 : Hid (w.grownBy W1 (some g)) := by rw [hW1]; exact ⟨rfl, rfl, rfl, by simp [World.setRow], fun k hk hne => setRow_other w.drew g k _ (fun e => hne (by simp [e]))⟩
 obtain ⟨A2, hA2⟩ : ∃ A2, A2 = splice A1 ((n - 1) * 6) [.int .i64 0, .int .i64 0, .int .i64 0, .int .i64 0, .int .i64 0, .int .i64 0] := ⟨_, rfl⟩;obtain ⟨W2, hW2⟩ : ∃ W2, W2 = W1.setRow g A2.toArray := ⟨_, rfl⟩;have hcl : ∀ ty dc, (Builtin.clear_ #[24] ty #[.slice (some ⟨g, (n - 1) * 6, none⟩) 1 dc]).run Tryz.prog W1 = .ok (.tuple #[]) W2 := fun ty dc => by
  rw [zz57 W1 24 ty 82 (.agg #[.int .i64 0, .int .i64 0, .int .i64 0, .int .i64 0, .int .i64 0, .int .i64 0]) 6 g ((n - 1) * 6) 1 dc A1 t24 Tryz.zeroValue82 rfl (by intro u hu; simp [Value.cells] at hu; subst hu; first | done | rfl) hg1.out zw, hW2, hA2]
  rfl
 have fin : Hid (W2.heap[g]? = some (.cells A2.toArray 82 (0, 0)) ∧ w.grownBy W2 (some g)) := by
  rw [hW2];exact ⟨setRow_heap W1 g _ _ 82 _ hg1.out, zz1k hgr1.out ⟨rfl, rfl, rfl, by simp [World.setRow], fun k hk hne => setRow_other W1 g k _ (fun e => hne (by simp [e]))⟩⟩
 have hX0 : c = i + 1 → X2.length = 0 := fun h => by rw [hX2, show n - (i + 1) = 0 by omega, Nat.zero_mul]
 have hWeq : Hid (w.drew.setCells g (0 + i * 6) X2 = W1) := by
  have hr1 := hrun1 ⟨g, (i + 1) * 6, none⟩ 24 0 (fun _ => rfl)
  have h2 := run_append_room_cells (P := Tryz.prog) w.drew 24 24 82 i0 t24 hi0 g 0 i c ⟨g, (i + 1) * 6, none⟩ (n - (i + 1)) 0 X2 (by rw [hzs, hX2]) (fun j v hj => by rw [Addr.add_lit]; exact zz00 (w := w.drew) hg.out _ _ (by simpa using hsrc.out j v hj)) h1.out zw (fun j hj => by rw [hzs, zz00 (w := w.drew) hg.out _ _ (show cur.toArray[0 + i * 6 + j]? = some _ from by rw [List.getElem?_toArray]; exact List.getElem?_eq_getElem zw)]; rfl) (fun j hj => zz05 (w := w.drew) hg.out _)
  rw [hr1] at h2;injection h2 with _ h3
  rw [hzs] at h3;exact h3.symm
 have hA0 : Hid (∀ (j : Nat) (u : Value), X2[j]? = some u → w.drew.cell? ((⟨g, (i + 1) * 6, none⟩ : Addr).add j) = some u) := (show ∀ _ _ _, _ from fun j v hj => by rw [Addr.add_lit]; exact zz00 (w := w.drew) hg.out _ _ (by simpa using hsrc.out j v hj))
 have hA00 : Hid (c = i + 1 → ∀ (j : Nat) (u : Value), X2[j]? = some u → w.drew.cell? ((⟨g, 0, none⟩ : Addr).add j) = some u) := (show _ → ∀ _ _ _, _ from fun hc j v hj => by have := (List.getElem?_eq_some_iff.1 hj).1; have := hX0 hc; omega)
 have hsp : Hid (∀ (j : Nat), j < X2.length → (w.drew.cell? ⟨g, 0 + i * 6 + j, none⟩).isSome = true ∧ w.drew.frozen? ⟨g, 0 + i * 6 + j, none⟩ = false) := (show ∀ _ _, _ from fun j hj => ⟨by rw [zz00 (w := w.drew) hg.out _ _ (show cur.toArray[0 + i * 6 + j]? = some _ from by rw [List.getElem?_toArray]; exact List.getElem?_eq_getElem zw)]; rfl, zz05 (w := w.drew) hg.out _⟩)
 replace hX2 := zH hX2;rw [← hA1, ← hA2];clear hg hsrc hg1 hgr1 hcur hA1l hA1 hW1 hA2 hW2 hrun hrun1 hX0;have hroom := zH (show i + (n - (i + 1)) ≤ c by omega)
 have hsumh := zH hsum;by_cases hce : c = i + 1
 ·replace hA00 := zH (hA00.out hce)
  subst hce;have hX20 : Hid (X2.length = 0 * 6) := by show _ = _; rw [hX2.out, show n - (i + 1) = 0 by omega]
  have hr0 : Hid (i + 0 ≤ i + 1) := by show _ ≤ _; omega
  have hs0 : Hid (i + 0 = n - 1) := by show _ = _; omega
  clear hA0;go_in;go_wp2_with fail;go_region_law_o (refine step_append_room rfl _ _ 24 rfl 82 i0 6 t24 hi0 hzs g 0 i (i + 1) (by simp [Act.eval, Act.put]) ⟨g, 0, none⟩ 0 0 X2 (by simp [Act.eval, Act.put]) hX20.out hA00.out h1.out hr0.out hsp.out ?_; rw [hs0.out, hWeq.out])
  go_wp2_with (at_builtin; refine zz14 _ rfl _ 24 rfl _ rfl (hcl _ _) ?_);go_ret;exact ⟨rfl, fin.out⟩
 ·clear hA00
  go_in;go_wp2_with fail;go_region_law_o (refine step_append_room rfl _ _ 24 rfl 82 i0 6 t24 hi0 hzs g 0 i c (by simp [Act.eval, Act.put]) ⟨g, (i + 1) * 6, none⟩ (n - (i + 1)) (c - (i + 1)) X2 (by simp [Act.eval, Act.put]) hX2.out hA0.out h1.out hroom.out hsp.out ?_; rw [hsumh.out, hWeq.out])
  go_wp2_with (at_builtin; refine zz14 _ rfl _ 24 rfl _ rfl (hcl _ _) ?_);go_ret;exact ⟨rfl, fin.out⟩
theorem zz6d (B : Nat) (v : Value) (l : List (List Int)) (i : Nat) (w : World) (hv : Hid (RowOwn w B 82 v 6 l)) (hl : l.length ≤ 1000000) (hi : i < l.length) :
  Calls Tryz.prog 186 #[v, .int .i64 i, .int .i64 ((i : Int) + 1)] w fun e w' => ∃ v', e = .returned v' ∧ RowOwn w' B 82 v' 6 (l.take i ++ l.drop (i + 1)) ∧ w.grownBy w' v.ownBlock := by
 obtain ⟨ho, hk⟩ := hv.out;rcases ho.2 with ⟨_, h0⟩ | ⟨g, cap, cur, rfl, hBg, hg, hnc, hcm, hcs, ht⟩
 ·omega
 ·have hkt : ∀ r ∈ l.take i, r.length = 6 := fun r hr => hk r (List.mem_of_mem_take hr)
  have hkd : ∀ r ∈ l.drop (i + 1), r.length = 6 := fun r hr => hk r (List.mem_of_mem_drop hr)
  have hX1 : (flatC (l.take i)).length = i * 6 := by rw [zz0u hkt, List.length_take, Nat.min_eq_left zw]
  have hX2 : (flatC (l.drop (i + 1))).length = (l.length - (i + 1)) * 6 := by rw [zz0u hkd, List.length_drop]
  have hD : (flatC [l[i]]).length = 6 := by rw [zz0u (k := 6) (by intro r hr; simp at hr; rw [hr]; exact hk _ (List.getElem_mem hi))]; simp
  have hsp : l = l.take i ++ ([l[i]] ++ l.drop (i + 1)) := by
   have := List.take_append_drop i l;rw [List.drop_eq_getElem_cons hi] at this;exact this.symm
  have hX : flatC l = flatC (l.take i) ++ (flatC [l[i]] ++ flatC (l.drop (i + 1))) := by
   have := congrArg flatC hsp;rw [zz0j, zz0j] at this;exact this
  have hcur : cur.toList.length = cap * 6 := by rw [Array.length_toList]; exact hcs
  have hle : l.length * 6 ≤ cap * 6 := Nat.mul_le_mul_right _ hnc;have hs2 : ∀ (j : Nat) (u : Value), (flatC (l.drop (i + 1)))[j]? = some u → cur.toList[(i + 1) * 6 + j]? = some u := fun j u hj => by
   have h2 : (flatC l)[(i + 1) * 6 + j]? = some u := by
    rw [hX, List.getElem?_append_right zw, List.getElem?_append_right zw, ← hj]
    congr 1; omega
   rw [← ht, List.getElem?_take] at h2
   split at h2
   ·exact h2
   ·cases h2
  have hg' : Hid (w.heap[g]? = some (.cells cur.toList.toArray 82 (0, 0))) := (show _ = _ from by simpa using hg)
  have hlen : (l.take i ++ l.drop (i + 1)).length = l.length - 1 := by simp; omega
  have hrows : ∀ r ∈ l.take i ++ l.drop (i + 1), r.length = 6 := fun r hr => by
   rcases List.mem_append.1 hr with hr | hr
   ·exact hkt r hr
   ·exact hkd r hr
  refine (zz6c (flatC (l.drop (i + 1))) l.length i cap g cur.toList w hi hnc (by unfold maxLen at hcm; omega) hX2 hg' hcur hs2 (zz2x _)).mono ?_
  rintro e w' ⟨rfl, h1, h2⟩;refine ⟨_, rfl, ⟨⟨?_, .inr ⟨g, cap, _, ?_, hBg, h1, ?_, hcm, ?_, ?_⟩⟩, hrows⟩, h2⟩
  ·rw [zz0u hrows]
  ·rw [hlen]
  ·omega
  ·rw [List.size_toArray, length_splice, length_splice, hcur]
   ·omega
   ·rw [length_splice _ _ _ zw]; simp; omega
  ·have hp := zz4p cur.toList (flatC (l.take i)) (flatC [l[i]]) (flatC (l.drop (i + 1))) [.int .i64 0, .int .i64 0, .int .i64 0, .int .i64 0, .int .i64 0, .int .i64 0] 6 rfl hD (by rw [← hX, ← ht]; congr 1; omega) zw
   rw [hX1] at hp;rw [zz0j, ← hp];simp only [];rw [hlen, show (l.length - 1) * 6 = i * 6 + (flatC (l.drop (i + 1))).length by omega]
end
end Go.Proofs.YtajogedbacpohaaGreatDoor
