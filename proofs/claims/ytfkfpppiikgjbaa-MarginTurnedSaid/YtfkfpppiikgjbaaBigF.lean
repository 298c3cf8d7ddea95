/- The reference's numbers: Mul (printed by genBigF.py). -/
import Derived.Test.YtfkfpppiikgjbaaBigE
import Derived.Test.YtfkfpppiikgjbaaRegB
namespace Go.Proofs.Ytfkfpppiikgjbaa
open Go Go.RowKit Bg
set_option linter.unusedVariables false

/-- A row of digits. -/
def rowA (h : Nat → Nat) (n : Nat) : Array Value := (Array.range n).map fun j => .int .i64 (h j : Nat)
theorem rowA_get (h : Nat → Nat) {n p : Nat} (hp : p < n) : (rowA h n)[p]? = some (.int .i64 (h p : Nat)) := by
  unfold rowA; simp [hp]
def upd (h : Nat → Nat) (p d j : Nat) : Nat := if j = p then d else h j
theorem rowA_set (h : Nat → Nat) {n p : Nat} (hp : p < n) (d : Nat) : (rowA h n).setIfInBounds p (.int .i64 (d : Nat)) = rowA (upd h p d) n := by
  apply Array.ext_getElem?
  intro i
  rw [Array.getElem?_setIfInBounds]
  by_cases hi : i < n
  · rw [rowA_get _ hi, rowA_get _ hi]
    unfold upd
    by_cases e : p = i
    · subst e; rw [if_pos rfl, if_pos rfl, if_pos (by unfold rowA; simpa using hp)]
    · rw [if_neg e, if_neg (fun h => e h.symm)]
  · have hs : ∀ h, (rowA h n).size = n := fun h => by unfold rowA; simp
    rw [if_neg (by omega), Array.getElem?_eq_none (by rw [hs]; omega), Array.getElem?_eq_none (by rw [hs]; omega)]
theorem rowA_zero (n : Nat) : rowA (fun _ => 0) n = madeCells #[.int .i64 0] (n * 1) := by
  apply Array.toList_inj.1
  rw [toList_madeCells_one, Nat.mul_one]
  unfold rowA
  apply List.ext_getElem (by simp)
  intro i h1 h2
  simp
theorem pv_upd (h : Nat → Nat) (p d : Nat) : ∀ n, p < n → pv (upd h p d) n + h p * 10000 ^ p = pv h n + d * 10000 ^ p
  | 0, hp => by omega
  | n + 1, hp => by
    show pv (upd h p d) n + upd h p d n * 10000 ^ n + _ = pv h n + h n * 10000 ^ n + _
    by_cases e : p = n
    · subst e
      have h1 : pv (upd h p d) p = pv h p := pv_congr p fun i hi => by unfold upd; rw [if_neg (by omega)]
      have h2 : upd h p d p = d := by unfold upd; rw [if_pos rfl]
      rw [h1, h2]; omega
    · have h1 := pv_upd h p d n (by omega)
      have h2 : upd h p d n = h n := by unfold upd; rw [if_neg (by omega)]
      rw [h2]; omega

/-- Inside the product's inner loop. -/
structure MulInv (f g : Nat → Nat) (h : Nat → Nat) (n i j c N : Nat) : Prop where
  lt : ∀ p, h p < 10000
  zero : ∀ p, N ≤ p → h p = 0
  val : pv h N + c * 10000 ^ (i + j) = pv f i * pv g n + f i * pv g j * 10000 ^ i
  one : c ≤ 9999
theorem MulInv.step {f g h : Nat → Nat} {n i j c N : Nat} (H : MulInv f g h n i j c N) (hf : f i < 10000) (hg : g j < 10000) (hp : i + j < N) :
    MulInv f g (upd h (i + j) ((h (i + j) + f i * g j + c) % 10000)) n i (j + 1) ((h (i + j) + f i * g j + c) / 10000) N := by
  have hb : f i * g j ≤ 9999 * 9999 := Nat.mul_le_mul (by omega) (by omega)
  have h1 := H.lt (i + j)
  have h2 := H.one
  refine ⟨fun p => ?_, fun p hp2 => ?_, ?_, by omega⟩
  · unfold upd; split
    · omega
    · exact H.lt p
  · unfold upd; rw [if_neg (by omega)]; exact H.zero p hp2
  · have h3 := pv_upd h (i + j) ((h (i + j) + f i * g j + c) % 10000) N hp
    have h4 := H.val
    have h5 := Nat.div_add_mod (h (i + j) + f i * g j + c) 10000
    generalize (h (i + j) + f i * g j + c) % 10000 = d at *
    generalize (h (i + j) + f i * g j + c) / 10000 = k at *
    have h6 : (10000 * k + d) * 10000 ^ (i + j) = (h (i + j) + f i * g j + c) * 10000 ^ (i + j) := by rw [h5]
    have h7 : 10000 ^ (i + j) = 10000 ^ i * 10000 ^ j := Nat.pow_add _ _ _
    have h8 : 10000 ^ (i + (j + 1)) = 10000 ^ (i + j) * 10000 := Nat.pow_succ _ _
    show _ + k * 10000 ^ (i + (j + 1)) = pv f i * pv g n + f i * (pv g j + g j * 10000 ^ j) * 10000 ^ i
    rw [h8]
    generalize pv (upd h (i + j) d) N = v1 at *
    generalize pv h N = v0 at *
    generalize h (i + j) = hp0 at *
    rw [h7] at h3 h4 h6 ⊢
    generalize 10000 ^ i = q1 at *
    generalize 10000 ^ j = q2 at *
    generalize pv f i * pv g n = z at *
    generalize f i = a at *
    generalize g j = b at *
    generalize pv g j = y at *
    grind
/-- Ahead of a round of the product's outer loop. -/
structure MulOut (f g : Nat → Nat) (h : Nat → Nat) (n i N : Nat) : Prop where
  lt : ∀ p, h p < 10000
  zero : ∀ p, N ≤ p → h p = 0
  val : pv h N = pv f i * pv g n
theorem MulOut.begin {f g h : Nat → Nat} {n i N : Nat} (H : MulOut f g h n i N) : MulInv f g h n i 0 0 N := ⟨H.lt, H.zero, by rw [H.val]; show _ + 0 * _ = _ + f i * 0 * _; omega, by omega⟩
theorem MulInv.close {f g h : Nat → Nat} {m i c N : Nat} (H : MulInv f g h m i (m + 1) c N) (hf : ∀ i, f i < 10000) (hg : Dg g m) : MulOut f g h m (i + 1) N := by
  refine ⟨H.lt, H.zero, ?_⟩
  have h1 := H.val
  have h2 : pv g (m + 1) = pv g m := pv_more hg.zero _ (by omega)
  have h3 := pv_lt (i + 1) (fun j _ => hf j)
  have h4 := pv_lt m (fun j _ => hg.lt j)
  rw [h2] at h1
  have h5 : pv f (i + 1) * pv g m = pv f i * pv g m + f i * pv g m * 10000 ^ i := by
    show (pv f i + f i * 10000 ^ i) * pv g m = _
    grind
  rw [← h5] at h1
  have h6 : pv f (i + 1) * pv g m < 10000 ^ (i + 1) * 10000 ^ m := Nat.mul_lt_mul'' h3 h4
  have h7 : 10000 ^ (i + (m + 1)) = 10000 ^ (i + 1) * 10000 ^ m := by rw [← Nat.pow_add]; congr 1; omega
  rw [h7] at h1
  have hc : c = 0 := by
    by_cases hc : c = 0
    · exact hc
    · have : 1 * (10000 ^ (i + 1) * 10000 ^ m) ≤ c * (10000 ^ (i + 1) * 10000 ^ m) := Nat.mul_le_mul_right _ (by omega)
      omega
  rw [hc] at h1
  omega
theorem sgn_mul {X Y : Int} {s t : Bool} (hs : decide (X < 0) = s) (ht : decide (Y < 0) = t) : sgn (s != t) (X.natAbs * Y.natAbs) = X * Y := by
  have h1 : X = if s then -(X.natAbs : Int) else X.natAbs := by
    cases s
    · have := of_decide_eq_false hs; simp; omega
    · have := of_decide_eq_true hs; simp; omega
  have h2 : Y = if t then -(Y.natAbs : Int) else Y.natAbs := by
    cases t
    · have := of_decide_eq_false ht; simp; omega
    · have := of_decide_eq_true ht; simp; omega
  generalize X.natAbs = x at *
  generalize Y.natAbs = y at *
  subst h1 h2
  unfold sgn
  cases s <;> cases t <;> simp [Int.neg_mul, Int.mul_neg]

theorem made_row {w : World} {R n B : Nat} (h : w.ownsRow B 3 1 (.slice (some ⟨R, 0, none⟩) n n) n (madeCells (Value.cells (.int .i64 0)) (n * 1)).toList) : w.heap[R]? = some (.cells (rowA (fun _ => 0) n) 3 (0, 0)) := by
  rcases h.2 with ⟨h1, _⟩ | ⟨g, cap, cur, h1, hb, hg, hnc, hcm, hcs, htk⟩
  · cases h1
  · cases h1
    have e : cur = rowA (fun _ => 0) n := by
      rw [rowA_zero]
      apply Array.toList_inj.1
      rw [← show cur.toList.take (n * 1) = cur.toList from List.take_of_length_le (by simp; omega), htk]
      rfl
    rw [hg, e]

/-- The product's state: both numbers, the result's place, the row of digits. -/
structure MulW (w wr : World) (s t u : Bool) (A B : Option Addr) (n c m d p R N : Nat) (h : Nat → Nat) : Prop where
  k1 : BigBlk wr w.heap.size s (.slice A n c)
  k2 : BigBlk wr (w.heap.size + 1) t (.slice B m d)
  k3 : BigBlk wr (w.heap.size + 1 + 1) false (.slice none 0 0)
  k4 : BigBlk wr p u (.slice (some ⟨R, 0, none⟩) N N)
  row : wr.heap[R]? = some (.cells (rowA h N) 3 (0, 0))
  low : Below w.heap.size w wr
  ne : p ≠ R
  hp : w.heap.size + 3 ≤ p
  hR : w.heap.size + 3 ≤ R
theorem MulW.drewN {w wr : World} {s t u : Bool} {A B : Option Addr} {n c m d p R N : Nat} {h : Nat → Nat} (H : MulW w wr s t u A B n c m d p R N h) (k : Nat) : MulW w (wr.drewN k) s t u A B n c m d p R N h :=
  ⟨H.k1, H.k2, H.k3, H.k4, H.row, below_drewN H.low k, H.ne, H.hp, H.hR⟩
theorem MulW.set {w wr : World} {s t u : Bool} {A B : Option Addr} {n c m d p R N : Nat} {h : Nat → Nat} (H : MulW w wr s t u A B n c m d p R N h) (q x : Nat) (hq : q < N) :
    MulW w (wr.setCell ⟨R, q, none⟩ (.int .i64 (x : Nat))) s t u A B n c m d p R N (upd h q x) :=
  have hp := H.hp
  have hR := H.hR
  ⟨H.k1.oth _ _ (by omega), H.k2.oth _ _ (by omega), H.k3.oth _ _ (by omega), H.k4.oth _ _ H.ne, by rw [← rowA_set h hq x]; exact set_blk H.row q _, H.low.setCell (p := ⟨R, q, none⟩) (by show w.heap.size ≤ R; omega) _, H.ne, H.hp, H.hR⟩

set_option maxRecDepth 100000 in
set_option maxHeartbeats 4000000 in
theorem BMul_any (x y : Value) (X Y : Int) (w : World) (hx : Hid (BigAt w x X)) (hy : Hid (BigAt w y Y)) (bX : X.natAbs < 10000 ^ 40) (bY : Y.natAbs < 10000 ^ 40) :
    Calls Try.prog 87 #[x, y] w fun e w' => (∃ v, e = .returned v ∧ BigAt w' v (X * Y)) ∧ Below w.heap.size w w' := by
  obtain ⟨A, n, c, f, rfl, hc, hv, hd, hn⟩ := hx.out
  obtain ⟨B, m, d, g, rfl, kc, kv, kd, km⟩ := hy.out
  have hn40 := canon_len (k := 40) hc (by rw [hv]; exact bX)
  have hm40 := canon_len (k := 40) kc (by rw [kv]; exact bY)
  obtain ⟨s, hs⟩ : ∃ s, decide (X < 0) = s := ⟨_, rfl⟩
  obtain ⟨t, ht⟩ : ∃ t, decide (Y < 0) = t := ⟨_, rfl⟩
  rw [hs, ht]
  have hval := sgn_mul hs ht
  rw [← hv, ← kv] at hval
  have HVAL := Lib.hid hval
  have Hf : Hid (Dg f n) := hc.toDg
  have Hg : Hid (Dg g m) := kc.toDg
  have HA := Lib.hid hd
  have HB := Lib.hid kd
  have qB := Lib.hid (fun i w' (h : Hid (DigAt w' B m g)) (hi : i ≤ 100) => at_any B m d g i w' h Hg (by omega) (by omega))
  have h1 := ((BigBlk.mk w _ s (.slice A n c) rfl).alloc (.cells #[.bool t, .slice B m d] 118)).alloc (.cells #[.bool false, .slice none 0 0] 118)
  have h2 := (BigBlk.mk (w.alloc (.cells #[.bool s, .slice A n c] 118)) (w.heap.size + 1) t (.slice B m d) (by rw [World.size_alloc])).alloc (.cells #[.bool false, .slice none 0 0] 118)
  have h3 := BigBlk.mk ((w.alloc (.cells #[.bool s, .slice A n c] 118)).alloc (.cells #[.bool t, .slice B m d] 118)) (w.heap.size + 1 + 1) false (.slice none 0 0) (by rw [World.size_alloc, World.size_alloc])
  have hb1 := below_alloc (below_alloc (below_alloc (Below.refl w.heap.size w) (Nat.le_refl _) (.cells #[.bool s, .slice A n c] 118)) (by rw [World.size_alloc]; omega) (.cells #[.bool t, .slice B m d] 118)) (by rw [World.size_alloc, World.size_alloc]; omega) (.cells #[.bool false, .slice none 0 0] 118)
  have hsz : (((w.alloc (.cells #[.bool s, .slice A n c] 118)).alloc (.cells #[.bool t, .slice B m d] 118)).alloc (.cells #[.bool false, .slice none 0 0] 118)).heap.size = w.heap.size + 3 := by rw [World.size_alloc, World.size_alloc, World.size_alloc]
  clear hc kc hv kv hd kd hs ht hx hy bX bY hval
  obtain ⟨u, hu⟩ : ∃ u, (s != t) = u := ⟨_, rfl⟩
  rw [hu] at HVAL
  go_enter Try.func87, Try.ntmps87
  go_wp2_with fail
  generalize ((w.alloc (.cells #[.bool s, .slice A n c] 118)).alloc (.cells #[.bool t, .slice B m d] 118)).alloc (.cells #[.bool false, .slice none 0 0] 118) = w1 at *
  have H1 := Lib.hid h1; have H2 := Lib.hid h2; have H3 := Lib.hid h3; have HB1 := Lib.hid hb1; have HSZ := Lib.hid hsz
  have l1 := h1.lt
  have l2 := h2.lt
  have l3 := h3.lt
  have e0 := h1.c0; have e1 := h1.c1; have e2 := h2.c0; have e3 := h2.c1
  have hnm : ((n : Nat) : Int) + ((m : Nat) : Int) = ((n + m : Nat) : Int) := by omega
  have hnm1 : ((n + m : Nat) : Int) + 1 = ((n + m + 1 : Nat) : Int) := by omega
  obtain ⟨N, hN⟩ : ∃ N, n + m + 1 = N := ⟨_, rfl⟩
  rw [hN] at hnm1
  obtain ⟨N0, hN0⟩ : ∃ N0, n + m = N0 := ⟨_, rfl⟩
  rw [hN0] at hnm hnm1
  have hN81 : N ≤ 81 := by omega
  have hN081 : N0 ≤ 80 := by omega
  have HN := Lib.hid (And.intro hN hN0)
  clear h1 h2 h3 hb1 hsz hN hN0
  refine wp_region_branch [0, 1, 2, 3, 4, 5, 6, 7, 8, 9, 10, 11, 12] 4 #[true, true, true, true, true, true, true, true, true, true, true, true, true, false, false, false, false] (by kernel_rfl) (by kernel_rfl) (by kernel_rfl) (by kernel_rfl) (fun wz => Hid (Below w1.heap.size w1 wz)) (Below.refl _ _).drew ?_
  simp only [opsAt, List.getElem?_toArray, List.getElem?_cons_zero, List.getElem?_cons_succ]
  refine pure_at (.pointer (some ⟨w.heap.size, 0, none⟩)) rfl (fun wz hC => by unfold execOp; go_simp) ?_
  refine pure_at (.bool s) rfl (fun wz hC => by unfold execOp; have := ((Hid.out hC).cell (p := ⟨w.heap.size, 0, none⟩) l1).trans e0; go_simp) ?_
  refine pure_at (.pointer (some ⟨w.heap.size + 1, 0, none⟩)) rfl (fun wz hC => by unfold execOp; go_simp) ?_
  refine pure_at (.bool t) rfl (fun wz hC => by unfold execOp; have := ((Hid.out hC).cell (p := ⟨w.heap.size + 1, 0, none⟩) l2).trans e2; go_simp) ?_
  refine pure_at (.bool u) rfl (fun wz hC => by unfold execOp; go_simp; rw [← hu]; cases s <;> cases t <;> rfl) ?_
  refine pure_at (.pointer (some ⟨w.heap.size, 1, none⟩)) rfl (fun wz hC => by unfold execOp; go_simp) ?_
  refine pure_at (.slice A n c) rfl (fun wz hC => by unfold execOp; have := ((Hid.out hC).cell (p := ⟨w.heap.size, 1, none⟩) l1).trans e1; go_simp) ?_
  refine pure_at (.int .i64 n) rfl (fun wz hC => by unfold execOp; go_simp) ?_
  refine pure_at (.pointer (some ⟨w.heap.size + 1, 1, none⟩)) rfl (fun wz hC => by unfold execOp; go_simp) ?_
  refine pure_at (.slice B m d) rfl (fun wz hC => by unfold execOp; have := ((Hid.out hC).cell (p := ⟨w.heap.size + 1, 1, none⟩) l2).trans e3; go_simp) ?_
  refine pure_at (.int .i64 m) rfl (fun wz hC => by unfold execOp; go_simp) ?_
  refine pure_at (.int .i64 N0) rfl (fun wz hC => by unfold execOp; go_simp; rw [IntKind.wrap_i64]; omega) ?_
  refine pure_at (.int .i64 N) rfl (fun wz hC => by unfold execOp; go_simp; rw [IntKind.wrap_i64]; omega) ?_
  unfold wpPure
  go_simp
  obtain ⟨ti, hti, htz, hts, htb⟩ := el_int.info
  refine wpAnyC_two 13 15 (Li := #[true, true, true, true, true, true, true, true, true, true, true, true, true, true, false, false, false]) (Lj := #[true, true, true, true, true, true, true, true, true, true, true, true, true, false, false, true, false]) (by kernel_rfl) (by kernel_rfl) (by kernel_rfl) rfl rfl rfl rfl ?_ ?_
  · skip
    refine wpList_make_full _ rfl (.tmp 22) (.tmp 22) 116 rfl w1.heap.size 3 ti (.int .i64 0) 1 el_int.und hti htz hts .i64 .i64 N N N rfl rfl rfl rfl (by rw [htb]; omega) (by unfold maxLen; omega) (Nat.le_refl _) ?_
    intro w2 hown hgr
    go_wp2_with fail
    rw [StepQ_normal]
    have hrow := made_row hown
    clear hown
    have hc2 : Hid (Below w1.heap.size w1 w2) := ⟨hgr.os, hgr.tape, hgr.output, hgr.size, fun k hk => hgr.block k hk (by simp)⟩
    clear hgr
    refine ⟨hc2, ?_⟩
    refine pure_all (by kernel_rfl) hc2 2 [14] _ _ (by kernel_rfl) ?_ (fun a' h => h)
    simp only [opsAt, List.getElem?_toArray, List.getElem?_cons_zero, List.getElem?_cons_succ]
    refine pure_at (.agg #[.bool u, .slice (some ⟨w1.heap.size, 0, none⟩) N N]) rfl (fun wz _ => by unfold execOp; go_simp) ?_
    unfold wpPure
    go_simp
    refine wpAnyC_one 15 (L' := #[true, true, true, true, true, true, true, true, true, true, true, true, true, true, true, true, false]) (by kernel_rfl) (by kernel_rfl) rfl rfl ?_
    go_wp2_with fail
    rw [StepQ_normal]
    have hc3 : Below w1.heap.size w1 (w2.alloc (.cells #[.bool false, .slice none 0 0] 118)) := below_alloc hc2.out hc2.out.size _
    refine ⟨hc3, ?_⟩
    refine wpAnyC_one 16 (L' := #[true, true, true, true, true, true, true, true, true, true, true, true, true, true, true, true, true]) (by kernel_rfl) (by kernel_rfl) rfl rfl ?_
    go_wp2_with fail
    rw [StepQ_normal]
    refine ⟨below_alloc hc2.out hc2.out.size _, ?_⟩
    refine ⟨by kernel_rfl, ?_⟩
    rw [OnlyN_normal]
    have hlt2 : w1.heap.size < w2.heap.size := (Array.getElem?_eq_some_iff.1 hrow).1
    have hsz := HSZ.out
    obtain ⟨p, hp⟩ : ∃ p, w2.heap.size = p := ⟨_, rfl⟩
    obtain ⟨R, hR⟩ : ∃ R, w1.heap.size = R := ⟨_, rfl⟩
    have hMW : MulW w (w2.alloc (.cells #[.bool u, .slice (some ⟨R, 0, none⟩) N N] 118)) s t u A B n c m d p R N (fun _ => 0) :=
      ⟨(H1.out.below hc2.out l1).alloc _, (H2.out.below hc2.out l2).alloc _, (H3.out.below hc2.out l3).alloc _, BigBlk.mk w2 p u _ hp, blk_old (by rw [← hR]; exact hrow) _,
       HB1.out.trans ((below_alloc hc2.out hc2.out.size _).mono HB1.out.size), by omega, by omega, by omega⟩
    rw [hp, hR]
    have HMW := Lib.hid hMW
    clear H1 H2 H3 HB1 HSZ l1 l2 l3 e0 e1 e2 e3 hc2 hc3 hp hR hsz hlt2 hnm hnm1 hti htz hts htb
    generalize w2.alloc (.cells #[.bool u, .slice (some ⟨R, 0, none⟩) N N] 118) = wS at *
    have HLT := Lib.hid hMW.low.size
    clear hrow
    go_wp2_with fail
    go_loopw [6, 7, 8, 9] (fun s6 s7 s8 s9 wr => ∃ (i : Nat) (h : Nat → Nat), s6 = .int .i64 (i : Int) ∧ i ≤ n ∧ Hid (MulOut f g h m i N) ∧ Hid (MulW w wr s t u A B n c m d p R N h)) (fun s6 _ _ _ _ => 100 - (intOf s6).toNat)
    case atStart => exact ⟨0, fun _ => 0, rfl, Nat.zero_le _, ⟨fun _ => by omega, fun _ _ => rfl, by rw [pv_more (f := fun _ => 0) (n := 0) (fun _ _ => rfl) N (Nat.zero_le _)]; show 0 = 0 * _; omega⟩, HMW.out⟩
    case round =>
      clear HMW HLT hMW
      obtain ⟨i, h, rfl, hi, HO, HW⟩ := hrel
      have e0 := HW.out.k1.c1
      have e1 := HW.out.k2.c1
      by_cases hin : i < n
      · have hin' : (i : Int) < n := by omega
        go_wp2_with fail
        go_loopw [7, 8, 9] (fun s7 s8 s9 wr => ∃ (j k : Nat) (h : Nat → Nat), s7 = .int .i64 (k : Int) ∧ s8 = .int .i64 (j : Int) ∧ j ≤ m + 1 ∧ Hid (MulInv f g h m i j k N) ∧ Hid (MulW w wr s t u A B n c m d p R N h)) (fun _ s8 _ _ => 100 - (intOf s8).toNat)
        case atStart => exact ⟨0, 0, h, rfl, rfl, Nat.zero_le _, HO.out.begin, HW.out⟩
        case round =>
          clear HO HW e0 e1 h
          obtain ⟨j, k, h, rfl, rfl, hj, HI, HW⟩ := hrel
          have e0 := HW.out.k1.c1
          have e1 := HW.out.k2.c1
          have e2 := HW.out.k4.c1
          by_cases hjm : j ≤ m
          · have hjm' : (j : Int) ≤ m := by omega
            have hn3 := HN.out
            obtain ⟨b, ob, rfl, hblt, hbc⟩ := (HA.out.call HW.out.low) i hin
            have q2 := Lib.hid (fun x => qB.out j (wr.drewN x) (Lib.hid (HB.out.call (below_drewN HW.out.low x))) (by omega))
            have a1 := Hf.out.lt i
            have b1 := Hg.out.lt j
            have c1 := HI.out.lt (i + j)
            have hk1 := HI.out.one
            have hst := Lib.hid (HI.out.step a1 b1 (by omega))
            have hrq := cells_of_blk HW.out.row (i + j) _ (rowA_get h (show i + j < N by omega))
            have hrz := free_of_blk HW.out.row (i + j)
            have hqN : i + j < N := by omega
            obtain ⟨q, hq⟩ : ∃ q, i + j = q := ⟨_, rfl⟩
            rw [hq] at c1 hst hrq hrz hqN
            have hij : (i : Int) + (j : Int) = (q : Int) := by omega
            obtain ⟨hv, hhv⟩ : ∃ x, h q = x := ⟨_, rfl⟩
            obtain ⟨a, ha⟩ : ∃ x, f i = x := ⟨_, rfl⟩
            obtain ⟨bb, hbb⟩ : ∃ x, g j = x := ⟨_, rfl⟩
            rw [hhv] at c1 hst hrq
            rw [ha] at a1 hst hbc
            rw [hbb] at b1 hst q2
            have hpb : a * bb ≤ 9999 * 9999 := Nat.mul_le_mul (by omega) (by omega)
            obtain ⟨pp, hpp⟩ : ∃ x, a * bb = x := ⟨_, rfl⟩
            rw [hpp] at hst hpb
            have hppi : (a : Int) * (bb : Int) = (pp : Int) := by rw [← hpp]; simp
            obtain ⟨mm, hmm⟩ : ∃ x, (hv + pp + k) % 10000 = x := ⟨_, rfl⟩
            obtain ⟨kk, hkk⟩ : ∃ x, (hv + pp + k) / 10000 = x := ⟨_, rfl⟩
            rw [hmm, hkk] at hst
            have t2 : ((hv : Int) + (pp : Int) + (k : Int)).tmod 10000 = (mm : Int) := by rw [Int.tmod_eq_emod_of_nonneg (by omega)]; omega
            have t3 : ((hv : Int) + (pp : Int) + (k : Int)).tdiv 10000 = (kk : Int) := by rw [Int.tdiv_eq_ediv_of_nonneg (by omega)]; omega
            have hmm1 : mm < 10000 := by omega
            have hkk1 : kk ≤ 100000 := by omega
            have hqN' : (q : Int) < N := by omega
            clear hq hhv ha hbb hpp hmm hkk HI hn3
            go_wp2_with fail
            go_quiet ((go_at_call 132; with_reducible exact quiet_same1 (q2.out _)))
            have HW2 := Lib.hid (HW.out.drewN nq)
            clear HW e0 e1 e2 hrq hrz q2
            generalize wr.drewN nq = wq at *
            clear hblt hbc
            clear wr
            have e0 := HW2.out.k4.c1
            have e2 := HW2.out.row
            have e3 := cells_of_blk HW2.out.row q _ (rowA_get h hqN)
            have e4 := free_of_blk HW2.out.row q
            clear e2
            go_wp2_with fail
            go_roundw
            case rel => exact ⟨j + 1, kk, _, rfl, by go_num, by omega, hst.out, HW2.out.set q mm hqN⟩
            case measure => simp [intOf]; omega
          · have hjm' : ¬ ((j : Int) ≤ m) := by omega
            have hj2 : j = m + 1 := by omega
            have HO2 : Hid (MulOut f g h m (i + 1) N) := by have := HI.out; rw [hj2] at this; exact this.close Hf.out.lt Hg.out
            clear hj2 HI
            go_wp2_with fail
            go_roundw
            case rel => exact ⟨i + 1, h, by go_num, by omega, HO2.out, HW.out⟩
            case measure => simp [intOf]; omega
      · have hin' : ¬ ((i : Int) < n) := by omega
        have e2 := HW.out.k4.c0
        have e3 := HW.out.k4.c1
        have hvl : pv h N = pv f n * pv g m := by rw [HO.out.val, show i = n by omega]
        have hD4 : Hid (DigAt wr (some ⟨R, 0, none⟩) N h) := fun x hx => ⟨R, 0, rfl, (Array.getElem?_eq_some_iff.1 HW.out.row).1, by rw [Nat.zero_add]; exact cells_of_blk HW.out.row x _ (rowA_get h hx)⟩
        have qT := trim_any u (some ⟨R, 0, none⟩) N N h wr hD4 ⟨HO.out.lt, HO.out.zero⟩ (by omega) (Nat.le_refl _)
        rw [hvl, HVAL.out] at qT
        have QT := Lib.hid qT
        clear qT hvl
        go_wp2_with fail
        with_reducible refine QT.out.mono ?_
        rintro e w5 ⟨⟨v5, rfl, hv5⟩, hb5⟩
        obtain ⟨t5, A5, n5, c5, rfl⟩ := hv5.form
        have H5 := Lib.hid (HW.out.k3.call hb5)
        have HV5 := Lib.hid hv5
        have HB5 := Lib.hid (HW.out.low.trans (hb5.mono HW.out.low.size))
        have d0 := H5.out.c0
        have d1 := H5.out.c1
        have f0 := H5.out.z 0
        have f1 := H5.out.z 1
        clear hv5 hb5 HW e0 e1 e2 e3
        go_wp2_with fail
        refine bodyPost_ret (v := .agg #[.bool t5, .slice A5 n5 c5]) ?_ rfl ⟨⟨_, rfl, ?_⟩, ?_⟩
        · simp [results, Try.results87, go_sem, d0, d1]
        · exact HV5.out.store H5.out
        · exact (HB5.out.setCell (by show w.heap.size ≤ w.heap.size + 1 + 1; omega) _).setCell (by show w.heap.size ≤ w.heap.size + 1 + 1; omega) _
  · skip
    go_wp2_with fail
    rw [StepQ_normal]
    have hc2 : Hid (Below w1.heap.size w1 (w1.alloc (.cells #[.bool false, .slice none 0 0] 118)).drew) := (below_alloc (Below.refl _ _) (Nat.le_refl _) _).drew
    refine ⟨hc2, ?_⟩
    have hp5 : Hid (BigBlk (w1.alloc (.cells #[.bool false, .slice none 0 0] 118)).drew w1.heap.size false (.slice none 0 0)) := BigBlk.mk w1 _ _ _ rfl
    have hs5 : (w1.alloc (.cells #[.bool false, .slice none 0 0] 118)).drew.heap.size = w1.heap.size + 1 := World.size_alloc _ _
    generalize (w1.alloc (.cells #[.bool false, .slice none 0 0] 118)).drew = wA at *
    have HS5 := Lib.hid hs5
    clear hs5
    refine wpAnyC_one 13 (L' := #[true, true, true, true, true, true, true, true, true, true, true, true, true, true, false, true, false]) (by kernel_rfl) (by kernel_rfl) rfl rfl ?_
    refine wpList_make_full _ rfl (.tmp 22) (.tmp 22) 116 rfl wA.heap.size 3 ti (.int .i64 0) 1 el_int.und hti htz hts .i64 .i64 N N N rfl rfl rfl rfl (by rw [htb]; omega) (by unfold maxLen; omega) (Nat.le_refl _) ?_
    intro w2 hown hgr
    go_wp2_with fail
    rw [StepQ_normal]
    have hrow := made_row hown
    clear hown
    have hc3 : Hid (Below w1.heap.size w1 w2) := hc2.out.trans (Below.mono ⟨hgr.os, hgr.tape, hgr.output, hgr.size, fun k hk => hgr.block k hk (by simp)⟩ hc2.out.size)
    have hp6 : Hid (BigBlk w2 w1.heap.size false (.slice none 0 0)) := (hgr.block _ hp5.out.lt (by simp)).trans hp5.out
    have hz6 := Lib.hid hgr.size
    clear hgr hc2 hp5
    refine ⟨hc3, ?_⟩
    refine pure_all (by kernel_rfl) hc3 1 [14] _ _ (by kernel_rfl) ?_ (fun a' h => h)
    simp only [opsAt, List.getElem?_toArray, List.getElem?_cons_zero, List.getElem?_cons_succ]
    refine pure_at (.agg #[.bool u, .slice (some ⟨wA.heap.size, 0, none⟩) N N]) rfl (fun wz _ => by unfold execOp; go_simp) ?_
    unfold wpPure
    go_simp
    have g0 := hp6.out.c0
    have g1 := hp6.out.c1
    have g2 := hp6.out.z 0
    have g3 := hp6.out.z 1
    refine wpAnyC_one 16 (L' := #[true, true, true, true, true, true, true, true, true, true, true, true, true, true, true, true, true]) (by kernel_rfl) (by kernel_rfl) rfl rfl ?_
    go_wp2_with fail
    rw [StepQ_normal]
    have hc4 : Below w1.heap.size w1 ((w2.setCell ⟨w1.heap.size, 0, none⟩ (.bool u)).setCell ⟨w1.heap.size, 1, none⟩ (.slice (some ⟨wA.heap.size, 0, none⟩) N N)) := (hc3.out.setCell (Nat.le_refl _) _).setCell (Nat.le_refl _) _
    refine ⟨hc4, ?_⟩
    refine ⟨by kernel_rfl, ?_⟩
    rw [OnlyN_normal]
    have hsz := HSZ.out
    have hs5 := HS5.out
    obtain ⟨p, hp⟩ : ∃ p, w1.heap.size = p := ⟨_, rfl⟩
    obtain ⟨R, hR⟩ : ∃ R, wA.heap.size = R := ⟨_, rfl⟩
    rw [hR] at hc4
    have hMW : MulW w ((w2.setCell ⟨p, 0, none⟩ (.bool u)).setCell ⟨p, 1, none⟩ (.slice (some ⟨R, 0, none⟩) N N)) s t u A B n c m d p R N (fun _ => 0) :=
      ⟨((H1.out.below hc3.out l1).oth _ _ (by omega)).oth _ _ (by omega), ((H2.out.below hc3.out l2).oth _ _ (by omega)).oth _ _ (by omega), ((H3.out.below hc3.out l3).oth _ _ (by omega)).oth _ _ (by omega),
       by rw [← hp]; exact (hp6.out.set0 u).set1 _, set_oth (set_oth (by rw [← hR]; exact hrow) _ _ (by omega)) _ _ (by omega), by rw [hp] at hc4; exact HB1.out.trans (hc4.mono (by have := HB1.out.size; omega)), by omega, by omega, by omega⟩
    rw [hp, hR]
    have HMW := Lib.hid hMW
    clear H1 H2 H3 HB1 HSZ l1 l2 l3 e0 e1 e2 e3 hc3 hc4 hp6 hz6 g0 g1 g2 g3 HS5 hp hR hsz hs5 hnm hnm1 hti htz hts htb
    generalize (w2.setCell ⟨p, 0, none⟩ (.bool u)).setCell ⟨p, 1, none⟩ (.slice (some ⟨R, 0, none⟩) N N) = wS at *
    have HLT := Lib.hid hMW.low.size
    clear hrow
    go_wp2_with fail
    go_loopw [6, 7, 8, 9] (fun s6 s7 s8 s9 wr => ∃ (i : Nat) (h : Nat → Nat), s6 = .int .i64 (i : Int) ∧ i ≤ n ∧ Hid (MulOut f g h m i N) ∧ Hid (MulW w wr s t u A B n c m d p R N h)) (fun s6 _ _ _ _ => 100 - (intOf s6).toNat)
    case atStart => exact ⟨0, fun _ => 0, rfl, Nat.zero_le _, ⟨fun _ => by omega, fun _ _ => rfl, by rw [pv_more (f := fun _ => 0) (n := 0) (fun _ _ => rfl) N (Nat.zero_le _)]; show 0 = 0 * _; omega⟩, HMW.out⟩
    case round =>
      clear HMW HLT hMW
      obtain ⟨i, h, rfl, hi, HO, HW⟩ := hrel
      have e0 := HW.out.k1.c1
      have e1 := HW.out.k2.c1
      by_cases hin : i < n
      · have hin' : (i : Int) < n := by omega
        go_wp2_with fail
        go_loopw [7, 8, 9] (fun s7 s8 s9 wr => ∃ (j k : Nat) (h : Nat → Nat), s7 = .int .i64 (k : Int) ∧ s8 = .int .i64 (j : Int) ∧ j ≤ m + 1 ∧ Hid (MulInv f g h m i j k N) ∧ Hid (MulW w wr s t u A B n c m d p R N h)) (fun _ s8 _ _ => 100 - (intOf s8).toNat)
        case atStart => exact ⟨0, 0, h, rfl, rfl, Nat.zero_le _, HO.out.begin, HW.out⟩
        case round =>
          clear HO HW e0 e1 h
          obtain ⟨j, k, h, rfl, rfl, hj, HI, HW⟩ := hrel
          have e0 := HW.out.k1.c1
          have e1 := HW.out.k2.c1
          have e2 := HW.out.k4.c1
          by_cases hjm : j ≤ m
          · have hjm' : (j : Int) ≤ m := by omega
            have hn3 := HN.out
            obtain ⟨b, ob, rfl, hblt, hbc⟩ := (HA.out.call HW.out.low) i hin
            have q2 := Lib.hid (fun x => qB.out j (wr.drewN x) (Lib.hid (HB.out.call (below_drewN HW.out.low x))) (by omega))
            have a1 := Hf.out.lt i
            have b1 := Hg.out.lt j
            have c1 := HI.out.lt (i + j)
            have hk1 := HI.out.one
            have hst := Lib.hid (HI.out.step a1 b1 (by omega))
            have hrq := cells_of_blk HW.out.row (i + j) _ (rowA_get h (show i + j < N by omega))
            have hrz := free_of_blk HW.out.row (i + j)
            have hqN : i + j < N := by omega
            obtain ⟨q, hq⟩ : ∃ q, i + j = q := ⟨_, rfl⟩
            rw [hq] at c1 hst hrq hrz hqN
            have hij : (i : Int) + (j : Int) = (q : Int) := by omega
            obtain ⟨hv, hhv⟩ : ∃ x, h q = x := ⟨_, rfl⟩
            obtain ⟨a, ha⟩ : ∃ x, f i = x := ⟨_, rfl⟩
            obtain ⟨bb, hbb⟩ : ∃ x, g j = x := ⟨_, rfl⟩
            rw [hhv] at c1 hst hrq
            rw [ha] at a1 hst hbc
            rw [hbb] at b1 hst q2
            have hpb : a * bb ≤ 9999 * 9999 := Nat.mul_le_mul (by omega) (by omega)
            obtain ⟨pp, hpp⟩ : ∃ x, a * bb = x := ⟨_, rfl⟩
            rw [hpp] at hst hpb
            have hppi : (a : Int) * (bb : Int) = (pp : Int) := by rw [← hpp]; simp
            obtain ⟨mm, hmm⟩ : ∃ x, (hv + pp + k) % 10000 = x := ⟨_, rfl⟩
            obtain ⟨kk, hkk⟩ : ∃ x, (hv + pp + k) / 10000 = x := ⟨_, rfl⟩
            rw [hmm, hkk] at hst
            have t2 : ((hv : Int) + (pp : Int) + (k : Int)).tmod 10000 = (mm : Int) := by rw [Int.tmod_eq_emod_of_nonneg (by omega)]; omega
            have t3 : ((hv : Int) + (pp : Int) + (k : Int)).tdiv 10000 = (kk : Int) := by rw [Int.tdiv_eq_ediv_of_nonneg (by omega)]; omega
            have hmm1 : mm < 10000 := by omega
            have hkk1 : kk ≤ 100000 := by omega
            have hqN' : (q : Int) < N := by omega
            clear hq hhv ha hbb hpp hmm hkk HI hn3
            go_wp2_with fail
            go_quiet ((go_at_call 132; with_reducible exact quiet_same1 (q2.out _)))
            have HW2 := Lib.hid (HW.out.drewN nq)
            clear HW e0 e1 e2 hrq hrz q2
            generalize wr.drewN nq = wq at *
            clear hblt hbc
            clear wr
            have e0 := HW2.out.k4.c1
            have e2 := HW2.out.row
            have e3 := cells_of_blk HW2.out.row q _ (rowA_get h hqN)
            have e4 := free_of_blk HW2.out.row q
            clear e2
            go_wp2_with fail
            go_roundw
            case rel => exact ⟨j + 1, kk, _, rfl, by go_num, by omega, hst.out, HW2.out.set q mm hqN⟩
            case measure => simp [intOf]; omega
          · have hjm' : ¬ ((j : Int) ≤ m) := by omega
            have hj2 : j = m + 1 := by omega
            have HO2 : Hid (MulOut f g h m (i + 1) N) := by have := HI.out; rw [hj2] at this; exact this.close Hf.out.lt Hg.out
            clear hj2 HI
            go_wp2_with fail
            go_roundw
            case rel => exact ⟨i + 1, h, by go_num, by omega, HO2.out, HW.out⟩
            case measure => simp [intOf]; omega
      · have hin' : ¬ ((i : Int) < n) := by omega
        have e2 := HW.out.k4.c0
        have e3 := HW.out.k4.c1
        have hvl : pv h N = pv f n * pv g m := by rw [HO.out.val, show i = n by omega]
        have hD4 : Hid (DigAt wr (some ⟨R, 0, none⟩) N h) := fun x hx => ⟨R, 0, rfl, (Array.getElem?_eq_some_iff.1 HW.out.row).1, by rw [Nat.zero_add]; exact cells_of_blk HW.out.row x _ (rowA_get h hx)⟩
        have qT := trim_any u (some ⟨R, 0, none⟩) N N h wr hD4 ⟨HO.out.lt, HO.out.zero⟩ (by omega) (Nat.le_refl _)
        rw [hvl, HVAL.out] at qT
        have QT := Lib.hid qT
        clear qT hvl
        go_wp2_with fail
        with_reducible refine QT.out.mono ?_
        rintro e w5 ⟨⟨v5, rfl, hv5⟩, hb5⟩
        obtain ⟨t5, A5, n5, c5, rfl⟩ := hv5.form
        have H5 := Lib.hid (HW.out.k3.call hb5)
        have HV5 := Lib.hid hv5
        have HB5 := Lib.hid (HW.out.low.trans (hb5.mono HW.out.low.size))
        have d0 := H5.out.c0
        have d1 := H5.out.c1
        have f0 := H5.out.z 0
        have f1 := H5.out.z 1
        clear hv5 hb5 HW e0 e1 e2 e3
        go_wp2_with fail
        refine bodyPost_ret (v := .agg #[.bool t5, .slice A5 n5 c5]) ?_ rfl ⟨⟨_, rfl, ?_⟩, ?_⟩
        · simp [results, Try.results87, go_sem, d0, d1]
        · exact HV5.out.store H5.out
        · exact (HB5.out.setCell (by show w.heap.size ≤ w.heap.size + 1 + 1; omega) _).setCell (by show w.heap.size ≤ w.heap.size + 1 + 1; omega) _
end Go.Proofs.Ytfkfpppiikgjbaa
