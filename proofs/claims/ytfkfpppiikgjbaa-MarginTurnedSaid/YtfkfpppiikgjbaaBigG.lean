/- The reference's numbers: UpBy a hundred. -/
import Derived.Test.YtfkfpppiikgjbaaBigF
namespace Go.Proofs.Ytfkfpppiikgjbaa
open Go Go.RowKit Bg
set_option linter.unusedVariables false

/-- Behind the digits from k on: their quotient Q lies in the row, r is over. -/
structure UpInv (f h : Nat → Nat) (n k Q r : Nat) : Prop where
  lt : ∀ p, h p < 10000
  lo : ∀ p, p < k → h p = 0
  hi : ∀ p, n ≤ p → h p = 0
  val : pv h n = Q * 10000 ^ k
  all : pv f n = pv f k + (100 * Q + r) * 10000 ^ k
  rest : r < 100
theorem UpInv.step {f h : Nat → Nat} {n j Q r : Nat} (H : UpInv f h n (j + 1) Q r) (hf : f j < 10000) (hj : j < n) :
    UpInv f (upd h j ((r * 10000 + f j) / 100)) n j (Q * 10000 + (r * 10000 + f j) / 100) ((r * 10000 + f j) % 100) := by
  have h0 := H.rest
  refine ⟨fun p => ?_, fun p hp => ?_, fun p hp => ?_, ?_, ?_, by omega⟩
  · unfold upd; split
    · omega
    · exact H.lt p
  · unfold upd; rw [if_neg (by omega)]; exact H.lo p (by omega)
  · unfold upd; rw [if_neg (by omega)]; exact H.hi p hp
  · have h1 := pv_upd h j ((r * 10000 + f j) / 100) n hj
    have h2 := H.val
    rw [H.lo j (by omega)] at h1
    rw [Nat.pow_succ] at h2
    generalize (r * 10000 + f j) / 100 = d at *
    generalize pv (upd h j d) n = v1 at *
    generalize pv h n = v0 at *
    generalize 10000 ^ j = q at *
    grind
  · have h1 := H.all
    have h2 := Nat.div_add_mod (r * 10000 + f j) 100
    rw [Nat.pow_succ] at h1
    rw [h1]
    show pv f j + f j * 10000 ^ j + _ = _
    generalize (r * 10000 + f j) / 100 = d at *
    generalize (r * 10000 + f j) % 100 = e at *
    generalize pv f j = v at *
    generalize f j = a at *
    generalize 10000 ^ j = q at *
    have h3 : (100 * d + e) * q = (r * 10000 + a) * q := by rw [h2]
    grind

structure UpW (w wr : World) (A : Option Addr) (n c p : Nat) (h : Nat → Nat) : Prop where
  k1 : BigBlk wr w.heap.size false (.slice A n c)
  k3 : BigBlk wr (w.heap.size + 1) false (.slice none 0 0)
  k4 : BigBlk wr p false (.slice (some ⟨w.heap.size + 2, 0, none⟩) n n)
  row : wr.heap[w.heap.size + 2]? = some (.cells (rowA h n) 3 (0, 0))
  low : Below w.heap.size w wr
  hp : w.heap.size + 3 ≤ p
theorem UpW.ext {w wr : World} {A : Option Addr} {n c p : Nat} {h : Nat → Nat} (H : UpW w wr A n c p h) {w' : World} (hb : Below wr.heap.size wr w') : UpW w w' A n c p h :=
  ⟨H.k1.call hb, H.k3.call hb, H.k4.call hb, blk_call H.row hb, H.low.trans (hb.mono H.low.size), H.hp⟩
theorem UpW.set {w wr : World} {A : Option Addr} {n c p : Nat} {h : Nat → Nat} (H : UpW w wr A n c p h) (q x : Nat) (hq : q < n) :
    UpW w (wr.setCell ⟨w.heap.size + 2, q, none⟩ (.int .i64 (x : Nat))) A n c p (upd h q x) :=
  have hp := H.hp
  ⟨H.k1.oth _ _ (by omega), H.k3.oth _ _ (by omega), H.k4.oth _ _ (by omega), by rw [← rowA_set h hq x]; exact set_blk H.row q _, H.low.setCell (p := ⟨w.heap.size + 2, q, none⟩) (by show w.heap.size ≤ w.heap.size + 2; omega) _, H.hp⟩

/-- A hundredth, rounded up. -/
def up100 (X : Int) : Int := (X + 99) / 100

set_option maxRecDepth 100000 in
set_option maxHeartbeats 4000000 in
theorem UpBy_any (x : Value) (X : Int) (w : World) (hx : Hid (BigAt w x X)) (bX : X.natAbs < 10000 ^ 39) (h0 : 0 ≤ X) :
    Calls Try.prog 86 #[x, .int .i64 100] w fun e w' => (∃ v, e = .returned v ∧ BigAt w' v (up100 X)) ∧ Below w.heap.size w w' := by
  obtain ⟨A, n, c, f, rfl, hc, hv, hd, hn⟩ := hx.out
  have hn40 := canon_len (k := 39) hc (by rw [hv]; exact bX)
  rw [decide_eq_false (show ¬ X < 0 by omega)]
  have Hf : Hid (Dg f n) := hc.toDg
  have HA := Lib.hid hd
  have HV := Lib.hid hv
  have h1 := (BigBlk.mk w _ false (.slice A n c) rfl).alloc (.cells #[.bool false, .slice none 0 0] 118)
  have h3 := BigBlk.mk (w.alloc (.cells #[.bool false, .slice A n c] 118)) (w.heap.size + 1) false (.slice none 0 0) (by rw [World.size_alloc])
  have hb1 := below_alloc (below_alloc (Below.refl w.heap.size w) (Nat.le_refl _) (.cells #[.bool false, .slice A n c] 118)) (by rw [World.size_alloc]; omega) (.cells #[.bool false, .slice none 0 0] 118)
  have hsz : ((w.alloc (.cells #[.bool false, .slice A n c] 118)).alloc (.cells #[.bool false, .slice none 0 0] 118)).heap.size = w.heap.size + 2 := by rw [World.size_alloc, World.size_alloc]
  clear hc hv hd hx
  obtain ⟨ti, hti, htz, hts, htb⟩ := el_int.info
  go_enter Try.func86, Try.ntmps86
  go_wp2_with (at_make; refine wpList_make_full _ rfl (.tmp 10) (.tmp 10) 116 rfl 0 3 ti (.int .i64 0) 1 el_int.und hti htz hts .i64 .i64 n n n rfl rfl rfl rfl (by rw [htb]; omega) (by unfold maxLen; omega) (Nat.zero_le _) ?_; intro w2 hown hgr; refine Hid.out ?_)
  refine Lib.hid ?_
  generalize (w.alloc (.cells #[.bool false, .slice A n c] 118)).alloc (.cells #[.bool false, .slice none 0 0] 118) = w1 at *
  rw [hsz] at hown
  have hrow := made_row hown
  have hlt := (Array.getElem?_eq_some_iff.1 hrow).1
  have hb2 : Below w1.heap.size w1 w2 := ⟨hgr.os, hgr.tape, hgr.output, hgr.size, fun k hk => hgr.block k hk (by simp)⟩
  obtain ⟨p, hp⟩ : ∃ p, w2.heap.size = p := ⟨_, rfl⟩
  have hUW : UpW w (w2.alloc (.cells #[.bool false, .slice (some ⟨w.heap.size + 2, 0, none⟩) n n] 118)) A n c p (fun _ => 0) :=
    ⟨(h1.call hb2).alloc _, (h3.call hb2).alloc _, BigBlk.mk w2 p false _ hp, blk_old hrow _, hb1.trans ((below_alloc hb2 hb2.size _).mono hb1.size), by omega⟩
  have HUW := Lib.hid hUW
  clear hown hgr h1 h3 hb1 hsz hb2 hrow hUW hti htz hts htb
  have e0 := HUW.out.k1.c1
  go_wp2_with fail
  clear hp hlt e0
  generalize w2.alloc (.cells #[.bool false, .slice (some ⟨w.heap.size + 2, 0, none⟩) n n] 118) = wS at *
  go_loopw [6, 7] (fun s6 s7 wr => ∃ (k Q r : Nat) (h : Nat → Nat), s6 = .int .i64 (r : Int) ∧ s7 = .int .i64 ((k : Int) - 1) ∧ k ≤ n ∧ Hid (UpInv f h n k Q r) ∧ Hid (UpW w wr A n c p h)) (fun _ s7 _ => (intOf s7 + 1).toNat)
  case atStart => exact ⟨n, 0, 0, fun _ => 0, rfl, rfl, Nat.le_refl _, ⟨fun _ => by omega, fun _ _ => rfl, fun _ _ => rfl, by rw [pv_more (f := fun _ => 0) (n := 0) (fun _ _ => rfl) n (Nat.zero_le _), Nat.zero_mul]; rfl, by simp, by omega⟩, HUW.out⟩
  case round =>
    clear HUW
    obtain ⟨k, Q, r, h, rfl, rfl, hk, HI, HW⟩ := hrel
    have e0 := HW.out.k1.c1
    have e1 := HW.out.k4.c1
    by_cases hk0 : k = 0
    · subst hk0
      have hvl : pv h n = Q := by have := HI.out.val; omega
      have hal : pv f n = 100 * Q + r := by have h1 := HI.out.all; have h2 : pv f 0 = 0 := rfl; omega
      have hr := HI.out.rest
      have hX : X = ((100 * Q + r : Nat) : Int) := by have := HV.out; omega
      have hD4 : Hid (DigAt wr (some ⟨w.heap.size + 2, 0, none⟩) n h) := fun x hx => ⟨w.heap.size + 2, 0, rfl, (Array.getElem?_eq_some_iff.1 HW.out.row).1, by rw [Nat.zero_add]; exact cells_of_blk HW.out.row x _ (rowA_get h hx)⟩
      have qT := trim_any false (some ⟨w.heap.size + 2, 0, none⟩) n n h wr hD4 ⟨HI.out.lt, HI.out.hi⟩ (by omega) (Nat.le_refl _)
      rw [hvl] at qT
      have QT := Lib.hid qT
      have e2 := HW.out.k4.c0
      have HXQ := Lib.hid hX
      clear qT hvl hal hX HI
      go_wp2_with fail
      with_reducible refine QT.out.mono ?_
      rintro e w5 ⟨⟨v5, rfl, hv5⟩, hb5⟩
      obtain ⟨t5, A5, n5, c5, rfl⟩ := hv5.form
      have H5 := Lib.hid (HW.out.ext hb5)
      have HV5 := Lib.hid hv5
      have d0 := H5.out.k4.c0
      have d1 := H5.out.k4.c1
      have f0 := H5.out.k4.z 0
      have f1 := H5.out.k4.z 1
      clear hv5 hb5 HW e0 e1 e2 QT hD4
      have hp3 := H5.out.hp
      have hplt := H5.out.k4.lt
      have K3 := Lib.hid ((H5.out.k3.oth (q := p) 0 (.bool t5) (by omega)).oth (q := p) 1 (.slice A5 n5 c5) (by omega))
      have K4 := Lib.hid ((H5.out.k4.set0 t5).set1 (.slice A5 n5 c5))
      have KB := Lib.hid ((H5.out.low.setCell (p := ⟨p, 0, none⟩) (by show w.heap.size ≤ p; omega) (.bool t5)).setCell (p := ⟨p, 1, none⟩) (by show w.heap.size ≤ p; omega) (.slice A5 n5 c5))
      have KV := Lib.hid (HV5.out.store H5.out.k4)
      by_cases hr0 : r = 0
      · have hr0' : ¬ (0 < (r : Int)) := by omega
        have hup : up100 X = sgn false Q := by unfold up100 sgn; rw [HXQ.out]; simp; omega
        have HUP := Lib.hid hup
        have g0 := H5.out.k3.c0
        have g1 := H5.out.k3.c1
        have g2 := H5.out.k3.z 0
        have g3 := H5.out.k3.z 1
        have hne1 : ¬ p = w.heap.size + 1 := by omega
        have hne2 : ¬ w.heap.size + 1 = p := by omega
        have hlt1 := H5.out.k3.lt
        clear hup hr0
        go_wp2_with fail
        refine bodyPost_ret (v := .agg #[.bool t5, .slice A5 n5 c5]) ?_ rfl ⟨⟨_, rfl, ?_⟩, ?_⟩
        · have d0 := K3.out.c0
          have d1 := K3.out.c1
          simp [results, Try.results86, go_sem, d0, d1]
        · rw [HUP.out]; exact KV.out.store K3.out
        · exact (KB.out.setCell (Nat.le_succ _) _).setCell (Nat.le_succ _) _
      · have hr0' : 0 < (r : Int) := by omega
        have hup : up100 X = sgn false Q + 1 := by unfold up100 sgn; rw [HXQ.out]; simp; omega
        have HUP := Lib.hid hup
        have qO := Lib.hid (fun w => Of_any 1 (by unfold I64; omega) w)
        have hone : (1 : Int).natAbs < 10000 ^ 40 := by decide
        have hQb : (sgn false Q).natAbs < 10000 ^ 40 := by
          have h1 := HXQ.out
          have h2 : (sgn false Q).natAbs ≤ X.natAbs := by unfold sgn; simp; omega
          have h3 : (10000 : Nat) ^ 39 ≤ 10000 ^ 40 := Nat.pow_le_pow_right (by decide) (by decide)
          omega
        have hne1 : ¬ p = w.heap.size + 1 := by omega
        have hne2 : ¬ w.heap.size + 1 = p := by omega
        go_wp2_with fail
        generalize (w5.setCell ⟨p, 0, none⟩ (.bool t5)).setCell ⟨p, 1, none⟩ (.slice A5 n5 c5) = w6 at *
        clear d0 d1 f0 f1 H5 HV5 hplt hup
        have e0 := K4.out.c0
        have e1 := K4.out.c1
        refine wp_region_branch [] 4 #[false, false, false, false] (by kernel_rfl) (by kernel_rfl) (by kernel_rfl) (by kernel_rfl) (fun _ => True) trivial ?_
        unfold opsAt wpPure
        refine wpAnyC_two 0 1 (Li := #[true, false, false, false]) (Lj := #[false, true, false, false]) (by kernel_rfl) (by kernel_rfl) (by kernel_rfl) rfl rfl rfl rfl ?_ ?_
        · go_wp2_with fail
          rw [StepQ_normal]
          refine ⟨trivial, ?_⟩
          refine wpAnyC_one 1 (L' := #[true, true, false, false]) (by kernel_rfl) (by kernel_rfl) rfl rfl ?_
          go_wp2_with fail
          with_reducible refine (qO.out _).mono ?_
          rintro e w8 ⟨⟨v8, rfl, hv8⟩, hb8⟩
          obtain ⟨t8, A8, n8, c8, rfl⟩ := hv8.form
          have HO := Lib.hid hv8
          replace hb8 : Below w6.heap.size w6 w8 := (Below.refl w6.heap.size w6).drew.trans hb8
          have I3 := Lib.hid (K3.out.call hb8)
          have I4 := Lib.hid (K4.out.call hb8)
          have IB := Lib.hid (KB.out.trans (hb8.mono KB.out.size))
          have IV := Lib.hid (KV.out.call hb8)
          clear hv8 hb8
          go_wp2_with fail
          rw [StepQ_normal]
          refine ⟨trivial, ?_⟩
          refine wpAnyC_one 2 (L' := #[true, true, true, false]) (by kernel_rfl) (by kernel_rfl) rfl rfl ?_
          go_wp2_with fail
          with_reducible refine (BAdd_any _ _ _ _ _ IV HO hQb hone).mono ?_
          rintro e w9 ⟨⟨v9, rfl, hv9⟩, hb9⟩
          obtain ⟨t9, A9, n9, c9, rfl⟩ := hv9.form
          have HV9 := Lib.hid hv9
          have J3 := Lib.hid (I3.out.call hb9)
          have J4 := Lib.hid (I4.out.call hb9)
          have JB := Lib.hid (IB.out.trans (hb9.mono IB.out.size))
          clear hv9 hb9 I3 I4 IB
          go_wp2_with fail
          rw [StepQ_normal]
          refine ⟨trivial, ?_⟩
          refine wpAnyC_one 3 (L' := #[true, true, true, true]) (by kernel_rfl) (by kernel_rfl) rfl rfl ?_
          have u0 := J4.out.c0
          have u1 := J4.out.c1
          have u2 := J4.out.z 0
          have u3 := J4.out.z 1
          go_wp2_with fail
          rw [StepQ_normal]
          refine ⟨trivial, ?_⟩
          refine ⟨by kernel_rfl, ?_⟩
          rw [OnlyN_normal]
          have M3 := Lib.hid ((J3.out.oth (q := p) 0 (.bool t9) (by omega)).oth (q := p) 1 (.slice A9 n9 c9) (by omega))
          have M4 := Lib.hid ((J4.out.set0 t9).set1 (.slice A9 n9 c9))
          have MB := Lib.hid ((JB.out.setCell (p := ⟨p, 0, none⟩) (by show w.heap.size ≤ p; omega) (.bool t9)).setCell (p := ⟨p, 1, none⟩) (by show w.heap.size ≤ p; omega) (.slice A9 n9 c9))
          have MV := Lib.hid (HV9.out.store J4.out)
          clear u0 u1 u2 u3
          have d0 := J3.out.c0
          have d1 := J3.out.c1
          have d2 := J3.out.z 0
          have d3 := J3.out.z 1
          have d4 := J4.out.c0
          have d5 := J4.out.c1
          have hlt9 := J4.out.lt
          have hlt8 := J3.out.lt
          go_wp2_with fail
          refine bodyPost_ret (v := .agg #[.bool t9, .slice A9 n9 c9]) ?_ rfl ⟨⟨_, rfl, ?_⟩, ?_⟩
          · have d0 := M3.out.c0
            have d1 := M3.out.c1
            simp [results, Try.results86, go_sem, d0, d1]
          · rw [HUP.out]; exact MV.out.store M3.out
          · exact (MB.out.setCell (Nat.le_succ _) _).setCell (Nat.le_succ _) _
        · go_wp2_with fail
          with_reducible refine (qO.out _).mono ?_
          rintro e w8 ⟨⟨v8, rfl, hv8⟩, hb8⟩
          obtain ⟨t8, A8, n8, c8, rfl⟩ := hv8.form
          have HO := Lib.hid hv8
          replace hb8 : Below w6.heap.size w6 w8 := (Below.refl w6.heap.size w6).drew.trans hb8
          have I3 := Lib.hid (K3.out.call hb8)
          have I4 := Lib.hid (K4.out.call hb8)
          have IB := Lib.hid (KB.out.trans (hb8.mono KB.out.size))
          have IV := Lib.hid (KV.out.call hb8)
          clear hv8 hb8
          go_wp2_with fail
          rw [StepQ_normal]
          refine ⟨trivial, ?_⟩
          have e2 := I4.out.c0
          have e3 := I4.out.c1
          refine wpAnyC_one 0 (L' := #[true, true, false, false]) (by kernel_rfl) (by kernel_rfl) rfl rfl ?_
          go_wp2_with fail
          rw [StepQ_normal]
          refine ⟨trivial, ?_⟩
          clear e2 e3
          refine wpAnyC_one 2 (L' := #[true, true, true, false]) (by kernel_rfl) (by kernel_rfl) rfl rfl ?_
          go_wp2_with fail
          with_reducible refine (BAdd_any _ _ _ _ _ IV HO hQb hone).mono ?_
          rintro e w9 ⟨⟨v9, rfl, hv9⟩, hb9⟩
          obtain ⟨t9, A9, n9, c9, rfl⟩ := hv9.form
          have HV9 := Lib.hid hv9
          have J3 := Lib.hid (I3.out.call hb9)
          have J4 := Lib.hid (I4.out.call hb9)
          have JB := Lib.hid (IB.out.trans (hb9.mono IB.out.size))
          clear hv9 hb9 I3 I4 IB
          go_wp2_with fail
          rw [StepQ_normal]
          refine ⟨trivial, ?_⟩
          refine wpAnyC_one 3 (L' := #[true, true, true, true]) (by kernel_rfl) (by kernel_rfl) rfl rfl ?_
          have u0 := J4.out.c0
          have u1 := J4.out.c1
          have u2 := J4.out.z 0
          have u3 := J4.out.z 1
          go_wp2_with fail
          rw [StepQ_normal]
          refine ⟨trivial, ?_⟩
          refine ⟨by kernel_rfl, ?_⟩
          rw [OnlyN_normal]
          have M3 := Lib.hid ((J3.out.oth (q := p) 0 (.bool t9) (by omega)).oth (q := p) 1 (.slice A9 n9 c9) (by omega))
          have M4 := Lib.hid ((J4.out.set0 t9).set1 (.slice A9 n9 c9))
          have MB := Lib.hid ((JB.out.setCell (p := ⟨p, 0, none⟩) (by show w.heap.size ≤ p; omega) (.bool t9)).setCell (p := ⟨p, 1, none⟩) (by show w.heap.size ≤ p; omega) (.slice A9 n9 c9))
          have MV := Lib.hid (HV9.out.store J4.out)
          clear u0 u1 u2 u3
          have d0 := J3.out.c0
          have d1 := J3.out.c1
          have d2 := J3.out.z 0
          have d3 := J3.out.z 1
          have d4 := J4.out.c0
          have d5 := J4.out.c1
          have hlt9 := J4.out.lt
          have hlt8 := J3.out.lt
          go_wp2_with fail
          refine bodyPost_ret (v := .agg #[.bool t9, .slice A9 n9 c9]) ?_ rfl ⟨⟨_, rfl, ?_⟩, ?_⟩
          · have d0 := M3.out.c0
            have d1 := M3.out.c1
            simp [results, Try.results86, go_sem, d0, d1]
          · rw [HUP.out]; exact MV.out.store M3.out
          · exact (MB.out.setCell (Nat.le_succ _) _).setCell (Nat.le_succ _) _
    · obtain ⟨j, rfl⟩ : ∃ j, k = j + 1 := ⟨k - 1, by omega⟩
      have ej : ((j + 1 : Nat) : Int) - 1 = (j : Int) := by omega
      rw [ej]
      obtain ⟨b, ob, rfl, hblt, hbc⟩ := (HA.out.call HW.out.low) j (by omega)
      have a1 := Hf.out.lt j
      have hr := HI.out.rest
      have hst := Lib.hid (HI.out.step a1 (by omega))
      obtain ⟨a, ha⟩ : ∃ x, f j = x := ⟨_, rfl⟩
      rw [ha] at a1 hst hbc
      obtain ⟨x, hx⟩ : ∃ x, r * 10000 + a = x := ⟨_, rfl⟩
      have hxi : (r : Int) * 10000 + (a : Int) = (x : Int) := by omega
      rw [hx] at hst
      obtain ⟨dd, hdd⟩ : ∃ y, x / 100 = y := ⟨_, rfl⟩
      obtain ⟨ee, hee⟩ : ∃ y, x % 100 = y := ⟨_, rfl⟩
      have t2 : (x : Int).tdiv 100 = (dd : Int) := by rw [Int.tdiv_eq_ediv_of_nonneg (by omega)]; omega
      have t3 : (x : Int).tmod 100 = (ee : Int) := by rw [Int.tmod_eq_emod_of_nonneg (by omega)]; omega
      have hx1 : x < 1000000 := by omega
      have hd1 : dd < 10000 := by omega
      have he1 : ee < 100 := by omega
      rw [hdd, hee] at hst
      have hjn : (j : Int) < n := by omega
      have hjn' : j < n := by omega
      have hplt := HW.out.k4.lt
      clear ha hx hdd hee HI hk0 ej
      go_wp2_with fail
      refine wp_region_ext_tail 7 (by kernel_rfl) (by kernel_rfl) ?_
      simp only [List.take_succ_cons, List.take_zero, List.drop_succ_cons, List.drop_zero]
      repeat (go_big_quiet_step (fail))
      refine wpQuiet_nil ?_
      rintro w' ⟨y, rfl⟩
      have HW2 := Lib.hid (HW.out.ext y.below)
      generalize y.w = wq at *
      clear y HW e0 e1 hplt hblt hbc
      clear wr
      have e3 := cells_of_blk HW2.out.row j _ (rowA_get h hjn')
      have e4 := free_of_blk HW2.out.row j
      go_wp2_with fail
      go_roundw
      case rel => exact ⟨j, Q * 10000 + dd, ee, _, rfl, rfl, by omega, hst.out, HW2.out.set j dd hjn'⟩
      case measure => simp [intOf]
end Go.Proofs.Ytfkfpppiikgjbaa
