/- The head: Get. -/
import Derived.Test.YtaigngdlioplaaaDoorHeadI
import Derived.Test.YtaigngdlioplaaaDoorRegP
import Derived.Test.YtaigngdlioplaaaDoorCutR
namespace Go.Proofs.YtaigngdlioplaaaDoor
open Go Go.RowKit

/-- The head's cells behind k numbers. -/
def partH (s : ByteArray) (k : Nat) : Array Value := #[.int .i64 (if 0 < k then vH s 0 else 0), .int .i64 (if 1 < k then vH s 1 else 0), .int .i64 (if 2 < k then vH s 2 else 0), .int .i64 (if 3 < k then vH s 3 else 0), .string ⟨#[]⟩, .string ⟨#[]⟩]
theorem partH_set (s : ByteArray) (k : Nat) (h : k < 4) : (partH s k).setIfInBounds k (.int .i64 (vH s k)) = partH s (k + 1) := by
  match k, h with
  | 0, _ => rfl
  | 1, _ => rfl
  | 2, _ => rfl
  | 3, _ => rfl
theorem partH_zero (s : ByteArray) : partH s 0 = zeroH.cells := rfl
theorem partH_all (s : ByteArray) : partH s 4 = #[.int .i64 (vH s 0), .int .i64 (vH s 1), .int .i64 (vH s 2), .int .i64 (vH s 3), .string ⟨#[]⟩, .string ⟨#[]⟩] := rfl
/-- The fields' places, and how great each may be. -/
def tblH (B : Nat) : Array Value := #[.pointer (some ⟨B, 0, none⟩), .int .u64 1099511627776, .pointer (some ⟨B, 1, none⟩), .int .u64 1099511627776, .pointer (some ⟨B, 2, none⟩), .int .u64 64, .pointer (some ⟨B, 3, none⟩), .int .u64 1099511627776]
theorem tblH_get (B k : Nat) (h : k < 4) : (tblH B)[k * 2]? = some (.pointer (some ⟨B, k, none⟩)) ∧ (tblH B)[k * 2 + 1]? = some (.int .u64 (mostH k : Nat)) := by
  match k, h with
  | 0, _ => exact ⟨rfl, rfl⟩
  | 1, _ => exact ⟨rfl, rfl⟩
  | 2, _ => exact ⟨rfl, rfl⟩
  | 3, _ => exact ⟨rfl, rfl⟩
theorem rFail3 (f : Int) : ¬ rFail f 3 = 0 := by
  unfold rFail
  split
  · decide
  · assumption
/-- Where Get stands. -/
structure GetAt (w wr : World) (s : ByteArray) (cs : Array Value) (p : Nat) (f : Int) : Prop where
  low : Below w.heap.size w wr
  res : wr.heap[w.heap.size]? = some (.cells zeroH.cells 23 (0, 0))
  hd : wr.heap[w.heap.size + 1]? = some (.cells cs 23 (0, 0))
  rd : Rdr wr (w.heap.size + 1 + 1) s p f
theorem GetAt.lt {w wr : World} {s : ByteArray} {cs : Array Value} {p : Nat} {f : Int} (h : GetAt w wr s cs p f) : w.heap.size + 1 + 1 < wr.heap.size := h.rd.lt
theorem GetAt.ext {w wr wx : World} {s : ByteArray} {cs : Array Value} {p : Nat} {f : Int} (h : GetAt w wr s cs p f) (hb : Below wr.heap.size wr wx) : GetAt w wx s cs p f :=
  ⟨h.low.trans (hb.mono h.low.size), blk_call h.res hb, blk_call h.hd hb, h.rd.rest hb⟩
theorem GetAt.read {w wr wx : World} {s : ByteArray} {cs : Array Value} {p : Nat} {f : Int} (h : GetAt w wr s cs p f) (hg : wr.grownBy wx (some (w.heap.size + 1 + 1))) {p' : Nat} {f' : Int} (hr : Rdr wx (w.heap.size + 1 + 1) s p' f') : GetAt w wx s cs p' f' := by
  have hl := h.lt
  refine ⟨h.low.grown hg h.low.size (fun k hk => by injection hk with hk; omega), ?_, ?_, hr⟩
  · exact (hg.block _ (by omega) (fun hk => by injection hk with hk; omega)).trans h.res
  · exact (hg.block _ (by omega) (fun hk => by injection hk with hk; omega)).trans h.hd
theorem GetAt.set {w wr : World} {s : ByteArray} {cs : Array Value} {p : Nat} {f : Int} (h : GetAt w wr s cs p f) (i : Nat) (v : Value) : GetAt w (wr.setCell ⟨w.heap.size + 1, i, none⟩ v) s (cs.setIfInBounds i v) p f :=
  ⟨h.low.setCell (p := ⟨w.heap.size + 1, i, none⟩) (show w.heap.size ≤ w.heap.size + 1 by omega) v, set_oth h.res i v (by omega), set_blk h.hd i v, set_oth h.rd i v (by omega)⟩
theorem GetAt.drewN {w wr : World} {s : ByteArray} {cs : Array Value} {p : Nat} {f : Int} (h : GetAt w wr s cs p f) (n : Nat) : GetAt w (wr.drewN n) s cs p f :=
  ⟨below_drewN h.low n, h.res, h.hd, h.rd⟩

set_option maxRecDepth 100000 in
theorem HGet_bad (s : ByteArray) (n : Int) (w : World) (hb : ¬ (1 ≤ n ∧ n ≤ 32)) :
    Calls Tryd.prog 16 #[.string s, .int .i64 n] w fun e w' => e = .returned (.tuple #[.agg zeroH.cells, .int .i64 1]) ∧ Below w.heap.size w w' := by
  have q := Lib.hid (fun w => hdigest_any n w)
  rw [show decide (1 ≤ n ∧ n ≤ 32) = false by simpa using hb] at q
  have HB : Hid (∀ o, Below w.heap.size w (w.alloc o)) := fun o => below_alloc (Below.refl _ _) (Nat.le_refl _) o
  clear hb
  go_enter Tryd.func16, Tryd.ntmps16
  go_wp2_with fail
  refine (q.out _).mono ?_
  rintro e w2 ⟨rfl, rfl⟩
  go_wp2_with fail
  refine bodyPost_ret (v := .tuple #[.agg zeroH.cells, .int .i64 1]) ?_ rfl ⟨rfl, ?_⟩
  · rw [results_cell_tmp rfl]; go_simp; rfl
  · exact HB.out _

set_option maxRecDepth 100000 in
set_option maxHeartbeats 1000000 in
theorem HGet_any (s : ByteArray) (n : Int) (w : World) (hs : Hid (s.size ≤ 1099511627776)) (hn : Hid (1 ≤ n ∧ n ≤ 32)) :
    Calls Tryd.prog 16 #[.string s, .int .i64 n] w fun e w' => e = .returned (.tuple #[.agg (getH s n).cells, .int .i64 (errH s n)]) ∧ Below w.heap.size w w' := by
  have qd := Lib.hid (fun w => hdigest_any n w)
  rw [show decide (1 ≤ n ∧ n ≤ 32) = true by simpa using hn.out] at qd
  have qN : Hid (∀ (k : Nat) wz, Hid (Rdr wz (w.heap.size + 1 + 1) s (gH s k).1 (gH s k).2) → Calls Tryd.prog 61 #[.pointer (some ⟨w.heap.size + 1 + 1, 0, none⟩), .int .u64 (mostH k : Nat)] wz fun e w' => e = .returned (.int .u64 (vH s k)) ∧ Rdr w' (w.heap.size + 1 + 1) s (gH s (k + 1)).1 (gH s (k + 1)).2 ∧ wz.grownBy w' (some (w.heap.size + 1 + 1))) :=
    fun k wz h => RNum_nat (w.heap.size + 1 + 1) s (gH s k).1 (gH s k).2 (mostH k) wz h hs (gH_le s k)
  have hnI : Hid (I64 n) := by have := hn.out; show _ ∧ _; omega
  have qP : Hid (∀ wz, Hid (Rdr wz (w.heap.size + 1 + 1) s (gH s 4).1 (gH s 4).2) → Calls Tryd.prog 62 #[.pointer (some ⟨w.heap.size + 1 + 1, 0, none⟩), .int .i64 n] wz fun e w' => e = .returned (.string (rowP s n).1) ∧ Rdr w' (w.heap.size + 1 + 1) s (rowP s n).2.1 (rowP s n).2.2 ∧ wz.grownBy w' (some (w.heap.size + 1 + 1))) :=
    fun wz h => RRow_nat (w.heap.size + 1 + 1) s (gH s 4).1 (gH s 4).2 n hnI wz h hs (gH_le s 4)
  have qQ : Hid (∀ wz, Hid (Rdr wz (w.heap.size + 1 + 1) s (rowP s n).2.1 (rowP s n).2.2) → Calls Tryd.prog 62 #[.pointer (some ⟨w.heap.size + 1 + 1, 0, none⟩), .int .i64 n] wz fun e w' => e = .returned (.string (rowR s n).1) ∧ Rdr w' (w.heap.size + 1 + 1) s (rowR s n).2.1 (rowR s n).2.2 ∧ wz.grownBy w' (some (w.heap.size + 1 + 1))) :=
    fun wz h => RRow_nat (w.heap.size + 1 + 1) s (rowP s n).2.1 (rowP s n).2.2 n hnI wz h hs (rowP_le s n)
  have qLf := Lib.hid (fun wz h => RLeft_any (w.heap.size + 1 + 1) s (rowR s n).2.1 (rowR s n).2.2 wz h hs (rowR_le s n))
  have qFl := Lib.hid (fun wz h => RFail_any (w.heap.size + 1 + 1) s (rowR s n).2.1 (rowR s n).2.2 3 wz h)
  have qFt := Lib.hid (fun (f : Int) wz h => RFault_any (w.heap.size + 1 + 1) s (rowR s n).2.1 f wz h)
  have qM := Lib.hid (fun wz => May_any (gotH s n) n wz hn)
  have hvv := Lib.hid (fun k => vH_val s k)
  have hps := Lib.hid (fun k h => partH_set s k h)
  have hpa := Lib.hid (partH_all s)
  have hgc : Hid ((gotH s n).cells = #[.int .i64 (vH s 0), .int .i64 (vH s 1), .int .i64 (vH s 2), .int .i64 (vH s 3), .string (rowP s n).1, .string (rowR s n).1]) := rfl
  have hple := rowR_le s n
  have hE1 : Hid (0 < (s.size : Int) - (rowR s n).2.1 → errH s n = rFail (rowR s n).2.2 3 ∧ getH s n = zeroH) := fun h => by
    have h1 : errH s n = rFail (rowR s n).2.2 3 := by unfold errH; rw [if_pos (Or.inl h)]
    exact ⟨h1, by unfold getH; rw [if_neg (by rw [h1]; exact rFail3 _)]⟩
  have hE2 : Hid (mayB (gotH s n) n = false → errH s n = rFail (rowR s n).2.2 3 ∧ getH s n = zeroH) := fun h => by
    have h1 : errH s n = rFail (rowR s n).2.2 3 := by unfold errH; rw [if_pos (Or.inr h)]
    exact ⟨h1, by unfold getH; rw [if_neg (by rw [h1]; exact rFail3 _)]⟩
  have hE3 : Hid (¬ 0 < (s.size : Int) - (rowR s n).2.1 → mayB (gotH s n) n = true → errH s n = (rowR s n).2.2 ∧ getH s n = if (rowR s n).2.2 = 0 then gotH s n else zeroH) := fun h1 h2 => by
    have h3 : errH s n = (rowR s n).2.2 := by unfold errH; rw [if_neg (by rw [h2]; simp; omega)]
    exact ⟨h3, by unfold getH; rw [h3]⟩
  have qR := Lib.hid (fun w => Read_any s w)
  have hn2 := hn.out
  have hs2 := hs.out
  have Z0 := Lib.hid (show (((w.alloc (.cells zeroH.cells 23)).alloc (.cells zeroH.cells 23))).heap.size = w.heap.size + 1 + 1 by simp)
  go_enter Tryd.func16, Tryd.ntmps16
  go_wp2_with fail
  refine (qd.out _).mono ?_
  rintro e w1 ⟨rfl, rfl⟩
  go_wp2_with fail
  refine (qR.out _).mono ?_
  rintro e w2 ⟨rfl, hrd, hbl, hsz⟩
  have hsz' : w2.heap.size = w.heap.size + 1 + 1 + 1 := by rw [hsz]; simp
  have R0 : w2.heap[w.heap.size]? = some (.cells zeroH.cells 23 (0, 0)) := (hbl.block _ (by simp; omega)).trans (blk_old (blk_new _ _ _ rfl) _)
  have R1 : w2.heap[w.heap.size + 1]? = some (.cells (partH s 0) 23 (0, 0)) := (hbl.block _ (by simp)).trans (blk_new _ _ _ (by simp))
  have R2 : Rdr w2 (w.heap.size + 1 + 1) s 0 0 := by have h9 := hrd; simp at h9; exact h9
  have RL : Below w.heap.size w w2 := below_to (below_alloc (below_alloc (Below.refl _ _) (Nat.le_refl _) _) (by simp) _) hbl
  have HRDL := Lib.hid RL
  have HR0 := Lib.hid R0
  have HR1 := Lib.hid R1
  have HR2 := Lib.hid R2
  clear hrd hbl hsz R0 R1 R2 RL
  go_wp2_with fail
  generalize hw3 : World.alloc w2 _ = w3
  obtain ⟨tt, HT3⟩ : ∃ tt, Hid (w3.heap[w2.heap.size]? = some (.cells (tblH (w.heap.size + 1)) tt (0, 0))) := ⟨_, by rw [← hw3]; exact blk_new _ _ _ rfl⟩
  have L23 : Below w2.heap.size w2 w3 := by rw [← hw3]; exact below_alloc (Below.refl _ _) (Nat.le_refl _) _
  have G3 : Hid (GetAt w w3 s (partH s 0) (gH s 0).1 (gH s 0).2) := (GetAt.mk HRDL.out HR0.out HR1.out HR2.out).ext L23
  rw [hsz'] at HT3
  clear hw3 hsz' L23
  go_loopw [27] (fun iv wr => ∃ k : Nat, iv = .int .i64 k ∧ Hid (k ≤ 4) ∧ Hid (GetAt w wr s (partH s k) (gH s k).1 (gH s k).2) ∧ Hid (wr.heap[w.heap.size + 1 + 1 + 1]? = some (.cells (tblH (w.heap.size + 1)) tt (0, 0)))) (fun iv _ => 4 - (intOf iv).toNat)
  case atStart => exact ⟨0, rfl, Nat.zero_le _, G3, HT3⟩
  case round =>
    clear G3 HT3
    obtain ⟨k, rfl, hk, HG, HT⟩ := hrel
    have hk2 := hk.out
    by_cases hlt : k < 4
    · obtain ⟨t1, t2⟩ := tblH_get (w.heap.size + 1) k hlt
      have d1 : wr.cell? ⟨w.heap.size + 1 + 1 + 1, k * 2, none⟩ = some (.pointer (some ⟨w.heap.size + 1, k, none⟩)) := cells_of_blk HT.out _ _ t1
      have d2 : wr.cell? ⟨w.heap.size + 1 + 1 + 1, k * 2 + 1, none⟩ = some (.int .u64 (mostH k : Nat)) := cells_of_blk HT.out _ _ t2
      have qn := Lib.hid (fun wz h => qN.out k wz h)
      have hv1 := (hvv.out k).1
      have hv2 := (hvv.out k).2
      have hps2 := Lib.hid (hps.out k hlt)
      have hlw := HG.out.lt
      clear qN t1 t2 hvv hps
      generalize hMo : mostH k = mo at *
      generalize vH s k = v at *
      go_wp2_with fail
      generalize hw4 : World.alloc wr _ = w4
      obtain ⟨tf, hF4⟩ : ∃ tf, w4.heap[wr.heap.size]? = some (.cells #[.pointer (some ⟨w.heap.size + 1, k, none⟩), .int .u64 (mo : Nat)] tf (0, 0)) := ⟨_, by rw [← hw4]; exact blk_new _ _ _ rfl⟩
      have L4 : Below wr.heap.size wr w4 := by rw [← hw4]; exact below_alloc (Below.refl _ _) (Nat.le_refl _) _
      have G4 := Lib.hid (HG.out.ext L4)
      have HT4 := Lib.hid (blk_call HT.out L4)
      obtain ⟨bf, hbf⟩ : ∃ bf, wr.heap.size = bf := ⟨_, rfl⟩
      rw [hbf] at hF4 hlw ⊢
      have hF := Lib.hid hF4
      clear hw4 L4 hbf hF4 HG HT d1 d2
      refine wp_region_pure [0, 1, 2, 3, 4] [5, 6, 7, 8] (by kernel_rfl) (by kernel_rfl) (fun w' => w'.heap[bf]? = some (.cells #[.pointer (some ⟨w.heap.size + 1, k, none⟩), .int .u64 (mo : Nat)] tf (0, 0))) hF.out ?_
      simp only [opsAt, List.getElem?_toArray, List.getElem?_cons_zero, List.getElem?_cons_succ]
      refine pure_at (.pointer (some ⟨bf, 0, none⟩)) rfl (fun wz _ => by unfold execOp; go_simp) ?_
      refine pure_at (.pointer (some ⟨w.heap.size + 1, k, none⟩)) rfl (fun wz hC => by have c0 := cells_of_blk hC 0 _ rfl; unfold execOp; go_simp) ?_
      refine pure_move rfl rfl ?_
      refine pure_at (.pointer (some ⟨bf, 1, none⟩)) rfl (fun wz _ => by unfold execOp; go_simp) ?_
      refine pure_at (.int .u64 (mo : Nat)) rfl (fun wz hC => by have c0 := cells_of_blk hC 1 _ rfl; unfold execOp; go_simp) ?_
      unfold wpPure
      go_simp
      refine wpListC_cons rfl ?_
      go_wp2_with fail
      refine (qn.out _ (Lib.hid ((G4.out.drewN 1).rd))).mono ?_
      rintro e w6 ⟨rfl, hr6, hg6⟩
      have G6 := Lib.hid ((G4.out.drewN 1).read hg6 hr6)
      have lT := (Array.getElem?_eq_some_iff.1 HT4.out).1
      have lF := (Array.getElem?_eq_some_iff.1 hF.out).1
      have HT6 := Lib.hid ((hg6.block _ lT (fun hk => by injection hk with hk; omega)).trans HT4.out)
      have hF6 := Lib.hid ((hg6.block _ lF (fun hk => by injection hk with hk; omega)).trans hF.out)
      have hq : ∃ q, (partH s k)[k]? = some q := by
        match k, hlt with
        | 0, _ => exact ⟨_, rfl⟩
        | 1, _ => exact ⟨_, rfl⟩
        | 2, _ => exact ⟨_, rfl⟩
        | 3, _ => exact ⟨_, rfl⟩
      obtain ⟨q, hq⟩ := hq
      have e1 := cells_of_blk G6.out.hd k q hq
      have e2 := free_of_blk G6.out.hd k
      clear hr6 hg6 G4 HT4 hF hq qn
      go_wp2_with fail
      rw [StepQ_normal]
      refine ⟨hF6.out, ?_⟩
      refine wpListC_cons rfl ?_
      go_wp2_with fail
      rw [StepQ_normal]
      refine ⟨hF6.out, ?_⟩
      refine wpListC_cons rfl ?_
      go_wp2_with fail
      rw [StepQ_normal]
      refine ⟨hF6.out, ?_⟩
      refine wpListC_cons rfl ?_
      go_wp2_with fail
      rw [StepQ_normal]
      refine ⟨set_oth hF6.out _ _ (by omega), ?_⟩
      unfold wpListC
      rw [OnlyN_normal]
      go_wp2_with fail
      go_roundw
      case rel => exact ⟨k + 1, by go_num, by show _ ≤ _; omega, by rw [← hps2.out]; exact G6.out.set k _, (set_oth HT6.out _ _ (by omega))⟩
      case measure => simp [intOf]; omega
    · obtain rfl : k = 4 := by omega
      clear hk hps hvv qN hlt
      rw [hpa.out] at HG
      clear hpa HT
      go_wp2_with fail
      refine (qP.out _ (Lib.hid HG.out.rd)).mono ?_
      rintro e w4 ⟨rfl, hr4, hg4⟩
      have G4 := Lib.hid (HG.out.read hg4 hr4)
      have c4 := cells_of_blk G4.out.hd 4 _ rfl
      have f4 := free_of_blk G4.out.hd 4
      clear hr4 hg4 HG qP
      go_wp2_with fail
      have G5 := Lib.hid (G4.out.set 4 (.string (rowP s n).1))
      refine (qQ.out _ (Lib.hid G5.out.rd)).mono ?_
      rintro e w5 ⟨rfl, hr5, hg5⟩
      have G6 := Lib.hid (G5.out.read hg5 hr5)
      have c5 := cells_of_blk G6.out.hd 5 _ rfl
      have f5 := free_of_blk G6.out.hd 5
      clear hr5 hg5 G5 G4 c4 f4 qQ
      go_wp2_with fail
      have G7 : Hid (GetAt w (w5.setCell ⟨w.heap.size + 1, 5, none⟩ (.string (rowR s n).1)) s (gotH s n).cells (rowR s n).2.1 (rowR s n).2.2) := Lib.hid (G6.out.set 5 (.string (rowR s n).1))
      generalize w5.setCell ⟨w.heap.size + 1, 5, none⟩ (.string (rowR s n).1) = w6 at *
      clear c5 f5 G6
      refine (qLf.out _ (Lib.hid G7.out.rd)).mono ?_
      rintro e w7 ⟨rfl, d, rfl⟩
      have G8 := Lib.hid (G7.out.drewN d)
      generalize World.drewN w6 d = w7 at *
      clear G7 qLf
      generalize hPP : (rowR s n).2.1 = PP at *
      obtain ⟨FF, hFF⟩ : ∃ FF, (rowR s n).2.2 = FF := ⟨_, rfl⟩
      by_cases hleft : 0 < (s.size : Int) - PP
      · have HR := Lib.hid (hE1.out hleft)
        clear hE1 hE2 hE3 qM hFF
        have GA := G8
        clear G8
        go_wp2_with fail
        refine (qFl.out _ (Lib.hid GA.out.rd)).mono ?_
        rintro e w8 ⟨rfl, hr8, hg8⟩
        have GB := Lib.hid (GA.out.read hg8 hr8)
        clear hr8 hg8
        go_wp2_with fail
        refine (qFt.out _ _ (Lib.hid GB.out.rd)).mono ?_
        rintro e w9 ⟨rfl, rfl⟩
        have hne := rFail3 (rowR s n).2.2
        have GX := GB
        clear GA GB qFl qFt
        have k0 := cells_of_blk GX.out.res 0 _ rfl
        have k1 := cells_of_blk GX.out.res 1 _ rfl
        have k2 := cells_of_blk GX.out.res 2 _ rfl
        have k3 := cells_of_blk GX.out.res 3 _ rfl
        have k4 := cells_of_blk GX.out.res 4 _ rfl
        have k5 := cells_of_blk GX.out.res 5 _ rfl
        have z0 := free_of_blk GX.out.res 0
        have z1 := free_of_blk GX.out.res 1
        have z2 := free_of_blk GX.out.res 2
        have z3 := free_of_blk GX.out.res 3
        have z4 := free_of_blk GX.out.res 4
        have z5 := free_of_blk GX.out.res 5
        generalize hEE : rFail (rowR s n).2.2 3 = EE at *
        go_wp2_with fail
        refine bodyPost_ret (v := .tuple #[.agg zeroH.cells, .int .i64 EE]) ?_ rfl ⟨by rw [HR.out.1, HR.out.2], ?_⟩
        · rw [results_cell_tmp rfl]; go_simp; rfl
        · refine Below.setCell (Below.setCell (Below.setCell (Below.setCell (Below.setCell (Below.setCell GX.out.low ?_ _) ?_ _) ?_ _) ?_ _) ?_ _) ?_ _
          all_goals exact Nat.le_refl _
      · have g0 := cells_of_blk G8.out.hd 0 _ rfl
        have g1 := cells_of_blk G8.out.hd 1 _ rfl
        have g2 := cells_of_blk G8.out.hd 2 _ rfl
        have g3 := cells_of_blk G8.out.hd 3 _ rfl
        have g4 := cells_of_blk G8.out.hd 4 _ rfl
        have g5 := cells_of_blk G8.out.hd 5 _ rfl
        obtain ⟨MB, hMB⟩ : ∃ MB, mayB (gotH s n) n = MB := ⟨_, rfl⟩
        rw [hMB] at qM hE2 hE3
        clear hMB hE1
        cases MB with
        | false =>
          have HR := Lib.hid (hE2.out rfl)
          clear hE2 hE3 hFF
          go_wp2_with fail
          refine (qM.out _).mono ?_
          rintro e w8' ⟨rfl, hb8⟩
          have GA := Lib.hid (G8.out.ext hb8)
          clear hb8 G8 qM g0 g1 g2 g3 g4 g5
          go_wp2_with fail
          refine (qFl.out _ (Lib.hid GA.out.rd)).mono ?_
          rintro e w8 ⟨rfl, hr8, hg8⟩
          have GB := Lib.hid (GA.out.read hg8 hr8)
          clear hr8 hg8
          go_wp2_with fail
          refine (qFt.out _ _ (Lib.hid GB.out.rd)).mono ?_
          rintro e w9 ⟨rfl, rfl⟩
          have hne := rFail3 (rowR s n).2.2
          have GX := GB
          clear GA GB qFl qFt
          have k0 := cells_of_blk GX.out.res 0 _ rfl
          have k1 := cells_of_blk GX.out.res 1 _ rfl
          have k2 := cells_of_blk GX.out.res 2 _ rfl
          have k3 := cells_of_blk GX.out.res 3 _ rfl
          have k4 := cells_of_blk GX.out.res 4 _ rfl
          have k5 := cells_of_blk GX.out.res 5 _ rfl
          have z0 := free_of_blk GX.out.res 0
          have z1 := free_of_blk GX.out.res 1
          have z2 := free_of_blk GX.out.res 2
          have z3 := free_of_blk GX.out.res 3
          have z4 := free_of_blk GX.out.res 4
          have z5 := free_of_blk GX.out.res 5
          generalize hEE : rFail (rowR s n).2.2 3 = EE at *
          go_wp2_with fail
          refine bodyPost_ret (v := .tuple #[.agg zeroH.cells, .int .i64 EE]) ?_ rfl ⟨by rw [HR.out.1, HR.out.2], ?_⟩
          · rw [results_cell_tmp rfl]; go_simp; rfl
          · refine Below.setCell (Below.setCell (Below.setCell (Below.setCell (Below.setCell (Below.setCell GX.out.low ?_ _) ?_ _) ?_ _) ?_ _) ?_ _) ?_ _
            all_goals exact Nat.le_refl _
        | true =>
          have HR := Lib.hid (hE3.out (by omega) rfl)
          rw [hFF] at HR G8
          clear hE2 hE3 hFF
          go_wp2_with fail
          refine (qM.out _).mono ?_
          rintro e w8' ⟨rfl, hb8⟩
          have GX := Lib.hid (G8.out.ext hb8)
          clear hb8 G8 qM g0 g1 g2 g3 g4 g5
          go_wp2_with fail
          refine (qFt.out _ _ (Lib.hid GX.out.rd)).mono ?_
          rintro e w9 ⟨rfl, rfl⟩
          have k0 := cells_of_blk GX.out.res 0 _ rfl
          have k1 := cells_of_blk GX.out.res 1 _ rfl
          have k2 := cells_of_blk GX.out.res 2 _ rfl
          have k3 := cells_of_blk GX.out.res 3 _ rfl
          have k4 := cells_of_blk GX.out.res 4 _ rfl
          have k5 := cells_of_blk GX.out.res 5 _ rfl
          have z0 := free_of_blk GX.out.res 0
          have z1 := free_of_blk GX.out.res 1
          have z2 := free_of_blk GX.out.res 2
          have z3 := free_of_blk GX.out.res 3
          have z4 := free_of_blk GX.out.res 4
          have z5 := free_of_blk GX.out.res 5
          by_cases hF0 : FF = 0
          · subst hF0
            have HV := Lib.hid HR.out.2
            rw [if_pos rfl] at HV
            have hd' := GX.out.hd
            rw [hgc.out] at hd'
            have g0 := cells_of_blk hd' 0 _ rfl
            have g1 := cells_of_blk hd' 1 _ rfl
            have g2 := cells_of_blk hd' 2 _ rfl
            have g3 := cells_of_blk hd' 3 _ rfl
            have g4 := cells_of_blk hd' 4 _ rfl
            have g5 := cells_of_blk hd' 5 _ rfl
            clear hd'
            go_wp2_with fail
            refine bodyPost_ret (v := .tuple #[.agg (gotH s n).cells, .int .i64 0]) ?_ rfl ⟨by rw [HR.out.1, HV.out], ?_⟩
            · rw [results_cell_tmp rfl]; go_simp; rfl
            · refine Below.setCell (Below.setCell (Below.setCell (Below.setCell (Below.setCell (Below.setCell GX.out.low ?_ _) ?_ _) ?_ _) ?_ _) ?_ _) ?_ _
              all_goals exact Nat.le_refl _
          · have HV := Lib.hid HR.out.2
            rw [if_neg hF0] at HV
            go_wp2_with fail
            refine bodyPost_ret (v := .tuple #[.agg zeroH.cells, .int .i64 FF]) ?_ rfl ⟨by rw [HR.out.1, HV.out], ?_⟩
            · rw [results_cell_tmp rfl]; go_simp; rfl
            · refine Below.setCell (Below.setCell (Below.setCell (Below.setCell (Below.setCell (Below.setCell GX.out.low ?_ _) ?_ _) ?_ _) ?_ _) ?_ _) ?_ _
              all_goals exact Nat.le_refl _
end Go.Proofs.YtaigngdlioplaaaDoor
