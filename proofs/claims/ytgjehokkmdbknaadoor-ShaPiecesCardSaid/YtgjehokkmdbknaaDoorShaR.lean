/- The walk of ShaEnds. -/
import Derived.Test.YtgjehokkmdbknaaDoorShaQ
import Derived.Laws.OwnMore
namespace Go.Proofs.YtgjehokkmdbknaaDoor
open Go Go.RowKit

/-- A row of bytes, so many set. -/
structure EndAt (w1 wr : World) (g n i : Nat) (b : Int) : Prop where
  low : Below g w1 wr
  blk : ∃ cur, wr.heap[g]? = some (.cells cur 5 (0, 0)) ∧ ∀ j, j < n → cur[j]? = some (.int .u8 (if j < i then b else 0))
theorem EndAt.set {w1 wr : World} {g n i : Nat} {b : Int} (h : EndAt w1 wr g n i b) (hi : i < n) : EndAt w1 (wr.setCell ⟨g, i, none⟩ (.int .u8 b)) g n (i + 1) b := by
  obtain ⟨cur, h1, h2⟩ := h.blk
  refine ⟨Below.setCell h.low (Nat.le_refl _) _, _, set_blk h1 _ _, fun j hj => ?_⟩
  have hc : i < cur.size := (Array.getElem?_eq_some_iff.1 (h2 i hi)).1
  rw [Array.getElem?_setIfInBounds]
  by_cases e : i = j
  · subst e
    rw [if_pos rfl, if_pos hc, if_pos (by omega)]
  · rw [if_neg e, h2 j hj]
    by_cases h3 : j < i
    · rw [if_pos h3, if_pos (by omega)]
    · rw [if_neg h3, if_neg (by omega)]

set_option maxRecDepth 100000 in
set_option maxHeartbeats 4000000 in
theorem ShaEnds_walk (b n : Int) (w : World) (hT : Hid (ShaT w (nth kList) hSt)) (hn : Hid (0 ≤ n ∧ n ≤ 255)) :
    Calls Tryd.prog 5 #[.int .u8 b, .int .u8 n] w fun e w' => e = .returned (.bool true) ∧ Below w.heap.size w w' := by
  have a0 := Lib.hid (alive_any w hT)
  obtain ⟨hn1, hn2⟩ := hn.out
  obtain ⟨m, rfl⟩ := Int.eq_ofNat_of_zero_le hn1
  obtain ⟨B, hB⟩ : ∃ B, strOfNums (List.replicate m b) = B := ⟨_, rfl⟩
  have hBs : B.size = m := by rw [← hB, strOfNums_size, List.length_replicate]
  have q1 := Lib.hid (fun w => rSum_any B w (by show _ ≤ _; omega))
  have q3 := Lib.hid (fun w h => Sum_any (nth kList) hSt B w h (by show _ ≤ _; omega))
  have hsz := sumS_size (nth kList) hSt (bytesL B)
  generalize sumS (nth kList) hSt (bytesL B) = S at *
  generalize nth kList = K at *
  generalize hSt = H at *
  have HB := Lib.hid hB
  obtain ⟨i0, hi0, hz0, hsz0, hbs0⟩ := el_u8.info
  have HI := Lib.hid hi0
  have HZ := Lib.hid hz0
  have HS := Lib.hid hsz0
  have b2 : i0.bytes * m ≤ 281474976710656 := by rw [hbs0]; omega
  have b3 : m ≤ maxLen := by unfold maxLen; omega
  have hm2 : m ≤ 255 := by omega
  clear hi0 hz0 hsz0 hbs0 hn1 hn2 hB
  go_enter Tryd.func5, Tryd.ntmps5
  go_wp2_with fail
  refine a0.out.mono ?_
  rintro e w1 ⟨rfl, hb⟩
  have HB1 := Lib.hid hb
  have hT1 := Lib.hid (hT.out.call hb)
  clear hb
  go_wp2_with (refine wpList_make_full _ rfl _ _ 30 rfl w1.heap.size 5 i0 (.int .u8 0) 1 Tryd.underlying30 HI.out HZ.out HS.out .i64 .i64 _ _ m rfl rfl rfl rfl b2 b3 (Nat.le_refl _) ?_; intro w2 hown2 hg2)
  have HL2 : Hid (Below w1.heap.size w1 w2) := (Below.refl w1.heap.size w1).grown hg2 (Nat.le_refl _) (fun k hk => by cases hk)
  have HE : Hid (EndAt w1 w2 w1.heap.size m 0 b) := by
    refine ⟨HL2.out, ?_⟩
    rcases hown2.2 with ⟨h, _⟩ | ⟨g, cap, cur, hv, _, hg, hnc, _, _, ht⟩
    · cases h
    · obtain ⟨rfl, rfl⟩ : w1.heap.size = g ∧ m = cap := by simpa using hv
      refine ⟨cur, hg, fun j hj => ?_⟩
      have e0 : (madeCells (Value.int .u8 0).cells (m * 1)).toList = List.replicate (m * 1) (.int .u8 0) := toList_madeCells_one _ _
      rw [e0] at ht
      have : (cur.toList.take (m * 1))[j]? = some (.int .u8 0) := by
        rw [ht, List.getElem?_replicate, if_pos (by omega)]
      rw [List.getElem?_take, if_pos (by omega), Array.getElem?_toList] at this
      rw [if_neg (by omega)]
      exact this
  obtain ⟨g, hg⟩ : ∃ g, w1.heap.size = g := ⟨_, rfl⟩
  rw [hg] at HE ⊢
  have HG := Lib.hid hg
  clear hown2 hg2 HL2 hg b2 b3 HI HZ HS
  go_loopw [6] (fun iv wr => ∃ i : Nat, iv = .int .i64 i ∧ Hid (i ≤ m) ∧ Hid (EndAt w1 wr g m i b)) (fun iv _ => m - (intOf iv).toNat)
  case atStart => exact ⟨0, rfl, Nat.zero_le _, HE⟩
  case round =>
    clear HE
    obtain ⟨i, rfl, hi, HE⟩ := hrel
    have hi2 := hi.out
    obtain ⟨cur, hb1, hb2⟩ := HE.out.blk
    by_cases hlt : i < m
    · have cb := cells_of_blk hb1 i _ (hb2 i hlt)
      have fb := free_of_blk hb1 i
      have HN := Lib.hid (HE.out.set hlt)
      clear hb1 hb2 hi
      go_wp2_with fail
      go_roundw
      case rel => exact ⟨i + 1, by go_num, by show _ ≤ _; omega, HN⟩
      case measure => simp [intOf]; omega
    · have him : i = m := by omega
      rw [him] at hb2
      have hgl := (Array.getElem?_eq_some_iff.1 hb1).1
      have hconv : ∀ x : ExtOf wr, (convert 30 9 (.slice (some ⟨g, 0, none⟩) m m)).run Tryd.prog x.w = .ok (.string B) x.w := fun x => by
        have h := run_convert_bytes_arg (P := Tryd.prog) x.w 30 5 Tryd.underlying30 Tryd.underlying5 g 0 m m (List.replicate m b) (by simp) (fun j hj => by
          rw [x.below.cell (p := ⟨g, 0 + j, none⟩) hgl, Nat.zero_add]
          have := cells_of_blk hb1 j _ (hb2 j hj)
          rw [if_pos hj] at this
          rw [this]
          simp [List.getD, hj]) 9 Tryd.underlying9
        rw [HB.out] at h
        exact h
      have HLx : Hid (Below w.heap.size w wr) := HB1.out.trans (HE.out.low.mono (by rw [← HG.out]; exact HB1.out.size))
      have hT2 : Hid (∀ x : ExtOf wr, Hid (ShaT x.w K H)) := fun x => (hT1.out.below HE.out.low (by rw [← HG.out]; exact hT1.out.ltk) (by rw [← HG.out]; exact hT1.out.lth)).call x.below
      have q3x := Lib.hid (fun x : ExtOf wr => q3.out x.w (hT2.out x))
      have q1x := Lib.hid (fun x : ExtOf wr => q1.out x.w)
      clear him hb1 hb2 hi hgl
      go_wp2_with fail
      refine wp_region_ext (by kernel_rfl) (by kernel_rfl) ?_
      repeat (go_big_quiet_step (first | exact ext_call (q3x.out _) | exact ext_call (q1x.out _)))
      refine wpQuiet_nil ?_
      rintro w' ⟨y, rfl⟩
      have HEND := Lib.hid (HLx.out.trans (y.below.mono HLx.out.size))
      go_wp2_with fail
      go_ret
      exact ⟨rfl, HEND.out⟩
end Go.Proofs.YtgjehokkmdbknaaDoor
