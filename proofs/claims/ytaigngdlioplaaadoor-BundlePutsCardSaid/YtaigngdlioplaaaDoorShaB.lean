/- sha.mix. -/
import Derived.Test.YtaigngdlioplaaaDoorShaA
import Derived.Test.YtaigngdlioplaaaDoorBlk
import Derived.Laws.CopyOwn
namespace Go.Proofs.YtaigngdlioplaaaDoor
open Go Go.RowKit

def tabA (f : Nat → Int) (k : Nat) : Array Value := ⟨(List.range 64).map fun j => .int .u32 (if j < k then f j else 0)⟩
theorem tab_get (f : Nat → Int) (k i : Nat) (h : i < 64) : (tabA f k)[i]? = some (.int .u32 (if i < k then f i else 0)) := by
  unfold tabA
  simp [h]
theorem tab_lo (f : Nat → Int) (k i : Nat) (h : i < 64) (hk : i < k) : (tabA f k)[i]? = some (.int .u32 (f i)) := by
  rw [tab_get f k i h, if_pos hk]
theorem tab_set (f : Nat → Int) (k : Nat) (h : k < 64) : (tabA f k).setIfInBounds k (.int .u32 (f k)) = tabA f (k + 1) := by
  apply Array.ext_getElem?
  intro i
  rw [Array.getElem?_setIfInBounds]
  by_cases hi : i < 64
  · rw [tab_get f (k + 1) i hi, tab_get f k i hi]
    have hs : (tabA f k).size = 64 := by unfold tabA; simp
    by_cases e : k = i
    · subst e
      rw [if_pos rfl, if_pos (by omega), if_pos (by omega)]
    · rw [if_neg e]
      by_cases h2 : i < k
      · rw [if_pos h2, if_pos (by omega)]
      · rw [if_neg h2, if_neg (by omega)]
  · have hs : ∀ k, (tabA f k).size = 64 := fun k => by unfold tabA; simp
    rw [if_neg (by omega), Array.getElem?_eq_none (by rw [hs]; omega), Array.getElem?_eq_none (by rw [hs]; omega)]
theorem tab_zero (f : Nat → Int) : tabA f 0 = Array.replicate 64 (.int .u32 0) := by
  apply Array.ext_getElem?
  intro i
  by_cases hi : i < 64
  · rw [tab_get f 0 i hi, if_neg (by omega)]; simp [hi]
  · rw [Array.getElem?_eq_none (by unfold tabA; simp; omega), Array.getElem?_eq_none (by simp; omega)]

theorem word_U32 (x : Nat → Int) (p : Nat) (h : ∀ i, i < 4 → 0 ≤ x (p + i) ∧ x (p + i) ≤ 255) : U32 (wordAt x p) := by
  have h0 := h 0 (by omega)
  have h1 := h 1 (by omega)
  have h2 := h 2 (by omega)
  have h3 := h 3 (by omega)
  simp only [Nat.add_zero] at h0
  unfold U32 wordAt
  omega
def stA (s : St) : Array Value := #[.int .u32 s.a, .int .u32 s.b, .int .u32 s.c, .int .u32 s.d, .int .u32 s.e, .int .u32 s.f, .int .u32 s.g, .int .u32 s.h]

def sv (s : St) : Nat → Int
  | 0 => s.a
  | 1 => s.b
  | 2 => s.c
  | 3 => s.d
  | 4 => s.e
  | 5 => s.f
  | 6 => s.g
  | _ => s.h
def halfA (s t : St) (k : Nat) : Array Value := ⟨(List.range 8).map fun j => .int .u32 (if j < k then ad (sv s j) (sv t j) else sv t j)⟩
theorem stA_get (s : St) (i : Nat) (h : i < 8) : (stA s)[i]? = some (.int .u32 (sv s i)) := by
  match i, h with
  | 0, _ => rfl
  | 1, _ => rfl
  | 2, _ => rfl
  | 3, _ => rfl
  | 4, _ => rfl
  | 5, _ => rfl
  | 6, _ => rfl
  | 7, _ => rfl
theorem half_get (s t : St) (k i : Nat) (h : i < 8) : (halfA s t k)[i]? = some (.int .u32 (if i < k then ad (sv s i) (sv t i) else sv t i)) := by
  unfold halfA
  simp [h]
theorem half_set (s t : St) (k : Nat) (h : k < 8) : (halfA s t k).setIfInBounds k (.int .u32 ((sv t k + sv s k) % 4294967296)) = halfA s t (k + 1) := by
  have hs : ∀ k, (halfA s t k).size = 8 := fun k => by unfold halfA; simp
  apply Array.ext_getElem?
  intro i
  rw [Array.getElem?_setIfInBounds]
  by_cases hi : i < 8
  · rw [half_get s t (k + 1) i hi, half_get s t k i hi]
    by_cases e : k = i
    · subst e
      rw [if_pos rfl, if_pos (by rw [hs]; omega), if_pos (by omega)]
      unfold ad
      rw [Int.add_comm]
    · rw [if_neg e]
      by_cases h2 : i < k
      · rw [if_pos h2, if_pos (by omega)]
      · rw [if_neg h2, if_neg (by omega)]
  · rw [if_neg (by omega), Array.getElem?_eq_none (by rw [hs]; omega), Array.getElem?_eq_none (by rw [hs]; omega)]
theorem half_zero (s t : St) : halfA s t 0 = stA t := rfl
theorem half_all (s t : St) : halfA s t 8 = stA (addS s t) := rfl
/-- The worlds inside mix: the state's box, the result's, the words'. -/
structure MixW (w wr : World) (s : Array Value) (f : Nat → Int) (k : Nat) : Prop where
  low : Below w.heap.size w wr
  b0 : wr.heap[w.heap.size]? = some (.cells s 35 (0, 0))
  b1 : wr.heap[w.heap.size + 1]? = some (.cells #[.int .u32 0, .int .u32 0, .int .u32 0, .int .u32 0, .int .u32 0, .int .u32 0, .int .u32 0, .int .u32 0] 35 (0, 0))
  b2 : wr.heap[w.heap.size + 1 + 1]? = some (.cells (tabA f k) 34 (0, 0))
theorem MixW.drewN {w wr : World} {s : Array Value} {f : Nat → Int} {k : Nat} (h : MixW w wr s f k) (n : Nat) : MixW w (wr.drewN n) s f k := ⟨below_drewN h.low n, h.b0, h.b1, h.b2⟩
theorem MixW.ext {w wr wx : World} {s : Array Value} {f : Nat → Int} {k : Nat} (h : MixW w wr s f k) (hb : Below wr.heap.size wr wx) : MixW w wx s f k :=
  ⟨h.low.trans (hb.mono h.low.size), blk_call h.b0 hb, blk_call h.b1 hb, blk_call h.b2 hb⟩
theorem MixW.set {w wr : World} {s : Array Value} {f : Nat → Int} {k : Nat} (h : MixW w wr s f k) (hk : k < 64) (v : Int) (hv : v = f k) : MixW w (wr.setCell ⟨w.heap.size + 1 + 1, k, none⟩ (.int .u32 v)) s f (k + 1) := by
  subst hv
  refine ⟨Below.setCell h.low (by simp only []; omega) _, set_oth h.b0 _ _ (by omega), set_oth h.b1 _ _ (by omega), ?_⟩
  rw [← tab_set f k hk]
  exact set_blk h.b2 _ _

structure Mix3 (w wr : World) (s : St) (f : Nat → Int) (g : Nat) (t : St) : Prop where
  mw : MixW w wr (stA s) f 64
  bs : wr.heap[g]? = some (.cells (stA t) 35 (0, 0))
  hg : w.heap.size + 1 + 1 < g
theorem Mix3.drewN {w wr : World} {s : St} {f : Nat → Int} {g : Nat} {t : St} (h : Mix3 w wr s f g t) (n : Nat) : Mix3 w (wr.drewN n) s f g t := ⟨h.mw.drewN n, h.bs, h.hg⟩
theorem Mix3.ext {w wr wx : World} {s : St} {f : Nat → Int} {g : Nat} {t : St} (h : Mix3 w wr s f g t) (hb : Below wr.heap.size wr wx) : Mix3 w wx s f g t :=
  ⟨h.mw.ext hb, blk_call h.bs hb, h.hg⟩
theorem Mix3.to {w wr wx : World} {s : St} {f : Nat → Int} {g : Nat} {t t' : St} (h : Mix3 w wr s f g t) (hb : Below g wr wx) (hg : wx.heap[g]? = some (.cells (stA t') 35 (0, 0))) : Mix3 w wx s f g t' := by
  have h0 := h.hg
  exact ⟨⟨h.mw.low.trans (hb.mono (by omega)), (hb.block _ (by omega)).trans h.mw.b0, (hb.block _ (by omega)).trans h.mw.b1, (hb.block _ (by omega)).trans h.mw.b2⟩, hg, h0⟩
theorem Mix3.set {w wr : World} {s : St} {f : Nat → Int} {g : Nat} {t : St} (h : Mix3 w wr s f g t) (t' : St) (i : Nat) (v : Int) (e : (stA t).setIfInBounds i (.int .u32 v) = stA t') : Mix3 w (wr.setCell ⟨g, i, none⟩ (.int .u32 v)) s f g t' :=
  h.to (Below.setCell (p := ⟨g, i, none⟩) (Below.refl g wr) (Nat.le_refl g) _) (by rw [← e]; exact set_blk h.bs _ _)

set_option maxRecDepth 100000 in
set_option maxHeartbeats 4000000 in
theorem mix_any (b o n c : Nat) (x : Nat → Int) (s : St) (K : Nat → Int) (w : World) (hn : Hid (64 ≤ n)) (hnc : Hid (n ≤ c)) (hb : Hid (b < w.heap.size)) (hc : Hid (∀ i, i < 64 → w.cell? ⟨b, o + i, none⟩ = some (.int .u8 (x i))))
    (hx : Hid (∀ i, i < 64 → 0 ≤ x i ∧ x i ≤ 255)) (hs : Hid s.Ok) (hgl : Hid (1 < w.heap.size)) (hK : Hid (∀ i, i < 64 → w.cell? ⟨1, i, none⟩ = some (.int .u32 (K i)))) :
    Calls Tryd.prog 122 #[.agg (stA s), .slice (some ⟨b, o, none⟩) n c] w fun e w' => e = .returned (.agg (stA (mixS K s (fun i => wordAt x (4 * i))))) ∧ Below w.heap.size w w' := by
  have hn2 := hn.out
  have hnc2 := hnc.out
  have hb2 := hb.out
  obtain ⟨f, hf⟩ : ∃ f, f = wAt (fun i => wordAt x (4 * i)) := ⟨_, rfl⟩
  have HF := Lib.hid hf; clear hf
  unfold stA
  go_enter Tryd.func122, Tryd.ntmps122
  go_wp2_with fail
  obtain ⟨w3, hw3⟩ : ∃ w3, (((w.alloc (.cells #[.int .u32 s.a, .int .u32 s.b, .int .u32 s.c, .int .u32 s.d, .int .u32 s.e, .int .u32 s.f, .int .u32 s.g, .int .u32 s.h] 35)).alloc (.cells #[.int .u32 0, .int .u32 0, .int .u32 0, .int .u32 0, .int .u32 0, .int .u32 0, .int .u32 0, .int .u32 0] 35)).alloc (.cells #[.int .u32 0, .int .u32 0, .int .u32 0, .int .u32 0, .int .u32 0, .int .u32 0, .int .u32 0, .int .u32 0, .int .u32 0, .int .u32 0, .int .u32 0, .int .u32 0, .int .u32 0, .int .u32 0, .int .u32 0, .int .u32 0, .int .u32 0, .int .u32 0, .int .u32 0, .int .u32 0, .int .u32 0, .int .u32 0, .int .u32 0, .int .u32 0, .int .u32 0, .int .u32 0, .int .u32 0, .int .u32 0, .int .u32 0, .int .u32 0, .int .u32 0, .int .u32 0, .int .u32 0, .int .u32 0, .int .u32 0, .int .u32 0, .int .u32 0, .int .u32 0, .int .u32 0, .int .u32 0, .int .u32 0, .int .u32 0, .int .u32 0, .int .u32 0, .int .u32 0, .int .u32 0, .int .u32 0, .int .u32 0, .int .u32 0, .int .u32 0, .int .u32 0, .int .u32 0, .int .u32 0, .int .u32 0, .int .u32 0, .int .u32 0, .int .u32 0, .int .u32 0, .int .u32 0, .int .u32 0, .int .u32 0, .int .u32 0, .int .u32 0, .int .u32 0] 34)) = w3 := ⟨_, rfl⟩
  have HM : Hid (MixW w w3 (stA s) f 0) := by
    rw [← hw3]
    refine ⟨below_alloc (below_alloc (below_alloc (Below.refl _ w) (Nat.le_refl _) _) (by simp) _) (by simp; omega) _, blk_old (blk_old (blk_new _ _ _ (by simp)) _) _, blk_old (blk_new _ _ _ (by simp)) _, ?_⟩
    rw [tab_zero]
    exact blk_new _ _ _ (by simp)
  rw [hw3]
  clear hw3
  go_loopw [19] (fun iv wr => ∃ k : Nat, iv = .int .i64 k ∧ Hid (k ≤ 16) ∧ Hid (MixW w wr (stA s) f k)) (fun iv _ => 16 - (intOf iv).toNat)
  case atStart => exact ⟨0, rfl, Nat.zero_le _, HM.out⟩
  case round =>
    obtain ⟨k, rfl, hk, HR⟩ := hrel
    have hk2 := hk.out
    by_cases hlt : k < 16
    · have hq : ∀ i, i < 4 → wr.cell? ⟨b, o + 4 * k + i, none⟩ = some (.int .u8 (x (4 * k + i))) := fun i hi => by
        rw [HR.out.low.cell (p := ⟨b, o + 4 * k + i, none⟩) hb2, Nat.add_assoc]
        exact hc.out (4 * k + i) (by omega)
      have q := Lib.hid (word_any b (o + 4 * k) (n - 4 * k) (c - 4 * k) (fun i => x (4 * k + i)) wr (by omega) hq (fun i hi => hx.out (4 * k + i) (by omega)))
      have e1 : wordAt (fun i => x (4 * k + i)) 0 = f k := by
        rw [HF.out, wAt_lo _ _ hlt]
        exact wordAt_congr _ _ _ _ fun i _ => by simp only [Nat.zero_add]
      rw [e1] at q
      have cb := cells_of_blk HR.out.b2 k _ (tab_get f k k (by omega))
      have fb := free_of_blk HR.out.b2 k
      clear hq e1
      go_wp2_with fail
      refine q.out.mono ?_
      rintro e w2 ⟨rfl, nd, rfl⟩
      go_wp2_with fail
      go_roundw
      case rel => exact ⟨k + 1, by go_num, by show _ ≤ _; omega, (HR.out.drewN nd).set (by omega) _ rfl⟩
      case measure => simp [intOf]; omega
    · have hk16 : k = 16 := by omega
      rw [hk16] at HR
      clear hk16
      go_wp2_with fail
      clear hk hk2 hlt HM
      go_loopw [7] (fun iv wr => ∃ j : Nat, iv = .int .i64 ((j : Int) + 16) ∧ Hid (j ≤ 48) ∧ Hid (MixW w wr (stA s) f (j + 16))) (fun iv _ => 64 - (intOf iv).toNat)
      case atStart => exact ⟨0, rfl, Nat.zero_le _, HR.out⟩
      case round =>
        clear HR
        rename_i wr0 wr1
        obtain ⟨j, rfl, hj, HR⟩ := hrel
        have hj2 := hj.out
        by_cases hlt : j < 48
        · have e1 := wAt_hi (fun i => wordAt x (4 * i)) (j + 16) (by omega)
          rw [← HF.out, show j + 16 - 16 = j by omega, show j + 16 - 7 = j + 9 by omega, show j + 16 - 15 = j + 1 by omega, show j + 16 - 2 = j + 14 by omega] at e1
          have E1 := Lib.hid e1; clear e1
          have c0 := cells_of_blk HR.out.b2 j _ (tab_lo f (j + 16) j (by omega) (by omega))
          have c1 := cells_of_blk HR.out.b2 (j + 9) _ (tab_lo f (j + 16) (j + 9) (by omega) (by omega))
          have c2 := cells_of_blk HR.out.b2 (j + 1) _ (tab_lo f (j + 16) (j + 1) (by omega) (by omega))
          have c3 := cells_of_blk HR.out.b2 (j + 14) _ (tab_lo f (j + 16) (j + 14) (by omega) (by omega))
          have u1 : Hid (U32 (f (j + 1))) := by rw [HF.out]; exact wAt_U32 _ (fun i hi => word_U32 x (4 * i) (fun k hk => hx.out _ (by omega))) _
          have u3 : Hid (U32 (f (j + 14))) := by rw [HF.out]; exact wAt_U32 _ (fun i hi => word_U32 x (4 * i) (fun k hk => hx.out _ (by omega))) _
          have q1 := Lib.hid (show ∀ w, Calls Tryd.prog 126 #[.int .u32 (f (j + 1)), .int .i64 7, .int .i64 18, .int .u32 (f (j + 1) / 8)] w fun e w' => e = .returned (.int .u32 (sg0 (f (j + 1)))) ∧ w = w' from fun w => mixed_any (f (j + 1)) 7 18 (f (j + 1) / 8) w u1 (by omega) (by omega) (by omega) (by omega))
          have q3 := Lib.hid (show ∀ w, Calls Tryd.prog 126 #[.int .u32 (f (j + 14)), .int .i64 17, .int .i64 19, .int .u32 (f (j + 14) / 1024)] w fun e w' => e = .returned (.int .u32 (sg1 (f (j + 14)))) ∧ w = w' from fun w => mixed_any (f (j + 14)) 17 19 (f (j + 14) / 1024) w u3 (by omega) (by omega) (by omega) (by omega))
          have lt2 := (Array.getElem?_eq_some_iff.1 HR.out.b2).1
          go_wp2_with fail
          refine wp_region_ext_tail 33 (by kernel_rfl) (by kernel_rfl) ?_
          simp only [List.take_succ_cons, List.take_zero, List.drop_succ_cons, List.drop_zero]
          repeat (go_big_quiet_step (first | (with_reducible exact ext_call_same (q1.out _)) | (with_reducible exact ext_call_same (q3.out _))))
          refine wpQuiet_nil ?_
          rintro w' ⟨y, rfl⟩
          have cb := cells_of_blk (HR.out.ext y.below).b2 (j + 16) _ (tab_get f (j + 16) (j + 16) (by omega))
          have fb := free_of_blk (HR.out.ext y.below).b2 (j + 16)
          have HY := Lib.hid (HR.out.ext y.below)
          generalize y.w = w4 at *
          clear y c0 c1 c2 c3
          go_wp2_with fail
          go_roundw
          case rel => exact ⟨j + 1, by go_num, by show _ ≤ _; omega, HY.out.set (by omega) _ (by rw [E1.out]; unfold ad; omega)⟩
          case measure => simp [intOf]; omega
        · have hj48 : j = 48 := by omega
          rw [hj48] at HR
          clear hj48
          have c0 : wr.cell? ⟨w.heap.size, 0, none⟩ = some (.int .u32 s.a) := cells_of_blk HR.out.b0 0 _ rfl
          have c1 : wr.cell? ⟨w.heap.size, 1, none⟩ = some (.int .u32 s.b) := cells_of_blk HR.out.b0 1 _ rfl
          have c2 : wr.cell? ⟨w.heap.size, 2, none⟩ = some (.int .u32 s.c) := cells_of_blk HR.out.b0 2 _ rfl
          have c3 : wr.cell? ⟨w.heap.size, 3, none⟩ = some (.int .u32 s.d) := cells_of_blk HR.out.b0 3 _ rfl
          have c4 : wr.cell? ⟨w.heap.size, 4, none⟩ = some (.int .u32 s.e) := cells_of_blk HR.out.b0 4 _ rfl
          have c5 : wr.cell? ⟨w.heap.size, 5, none⟩ = some (.int .u32 s.f) := cells_of_blk HR.out.b0 5 _ rfl
          have c6 : wr.cell? ⟨w.heap.size, 6, none⟩ = some (.int .u32 s.g) := cells_of_blk HR.out.b0 6 _ rfl
          have c7 : wr.cell? ⟨w.heap.size, 7, none⟩ = some (.int .u32 s.h) := cells_of_blk HR.out.b0 7 _ rfl
          go_wp2_with fail
          have lt0 := (Array.getElem?_eq_some_iff.1 HR.out.b2).1
          obtain ⟨w5, hw5⟩ : ∃ w5, (wr.alloc (.cells (stA s) 35)) = w5 := ⟨_, rfl⟩
          have H3 : Hid (Mix3 w w5 s f wr.heap.size s) := by
            rw [← hw5]
            exact ⟨HR.out.ext (below_alloc (Below.refl _ wr) (Nat.le_refl _) _), blk_new _ _ _ rfl, lt0⟩
          generalize wr.heap.size = g at *
          unfold stA at hw5
          rw [hw5]
          clear hw5 c0 c1 c2 c3 c4 c5 c6 c7 HR hj hj2 hlt lt0
          go_loopw [68] (fun iv wr => ∃ k : Nat, iv = .int .i64 k ∧ Hid (k ≤ 64) ∧ Hid (Mix3 w wr s f g (runS K f s k))) (fun iv _ => 64 - (intOf iv).toNat)
          case atStart => exact ⟨0, rfl, Nat.zero_le _, H3.out⟩
          case round =>
            clear H3
            rename_i wr3
            obtain ⟨k, rfl, hk, H3⟩ := hrel
            have hk2 := hk.out
            by_cases hlt : k < 64
            · have cK : wr.cell? ⟨1, k, none⟩ = some (.int .u32 (K k)) := (H3.out.mw.low.cell (p := ⟨1, k, none⟩) hgl.out).trans (hK.out k hlt)
              have cW := cells_of_blk H3.out.mw.b2 k _ (tab_lo f 64 k hlt hlt)
              have tok := Lib.hid (runS_ok K f s hs.out k)
              have hnx : stepS (K k) (f k) (runS K f s k) = runS K f s (k + 1) := rfl
              have HNX := Lib.hid hnx; clear hnx
              generalize runS K f s k = t at *
              have ue : Hid (U32 t.e) := tok.out.e
              have ua : Hid (U32 t.a) := tok.out.a
              have q1 := Lib.hid (show ∀ w, Calls Tryd.prog 127 #[.int .u32 t.e, .int .i64 25] w fun e w' => e = .returned (.int .u32 (rr 25 t.e)) ∧ w = w' from fun w => turned_any t.e 25 w ue (by omega) (by omega))
              have q2 := Lib.hid (show ∀ w, Calls Tryd.prog 126 #[.int .u32 t.e, .int .i64 6, .int .i64 11, .int .u32 (rr 25 t.e)] w fun e w' => e = .returned (.int .u32 (bg1 t.e)) ∧ w = w' from fun w => mixed_any t.e 6 11 _ w ue (by omega) (by omega) (by omega) (by omega))
              have q3 := Lib.hid (show ∀ w, Calls Tryd.prog 127 #[.int .u32 t.a, .int .i64 22] w fun e w' => e = .returned (.int .u32 (rr 22 t.a)) ∧ w = w' from fun w => turned_any t.a 22 w ua (by omega) (by omega))
              have q4 := Lib.hid (show ∀ w, Calls Tryd.prog 126 #[.int .u32 t.a, .int .i64 2, .int .i64 13, .int .u32 (rr 22 t.a)] w fun e w' => e = .returned (.int .u32 (bg0 t.a)) ∧ w = w' from fun w => mixed_any t.a 2 13 _ w ua (by omega) (by omega) (by omega) (by omega))
              have c0 : wr.cell? ⟨g, 0, none⟩ = some (.int .u32 t.a) := cells_of_blk H3.out.bs 0 _ rfl
              have c1 : wr.cell? ⟨g, 1, none⟩ = some (.int .u32 t.b) := cells_of_blk H3.out.bs 1 _ rfl
              have c2 : wr.cell? ⟨g, 2, none⟩ = some (.int .u32 t.c) := cells_of_blk H3.out.bs 2 _ rfl
              have c3 : wr.cell? ⟨g, 3, none⟩ = some (.int .u32 t.d) := cells_of_blk H3.out.bs 3 _ rfl
              have c4 : wr.cell? ⟨g, 4, none⟩ = some (.int .u32 t.e) := cells_of_blk H3.out.bs 4 _ rfl
              have c5 : wr.cell? ⟨g, 5, none⟩ = some (.int .u32 t.f) := cells_of_blk H3.out.bs 5 _ rfl
              have c6 : wr.cell? ⟨g, 6, none⟩ = some (.int .u32 t.g) := cells_of_blk H3.out.bs 6 _ rfl
              have c7 : wr.cell? ⟨g, 7, none⟩ = some (.int .u32 t.h) := cells_of_blk H3.out.bs 7 _ rfl
              have lt2 := (Array.getElem?_eq_some_iff.1 H3.out.mw.b2).1
              have lt3 := (Array.getElem?_eq_some_iff.1 H3.out.bs).1
              have lt4 : 1 < wr.heap.size := Nat.lt_of_lt_of_le hgl.out H3.out.mw.low.size
              go_wp2_with fail
              go_quiet (fail)
              have H3q := Lib.hid (H3.out.drewN nq)
              obtain ⟨wq, hwq⟩ : ∃ wq, wr.drewN nq = wq := ⟨_, rfl⟩
              rw [hwq] at H3q ⊢
              clear hwq c0 c1 c2 c3 c4 c5 c6 c7 cK cW lt2 lt3 lt4
              have c0 : wq.cell? ⟨g, 0, none⟩ = some (.int .u32 t.a) := cells_of_blk H3q.out.bs 0 _ rfl
              have c1 : wq.cell? ⟨g, 1, none⟩ = some (.int .u32 t.b) := cells_of_blk H3q.out.bs 1 _ rfl
              have c2 : wq.cell? ⟨g, 2, none⟩ = some (.int .u32 t.c) := cells_of_blk H3q.out.bs 2 _ rfl
              have c3 : wq.cell? ⟨g, 3, none⟩ = some (.int .u32 t.d) := cells_of_blk H3q.out.bs 3 _ rfl
              have c4 : wq.cell? ⟨g, 4, none⟩ = some (.int .u32 t.e) := cells_of_blk H3q.out.bs 4 _ rfl
              have c5 : wq.cell? ⟨g, 5, none⟩ = some (.int .u32 t.f) := cells_of_blk H3q.out.bs 5 _ rfl
              have c6 : wq.cell? ⟨g, 6, none⟩ = some (.int .u32 t.g) := cells_of_blk H3q.out.bs 6 _ rfl
              have c7 : wq.cell? ⟨g, 7, none⟩ = some (.int .u32 t.h) := cells_of_blk H3q.out.bs 7 _ rfl
              have cK : wq.cell? ⟨1, k, none⟩ = some (.int .u32 (K k)) := (H3q.out.mw.low.cell (p := ⟨1, k, none⟩) hgl.out).trans (hK.out k hlt)
              have cW := cells_of_blk H3q.out.mw.b2 k _ (tab_lo f 64 k hlt hlt)
              have lt2 := (Array.getElem?_eq_some_iff.1 H3q.out.mw.b2).1
              have lt3 := (Array.getElem?_eq_some_iff.1 H3q.out.bs).1
              have lt4 : 1 < wq.heap.size := Nat.lt_of_lt_of_le hgl.out H3q.out.mw.low.size
              go_wp2_with fail
              refine wp_region_ext (by kernel_rfl) (by kernel_rfl) ?_
              repeat (go_big_quiet_step (first | (with_reducible exact ext_call_same (q1.out _)) | (with_reducible exact ext_call_same (q2.out _))))
              refine wpQuiet_nil ?_
              rintro w' ⟨y, rfl⟩
              have HY := Lib.hid (H3q.out.ext y.below)
              generalize y.w = w4 at *
              clear y c0 c1 c2 c3 c4 c5 c6 c7 cK cW lt2 lt3 lt4
              go_wp2_with fail
              refine (q3.out _).mono ?_
              rintro e w1 ⟨rfl, rfl⟩
              go_wp2_with fail
              refine (q4.out _).mono ?_
              rintro e w1 ⟨rfl, rfl⟩
              have d0 : w4.cell? ⟨g, 0, none⟩ = some (.int .u32 t.a) := cells_of_blk HY.out.bs 0 _ rfl
              have d1 : w4.cell? ⟨g, 1, none⟩ = some (.int .u32 t.b) := cells_of_blk HY.out.bs 1 _ rfl
              have d2 : w4.cell? ⟨g, 2, none⟩ = some (.int .u32 t.c) := cells_of_blk HY.out.bs 2 _ rfl
              have d3 : w4.cell? ⟨g, 3, none⟩ = some (.int .u32 t.d) := cells_of_blk HY.out.bs 3 _ rfl
              have d4 : w4.cell? ⟨g, 4, none⟩ = some (.int .u32 t.e) := cells_of_blk HY.out.bs 4 _ rfl
              have d5 : w4.cell? ⟨g, 5, none⟩ = some (.int .u32 t.f) := cells_of_blk HY.out.bs 5 _ rfl
              have d6 : w4.cell? ⟨g, 6, none⟩ = some (.int .u32 t.g) := cells_of_blk HY.out.bs 6 _ rfl
              have d7 : w4.cell? ⟨g, 7, none⟩ = some (.int .u32 t.h) := cells_of_blk HY.out.bs 7 _ rfl
              have lt3 := (Array.getElem?_eq_some_iff.1 HY.out.bs).1
              go_wp2_with fail
              rw [rT_eq _ _ _ tok.out, rU_eq _ tok.out]
              obtain ⟨T, hT⟩ : ∃ T, rT (K k) (f k) t = T := ⟨_, rfl⟩
              obtain ⟨U, hU⟩ : ∃ U, rU t = U := ⟨_, rfl⟩
              rw [hT, hU]
              have HT := Lib.hid hT; have HU := Lib.hid hU
              clear hT hU
              refine wp_region_ext_tail 2 (by kernel_rfl) (by kernel_rfl) ?_
              simp only [List.take_succ_cons, List.take_zero, List.drop_succ_cons, List.drop_zero]
              repeat (go_big_quiet_step (fail))
              refine wpQuiet_nil ?_
              rintro w' ⟨y, rfl⟩
              have H5 := Lib.hid (HY.out.ext y.below)
              generalize y.w = w5 at *
              clear y d0 d1 d2 d3 d4 d5 d6 d7 lt3
              refine wpList_copy_splice rfl (.tmp 123) (.tmp 124) 155 155 rfl 33 Tryd.underlying155 (by kernel_rfl) (some ⟨g, 1, none⟩) (some ⟨g, 0, none⟩) 7 7 7 8 rfl rfl g 1
                [.int .u32 t.a, .int .u32 t.b, .int .u32 t.c, .int .u32 t.d, .int .u32 t.e, .int .u32 t.f, .int .u32 t.g, .int .u32 t.h] 35 H5.out.bs
                [.int .u32 t.a, .int .u32 t.b, .int .u32 t.c, .int .u32 t.d, .int .u32 t.e, .int .u32 t.f, .int .u32 t.g] rfl
                (fun _ => ⟨rfl, ⟨g, 0, none⟩, rfl, fun j v hj => ?_⟩) (by simp) (fun v hv => ?_) g w5 (Below.refl _ _) (Nat.le_refl _) ?_
              · have hj7 : j < 7 := (List.getElem?_eq_some_iff.1 hj).1
                rw [Addr.add_lit, Nat.zero_add]
                refine cells_of_blk H5.out.bs j v ?_
                rw [← hj]
                match j, hj7 with
                | 0, _ => rfl
                | 1, _ => rfl
                | 2, _ => rfl
                | 3, _ => rfl
                | 4, _ => rfl
                | 5, _ => rfl
                | 6, _ => rfl
              · simp only [List.mem_cons, List.not_mem_nil, or_false] at hv
                rcases hv with rfl | rfl | rfl | rfl | rfl | rfl | rfl <;> rfl
              intro w6 HG6 hB6
              have H6 : Hid (Mix3 w w6 s f g ⟨t.a, t.a, t.b, t.c, t.d, t.e, t.f, t.g⟩) := H5.out.to hB6 HG6.out
              clear HG6 hB6
              have d0 : w6.cell? ⟨g, 0, none⟩ = some (.int .u32 t.a) := cells_of_blk H6.out.bs 0 _ rfl
              have d1 : w6.cell? ⟨g, 1, none⟩ = some (.int .u32 t.a) := cells_of_blk H6.out.bs 1 _ rfl
              have d2 : w6.cell? ⟨g, 2, none⟩ = some (.int .u32 t.b) := cells_of_blk H6.out.bs 2 _ rfl
              have d3 : w6.cell? ⟨g, 3, none⟩ = some (.int .u32 t.c) := cells_of_blk H6.out.bs 3 _ rfl
              have d4 : w6.cell? ⟨g, 4, none⟩ = some (.int .u32 t.d) := cells_of_blk H6.out.bs 4 _ rfl
              have d5 : w6.cell? ⟨g, 5, none⟩ = some (.int .u32 t.e) := cells_of_blk H6.out.bs 5 _ rfl
              have d6 : w6.cell? ⟨g, 6, none⟩ = some (.int .u32 t.f) := cells_of_blk H6.out.bs 6 _ rfl
              have d7 : w6.cell? ⟨g, 7, none⟩ = some (.int .u32 t.g) := cells_of_blk H6.out.bs 7 _ rfl
              have z0 := free_of_blk H6.out.bs 0
              have z1 := free_of_blk H6.out.bs 1
              have z2 := free_of_blk H6.out.bs 2
              have z3 := free_of_blk H6.out.bs 3
              have z4 := free_of_blk H6.out.bs 4
              have z5 := free_of_blk H6.out.bs 5
              have z6 := free_of_blk H6.out.bs 6
              have z7 := free_of_blk H6.out.bs 7
              go_wp2_with fail
              go_roundw
              case rel =>
                refine ⟨k + 1, by go_num, by show _ ≤ _; omega, ?_⟩
                rw [← HNX.out]
                refine (H6.out.set ⟨t.a, t.a, t.b, t.c, (t.d + T) % 4294967296, t.e, t.f, t.g⟩ 4 _ rfl).set _ 0 _ ?_
                unfold stepS
                rw [HT.out, HU.out]
                rfl
              case measure => simp [intOf]; omega
            · have hk64 : k = 64 := by omega
              rw [hk64] at H3
              clear hk64
              generalize ht : runS K f s 64 = t at *
              have HT := Lib.hid ht; clear ht
              go_wp2_with fail
              clear hk hk2 hlt
              have hg0 := H3.out.hg
              have H4 : Hid (MixW w wr (stA s) f 64 ∧ wr.heap[g]? = some (.cells (halfA s t 0) 35 (0, 0))) := ⟨H3.out.mw, H3.out.bs⟩
              clear H3
              go_loopw [136] (fun iv wr => ∃ k : Nat, iv = .int .i64 k ∧ Hid (k ≤ 8) ∧ Hid (MixW w wr (stA s) f 64 ∧ wr.heap[g]? = some (.cells (halfA s t k) 35 (0, 0)))) (fun iv _ => 8 - (intOf iv).toNat)
              case atStart => exact ⟨0, rfl, Nat.zero_le _, H4.out⟩
              case round =>
                clear H4
                rename_i wr4 wr5
                obtain ⟨k, rfl, hk, H4⟩ := hrel
                have hk2 := hk.out
                by_cases hlt : k < 8
                · have cg := cells_of_blk H4.out.2 k _ ((half_get s t k k hlt).trans (by rw [if_neg (Nat.lt_irrefl k)]))
                  have cst := cells_of_blk H4.out.1.b0 k _ (stA_get s k hlt)
                  have lt1 := (Array.getElem?_eq_some_iff.1 H4.out.1.b0).1
                  have lt3 := (Array.getElem?_eq_some_iff.1 H4.out.2).1
                  go_wp2_with fail
                  refine wp_region_ext_tail 8 (by kernel_rfl) (by kernel_rfl) ?_
                  simp only [List.take_succ_cons, List.take_zero, List.drop_succ_cons, List.drop_zero]
                  repeat (go_big_quiet_step (fail))
                  refine wpQuiet_nil ?_
                  rintro w' ⟨y, rfl⟩
                  have HY : Hid (MixW w y.w (stA s) f 64 ∧ y.w.heap[g]? = some (.cells (halfA s t k) 35 (0, 0))) := ⟨H4.out.1.ext y.below, blk_call H4.out.2 y.below⟩
                  generalize y.w = w7 at *
                  clear y cg cst lt1 lt3
                  have cg := cells_of_blk HY.out.2 k _ (half_get s t k k hlt)
                  have fg := free_of_blk HY.out.2 k
                  go_wp2_with fail
                  go_roundw
                  case rel =>
                    refine ⟨k + 1, by go_num, by show _ ≤ _; omega, ⟨HY.out.1.low.trans ?_ |> fun h => ⟨h, set_oth HY.out.1.b0 _ _ (by omega), set_oth HY.out.1.b1 _ _ (by omega), set_oth HY.out.1.b2 _ _ (by omega)⟩, ?_⟩⟩
                    · exact Below.setCell (p := ⟨g, k, none⟩) (Below.refl _ _) (by simp only []; omega) _
                    · rw [← half_set s t k hlt]; exact set_blk HY.out.2 _ _
                  case measure => simp [intOf]; omega
                · have hk8 : k = 8 := by omega
                  rw [hk8] at H4
                  clear hk8
                  have hbs : wr.heap[g]? = some (.cells (stA (addS s t)) 35 (0, 0)) := H4.out.2
                  have d0 : wr.cell? ⟨g, 0, none⟩ = some (.int .u32 (addS s t).a) := cells_of_blk hbs 0 _ rfl
                  have d1 : wr.cell? ⟨g, 1, none⟩ = some (.int .u32 (addS s t).b) := cells_of_blk hbs 1 _ rfl
                  have d2 : wr.cell? ⟨g, 2, none⟩ = some (.int .u32 (addS s t).c) := cells_of_blk hbs 2 _ rfl
                  have d3 : wr.cell? ⟨g, 3, none⟩ = some (.int .u32 (addS s t).d) := cells_of_blk hbs 3 _ rfl
                  have d4 : wr.cell? ⟨g, 4, none⟩ = some (.int .u32 (addS s t).e) := cells_of_blk hbs 4 _ rfl
                  have d5 : wr.cell? ⟨g, 5, none⟩ = some (.int .u32 (addS s t).f) := cells_of_blk hbs 5 _ rfl
                  have d6 : wr.cell? ⟨g, 6, none⟩ = some (.int .u32 (addS s t).g) := cells_of_blk hbs 6 _ rfl
                  have d7 : wr.cell? ⟨g, 7, none⟩ = some (.int .u32 (addS s t).h) := cells_of_blk hbs 7 _ rfl
                  have z0 := free_of_blk H4.out.1.b1 0
                  have y0 := cells_of_blk H4.out.1.b1 0 _ rfl
                  have z1 := free_of_blk H4.out.1.b1 1
                  have y1 := cells_of_blk H4.out.1.b1 1 _ rfl
                  have z2 := free_of_blk H4.out.1.b1 2
                  have y2 := cells_of_blk H4.out.1.b1 2 _ rfl
                  have z3 := free_of_blk H4.out.1.b1 3
                  have y3 := cells_of_blk H4.out.1.b1 3 _ rfl
                  have z4 := free_of_blk H4.out.1.b1 4
                  have y4 := cells_of_blk H4.out.1.b1 4 _ rfl
                  have z5 := free_of_blk H4.out.1.b1 5
                  have y5 := cells_of_blk H4.out.1.b1 5 _ rfl
                  have z6 := free_of_blk H4.out.1.b1 6
                  have y6 := cells_of_blk H4.out.1.b1 6 _ rfl
                  have z7 := free_of_blk H4.out.1.b1 7
                  have y7 := cells_of_blk H4.out.1.b1 7 _ rfl
                  have lt1 := (Array.getElem?_eq_some_iff.1 H4.out.1.b1).1
                  have he : addS s t = mixS K s (fun i => wordAt x (4 * i)) := by unfold mixS; rw [← HF.out, HT.out]
                  have HE := Lib.hid he
                  have HL := Lib.hid H4.out.1.low
                  clear he hbs H4
                  generalize addS s t = t2 at *
                  go_wp2_with fail
                  refine bodyPost_ret (v := .agg #[.int .u32 t2.a, .int .u32 t2.b, .int .u32 t2.c, .int .u32 t2.d, .int .u32 t2.e, .int .u32 t2.f, .int .u32 t2.g, .int .u32 t2.h]) ?_ rfl ⟨by rw [← HE.out]; try rfl, ?_⟩
                  · simp [results, Tryd.results122, go_sem, y0, y1, y2, y3, y4, y5, y6, y7]
                  · refine Below.setCell (Below.setCell (Below.setCell (Below.setCell (Below.setCell (Below.setCell (Below.setCell (Below.setCell HL.out ?_ _) ?_ _) ?_ _) ?_ _) ?_ _) ?_ _) ?_ _) ?_ _
                    all_goals (simp only []; omega)
end Go.Proofs.YtaigngdlioplaaaDoor
