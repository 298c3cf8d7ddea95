/- The reference's key. -/
import Derived.Test.YtaigngdlioplaaaDoorShaI
import Derived.Great.BuildSlice
namespace Go.Proofs.YtaigngdlioplaaaDoor
open Go Go.RowKit

def kList : List Int := [1116352408, 1899447441, 3049323471, 3921009573, 961987163, 1508970993, 2453635748, 2870763221, 3624381080, 310598401, 607225278, 1426881987, 1925078388, 2162078206, 2614888103, 3248222580, 3835390401, 4022224774, 264347078, 604807628, 770255983, 1249150122, 1555081692, 1996064986, 2554220882, 2821834349, 2952996808, 3210313671, 3336571891, 3584528711, 113926993, 338241895, 666307205, 773529912, 1294757372, 1396182291, 1695183700, 1986661051, 2177026350, 2456956037, 2730485921, 2820302411, 3259730800, 3345764771, 3516065817, 3600352804, 4094571909, 275423344, 430227734, 506948616, 659060556, 883997877, 958139571, 1322822218, 1537002063, 1747873779, 1955562222, 2024104815, 2227730452, 2361852424, 2428436474, 2756734187, 3204031479, 3329325298]
def hSt : St := ⟨1779033703, 3144134277, 1013904242, 2773480762, 1359893119, 2600822924, 528734635, 1541459225⟩
theorem kF_list : (List.range 64).map kF = kList := by decide +kernel
theorem hF_list : (List.range 8).map hF = [1779033703, 3144134277, 1013904242, 2773480762, 1359893119, 2600822924, 528734635, 1541459225] := by decide +kernel
theorem kF_at (i : Nat) (h : i < 64) : kF i = nth kList i := by
  unfold nth
  rw [← kF_list]
  simp [h]
theorem hF_at (i : Nat) (h : i < 8) : hF i = sv hSt i := by
  have : hF i = nth [1779033703, 3144134277, 1013904242, 2773480762, 1359893119, 2600822924, 528734635, 1541459225] i := by
    unfold nth
    rw [← hF_list]
    simp [h]
  rw [this]
  match i, h with
  | 0, _ => rfl
  | 1, _ => rfl
  | 2, _ => rfl
  | 3, _ => rfl
  | 4, _ => rfl
  | 5, _ => rfl
  | 6, _ => rfl
  | 7, _ => rfl

section
variable {P : Program}
theorem agg_cells (A : Array Value) : (Value.agg A).cells = A := rfl
theorem built_two {t : TypeId} {fs : Array Field} {A B : Array Value} {n m : Nat} (hz : ((P.info? t).bind (·.zero)).map (·.cells.size) = some (n + m)) (hu : P.underlying t = some (.struct fs))
    (hp : fs.toList.mapM (fun f => (P.info? f.type).map fun i => (f.offset, i.size)) = some [(0, n), (n, m)]) (hA : A.size = n) (hB : B.size = m) :
    P.built t [(0, .agg A), (1, .agg B)] = some (A ++ B) := by
  cases hit : P.info? t with
  | none => simp [hit] at hz
  | some it =>
    cases hzz : it.zero with
    | none => simp [hit, hzz] at hz
    | some z =>
      simp only [hit, hzz, Option.bind_some, Option.map_some, Option.some.injEq] at hz
      unfold Program.built
      simp only [hit, hu, hzz, hp]
      obtain ⟨g1, g2⟩ := Great.foldl_set 0 A.toList 0 z.cells
      obtain ⟨k1, k2⟩ := Great.foldl_set n B.toList 0 ((A.toList.zipIdx 0).foldl (fun cs (x : Value × Nat) => cs.setIfInBounds (0 + x.2) x.1) z.cells)
      have e1 : ([(0, n), (n, m)].toArray[0]? : Option (Nat × Nat)) = some (0, n) := rfl
      have e2 : ([(0, n), (n, m)].toArray[1]? : Option (Nat × Nat)) = some (n, m) := rfl
      have f0 : ∀ (X : Array Value) (off : Nat) (cs : Array Value), X.zipIdx.foldl (fun cs x => cs.setIfInBounds (off + x.2) x.1) cs = (X.toList.zipIdx 0).foldl (fun cs (x : Value × Nat) => cs.setIfInBounds (off + x.2) x.1) cs := fun X off cs => by
        rw [← Array.foldl_toList, Array.toList_zipIdx]
      unfold Instr.fill
      simp only [e1]
      have hA' : (Value.agg A).cells.size = n := hA
      have hB' : (Value.agg B).cells.size = m := hB
      have c1 : (decide ((Value.agg A).cells.size ≠ n) || decide (0 + (Value.agg A).cells.size > z.cells.size)) = false := by simp; omega
      simp only [c1, Bool.false_eq_true, if_false]
      unfold Instr.fill
      simp only [e2]
      have c2 : (decide ((Value.agg B).cells.size ≠ m) || decide (n + (Value.agg B).cells.size > ((Value.agg A).cells.zipIdx.foldl (fun cs x => cs.setIfInBounds (0 + x.2) x.1) z.cells).size)) = false := by
        have hs : ((Value.agg A).cells.zipIdx.foldl (fun cs x => cs.setIfInBounds (0 + x.2) x.1) z.cells).size = z.cells.size := by rw [agg_cells, f0, g1]
        rw [hs]
        simp; omega
      simp only [c2, Bool.false_eq_true, if_false]
      unfold Instr.fill
      congr 1
      rw [agg_cells, agg_cells, f0, f0]
      apply Array.ext_getElem?
      intro k
      rw [k2 k, g1]
      simp only [Nat.add_zero, Array.length_toList, hB]
      rw [Array.getElem?_append]
      by_cases h1 : n ≤ k ∧ k < n + m
      · rw [if_pos ⟨h1.1, h1.2, by omega⟩, if_neg (by omega), hA, Array.getElem?_toList]
      · rw [if_neg (by omega), g2 k]
        simp only [Nat.zero_add, Array.length_toList, hA, Nat.sub_zero, Array.getElem?_toList]
        by_cases h2 : k < n
        · rw [if_pos ⟨by omega, h2, by omega⟩, if_pos (by omega)]
        · rw [if_neg (by omega), if_neg (by omega), Array.getElem?_eq_none (by omega), Array.getElem?_eq_none (by omega)]
end

def key72 : Array Value := tabN 64 kF 64 ++ tabN 8 hF 8
theorem key72_size : key72.size = 72 := by unfold key72; rw [Array.size_append, tabN_size, tabN_size]
theorem key72_k (i : Nat) (h : i < 64) : key72[i]? = some (.int .u32 (nth kList i)) := by
  unfold key72
  rw [Array.getElem?_append, if_pos (by rw [tabN_size]; exact h), tabN_get 64 kF 64 i h, if_pos h, kF_at i h]
theorem key72_h (i : Nat) (h : i < 8) : key72[64 + i]? = some (.int .u32 (sv hSt i)) := by
  unfold key72
  rw [Array.getElem?_append, if_neg (by rw [tabN_size]; omega), tabN_size, show 64 + i - 64 = i by omega, tabN_get 8 hF 8 i h, if_pos h, hF_at i h]
theorem key72_one : key72.all (·.oneCell') = true := by
  unfold key72
  rw [Array.all_append, tabN_one, tabN_one]
  rfl

set_option maxRecDepth 100000 in
set_option maxHeartbeats 4000000 in
theorem MakeKey_any (w : World) :
    Calls Tryd.prog 20 #[] w fun e w' => e = .returned (.agg key72) ∧ Below w.heap.size w w' := by
  have q : Hid (∀ w, Calls Tryd.prog 68 #[] w fun e w' => e = .returned (.tuple #[.agg (tabN 64 kF 64), .agg (tabN 8 hF 8)]) ∧ Below w.heap.size w w') := fun w => Constants_any w
  have hk := Lib.hid (show tabN 64 kF 64 ++ tabN 8 hF 8 = key72 from rfl)
  have hA := tabN_size 64 kF 64
  have hB := tabN_size 8 hF 8
  have oA := Lib.hid (tabN_one 64 kF 64)
  have oB := Lib.hid (tabN_one 8 hF 8)
  generalize tabN 64 kF 64 = A at *
  generalize tabN 8 hF 8 = B at *
  have HA := Lib.hid hA
  have HB := Lib.hid hB
  clear hA hB
  go_enter Tryd.func20, Tryd.ntmps20
  go_wp2_with fail
  refine (q.out _).mono ?_
  rintro e w1 ⟨rfl, hb⟩
  have hblk := Lib.hid (blk_call (heap_new w _) hb)
  have HL := Lib.hid (below_to ((Below.refl _ w).alloc (Nat.le_refl _) _) hb)
  have hlt := (Array.getElem?_eq_some_iff.1 hblk.out).1
  clear hb
  have hb3 := Lib.hid (show ∀ Z1 Z2, ((((w1.alloc Z1).alloc Z2).setRow w1.heap.size A).setRow (w1.heap.size + 1) B).heap[w.heap.size]? = w1.heap[w.heap.size]? from fun Z1 Z2 => by
    rw [setRow_other _ _ _ _ (by omega), setRow_other _ _ _ _ (by omega)]
    exact (blk_old (blk_old hblk.out _) _).trans hblk.out.symm)
  have hS1 := Lib.hid (show A.size = 64 from HA.out)
  go_wp2_with (first
    | (refine wpList_store_rowTo rfl 34 (.tmp 1) (.tmp 5) rfl rfl w1.heap.size A rfl rfl 34 _ (blk_old (blk_new w1 _ _ rfl) _) (by rw [HA.out]; kernel_rfl) (by rw [HA.out]; rfl) oA.out ?_)
    | (refine wpList_store_rowTo rfl 35 (.tmp 2) (.tmp 6) rfl rfl (w1.heap.size + 1) B rfl rfl 35 _ ((setRow_other _ _ _ _ (by omega)).trans (blk_new _ _ _ (by simp))) (by rw [HB.out]; kernel_rfl) (by rw [HB.out]; rfl) oB.out ?_)
    | (refine wpList_load_row rfl 34 (.tmp 1) rfl w1.heap.size rfl 34 A (0, 0) _ ((setRow_other _ _ _ _ (by omega)).trans (setRow_heap _ _ _ _ _ _ (blk_old (blk_new w1 _ _ rfl) _))) Tryd.underlying34 rfl (by rw [HA.out]; kernel_rfl) ?_)
    | (refine wpList_load_row rfl 35 (.tmp 2) rfl (w1.heap.size + 1) rfl 35 B (0, 0) _ (setRow_heap _ _ _ _ _ _ ((setRow_other _ _ _ _ (by omega)).trans (blk_new _ _ _ (by simp)))) Tryd.underlying35 rfl (by rw [HB.out]; kernel_rfl) ?_)
    | (refine wpList_buildTo rfl 37 _ rfl (some 9) rfl (A ++ B) ((congrArg (Tryd.prog.built _) (by simp; exact ⟨rfl, rfl⟩)).trans (built_two (n := 64) (m := 8) (by kernel_rfl) Tryd.underlying37 (by kernel_rfl) HA.out HB.out)) ?_)
    | (refine wpList_store_rowTo rfl 37 (.tmp 0) (.tmp 9) rfl rfl w.heap.size (A ++ B) rfl rfl 37 _ ((hb3.out _ _).trans hblk.out) (by rw [Array.size_append, HA.out, HB.out]; kernel_rfl) (by rw [Array.size_append, HA.out, HB.out]; rfl) (by rw [Array.all_append, oA.out, oB.out]; rfl) ?_))
  have hHL := HL.out
  refine bodyPost_ret (v := .agg (A ++ B)) (results_cell_row rfl _ _ w.heap.size 37 (A ++ B) (0, 0) _ rfl (setRow_heap _ _ _ _ _ _ ((hb3.out _ _).trans hblk.out)) Tryd.underlying37 rfl (by rw [Array.size_append, HA.out, HB.out]; kernel_rfl)) rfl ⟨by rw [hk.out], ?_⟩
  refine below_setRow (below_setRow (below_setRow (below_alloc (below_alloc hHL hHL.size _) ?_ _) hHL.size _) ?_ _) (Nat.le_refl _) _
  · have := hHL.size; simp; omega
  · have := hHL.size; omega
end Go.Proofs.YtaigngdlioplaaaDoor
