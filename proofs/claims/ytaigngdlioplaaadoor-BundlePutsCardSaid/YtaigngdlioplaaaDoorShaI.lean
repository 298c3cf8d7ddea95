/- The reference's constants: Constants, MakeKey. -/
import Derived.Test.YtaigngdlioplaaaDoorShaH
namespace Go.Proofs.YtaigngdlioplaaaDoor
open Go Go.RowKit

/-- An array of n numbers of 32 bits, the first k of them set. -/
def tabN (n : Nat) (f : Nat → Int) (k : Nat) : Array Value := ⟨(List.range n).map fun j => .int .u32 (if j < k then f j else 0)⟩
theorem tabN_size (n : Nat) (f : Nat → Int) (k : Nat) : (tabN n f k).size = n := by unfold tabN; simp
theorem tabN_get (n : Nat) (f : Nat → Int) (k i : Nat) (h : i < n) : (tabN n f k)[i]? = some (.int .u32 (if i < k then f i else 0)) := by
  unfold tabN
  simp [h]
theorem tabN_set (n : Nat) (f : Nat → Int) (k : Nat) (h : k < n) : (tabN n f k).setIfInBounds k (.int .u32 (f k)) = tabN n f (k + 1) := by
  apply Array.ext_getElem?
  intro i
  have hs := tabN_size n f
  rw [Array.getElem?_setIfInBounds]
  by_cases hi : i < n
  · rw [tabN_get n f (k + 1) i hi, tabN_get n f k i hi]
    by_cases e : k = i
    · subst e
      rw [if_pos rfl, if_pos (by rw [hs]; omega), if_pos (by omega)]
    · rw [if_neg e]
      by_cases h2 : i < k
      · rw [if_pos h2, if_pos (by omega)]
      · rw [if_neg h2, if_neg (by omega)]
  · rw [if_neg (by omega), Array.getElem?_eq_none (by rw [hs]; omega), Array.getElem?_eq_none (by rw [hs]; omega)]
theorem tabN_zero (n : Nat) (f : Nat → Int) : tabN n f 0 = Array.replicate n (.int .u32 0) := by
  apply Array.ext_getElem?
  intro i
  by_cases hi : i < n
  · rw [tabN_get n f 0 i hi, if_neg (by omega)]; simp [hi]
  · rw [Array.getElem?_eq_none (by rw [tabN_size]; omega), Array.getElem?_eq_none (by simp; omega)]
theorem tabN_one (n : Nat) (f : Nat → Int) (k : Nat) : (tabN n f k).all (·.oneCell') = true := by
  rw [Array.all_eq_true_iff_forall_mem]
  intro v hv
  unfold tabN at hv
  simp at hv
  obtain ⟨j, _, rfl⟩ := hv
  rfl

def primeAt (i : Nat) : Nat := (primesL 312)[i]?.getD 0
def kF (i : Nat) : Int := ((rootG (primeAt i) true 37 0 % 4294967296 : Nat) : Int)
def hF (i : Nat) : Int := ((rootG (primeAt i) false 37 0 % 4294967296 : Nat) : Int)

structure ConW (w wr : World) (i j : Nat) : Prop where
  low : Below w.heap.size w wr
  b0 : wr.heap[w.heap.size]? = some (.cells (tabN 64 kF 0) 34 (0, 0))
  b1 : wr.heap[w.heap.size + 1]? = some (.cells (tabN 8 hF 0) 35 (0, 0))
  b2 : wr.heap[w.heap.size + 1 + 1]? = some (.cells (tabN 64 kF i) 34 (0, 0))
  b3 : wr.heap[w.heap.size + 1 + 1 + 1]? = some (.cells (tabN 8 hF j) 35 (0, 0))
theorem ConW.call {w wr wx : World} {i j : Nat} (h : ConW w wr i j) (hb : Below wr.heap.size wr wx) : ConW w wx i j :=
  ⟨h.low.trans (hb.mono h.low.size), blk_call h.b0 hb, blk_call h.b1 hb, blk_call h.b2 hb, blk_call h.b3 hb⟩
theorem ConW.set2 {w wr : World} {i j : Nat} (h : ConW w wr i j) (hi : i < 64) : ConW w (wr.setCell ⟨w.heap.size + 1 + 1, i, none⟩ (.int .u32 (kF i))) (i + 1) j :=
  ⟨Below.setCell h.low (by simp only []; omega) _, set_oth h.b0 _ _ (by omega), set_oth h.b1 _ _ (by omega), by rw [← tabN_set 64 kF i hi]; exact set_blk h.b2 _ _, set_oth h.b3 _ _ (by omega)⟩
theorem ConW.set3 {w wr : World} {i j : Nat} (h : ConW w wr i j) (hj : j < 8) : ConW w (wr.setCell ⟨w.heap.size + 1 + 1 + 1, j, none⟩ (.int .u32 (hF j))) i (j + 1) :=
  ⟨Below.setCell h.low (by simp only []; omega) _, set_oth h.b0 _ _ (by omega), set_oth h.b1 _ _ (by omega), set_oth h.b2 _ _ (by omega), by rw [← tabN_set 8 hF j hj]; exact set_blk h.b3 _ _⟩
theorem primes_bound : ∀ i, i < 64 → primeAt i ≤ 1000000 := by
  intro i hi
  have : (List.range 64).all (fun i => decide (primeAt i ≤ 1000000)) = true := by decide +kernel
  simpa using List.all_eq_true.1 this i (List.mem_range.2 hi)

section
variable {P : Program} {ops : Array Oper}
theorem results_cell2 {fn : Func} {p p2 : Tmp} {ty ty2 : TypeId} (h : fn.results = #[.cell p ty, .cell p2 ty2]) (tmps : Array Value) (w : World) (g g2 : Nat) (t t2 : TypeId) (cs cs2 : Array Value) (d d2 : TypeDesc)
    (hp : tmps.getD p undef = .pointer (some ⟨g, 0, none⟩)) (hp2 : tmps.getD p2 undef = .pointer (some ⟨g2, 0, none⟩)) (hg : w.heap[g]? = some (.cells cs t (0, 0))) (hg2 : w.heap[g2]? = some (.cells cs2 t2 (0, 0)))
    (hu : P.underlying ty = some d) (hd : (match d with | .struct _ | .array _ _ => true | _ => false) = true) (hi : (P.info? ty).map (·.size) = some cs.size)
    (hu2 : P.underlying ty2 = some d2) (hd2 : (match d2 with | .struct _ | .array _ _ => true | _ => false) = true) (hi2 : (P.info? ty2).map (·.size) = some cs2.size) :
    (results fn tmps).run P w = .ok (.tuple #[.agg cs, .agg cs2]) w := by
  have hp' : tmps[p]?.getD undef = .pointer (some ⟨g, 0, none⟩) := by simpa using hp
  have hp2' : tmps[p2]?.getD undef = .pointer (some ⟨g2, 0, none⟩) := by simpa using hp2
  simp [results, h, hp', hp2', asAddr, run_loadVar_row w g t ty cs (0, 0) d hg hu hd hi, run_loadVar_row w g2 t2 ty2 cs2 (0, 0) d2 hg2 hu2 hd2 hi2]
theorem any_one {md : Region.Mode} {Q : Exit → Act → World → Prop} {a : Act} {w : World} {f i : Nat} {L : Array Bool} (r : Region.ready md ops L = [i]) (h : wpOp P ops Q i (wpAny P md ops Q f (L.setIfInBounds i true)) a w) : wpAny P md ops Q (f + 1) L a w := by
  refine ⟨fun hr => (by rw [r] at hr; cases hr), fun k hk => ?_⟩
  rw [r] at hk
  have e : k = i := by simpa using hk
  subst e
  exact h
theorem any_two {md : Region.Mode} {Q : Exit → Act → World → Prop} {a : Act} {w : World} {f i j : Nat} {L : Array Bool} (r : Region.ready md ops L = [i, j]) (h : wpOp P ops Q i (wpAny P md ops Q f (L.setIfInBounds i true)) a w) (h' : wpOp P ops Q j (wpAny P md ops Q f (L.setIfInBounds j true)) a w) : wpAny P md ops Q (f + 1) L a w := by
  refine ⟨fun hr => (by rw [r] at hr; cases hr), fun k hk => ?_⟩
  rw [r] at hk
  have e : k = i ∨ k = j := by simpa using hk
  rcases e with rfl | rfl
  · exact h
  · exact h'
/-- Two loads, two stores: 0 and 1 are ready, 2 waits for 0, 3 for all. -/
theorem any_2l2s {md : Region.Mode} {Q : Exit → Act → World → Prop} {a : Act} {w : World}
    (r0 : Region.ready md ops #[false, false, false, false] = [0, 1]) (r1 : Region.ready md ops #[true, false, false, false] = [1, 2]) (r2 : Region.ready md ops #[false, true, false, false] = [0])
    (r3 : Region.ready md ops #[true, true, false, false] = [2]) (r4 : Region.ready md ops #[true, false, true, false] = [1]) (r5 : Region.ready md ops #[true, true, true, false] = [3]) (r6 : Region.ready md ops #[true, true, true, true] = [])
    (hA : wpOp P ops Q 0 (fun a w => wpOp P ops Q 1 (wpOp P ops Q 2 (wpOp P ops Q 3 (Q .normal))) a w ∧ wpOp P ops Q 2 (wpOp P ops Q 1 (wpOp P ops Q 3 (Q .normal))) a w) a w)
    (hB : wpOp P ops Q 1 (wpOp P ops Q 0 (wpOp P ops Q 2 (wpOp P ops Q 3 (Q .normal)))) a w) :
    wpAny P md ops Q 4 #[false, false, false, false] a w := by
  have e0 : ∀ a w, Q .normal a w → wpAny P md ops Q 0 #[true, true, true, true] a w := fun a w h => ⟨r6, h⟩
  have e1 : ∀ a w, wpOp P ops Q 3 (Q .normal) a w → wpAny P md ops Q 1 #[true, true, true, false] a w := fun a w h => any_one r5 (wpOp_mono e0 h)
  have e2 : ∀ a w, wpOp P ops Q 2 (wpOp P ops Q 3 (Q .normal)) a w → wpAny P md ops Q 2 #[true, true, false, false] a w := fun a w h => any_one r3 (wpOp_mono e1 h)
  have e3 : ∀ a w, wpOp P ops Q 1 (wpOp P ops Q 3 (Q .normal)) a w → wpAny P md ops Q 2 #[true, false, true, false] a w := fun a w h => any_one r4 (wpOp_mono e1 h)
  have e4 : ∀ a w, wpOp P ops Q 0 (wpOp P ops Q 2 (wpOp P ops Q 3 (Q .normal))) a w → wpAny P md ops Q 3 #[false, true, false, false] a w := fun a w h => any_one r2 (wpOp_mono e2 h)
  exact any_two r0 (wpOp_mono (fun a w h => any_two r1 (wpOp_mono e2 h.1) (wpOp_mono e3 h.2)) hA) (wpOp_mono e4 hB)
theorem wpOp_load_row {i : Nat} {o : Oper} {a : Act} {w : World} {K : Act → World → Prop} {Q : Exit → Act → World → Prop} (ty : TypeId) (x : Operand) (hi : ops[i]? = some o) (hgd : o.guard = none) (ho : o.op = .load ty x)
    (g : Nat) (hx : a.eval x = .pointer (some ⟨g, 0, none⟩)) (t : TypeId) (cs : Array Value) (d : TypeDesc) (hg : w.heap[g]? = some (.cells cs t (0, 0)))
    (hu : P.underlying ty = some d) (hd : (match d with | .struct _ | .array _ _ => true | _ => false) = true) (hs : (P.info? ty).map (·.size) = some cs.size)
    (h : K (a.put o.dst (.agg cs)) w) : wpOp P ops Q i K a w := by
  unfold wpOp
  simp only [hi]
  rw [if_pos (by simp [Region.wanted, hgd])]
  exact .inl (wp_load_row ty x ho g hx t cs (0, 0) d hg hu hd hs h)
theorem wpOp_store_row {i : Nat} {o : Oper} {a : Act} {w : World} {K : Act → World → Prop} {Q : Exit → Act → World → Prop} (ty : TypeId) (x y : Operand) (hi : ops[i]? = some o) (hgd : o.guard = none) (ho : o.op = .store ty x y)
    (g : Nat) (cells : Array Value) (hx : a.eval x = .pointer (some ⟨g, 0, none⟩)) (hy : a.eval y = .agg cells)
    (t : TypeId) (old : Array Value) (hg : w.heap[g]? = some (.cells old t (0, 0))) (hs : (P.info? ty).map (·.size) = some cells.size)
    (hold : old.size = cells.size) (h1 : cells.all (·.oneCell') = true)
    (h : K (a.put o.dst undef) (w.setRow g cells)) : wpOp P ops Q i K a w := by
  unfold wpOp
  simp only [hi]
  rw [if_pos (by simp [Region.wanted, hgd])]
  exact .inl (wp_store_row ty x y ho g cells hx hy t old hg hs hold h1 h)
end
set_option maxRecDepth 100000 in
set_option maxHeartbeats 4000000 in
theorem Constants_any (w : World) :
    Calls Tryd.prog 68 #[] w fun e w' => e = .returned (.tuple #[.agg (tabN 64 kF 64), .agg (tabN 8 hF 8)]) ∧ Below w.heap.size w w' := by
  go_enter Tryd.func68, Tryd.ntmps68
  go_wp2_with fail
  refine (primes_any _).mono ?_
  rintro e w5 ⟨v, rfl, hrow, hb⟩
  have H0 : Hid (ConW w w5 0 0) := by
    have hz : ∀ n f, tabN n f 0 = Array.replicate n (.int .u32 0) := tabN_zero
    refine ConW.call (wr := _) ⟨below_alloc (below_alloc (below_alloc (below_alloc (Below.refl _ w) (Nat.le_refl _) _) (by simp) _) (by simp; omega) _) (by simp; omega) _, ?_, ?_, ?_, ?_⟩ hb
    · rw [hz]; exact blk_old (blk_old (blk_old (blk_new _ _ _ (by simp)) _) _) _
    · rw [hz]; exact blk_old (blk_old (blk_new _ _ _ (by simp)) _) _
    · rw [hz]; exact blk_old (blk_new _ _ _ (by simp)) _
    · rw [hz]; exact blk_new _ _ _ (by simp)
  obtain ⟨g, cap, hv, hgB, hgl, hcap, hcell⟩ : ∃ g cap, v = .slice (some ⟨g, 0, none⟩) 64 cap ∧ w.heap.size + 1 + 1 + 1 < g ∧ g < w5.heap.size ∧ 64 ≤ cap ∧ ∀ i, i < 64 → w5.cell? ⟨g, i, none⟩ = some (.int .u64 ((primeAt i : Nat) : Int)) := by
    rcases hrow.2 with ⟨_, h0⟩ | ⟨g, cap, cur, rfl, hb', hg, hnc, _, _⟩
    · omega
    · refine ⟨g, cap, rfl, by simp at hb'; omega, (Array.getElem?_eq_some_iff.1 hg).1, hnc, fun i hi => ?_⟩
      have hl : (primesL 312).length = 64 := primesL_all.1
      have := hrow.cells (g := g) rfl i (.int .u64 ((primeAt i : Nat) : Int)) (by
        rw [List.getElem?_map]
        unfold primeAt
        rw [List.getElem?_eq_getElem (by omega)]
        rfl)
      rwa [Addr.add_lit, Nat.zero_add] at this
  subst hv
  have HC := Lib.hid hcell
  clear hrow hb hcell
  go_wp2_with fail
  go_loopw [5] (fun iv wr => ∃ i : Nat, iv = .int .i64 i ∧ Hid (i ≤ 64) ∧ Hid (ConW w wr i 0) ∧ Hid (∀ i, i < 64 → wr.cell? ⟨g, i, none⟩ = some (.int .u64 ((primeAt i : Nat) : Int)))) (fun iv _ => 64 - (intOf iv).toNat)
  case atStart => exact ⟨0, rfl, Nat.zero_le _, H0, HC⟩
  case round =>
    clear H0 HC
    obtain ⟨i, rfl, hi, HW, HC⟩ := hrel
    have hi2 := hi.out
    by_cases hlt : i < 64
    · have cg := HC.out i hlt
      have c2 := cells_of_blk HW.out.b2 i _ (tabN_get 64 kF i i hlt)
      have f2 := free_of_blk HW.out.b2 i
      have q := Lib.hid (fun w => root_any (primeAt i) true w (primes_bound i hlt))
      rw [show ((rootG (primeAt i) true 37 0 % 4294967296 : Nat) : Int) = kF i from rfl] at q
      have HS := Lib.hid (HW.out.set2 hlt)
      have HC2 : Hid (∀ k, k < 64 → (wr.setCell ⟨w.heap.size + 1 + 1, i, none⟩ (.int .u32 (kF i))).cell? ⟨g, k, none⟩ = some (.int .u64 ((primeAt k : Nat) : Int))) := fun k hk => (World.cell?_of_block (a := ⟨g, k, none⟩) (Below.heap_setCell _ _ _ g (by simp only []; omega))).trans (HC.out k hk)
      generalize kF i = x at *
      go_wp2_with fail
      refine (q.out _).mono ?_
      rintro e w6 ⟨rfl, rfl⟩
      go_wp2_with fail
      go_roundw
      case rel => exact ⟨i + 1, by go_num, by show _ ≤ _; omega, HS, HC2⟩
      case measure => simp [intOf]; omega
    · have hi64 : i = 64 := by omega
      rw [hi64] at HW
      clear hi64 hi
      go_wp2_with fail
      go_loopw [6] (fun jv wr => ∃ j : Nat, jv = .int .i64 j ∧ Hid (j ≤ 8) ∧ Hid (ConW w wr 64 j) ∧ Hid (∀ i, i < 64 → wr.cell? ⟨g, i, none⟩ = some (.int .u64 ((primeAt i : Nat) : Int)))) (fun jv _ => 8 - (intOf jv).toNat)
      case atStart => exact ⟨0, rfl, Nat.zero_le _, HW, HC⟩
      case round =>
        clear HW HC
        obtain ⟨j, rfl, hj, HW, HC⟩ := hrel
        have hj2 := hj.out
        by_cases hlt : j < 8
        · have cg := HC.out j (by omega)
          have c2 := cells_of_blk HW.out.b3 j _ (tabN_get 8 hF j j hlt)
          have f2 := free_of_blk HW.out.b3 j
          have q := Lib.hid (fun w => root_any (primeAt j) false w (primes_bound j (by omega)))
          rw [show ((rootG (primeAt j) false 37 0 % 4294967296 : Nat) : Int) = hF j from rfl] at q
          have HS := Lib.hid (HW.out.set3 hlt)
          have HC2 : Hid (∀ k, k < 64 → (wr.setCell ⟨w.heap.size + 1 + 1 + 1, j, none⟩ (.int .u32 (hF j))).cell? ⟨g, k, none⟩ = some (.int .u64 ((primeAt k : Nat) : Int))) := fun k hk => (World.cell?_of_block (a := ⟨g, k, none⟩) (Below.heap_setCell _ _ _ g (by simp only []; omega))).trans (HC.out k hk)
          generalize hF j = x at *
          go_wp2_with fail
          refine (q.out _).mono ?_
          rintro e w6 ⟨rfl, rfl⟩
          go_wp2_with fail
          go_roundw
          case rel => exact ⟨j + 1, by go_num, by show _ ≤ _; omega, HS, HC2⟩
          case measure => simp [intOf]; omega
        · have hj8 : j = 8 := by omega
          rw [hj8] at HW
          clear hj8 hj
          go_wp2_with fail
          have HF : Hid (∀ z : World, z.heap = ((wr.drew.setRow w.heap.size (tabN 64 kF 64)).setRow (w.heap.size + 1) (tabN 8 hF 8)).heap → z.heap[w.heap.size]? = some (.cells (tabN 64 kF 64) 34 (0, 0)) ∧ z.heap[w.heap.size + 1]? = some (.cells (tabN 8 hF 8) 35 (0, 0))) := by
            intro z hz
            rw [hz]
            have h1 := setRow_heap wr.drew w.heap.size _ (tabN 64 kF 64) 34 _ HW.out.b0
            have h2 : (wr.drew.setRow w.heap.size (tabN 64 kF 64)).heap[w.heap.size + 1]? = some (.cells (tabN 8 hF 0) 35 (0, 0)) := (setRow_other _ _ _ _ (by omega)).trans HW.out.b1
            exact ⟨(setRow_other _ _ _ _ (by omega)).trans h1, setRow_heap _ _ _ _ _ _ h2⟩
          have HE : Hid (∀ z : World, z.heap = ((wr.drew.setRow w.heap.size (tabN 64 kF 64)).setRow (w.heap.size + 1) (tabN 8 hF 8)).heap → z.os = wr.os → z.tape = wr.tape → z.output = wr.output → Below w.heap.size w z) := by
            intro z hz h1 h2 h3
            have hb : Below w.heap.size w ((wr.drew.setRow w.heap.size (tabN 64 kF 64)).setRow (w.heap.size + 1) (tabN 8 hF 8)) :=
              below_setRow (below_setRow HW.out.low.drew (Nat.le_refl _) _) (Nat.le_succ _) _
            exact ⟨h1.trans HW.out.low.os, h2.trans HW.out.low.tape, h3.trans HW.out.low.output, by rw [hz]; exact hb.size, fun k hk => by rw [hz]; exact hb.block k hk⟩
          refine wp_region_any (by kernel_rfl) (any_2l2s (by kernel_rfl) (by kernel_rfl) (by kernel_rfl) (by kernel_rfl) (by kernel_rfl) (by kernel_rfl) (by kernel_rfl) ?_ ?_)
          · refine wpOp_load_row 34 (.tmp 2) rfl rfl rfl (w.heap.size + 1 + 1) rfl _ (tabN 64 kF 64) _ HW.out.b2 Tryd.underlying34 rfl (by rw [tabN_size]; kernel_rfl) ?_
            refine ⟨?_, ?_⟩
            · refine wpOp_load_row 35 (.tmp 3) rfl rfl rfl (w.heap.size + 1 + 1 + 1) rfl _ (tabN 8 hF 8) _ HW.out.b3 Tryd.underlying35 rfl (by rw [tabN_size]; kernel_rfl) ?_
              refine wpOp_store_row 34 (.tmp 0) (.tmp 30) rfl rfl rfl w.heap.size (tabN 64 kF 64) rfl rfl _ _ HW.out.b0 (by rw [tabN_size]; kernel_rfl) (by rw [tabN_size, tabN_size]) (tabN_one _ _ _) ?_
              refine wpOp_store_row 35 (.tmp 1) (.tmp 31) rfl rfl rfl (w.heap.size + 1) (tabN 8 hF 8) rfl rfl _ _ ((setRow_other _ _ _ _ (by omega)).trans HW.out.b1) (by rw [tabN_size]; kernel_rfl) (by rw [tabN_size, tabN_size]) (tabN_one _ _ _) ?_
              go_wp2_with fail
              refine bodyPost_ret (v := .tuple #[.agg (tabN 64 kF 64), .agg (tabN 8 hF 8)]) (results_cell2 rfl _ _ w.heap.size (w.heap.size + 1) 34 35 _ _ _ _ rfl rfl (HF.out _ rfl).1 (HF.out _ rfl).2 Tryd.underlying34 rfl (by rw [tabN_size]; kernel_rfl) Tryd.underlying35 rfl (by rw [tabN_size]; kernel_rfl)) rfl ⟨rfl, ?_⟩
              exact HE.out _ rfl rfl rfl rfl
            · refine wpOp_store_row 34 (.tmp 0) (.tmp 30) rfl rfl rfl w.heap.size (tabN 64 kF 64) rfl rfl _ _ HW.out.b0 (by rw [tabN_size]; kernel_rfl) (by rw [tabN_size, tabN_size]) (tabN_one _ _ _) ?_
              refine wpOp_load_row 35 (.tmp 3) rfl rfl rfl (w.heap.size + 1 + 1 + 1) rfl _ (tabN 8 hF 8) _ ((setRow_other _ _ _ _ (by omega)).trans HW.out.b3) Tryd.underlying35 rfl (by rw [tabN_size]; kernel_rfl) ?_
              refine wpOp_store_row 35 (.tmp 1) (.tmp 31) rfl rfl rfl (w.heap.size + 1) (tabN 8 hF 8) rfl rfl _ _ ((setRow_other _ _ _ _ (by omega)).trans HW.out.b1) (by rw [tabN_size]; kernel_rfl) (by rw [tabN_size, tabN_size]) (tabN_one _ _ _) ?_
              go_wp2_with fail
              refine bodyPost_ret (v := .tuple #[.agg (tabN 64 kF 64), .agg (tabN 8 hF 8)]) (results_cell2 rfl _ _ w.heap.size (w.heap.size + 1) 34 35 _ _ _ _ rfl rfl (HF.out _ rfl).1 (HF.out _ rfl).2 Tryd.underlying34 rfl (by rw [tabN_size]; kernel_rfl) Tryd.underlying35 rfl (by rw [tabN_size]; kernel_rfl)) rfl ⟨rfl, ?_⟩
              exact HE.out _ rfl rfl rfl rfl
          · refine wpOp_load_row 35 (.tmp 3) rfl rfl rfl (w.heap.size + 1 + 1 + 1) rfl _ (tabN 8 hF 8) _ HW.out.b3 Tryd.underlying35 rfl (by rw [tabN_size]; kernel_rfl) ?_
            refine wpOp_load_row 34 (.tmp 2) rfl rfl rfl (w.heap.size + 1 + 1) rfl _ (tabN 64 kF 64) _ HW.out.b2 Tryd.underlying34 rfl (by rw [tabN_size]; kernel_rfl) ?_
            refine wpOp_store_row 34 (.tmp 0) (.tmp 30) rfl rfl rfl w.heap.size (tabN 64 kF 64) rfl rfl _ _ HW.out.b0 (by rw [tabN_size]; kernel_rfl) (by rw [tabN_size, tabN_size]) (tabN_one _ _ _) ?_
            refine wpOp_store_row 35 (.tmp 1) (.tmp 31) rfl rfl rfl (w.heap.size + 1) (tabN 8 hF 8) rfl rfl _ _ ((setRow_other _ _ _ _ (by omega)).trans HW.out.b1) (by rw [tabN_size]; kernel_rfl) (by rw [tabN_size, tabN_size]) (tabN_one _ _ _) ?_
            go_wp2_with fail
            refine bodyPost_ret (v := .tuple #[.agg (tabN 64 kF 64), .agg (tabN 8 hF 8)]) (results_cell2 rfl _ _ w.heap.size (w.heap.size + 1) 34 35 _ _ _ _ rfl rfl (HF.out _ rfl).1 (HF.out _ rfl).2 Tryd.underlying34 rfl (by rw [tabN_size]; kernel_rfl) Tryd.underlying35 rfl (by rw [tabN_size]; kernel_rfl)) rfl ⟨rfl, ?_⟩
            exact HE.out _ rfl rfl rfl rfl
end Go.Proofs.YtaigngdlioplaaaDoor
