/- sha: Sum of a hash. -/
import Derived.Test.YtaigngdlioplaaaDoorShaD
namespace Go.Proofs.YtaigngdlioplaaaDoor
open Go Go.RowKit

def lenV : Value → Nat
  | .slice _ n _ => n
  | _ => 0
theorem zpad_mod (n : Nat) : zpad (n % 64) = zpad n := by unfold zpad; omega
theorem u8_one (l : List Int) : ∀ u ∈ l.map (Value.int .u8), u.oneCell' = true := by
  intro u hu
  obtain ⟨x, _, rfl⟩ := List.mem_map.1 hu
  rfl

theorem beL_range (n : Int) : ∀ k, ∀ x ∈ beL n k, 0 ≤ x ∧ x ≤ 255
  | 0, _, h => by simp [beL] at h
  | k + 1, x, h => by
    rw [beL] at h
    rcases List.mem_cons.1 h with rfl | h
    · omega
    · exact beL_range n k x h
theorem idx_st0 (s : St) (w : World) : (Instr.index 35 (.agg #[.int .u32 s.a, .int .u32 s.b, .int .u32 s.c, .int .u32 s.d, .int .u32 s.e, .int .u32 s.f, .int .u32 s.g, .int .u32 s.h]) (.int .i64 0)).run Tryd.prog w = .ok (.int .u32 s.a) w := by kernel_rfl
theorem idx_st1 (s : St) (w : World) : (Instr.index 35 (.agg #[.int .u32 s.a, .int .u32 s.b, .int .u32 s.c, .int .u32 s.d, .int .u32 s.e, .int .u32 s.f, .int .u32 s.g, .int .u32 s.h]) (.int .i64 1)).run Tryd.prog w = .ok (.int .u32 s.b) w := by kernel_rfl
theorem idx_st2 (s : St) (w : World) : (Instr.index 35 (.agg #[.int .u32 s.a, .int .u32 s.b, .int .u32 s.c, .int .u32 s.d, .int .u32 s.e, .int .u32 s.f, .int .u32 s.g, .int .u32 s.h]) (.int .i64 2)).run Tryd.prog w = .ok (.int .u32 s.c) w := by kernel_rfl
theorem idx_st3 (s : St) (w : World) : (Instr.index 35 (.agg #[.int .u32 s.a, .int .u32 s.b, .int .u32 s.c, .int .u32 s.d, .int .u32 s.e, .int .u32 s.f, .int .u32 s.g, .int .u32 s.h]) (.int .i64 3)).run Tryd.prog w = .ok (.int .u32 s.d) w := by kernel_rfl
theorem idx_st4 (s : St) (w : World) : (Instr.index 35 (.agg #[.int .u32 s.a, .int .u32 s.b, .int .u32 s.c, .int .u32 s.d, .int .u32 s.e, .int .u32 s.f, .int .u32 s.g, .int .u32 s.h]) (.int .i64 4)).run Tryd.prog w = .ok (.int .u32 s.e) w := by kernel_rfl
theorem idx_st5 (s : St) (w : World) : (Instr.index 35 (.agg #[.int .u32 s.a, .int .u32 s.b, .int .u32 s.c, .int .u32 s.d, .int .u32 s.e, .int .u32 s.f, .int .u32 s.g, .int .u32 s.h]) (.int .i64 5)).run Tryd.prog w = .ok (.int .u32 s.f) w := by kernel_rfl
theorem idx_st6 (s : St) (w : World) : (Instr.index 35 (.agg #[.int .u32 s.a, .int .u32 s.b, .int .u32 s.c, .int .u32 s.d, .int .u32 s.e, .int .u32 s.f, .int .u32 s.g, .int .u32 s.h]) (.int .i64 6)).run Tryd.prog w = .ok (.int .u32 s.g) w := by kernel_rfl
theorem idx_st7 (s : St) (w : World) : (Instr.index 35 (.agg #[.int .u32 s.a, .int .u32 s.b, .int .u32 s.c, .int .u32 s.d, .int .u32 s.e, .int .u32 s.f, .int .u32 s.g, .int .u32 s.h]) (.int .i64 7)).run Tryd.prog w = .ok (.int .u32 s.h) w := by kernel_rfl
theorem idx_st (s : St) (k : Nat) (h : k < 8) : ∀ w : World, (Instr.index 35 (.agg #[.int .u32 s.a, .int .u32 s.b, .int .u32 s.c, .int .u32 s.d, .int .u32 s.e, .int .u32 s.f, .int .u32 s.g, .int .u32 s.h]) (.int .i64 (k : Int))).run Tryd.prog w = .ok (.int .u32 (sv s k)) w := by
  intro w
  match k, h with
  | 0, _ => exact idx_st0 s w
  | 1, _ => exact idx_st1 s w
  | 2, _ => exact idx_st2 s w
  | 3, _ => exact idx_st3 s w
  | 4, _ => exact idx_st4 s w
  | 5, _ => exact idx_st5 s w
  | 6, _ => exact idx_st6 s w
  | 7, _ => exact idx_st7 s w
theorem sv_range (s : St) (h : s.Ok) (k : Nat) (hk : k < 8) : 0 ≤ sv s k ∧ sv s k < 4294967296 := by
  match k, hk with
  | 0, _ => exact h.a
  | 1, _ => exact h.b
  | 2, _ => exact h.c
  | 3, _ => exact h.d
  | 4, _ => exact h.e
  | 5, _ => exact h.f
  | 6, _ => exact h.g
  | 7, _ => exact h.h
/-- The digest, in two steps: what was mixed in, and the tail. -/
theorem sum_join (K : Nat → Int) (H : St) (l R T : List Int) (M j : Nat) (hR : l.length % 64 = R.length) (hd : l.drop (64 * (l.length / 64)) = R) (hT : R ++ [128] ++ List.replicate j 0 ++ beL (8 * (l.length : Int)) 8 = T) (hM : T.length = M) (hj : j = zpad R.length) :
    sumS K H l = strOfNums (outL (foldB K (foldB K H (nth l) (l.length / 64)) (nth T) (M / 64))) := by
  have hz : zpad R.length = zpad l.length := by rw [← hR, zpad_mod]
  have hTp : T = R ++ padL l.length l.length := by
    rw [← hT, hj, hz]
    unfold padL
    simp only [List.append_assoc, List.singleton_append]
    rfl
  have hdig : digL l = l.take (64 * (l.length / 64)) ++ T := by
    unfold digL
    rw [hTp, ← List.append_assoc, ← hd, List.take_append_drop]
  have hdl : (digL l).length = 64 * (l.length / 64) + M := by
    rw [hdig, List.length_append, List.length_take, hM]
    omega
  have hM64 : M % 64 = 0 := by
    have := pad_mod l.length l.length
    have h2 : M = R.length + (padL l.length l.length).length := by rw [← hM, hTp, List.length_append]
    omega
  unfold sumS
  rw [hdl, show (64 * (l.length / 64) + M) / 64 = l.length / 64 + M / 64 by omega, foldB_add]
  have e1 : foldB K H (nth (digL l)) (l.length / 64) = foldB K H (nth l) (l.length / 64) := by
    refine foldB_congr K H _ _ _ fun i hi => ?_
    unfold digL
    exact nth_append _ _ _ (by omega)
  have e2 : foldB K (foldB K H (nth l) (l.length / 64)) (fun i => nth (digL l) (64 * (l.length / 64) + i)) (M / 64) = foldB K (foldB K H (nth l) (l.length / 64)) (nth T) (M / 64) := by
    refine foldB_congr K _ _ _ _ fun i hi => ?_
    rw [hdig]
    unfold nth
    rw [List.getElem?_append_right (by rw [List.length_take]; omega)]
    congr 2
    rw [List.length_take]
    omega
  rw [e1, e2]
/-- Inside Sum: so many blocks of the tail are mixed in. -/
structure SumAt (w5 wr : World) (gs : Nat) (s : St) : Prop where
  low : Below gs w5 wr
  bs : wr.heap[gs]? = some (.cells (stA s) 35 (0, 0))
theorem SumAt.ext {w5 wr wx : World} {gs : Nat} {s : St} (h : SumAt w5 wr gs s) (hb : Below wr.heap.size wr wx) : SumAt w5 wx gs s :=
  ⟨h.low.trans (hb.mono (Nat.le_of_lt (Array.getElem?_eq_some_iff.1 h.bs).1)), blk_call h.bs hb⟩
/-- The state is set. -/
def sset (g : Nat) (w : World) (s : St) : World :=
  (((((((w.setCell ⟨g, 0, none⟩ (.int .u32 s.a)).setCell ⟨g, 1, none⟩ (.int .u32 s.b)).setCell ⟨g, 2, none⟩ (.int .u32 s.c)).setCell ⟨g, 3, none⟩ (.int .u32 s.d)).setCell ⟨g, 4, none⟩ (.int .u32 s.e)).setCell ⟨g, 5, none⟩ (.int .u32 s.f)).setCell ⟨g, 6, none⟩ (.int .u32 s.g)).setCell ⟨g, 7, none⟩ (.int .u32 s.h)
theorem sset_blk {g : Nat} {w : World} {s0 : St} {t : TypeId} (h : w.heap[g]? = some (.cells (stA s0) t (0, 0))) (s : St) : (sset g w s).heap[g]? = some (.cells (stA s) t (0, 0)) := by
  have h0 : w.heap[g]? = some (.cells #[.int .u32 s0.a, .int .u32 s0.b, .int .u32 s0.c, .int .u32 s0.d, .int .u32 s0.e, .int .u32 s0.f, .int .u32 s0.g, .int .u32 s0.h] t (0, 0)) := h
  have h1 : (w.setCell ⟨g, 0, none⟩ (.int .u32 s.a)).heap[g]? = some (.cells #[.int .u32 s.a, .int .u32 s0.b, .int .u32 s0.c, .int .u32 s0.d, .int .u32 s0.e, .int .u32 s0.f, .int .u32 s0.g, .int .u32 s0.h] t (0, 0)) := set_blk h0 0 _
  have h2 : ((w.setCell ⟨g, 0, none⟩ (.int .u32 s.a)).setCell ⟨g, 1, none⟩ (.int .u32 s.b)).heap[g]? = some (.cells #[.int .u32 s.a, .int .u32 s.b, .int .u32 s0.c, .int .u32 s0.d, .int .u32 s0.e, .int .u32 s0.f, .int .u32 s0.g, .int .u32 s0.h] t (0, 0)) := set_blk h1 1 _
  have h3 : (((w.setCell ⟨g, 0, none⟩ (.int .u32 s.a)).setCell ⟨g, 1, none⟩ (.int .u32 s.b)).setCell ⟨g, 2, none⟩ (.int .u32 s.c)).heap[g]? = some (.cells #[.int .u32 s.a, .int .u32 s.b, .int .u32 s.c, .int .u32 s0.d, .int .u32 s0.e, .int .u32 s0.f, .int .u32 s0.g, .int .u32 s0.h] t (0, 0)) := set_blk h2 2 _
  have h4 : ((((w.setCell ⟨g, 0, none⟩ (.int .u32 s.a)).setCell ⟨g, 1, none⟩ (.int .u32 s.b)).setCell ⟨g, 2, none⟩ (.int .u32 s.c)).setCell ⟨g, 3, none⟩ (.int .u32 s.d)).heap[g]? = some (.cells #[.int .u32 s.a, .int .u32 s.b, .int .u32 s.c, .int .u32 s.d, .int .u32 s0.e, .int .u32 s0.f, .int .u32 s0.g, .int .u32 s0.h] t (0, 0)) := set_blk h3 3 _
  have h5 : (((((w.setCell ⟨g, 0, none⟩ (.int .u32 s.a)).setCell ⟨g, 1, none⟩ (.int .u32 s.b)).setCell ⟨g, 2, none⟩ (.int .u32 s.c)).setCell ⟨g, 3, none⟩ (.int .u32 s.d)).setCell ⟨g, 4, none⟩ (.int .u32 s.e)).heap[g]? = some (.cells #[.int .u32 s.a, .int .u32 s.b, .int .u32 s.c, .int .u32 s.d, .int .u32 s.e, .int .u32 s0.f, .int .u32 s0.g, .int .u32 s0.h] t (0, 0)) := set_blk h4 4 _
  have h6 : ((((((w.setCell ⟨g, 0, none⟩ (.int .u32 s.a)).setCell ⟨g, 1, none⟩ (.int .u32 s.b)).setCell ⟨g, 2, none⟩ (.int .u32 s.c)).setCell ⟨g, 3, none⟩ (.int .u32 s.d)).setCell ⟨g, 4, none⟩ (.int .u32 s.e)).setCell ⟨g, 5, none⟩ (.int .u32 s.f)).heap[g]? = some (.cells #[.int .u32 s.a, .int .u32 s.b, .int .u32 s.c, .int .u32 s.d, .int .u32 s.e, .int .u32 s.f, .int .u32 s0.g, .int .u32 s0.h] t (0, 0)) := set_blk h5 5 _
  have h7 : (((((((w.setCell ⟨g, 0, none⟩ (.int .u32 s.a)).setCell ⟨g, 1, none⟩ (.int .u32 s.b)).setCell ⟨g, 2, none⟩ (.int .u32 s.c)).setCell ⟨g, 3, none⟩ (.int .u32 s.d)).setCell ⟨g, 4, none⟩ (.int .u32 s.e)).setCell ⟨g, 5, none⟩ (.int .u32 s.f)).setCell ⟨g, 6, none⟩ (.int .u32 s.g)).heap[g]? = some (.cells #[.int .u32 s.a, .int .u32 s.b, .int .u32 s.c, .int .u32 s.d, .int .u32 s.e, .int .u32 s.f, .int .u32 s.g, .int .u32 s0.h] t (0, 0)) := set_blk h6 6 _
  have h8 : ((((((((w.setCell ⟨g, 0, none⟩ (.int .u32 s.a)).setCell ⟨g, 1, none⟩ (.int .u32 s.b)).setCell ⟨g, 2, none⟩ (.int .u32 s.c)).setCell ⟨g, 3, none⟩ (.int .u32 s.d)).setCell ⟨g, 4, none⟩ (.int .u32 s.e)).setCell ⟨g, 5, none⟩ (.int .u32 s.f)).setCell ⟨g, 6, none⟩ (.int .u32 s.g)).setCell ⟨g, 7, none⟩ (.int .u32 s.h)).heap[g]? = some (.cells #[.int .u32 s.a, .int .u32 s.b, .int .u32 s.c, .int .u32 s.d, .int .u32 s.e, .int .u32 s.f, .int .u32 s.g, .int .u32 s.h] t (0, 0)) := set_blk h7 7 _
  exact h8
theorem sset_below (g : Nat) (w : World) (s : St) : Below g w (sset g w s) := by
  unfold sset
  refine Below.setCell (Below.setCell (Below.setCell (Below.setCell (Below.setCell (Below.setCell (Below.setCell (Below.setCell (Below.refl g w) ?_ _) ?_ _) ?_ _) ?_ _) ?_ _) ?_ _) ?_ _) ?_ _
  all_goals exact Nat.le_refl g
theorem SumAt.set {w5 wr : World} {gs : Nat} {s : St} (h : SumAt w5 wr gs s) (s2 : St) : SumAt w5 (sset gs wr s2) gs s2 := ⟨h.low.trans (sset_below gs wr s2), sset_blk h.bs s2⟩

set_option maxRecDepth 100000 in
set_option maxHeartbeats 4000000 in
theorem HSum_any (K : Nat → Int) (H : St) (g : Nat) (l : List Int) (w : World) (hh : Hid (HashAt w g K H l)) (hT : Hid (ShaT w K H)) (hl : Hid (∀ x ∈ l, 0 ≤ x ∧ x ≤ 255)) (hN : Hid (l.length ≤ 1099511000000)) :
    Calls Tryd.prog 118 #[.pointer (some ⟨g, 0, none⟩)] w fun e w' => e = .returned (.string (sumS K H l)) ∧ Below w.heap.size w w' := by
  obtain ⟨r, hb, hown⟩ := hh.out.blk
  have hlt : g < w.heap.size := hh.out.lt
  have HB := Lib.hid hb
  have hN2 := hN.out
  have c9 : w.cell? ⟨g, 9, none⟩ = some (.int .u64 l.length) := cells_of_blk hb 9 _ rfl
  have c8 : w.cell? ⟨g, 8, none⟩ = some r := cells_of_blk hb 8 _ rfl
  clear hb
  obtain ⟨R, hR⟩ : ∃ R, l.drop (64 * (l.length / 64)) = R := ⟨_, rfl⟩
  rw [hR] at hown
  have hRl : l.length % 64 = R.length := by rw [← hR, List.length_drop]; omega
  rw [hRl] at hown
  have HRL := Lib.hid hRl
  have HR := Lib.hid hR
  have hm0 : R.length < 64 := by omega
  clear hR hRl
  have hown0 : (w.alloc (.cells #[] 5)).ownsRow w.heap.size 5 1 (.slice (some ⟨w.heap.size, 0, none⟩) 0 0) 0 [] :=
    ⟨rfl, .inr ⟨w.heap.size, 0, #[], rfl, Nat.le_refl _, blk_new w _ _ rfl, Nat.le_refl _, Nat.zero_le _, rfl, rfl⟩⟩
  have HO0 := Lib.hid hown0
  have HO1 := Lib.hid (hown.call (below_alloc (Below.refl _ w) (Nat.le_refl _) (.cells #[] 5)))
  obtain ⟨ra, rc, hr⟩ := hown.form
  subst hr
  clear hown hown0
  have hone := Lib.hid (u8_one R)
  have hz0 : w.heap.size ≤ (w.alloc (.cells #[] 5)).heap.size := by simp
  have hn0 : 0 + R.length ≤ 1099511627776 := by omega
  have L0 : Hid (Below w.heap.size w (w.alloc (.cells #[] 5))) := below_alloc (Below.refl _ w) (Nat.le_refl _) _
  have hn1 : 0 + R.length + 1 ≤ 1099511627776 := by omega
  go_enter Tryd.func118, Tryd.ntmps118
  go_wp2_with (first
    | (at_builtin; refine wpList_append_row_at _ (.tmp 10) (.tmp 14) _ _ _ _ el_u8 _ 0 [] _ R.length (R.map (Value.int .u8)) HO0 hz0 HO1 hone rfl rfl rfl rfl hn0 (by decide) ?_; intro v1 w1 hown1 hg1; have L1 : Hid (Below w.heap.size w w1) := L0.out.grown hg1.out hz0 (fun k hk => Nat.le_of_eq (Option.some.inj hk)); have hz1 := Nat.le_trans hz0 hg1.out.size)
    | (at_builtin; refine wpList_append_map (.tmp 15) (.tmp 16) _ _ _ _ el_u8 (Value.int .u8) 128 _ _ R L1.out hown1 hz1 rfl rfl rfl rfl rfl hn1 (by decide) ?_; intro v2 w2 hown2 hb2 hB2; have L2 := Lib.hid hb2; clear hb2))
  have hown2 := Lib.hid (show w2.ownsRow w.heap.size 5 1 v2 (R.length + 1 + 0) ((R ++ [128] ++ List.replicate 0 0).map (Value.int .u8)) by
    have := hown2.out
    rw [Nat.zero_add] at this
    rw [List.replicate_zero, List.append_nil]
    exact this)
  clear hown1 hg1 HO0 HO1 hn0 hn1 L0 L1 hz0 hz1
  go_loopw [3] (fun v3 wr => ∃ j : Nat, Hid (j ≤ zpad R.length) ∧ Hid (wr.ownsRow w.heap.size 5 1 v3 (R.length + 1 + j) ((R ++ [128] ++ List.replicate j 0).map (Value.int .u8))) ∧ Hid (Below w.heap.size w wr)) (fun v3 _ => 200 - lenV v3)
  case atStart => exact ⟨0, Nat.zero_le _, hown2, L2⟩
  case round =>
    clear hown2 L2 hB2
    obtain ⟨j, hj, Hrow, HL⟩ := hrel
    obtain ⟨a3, c3, hv3⟩ := row_form Hrow.out
    subst hv3
    have hj2 := hj.out
    have hzp : zpad R.length = (119 - R.length) % 64 := by unfold zpad; omega
    have hB := HL.out.size
    obtain ⟨n, hn⟩ : ∃ n, R.length + 1 + j = n := ⟨_, rfl⟩
    rw [hn] at Hrow ⊢
    have hmeas : lenV (.slice a3 n c3) = n := rfl
    have HM := Lib.hid hmeas
    clear hmeas
    by_cases hm : n % 64 = 56
    · have hjz : j = zpad R.length := by omega
      have hm2 : (n : Int) % 64 = 56 := by omega
      have HZ := Lib.hid hjz
      have hn1 : n ≤ 127 := by omega
      have hbr := (HL.out.block g hlt).trans HB.out
      have e9 : wr.cell? ⟨g, 9, none⟩ = some (.int .u64 l.length) := cells_of_blk hbr 9 _ rfl
      have q := Lib.hid (put_sha w.heap.size n 8 (.slice a3 n c3) (8 * (l.length : Int)) (R ++ [128] ++ List.replicate j 0) wr Hrow hB (by show _ ≤ _; omega) (Nat.le_refl _) (by show U64 _; unfold U64; omega))
      clear hbr c9 c8 hj2 hzp
      go_wp2_with fail
      refine q.out.mono ?_
      rintro e w5 ⟨v5, rfl, hown5, hb5, hB5⟩
      have HL5 := Lib.hid (HL.out.trans hb5)
      have hbr := (HL5.out.block g hlt).trans HB.out
      have HST := Lib.hid (foldB_ok K H hT.out.ok (nth l) (l.length / 64))
      obtain ⟨st, hst⟩ : ∃ st, foldB K H (nth l) (l.length / 64) = st := ⟨_, rfl⟩
      rw [hst] at hbr HST
      have c0 : w5.cell? ⟨g, 0, none⟩ = some (.int .u32 st.a) := cells_of_blk hbr 0 _ rfl
      have c1 : w5.cell? ⟨g, 1, none⟩ = some (.int .u32 st.b) := cells_of_blk hbr 1 _ rfl
      have c2 : w5.cell? ⟨g, 2, none⟩ = some (.int .u32 st.c) := cells_of_blk hbr 2 _ rfl
      have c3 : w5.cell? ⟨g, 3, none⟩ = some (.int .u32 st.d) := cells_of_blk hbr 3 _ rfl
      have c4 : w5.cell? ⟨g, 4, none⟩ = some (.int .u32 st.e) := cells_of_blk hbr 4 _ rfl
      have c5 : w5.cell? ⟨g, 5, none⟩ = some (.int .u32 st.f) := cells_of_blk hbr 5 _ rfl
      have c6 : w5.cell? ⟨g, 6, none⟩ = some (.int .u32 st.g) := cells_of_blk hbr 6 _ rfl
      have c7 : w5.cell? ⟨g, 7, none⟩ = some (.int .u32 st.h) := cells_of_blk hbr 7 _ rfl
      obtain ⟨T, hTT⟩ : ∃ T, R ++ [128] ++ List.replicate j 0 ++ beL (8 * (l.length : Int)) 8 = T := ⟨_, rfl⟩
      rw [hTT] at hown5
      obtain ⟨M, hM⟩ : ∃ M, n + 8 = M := ⟨_, rfl⟩
      rw [hM] at hown5
      have hTl : T.length = M := by have := hown5.1; rw [List.length_map] at this; omega
      have hM64 : M % 64 = 0 := by omega
      have HTL := Lib.hid hTl
      have HTT := Lib.hid hTT
      have HSE := Lib.hid hst
      have HM64 := Lib.hid hM64
      have hMb : M ≤ 135 := by omega
      have HX : Hid (∀ i, 0 ≤ nth T i ∧ nth T i ≤ 255) := by
        have hall : ∀ x ∈ T, 0 ≤ x ∧ x ≤ 255 := by
          intro x hx
          rw [← hTT] at hx
          rcases List.mem_append.1 hx with hx | hx
          · rcases List.mem_append.1 hx with hx | hx
            · rcases List.mem_append.1 hx with hx | hx
              · rw [← HR.out] at hx
                exact hl.out x (List.mem_of_mem_drop hx)
              · rw [List.mem_singleton.1 hx]; decide
            · rw [(List.mem_replicate.1 hx).2]; decide
          · exact beL_range _ _ x hx
        intro i
        unfold nth
        cases h : T[i]? with
        | none => decide
        | some x => exact hall x (List.mem_of_getElem? h)
      have hMp : 0 < M := by omega
      obtain ⟨gT, cT, hv5⟩ : ∃ gT cT, v5 = .slice (some ⟨gT, 0, none⟩) M cT ∧ w.heap.size ≤ gT ∧ gT < w5.heap.size ∧ M ≤ cT ∧ ∀ i, i < M → w5.cell? ⟨gT, i, none⟩ = some (.int .u8 (nth T i)) := by
        rcases hown5.2 with ⟨_, h0⟩ | ⟨gT, cT, cur, rfl, hb, hg, hnc, _, _⟩
        · omega
        · refine ⟨gT, cT, rfl, hb, (Array.getElem?_eq_some_iff.1 hg).1, hnc, fun i hi => ?_⟩
          have := hown5.cells (g := gT) rfl i (.int .u8 (nth T i)) (by
            rw [List.getElem?_map]
            unfold nth
            rw [List.getElem?_eq_getElem (by omega)]
            rfl)
          rwa [Addr.add_lit, Nat.zero_add] at this
      obtain ⟨rfl, hgT, hgT2, hMc, hcT⟩ := hv5
      have HCT := Lib.hid hcT
      have HROW := Lib.hid hown5
      clear hcT hown5 hb5 hB5 hTl hTT hst hM64 hM hm hm2 hjz hn q e9 Hrow HL hB HM hn1 hj hbr
      go_wp2_with fail
      obtain ⟨gs, hgs⟩ : ∃ gs, w5.heap.size = gs := ⟨_, rfl⟩
      have S0 : Hid (SumAt w5 (w5.alloc (.cells (stA st) 35)) gs (foldB K st (nth T) 0)) :=
        ⟨by rw [← hgs]; exact below_alloc (Below.refl _ _) (Nat.le_refl _) _, by rw [← hgs]; exact blk_new _ _ _ rfl⟩
      rw [hgs] at hgT2 ⊢
      have hgw : w.heap.size ≤ gs := by omega
      obtain ⟨w6, hw6⟩ : ∃ w6, w5.alloc (.cells (stA st) 35) = w6 := ⟨_, rfl⟩
      rw [hw6] at S0
      unfold stA at hw6
      rw [hw6]
      clear hw6 c0 c1 c2 c3 c4 c5 c6 c7
      have HGS := Lib.hid hgs
      clear hgs
      go_loopw [3] (fun v3 wr => ∃ (j : Nat) (a : Option Addr) (cp : Nat), v3 = .slice a (M - 64 * j) cp ∧ Hid (j ≤ M / 64) ∧ Hid (0 < M - 64 * j → a = some ⟨gT, 64 * j, none⟩ ∧ M - 64 * j ≤ cp) ∧ Hid (SumAt w5 wr gs (foldB K st (nth T) j))) (fun v3 _ => lenV v3)
      case atStart => exact ⟨0, _, _, rfl, Nat.zero_le _, fun _ => ⟨rfl, hMc⟩, S0⟩
      case round =>
        clear S0
        obtain ⟨j2, a2, cp, rfl, hj2, ha2, HS⟩ := hrel
        have hj3 := hj2.out
        obtain ⟨m, hm⟩ : ∃ m, M - 64 * j2 = m := ⟨_, rfl⟩
        rw [hm] at ha2 ⊢
        by_cases h0 : 0 < m
        · obtain ⟨rfl, hcp⟩ := ha2.out h0
          have h64 : 64 ≤ m := by have := HM64.out; omega
          have hok := Lib.hid (foldB_ok K st HST.out (nth T) j2)
          have hnx : foldB K st (nth T) (j2 + 1) = mixS K (foldB K st (nth T) j2) (fun i => wordAt (nth T) (64 * j2 + 4 * i)) := rfl
          have HNX := Lib.hid hnx
          clear hnx
          generalize foldB K st (nth T) j2 = s1 at *
          have hb1 := HS.out.bs
          have c0 : wr.cell? ⟨gs, 0, none⟩ = some (.int .u32 s1.a) := cells_of_blk hb1 0 _ rfl
          have c1 : wr.cell? ⟨gs, 1, none⟩ = some (.int .u32 s1.b) := cells_of_blk hb1 1 _ rfl
          have c2 : wr.cell? ⟨gs, 2, none⟩ = some (.int .u32 s1.c) := cells_of_blk hb1 2 _ rfl
          have c3 : wr.cell? ⟨gs, 3, none⟩ = some (.int .u32 s1.d) := cells_of_blk hb1 3 _ rfl
          have c4 : wr.cell? ⟨gs, 4, none⟩ = some (.int .u32 s1.e) := cells_of_blk hb1 4 _ rfl
          have c5 : wr.cell? ⟨gs, 5, none⟩ = some (.int .u32 s1.f) := cells_of_blk hb1 5 _ rfl
          have c6 : wr.cell? ⟨gs, 6, none⟩ = some (.int .u32 s1.g) := cells_of_blk hb1 6 _ rfl
          have c7 : wr.cell? ⟨gs, 7, none⟩ = some (.int .u32 s1.h) := cells_of_blk hb1 7 _ rfl
          have lt1 := (Array.getElem?_eq_some_iff.1 hb1).1
          clear hb1
          have hTx : ∀ i, 0 ≤ nth T i ∧ nth T i ≤ 255 := HX.out
          have HTX := Lib.hid hTx
          clear hTx
          have qm : Hid (∀ y : ExtOf wr, Calls Tryd.prog 122 #[.agg #[.int .u32 s1.a, .int .u32 s1.b, .int .u32 s1.c, .int .u32 s1.d, .int .u32 s1.e, .int .u32 s1.f, .int .u32 s1.g, .int .u32 s1.h], .slice (some ⟨gT, 64 * j2, none⟩) 64 cp] y.w fun e w' => e = .returned (.agg (stA (foldB K st (nth T) (j2 + 1)))) ∧ Below y.w.heap.size y.w w') := by
            intro y
            have hlow := HS.out.low.trans (y.below.mono (Nat.le_of_lt lt1))
            have hTr := hT.out.below (HL5.out.trans (hlow.mono hgw)) hT.out.ltk hT.out.lth
            have hm := mix_any gT (64 * j2) 64 cp (fun i => nth T (64 * j2 + i)) s1 K y.w (Nat.le_refl _) (by show _ ≤ _; omega) (by have := hlow.size; have := HGS.out; show _ < _; omega)
              (fun i hi => (hlow.cell (p := ⟨gT, 64 * j2 + i, none⟩) hgT2).trans (HCT.out (64 * j2 + i) (by omega)))
              (fun i _ => HTX.out _) hok hTr.ltk hTr.k
            rw [HNX.out, mixS_congr K s1 (fun i => wordAt (nth T) (64 * j2 + 4 * i)) (fun i => wordAt (fun i => nth T (64 * j2 + i)) (4 * i)) (fun i _ => wordAt_congr _ _ _ _ fun k _ => by rw [Nat.add_assoc])]
            exact hm
          have h64c : 64 ≤ cp := by omega
          have HMM := Lib.hid hm
          clear hm hj3
          go_wp2_with fail
          refine wp_region_ext_tail 4 (by kernel_rfl) (by kernel_rfl) ?_
          simp only [List.take_succ_cons, List.take_zero, List.drop_succ_cons, List.drop_zero]
          repeat (go_big_quiet_step (exact ext_call (qm.out _)))
          refine wpQuiet_nil ?_
          rintro w' ⟨y, rfl⟩
          have HS7 := Lib.hid (HS.out.ext y.below)
          generalize y.w = w7 at *
          clear y c0 c1 c2 c3 c4 c5 c6 c7 lt1
          generalize hs2 : foldB K st (nth T) (j2 + 1) = s2 at *
          have HS2 := Lib.hid hs2
          clear hs2
          have hb7 := HS7.out.bs
          have d0 := cells_of_blk hb7 0 _ rfl
          have f0 := free_of_blk hb7 0
          have d1 := cells_of_blk hb7 1 _ rfl
          have f1 := free_of_blk hb7 1
          have d2 := cells_of_blk hb7 2 _ rfl
          have f2 := free_of_blk hb7 2
          have d3 := cells_of_blk hb7 3 _ rfl
          have f3 := free_of_blk hb7 3
          have d4 := cells_of_blk hb7 4 _ rfl
          have f4 := free_of_blk hb7 4
          have d5 := cells_of_blk hb7 5 _ rfl
          have f5 := free_of_blk hb7 5
          have d6 := cells_of_blk hb7 6 _ rfl
          have f6 := free_of_blk hb7 6
          have d7 := cells_of_blk hb7 7 _ rfl
          have f7 := free_of_blk hb7 7
          clear hb7
          have HS8 := Lib.hid (HS7.out.set s2)
          unfold stA
          by_cases hcap : cp = 64
          · have hm64 : m = 64 := by omega
            subst hm64
            subst hcap
            go_wp2_with fail
            go_roundw
            case rel =>
              have := HMM.out
              have hz : M - 64 * (j2 + 1) = 0 := by omega
              refine ⟨j2 + 1, some ⟨gT, 64 * j2, none⟩, 0, by rw [hz], by show _ ≤ _; omega, fun h => by omega, ?_⟩
              rw [HS2.out]
              exact HS8
            case measure => exact (by decide : (0 : Nat) < 64)
          · have hcap2 : (cp == 64) = false := by simpa using hcap
            have hcap3 : 64 < cp := by omega
            go_wp2_with fail
            go_roundw
            case rel =>
              have := HMM.out
              have hz : M - 64 * (j2 + 1) = m - 64 := by omega
              refine ⟨j2 + 1, some ⟨gT, 64 * j2 + 64, none⟩, cp - 64, by rw [hz], by show _ ≤ _; omega, fun h => ⟨by rw [show 64 * (j2 + 1) = 64 * j2 + 64 by omega], by omega⟩, ?_⟩
              rw [HS2.out]
              exact HS8
            case measure =>
              show m - 64 < m
              omega
        · have hjq : j2 = M / 64 := by have := HM64.out; omega
          have HJQ := Lib.hid hjq
          clear hjq
          have hok := Lib.hid (foldB_ok K st HST.out (nth T) j2)
          obtain ⟨s1, hs1⟩ : ∃ s1, foldB K st (nth T) j2 = s1 := ⟨_, rfl⟩
          rw [hs1] at HS hok
          have HS1 := Lib.hid hs1
          clear hs1
          have hb1 := HS.out.bs
          have c0 : wr.cell? ⟨gs, 0, none⟩ = some (.int .u32 s1.a) := cells_of_blk hb1 0 _ rfl
          have c1 : wr.cell? ⟨gs, 1, none⟩ = some (.int .u32 s1.b) := cells_of_blk hb1 1 _ rfl
          have c2 : wr.cell? ⟨gs, 2, none⟩ = some (.int .u32 s1.c) := cells_of_blk hb1 2 _ rfl
          have c3 : wr.cell? ⟨gs, 3, none⟩ = some (.int .u32 s1.d) := cells_of_blk hb1 3 _ rfl
          have c4 : wr.cell? ⟨gs, 4, none⟩ = some (.int .u32 s1.e) := cells_of_blk hb1 4 _ rfl
          have c5 : wr.cell? ⟨gs, 5, none⟩ = some (.int .u32 s1.f) := cells_of_blk hb1 5 _ rfl
          have c6 : wr.cell? ⟨gs, 6, none⟩ = some (.int .u32 s1.g) := cells_of_blk hb1 6 _ rfl
          have c7 : wr.cell? ⟨gs, 7, none⟩ = some (.int .u32 s1.h) := cells_of_blk hb1 7 _ rfl
          have lt1 := (Array.getElem?_eq_some_iff.1 hb1).1
          have HLW := Lib.hid (HL5.out.trans (HS.out.low.mono hgw))
          clear hb1 hm hj2 hj3 ha2
          go_wp2_with fail
          obtain ⟨wo, rfl⟩ : ∃ wo : World, wo = wr := ⟨_, rfl⟩
          go_loopw [5, 46] (fun v5 iv wx => ∃ k : Nat, iv = .int .i64 k ∧ Hid (k ≤ 8) ∧ Hid (wx.ownsRow wo.heap.size 5 1 v5 (4 * k) (((List.range k).flatMap fun i => beL (sv s1 i) 4).map (Value.int .u8))) ∧ Hid (Below wo.heap.size wo wx) ∧ Hid (wo.heap.size ≤ wx.heap.size)) (fun _ iv _ => 8 - (intOf iv).toNat)
          case atStart => exact ⟨0, rfl, Nat.zero_le _, World.ownsRow_nil _ _ _ _, Below.refl _ _, Nat.le_refl _⟩
          case round =>
            obtain ⟨k, rfl, hk, Hrow, HLx, Hsz⟩ := hrel
            have hk2 := hk.out
            by_cases hlt : k < 8
            · have hidx := Lib.hid (idx_st s1 k hlt)
              have hsv := sv_range s1 hok.out k hlt
              obtain ⟨x, hx⟩ : ∃ x, sv s1 k = x := ⟨_, rfl⟩
              rw [hx] at hidx hsv
              have hx0 := hsv.1
              have hx1 := hsv.2
              have hidx2 := hidx.out
              have q := Lib.hid (fun wy (h1 : Hid (wy.ownsRow wo.heap.size 5 1 u5 (4 * k) (((List.range k).flatMap fun i => beL (sv s1 i) 4).map (Value.int .u8)))) (h2 : Hid (wo.heap.size ≤ wy.heap.size)) => put_sha wo.heap.size (4 * k) 4 u5 x ((List.range k).flatMap fun i => beL (sv s1 i) 4) wy h1 h2 (by show _ ≤ _; omega) (by show (4 : Nat) ≤ 8; omega) (by show U64 _; unfold U64; omega))
              have HXX := Lib.hid hx
              clear hx hsv hidx
              go_wp2_with fail
              refine (q.out _ Hrow Hsz.out).mono ?_
              rintro e w9 ⟨v9, rfl, hown9, hb9, hB9⟩
              have H9 := Lib.hid hown9
              have L9 := Lib.hid (HLx.out.trans hb9)
              have Z9 := Lib.hid hB9
              clear hown9 hb9 hB9 hidx2
              go_wp2_with fail
              go_roundw
              case rel =>
                refine ⟨k + 1, by go_num, by show _ ≤ _; omega, ?_, L9, Z9⟩
                have e := H9.out
                rw [← HXX.out] at e
                rw [show 4 * (k + 1) = 4 * k + 4 by omega, List.range_succ, List.flatMap_append]
                simpa using Lib.hid e
              case measure => simp [intOf]; omega
            · have hk8 : k = 8 := by omega
              rw [hk8] at Hrow
              clear hk8
              have hfin : strOfNums ((List.range 8).flatMap fun i => beL (sv s1 i) 4) = sumS K H l := by
                have h1 : (List.range 8).flatMap (fun i => beL (sv s1 i) 4) = outL s1 := by
                  unfold outL
                  simp only [List.append_assoc]
                  rfl
                rw [h1, ← HS1.out, ← HSE.out, HJQ.out]
                exact (sum_join K H l R T M j HRL.out HR.out HTT.out HTL.out HZ.out).symm
              obtain ⟨O, hO⟩ : ∃ O, (List.range 8).flatMap (fun i => beL (sv s1 i) 4) = O := ⟨_, rfl⟩
              rw [hO] at hfin Hrow
              clear hO
              have HFIN := Lib.hid hfin
              have HEND := Lib.hid (HLW.out.trans (HLx.out.mono HLW.out.size))
              clear hfin
              go_wp2_with (refine wpList_string_own _ _ O _ _ _ Tryd.underlying9 _ _ el_u8 Tryd.underlying5 Hrow.out rfl rfl rfl ?_)
              go_ret
              exact ⟨by rw [HFIN.out]; rfl, HEND.out⟩
    · have hjz : j < zpad R.length := by omega
      have hm2 : ((n : Int) % 64 != 56) = true := by
        have : ¬ (n : Int) % 64 = 56 := by omega
        simpa using this
      have hn1 : n + 1 ≤ 1099511627776 := by omega
      have hnj := Lib.hid hn
      have hNB : Hid (n ≤ 127) := by show _ ≤ _; omega
      have hjz2 := Lib.hid hjz
      clear hn hzp hm hj2 hjz
      go_wp2_with (at_builtin; refine wpList_append_map _ _ _ _ _ _ el_u8 (Value.int .u8) 0 _ _ _ HL.out Hrow hB rfl rfl rfl rfl rfl hn1 (by decide) ?_; intro v4 w4 hown4 hb4 hB4; have L4 := Lib.hid hb4; clear hb4)
      go_roundw
      case rel =>
        refine ⟨j + 1, hjz2.out, ?_, L4⟩
        have e := hown4.out
        rw [show n + 1 = R.length + 1 + (j + 1) by have := hnj.out; omega, List.append_assoc, ← List.replicate_succ'] at e
        exact e
      case measure =>
        obtain ⟨a5, c5, hv5⟩ := row_form hown4.out
        rw [hv5]
        show 200 - (n + 1) < 200 - n
        have := hNB.out
        omega
end Go.Proofs.YtaigngdlioplaaaDoor
