/- sha: Write. -/
import Derived.Test.YtaigngdlioplaaaDoorShaC
namespace Go.Proofs.YtaigngdlioplaaaDoor
open Go Go.RowKit

/-- Inside Write: so many blocks are mixed in. -/
structure WrAt (w wr : World) (g : Nat) (K : Nat → Int) (H : St) (L : List Int) (q : Nat) : Prop where
  blk : ∃ r, wr.heap[g]? = some (.cells (stA (foldB K H (nth L) q) ++ #[r, .int .u64 L.length]) 149 (0, 0)) ∧
    OwnAt wr (g + 1) 5 r (L.length - 64 * q) ((L.drop (64 * q)).map (Value.int .u8))
  low : Below g w wr
  lt : g + 1 ≤ wr.heap.size
def restLen (g : Nat) (w : World) : Nat := match w.cell? ⟨g, 8, none⟩ with
  | some (.slice _ n _) => n
  | _ => 0
theorem restLen_eq {g n cap : Nat} {a : Option Addr} {w : World} (h : w.cell? ⟨g, 8, none⟩ = some (.slice a n cap)) : restLen g w = n := by unfold restLen; rw [h]
theorem nth_append (l m : List Int) (i : Nat) (h : i < l.length) : nth (l ++ m) i = nth l i := by unfold nth; rw [List.getElem?_append_left h]
theorem strCells_bytes (s : ByteArray) : Lib.strCells s = (bytesL s).map (Value.int .u8) := by
  unfold Lib.strCells bytesL
  rw [List.map_map]
  rfl

/-- The state and the rest are set. -/
def wset (g : Nat) (w : World) (s : St) (r : Value) : World :=
  ((((((((w.setCell ⟨g, 0, none⟩ (.int .u32 s.a)).setCell ⟨g, 1, none⟩ (.int .u32 s.b)).setCell ⟨g, 2, none⟩ (.int .u32 s.c)).setCell ⟨g, 3, none⟩ (.int .u32 s.d)).setCell ⟨g, 4, none⟩ (.int .u32 s.e)).setCell ⟨g, 5, none⟩ (.int .u32 s.f)).setCell ⟨g, 6, none⟩ (.int .u32 s.g)).setCell ⟨g, 7, none⟩ (.int .u32 s.h)).setCell ⟨g, 8, none⟩ r
theorem wset_blk {g : Nat} {w : World} {s0 : St} {r0 c : Value} {t : TypeId} (h : w.heap[g]? = some (.cells (stA s0 ++ #[r0, c]) t (0, 0))) (s : St) (r : Value) : (wset g w s r).heap[g]? = some (.cells (stA s ++ #[r, c]) t (0, 0)) := by
  have h0 : w.heap[g]? = some (.cells #[.int .u32 s0.a, .int .u32 s0.b, .int .u32 s0.c, .int .u32 s0.d, .int .u32 s0.e, .int .u32 s0.f, .int .u32 s0.g, .int .u32 s0.h, r0, c] t (0, 0)) := h
  have h1 : (w.setCell ⟨g, 0, none⟩ (.int .u32 s.a)).heap[g]? = some (.cells #[.int .u32 s.a, .int .u32 s0.b, .int .u32 s0.c, .int .u32 s0.d, .int .u32 s0.e, .int .u32 s0.f, .int .u32 s0.g, .int .u32 s0.h, r0, c] t (0, 0)) := set_blk h0 0 _
  have h2 : ((w.setCell ⟨g, 0, none⟩ (.int .u32 s.a)).setCell ⟨g, 1, none⟩ (.int .u32 s.b)).heap[g]? = some (.cells #[.int .u32 s.a, .int .u32 s.b, .int .u32 s0.c, .int .u32 s0.d, .int .u32 s0.e, .int .u32 s0.f, .int .u32 s0.g, .int .u32 s0.h, r0, c] t (0, 0)) := set_blk h1 1 _
  have h3 : (((w.setCell ⟨g, 0, none⟩ (.int .u32 s.a)).setCell ⟨g, 1, none⟩ (.int .u32 s.b)).setCell ⟨g, 2, none⟩ (.int .u32 s.c)).heap[g]? = some (.cells #[.int .u32 s.a, .int .u32 s.b, .int .u32 s.c, .int .u32 s0.d, .int .u32 s0.e, .int .u32 s0.f, .int .u32 s0.g, .int .u32 s0.h, r0, c] t (0, 0)) := set_blk h2 2 _
  have h4 : ((((w.setCell ⟨g, 0, none⟩ (.int .u32 s.a)).setCell ⟨g, 1, none⟩ (.int .u32 s.b)).setCell ⟨g, 2, none⟩ (.int .u32 s.c)).setCell ⟨g, 3, none⟩ (.int .u32 s.d)).heap[g]? = some (.cells #[.int .u32 s.a, .int .u32 s.b, .int .u32 s.c, .int .u32 s.d, .int .u32 s0.e, .int .u32 s0.f, .int .u32 s0.g, .int .u32 s0.h, r0, c] t (0, 0)) := set_blk h3 3 _
  have h5 : (((((w.setCell ⟨g, 0, none⟩ (.int .u32 s.a)).setCell ⟨g, 1, none⟩ (.int .u32 s.b)).setCell ⟨g, 2, none⟩ (.int .u32 s.c)).setCell ⟨g, 3, none⟩ (.int .u32 s.d)).setCell ⟨g, 4, none⟩ (.int .u32 s.e)).heap[g]? = some (.cells #[.int .u32 s.a, .int .u32 s.b, .int .u32 s.c, .int .u32 s.d, .int .u32 s.e, .int .u32 s0.f, .int .u32 s0.g, .int .u32 s0.h, r0, c] t (0, 0)) := set_blk h4 4 _
  have h6 : ((((((w.setCell ⟨g, 0, none⟩ (.int .u32 s.a)).setCell ⟨g, 1, none⟩ (.int .u32 s.b)).setCell ⟨g, 2, none⟩ (.int .u32 s.c)).setCell ⟨g, 3, none⟩ (.int .u32 s.d)).setCell ⟨g, 4, none⟩ (.int .u32 s.e)).setCell ⟨g, 5, none⟩ (.int .u32 s.f)).heap[g]? = some (.cells #[.int .u32 s.a, .int .u32 s.b, .int .u32 s.c, .int .u32 s.d, .int .u32 s.e, .int .u32 s.f, .int .u32 s0.g, .int .u32 s0.h, r0, c] t (0, 0)) := set_blk h5 5 _
  have h7 : (((((((w.setCell ⟨g, 0, none⟩ (.int .u32 s.a)).setCell ⟨g, 1, none⟩ (.int .u32 s.b)).setCell ⟨g, 2, none⟩ (.int .u32 s.c)).setCell ⟨g, 3, none⟩ (.int .u32 s.d)).setCell ⟨g, 4, none⟩ (.int .u32 s.e)).setCell ⟨g, 5, none⟩ (.int .u32 s.f)).setCell ⟨g, 6, none⟩ (.int .u32 s.g)).heap[g]? = some (.cells #[.int .u32 s.a, .int .u32 s.b, .int .u32 s.c, .int .u32 s.d, .int .u32 s.e, .int .u32 s.f, .int .u32 s.g, .int .u32 s0.h, r0, c] t (0, 0)) := set_blk h6 6 _
  have h8 : ((((((((w.setCell ⟨g, 0, none⟩ (.int .u32 s.a)).setCell ⟨g, 1, none⟩ (.int .u32 s.b)).setCell ⟨g, 2, none⟩ (.int .u32 s.c)).setCell ⟨g, 3, none⟩ (.int .u32 s.d)).setCell ⟨g, 4, none⟩ (.int .u32 s.e)).setCell ⟨g, 5, none⟩ (.int .u32 s.f)).setCell ⟨g, 6, none⟩ (.int .u32 s.g)).setCell ⟨g, 7, none⟩ (.int .u32 s.h)).heap[g]? = some (.cells #[.int .u32 s.a, .int .u32 s.b, .int .u32 s.c, .int .u32 s.d, .int .u32 s.e, .int .u32 s.f, .int .u32 s.g, .int .u32 s.h, r0, c] t (0, 0)) := set_blk h7 7 _
  have h9 : (((((((((w.setCell ⟨g, 0, none⟩ (.int .u32 s.a)).setCell ⟨g, 1, none⟩ (.int .u32 s.b)).setCell ⟨g, 2, none⟩ (.int .u32 s.c)).setCell ⟨g, 3, none⟩ (.int .u32 s.d)).setCell ⟨g, 4, none⟩ (.int .u32 s.e)).setCell ⟨g, 5, none⟩ (.int .u32 s.f)).setCell ⟨g, 6, none⟩ (.int .u32 s.g)).setCell ⟨g, 7, none⟩ (.int .u32 s.h)).setCell ⟨g, 8, none⟩ r).heap[g]? = some (.cells #[.int .u32 s.a, .int .u32 s.b, .int .u32 s.c, .int .u32 s.d, .int .u32 s.e, .int .u32 s.f, .int .u32 s.g, .int .u32 s.h, r, c] t (0, 0)) := set_blk h8 8 _
  exact h9
theorem wset_8 {g : Nat} {w : World} {s0 : St} {r0 c : Value} {t : TypeId} (h : w.heap[g]? = some (.cells (stA s0 ++ #[r0, c]) t (0, 0))) (s : St) (r : Value) : (wset g w s r).cell? ⟨g, 8, none⟩ = some r := cells_of_blk (wset_blk h s r) 8 _ rfl
theorem wset_below (g : Nat) (w : World) (s : St) (r : Value) : Below g w (wset g w s r) := by
  unfold wset
  refine Below.setCell (Below.setCell (Below.setCell (Below.setCell (Below.setCell (Below.setCell (Below.setCell (Below.setCell (Below.setCell (Below.refl g w) ?_ _) ?_ _) ?_ _) ?_ _) ?_ _) ?_ _) ?_ _) ?_ _) ?_ _
  all_goals exact Nat.le_refl g
theorem wset_else (g : Nat) (w : World) (s : St) (r : Value) (k : Nat) (h : k ≠ g) : (wset g w s r).heap[k]? = w.heap[k]? := by
  unfold wset
  iterate 9 (refine (Below.heap_setCell _ ⟨g, _, none⟩ _ k h).trans ?_)
  rfl

set_option maxRecDepth 100000 in
set_option maxHeartbeats 4000000 in
theorem Write_any (K : Nat → Int) (H : St) (g : Nat) (l : List Int) (s : ByteArray) (w : World) (hh : Hid (HashAt w g K H l)) (hT : Hid (ShaT w K H)) (hl : Hid (∀ x ∈ l, 0 ≤ x ∧ x ≤ 255)) (hg : Hid (1 < g ∧ 0 < g)) (hN : Hid (l.length + s.size ≤ 1099511627776)) :
    Calls Tryd.prog 117 #[.pointer (some ⟨g, 0, none⟩), .string s] w fun e w' => e = .returned (.tuple #[]) ∧ HashAt w' g K H (l ++ bytesL s) ∧ Below g w w' := by
  obtain ⟨r, hb, hown⟩ := hh.out.blk
  have hlt := hh.out.lt
  have HB := Lib.hid hb
  have HO := Lib.hid hown
  have hN2 := hN.out
  have c9 : w.cell? ⟨g, 9, none⟩ = some (.int .u64 l.length) := cells_of_blk hb 9 _ rfl
  have c8 : w.cell? ⟨g, 8, none⟩ = some r := cells_of_blk hb 8 _ rfl
  have f9 := free_of_blk hb 9
  have f8 := free_of_blk hb 8
  clear hb hown
  have hrl := HO.out.lt
  have HRL := Lib.hid hrl
  clear hrl
  have hm1 : l.length % 64 + s.size ≤ 140737488355328 := by omega
  obtain ⟨w1, hw1⟩ : ∃ w1, w.setCell ⟨g, 9, none⟩ (.int .u64 ((l.length : Int) + s.size)) = w1 := ⟨_, rfl⟩
  have HW1 := Lib.hid hw1
  have B1 := set_blk HB.out 9 (.int .u64 ((l.length : Int) + s.size))
  rw [hw1] at B1
  have HO1 : Hid (OwnAt w1 (g + 1) 5 r (l.length % 64) ((l.drop (64 * (l.length / 64))).map (Value.int .u8))) := by
    rw [← hw1]
    exact HO.out.keep fun k hk => Below.heap_setCell _ _ _ k (by have := (HRL.out k hk).1; simp only []; omega)
  have L1 : Hid (Below g w w1) := by rw [← hw1]; exact Below.setCell (p := ⟨g, 9, none⟩) (Below.refl g w) (Nat.le_refl g) _
  have hz1 : g + 1 ≤ w1.heap.size := by rw [← hw1, World.size_setCell]; exact hlt
  have d8 : w1.cell? ⟨g, 8, none⟩ = some r := by
    rw [cells_of_blk B1 8 r rfl]
  have HB1 := Lib.hid B1
  clear B1 hw1
  go_enter Tryd.func117, Tryd.ntmps117
  go_wp2_with (at_builtin; rw [HW1.out]; refine wpList_append_at_string _ rfl _ _ _ _ rfl (g + 1) _ el_u8 Tryd.underlying9 r (l.length % 64) _ rfl HO1.out s rfl hm1 hz1 ?_; intro r' w2 hown2 hgr2; obtain ⟨ra, rc, hr'⟩ := hown2.out.form; subst hr'; have b2 := (hgr2.out.block g (by omega) (fun e => by have := (HRL.out g e.symm).1; omega)).trans HB1.out; have d8' := cells_of_blk b2 8 r rfl; have f8' := free_of_blk b2 8; have hb2 := Lib.hid b2; clear b2 c9 c8 f9 f8 d8)
  obtain ⟨r', hr'⟩ : ∃ r' : Value, r' = .slice ra (l.length % 64 + s.size) rc := ⟨_, rfl⟩
  rw [← hr'] at hown2 ⊢
  clear hr'
  have hw3 : (stA (foldB K H (nth l) (l.length / 64)) ++ #[r, .int .u64 l.length]).setIfInBounds 9 (.int .u64 ((l.length : Int) + s.size)) = stA (foldB K H (nth l) (l.length / 64)) ++ #[r, .int .u64 ((l.length : Int) + s.size)] := rfl
  obtain ⟨L, hL⟩ : ∃ L, l ++ bytesL s = L := ⟨_, rfl⟩
  have hLl : L.length = l.length + s.size := by rw [← hL, List.length_append, bytesL_len]
  have W0 : Hid (WrAt w (w2.setCell ⟨g, 8, none⟩ r') g K H L (l.length / 64)) := by
    have hq : foldB K H (nth l) (l.length / 64) = foldB K H (nth L) (l.length / 64) := foldB_congr K H _ _ _ fun i hi => by rw [← hL, nth_append _ _ _ (by omega)]
    have hge : ∀ k, r'.ownBlock = some k → g + 1 ≤ k := fun k hk => (hown2.out.lt k hk).1
    refine ⟨⟨r', ?_, ?_⟩, ?_, ?_⟩
    · rw [set_blk hb2.out 8 r', ← hq, hLl]
      rfl
    · have hx : (l.drop (64 * (l.length / 64))).map (Value.int .u8) ++ Lib.strCells s = (L.drop (64 * (l.length / 64))).map (Value.int .u8) := by
        rw [strCells_bytes, ← List.map_append, ← hL, List.drop_append_of_le_length (by omega)]
      rw [← hx, show L.length - 64 * (l.length / 64) = l.length % 64 + s.size by omega]
      exact hown2.out.keep fun k hk => Below.heap_setCell _ _ _ k (by have := hge k hk; simp only []; omega)
    · refine Below.setCell (p := ⟨g, 8, none⟩) ?_ (Nat.le_refl g) _
      exact L1.out.grown hgr2.out (by omega) fun k hk => by have := (HRL.out k hk).1; omega
    · rw [World.size_setCell]; exact Nat.le_trans hz1 hgr2.out.size
  have hLx : Hid (∀ x ∈ L, 0 ≤ x ∧ x ≤ 255) := by
    intro x hx
    rw [← hL] at hx
    rcases List.mem_append.1 hx with h | h
    · exact hl.out x h
    · unfold bytesL at h
      obtain ⟨b, _, rfl⟩ := List.mem_map.1 h
      have := b.toNat_lt
      omega
  have HQ : Hid (l.length / 64 ≤ L.length / 64) := by show _ ≤ _; omega
  have HL := Lib.hid hL
  generalize l.length / 64 = q0 at *
  generalize w2.setCell ⟨g, 8, none⟩ r' = w3 at *
  clear hown2 hgr2 hb2 hw3 HB1 HO1 L1 hz1 HW1 HO HB HRL hh hL
  have hLl2 : L.length ≤ 1099511627776 := by omega
  have HLL := Lib.hid hLl
  clear hLl d8' f8'
  go_loopw [25] (fun _ wr => ∃ q : Nat, Hid (q ≤ L.length / 64) ∧ Hid (WrAt w wr g K H L q)) (fun _ wr => restLen g wr)
  case atStart => exact ⟨_, HQ, W0⟩
  case round =>
    clear W0 HQ
    obtain ⟨q, hq, HW⟩ := hrel
    obtain ⟨r2, hb, ho⟩ := HW.out.blk
    have hnext : foldB K H (nth L) (q + 1) = mixS K (foldB K H (nth L) q) (fun i => wordAt (nth L) (64 * q + 4 * i)) := rfl
    have hok : Hid (foldB K H (nth L) q).Ok := foldB_ok K H hT.out.ok _ q
    have HNX := Lib.hid hnext
    obtain ⟨ra2, cap, hr2⟩ := ho.form
    subst hr2
    have HO := Lib.hid ho
    have HB := Lib.hid hb
    have c8 : wr.cell? ⟨g, 8, none⟩ = some (.slice ra2 (L.length - 64 * q) cap) := cells_of_blk hb 8 _ rfl
    have hrl := Lib.hid (restLen_eq c8)
    have lt0 : g < wr.heap.size := HW.out.lt
    clear ho hb hnext
    obtain ⟨n, hn⟩ : ∃ n, L.length - 64 * q = n := ⟨_, rfl⟩
    rw [hn] at c8 HO HB hrl
    generalize foldB K H (nth L) q = st at *
    by_cases h64 : 64 ≤ n
    · have hcells : ∃ b off, ra2 = some ⟨b, off, none⟩ ∧ g + 1 ≤ b ∧ b < wr.heap.size ∧ n ≤ cap ∧ ∀ i, i < n → wr.cell? ⟨b, off + i, none⟩ = some (.int .u8 (nth L (64 * q + i))) := by
        have ho := HO.out
        rcases ho.2 with ⟨_, h0⟩ | ⟨b, off, cap', cur, he, hb, hgb, hnc, _, _⟩
        · omega
        · injection he with h1 h2 h3
          subst h1; subst h3
          refine ⟨b, off, rfl, hb, (Array.getElem?_eq_some_iff.1 hgb).1, hnc, fun i hi => ?_⟩
          rw [ho.cell i hi]
          congr 1
          rw [List.getElem_map, List.getElem_drop]
          unfold nth
          rw [List.getElem?_eq_getElem (by omega)]
          rfl
      obtain ⟨b, off, rfl, hgb, hbl, hnc, hcl⟩ := hcells
      have HC := Lib.hid hcl
      clear hcl
      have qm : Hid (∀ y : ExtOf wr, Calls Tryd.prog 122 #[.agg #[.int .u32 st.a, .int .u32 st.b, .int .u32 st.c, .int .u32 st.d, .int .u32 st.e, .int .u32 st.f, .int .u32 st.g, .int .u32 st.h], .slice (some ⟨b, off, none⟩) 64 cap] y.w fun e w' => e = .returned (.agg (stA (foldB K H (nth L) (q + 1)))) ∧ Below y.w.heap.size y.w w') := by
        intro y
        have hTr := hT.out.below (HW.out.low.trans (y.below.mono (by omega))) hg.out.1 hg.out.2
        have hm := mix_any b off 64 cap (fun i => nth L (64 * q + i)) st K y.w (Nat.le_refl _) (by show _ ≤ _; omega) (by have := y.below.size; show _ < _; omega) (fun i hi => by rw [ExtOf.cell _ _ _ _ _ hbl]; exact HC.out i (by omega))
          (fun i hi => by
            have hi2 : 64 * q + i < L.length := by omega
            unfold nth
            rw [List.getElem?_eq_getElem hi2]
            exact hLx.out _ (List.getElem_mem hi2)) hok hTr.ltk hTr.k
        rw [HNX.out, mixS_congr K st (fun i => wordAt (nth L) (64 * q + 4 * i)) (fun i => wordAt (fun i => nth L (64 * q + i)) (4 * i)) (fun i _ => wordAt_congr _ _ _ _ fun j _ => by rw [Nat.add_assoc])]
        exact hm
      have c0 : wr.cell? ⟨g, 0, none⟩ = some (.int .u32 st.a) := cells_of_blk HB.out 0 _ rfl
      have c1 : wr.cell? ⟨g, 1, none⟩ = some (.int .u32 st.b) := cells_of_blk HB.out 1 _ rfl
      have c2 : wr.cell? ⟨g, 2, none⟩ = some (.int .u32 st.c) := cells_of_blk HB.out 2 _ rfl
      have c3 : wr.cell? ⟨g, 3, none⟩ = some (.int .u32 st.d) := cells_of_blk HB.out 3 _ rfl
      have c4 : wr.cell? ⟨g, 4, none⟩ = some (.int .u32 st.e) := cells_of_blk HB.out 4 _ rfl
      have c5 : wr.cell? ⟨g, 5, none⟩ = some (.int .u32 st.f) := cells_of_blk HB.out 5 _ rfl
      have c6 : wr.cell? ⟨g, 6, none⟩ = some (.int .u32 st.g) := cells_of_blk HB.out 6 _ rfl
      have c7 : wr.cell? ⟨g, 7, none⟩ = some (.int .u32 st.h) := cells_of_blk HB.out 7 _ rfl
      have hc64 : 64 ≤ cap := by omega
      have HN := Lib.hid hn
      clear hn
      go_wp2_with fail
      refine wp_region_ext_tail 13 (by kernel_rfl) (by kernel_rfl) ?_
      simp only [List.take_succ_cons, List.take_zero, List.drop_succ_cons, List.drop_zero]
      repeat (go_big_quiet_step (exact ext_call (qm.out _)))
      refine wpQuiet_nil ?_
      rintro w' ⟨y, rfl⟩
      have hb4 := blk_call HB.out y.below
      have HO4 := Lib.hid (HO.out.call y.below)
      have HL4 := Lib.hid (HW.out.low.trans (y.below.mono (Nat.le_of_lt lt0)))
      have lt4 := Nat.lt_of_lt_of_le lt0 y.below.size
      generalize y.w = w4 at *
      generalize hst2 : foldB K H (nth L) (q + 1) = st2 at *
      have HE2 := Lib.hid hst2
      clear hst2
      clear y c0 c1 c2 c3 c4 c5 c6 c7 c8
      have d0 := cells_of_blk hb4 0 _ rfl
      have f0 := free_of_blk hb4 0
      have d1 := cells_of_blk hb4 1 _ rfl
      have f1 := free_of_blk hb4 1
      have d2 := cells_of_blk hb4 2 _ rfl
      have f2 := free_of_blk hb4 2
      have d3 := cells_of_blk hb4 3 _ rfl
      have f3 := free_of_blk hb4 3
      have d4 := cells_of_blk hb4 4 _ rfl
      have f4 := free_of_blk hb4 4
      have d5 := cells_of_blk hb4 5 _ rfl
      have f5 := free_of_blk hb4 5
      have d6 := cells_of_blk hb4 6 _ rfl
      have f6 := free_of_blk hb4 6
      have d7 := cells_of_blk hb4 7 _ rfl
      have f7 := free_of_blk hb4 7
      have d8 : w4.cell? ⟨g, 8, none⟩ = some (.slice (some ⟨b, off, none⟩) n cap) := cells_of_blk hb4 8 _ rfl
      have f8 := free_of_blk hb4 8
      have HB4 := Lib.hid hb4
      clear hb4
      unfold stA
      have hmeas : ∀ a m c, restLen g (wset g w4 st2 (.slice a m c)) = m := fun a m c => restLen_eq (wset_8 HB4.out _ _)
      have HM := Lib.hid hmeas
      have hblk : ∀ r3, (wset g w4 st2 r3).heap[g]? = some (.cells (stA st2 ++ #[r3, .int .u64 L.length]) 149 (0, 0)) := fun r3 => wset_blk HB4.out st2 r3
      have HBL := Lib.hid hblk
      have hlow : ∀ r3, Below g w (wset g w4 st2 r3) := fun r3 => HL4.out.trans (wset_below g w4 st2 r3)
      have HLW := Lib.hid hlow
      have hown : ∀ r3 r m xs, OwnAt w4 (g + 1) 5 r m xs → OwnAt (wset g w4 st2 r3) (g + 1) 5 r m xs := fun r3 r m xs h => h.keep fun k hk => wset_else g w4 st2 r3 k (by have := (h.lt k hk).1; omega)
      have HOW := Lib.hid hown
      have hsz : ∀ r3, (wset g w4 st2 r3).heap.size = w4.heap.size := fun r3 => by unfold wset; simp only [World.size_setCell]
      have HSZ := Lib.hid hsz
      clear hmeas hblk hlow hown hsz
      by_cases hcap : cap = 64
      · have hn64 : n = 64 := by omega
        subst hn64
        subst hcap
        go_wp2_with fail
        go_roundw
        case rel =>
          refine ⟨q + 1, by have := HN.out; show _ ≤ _; omega, ⟨⟨_, by rw [HE2.out]; exact HBL.out (.slice (some ⟨b, off, none⟩) 0 0), ?_⟩, HLW.out _, by have := HSZ.out (.slice (some ⟨b, off, none⟩) 0 0); show g + 1 ≤ (wset g w4 st2 (.slice (some ⟨b, off, none⟩) 0 0)).heap.size; omega⟩⟩
          have h1 := HO4.out.drop_all
          rw [← List.map_drop, List.drop_drop] at h1
          have := HOW.out (.slice (some ⟨b, off, none⟩) 0 0) _ _ _ h1
          rw [show L.length - 64 * (q + 1) = 0 by have := HN.out; omega]
          exact this
        case measure =>
          rw [hrl.out]
          exact Nat.lt_of_le_of_lt (Nat.le_of_eq (HM.out _ _ _)) (by omega)
      · have hcap2 : (cap == 64) = false := by simpa using hcap
        have hcap3 : 64 < cap := by omega
        go_wp2_with fail
        go_roundw
        case rel =>
          refine ⟨q + 1, by have := HN.out; show _ ≤ _; omega, ⟨⟨_, by rw [HE2.out]; exact HBL.out (.slice (some ⟨b, off + 64, none⟩) (n - 64) (cap - 64)), ?_⟩, HLW.out _, by have := HSZ.out (.slice (some ⟨b, off + 64, none⟩) (n - 64) (cap - 64)); show g + 1 ≤ (wset g w4 st2 (.slice (some ⟨b, off + 64, none⟩) (n - 64) (cap - 64))).heap.size; omega⟩⟩
          have h1 := HO4.out.drop 64 (by omega)
          rw [← List.map_drop, List.drop_drop] at h1
          have := HOW.out (.slice (some ⟨b, off + 64, none⟩) (n - 64) (cap - 64)) _ _ _ h1
          rw [show L.length - 64 * (q + 1) = n - 64 by have := HN.out; omega]
          exact this
        case measure =>
          rw [hrl.out]
          exact Nat.lt_of_le_of_lt (Nat.le_of_eq (HM.out _ _ _)) (by omega)
    · go_wp2_with fail
      have hq2 := hq.out
      have hqe : q = L.length / 64 := by omega
      go_end0
      rw [HL.out]
      rw [hqe] at HW
      refine ⟨rfl, ⟨?_, HW.out.lt⟩, HW.out.low⟩
      rw [show L.length % 64 = L.length - 64 * (L.length / 64) by omega]
      exact HW.out.blk
end Go.Proofs.YtaigngdlioplaaaDoor
