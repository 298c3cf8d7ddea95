/- sha: put, New, Write, Len. -/
import Derived.Test.YtaigngdlioplaaaDoorShaB
import Derived.Test.YtaigngdlioplaaaDoorOwn
namespace Go.Proofs.YtaigngdlioplaaaDoor
open Go Go.RowKit

theorem beL_drop (n : Int) (r : Nat) : ∀ d, (beL n (d + r)).drop d = beL n r
  | 0 => by rw [Nat.zero_add, List.drop_zero]
  | d + 1 => by
    rw [show d + 1 + r = (d + r) + 1 by omega]
    exact beL_drop n r d
theorem beL_take (n : Int) (k r : Nat) (h : r + 1 ≤ k) : (beL n k).take (k - (r + 1)) ++ [n / 256 ^ r % 256] = (beL n k).take (k - r) := by
  obtain ⟨d, rfl⟩ : ∃ d, k = d + (r + 1) := ⟨k - (r + 1), by omega⟩
  have hd := beL_drop n (r + 1) d
  rw [show d + (r + 1) - (r + 1) = d by omega, show d + (r + 1) - r = d + 1 by omega]
  have hl : d < (beL n (d + (r + 1))).length := by rw [beL_len]; omega
  rw [List.take_succ_eq_append_getElem hl]
  congr 2
  have h0 : ((beL n (d + (r + 1))).drop d)[0]? = some (n / 256 ^ r % 256) := by rw [hd]; rfl
  rw [List.getElem?_drop, show d + 0 = d from rfl, List.getElem?_eq_getElem hl] at h0
  exact (Option.some.inj h0).symm

set_option maxRecDepth 100000 in
set_option maxHeartbeats 1000000 in
theorem put_sha (B m k : Nat) (v : Value) (n : Int) (ys : List Int) (w : World) (hown : Hid (w.ownsRow B 5 1 v m (ys.map (Value.int .u8)))) (hB : Hid (B ≤ w.heap.size)) (hm : Hid (m ≤ 1099511627000)) (hk : Hid (k ≤ 8)) (hn : Hid (U64 n)) :
    Calls Tryd.prog 123 #[v, .int .u64 n, .int .i64 k] w fun e w' => ∃ v', e = .returned v' ∧ w'.ownsRow B 5 1 v' (m + k) ((ys ++ beL n k).map (Value.int .u8)) ∧ Below B w w' ∧ B ≤ w'.heap.size := by
  have hk2 := hk.out
  have hm2 := hm.out
  have hn2 := hn.out
  unfold U64 at hn2
  go_enter Tryd.func123, Tryd.ntmps123
  go_wp2_with fail
  go_loopw [0, 7] (fun v0 iv wr => ∃ r : Nat, iv = .int .i64 ((r : Int) - 1) ∧ Hid (r ≤ k) ∧ Hid (wr.ownsRow B 5 1 v0 (m + (k - r)) ((ys ++ (beL n k).take (k - r)).map (Value.int .u8))) ∧ Hid (Below B w wr) ∧ Hid (B ≤ wr.heap.size)) (fun _ iv _ => (intOf iv + 1).toNat)
  case atStart => exact ⟨k, rfl, Nat.le_refl _, by rw [Nat.sub_self]; show World.ownsRow _ _ _ _ _ _ _; simpa using hown.out, Below.refl _ _, hB.out⟩
  case round =>
    obtain ⟨r, rfl, hr, Hrow, HB, Hsz⟩ := hrel
    have hr2 := hr.out
    by_cases h0 : 0 < r
    · obtain ⟨q, rfl⟩ : ∃ q, r = q + 1 := ⟨r - 1, by omega⟩
      have hq : ((q + 1 : Nat) : Int) - 1 = (q : Int) := by omega
      rw [hq]
      have ht := beL_take n k q (by omega)
      rw [show (256 : Int) ^ q = 2 ^ (8 * q) by rw [Int.pow_mul]; rfl] at ht
      have HT := Lib.hid ht
      clear ht
      clear hq
      have hl : m + (k - (q + 1)) + 1 ≤ 1099511627776 := by omega
      go_wp2_with (at_builtin; refine wpList_append_map _ _ _ _ _ _ el_u8 _ _ _ _ _ HB.out Hrow Hsz.out rfl rfl rfl rfl rfl hl (by decide) ?_; intro v1 w1 hown1 hb1 hB1; have HB1 := Lib.hid hb1; have HS1 := Lib.hid hB1; clear hb1 hB1)
      go_roundw
      case rel =>
        refine ⟨q, rfl, by show _ ≤ _; omega, ?_, HB1, HS1⟩
        have e1 := hown1.out
        rw [List.append_assoc, HT.out, show m + (k - (q + 1)) + 1 = m + (k - q) by omega] at e1
        exact e1
      case measure => simp [intOf]
    · have hr0 : r = 0 := by omega
      rw [hr0, Nat.sub_zero, List.take_of_length_le (by rw [beL_len]; omega)] at Hrow
      clear hr0
      have hneg : (r : Int) - 1 < 0 := by omega
      go_wp2_with fail
      go_ret
      exact ⟨_, rfl, Hrow.out, HB.out, Hsz.out⟩

/-- The tables as the program has them. -/
structure ShaT (w : World) (K : Nat → Int) (H : St) : Prop where
  k : ∀ i, i < 64 → w.cell? ⟨1, i, none⟩ = some (.int .u32 (K i))
  h : ∀ i, i < 8 → w.cell? ⟨0, i, none⟩ = some (.int .u32 (sv H i))
  ltk : 1 < w.heap.size
  lth : 0 < w.heap.size
  ok : H.Ok
theorem ShaT.below {w w' : World} {K : Nat → Int} {H : St} {B : Nat} (h : ShaT w K H) (hb : Below B w w') (hk : 1 < B) (hh : 0 < B) : ShaT w' K H :=
  ⟨fun i hi => (hb.cell (p := ⟨1, i, none⟩) hk).trans (h.k i hi), fun i hi => (hb.cell (p := ⟨0, i, none⟩) hh).trans (h.h i hi), Nat.lt_of_lt_of_le h.ltk hb.size, Nat.lt_of_lt_of_le h.lth hb.size, h.ok⟩
theorem ShaT.call {w w' : World} {K : Nat → Int} {H : St} (h : ShaT w K H) (hb : Below w.heap.size w w') : ShaT w' K H := h.below hb h.ltk h.lth

/-- A hash that has taken these bytes. -/
structure HashAt (w : World) (g : Nat) (K : Nat → Int) (H : St) (l : List Int) : Prop where
  blk : ∃ r, w.heap[g]? = some (.cells (stA (foldB K H (nth l) (l.length / 64)) ++ #[r, .int .u64 l.length]) 149 (0, 0)) ∧
    OwnAt w (g + 1) 5 r (l.length % 64) ((l.drop (64 * (l.length / 64))).map (Value.int .u8))
  lt : g + 1 ≤ w.heap.size

set_option maxRecDepth 100000 in
set_option maxHeartbeats 1000000 in
theorem New_any (K : Nat → Int) (H : St) (w : World) (hT : Hid (ShaT w K H)) :
    Calls Tryd.prog 116 #[] w fun e w' => e = .returned (.pointer (some ⟨w.heap.size, 0, none⟩)) ∧ HashAt w' w.heap.size K H [] ∧ Below w.heap.size w w' := by
  have c0 : w.cell? ⟨0, 0, none⟩ = some (.int .u32 H.a) := hT.out.h 0 (by omega)
  have c1 : w.cell? ⟨0, 1, none⟩ = some (.int .u32 H.b) := hT.out.h 1 (by omega)
  have c2 : w.cell? ⟨0, 2, none⟩ = some (.int .u32 H.c) := hT.out.h 2 (by omega)
  have c3 : w.cell? ⟨0, 3, none⟩ = some (.int .u32 H.d) := hT.out.h 3 (by omega)
  have c4 : w.cell? ⟨0, 4, none⟩ = some (.int .u32 H.e) := hT.out.h 4 (by omega)
  have c5 : w.cell? ⟨0, 5, none⟩ = some (.int .u32 H.f) := hT.out.h 5 (by omega)
  have c6 : w.cell? ⟨0, 6, none⟩ = some (.int .u32 H.g) := hT.out.h 6 (by omega)
  have c7 : w.cell? ⟨0, 7, none⟩ = some (.int .u32 H.h) := hT.out.h 7 (by omega)
  go_enter Tryd.func116, Tryd.ntmps116
  go_wp2_with fail
  go_ret
  refine ⟨rfl, ⟨⟨.slice none 0 0, blk_new _ _ _ rfl, OwnAt.nil _ _ _⟩, by simp⟩, below_alloc (Below.refl _ _) (Nat.le_refl _) _⟩

set_option maxRecDepth 100000 in
theorem nil_HSum (w : World) : Calls Tryd.prog 118 #[.pointer none] w fun e w' => e = .returned (.string ⟨#[]⟩) ∧ w = w' := by
  go_enter Tryd.func118, Tryd.ntmps118
  go_wp2_with fail
  go_ret
  exact ⟨rfl, rfl⟩
set_option maxRecDepth 100000 in
theorem nil_Write (s : ByteArray) (w : World) : Calls Tryd.prog 117 #[.pointer none, .string s] w fun e w' => e = .returned (.tuple #[]) ∧ w = w' := by
  go_enter Tryd.func117, Tryd.ntmps117
  go_wp2_with fail
  refine bodyPost_ret (v := .tuple #[]) (by simp [results, Tryd.results117, go_sem]) rfl ⟨rfl, rfl⟩
end Go.Proofs.YtaigngdlioplaaaDoor
