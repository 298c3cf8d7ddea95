/- rules.Text (printed by genRuleG.py). -/
import Derived.Test.YteeemoknbnlopaaDoorRuleF
import Derived.Test.YteeemoknbnlopaaDoorRuleP
import Derived.Test.YteeemoknbnlopaaDoorJoin
import Derived.Test.YteeemoknbnlopaaDoorFmtInt
namespace Go.Proofs.YteeemoknbnlopaaDoor
open Go Go.RowKit
set_option linter.unusedVariables false

def textS (s : Stp) : List UInt8 := if s.over then nameS s.rule ++ [32, 111, 118, 101, 114] else nameS s.rule ++ ([32] ++ (Lib.itoa s.left ++ ([32] ++ (signS (relS s.rule) ++ ([32] ++ Lib.itoa s.right)))))
set_option maxRecDepth 100000 in
theorem Num_any (x : Int) (hx : I64 x) (w : World) (hT : Hid (TabW w)) : Calls Tryd.prog 37 #[.int .i64 x] w fun e w' => e = .returned (.string ⟨(Lib.itoa x).toArray⟩) ∧ Below w.heap.size w w' := by
  unfold I64 at hx
  have q : Hid (Calls Tryd.prog 38 #[.int .i64 x, .int .i64 10] w fun e w' => e = .returned (.string ⟨(Lib.itoa x).toArray⟩) ∧ Below w.heap.size w w') :=
    (Tryd.strconv_FormatInt_10 x (by omega) (by omega) w hT.out).mono fun e w' ⟨he, k, os, hw⟩ => ⟨he, by rw [hw]; exact Lib.below_grow _ w (Nat.le_refl _) k os⟩
  have hl := itoa_len (x := x) (by omega) (by omega)
  go_enter Tryd.func37, Tryd.ntmps37
  go_wp2_with fail
  refine q.out.mono ?_
  rintro e w' ⟨rfl, hb⟩
  have HB := Lib.hid hb
  clear hb
  go_wp2_with fail
  go_ret
  exact ⟨rfl, HB.out⟩

set_option maxRecDepth 100000 in
set_option maxHeartbeats 1000000 in
theorem Text_over (r a b : Int) (hr : I64 r) (w : World) (hT : Hid (Law16 w)) : Calls Tryd.prog 25 #[.agg #[.int .i64 r, .int .i64 a, .int .i64 b, .bool true]] w fun e w' => e = .returned (.string ⟨(nameS r ++ [32, 111, 118, 101, 114]).toArray⟩) ∧ Below w.heap.size w w' := by
  have hb := (Below.refl w.heap.size w).alloc (Nat.le_refl _) (.cells #[.int .i64 r, .int .i64 a, .int .i64 b, .bool true] 39)
  have HB := Lib.hid hb
  have q := Lib.hid (Name_any r hr _ (Lib.hid (hT.out.call hb).rules))
  have hl := nameS_len r
  clear hb
  go_enter Tryd.func25, Tryd.ntmps25
  go_wp2_with fail
  refine q.out.mono ?_
  rintro e w' ⟨rfl, hb⟩
  have HB2 := Lib.hid (HB.out.trans (hb.mono HB.out.size))
  clear hb
  go_wp2_with fail
  go_ret
  exact ⟨by rw [← bytes_append]; rfl, HB2.out⟩
set_option maxRecDepth 100000 in
set_option maxHeartbeats 2000000 in
theorem Text_rel0 (r a b : Int) (hr : I64 r) (ha : I64 a) (hb' : I64 b) (h : relS r = 0) (w : World) (hT : Hid (Law16 w)) : Calls Tryd.prog 25 #[.agg #[.int .i64 r, .int .i64 a, .int .i64 b, .bool false]] w fun e w' => e = .returned (.string ⟨(nameS r ++ ([32] ++ (Lib.itoa a ++ ([32] ++ (signS (relS r) ++ ([32] ++ Lib.itoa b)))))).toArray⟩) ∧ Below w.heap.size w w' := by
  have hb := (Below.refl w.heap.size w).alloc (Nat.le_refl _) (.cells #[.int .i64 r, .int .i64 a, .int .i64 b, .bool false] 39)
  have HB := Lib.hid hb
  have hT1 := Lib.hid (hT.out.call hb)
  have hk : (w.alloc (.cells #[.int .i64 r, .int .i64 a, .int .i64 b, .bool false] 39)).heap[w.heap.size]? = some (.cells #[.int .i64 r, .int .i64 a, .int .i64 b, .bool false] 39) := heap_new _ _
  have C0 := Lib.hid (And.intro (cells_of_blk hk 0 _ rfl) (And.intro (cells_of_blk hk 1 _ rfl) (And.intro (cells_of_blk hk 2 _ rfl) (Array.getElem?_eq_some_iff.1 hk).1)))
  clear hk hb
  have qn := Lib.hid (fun w h => Name_any r hr w h)
  have qa := Lib.hid (fun w h => Num_any a ha w h)
  have qb := Lib.hid (fun w h => Num_any b hb' w h)
  have ql : Hid (∀ w, Hid (RulesT w) → Calls Tryd.prog 20 #[.int .i64 r] w fun e w' => e = .returned (.int .i64 0) ∧ Below w.heap.size w w') := by
    intro w h1
    have h2 := Relation_any r hr w h1
    rw [h] at h2
    exact h2
  have l1 := nameS_len r
  have l2 := itoa_len (x := a) (by unfold I64 at ha; omega) (by unfold I64 at ha; omega)
  have l3 := itoa_len (x := b) (by unfold I64 at hb'; omega) (by unfold I64 at hb'; omega)
  rw [show signS (relS r) = [63] by rw [h]; rfl]
  clear h hr ha hb'
  generalize nameS r = nm at *
  generalize Lib.itoa a = ia at *
  generalize Lib.itoa b = ib at *
  have LL := Lib.hid (And.intro l1 (And.intro l2 l3))
  clear l1 l2 l3
  go_enter Tryd.func25, Tryd.ntmps25
  go_wp2_with fail
  generalize hG : w.heap.size = G at *
  have HG := Lib.hid hG
  clear hG
  generalize w.alloc (.cells #[.int .i64 r, .int .i64 a, .int .i64 b, .bool false] 39) = w1 at *
  have HC : Hid (Below w1.heap.size w1 w1.drew) := (Below.refl _ _).drew
  refine wp_region_D [] (fun wz => Hid (Below w1.heap.size w1 wz)) 20 #[false, false, false, false, false, false, false, false, false, false, false, false, false, false, false, false, false, false, false, false] (by kernel_rfl) (by kernel_rfl) (by kernel_rfl) ?_
  refine pure_moreD [0, 1] 18 (L' := #[true, true, false, false, false, false, false, false, false, false, false, false, false, false, false, false, false, false, false, false]) (by kernel_rfl) (by kernel_rfl) HC ?_
  simp only [opsAt, List.getElem?_toArray, List.getElem?_cons_zero, List.getElem?_cons_succ]
  refine pure_atG (.pointer (some ⟨G, 0, none⟩)) rfl (fun wz _ => by unfold execOp; go_simp) ?_
  refine pure_atG (.int .i64 r) rfl (fun wz hC => by have h0 := ((Hid.out hC).cell (p := ⟨G, 0, none⟩) C0.out.2.2.2).trans C0.out.1; unfold execOp; go_simp) ?_
  unfold wpPure
  go_simp
  refine pure_moreD [3] 17 (L' := #[true, true, false, true, false, false, false, false, false, false, false, false, false, false, false, false, false, false, false, false]) (by kernel_rfl) (by kernel_rfl) HC ?_
  simp only [opsAt, List.getElem?_toArray, List.getElem?_cons_zero, List.getElem?_cons_succ]
  refine pure_moveG rfl rfl ?_
  unfold wpPure
  go_simp
  refine pure_moreD [4, 5] 15 (L' := #[true, true, false, true, true, true, false, false, false, false, false, false, false, false, false, false, false, false, false, false]) (by kernel_rfl) (by kernel_rfl) HC ?_
  simp only [opsAt, List.getElem?_toArray, List.getElem?_cons_zero, List.getElem?_cons_succ]
  refine pure_atG (.pointer (some ⟨G, 1, none⟩)) rfl (fun wz _ => by unfold execOp; go_simp) ?_
  refine pure_atG (.int .i64 a) rfl (fun wz hC => by have h0 := ((Hid.out hC).cell (p := ⟨G, 1, none⟩) C0.out.2.2.2).trans C0.out.2.1; unfold execOp; go_simp) ?_
  unfold wpPure
  go_simp
  refine pure_moreD [7, 8] 13 (L' := #[true, true, false, true, true, true, false, true, true, false, false, false, false, false, false, false, false, false, false, false]) (by kernel_rfl) (by kernel_rfl) HC ?_
  simp only [opsAt, List.getElem?_toArray, List.getElem?_cons_zero, List.getElem?_cons_succ]
  refine pure_atG (.pointer (some ⟨G, 0, none⟩)) rfl (fun wz _ => by unfold execOp; go_simp) ?_
  refine pure_atG (.int .i64 r) rfl (fun wz hC => by have h0 := ((Hid.out hC).cell (p := ⟨G, 0, none⟩) C0.out.2.2.2).trans C0.out.1; unfold execOp; go_simp) ?_
  unfold wpPure
  go_simp
  refine pure_moreD [13] 12 (L' := #[true, true, false, true, true, true, false, true, true, false, false, false, false, true, false, false, false, false, false, false]) (by kernel_rfl) (by kernel_rfl) HC ?_
  simp only [opsAt, List.getElem?_toArray, List.getElem?_cons_zero, List.getElem?_cons_succ]
  refine pure_moveG rfl rfl ?_
  unfold wpPure
  go_simp
  refine pure_moreD [14, 15] 10 (L' := #[true, true, false, true, true, true, false, true, true, false, false, false, false, true, true, true, false, false, false, false]) (by kernel_rfl) (by kernel_rfl) HC ?_
  simp only [opsAt, List.getElem?_toArray, List.getElem?_cons_zero, List.getElem?_cons_succ]
  refine pure_atG (.pointer (some ⟨G, 2, none⟩)) rfl (fun wz _ => by unfold execOp; go_simp) ?_
  refine pure_atG (.int .i64 b) rfl (fun wz hC => by have h0 := ((Hid.out hC).cell (p := ⟨G, 2, none⟩) C0.out.2.2.2).trans C0.out.2.2.1; unfold execOp; go_simp) ?_
  unfold wpPure
  go_simp
  refine wpAnyD_one 2 (f := 9) (L' := #[true, true, true, true, true, true, false, true, true, false, false, false, false, true, true, true, false, false, false, false]) (by kernel_rfl) (by kernel_rfl) rfl rfl ?_
  go_wp2_with fail
  with_reducible refine (qn.out _ (Lib.hid (hT1.out.call HC.out).rules)).mono ?_
  rintro e w2 ⟨rfl, hb⟩
  replace HC : Hid (Below w1.heap.size w1 w2) := HC.out.trans (hb.mono HC.out.size)
  clear hb
  go_wp2_with fail
  rw [StepQ_normal]
  refine ⟨fun _ => HC, ?_⟩
  refine wpAnyD_one 6 (f := 8) (L' := #[true, true, true, true, true, true, true, true, true, false, false, false, false, true, true, true, false, false, false, false]) (by kernel_rfl) (by kernel_rfl) rfl rfl ?_
  go_wp2_with fail
  with_reducible refine (qa.out _ (Lib.hid (hT1.out.call HC.out).tab)).mono ?_
  rintro e w3 ⟨rfl, hb⟩
  replace HC : Hid (Below w1.heap.size w1 w3) := HC.out.trans (hb.mono HC.out.size)
  clear hb
  go_wp2_with fail
  rw [StepQ_normal]
  refine ⟨fun _ => HC, ?_⟩
  refine wpAnyD_one 9 (f := 7) (L' := #[true, true, true, true, true, true, true, true, true, true, false, false, false, true, true, true, false, false, false, false]) (by kernel_rfl) (by kernel_rfl) rfl rfl ?_
  go_wp2_with fail
  with_reducible refine (ql.out _ (Lib.hid (hT1.out.call HC.out).rules)).mono ?_
  rintro e w4 ⟨rfl, hb⟩
  replace HC : Hid (Below w1.heap.size w1 w4) := HC.out.trans (hb.mono HC.out.size)
  clear hb
  go_wp2_with fail
  rw [StepQ_normal]
  refine ⟨fun _ => HC, ?_⟩
  have G1 := Lib.hid (And.intro hT1.out.rels.c0.1 hT1.out.rels.lt)
  refine pure_moreD [10, 11, 12] 4 (L' := #[true, true, true, true, true, true, true, true, true, true, true, true, true, true, true, true, false, false, false, false]) (by kernel_rfl) (by kernel_rfl) HC ?_
  simp only [opsAt, List.getElem?_toArray, List.getElem?_cons_zero, List.getElem?_cons_succ]
  refine pure_atG (.pointer (some ⟨0, 0, none⟩)) rfl (fun wz _ => by unfold execOp; go_simp) ?_
  refine pure_atG (.pointer (some ⟨0, 0, none⟩)) rfl (fun wz _ => by unfold execOp; go_simp) ?_
  refine pure_atG (.string ⟨#[63]⟩) rfl (fun wz hC => by have h0 := ((Hid.out hC).cell (p := ⟨0, 0, none⟩) G1.out.2).trans G1.out.1; unfold execOp; go_simp) ?_
  unfold wpPure
  go_simp
  refine wpAnyD_one 16 (f := 3) (L' := #[true, true, true, true, true, true, true, true, true, true, true, true, true, true, true, true, true, false, false, false]) (by kernel_rfl) (by kernel_rfl) rfl rfl ?_
  go_wp2_with fail
  with_reducible refine (qb.out _ (Lib.hid (hT1.out.call HC.out).tab)).mono ?_
  rintro e w5 ⟨rfl, hb⟩
  replace HC : Hid (Below w1.heap.size w1 w5) := HC.out.trans (hb.mono HC.out.size)
  clear hb
  go_wp2_with fail
  rw [StepQ_normal]
  refine ⟨fun _ => HC, ?_⟩
  have hk5 : (w5.alloc (.cells #[.string ⟨nm.toArray⟩, .string ⟨ia.toArray⟩, .string ⟨#[63]⟩, .string ⟨ib.toArray⟩] 9)).heap[w5.heap.size]? = some (.cells #[.string ⟨nm.toArray⟩, .string ⟨ia.toArray⟩, .string ⟨#[63]⟩, .string ⟨ib.toArray⟩] 9) := heap_new _ _
  have qj := Lib.hid (Tryd.strings_Join w5.heap.size 0 4 [⟨nm.toArray⟩, ⟨ia.toArray⟩, ⟨#[63]⟩, ⟨ib.toArray⟩] ⟨#[32]⟩ (w5.alloc (.cells #[.string ⟨nm.toArray⟩, .string ⟨ia.toArray⟩, .string ⟨#[63]⟩, .string ⟨ib.toArray⟩] 9)) (fun j x hj => by
    rw [Nat.zero_add]
    match j, hj with
    | 0, hj => cases hj; exact cells_of_blk hk5 0 _ rfl
    | 1, hj => cases hj; exact cells_of_blk hk5 1 _ rfl
    | 2, hj => cases hj; exact cells_of_blk hk5 2 _ rfl
    | 3, hj => cases hj; exact cells_of_blk hk5 3 _ rfl
    | j + 4, hj => simp at hj) (Array.getElem?_eq_some_iff.1 hk5).1 (by simp) (by simp) (by
      have := LL.out
      simp [Lib.join]
      omega))
  have HB5 := Lib.hid (below_alloc HC.out HC.out.size (.cells #[.string ⟨nm.toArray⟩, .string ⟨ia.toArray⟩, .string ⟨#[63]⟩, .string ⟨ib.toArray⟩] 9))
  clear hk5
  refine wpAnyD_one 17 (f := 2) (L' := #[true, true, true, true, true, true, true, true, true, true, true, true, true, true, true, true, true, true, false, false]) (by kernel_rfl) (by kernel_rfl) rfl rfl ?_
  go_wp2_with fail
  rw [StepQ_normal]
  refine ⟨fun _ => HB5, ?_⟩
  refine wpAnyD_one 18 (f := 1) (L' := #[true, true, true, true, true, true, true, true, true, true, true, true, true, true, true, true, true, true, true, false]) (by kernel_rfl) (by kernel_rfl) rfl rfl ?_
  go_wp2_with fail
  refine qj.out.mono ?_
  rintro e w6 ⟨rfl, hb⟩
  replace HC : Hid (Below w1.heap.size w1 w6) := HB5.out.trans (hb.mono HB5.out.size)
  clear hb
  go_wp2_with fail
  rw [StepQ_normal]
  refine ⟨fun _ => HC, ?_⟩
  refine wpAnyD_one 19 (f := 0) (L' := #[true, true, true, true, true, true, true, true, true, true, true, true, true, true, true, true, true, true, true, true]) (by kernel_rfl) (by kernel_rfl) rfl rfl ?_
  go_wp2_with fail
  rw [StepQ_normal]
  refine ⟨fun _ => HC, ?_⟩
  refine ⟨by kernel_rfl, ?_⟩
  rw [OnlyN_normal]
  go_wp2_with fail
  go_ret
  exact ⟨by simp [Lib.join], by rw [HG.out]; exact HB.out.trans (HC.out.mono (Nat.le_of_lt C0.out.2.2.2))⟩
set_option maxRecDepth 100000 in
set_option maxHeartbeats 2000000 in
theorem Text_rel1 (r a b : Int) (hr : I64 r) (ha : I64 a) (hb' : I64 b) (h : relS r = 1) (w : World) (hT : Hid (Law16 w)) : Calls Tryd.prog 25 #[.agg #[.int .i64 r, .int .i64 a, .int .i64 b, .bool false]] w fun e w' => e = .returned (.string ⟨(nameS r ++ ([32] ++ (Lib.itoa a ++ ([32] ++ (signS (relS r) ++ ([32] ++ Lib.itoa b)))))).toArray⟩) ∧ Below w.heap.size w w' := by
  have hb := (Below.refl w.heap.size w).alloc (Nat.le_refl _) (.cells #[.int .i64 r, .int .i64 a, .int .i64 b, .bool false] 39)
  have HB := Lib.hid hb
  have hT1 := Lib.hid (hT.out.call hb)
  have hk : (w.alloc (.cells #[.int .i64 r, .int .i64 a, .int .i64 b, .bool false] 39)).heap[w.heap.size]? = some (.cells #[.int .i64 r, .int .i64 a, .int .i64 b, .bool false] 39) := heap_new _ _
  have C0 := Lib.hid (And.intro (cells_of_blk hk 0 _ rfl) (And.intro (cells_of_blk hk 1 _ rfl) (And.intro (cells_of_blk hk 2 _ rfl) (Array.getElem?_eq_some_iff.1 hk).1)))
  clear hk hb
  have qn := Lib.hid (fun w h => Name_any r hr w h)
  have qa := Lib.hid (fun w h => Num_any a ha w h)
  have qb := Lib.hid (fun w h => Num_any b hb' w h)
  have ql : Hid (∀ w, Hid (RulesT w) → Calls Tryd.prog 20 #[.int .i64 r] w fun e w' => e = .returned (.int .i64 1) ∧ Below w.heap.size w w') := by
    intro w h1
    have h2 := Relation_any r hr w h1
    rw [h] at h2
    exact h2
  have l1 := nameS_len r
  have l2 := itoa_len (x := a) (by unfold I64 at ha; omega) (by unfold I64 at ha; omega)
  have l3 := itoa_len (x := b) (by unfold I64 at hb'; omega) (by unfold I64 at hb'; omega)
  rw [show signS (relS r) = [60, 61] by rw [h]; rfl]
  clear h hr ha hb'
  generalize nameS r = nm at *
  generalize Lib.itoa a = ia at *
  generalize Lib.itoa b = ib at *
  have LL := Lib.hid (And.intro l1 (And.intro l2 l3))
  clear l1 l2 l3
  go_enter Tryd.func25, Tryd.ntmps25
  go_wp2_with fail
  generalize hG : w.heap.size = G at *
  have HG := Lib.hid hG
  clear hG
  generalize w.alloc (.cells #[.int .i64 r, .int .i64 a, .int .i64 b, .bool false] 39) = w1 at *
  have HC : Hid (Below w1.heap.size w1 w1.drew) := (Below.refl _ _).drew
  refine wp_region_D [] (fun wz => Hid (Below w1.heap.size w1 wz)) 20 #[false, false, false, false, false, false, false, false, false, false, false, false, false, false, false, false, false, false, false, false] (by kernel_rfl) (by kernel_rfl) (by kernel_rfl) ?_
  refine pure_moreD [0, 1] 18 (L' := #[true, true, false, false, false, false, false, false, false, false, false, false, false, false, false, false, false, false, false, false]) (by kernel_rfl) (by kernel_rfl) HC ?_
  simp only [opsAt, List.getElem?_toArray, List.getElem?_cons_zero, List.getElem?_cons_succ]
  refine pure_atG (.pointer (some ⟨G, 0, none⟩)) rfl (fun wz _ => by unfold execOp; go_simp) ?_
  refine pure_atG (.int .i64 r) rfl (fun wz hC => by have h0 := ((Hid.out hC).cell (p := ⟨G, 0, none⟩) C0.out.2.2.2).trans C0.out.1; unfold execOp; go_simp) ?_
  unfold wpPure
  go_simp
  refine pure_moreD [3] 17 (L' := #[true, true, false, true, false, false, false, false, false, false, false, false, false, false, false, false, false, false, false, false]) (by kernel_rfl) (by kernel_rfl) HC ?_
  simp only [opsAt, List.getElem?_toArray, List.getElem?_cons_zero, List.getElem?_cons_succ]
  refine pure_moveG rfl rfl ?_
  unfold wpPure
  go_simp
  refine pure_moreD [4, 5] 15 (L' := #[true, true, false, true, true, true, false, false, false, false, false, false, false, false, false, false, false, false, false, false]) (by kernel_rfl) (by kernel_rfl) HC ?_
  simp only [opsAt, List.getElem?_toArray, List.getElem?_cons_zero, List.getElem?_cons_succ]
  refine pure_atG (.pointer (some ⟨G, 1, none⟩)) rfl (fun wz _ => by unfold execOp; go_simp) ?_
  refine pure_atG (.int .i64 a) rfl (fun wz hC => by have h0 := ((Hid.out hC).cell (p := ⟨G, 1, none⟩) C0.out.2.2.2).trans C0.out.2.1; unfold execOp; go_simp) ?_
  unfold wpPure
  go_simp
  refine pure_moreD [7, 8] 13 (L' := #[true, true, false, true, true, true, false, true, true, false, false, false, false, false, false, false, false, false, false, false]) (by kernel_rfl) (by kernel_rfl) HC ?_
  simp only [opsAt, List.getElem?_toArray, List.getElem?_cons_zero, List.getElem?_cons_succ]
  refine pure_atG (.pointer (some ⟨G, 0, none⟩)) rfl (fun wz _ => by unfold execOp; go_simp) ?_
  refine pure_atG (.int .i64 r) rfl (fun wz hC => by have h0 := ((Hid.out hC).cell (p := ⟨G, 0, none⟩) C0.out.2.2.2).trans C0.out.1; unfold execOp; go_simp) ?_
  unfold wpPure
  go_simp
  refine pure_moreD [13] 12 (L' := #[true, true, false, true, true, true, false, true, true, false, false, false, false, true, false, false, false, false, false, false]) (by kernel_rfl) (by kernel_rfl) HC ?_
  simp only [opsAt, List.getElem?_toArray, List.getElem?_cons_zero, List.getElem?_cons_succ]
  refine pure_moveG rfl rfl ?_
  unfold wpPure
  go_simp
  refine pure_moreD [14, 15] 10 (L' := #[true, true, false, true, true, true, false, true, true, false, false, false, false, true, true, true, false, false, false, false]) (by kernel_rfl) (by kernel_rfl) HC ?_
  simp only [opsAt, List.getElem?_toArray, List.getElem?_cons_zero, List.getElem?_cons_succ]
  refine pure_atG (.pointer (some ⟨G, 2, none⟩)) rfl (fun wz _ => by unfold execOp; go_simp) ?_
  refine pure_atG (.int .i64 b) rfl (fun wz hC => by have h0 := ((Hid.out hC).cell (p := ⟨G, 2, none⟩) C0.out.2.2.2).trans C0.out.2.2.1; unfold execOp; go_simp) ?_
  unfold wpPure
  go_simp
  refine wpAnyD_one 2 (f := 9) (L' := #[true, true, true, true, true, true, false, true, true, false, false, false, false, true, true, true, false, false, false, false]) (by kernel_rfl) (by kernel_rfl) rfl rfl ?_
  go_wp2_with fail
  with_reducible refine (qn.out _ (Lib.hid (hT1.out.call HC.out).rules)).mono ?_
  rintro e w2 ⟨rfl, hb⟩
  replace HC : Hid (Below w1.heap.size w1 w2) := HC.out.trans (hb.mono HC.out.size)
  clear hb
  go_wp2_with fail
  rw [StepQ_normal]
  refine ⟨fun _ => HC, ?_⟩
  refine wpAnyD_one 6 (f := 8) (L' := #[true, true, true, true, true, true, true, true, true, false, false, false, false, true, true, true, false, false, false, false]) (by kernel_rfl) (by kernel_rfl) rfl rfl ?_
  go_wp2_with fail
  with_reducible refine (qa.out _ (Lib.hid (hT1.out.call HC.out).tab)).mono ?_
  rintro e w3 ⟨rfl, hb⟩
  replace HC : Hid (Below w1.heap.size w1 w3) := HC.out.trans (hb.mono HC.out.size)
  clear hb
  go_wp2_with fail
  rw [StepQ_normal]
  refine ⟨fun _ => HC, ?_⟩
  refine wpAnyD_one 9 (f := 7) (L' := #[true, true, true, true, true, true, true, true, true, true, false, false, false, true, true, true, false, false, false, false]) (by kernel_rfl) (by kernel_rfl) rfl rfl ?_
  go_wp2_with fail
  with_reducible refine (ql.out _ (Lib.hid (hT1.out.call HC.out).rules)).mono ?_
  rintro e w4 ⟨rfl, hb⟩
  replace HC : Hid (Below w1.heap.size w1 w4) := HC.out.trans (hb.mono HC.out.size)
  clear hb
  go_wp2_with fail
  rw [StepQ_normal]
  refine ⟨fun _ => HC, ?_⟩
  have G1 := Lib.hid (And.intro hT1.out.rels.c1.1 hT1.out.rels.lt)
  refine pure_moreD [10, 11, 12] 4 (L' := #[true, true, true, true, true, true, true, true, true, true, true, true, true, true, true, true, false, false, false, false]) (by kernel_rfl) (by kernel_rfl) HC ?_
  simp only [opsAt, List.getElem?_toArray, List.getElem?_cons_zero, List.getElem?_cons_succ]
  refine pure_atG (.pointer (some ⟨0, 2, none⟩)) rfl (fun wz _ => by unfold execOp; go_simp) ?_
  refine pure_atG (.pointer (some ⟨0, 2, none⟩)) rfl (fun wz _ => by unfold execOp; go_simp) ?_
  refine pure_atG (.string ⟨#[60, 61]⟩) rfl (fun wz hC => by have h0 := ((Hid.out hC).cell (p := ⟨0, 2, none⟩) G1.out.2).trans G1.out.1; unfold execOp; go_simp) ?_
  unfold wpPure
  go_simp
  refine wpAnyD_one 16 (f := 3) (L' := #[true, true, true, true, true, true, true, true, true, true, true, true, true, true, true, true, true, false, false, false]) (by kernel_rfl) (by kernel_rfl) rfl rfl ?_
  go_wp2_with fail
  with_reducible refine (qb.out _ (Lib.hid (hT1.out.call HC.out).tab)).mono ?_
  rintro e w5 ⟨rfl, hb⟩
  replace HC : Hid (Below w1.heap.size w1 w5) := HC.out.trans (hb.mono HC.out.size)
  clear hb
  go_wp2_with fail
  rw [StepQ_normal]
  refine ⟨fun _ => HC, ?_⟩
  have hk5 : (w5.alloc (.cells #[.string ⟨nm.toArray⟩, .string ⟨ia.toArray⟩, .string ⟨#[60, 61]⟩, .string ⟨ib.toArray⟩] 9)).heap[w5.heap.size]? = some (.cells #[.string ⟨nm.toArray⟩, .string ⟨ia.toArray⟩, .string ⟨#[60, 61]⟩, .string ⟨ib.toArray⟩] 9) := heap_new _ _
  have qj := Lib.hid (Tryd.strings_Join w5.heap.size 0 4 [⟨nm.toArray⟩, ⟨ia.toArray⟩, ⟨#[60, 61]⟩, ⟨ib.toArray⟩] ⟨#[32]⟩ (w5.alloc (.cells #[.string ⟨nm.toArray⟩, .string ⟨ia.toArray⟩, .string ⟨#[60, 61]⟩, .string ⟨ib.toArray⟩] 9)) (fun j x hj => by
    rw [Nat.zero_add]
    match j, hj with
    | 0, hj => cases hj; exact cells_of_blk hk5 0 _ rfl
    | 1, hj => cases hj; exact cells_of_blk hk5 1 _ rfl
    | 2, hj => cases hj; exact cells_of_blk hk5 2 _ rfl
    | 3, hj => cases hj; exact cells_of_blk hk5 3 _ rfl
    | j + 4, hj => simp at hj) (Array.getElem?_eq_some_iff.1 hk5).1 (by simp) (by simp) (by
      have := LL.out
      simp [Lib.join]
      omega))
  have HB5 := Lib.hid (below_alloc HC.out HC.out.size (.cells #[.string ⟨nm.toArray⟩, .string ⟨ia.toArray⟩, .string ⟨#[60, 61]⟩, .string ⟨ib.toArray⟩] 9))
  clear hk5
  refine wpAnyD_one 17 (f := 2) (L' := #[true, true, true, true, true, true, true, true, true, true, true, true, true, true, true, true, true, true, false, false]) (by kernel_rfl) (by kernel_rfl) rfl rfl ?_
  go_wp2_with fail
  rw [StepQ_normal]
  refine ⟨fun _ => HB5, ?_⟩
  refine wpAnyD_one 18 (f := 1) (L' := #[true, true, true, true, true, true, true, true, true, true, true, true, true, true, true, true, true, true, true, false]) (by kernel_rfl) (by kernel_rfl) rfl rfl ?_
  go_wp2_with fail
  refine qj.out.mono ?_
  rintro e w6 ⟨rfl, hb⟩
  replace HC : Hid (Below w1.heap.size w1 w6) := HB5.out.trans (hb.mono HB5.out.size)
  clear hb
  go_wp2_with fail
  rw [StepQ_normal]
  refine ⟨fun _ => HC, ?_⟩
  refine wpAnyD_one 19 (f := 0) (L' := #[true, true, true, true, true, true, true, true, true, true, true, true, true, true, true, true, true, true, true, true]) (by kernel_rfl) (by kernel_rfl) rfl rfl ?_
  go_wp2_with fail
  rw [StepQ_normal]
  refine ⟨fun _ => HC, ?_⟩
  refine ⟨by kernel_rfl, ?_⟩
  rw [OnlyN_normal]
  go_wp2_with fail
  go_ret
  exact ⟨by simp [Lib.join], by rw [HG.out]; exact HB.out.trans (HC.out.mono (Nat.le_of_lt C0.out.2.2.2))⟩
set_option maxRecDepth 100000 in
set_option maxHeartbeats 2000000 in
theorem Text_rel2 (r a b : Int) (hr : I64 r) (ha : I64 a) (hb' : I64 b) (h : relS r = 2) (w : World) (hT : Hid (Law16 w)) : Calls Tryd.prog 25 #[.agg #[.int .i64 r, .int .i64 a, .int .i64 b, .bool false]] w fun e w' => e = .returned (.string ⟨(nameS r ++ ([32] ++ (Lib.itoa a ++ ([32] ++ (signS (relS r) ++ ([32] ++ Lib.itoa b)))))).toArray⟩) ∧ Below w.heap.size w w' := by
  have hb := (Below.refl w.heap.size w).alloc (Nat.le_refl _) (.cells #[.int .i64 r, .int .i64 a, .int .i64 b, .bool false] 39)
  have HB := Lib.hid hb
  have hT1 := Lib.hid (hT.out.call hb)
  have hk : (w.alloc (.cells #[.int .i64 r, .int .i64 a, .int .i64 b, .bool false] 39)).heap[w.heap.size]? = some (.cells #[.int .i64 r, .int .i64 a, .int .i64 b, .bool false] 39) := heap_new _ _
  have C0 := Lib.hid (And.intro (cells_of_blk hk 0 _ rfl) (And.intro (cells_of_blk hk 1 _ rfl) (And.intro (cells_of_blk hk 2 _ rfl) (Array.getElem?_eq_some_iff.1 hk).1)))
  clear hk hb
  have qn := Lib.hid (fun w h => Name_any r hr w h)
  have qa := Lib.hid (fun w h => Num_any a ha w h)
  have qb := Lib.hid (fun w h => Num_any b hb' w h)
  have ql : Hid (∀ w, Hid (RulesT w) → Calls Tryd.prog 20 #[.int .i64 r] w fun e w' => e = .returned (.int .i64 2) ∧ Below w.heap.size w w') := by
    intro w h1
    have h2 := Relation_any r hr w h1
    rw [h] at h2
    exact h2
  have l1 := nameS_len r
  have l2 := itoa_len (x := a) (by unfold I64 at ha; omega) (by unfold I64 at ha; omega)
  have l3 := itoa_len (x := b) (by unfold I64 at hb'; omega) (by unfold I64 at hb'; omega)
  rw [show signS (relS r) = [62, 61] by rw [h]; rfl]
  clear h hr ha hb'
  generalize nameS r = nm at *
  generalize Lib.itoa a = ia at *
  generalize Lib.itoa b = ib at *
  have LL := Lib.hid (And.intro l1 (And.intro l2 l3))
  clear l1 l2 l3
  go_enter Tryd.func25, Tryd.ntmps25
  go_wp2_with fail
  generalize hG : w.heap.size = G at *
  have HG := Lib.hid hG
  clear hG
  generalize w.alloc (.cells #[.int .i64 r, .int .i64 a, .int .i64 b, .bool false] 39) = w1 at *
  have HC : Hid (Below w1.heap.size w1 w1.drew) := (Below.refl _ _).drew
  refine wp_region_D [] (fun wz => Hid (Below w1.heap.size w1 wz)) 20 #[false, false, false, false, false, false, false, false, false, false, false, false, false, false, false, false, false, false, false, false] (by kernel_rfl) (by kernel_rfl) (by kernel_rfl) ?_
  refine pure_moreD [0, 1] 18 (L' := #[true, true, false, false, false, false, false, false, false, false, false, false, false, false, false, false, false, false, false, false]) (by kernel_rfl) (by kernel_rfl) HC ?_
  simp only [opsAt, List.getElem?_toArray, List.getElem?_cons_zero, List.getElem?_cons_succ]
  refine pure_atG (.pointer (some ⟨G, 0, none⟩)) rfl (fun wz _ => by unfold execOp; go_simp) ?_
  refine pure_atG (.int .i64 r) rfl (fun wz hC => by have h0 := ((Hid.out hC).cell (p := ⟨G, 0, none⟩) C0.out.2.2.2).trans C0.out.1; unfold execOp; go_simp) ?_
  unfold wpPure
  go_simp
  refine pure_moreD [3] 17 (L' := #[true, true, false, true, false, false, false, false, false, false, false, false, false, false, false, false, false, false, false, false]) (by kernel_rfl) (by kernel_rfl) HC ?_
  simp only [opsAt, List.getElem?_toArray, List.getElem?_cons_zero, List.getElem?_cons_succ]
  refine pure_moveG rfl rfl ?_
  unfold wpPure
  go_simp
  refine pure_moreD [4, 5] 15 (L' := #[true, true, false, true, true, true, false, false, false, false, false, false, false, false, false, false, false, false, false, false]) (by kernel_rfl) (by kernel_rfl) HC ?_
  simp only [opsAt, List.getElem?_toArray, List.getElem?_cons_zero, List.getElem?_cons_succ]
  refine pure_atG (.pointer (some ⟨G, 1, none⟩)) rfl (fun wz _ => by unfold execOp; go_simp) ?_
  refine pure_atG (.int .i64 a) rfl (fun wz hC => by have h0 := ((Hid.out hC).cell (p := ⟨G, 1, none⟩) C0.out.2.2.2).trans C0.out.2.1; unfold execOp; go_simp) ?_
  unfold wpPure
  go_simp
  refine pure_moreD [7, 8] 13 (L' := #[true, true, false, true, true, true, false, true, true, false, false, false, false, false, false, false, false, false, false, false]) (by kernel_rfl) (by kernel_rfl) HC ?_
  simp only [opsAt, List.getElem?_toArray, List.getElem?_cons_zero, List.getElem?_cons_succ]
  refine pure_atG (.pointer (some ⟨G, 0, none⟩)) rfl (fun wz _ => by unfold execOp; go_simp) ?_
  refine pure_atG (.int .i64 r) rfl (fun wz hC => by have h0 := ((Hid.out hC).cell (p := ⟨G, 0, none⟩) C0.out.2.2.2).trans C0.out.1; unfold execOp; go_simp) ?_
  unfold wpPure
  go_simp
  refine pure_moreD [13] 12 (L' := #[true, true, false, true, true, true, false, true, true, false, false, false, false, true, false, false, false, false, false, false]) (by kernel_rfl) (by kernel_rfl) HC ?_
  simp only [opsAt, List.getElem?_toArray, List.getElem?_cons_zero, List.getElem?_cons_succ]
  refine pure_moveG rfl rfl ?_
  unfold wpPure
  go_simp
  refine pure_moreD [14, 15] 10 (L' := #[true, true, false, true, true, true, false, true, true, false, false, false, false, true, true, true, false, false, false, false]) (by kernel_rfl) (by kernel_rfl) HC ?_
  simp only [opsAt, List.getElem?_toArray, List.getElem?_cons_zero, List.getElem?_cons_succ]
  refine pure_atG (.pointer (some ⟨G, 2, none⟩)) rfl (fun wz _ => by unfold execOp; go_simp) ?_
  refine pure_atG (.int .i64 b) rfl (fun wz hC => by have h0 := ((Hid.out hC).cell (p := ⟨G, 2, none⟩) C0.out.2.2.2).trans C0.out.2.2.1; unfold execOp; go_simp) ?_
  unfold wpPure
  go_simp
  refine wpAnyD_one 2 (f := 9) (L' := #[true, true, true, true, true, true, false, true, true, false, false, false, false, true, true, true, false, false, false, false]) (by kernel_rfl) (by kernel_rfl) rfl rfl ?_
  go_wp2_with fail
  with_reducible refine (qn.out _ (Lib.hid (hT1.out.call HC.out).rules)).mono ?_
  rintro e w2 ⟨rfl, hb⟩
  replace HC : Hid (Below w1.heap.size w1 w2) := HC.out.trans (hb.mono HC.out.size)
  clear hb
  go_wp2_with fail
  rw [StepQ_normal]
  refine ⟨fun _ => HC, ?_⟩
  refine wpAnyD_one 6 (f := 8) (L' := #[true, true, true, true, true, true, true, true, true, false, false, false, false, true, true, true, false, false, false, false]) (by kernel_rfl) (by kernel_rfl) rfl rfl ?_
  go_wp2_with fail
  with_reducible refine (qa.out _ (Lib.hid (hT1.out.call HC.out).tab)).mono ?_
  rintro e w3 ⟨rfl, hb⟩
  replace HC : Hid (Below w1.heap.size w1 w3) := HC.out.trans (hb.mono HC.out.size)
  clear hb
  go_wp2_with fail
  rw [StepQ_normal]
  refine ⟨fun _ => HC, ?_⟩
  refine wpAnyD_one 9 (f := 7) (L' := #[true, true, true, true, true, true, true, true, true, true, false, false, false, true, true, true, false, false, false, false]) (by kernel_rfl) (by kernel_rfl) rfl rfl ?_
  go_wp2_with fail
  with_reducible refine (ql.out _ (Lib.hid (hT1.out.call HC.out).rules)).mono ?_
  rintro e w4 ⟨rfl, hb⟩
  replace HC : Hid (Below w1.heap.size w1 w4) := HC.out.trans (hb.mono HC.out.size)
  clear hb
  go_wp2_with fail
  rw [StepQ_normal]
  refine ⟨fun _ => HC, ?_⟩
  have G1 := Lib.hid (And.intro hT1.out.rels.c2.1 hT1.out.rels.lt)
  refine pure_moreD [10, 11, 12] 4 (L' := #[true, true, true, true, true, true, true, true, true, true, true, true, true, true, true, true, false, false, false, false]) (by kernel_rfl) (by kernel_rfl) HC ?_
  simp only [opsAt, List.getElem?_toArray, List.getElem?_cons_zero, List.getElem?_cons_succ]
  refine pure_atG (.pointer (some ⟨0, 4, none⟩)) rfl (fun wz _ => by unfold execOp; go_simp) ?_
  refine pure_atG (.pointer (some ⟨0, 4, none⟩)) rfl (fun wz _ => by unfold execOp; go_simp) ?_
  refine pure_atG (.string ⟨#[62, 61]⟩) rfl (fun wz hC => by have h0 := ((Hid.out hC).cell (p := ⟨0, 4, none⟩) G1.out.2).trans G1.out.1; unfold execOp; go_simp) ?_
  unfold wpPure
  go_simp
  refine wpAnyD_one 16 (f := 3) (L' := #[true, true, true, true, true, true, true, true, true, true, true, true, true, true, true, true, true, false, false, false]) (by kernel_rfl) (by kernel_rfl) rfl rfl ?_
  go_wp2_with fail
  with_reducible refine (qb.out _ (Lib.hid (hT1.out.call HC.out).tab)).mono ?_
  rintro e w5 ⟨rfl, hb⟩
  replace HC : Hid (Below w1.heap.size w1 w5) := HC.out.trans (hb.mono HC.out.size)
  clear hb
  go_wp2_with fail
  rw [StepQ_normal]
  refine ⟨fun _ => HC, ?_⟩
  have hk5 : (w5.alloc (.cells #[.string ⟨nm.toArray⟩, .string ⟨ia.toArray⟩, .string ⟨#[62, 61]⟩, .string ⟨ib.toArray⟩] 9)).heap[w5.heap.size]? = some (.cells #[.string ⟨nm.toArray⟩, .string ⟨ia.toArray⟩, .string ⟨#[62, 61]⟩, .string ⟨ib.toArray⟩] 9) := heap_new _ _
  have qj := Lib.hid (Tryd.strings_Join w5.heap.size 0 4 [⟨nm.toArray⟩, ⟨ia.toArray⟩, ⟨#[62, 61]⟩, ⟨ib.toArray⟩] ⟨#[32]⟩ (w5.alloc (.cells #[.string ⟨nm.toArray⟩, .string ⟨ia.toArray⟩, .string ⟨#[62, 61]⟩, .string ⟨ib.toArray⟩] 9)) (fun j x hj => by
    rw [Nat.zero_add]
    match j, hj with
    | 0, hj => cases hj; exact cells_of_blk hk5 0 _ rfl
    | 1, hj => cases hj; exact cells_of_blk hk5 1 _ rfl
    | 2, hj => cases hj; exact cells_of_blk hk5 2 _ rfl
    | 3, hj => cases hj; exact cells_of_blk hk5 3 _ rfl
    | j + 4, hj => simp at hj) (Array.getElem?_eq_some_iff.1 hk5).1 (by simp) (by simp) (by
      have := LL.out
      simp [Lib.join]
      omega))
  have HB5 := Lib.hid (below_alloc HC.out HC.out.size (.cells #[.string ⟨nm.toArray⟩, .string ⟨ia.toArray⟩, .string ⟨#[62, 61]⟩, .string ⟨ib.toArray⟩] 9))
  clear hk5
  refine wpAnyD_one 17 (f := 2) (L' := #[true, true, true, true, true, true, true, true, true, true, true, true, true, true, true, true, true, true, false, false]) (by kernel_rfl) (by kernel_rfl) rfl rfl ?_
  go_wp2_with fail
  rw [StepQ_normal]
  refine ⟨fun _ => HB5, ?_⟩
  refine wpAnyD_one 18 (f := 1) (L' := #[true, true, true, true, true, true, true, true, true, true, true, true, true, true, true, true, true, true, true, false]) (by kernel_rfl) (by kernel_rfl) rfl rfl ?_
  go_wp2_with fail
  refine qj.out.mono ?_
  rintro e w6 ⟨rfl, hb⟩
  replace HC : Hid (Below w1.heap.size w1 w6) := HB5.out.trans (hb.mono HB5.out.size)
  clear hb
  go_wp2_with fail
  rw [StepQ_normal]
  refine ⟨fun _ => HC, ?_⟩
  refine wpAnyD_one 19 (f := 0) (L' := #[true, true, true, true, true, true, true, true, true, true, true, true, true, true, true, true, true, true, true, true]) (by kernel_rfl) (by kernel_rfl) rfl rfl ?_
  go_wp2_with fail
  rw [StepQ_normal]
  refine ⟨fun _ => HC, ?_⟩
  refine ⟨by kernel_rfl, ?_⟩
  rw [OnlyN_normal]
  go_wp2_with fail
  go_ret
  exact ⟨by simp [Lib.join], by rw [HG.out]; exact HB.out.trans (HC.out.mono (Nat.le_of_lt C0.out.2.2.2))⟩
set_option maxRecDepth 100000 in
set_option maxHeartbeats 2000000 in
theorem Text_rel3 (r a b : Int) (hr : I64 r) (ha : I64 a) (hb' : I64 b) (h : relS r = 3) (w : World) (hT : Hid (Law16 w)) : Calls Tryd.prog 25 #[.agg #[.int .i64 r, .int .i64 a, .int .i64 b, .bool false]] w fun e w' => e = .returned (.string ⟨(nameS r ++ ([32] ++ (Lib.itoa a ++ ([32] ++ (signS (relS r) ++ ([32] ++ Lib.itoa b)))))).toArray⟩) ∧ Below w.heap.size w w' := by
  have hb := (Below.refl w.heap.size w).alloc (Nat.le_refl _) (.cells #[.int .i64 r, .int .i64 a, .int .i64 b, .bool false] 39)
  have HB := Lib.hid hb
  have hT1 := Lib.hid (hT.out.call hb)
  have hk : (w.alloc (.cells #[.int .i64 r, .int .i64 a, .int .i64 b, .bool false] 39)).heap[w.heap.size]? = some (.cells #[.int .i64 r, .int .i64 a, .int .i64 b, .bool false] 39) := heap_new _ _
  have C0 := Lib.hid (And.intro (cells_of_blk hk 0 _ rfl) (And.intro (cells_of_blk hk 1 _ rfl) (And.intro (cells_of_blk hk 2 _ rfl) (Array.getElem?_eq_some_iff.1 hk).1)))
  clear hk hb
  have qn := Lib.hid (fun w h => Name_any r hr w h)
  have qa := Lib.hid (fun w h => Num_any a ha w h)
  have qb := Lib.hid (fun w h => Num_any b hb' w h)
  have ql : Hid (∀ w, Hid (RulesT w) → Calls Tryd.prog 20 #[.int .i64 r] w fun e w' => e = .returned (.int .i64 3) ∧ Below w.heap.size w w') := by
    intro w h1
    have h2 := Relation_any r hr w h1
    rw [h] at h2
    exact h2
  have l1 := nameS_len r
  have l2 := itoa_len (x := a) (by unfold I64 at ha; omega) (by unfold I64 at ha; omega)
  have l3 := itoa_len (x := b) (by unfold I64 at hb'; omega) (by unfold I64 at hb'; omega)
  rw [show signS (relS r) = [61] by rw [h]; rfl]
  clear h hr ha hb'
  generalize nameS r = nm at *
  generalize Lib.itoa a = ia at *
  generalize Lib.itoa b = ib at *
  have LL := Lib.hid (And.intro l1 (And.intro l2 l3))
  clear l1 l2 l3
  go_enter Tryd.func25, Tryd.ntmps25
  go_wp2_with fail
  generalize hG : w.heap.size = G at *
  have HG := Lib.hid hG
  clear hG
  generalize w.alloc (.cells #[.int .i64 r, .int .i64 a, .int .i64 b, .bool false] 39) = w1 at *
  have HC : Hid (Below w1.heap.size w1 w1.drew) := (Below.refl _ _).drew
  refine wp_region_D [] (fun wz => Hid (Below w1.heap.size w1 wz)) 20 #[false, false, false, false, false, false, false, false, false, false, false, false, false, false, false, false, false, false, false, false] (by kernel_rfl) (by kernel_rfl) (by kernel_rfl) ?_
  refine pure_moreD [0, 1] 18 (L' := #[true, true, false, false, false, false, false, false, false, false, false, false, false, false, false, false, false, false, false, false]) (by kernel_rfl) (by kernel_rfl) HC ?_
  simp only [opsAt, List.getElem?_toArray, List.getElem?_cons_zero, List.getElem?_cons_succ]
  refine pure_atG (.pointer (some ⟨G, 0, none⟩)) rfl (fun wz _ => by unfold execOp; go_simp) ?_
  refine pure_atG (.int .i64 r) rfl (fun wz hC => by have h0 := ((Hid.out hC).cell (p := ⟨G, 0, none⟩) C0.out.2.2.2).trans C0.out.1; unfold execOp; go_simp) ?_
  unfold wpPure
  go_simp
  refine pure_moreD [3] 17 (L' := #[true, true, false, true, false, false, false, false, false, false, false, false, false, false, false, false, false, false, false, false]) (by kernel_rfl) (by kernel_rfl) HC ?_
  simp only [opsAt, List.getElem?_toArray, List.getElem?_cons_zero, List.getElem?_cons_succ]
  refine pure_moveG rfl rfl ?_
  unfold wpPure
  go_simp
  refine pure_moreD [4, 5] 15 (L' := #[true, true, false, true, true, true, false, false, false, false, false, false, false, false, false, false, false, false, false, false]) (by kernel_rfl) (by kernel_rfl) HC ?_
  simp only [opsAt, List.getElem?_toArray, List.getElem?_cons_zero, List.getElem?_cons_succ]
  refine pure_atG (.pointer (some ⟨G, 1, none⟩)) rfl (fun wz _ => by unfold execOp; go_simp) ?_
  refine pure_atG (.int .i64 a) rfl (fun wz hC => by have h0 := ((Hid.out hC).cell (p := ⟨G, 1, none⟩) C0.out.2.2.2).trans C0.out.2.1; unfold execOp; go_simp) ?_
  unfold wpPure
  go_simp
  refine pure_moreD [7, 8] 13 (L' := #[true, true, false, true, true, true, false, true, true, false, false, false, false, false, false, false, false, false, false, false]) (by kernel_rfl) (by kernel_rfl) HC ?_
  simp only [opsAt, List.getElem?_toArray, List.getElem?_cons_zero, List.getElem?_cons_succ]
  refine pure_atG (.pointer (some ⟨G, 0, none⟩)) rfl (fun wz _ => by unfold execOp; go_simp) ?_
  refine pure_atG (.int .i64 r) rfl (fun wz hC => by have h0 := ((Hid.out hC).cell (p := ⟨G, 0, none⟩) C0.out.2.2.2).trans C0.out.1; unfold execOp; go_simp) ?_
  unfold wpPure
  go_simp
  refine pure_moreD [13] 12 (L' := #[true, true, false, true, true, true, false, true, true, false, false, false, false, true, false, false, false, false, false, false]) (by kernel_rfl) (by kernel_rfl) HC ?_
  simp only [opsAt, List.getElem?_toArray, List.getElem?_cons_zero, List.getElem?_cons_succ]
  refine pure_moveG rfl rfl ?_
  unfold wpPure
  go_simp
  refine pure_moreD [14, 15] 10 (L' := #[true, true, false, true, true, true, false, true, true, false, false, false, false, true, true, true, false, false, false, false]) (by kernel_rfl) (by kernel_rfl) HC ?_
  simp only [opsAt, List.getElem?_toArray, List.getElem?_cons_zero, List.getElem?_cons_succ]
  refine pure_atG (.pointer (some ⟨G, 2, none⟩)) rfl (fun wz _ => by unfold execOp; go_simp) ?_
  refine pure_atG (.int .i64 b) rfl (fun wz hC => by have h0 := ((Hid.out hC).cell (p := ⟨G, 2, none⟩) C0.out.2.2.2).trans C0.out.2.2.1; unfold execOp; go_simp) ?_
  unfold wpPure
  go_simp
  refine wpAnyD_one 2 (f := 9) (L' := #[true, true, true, true, true, true, false, true, true, false, false, false, false, true, true, true, false, false, false, false]) (by kernel_rfl) (by kernel_rfl) rfl rfl ?_
  go_wp2_with fail
  with_reducible refine (qn.out _ (Lib.hid (hT1.out.call HC.out).rules)).mono ?_
  rintro e w2 ⟨rfl, hb⟩
  replace HC : Hid (Below w1.heap.size w1 w2) := HC.out.trans (hb.mono HC.out.size)
  clear hb
  go_wp2_with fail
  rw [StepQ_normal]
  refine ⟨fun _ => HC, ?_⟩
  refine wpAnyD_one 6 (f := 8) (L' := #[true, true, true, true, true, true, true, true, true, false, false, false, false, true, true, true, false, false, false, false]) (by kernel_rfl) (by kernel_rfl) rfl rfl ?_
  go_wp2_with fail
  with_reducible refine (qa.out _ (Lib.hid (hT1.out.call HC.out).tab)).mono ?_
  rintro e w3 ⟨rfl, hb⟩
  replace HC : Hid (Below w1.heap.size w1 w3) := HC.out.trans (hb.mono HC.out.size)
  clear hb
  go_wp2_with fail
  rw [StepQ_normal]
  refine ⟨fun _ => HC, ?_⟩
  refine wpAnyD_one 9 (f := 7) (L' := #[true, true, true, true, true, true, true, true, true, true, false, false, false, true, true, true, false, false, false, false]) (by kernel_rfl) (by kernel_rfl) rfl rfl ?_
  go_wp2_with fail
  with_reducible refine (ql.out _ (Lib.hid (hT1.out.call HC.out).rules)).mono ?_
  rintro e w4 ⟨rfl, hb⟩
  replace HC : Hid (Below w1.heap.size w1 w4) := HC.out.trans (hb.mono HC.out.size)
  clear hb
  go_wp2_with fail
  rw [StepQ_normal]
  refine ⟨fun _ => HC, ?_⟩
  have G1 := Lib.hid (And.intro hT1.out.rels.c3.1 hT1.out.rels.lt)
  refine pure_moreD [10, 11, 12] 4 (L' := #[true, true, true, true, true, true, true, true, true, true, true, true, true, true, true, true, false, false, false, false]) (by kernel_rfl) (by kernel_rfl) HC ?_
  simp only [opsAt, List.getElem?_toArray, List.getElem?_cons_zero, List.getElem?_cons_succ]
  refine pure_atG (.pointer (some ⟨0, 6, none⟩)) rfl (fun wz _ => by unfold execOp; go_simp) ?_
  refine pure_atG (.pointer (some ⟨0, 6, none⟩)) rfl (fun wz _ => by unfold execOp; go_simp) ?_
  refine pure_atG (.string ⟨#[61]⟩) rfl (fun wz hC => by have h0 := ((Hid.out hC).cell (p := ⟨0, 6, none⟩) G1.out.2).trans G1.out.1; unfold execOp; go_simp) ?_
  unfold wpPure
  go_simp
  refine wpAnyD_one 16 (f := 3) (L' := #[true, true, true, true, true, true, true, true, true, true, true, true, true, true, true, true, true, false, false, false]) (by kernel_rfl) (by kernel_rfl) rfl rfl ?_
  go_wp2_with fail
  with_reducible refine (qb.out _ (Lib.hid (hT1.out.call HC.out).tab)).mono ?_
  rintro e w5 ⟨rfl, hb⟩
  replace HC : Hid (Below w1.heap.size w1 w5) := HC.out.trans (hb.mono HC.out.size)
  clear hb
  go_wp2_with fail
  rw [StepQ_normal]
  refine ⟨fun _ => HC, ?_⟩
  have hk5 : (w5.alloc (.cells #[.string ⟨nm.toArray⟩, .string ⟨ia.toArray⟩, .string ⟨#[61]⟩, .string ⟨ib.toArray⟩] 9)).heap[w5.heap.size]? = some (.cells #[.string ⟨nm.toArray⟩, .string ⟨ia.toArray⟩, .string ⟨#[61]⟩, .string ⟨ib.toArray⟩] 9) := heap_new _ _
  have qj := Lib.hid (Tryd.strings_Join w5.heap.size 0 4 [⟨nm.toArray⟩, ⟨ia.toArray⟩, ⟨#[61]⟩, ⟨ib.toArray⟩] ⟨#[32]⟩ (w5.alloc (.cells #[.string ⟨nm.toArray⟩, .string ⟨ia.toArray⟩, .string ⟨#[61]⟩, .string ⟨ib.toArray⟩] 9)) (fun j x hj => by
    rw [Nat.zero_add]
    match j, hj with
    | 0, hj => cases hj; exact cells_of_blk hk5 0 _ rfl
    | 1, hj => cases hj; exact cells_of_blk hk5 1 _ rfl
    | 2, hj => cases hj; exact cells_of_blk hk5 2 _ rfl
    | 3, hj => cases hj; exact cells_of_blk hk5 3 _ rfl
    | j + 4, hj => simp at hj) (Array.getElem?_eq_some_iff.1 hk5).1 (by simp) (by simp) (by
      have := LL.out
      simp [Lib.join]
      omega))
  have HB5 := Lib.hid (below_alloc HC.out HC.out.size (.cells #[.string ⟨nm.toArray⟩, .string ⟨ia.toArray⟩, .string ⟨#[61]⟩, .string ⟨ib.toArray⟩] 9))
  clear hk5
  refine wpAnyD_one 17 (f := 2) (L' := #[true, true, true, true, true, true, true, true, true, true, true, true, true, true, true, true, true, true, false, false]) (by kernel_rfl) (by kernel_rfl) rfl rfl ?_
  go_wp2_with fail
  rw [StepQ_normal]
  refine ⟨fun _ => HB5, ?_⟩
  refine wpAnyD_one 18 (f := 1) (L' := #[true, true, true, true, true, true, true, true, true, true, true, true, true, true, true, true, true, true, true, false]) (by kernel_rfl) (by kernel_rfl) rfl rfl ?_
  go_wp2_with fail
  refine qj.out.mono ?_
  rintro e w6 ⟨rfl, hb⟩
  replace HC : Hid (Below w1.heap.size w1 w6) := HB5.out.trans (hb.mono HB5.out.size)
  clear hb
  go_wp2_with fail
  rw [StepQ_normal]
  refine ⟨fun _ => HC, ?_⟩
  refine wpAnyD_one 19 (f := 0) (L' := #[true, true, true, true, true, true, true, true, true, true, true, true, true, true, true, true, true, true, true, true]) (by kernel_rfl) (by kernel_rfl) rfl rfl ?_
  go_wp2_with fail
  rw [StepQ_normal]
  refine ⟨fun _ => HC, ?_⟩
  refine ⟨by kernel_rfl, ?_⟩
  rw [OnlyN_normal]
  go_wp2_with fail
  go_ret
  exact ⟨by simp [Lib.join], by rw [HG.out]; exact HB.out.trans (HC.out.mono (Nat.le_of_lt C0.out.2.2.2))⟩
theorem Text_any (s : Stp) (hs : s.fit) (w : World) (hT : Hid (Law16 w)) : Calls Tryd.prog 25 #[s.val] w fun e w' => e = .returned (.string ⟨(textS s).toArray⟩) ∧ Below w.heap.size w w' := by
  obtain ⟨r, a, b, o⟩ := s
  cases o with
  | true => exact Text_over r a b hs.1 w hT
  | false =>
    have hl := relS_lt r
    have h4 : relS r = 0 ∨ relS r = 1 ∨ relS r = 2 ∨ relS r = 3 := by omega
    rcases h4 with h | h | h | h
    · exact Text_rel0 r a b hs.1 hs.2.1 hs.2.2 h w hT
    · exact Text_rel1 r a b hs.1 hs.2.1 hs.2.2 h w hT
    · exact Text_rel2 r a b hs.1 hs.2.1 hs.2.2 h w hT
    · exact Text_rel3 r a b hs.1 hs.2.1 hs.2.2 h w hT
end Go.Proofs.YteeemoknbnlopaaDoor
