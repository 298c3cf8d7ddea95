/- The tree: the reference's hashes; the document's example; the walk of TreeHashes. -/
import Derived.Test.YtaigngdlioplaaaDoorTreeC
import Derived.Test.YtaigngdlioplaaaDoorCutR
namespace Go.Proofs.YtaigngdlioplaaaDoor
open Go Go.RowKit

set_option maxRecDepth 100000 in
theorem rLeaf_any (s : ByteArray) (m : Nat) (w : World) (hs : Hid (s.size ≤ 1099510000000)) (hm : Hid (1 ≤ m ∧ m ≤ 32)) :
    Calls Tryd.prog 31 #[.agg key72, .string s, .int .i64 m] w fun e w' => e = .returned (.string (leafS (nth kList) hSt m s)) ∧ Below w.heap.size w w' := by
  have hz := mark_size 0 s
  have hs2 := hs.out
  have q := Lib.hid (fun w => rCut_any (⟨#[0]⟩ ++ s) m w (by show _ ≤ _; omega) hm)
  have hks := Lib.hid key72_size
  unfold leafS
  generalize key72 = A at *
  generalize cutS (nth kList) hSt (⟨#[0]⟩ ++ s) m = S at *
  obtain ⟨w1, hw1⟩ : ∃ w1, w.alloc (.cells A 37) = w1 := ⟨_, rfl⟩
  have HW1 := Lib.hid hw1
  have HA : Hid (w1.heap[w.heap.size]? = some (.cells A 37 (0, 0))) := by rw [← hw1]; exact blk_new _ _ _ rfl
  have HL : Hid (Below w.heap.size w w1) := by rw [← hw1]; exact below_alloc (Below.refl _ _) (Nat.le_refl _) _
  clear hw1 hz
  go_enter Tryd.func31, Tryd.ntmps31
  go_wp2_with (rw [HW1.out]; refine wpList_load_row rfl 37 (.tmp 3) rfl w.heap.size rfl 37 A (0, 0) _ HA.out Tryd.underlying37 rfl (by rw [hks.out]; kernel_rfl) ?_)
  refine (q.out _).mono ?_
  rintro e w2 ⟨rfl, hb⟩
  have HB2 := Lib.hid (HL.out.trans (hb.mono HL.out.size))
  clear hb
  go_wp2_with fail
  go_ret
  exact ⟨rfl, HB2.out⟩
set_option maxRecDepth 100000 in
theorem rNode_any (a b : ByteArray) (m : Nat) (w : World) (ha : Hid (a.size ≤ 1000000)) (hb : Hid (b.size ≤ 1000000)) (hm : Hid (1 ≤ m ∧ m ≤ 32)) :
    Calls Tryd.prog 32 #[.agg key72, .string a, .string b, .int .i64 m] w fun e w' => e = .returned (.string (nodeS (nth kList) hSt m a b)) ∧ Below w.heap.size w w' := by
  have hz : ((⟨#[1]⟩ : ByteArray) ++ a ++ b).size = a.size + 1 + b.size := by rw [ByteArray.size_append, mark_size]
  have hz1 := mark_size 1 a
  have ha2 := ha.out
  have hb2 := hb.out
  have q := Lib.hid (fun w => rCut_any (⟨#[1]⟩ ++ a ++ b) m w (by show _ ≤ _; omega) hm)
  have hks := Lib.hid key72_size
  unfold nodeS
  generalize key72 = A at *
  generalize cutS (nth kList) hSt (⟨#[1]⟩ ++ a ++ b) m = S at *
  obtain ⟨w1, hw1⟩ : ∃ w1, w.alloc (.cells A 37) = w1 := ⟨_, rfl⟩
  have HW1 := Lib.hid hw1
  have HA : Hid (w1.heap[w.heap.size]? = some (.cells A 37 (0, 0))) := by rw [← hw1]; exact blk_new _ _ _ rfl
  have HL : Hid (Below w.heap.size w w1) := by rw [← hw1]; exact below_alloc (Below.refl _ _) (Nat.le_refl _) _
  clear hw1 hz
  go_enter Tryd.func32, Tryd.ntmps32
  go_wp2_with (rw [HW1.out]; refine wpList_load_row rfl 37 (.tmp 4) rfl w.heap.size rfl 37 A (0, 0) _ HA.out Tryd.underlying37 rfl (by rw [hks.out]; kernel_rfl) ?_)
  refine (q.out _).mono ?_
  rintro e w2 ⟨rfl, hb⟩
  have HB2 := Lib.hid (HL.out.trans (hb.mono HL.out.size))
  clear hb
  go_wp2_with fail
  go_ret
  exact ⟨rfl, HB2.out⟩

def fiveL : List ByteArray := [⟨#[97]⟩, ⟨#[98]⟩, ⟨#[99]⟩, ⟨#[100]⟩, ⟨#[101]⟩]
theorem five_fine (l : List ByteArray) (h : l.all (fun s => decide (s.size ≤ 400)) = true) : Fine l := fun i s hs => by
  have := List.all_eq_true.1 h s (List.mem_of_getElem? hs)
  simpa using this
theorem split5 : splitN 5 = 4 := by decide
theorem split4 : splitN 4 = 2 := by decide
theorem proof5 (K : Nat → Int) (H : St) (n : Int) : proofS K H n fiveL 4 = [rootS K H n (fiveL.take 4)] := by
  rw [proofS_right K H n fiveL 4 (by decide) (by rw [show fiveL.length = 5 from rfl, split5]; decide), proofS_one K H n _ _ (by rw [show fiveL.length = 5 from rfl, split5]; decide)]
  rw [show fiveL.length = 5 from rfl, split5]
  rfl

set_option maxRecDepth 100000 in
set_option maxHeartbeats 1000000 in
theorem alive03 (K : Nat → Int) (H : St) (w : World) (hT : Hid (ShaT w K H)) :
    Calls Tryd.prog 26 #[] w fun e w' => e = .returned (.bool true) ∧ Below w.heap.size w w' := by
  obtain ⟨w1, hw1⟩ : ∃ w1, w.alloc (.cells #[.string ⟨#[97]⟩, .string ⟨#[98]⟩, .string ⟨#[99]⟩, .string ⟨#[100]⟩, .string ⟨#[101]⟩] 9) = w1 := ⟨_, rfl⟩
  have HBk : w1.heap[w.heap.size]? = some (.cells #[.string ⟨#[97]⟩, .string ⟨#[98]⟩, .string ⟨#[99]⟩, .string ⟨#[100]⟩, .string ⟨#[101]⟩] 9 (0, 0)) := by rw [← hw1]; exact blk_new _ _ _ rfl
  have HL : Below w.heap.size w w1 := by rw [← hw1]; exact below_alloc (Below.refl _ _) (Nat.le_refl _) _
  have hT1 := Lib.hid (hT.out.call HL)
  have hS : StrsAt w1 (.slice (some ⟨w.heap.size, 0, none⟩) 5 5) fiveL := by
    refine ⟨_, 5, rfl, Nat.le_refl _, fun i s hs => ⟨_, 0, rfl, (Array.getElem?_eq_some_iff.1 HBk).1, ?_⟩⟩
    refine cells_of_blk HBk _ _ ?_
    rw [Nat.zero_add]
    match i, hs with
    | 0, hs => obtain rfl := Option.some.inj hs; rfl
    | 1, hs => obtain rfl := Option.some.inj hs; rfl
    | 2, hs => obtain rfl := Option.some.inj hs; rfl
    | 3, hs => obtain rfl := Option.some.inj hs; rfl
    | 4, hs => obtain rfl := Option.some.inj hs; rfl
    | i + 5, hs => cases hs
  have q1 : Hid (Calls Tryd.prog 35 #[.slice (some ⟨w.heap.size, 0, none⟩) 5 5, .int .i64 4, .int .i64 32] w1 fun e w' => (∃ g cap, e = .returned (.tuple #[.slice (some ⟨g, 0, none⟩) 1 cap, .int .i64 0]) ∧ g < w'.heap.size ∧ w'.cell? ⟨g, 0, none⟩ = some (.string (rootS K H 32 (fiveL.take 4)))) ∧ Below w1.heap.size w1 w') := by
    have := Proof_good K H 32 fiveL 4 _ w1 (by show _ ∧ _; decide) hT1 (Lib.hid hS) (Lib.hid (five_fine _ (by decide))) (by decide) (by decide) (by decide)
    rw [proof5] at this
    refine this.mono ?_
    rintro e w' ⟨⟨v', rfl, ho⟩, hb⟩
    obtain ⟨g, cap, rfl⟩ := ownsRow_succ ho
    exact ⟨⟨g, cap, rfl, (ho.lt g rfl).2, by rw [ho.cellAt 0 (by decide)]; rfl⟩, hb⟩
  have q2 : Hid (∀ w2, Hid (Below w1.heap.size w1 w2) → Calls Tryd.prog 34 #[.slice (some ⟨w.heap.size, 0, none⟩) 4 5, .int .i64 32] w2 fun e w' => e = .returned (.tuple #[.string (rootS K H 32 (fiveL.take 4)), .int .i64 0]) ∧ Below w2.heap.size w2 w') := fun w2 hb =>
    Root_any K H 32 (fiveL.take 4) _ w2 (by show _ ∧ _; decide) (Lib.hid (hT1.out.call hb.out)) (Lib.hid ((hS.head 4 (by decide)).call hb.out)) (fun _ => Lib.hid (five_fine _ (by decide))) (by decide)
  have q3 : Hid (∀ w, Calls Tryd.prog 29 #[.int .i64 5] w fun e w' => e = .returned (.int .i64 4) ∧ w = w') := fun w => Split_any 5 w (by show _ ∧ _; decide)
  have q4 : Hid (∀ w, Calls Tryd.prog 29 #[.int .i64 4] w fun e w' => e = .returned (.int .i64 2) ∧ w = w') := fun w => Split_any 4 w (by show _ ∧ _; decide)
  have hz : Hid ((rootS K H 32 (fiveL.take 4)).size = 32) := rootS_size K H 32 (by decide) (by decide) _
  have HLL := Lib.hid HL
  rw [← hw1] at q1
  have HW1 := Lib.hid hw1
  generalize rootS K H 32 (fiveL.take 4) = R at *
  have hzz := hz.out
  have hbq : (R.toList == R.toList) = true := by simp
  clear hS hw1 HBk HL hT hT1
  go_enter Tryd.func26, Tryd.ntmps26
  go_wp2_with fail
  refine q1.out.mono ?_
  rintro e w2 ⟨⟨g, cap, rfl, hg, hc⟩, hb⟩
  rw [HW1.out] at hb
  have HB2 := Lib.hid hb
  have HE2 := Lib.hid (HLL.out.trans (hb.mono HLL.out.size))
  clear hb
  go_wp2_with fail
  refine (q2.out _ HB2).mono ?_
  rintro e w3 ⟨rfl, hb⟩
  replace hc := (hb.cell (p := ⟨g, 0, none⟩) hg).trans hc
  have HE3 := Lib.hid (HE2.out.trans (hb.mono HE2.out.size))
  clear hb
  go_wp2_with fail
  refine (q3.out _).mono ?_
  rintro e w4 ⟨rfl, rfl⟩
  go_wp2_with fail
  refine (q4.out _).mono ?_
  rintro e w4 ⟨rfl, rfl⟩
  go_wp2_with fail
  go_ret
  exact ⟨rfl, HE3.out⟩
end Go.Proofs.YtaigngdlioplaaaDoor
