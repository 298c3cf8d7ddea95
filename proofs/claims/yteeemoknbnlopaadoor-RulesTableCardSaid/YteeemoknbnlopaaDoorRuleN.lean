/- The document's example of the rules; the walk of RulesOpposed. -/
import Derived.Test.YteeemoknbnlopaaDoorRuleM
import Derived.Test.YteeemoknbnlopaaDoorRuleF
namespace Go.Proofs.YteeemoknbnlopaaDoor
open Go Go.RowKit Shelf
set_option linter.unusedVariables false

theorem steps_new (w : World) (s : Stp) (hs : s.fit) : StepsAt (w.alloc (.cells #[.int .i64 s.rule, .int .i64 s.left, .int .i64 s.right, .bool s.over] 39)) (.slice (some ⟨w.heap.size, 0, none⟩) 1 1) [s] := by
  have hk := heap_new w (.cells #[.int .i64 s.rule, .int .i64 s.left, .int .i64 s.right, .bool s.over] 39)
  refine ⟨_, 1, rfl, fun i t ht => ?_⟩
  match i, ht with
  | 0, ht =>
    simp at ht
    subst ht
    exact ⟨hs, _, 0, rfl, (Array.getElem?_eq_some_iff.1 hk).1, cells_of_blk hk 0 _ rfl, cells_of_blk hk 1 _ rfl, cells_of_blk hk 2 _ rfl, cells_of_blk hk 3 _ rfl⟩
  | i + 1, ht => simp at ht
theorem weigh_new (s : Stp) (hs : s.fit) (w : World) (hT : Hid (Law16 w)) (c n : Int) (hm : mayS [s] = true) (hg : goW [s] 0 = (c, n)) :
    Calls Tryd.prog 27 #[.slice (some ⟨w.heap.size, 0, none⟩) 1 1] (w.alloc (.cells #[.int .i64 s.rule, .int .i64 s.left, .int .i64 s.right, .bool s.over] 39)) fun e w' => e = .returned (.tuple #[.agg #[.int .i64 c, .int .i64 n], .int .i64 0]) ∧ Below (w.alloc (.cells #[.int .i64 s.rule, .int .i64 s.left, .int .i64 s.right, .bool s.over] 39)).heap.size (w.alloc (.cells #[.int .i64 s.rule, .int .i64 s.left, .int .i64 s.right, .bool s.over] 39)) w' := by
  have := Weigh_any _ [s] _ (Lib.hid (hT.out.call (below_alloc (Below.refl _ _) (Nat.le_refl _) (.cells #[.int .i64 s.rule, .int .i64 s.left, .int .i64 s.right, .bool s.over] 39)))) (Lib.hid (steps_new w s hs)) (by simp)
  rw [hm, if_pos rfl, hg] at this
  exact this
theorem Holds_agg (r a b : Int) (o : Bool) (hs : Stp.fit ⟨r, a, b, o⟩) (w : World) (hT : Hid (Law16 w)) : Calls Tryd.prog 23 #[.agg #[.int .i64 r, .int .i64 a, .int .i64 b, .bool o]] w fun e w' => e = .returned (.bool (Stp.mk r a b o).holds) ∧ Below w.heap.size w w' := Holds_any ⟨r, a, b, o⟩ hs w hT
theorem rHolds_agg (r a b : Int) (o : Bool) (w : World) : Calls Tryd.prog 24 #[.agg #[.int .i64 r, .int .i64 a, .int .i64 b, .bool o]] w fun e w' => e = .returned (.bool (Stp.mk r a b o).holds) ∧ Below w.heap.size w w' := rHolds_any ⟨r, a, b, o⟩ w
theorem Text_agg (r a b : Int) (o : Bool) (hs : Stp.fit ⟨r, a, b, o⟩) (w : World) (hT : Hid (Law16 w)) : Calls Tryd.prog 25 #[.agg #[.int .i64 r, .int .i64 a, .int .i64 b, .bool o]] w fun e w' => e = .returned (.string ⟨(textS ⟨r, a, b, o⟩).toArray⟩) ∧ Below w.heap.size w w' := Text_any ⟨r, a, b, o⟩ hs w hT
theorem rText_agg (r a b : Int) (o : Bool) (hs : Stp.fit ⟨r, a, b, o⟩) (w : World) : Calls Tryd.prog 26 #[.agg #[.int .i64 r, .int .i64 a, .int .i64 b, .bool o]] w fun e w' => e = .returned (.string ⟨(textS ⟨r, a, b, o⟩).toArray⟩) ∧ Below w.heap.size w w' := rText_any ⟨r, a, b, o⟩ hs w
theorem itoa_one {n : Nat} (h : n < 10) : Lib.itoa (n : Int) = [UInt8.ofNat (48 + n)] := by rw [itoa_of, Lib.decDigits, dif_pos h]
theorem text_example : textS ⟨18, 5, 4, false⟩ = [119, 111, 114, 116, 104, 32, 53, 32, 60, 61, 32, 52] := by
  show nameS 18 ++ ([32] ++ (Lib.itoa ((5 : Nat) : Int) ++ ([32] ++ (signS (relS 18) ++ ([32] ++ Lib.itoa ((4 : Nat) : Int)))))) = _
  rw [itoa_one (by decide), itoa_one (by decide)]
  decide

set_option maxRecDepth 100000 in
set_option maxHeartbeats 1000000 in
theorem alive16 (w : World) (hT : Hid (Law16 w)) : Calls Tryd.prog 18 #[] w fun e w' => e = .returned (.bool true) ∧ Below w.heap.size w w' := by
  have f1 : Stp.fit ⟨18, 5, 4, false⟩ := by refine ⟨?_, ?_, ?_⟩ <;> (unfold I64; simp)
  have f2 : Stp.fit ⟨20, 3, 9, false⟩ := by refine ⟨?_, ?_, ?_⟩ <;> (unfold I64; simp)
  have q1 := Lib.hid (fun w hT => weigh_new ⟨18, 5, 4, false⟩ f1 w hT 9 0 (by decide) (by decide))
  have q2 := Lib.hid (fun w hT => weigh_new ⟨20, 3, 9, false⟩ f2 w hT 0 3 (by decide) (by decide))
  have q3 := Lib.hid (fun w hT => Text_agg 18 5 4 false f1 w hT)
  rw [text_example] at q3
  have HB1 : Hid (∀ o, Below w.heap.size w (w.alloc o)) := fun o => below_alloc (Below.refl _ _) (Nat.le_refl _) o
  clear f1 f2
  go_enter Tryd.func18, Tryd.ntmps18
  go_wp2_with fail
  with_reducible refine (q1.out _ hT).mono ?_
  rintro e w2 ⟨rfl, hb⟩
  have HB2 := Lib.hid ((HB1.out _).trans (hb.mono (HB1.out _).size))
  have HB3 := Lib.hid (below_alloc HB2.out HB2.out.size (.cells #[.int .i64 9, .int .i64 0] 49))
  have D3 := Lib.hid (heap_new w2 (.cells #[.int .i64 9, .int .i64 0] 49))
  have hT3 := Lib.hid (hT.out.call HB3.out)
  obtain ⟨w3, hw3⟩ : ∃ w3, w2.alloc (.cells #[.int .i64 9, .int .i64 0] 49) = w3 := ⟨_, rfl⟩
  rw [hw3] at HB3 D3 hT3
  have HW3 := Lib.hid hw3
  have hsz : Hid (w3.heap.size = w2.heap.size + 1) := by show _ = _; rw [← hw3, World.size_alloc]
  clear hb HB2 hw3
  go_wp2_with fail
  rw [HW3.out, ← hsz.out]
  clear HW3 hsz
  with_reducible refine (q2.out _ hT3).mono ?_
  rintro e w4 ⟨rfl, hb⟩
  have HB4 := Lib.hid ((below_alloc HB3.out HB3.out.size _).trans (hb.mono (below_alloc HB3.out HB3.out.size _).size))
  have D4 := Lib.hid (blk_call (blk_old D3.out _) hb)
  have HB5 := Lib.hid (below_alloc HB4.out HB4.out.size (.cells #[.int .i64 0, .int .i64 3] 49))
  have D5 := Lib.hid (blk_old D4.out (.cells #[.int .i64 0, .int .i64 3] 49))
  have F5 := Lib.hid (heap_new w4 (.cells #[.int .i64 0, .int .i64 3] 49))
  have hT5 := Lib.hid (hT.out.call HB5.out)
  have g0 := cells_of_blk D5.out 0 _ rfl
  have g1 := cells_of_blk D5.out 1 _ rfl
  clear hb HB4 D4 D3 HB3
  go_wp2_with fail
  with_reducible refine (q3.out _ hT5).mono ?_
  rintro e w6 ⟨rfl, hb⟩
  have HB6 := Lib.hid (HB5.out.trans (hb.mono HB5.out.size))
  have F6 := blk_call F5.out hb
  clear g0 g1
  have g0 := cells_of_blk F6 0 _ rfl
  have g1 := cells_of_blk F6 1 _ rfl
  clear hb F6 F5 D5 HB5
  go_wp2_with fail
  go_ret
  exact ⟨rfl, HB6.out⟩

set_option maxRecDepth 100000 in
set_option maxHeartbeats 1000000 in
theorem RulesOpposed_walk (n a b : Int) (w : World) (hT : Hid (Law16 w)) (hn : 0 ≤ n ∧ n ≤ 255) (ha : Hid (I64 a)) (hb' : Hid (I64 b)) :
    Calls Tryd.prog 8 #[.int .u8 n, .int .i64 a, .int .i64 b] w fun e w' => e = .returned (.bool true) ∧ Below w.heap.size w w' := by
  have a0 := Lib.hid (alive16 w hT)
  obtain ⟨m, hm⟩ : ∃ m : Nat, n % 23 = m := ⟨(n % 23).toNat, by omega⟩
  have hm23 : m < 23 := by omega
  have e1 : n.tmod 23 = (m : Int) := by rw [Int.tmod_eq_emod_of_nonneg (by omega)]; exact hm
  have hr : I64 (1 + (m : Int)) := by unfold I64; omega
  have hn0 : 0 ≤ n := hn.1
  have hn1 : n ≤ 255 := hn.2
  have q1 := Lib.hid (fun w hT => Holds_agg (1 + (m : Int)) a b false ⟨hr, ha.out, hb'.out⟩ w hT)
  have q2 := Lib.hid (fun w hT => Holds_agg (1 + (m : Int)) b a false ⟨hr, hb'.out, ha.out⟩ w hT)
  have q3 := Lib.hid (fun w hT => Relation_any (1 + (m : Int)) hr w hT)
  rw [show (Stp.mk (1 + (m : Int)) a b false).holds = Rule.is (relS (1 + (m : Int))) a b from rfl] at q1
  rw [show (Stp.mk (1 + (m : Int)) b a false).holds = Rule.is (relS (1 + (m : Int))) b a from rfl] at q2
  have hrel : relS (1 + (m : Int)) = 1 ∨ relS (1 + (m : Int)) = 2 ∨ relS (1 + (m : Int)) = 3 := by
    have key : ∀ k, k < 24 → 0 < k → Rule.rel k = 1 ∨ Rule.rel k = 2 ∨ Rule.rel k = 3 := by decide
    have : relS (1 + (m : Int)) = Rule.rel (m + 1) := by
      unfold relS numR
      rw [if_pos (by omega)]
      congr 1
      omega
    rw [this]
    exact key (m + 1) (by omega) (by omega)
  generalize relS (1 + (m : Int)) = R at *
  clear hm hn hr ha hb'
  have hfin : (R = 3 → (Rule.is R a b == Rule.is R b a && Rule.is R a b == (a == b)) = true) ∧ (R ≠ 3 → ((Rule.is R a b || Rule.is R b a) && (Rule.is R a b && Rule.is R b a) == (a == b)) = true) := by
    rcases hrel with rfl | rfl | rfl
    · refine ⟨fun h => by omega, fun _ => ?_⟩
      unfold Rule.is
      simp only []
      rcases Int.lt_trichotomy a b with h | h | h
      · rw [decide_eq_true (show a ≤ b by omega), decide_eq_false (show ¬ b ≤ a by omega), show (a == b) = false from beq_eq_false_iff_ne.2 (by omega)]; rfl
      · subst h; simp
      · rw [decide_eq_false (show ¬ a ≤ b by omega), decide_eq_true (show b ≤ a by omega), show (a == b) = false from beq_eq_false_iff_ne.2 (by omega)]; rfl
    · refine ⟨fun h => by omega, fun _ => ?_⟩
      unfold Rule.is
      simp only []
      rcases Int.lt_trichotomy a b with h | h | h
      · rw [decide_eq_true (show a ≤ b by omega), decide_eq_false (show ¬ b ≤ a by omega), show (a == b) = false from beq_eq_false_iff_ne.2 (by omega)]; rfl
      · subst h; simp
      · rw [decide_eq_false (show ¬ a ≤ b by omega), decide_eq_true (show b ≤ a by omega), show (a == b) = false from beq_eq_false_iff_ne.2 (by omega)]; rfl
    · refine ⟨fun _ => ?_, fun h => absurd rfl h⟩
      unfold Rule.is
      simp only []
      by_cases h : a = b
      · subst h; simp
      · rw [show (a == b) = false from beq_eq_false_iff_ne.2 h, show (b == a) = false from beq_eq_false_iff_ne.2 (Ne.symm h)]; rfl
  have hfin := Lib.hid hfin
  generalize Rule.is R a b = x at *
  generalize Rule.is R b a = y at *
  obtain ⟨z, hz⟩ : ∃ z, (a == b) = z := ⟨_, rfl⟩
  rw [hz] at hfin
  clear hrel
  by_cases h3 : R = 3
  · have hf := hfin.out.1 h3
    subst h3
    have hf := Lib.hid hf
    clear hfin
    go_enter Tryd.func8, Tryd.ntmps8
    go_wp2_with fail
    refine a0.out.mono ?_
    rintro e w1 ⟨rfl, hb⟩
    have HB1 := Lib.hid hb
    have hT1 := Lib.hid (hT.out.call hb)
    clear hb
    go_wp2_with fail
    with_reducible refine (q1.out _ hT1).mono ?_
    rintro e w2 ⟨rfl, hb⟩
    have HB2 := Lib.hid (HB1.out.trans (hb.mono HB1.out.size))
    have hT2 := Lib.hid (hT1.out.call hb)
    clear hb
    go_wp2_with fail
    with_reducible refine (q2.out _ hT2).mono ?_
    rintro e w3 ⟨rfl, hb⟩
    have HB3 := Lib.hid (HB2.out.trans (hb.mono HB2.out.size))
    have hT3 := Lib.hid (hT2.out.call hb).rules
    clear hb
    go_wp2_with fail
    with_reducible refine (q3.out _ hT3).mono ?_
    rintro e w4 ⟨rfl, hb⟩
    have HB4 := Lib.hid (HB3.out.trans (hb.mono HB3.out.size))
    clear hb
    revert hf
    cases x <;> cases y <;> cases z <;> intro hf <;> (try exact absurd hf.out (by decide)) <;> clear hf
    all_goals
      go_wp2_with fail
      go_ret
      exact ⟨rfl, HB4.out⟩
  · have hf := hfin.out.2 h3
    have t3 : ((R : Int) == 3) = false := by rw [beq_eq_false_iff_ne]; omega
    have hf := Lib.hid hf
    clear hfin h3
    go_enter Tryd.func8, Tryd.ntmps8
    go_wp2_with fail
    refine a0.out.mono ?_
    rintro e w1 ⟨rfl, hb⟩
    have HB1 := Lib.hid hb
    have hT1 := Lib.hid (hT.out.call hb)
    clear hb
    go_wp2_with fail
    with_reducible refine (q1.out _ hT1).mono ?_
    rintro e w2 ⟨rfl, hb⟩
    have HB2 := Lib.hid (HB1.out.trans (hb.mono HB1.out.size))
    have hT2 := Lib.hid (hT1.out.call hb)
    clear hb
    go_wp2_with fail
    with_reducible refine (q2.out _ hT2).mono ?_
    rintro e w3 ⟨rfl, hb⟩
    have HB3 := Lib.hid (HB2.out.trans (hb.mono HB2.out.size))
    have hT3 := Lib.hid (hT2.out.call hb).rules
    clear hb
    go_wp2_with fail
    with_reducible refine (q3.out _ hT3).mono ?_
    rintro e w4 ⟨rfl, hb⟩
    have HB4 := Lib.hid (HB3.out.trans (hb.mono HB3.out.size))
    clear hb
    revert hf
    cases x <;> cases y <;> cases z <;> intro hf <;> (try exact absurd hf.out (by decide)) <;> clear hf
    all_goals
      go_wp2_with fail
      go_ret
      exact ⟨rfl, HB4.out⟩
end Go.Proofs.YteeemoknbnlopaaDoor
