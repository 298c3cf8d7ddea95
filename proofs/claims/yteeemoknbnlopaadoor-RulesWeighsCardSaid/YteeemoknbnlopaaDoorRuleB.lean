/- rules' Relation, Code, Name, Holds. -/
import Derived.Test.YteeemoknbnlopaaDoorRuleA
namespace Go.Proofs.YteeemoknbnlopaaDoor
open Go Go.RowKit
set_option linter.unusedVariables false

/-- A step. -/
structure Stp where
  rule : Int
  left : Int
  right : Int
  over : Bool
def Stp.val (s : Stp) : Value := .agg #[.int .i64 s.rule, .int .i64 s.left, .int .i64 s.right, .bool s.over]
def Stp.fit (s : Stp) : Prop := I64 s.rule ∧ I64 s.left ∧ I64 s.right
def relS (n : Int) : Nat := Rule.rel (numR n)
def codeS (n : Int) : Nat := Rule.code (numR n)
def nameS (n : Int) : List UInt8 := if 0 < n ∧ n < 24 then Rule.name (numR n) else [63]
def Stp.holds (s : Stp) : Bool := !s.over && Rule.is (relS s.rule) s.left s.right
theorem relS_lt (n : Int) : relS n < 4 := Rule.rel_lt _
theorem codeS_lt (n : Int) : codeS n < 13 := (Rule.fine _ (numR_lt n)).2.1
theorem nameS_len (n : Int) : (nameS n).length ≤ 20 := by
  unfold nameS
  split
  · exact (Rule.fine _ (numR_lt n)).2.2
  · decide
def signS : Nat → List UInt8
  | 1 => [60, 61]
  | 2 => [62, 61]
  | 3 => [61]
  | _ => [63]

structure RelsT (w : World) : Prop where
  c0 : w.cell? ⟨0, 0, none⟩ = some (.string ⟨#[63]⟩) ∧ w.cell? ⟨0, 1, none⟩ = some (.func (.func 79) #[] #[])
  c1 : w.cell? ⟨0, 2, none⟩ = some (.string ⟨#[60, 61]⟩) ∧ w.cell? ⟨0, 3, none⟩ = some (.func (.func 80) #[] #[])
  c2 : w.cell? ⟨0, 4, none⟩ = some (.string ⟨#[62, 61]⟩) ∧ w.cell? ⟨0, 5, none⟩ = some (.func (.func 81) #[] #[])
  c3 : w.cell? ⟨0, 6, none⟩ = some (.string ⟨#[61]⟩) ∧ w.cell? ⟨0, 7, none⟩ = some (.func (.func 82) #[] #[])
  lt : 0 < w.heap.size
theorem RelsT.call {w w' : World} (h : RelsT w) (hb : Below w.heap.size w w') : RelsT w' :=
  ⟨⟨(hb.cell (p := ⟨0, 0, none⟩) h.lt).trans h.c0.1, (hb.cell (p := ⟨0, 1, none⟩) h.lt).trans h.c0.2⟩,
   ⟨(hb.cell (p := ⟨0, 2, none⟩) h.lt).trans h.c1.1, (hb.cell (p := ⟨0, 3, none⟩) h.lt).trans h.c1.2⟩,
   ⟨(hb.cell (p := ⟨0, 4, none⟩) h.lt).trans h.c2.1, (hb.cell (p := ⟨0, 5, none⟩) h.lt).trans h.c2.2⟩,
   ⟨(hb.cell (p := ⟨0, 6, none⟩) h.lt).trans h.c3.1, (hb.cell (p := ⟨0, 7, none⟩) h.lt).trans h.c3.2⟩, Nat.lt_of_lt_of_le h.lt hb.size⟩

structure Law16 (w : World) : Prop where
  rules : RulesT w
  rels : RelsT w
  tab : TabW w
theorem Law16.call {w w' : World} (h : Law16 w) (hb : Below w.heap.size w w') : Law16 w' := ⟨h.rules.call hb, h.rels.call hb, h.tab.call hb⟩

theorem rule_f0 (s : ByteArray) (a b : Int) (w : World) : (Instr.field 62 (.agg #[.string s, .int .i64 a, .int .i64 b]) 0).run Tryd.prog w = .ok (.string s) w := by kernel_rfl
theorem rule_f1 (s : ByteArray) (a b : Int) (w : World) : (Instr.field 62 (.agg #[.string s, .int .i64 a, .int .i64 b]) 1).run Tryd.prog w = .ok (.int .i64 a) w := by kernel_rfl
theorem rule_f2 (s : ByteArray) (a b : Int) (w : World) : (Instr.field 62 (.agg #[.string s, .int .i64 a, .int .i64 b]) 2).run Tryd.prog w = .ok (.int .i64 b) w := by kernel_rfl

set_option maxRecDepth 100000 in
set_option maxHeartbeats 1000000 in
theorem Relation_any (n : Int) (hn : I64 n) (w : World) (hT : Hid (RulesT w)) : Calls Tryd.prog 20 #[.int .i64 n] w fun e w' => e = .returned (.int .i64 (relS n)) ∧ Below w.heap.size w w' := by
  have q := Lib.hid (of_any n hn w hT)
  have hr : Hid ((Rule.rel (numR n) : Nat) = relS n) := rfl
  have hc : Hid ((Rule.code (numR n) : Nat) = codeS n) := rfl
  have hf := rule_f1 ⟨(Rule.name (numR n)).toArray⟩ (Rule.rel (numR n)) (Rule.code (numR n))
  go_enter Tryd.func20, Tryd.ntmps20
  go_wp2_with fail
  refine q.out.mono ?_
  rintro e w' ⟨rfl, hb⟩
  have HB := Lib.hid hb
  clear hb
  go_wp2_with fail
  go_ret
  exact ⟨rfl, HB.out⟩
set_option maxRecDepth 100000 in
set_option maxHeartbeats 1000000 in
theorem Code_any (n : Int) (hn : I64 n) (w : World) (hT : Hid (RulesT w)) : Calls Tryd.prog 21 #[.int .i64 n] w fun e w' => e = .returned (.int .i64 (codeS n)) ∧ Below w.heap.size w w' := by
  have q := Lib.hid (of_any n hn w hT)
  have hr : Hid ((Rule.rel (numR n) : Nat) = relS n) := rfl
  have hc : Hid ((Rule.code (numR n) : Nat) = codeS n) := rfl
  have hf := rule_f2 ⟨(Rule.name (numR n)).toArray⟩ (Rule.rel (numR n)) (Rule.code (numR n))
  go_enter Tryd.func21, Tryd.ntmps21
  go_wp2_with fail
  refine q.out.mono ?_
  rintro e w' ⟨rfl, hb⟩
  have HB := Lib.hid hb
  clear hb
  go_wp2_with fail
  go_ret
  exact ⟨rfl, HB.out⟩

set_option maxRecDepth 100000 in
set_option maxHeartbeats 1000000 in
theorem Name_any (n : Int) (hn : I64 n) (w : World) (hT : Hid (RulesT w)) : Calls Tryd.prog 22 #[.int .i64 n] w fun e w' => e = .returned (.string ⟨(nameS n).toArray⟩) ∧ Below w.heap.size w w' := by
  have q := Lib.hid (fun w => there_any n hn w)
  have q2 := Lib.hid (of_any n hn w hT)
  by_cases h : 0 < n ∧ n < 24
  · rw [decide_eq_true h] at q
    have hN : Hid (nameS n = Rule.name (numR n)) := if_pos h
    have hf := rule_f0 ⟨(Rule.name (numR n)).toArray⟩ (Rule.rel (numR n)) (Rule.code (numR n))
    clear h
    go_enter Tryd.func22, Tryd.ntmps22
    go_wp2_with fail
    refine (q.out _).mono ?_
    rintro e w' ⟨rfl, rfl⟩
    go_wp2_with fail
    refine q2.out.mono ?_
    rintro e w' ⟨rfl, hb⟩
    have HB := Lib.hid hb
    clear hb
    go_wp2_with fail
    go_ret
    exact ⟨by rw [hN.out]; rfl, HB.out⟩
  · rw [decide_eq_false h] at q
    have hN : Hid (nameS n = [63]) := if_neg h
    clear h
    go_enter Tryd.func22, Tryd.ntmps22
    go_wp2_with fail
    refine (q.out _).mono ?_
    rintro e w' ⟨rfl, rfl⟩
    go_wp2_with fail
    go_ret
    exact ⟨by rw [hN.out]; rfl, Below.refl _ _⟩

set_option maxRecDepth 100000 in
theorem rel1_any (a b : Int) (w : World) : Calls Tryd.prog 79 #[.int .i64 a, .int .i64 b] w fun e w' => e = .returned (.bool (false)) ∧ w' = w := by
  obtain ⟨z, hz⟩ : ∃ z, (false) = z := ⟨_, rfl⟩
  go_enter Tryd.func79, Tryd.ntmps79
  go_wp2_with fail
  go_ret
  exact ⟨by rw [hz]; rfl, rfl⟩
set_option maxRecDepth 100000 in
theorem rel2_any (a b : Int) (w : World) : Calls Tryd.prog 80 #[.int .i64 a, .int .i64 b] w fun e w' => e = .returned (.bool (decide (a ≤ b))) ∧ w' = w := by
  obtain ⟨z, hz⟩ : ∃ z, (decide (a ≤ b)) = z := ⟨_, rfl⟩
  go_enter Tryd.func80, Tryd.ntmps80
  go_wp2_with fail
  go_ret
  exact ⟨by rw [hz]; rfl, rfl⟩
set_option maxRecDepth 100000 in
theorem rel3_any (a b : Int) (w : World) : Calls Tryd.prog 81 #[.int .i64 a, .int .i64 b] w fun e w' => e = .returned (.bool (decide (b ≤ a))) ∧ w' = w := by
  obtain ⟨z, hz⟩ : ∃ z, (decide (b ≤ a)) = z := ⟨_, rfl⟩
  go_enter Tryd.func81, Tryd.ntmps81
  go_wp2_with fail
  go_ret
  exact ⟨by rw [hz]; rfl, rfl⟩
set_option maxRecDepth 100000 in
theorem rel4_any (a b : Int) (w : World) : Calls Tryd.prog 82 #[.int .i64 a, .int .i64 b] w fun e w' => e = .returned (.bool (a == b)) ∧ w' = w := by
  obtain ⟨z, hz⟩ : ∃ z, (a == b) = z := ⟨_, rfl⟩
  go_enter Tryd.func82, Tryd.ntmps82
  go_wp2_with fail
  go_ret
  exact ⟨by rw [hz]; rfl, rfl⟩
end Go.Proofs.YteeemoknbnlopaaDoor
