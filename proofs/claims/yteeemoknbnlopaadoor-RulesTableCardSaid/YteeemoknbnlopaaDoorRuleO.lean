/- The walk of RulesTable. -/
import Derived.Test.YteeemoknbnlopaaDoorRuleN
namespace Go.Proofs.YteeemoknbnlopaaDoor
open Go Go.RowKit Shelf
set_option linter.unusedVariables false

set_option maxRecDepth 100000 in
set_option maxHeartbeats 2000000 in
theorem RulesTable_known (n r a b : Int) (o : Bool) (w : World) (hT : Hid (Law16 w)) (hn : Hid (I64 n)) (hs : Hid (Stp.fit ⟨r, a, b, o⟩)) (c : UInt8) (cs : List UInt8) (hN : Hid (Rule.name (numR n) = (c :: cs))) (hN2 : Hid (nameS n = (c :: cs))) :
    Calls Tryd.prog 6 #[.int .i64 n, .agg #[.int .i64 r, .int .i64 a, .int .i64 b, .bool o]] w fun e w' => e = .returned (.bool true) ∧ Below w.heap.size w w' := by
  obtain ⟨w0, hw0⟩ : ∃ w0, w.alloc (.cells #[.int .i64 r, .int .i64 a, .int .i64 b, .bool o] 39) = w0 := ⟨_, rfl⟩
  have HW0 := Lib.hid hw0
  have HB0 : Hid (Below w.heap.size w w0) := by rw [← hw0]; exact below_alloc (Below.refl _ _) (Nat.le_refl _) _
  have D0 : Hid (w0.heap[w.heap.size]? = some (.cells #[.int .i64 r, .int .i64 a, .int .i64 b, .bool o] 39 (0, 0))) := by rw [← hw0]; exact heap_new _ _
  have hT0 := Lib.hid (hT.out.call HB0.out)
  have a0 := Lib.hid (alive16 w0 hT0)
  have q : Hid (∀ w, Calls Tryd.prog 19 #[.int .i64 n] w fun e w' => e = .returned (.agg #[.string ⟨(c :: cs).toArray⟩, .int .i64 (relS n), .int .i64 (codeS n)]) ∧ Below w.heap.size w w') := fun w => by
    have := Table_any n w
    rw [hN.out] at this
    exact this
  have q1 := Lib.hid (fun w hT => Relation_any n hn.out w hT)
  have q2 := Lib.hid (fun w hT => Code_any n hn.out w hT)
  have q3 := Lib.hid (fun w hT => Name_any n hn.out w hT)
  rw [hN2.out] at q3
  have q4 := Lib.hid (fun w hT => Holds_agg r a b o hs.out w hT)
  have q5 := Lib.hid (fun w => rHolds_agg r a b o w)
  have q6 := Lib.hid (fun w hT => Text_agg r a b o hs.out w hT)
  have q7 := Lib.hid (fun w => rText_agg r a b o hs.out w)
  generalize (Stp.mk r a b o).holds = hb at *
  generalize textS ⟨r, a, b, o⟩ = T at *
  generalize ((relS n : Nat) : Int) = rl at *
  generalize ((codeS n : Nat) : Int) = cd at *
  clear hw0 hN hN2 hs hn
  go_enter Tryd.func6, Tryd.ntmps6
  go_wp2_with fail
  rw [HW0.out]
  clear HW0
  refine a0.out.mono ?_
  rintro e w1 ⟨rfl, hb1⟩
  have HB1 := Lib.hid (HB0.out.trans (hb1.mono HB0.out.size))
  have D1 := Lib.hid (blk_call D0.out hb1)
  have hT1 := Lib.hid (hT0.out.call hb1)
  clear hb1
  go_wp2_with fail
  with_reducible refine (q.out _).mono ?_
  rintro e w2 ⟨rfl, hb2⟩
  have HB2 := Lib.hid (HB1.out.trans (hb2.mono HB1.out.size))
  have D2 := Lib.hid (blk_call D1.out hb2)
  have hT2 := Lib.hid (hT1.out.call hb2)
  clear hb2
  go_wp2_with fail
  have HB3 := Lib.hid (below_alloc HB2.out HB2.out.size (.cells #[.string ⟨(c :: cs).toArray⟩, .int .i64 rl, .int .i64 cd] 41))
  have D3 := Lib.hid (blk_old D2.out (.cells #[.string ⟨(c :: cs).toArray⟩, .int .i64 rl, .int .i64 cd] 41))
  have R3 := Lib.hid (heap_new w2 (.cells #[.string ⟨(c :: cs).toArray⟩, .int .i64 rl, .int .i64 cd] 41))
  have hT3 := Lib.hid (hT2.out.call (below_alloc (Below.refl _ _) (Nat.le_refl _) (.cells #[.string ⟨(c :: cs).toArray⟩, .int .i64 rl, .int .i64 cd] 41)))
  obtain ⟨w3, hw3⟩ : ∃ w3, w2.alloc (.cells #[.string ⟨(c :: cs).toArray⟩, .int .i64 rl, .int .i64 cd] 41) = w3 := ⟨_, rfl⟩
  rw [hw3] at HB3 D3 R3 hT3 ⊢
  generalize w2.heap.size = G2 at *
  have l1 := (Array.getElem?_eq_some_iff.1 D3.out).1
  have l2 := (Array.getElem?_eq_some_iff.1 R3.out).1
  have g0 := cells_of_blk D3.out 0 _ rfl
  have g1 := cells_of_blk D3.out 1 _ rfl
  have g2 := cells_of_blk D3.out 2 _ rfl
  have g3 := cells_of_blk D3.out 3 _ rfl
  have r0 := cells_of_blk R3.out 0 _ rfl
  have r1 := cells_of_blk R3.out 1 _ rfl
  have r2 := cells_of_blk R3.out 2 _ rfl
  have qE1 := Lib.hid (fun (x : ExtOf w3) => q1.out x.w (Lib.hid (hT3.out.call x.below).rules))
  have qE2 := Lib.hid (fun (x : ExtOf w3) => q2.out x.w (Lib.hid (hT3.out.call x.below).rules))
  have qE3 := Lib.hid (fun (x : ExtOf w3) => q3.out x.w (Lib.hid (hT3.out.call x.below).rules))
  have qE4 := Lib.hid (fun (x : ExtOf w3) => q4.out x.w (Lib.hid (hT3.out.call x.below)))
  have qE6 := Lib.hid (fun (x : ExtOf w3) => q6.out x.w (Lib.hid (hT3.out.call x.below)))
  clear hw3 q1 q2 q3 q4 q6 q hT hT0 hT1 hT2 HB0 HB1 HB2 D0 D1 D2 hT3
  refine wp_region_ext (by kernel_rfl) (by kernel_rfl) ?_
  repeat (go_big_quiet_step (first | (with_reducible exact ext_call (qE1.out _)) | (with_reducible exact ext_call (qE2.out _)) | (with_reducible exact ext_call (qE3.out _)) | (with_reducible exact ext_call (qE4.out _)) | (with_reducible exact ext_call (q5.out _)) | (with_reducible exact ext_call (qE6.out _)) | (with_reducible exact ext_call (q7.out _))))
  refine wpQuiet_nil ?_
  rintro w' ⟨y, rfl⟩
  have HB9 := Lib.hid (HB3.out.trans (y.below.mono HB3.out.size))
  go_wp2_with fail
  go_ret
  exact ⟨rfl, HB9.out⟩
set_option maxRecDepth 100000 in
set_option maxHeartbeats 2000000 in
theorem RulesTable_unknown (n r a b : Int) (o : Bool) (w : World) (hT : Hid (Law16 w)) (hn : Hid (I64 n)) (hs : Hid (Stp.fit ⟨r, a, b, o⟩)) (c : UInt8) (cs : List UInt8) (hN : Hid (Rule.name (numR n) = (([] : List UInt8)))) (hN2 : Hid (nameS n = (([63] : List UInt8)))) :
    Calls Tryd.prog 6 #[.int .i64 n, .agg #[.int .i64 r, .int .i64 a, .int .i64 b, .bool o]] w fun e w' => e = .returned (.bool true) ∧ Below w.heap.size w w' := by
  obtain ⟨w0, hw0⟩ : ∃ w0, w.alloc (.cells #[.int .i64 r, .int .i64 a, .int .i64 b, .bool o] 39) = w0 := ⟨_, rfl⟩
  have HW0 := Lib.hid hw0
  have HB0 : Hid (Below w.heap.size w w0) := by rw [← hw0]; exact below_alloc (Below.refl _ _) (Nat.le_refl _) _
  have D0 : Hid (w0.heap[w.heap.size]? = some (.cells #[.int .i64 r, .int .i64 a, .int .i64 b, .bool o] 39 (0, 0))) := by rw [← hw0]; exact heap_new _ _
  have hT0 := Lib.hid (hT.out.call HB0.out)
  have a0 := Lib.hid (alive16 w0 hT0)
  have q : Hid (∀ w, Calls Tryd.prog 19 #[.int .i64 n] w fun e w' => e = .returned (.agg #[.string ⟨(([] : List UInt8)).toArray⟩, .int .i64 (relS n), .int .i64 (codeS n)]) ∧ Below w.heap.size w w') := fun w => by
    have := Table_any n w
    rw [hN.out] at this
    exact this
  have q1 := Lib.hid (fun w hT => Relation_any n hn.out w hT)
  have q2 := Lib.hid (fun w hT => Code_any n hn.out w hT)
  have q3 := Lib.hid (fun w hT => Name_any n hn.out w hT)
  rw [hN2.out] at q3
  have q4 := Lib.hid (fun w hT => Holds_agg r a b o hs.out w hT)
  have q5 := Lib.hid (fun w => rHolds_agg r a b o w)
  have q6 := Lib.hid (fun w hT => Text_agg r a b o hs.out w hT)
  have q7 := Lib.hid (fun w => rText_agg r a b o hs.out w)
  generalize (Stp.mk r a b o).holds = hb at *
  generalize textS ⟨r, a, b, o⟩ = T at *
  generalize ((relS n : Nat) : Int) = rl at *
  generalize ((codeS n : Nat) : Int) = cd at *
  clear hw0 hN hN2 hs hn
  go_enter Tryd.func6, Tryd.ntmps6
  go_wp2_with fail
  rw [HW0.out]
  clear HW0
  refine a0.out.mono ?_
  rintro e w1 ⟨rfl, hb1⟩
  have HB1 := Lib.hid (HB0.out.trans (hb1.mono HB0.out.size))
  have D1 := Lib.hid (blk_call D0.out hb1)
  have hT1 := Lib.hid (hT0.out.call hb1)
  clear hb1
  go_wp2_with fail
  with_reducible refine (q.out _).mono ?_
  rintro e w2 ⟨rfl, hb2⟩
  have HB2 := Lib.hid (HB1.out.trans (hb2.mono HB1.out.size))
  have D2 := Lib.hid (blk_call D1.out hb2)
  have hT2 := Lib.hid (hT1.out.call hb2)
  clear hb2
  go_wp2_with fail
  have HB3 := Lib.hid (below_alloc HB2.out HB2.out.size (.cells #[.string ⟨(([] : List UInt8)).toArray⟩, .int .i64 rl, .int .i64 cd] 41))
  have D3 := Lib.hid (blk_old D2.out (.cells #[.string ⟨(([] : List UInt8)).toArray⟩, .int .i64 rl, .int .i64 cd] 41))
  have R3 := Lib.hid (heap_new w2 (.cells #[.string ⟨(([] : List UInt8)).toArray⟩, .int .i64 rl, .int .i64 cd] 41))
  have hT3 := Lib.hid (hT2.out.call (below_alloc (Below.refl _ _) (Nat.le_refl _) (.cells #[.string ⟨(([] : List UInt8)).toArray⟩, .int .i64 rl, .int .i64 cd] 41)))
  obtain ⟨w3, hw3⟩ : ∃ w3, w2.alloc (.cells #[.string ⟨(([] : List UInt8)).toArray⟩, .int .i64 rl, .int .i64 cd] 41) = w3 := ⟨_, rfl⟩
  rw [hw3] at HB3 D3 R3 hT3 ⊢
  generalize w2.heap.size = G2 at *
  have l1 := (Array.getElem?_eq_some_iff.1 D3.out).1
  have l2 := (Array.getElem?_eq_some_iff.1 R3.out).1
  have g0 := cells_of_blk D3.out 0 _ rfl
  have g1 := cells_of_blk D3.out 1 _ rfl
  have g2 := cells_of_blk D3.out 2 _ rfl
  have g3 := cells_of_blk D3.out 3 _ rfl
  have r0 := cells_of_blk R3.out 0 _ rfl
  have r1 := cells_of_blk R3.out 1 _ rfl
  have r2 := cells_of_blk R3.out 2 _ rfl
  have qE1 := Lib.hid (fun (x : ExtOf w3) => q1.out x.w (Lib.hid (hT3.out.call x.below).rules))
  have qE2 := Lib.hid (fun (x : ExtOf w3) => q2.out x.w (Lib.hid (hT3.out.call x.below).rules))
  have qE3 := Lib.hid (fun (x : ExtOf w3) => q3.out x.w (Lib.hid (hT3.out.call x.below).rules))
  have qE4 := Lib.hid (fun (x : ExtOf w3) => q4.out x.w (Lib.hid (hT3.out.call x.below)))
  have qE6 := Lib.hid (fun (x : ExtOf w3) => q6.out x.w (Lib.hid (hT3.out.call x.below)))
  clear hw3 q1 q2 q3 q4 q6 q hT hT0 hT1 hT2 HB0 HB1 HB2 D0 D1 D2 hT3
  refine wp_region_ext (by kernel_rfl) (by kernel_rfl) ?_
  repeat (go_big_quiet_step (first | (with_reducible exact ext_call (qE1.out _)) | (with_reducible exact ext_call (qE2.out _)) | (with_reducible exact ext_call (qE3.out _)) | (with_reducible exact ext_call (qE4.out _)) | (with_reducible exact ext_call (q5.out _)) | (with_reducible exact ext_call (qE6.out _)) | (with_reducible exact ext_call (q7.out _))))
  refine wpQuiet_nil ?_
  rintro w' ⟨y, rfl⟩
  have HB9 := Lib.hid (HB3.out.trans (y.below.mono HB3.out.size))
  go_wp2_with fail
  go_ret
  exact ⟨rfl, HB9.out⟩
theorem RulesTable_walk (n : Int) (s : Stp) (w : World) (hT : Hid (Law16 w)) (hn : I64 n) (hs : s.fit) :
    Calls Tryd.prog 6 #[.int .i64 n, s.val] w fun e w' => e = .returned (.bool true) ∧ Below w.heap.size w w' := by
  obtain ⟨r, a, b, o⟩ := s
  by_cases hk : 0 < n ∧ n < 24
  · obtain ⟨c, cs, h1, h2⟩ := name_known hk
    exact RulesTable_known n r a b o w hT (Lib.hid hn) (Lib.hid hs) c cs (Lib.hid h2) (Lib.hid h1)
  · obtain ⟨h1, h2⟩ := name_unknown hk
    exact RulesTable_unknown n r a b o w hT (Lib.hid hn) (Lib.hid hs) 0 [] (Lib.hid h2) (Lib.hid h1)
end Go.Proofs.YteeemoknbnlopaaDoor
