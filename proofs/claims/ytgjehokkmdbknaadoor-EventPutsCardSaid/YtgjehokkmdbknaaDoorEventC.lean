/- event: PutVerdict, PutPair; the reference's. -/
import Derived.Test.YtgjehokkmdbknaaDoorEventB
import Derived.Test.YtgjehokkmdbknaaDoorNumsI
namespace Go.Proofs.YtgjehokkmdbknaaDoor
open Go.RowKit

set_option maxRecDepth 100000 in
set_option maxHeartbeats 1000000 in
theorem refPutVerdict_any (x : Nat → Int) (w : World) (hx : Hid (∀ i, i < 2 → I64 (x i))) :
    Calls Tryd.prog 32 #[.agg #[.int .i64 (x 0), .int .i64 (x 1)]] w fun e w' => e = .returned (.string (putStr x 2)) ∧ Below w.heap.size w w' := by
  have h0 := Lib.hid (hx.out 0 (by omega))
  have z0 := intStr_size (x 0)
  have h1 := Lib.hid (hx.out 1 (by omega))
  have z1 := intStr_size (x 1)
  have hcat : (⟨#[]⟩ : ByteArray) ++ intStr (x 0) ++ intStr (x 1) = putStr x 2 := rfl
  have he : (⟨#[]⟩ : ByteArray) ++ intStr (x 0) = intStr (x 0) := by apply ByteArray.ext; simp [ByteArray.data_append]
  rw [he] at hcat
  rw [← hcat]
  clear hcat he hx
  generalize x 0 = x0 at *
  generalize x 1 = x1 at *
  go_enter Tryd.func32, Tryd.ntmps32
  go_wp2_with fail
  refine wp_region_ext (by kernel_rfl) (by kernel_rfl) ?_
  repeat (go_big_quiet_step (exact ext_call (refInt_any _ _ (by assumption))))
  refine wpQuiet_nil ?_
  rintro w' ⟨y, rfl⟩
  have HB := Lib.hid (below_to ((Below.refl _ w).alloc (Nat.le_refl _) _) y.below)
  go_wp2_with fail
  go_ret
  exact ⟨rfl, HB.out⟩

set_option maxRecDepth 100000 in
set_option maxHeartbeats 1000000 in
theorem refPut_any (x : Nat → Int) (w : World) (hx : Hid (∀ i, i < 7 → I64 (x i))) :
    Calls Tryd.prog 31 #[.agg #[.int .i64 (x 0), .int .i64 (x 1), .int .i64 (x 2), .int .i64 (x 3), .int .i64 (x 4), .int .i64 (x 5), .int .i64 (x 6)]] w fun e w' => e = .returned (.string (putStr x 7)) ∧ Below w.heap.size w w' := by
  have h0 := Lib.hid (hx.out 0 (by omega))
  have z0 := intStr_size (x 0)
  have h1 := Lib.hid (hx.out 1 (by omega))
  have z1 := intStr_size (x 1)
  have h2 := Lib.hid (hx.out 2 (by omega))
  have z2 := intStr_size (x 2)
  have h3 := Lib.hid (hx.out 3 (by omega))
  have z3 := intStr_size (x 3)
  have h4 := Lib.hid (hx.out 4 (by omega))
  have z4 := intStr_size (x 4)
  have h5 := Lib.hid (hx.out 5 (by omega))
  have z5 := intStr_size (x 5)
  have h6 := Lib.hid (hx.out 6 (by omega))
  have z6 := intStr_size (x 6)
  have hcat : (⟨#[]⟩ : ByteArray) ++ intStr (x 0) ++ intStr (x 1) ++ intStr (x 2) ++ intStr (x 3) ++ intStr (x 4) ++ intStr (x 5) ++ intStr (x 6) = putStr x 7 := rfl
  have he : (⟨#[]⟩ : ByteArray) ++ intStr (x 0) = intStr (x 0) := by apply ByteArray.ext; simp [ByteArray.data_append]
  rw [he] at hcat
  rw [← hcat]
  clear hcat he hx
  generalize x 0 = x0 at *
  generalize x 1 = x1 at *
  generalize x 2 = x2 at *
  generalize x 3 = x3 at *
  generalize x 4 = x4 at *
  generalize x 5 = x5 at *
  generalize x 6 = x6 at *
  go_enter Tryd.func31, Tryd.ntmps31
  go_wp2_with fail
  refine wp_region_ext (by kernel_rfl) (by kernel_rfl) ?_
  repeat (go_big_quiet_step (exact ext_call (refInt_any _ _ (by assumption))))
  refine wpQuiet_nil ?_
  rintro w' ⟨y, rfl⟩
  have HB := Lib.hid (below_to ((Below.refl _ w).alloc (Nat.le_refl _) _) y.below)
  go_wp2_with fail
  go_ret
  exact ⟨rfl, HB.out⟩

set_option maxRecDepth 100000 in
set_option maxHeartbeats 400000 in
theorem PutVerdict_any (x : Nat → Int) (w : World) (hx : Hid (∀ i, i < 2 → I64 (x i))) :
    Calls Tryd.prog 26 #[.agg #[.int .i64 (x 0), .int .i64 (x 1)]] w fun e w' => e = .returned (.string (putStr x 2)) ∧ Below w.heap.size w w' := by
  go_enter Tryd.func26, Tryd.ntmps26
  go_wp2_with fail
  have hbase : Below w.heap.size w ((w.alloc (.cells #[.int .i64 (x 0), .int .i64 (x 1)] 43)).alloc (.cells #[.int .i64 (x 0), .int .i64 (x 1)] 2)) := ((Below.refl _ w).alloc (Nat.le_refl _) _).alloc (by simp) _
  have HB := Lib.hid hbase; clear hbase
  refine (put_any _ 2 2 x _ (by show (2 : Nat) ≤ 20; omega) ?_).mono ?_
  · intro i hi
    refine ⟨_, 0, rfl, by simp, ?_, hx.out i hi⟩
    have hc : ∀ v, (#[Value.int .i64 (x 0), .int .i64 (x 1)] : Array Value)[i]? = some v → ((w.alloc (.cells #[.int .i64 (x 0), .int .i64 (x 1)] 43)).alloc (.cells #[.int .i64 (x 0), .int .i64 (x 1)] 2)).cell? ⟨w.heap.size + 1, 0 + i, none⟩ = some v := by
      intro v hv
      rw [World.cell?_alloc_at _ _ _ _ (by simp)]
      simpa using hv
    refine hc _ ?_
    match i, hi with
    | 0, _ => rfl
    | 1, _ => rfl
  · rintro e w1 ⟨rfl, hb1⟩
    have HB1 := Lib.hid (below_to HB.out hb1); clear hb1
    go_wp2_with fail
    go_ret
    exact ⟨rfl, HB1.out⟩

theorem putStr_split (x : Nat → Int) : putStr x 7 ++ putStr (fun i => x (i + 7)) 2 = putStr x 9 := by
  have he : (⟨#[]⟩ : ByteArray) ++ intStr (x 7) = intStr (x 7) := by apply ByteArray.ext; simp [ByteArray.data_append]
  show putStr x 7 ++ ((⟨#[]⟩ : ByteArray) ++ intStr (x 7) ++ intStr (x 8)) = putStr x 7 ++ intStr (x 7) ++ intStr (x 8)
  rw [he, ByteArray.append_assoc]

set_option maxRecDepth 100000 in
set_option maxHeartbeats 1000000 in
theorem PutPair_any (x : Nat → Int) (w : World) (hx : Hid (∀ i, i < 9 → I64 (x i))) :
    Calls Tryd.prog 27 #[.agg #[.int .i64 (x 0), .int .i64 (x 1), .int .i64 (x 2), .int .i64 (x 3), .int .i64 (x 4), .int .i64 (x 5), .int .i64 (x 6), .int .i64 (x 7), .int .i64 (x 8)]] w fun e w' => e = .returned (.string (putStr x 9)) ∧ Below w.heap.size w w' := by
  have q1 : ∀ w, Calls Tryd.prog _ #[.agg #[.int .i64 (x 0), .int .i64 (x 1), .int .i64 (x 2), .int .i64 (x 3), .int .i64 (x 4), .int .i64 (x 5), .int .i64 (x 6)]] w _ := fun w => Put_any x w (fun i hi => hx.out i (by omega))
  have q2 : ∀ w, Calls Tryd.prog _ #[.agg #[.int .i64 (x 7), .int .i64 (x 8)]] w _ := fun w => PutVerdict_any (fun i => x (i + 7)) w (fun i hi => hx.out (i + 7) (by omega))
  have Q1 := Lib.hid q1; have Q2 := Lib.hid q2; clear q1 q2
  have hcat := putStr_split x
  have z1 := putStr_size x 7
  have z2 := putStr_size (fun i => x (i + 7)) 2
  generalize putStr x 7 = s1 at *
  generalize putStr (fun i => x (i + 7)) 2 = s2 at *
  rw [← hcat]
  clear hcat hx
  generalize x 0 = x0 at *
  generalize x 1 = x1 at *
  generalize x 2 = x2 at *
  generalize x 3 = x3 at *
  generalize x 4 = x4 at *
  generalize x 5 = x5 at *
  generalize x 6 = x6 at *
  generalize x 7 = x7 at *
  generalize x 8 = x8 at *
  go_enter Tryd.func27, Tryd.ntmps27
  go_wp2_with fail
  refine wp_region_ext (by kernel_rfl) (by kernel_rfl) ?_
  repeat (go_big_quiet_step (first | exact ext_call (Q1.out _) | exact ext_call (Q2.out _)))
  refine wpQuiet_nil ?_
  rintro w' ⟨y, rfl⟩
  have HB := Lib.hid (below_to ((Below.refl _ w).alloc (Nat.le_refl _) _) y.below)
  go_wp2_with fail
  go_ret
  exact ⟨rfl, HB.out⟩

set_option maxRecDepth 100000 in
set_option maxHeartbeats 1000000 in
theorem refPutPair_any (x : Nat → Int) (w : World) (hx : Hid (∀ i, i < 9 → I64 (x i))) :
    Calls Tryd.prog 33 #[.agg #[.int .i64 (x 0), .int .i64 (x 1), .int .i64 (x 2), .int .i64 (x 3), .int .i64 (x 4), .int .i64 (x 5), .int .i64 (x 6), .int .i64 (x 7), .int .i64 (x 8)]] w fun e w' => e = .returned (.string (putStr x 9)) ∧ Below w.heap.size w w' := by
  have q1 : ∀ w, Calls Tryd.prog _ #[.agg #[.int .i64 (x 0), .int .i64 (x 1), .int .i64 (x 2), .int .i64 (x 3), .int .i64 (x 4), .int .i64 (x 5), .int .i64 (x 6)]] w _ := fun w => refPut_any x w (fun i hi => hx.out i (by omega))
  have q2 : ∀ w, Calls Tryd.prog _ #[.agg #[.int .i64 (x 7), .int .i64 (x 8)]] w _ := fun w => refPutVerdict_any (fun i => x (i + 7)) w (fun i hi => hx.out (i + 7) (by omega))
  have Q1 := Lib.hid q1; have Q2 := Lib.hid q2; clear q1 q2
  have hcat := putStr_split x
  have z1 := putStr_size x 7
  have z2 := putStr_size (fun i => x (i + 7)) 2
  generalize putStr x 7 = s1 at *
  generalize putStr (fun i => x (i + 7)) 2 = s2 at *
  rw [← hcat]
  clear hcat hx
  generalize x 0 = x0 at *
  generalize x 1 = x1 at *
  generalize x 2 = x2 at *
  generalize x 3 = x3 at *
  generalize x 4 = x4 at *
  generalize x 5 = x5 at *
  generalize x 6 = x6 at *
  generalize x 7 = x7 at *
  generalize x 8 = x8 at *
  go_enter Tryd.func33, Tryd.ntmps33
  go_wp2_with fail
  refine wp_region_ext (by kernel_rfl) (by kernel_rfl) ?_
  repeat (go_big_quiet_step (first | exact ext_call (Q1.out _) | exact ext_call (Q2.out _)))
  refine wpQuiet_nil ?_
  rintro w' ⟨y, rfl⟩
  have HB := Lib.hid (below_to ((Below.refl _ w).alloc (Nat.le_refl _) _) y.below)
  go_wp2_with fail
  go_ret
  exact ⟨rfl, HB.out⟩
end Go.Proofs.YtgjehokkmdbknaaDoor
