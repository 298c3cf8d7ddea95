/- The head: First, Put, Hash; the reference's Put. -/
import Derived.Test.YtaigngdlioplaaaDoorHeadA
import Derived.Test.YtaigngdlioplaaaDoorCutR
import Derived.Test.YtaigngdlioplaaaDoorNumsI
import Derived.Test.YtaigngdlioplaaaDoorNumsLaws
namespace Go.Proofs.YtaigngdlioplaaaDoor
open Go Go.RowKit

set_option maxRecDepth 100000 in
theorem First_any (K : Nat → Int) (H : St) (n : Int) (w : World) (hT : Hid (ShaT w K H)) (hn : Hid (I64 n)) :
    Calls Tryd.prog 19 #[.int .i64 n] w fun e w' => e = .returned (.string (cutS K H ⟨#[]⟩ n)) ∧ Below w.heap.size w w' := by
  have q := Lib.hid (Cut_any K H ⟨#[]⟩ n w hT (by show _ ≤ _; decide) hn)
  generalize cutS K H ⟨#[]⟩ n = S at *
  generalize (if n < 1 ∨ 32 < n then (1 : Int) else 0) = er at *
  go_enter Tryd.func19, Tryd.ntmps19
  go_wp2_with fail
  refine q.out.mono ?_
  rintro e w1 ⟨rfl, hb⟩
  have HB := Lib.hid hb
  clear hb
  go_wp2_with fail
  go_ret
  exact ⟨rfl, HB.out⟩

def fldH (h : Hd) : Nat → Int
  | 0 => h.i
  | 1 => h.f
  | 2 => h.c
  | _ => h.b
/-- A number of 64 bits, seen without its sign. -/
def u64N (x : Int) : Nat := (IntKind.u64.wrap x).toNat
def putP (h : Hd) : Nat → ByteArray
  | 0 => ⟨#[]⟩
  | k + 1 => putP h k ++ numStr (u64N (fldH h k))
def putH (h : Hd) : ByteArray := putP h 4 ++ rowStr h.p ++ rowStr h.r
theorem u64N_u64 (x : Int) : U64 (IntKind.u64.wrap x) := by unfold U64; rw [IntKind.wrap_u64]; omega
theorem u64N_of (x : Int) (h : 0 ≤ x ∧ x < 9223372036854775808) : u64N x = x.toNat := by unfold u64N; rw [IntKind.wrap_u64]; omega
structure HdFit (h : Hd) : Prop where
  p : h.p.size ≤ 100
  r : h.r.size ≤ 100
structure HdOk (h : Hd) : Prop where
  f : ∀ k, 0 ≤ fldH h k ∧ fldH h k < 9223372036854775808
  p : h.p.size ≤ 100
  r : h.r.size ≤ 100
theorem HdOk.fit {h : Hd} (hk : HdOk h) : HdFit h := ⟨hk.p, hk.r⟩
theorem hdOk_of {h : Hd} {n : Int} (hm : mayB h n = true) (hn : n ≤ 32) : HdOk h := by
  unfold mayB numsB at hm
  simp only [Bool.and_eq_true, decide_eq_true_eq] at hm
  refine ⟨fun k => ?_, by omega, by omega⟩
  match k with
  | 0 => show 0 ≤ h.i ∧ h.i < _; omega
  | 1 => show 0 ≤ h.f ∧ h.f < _; omega
  | 2 => show 0 ≤ h.c ∧ h.c < _; omega
  | k + 3 => show 0 ≤ h.b ∧ h.b < _; omega
theorem putP_size (h : Hd) : ∀ k, (putP h k).size ≤ 10 * k
  | 0 => Nat.le_refl _
  | k + 1 => by
    rw [putP, ByteArray.size_append]
    have := putP_size h k
    have := numStr_size (u64N (fldH h k))
    omega
theorem putH_size (h : Hd) (hk : HdFit h) : (putH h).size ≤ 260 := by
  unfold putH
  rw [ByteArray.size_append, ByteArray.size_append]
  have := putP_size h 4
  have := rowStr_size h.p
  have := rowStr_size h.r
  have := hk.p
  have := hk.r
  omega

set_option maxRecDepth 100000 in
set_option maxHeartbeats 4000000 in
theorem HPut_any (h : Hd) (w : World) (hk : Hid (HdFit h)) :
    Calls Tryd.prog 15 #[.agg h.cells] w fun e w' => e = .returned (.string (putH h)) ∧ Below w.heap.size w w' := by
  have hk4 := Lib.hid (putP_size h)
  have hs1 := rowStr_size h.p
  have hs2 := rowStr_size h.r
  have hp := hk.out.p
  have hr := hk.out.r
  have q1 := Lib.hid (fun w => Row_any h.p w (by show _ ≤ _; omega))
  have q2 := Lib.hid (fun w => Row_any h.r w (by show _ ≤ _; omega))
  have hfin : Hid (putP h 4 ++ rowStr h.p ++ rowStr h.r = putH h) := rfl
  have hz : Hid (∀ k, k < 4 → (#[Value.int .i64 h.i, .int .i64 h.f, .int .i64 h.c, .int .i64 h.b] : Array Value)[k]? = some (.int .i64 (fldH h k))) := fun k hk => by
    match k, hk with
    | 0, _ => rfl
    | 1, _ => rfl
    | 2, _ => rfl
    | 3, _ => rfl
  obtain ⟨R1, hR1⟩ : ∃ R1, rowStr h.p = R1 := ⟨_, rfl⟩
  obtain ⟨R2, hR2⟩ : ∃ R2, rowStr h.r = R2 := ⟨_, rfl⟩
  rw [hR1] at hs1 q1 hfin
  rw [hR2] at hs2 q2 hfin
  have hs3 : R1.size ≤ 110 := by omega
  have hs4 : R2.size ≤ 110 := by omega
  clear hR1 hR2 hs1 hs2
  unfold Hd.cells
  generalize putH h = X at *
  go_enter Tryd.func15, Tryd.ntmps15
  go_wp2_with fail
  obtain ⟨w2, hw2⟩ : ∃ w2, (w.alloc (.cells #[.int .i64 h.i, .int .i64 h.f, .int .i64 h.c, .int .i64 h.b, .string h.p, .string h.r] 23)).alloc (.cells #[.int .i64 h.i, .int .i64 h.f, .int .i64 h.c, .int .i64 h.b] 3) = w2 := ⟨_, rfl⟩
  have B0 : Hid (w2.heap[w.heap.size]? = some (.cells #[.int .i64 h.i, .int .i64 h.f, .int .i64 h.c, .int .i64 h.b, .string h.p, .string h.r] 23 (0, 0))) := by
    rw [← hw2]; exact blk_old (blk_new _ _ _ rfl) _
  have B1 : Hid (w2.heap[w.heap.size + 1]? = some (.cells #[.int .i64 h.i, .int .i64 h.f, .int .i64 h.c, .int .i64 h.b] 3 (0, 0))) := by
    rw [← hw2]; exact blk_new _ _ _ (by simp)
  have BL : Hid (Below w.heap.size w w2) := by
    rw [← hw2]; exact below_alloc (below_alloc (Below.refl _ _) (Nat.le_refl _) _) (by simp) _
  rw [hw2]
  clear hw2
  go_loopw [3, 16] (fun av iv wr => ∃ (k : Nat) (acc : ByteArray), iv = .int .i64 k ∧ av = .string acc ∧ Hid (acc = putP h k) ∧ Hid (acc.size ≤ 10 * k) ∧ Hid (k ≤ 4) ∧ Hid (Below w2.heap.size w2 wr)) (fun _ iv _ => 4 - (intOf iv).toNat)
  case atStart => exact ⟨0, _, rfl, rfl, rfl, Nat.le_refl _, Nat.zero_le _, Below.refl _ _⟩
  case round =>
    obtain ⟨k, acc, rfl, rfl, hacc, hsz, hk, HL⟩ := hrel
    have hk2 := hk.out
    have hsz2 := hsz.out
    have l0 := (Array.getElem?_eq_some_iff.1 B0.out).1
    have l1 := (Array.getElem?_eq_some_iff.1 B1.out).1
    by_cases hlt : k < 4
    · have c1 : wr.cell? ⟨w.heap.size + 1, k, none⟩ = some (.int .i64 (fldH h k)) := by
        rw [HL.out.cell (p := ⟨w.heap.size + 1, k, none⟩) l1]
        exact cells_of_blk B1.out k _ (hz.out k hlt)
      have hnx : Hid (acc ++ numStr (u64N (fldH h k)) = putP h (k + 1)) := by show _ = _; rw [hacc.out]; rfl
      have hns := numStr_size (u64N (fldH h k))
      have q : Hid (∀ w, Calls Tryd.prog 57 #[.int .u64 (IntKind.u64.wrap (fldH h k))] w fun e w' => e = .returned (.string (numStr (u64N (fldH h k)))) ∧ Below w.heap.size w w') := fun w => Num_any (IntKind.u64.wrap (fldH h k)) w (u64N_u64 _)
      generalize numStr (u64N (fldH h k)) = N at *
      generalize fldH h k = x at *
      clear hk
      go_wp2_with fail
      refine (q.out _).mono ?_
      rintro e w3 ⟨rfl, hb⟩
      have HL3 := Lib.hid (HL.out.trans (hb.mono HL.out.size))
      clear hb c1
      go_wp2_with fail
      go_roundw
      case rel => exact ⟨k + 1, _, by go_num, rfl, hnx, by show _ ≤ _; rw [ByteArray.size_append]; omega, by show _ ≤ _; omega, HL3⟩
      case measure => simp [intOf]; omega
    · have hk4 : k = 4 := by omega
      have hac := hacc.out
      rw [hk4] at hac
      rw [← hac] at hfin
      have c4 : wr.cell? ⟨w.heap.size, 4, none⟩ = some (.string h.p) := by
        rw [HL.out.cell (p := ⟨w.heap.size, 4, none⟩) l0]
        exact cells_of_blk B0.out 4 _ rfl
      have c5 : wr.cell? ⟨w.heap.size, 5, none⟩ = some (.string h.r) := by
        rw [HL.out.cell (p := ⟨w.heap.size, 5, none⟩) l0]
        exact cells_of_blk B0.out 5 _ rfl
      have l2 : w.heap.size < wr.heap.size := Nat.lt_of_lt_of_le l0 HL.out.size
      have HLx := Lib.hid (BL.out.trans (HL.out.mono BL.out.size))
      clear hac hk4 hk l0 l1
      go_wp2_with fail
      refine wp_region_ext (by kernel_rfl) (by kernel_rfl) ?_
      repeat (go_big_quiet_step (first | (with_reducible exact ext_call (q1.out _)) | (with_reducible exact ext_call (q2.out _))))
      refine wpQuiet_nil ?_
      rintro w' ⟨y, rfl⟩
      have HEND := Lib.hid (HLx.out.trans (y.below.mono HLx.out.size))
      go_wp2_with fail
      go_ret
      exact ⟨by rw [← hfin.out]; rfl, HEND.out⟩

theorem empty_app (a : ByteArray) : (⟨#[]⟩ : ByteArray) ++ a = a := by
  apply ByteArray.ext
  rw [ByteArray.data_append]
  simp
set_option maxRecDepth 100000 in
set_option maxHeartbeats 4000000 in
theorem rHPut_any (h : Hd) (w : World) (hk : Hid (HdFit h)) :
    Calls Tryd.prog 24 #[.agg h.cells] w fun e w' => e = .returned (.string (putH h)) ∧ Below w.heap.size w w' := by
  have hs1 := rowStr_size h.p
  have hs2 := rowStr_size h.r
  have hp := hk.out.p
  have hr := hk.out.r
  have q1 := Lib.hid (fun w => refRow_any h.p w (by show _ ≤ _; omega))
  have q2 := Lib.hid (fun w => refRow_any h.r w (by show _ ≤ _; omega))
  have r1 : Hid (∀ w, Calls Tryd.prog 70 #[.int .u64 (IntKind.u64.wrap h.i)] w fun e w' => e = .returned (.string (numStr (u64N h.i))) ∧ Below w.heap.size w w') := fun w => refNum_any (IntKind.u64.wrap h.i) w (u64N_u64 _)
  have r2 : Hid (∀ w, Calls Tryd.prog 70 #[.int .u64 (IntKind.u64.wrap h.f)] w fun e w' => e = .returned (.string (numStr (u64N h.f))) ∧ Below w.heap.size w w') := fun w => refNum_any (IntKind.u64.wrap h.f) w (u64N_u64 _)
  have r3 : Hid (∀ w, Calls Tryd.prog 70 #[.int .u64 (IntKind.u64.wrap h.c)] w fun e w' => e = .returned (.string (numStr (u64N h.c))) ∧ Below w.heap.size w w') := fun w => refNum_any (IntKind.u64.wrap h.c) w (u64N_u64 _)
  have r4 : Hid (∀ w, Calls Tryd.prog 70 #[.int .u64 (IntKind.u64.wrap h.b)] w fun e w' => e = .returned (.string (numStr (u64N h.b))) ∧ Below w.heap.size w w') := fun w => refNum_any (IntKind.u64.wrap h.b) w (u64N_u64 _)
  have hfin : numStr (u64N h.i) ++ numStr (u64N h.f) ++ numStr (u64N h.c) ++ numStr (u64N h.b) ++ rowStr h.p ++ rowStr h.r = putH h := by
    show _ = (⟨#[]⟩ ++ numStr (u64N h.i)) ++ numStr (u64N h.f) ++ numStr (u64N h.c) ++ numStr (u64N h.b) ++ rowStr h.p ++ rowStr h.r
    rw [empty_app]
  have n1 := numStr_size (u64N h.i)
  have n2 := numStr_size (u64N h.f)
  have n3 := numStr_size (u64N h.c)
  have n4 := numStr_size (u64N h.b)
  have hs3 : (rowStr h.p).size ≤ 110 := by omega
  have hs4 : (rowStr h.r).size ≤ 110 := by omega
  clear hs1 hs2 hp hr
  generalize rowStr h.p = R1 at *
  generalize rowStr h.r = R2 at *
  generalize numStr (u64N h.i) = N1 at *
  generalize numStr (u64N h.f) = N2 at *
  generalize numStr (u64N h.c) = N3 at *
  generalize numStr (u64N h.b) = N4 at *
  generalize putH h = X at *
  have HFIN := Lib.hid hfin
  clear hfin hk
  unfold Hd.cells
  go_enter Tryd.func24, Tryd.ntmps24
  go_wp2_with fail
  obtain ⟨w2, hw2⟩ : ∃ w2, w.alloc (.cells #[.int .i64 h.i, .int .i64 h.f, .int .i64 h.c, .int .i64 h.b, .string h.p, .string h.r] 23) = w2 := ⟨_, rfl⟩
  have B0 : w2.heap[w.heap.size]? = some (.cells #[.int .i64 h.i, .int .i64 h.f, .int .i64 h.c, .int .i64 h.b, .string h.p, .string h.r] 23 (0, 0)) := by
    rw [← hw2]; exact blk_new _ _ _ rfl
  have BL : Hid (Below w.heap.size w w2) := by
    rw [← hw2]; exact below_alloc (Below.refl _ _) (Nat.le_refl _) _
  rw [hw2]
  have c0 : w2.cell? ⟨w.heap.size, 0, none⟩ = some (.int .i64 h.i) := cells_of_blk B0 0 _ rfl
  have c1 : w2.cell? ⟨w.heap.size, 1, none⟩ = some (.int .i64 h.f) := cells_of_blk B0 1 _ rfl
  have c2 : w2.cell? ⟨w.heap.size, 2, none⟩ = some (.int .i64 h.c) := cells_of_blk B0 2 _ rfl
  have c3 : w2.cell? ⟨w.heap.size, 3, none⟩ = some (.int .i64 h.b) := cells_of_blk B0 3 _ rfl
  have c4 : w2.cell? ⟨w.heap.size, 4, none⟩ = some (.string h.p) := cells_of_blk B0 4 _ rfl
  have c5 : w2.cell? ⟨w.heap.size, 5, none⟩ = some (.string h.r) := cells_of_blk B0 5 _ rfl
  have l2 := (Array.getElem?_eq_some_iff.1 B0).1
  clear hw2 B0
  refine wp_region_ext (by kernel_rfl) (by kernel_rfl) ?_
  repeat (go_big_quiet_step (first | (with_reducible exact ext_call (q1.out _)) | (with_reducible exact ext_call (q2.out _)) | (with_reducible exact ext_call (r1.out _)) | (with_reducible exact ext_call (r2.out _)) | (with_reducible exact ext_call (r3.out _)) | (with_reducible exact ext_call (r4.out _))))
  refine wpQuiet_nil ?_
  rintro w' ⟨y, rfl⟩
  have HEND := Lib.hid (BL.out.trans (y.below.mono BL.out.size))
  go_wp2_with fail
  go_ret
  exact ⟨by rw [← HFIN.out]; rfl, HEND.out⟩
end Go.Proofs.YtaigngdlioplaaaDoor
