/- The walks of NumsOne and NumsBack. -/
import Derived.Test.YtgjehokkmdbknaaNumsLaws
import Derived.Test.YtgjehokkmdbknaaNumsI
namespace Go.Proofs.Ytgjehokkmdbknaa
open Go.RowKit

theorem below_drewN {B : Nat} {a w : World} (h : Below B a w) (n : Nat) : Below B a (w.drewN n) := ⟨h.os, h.tape, h.output, h.size, h.block⟩
theorem rNum_ok (s : ByteArray) (h : (rNum s 0 0 maxU64).2.2 = 0) : (rNum s 0 0 maxU64).1 = (((rNum s 0 0 maxU64).1.toNat : Nat) : Int) ∧ numStr (rNum s 0 0 maxU64).1.toNat = s.extract 0 (rNum s 0 0 maxU64).2.1 ∧ (rNum s 0 0 maxU64).2.1 ≤ s.size := by
  unfold rNum at h ⊢
  rw [numC_max] at h ⊢
  have hf := dig_fits s 0 (Nat.zero_le _)
  by_cases h1 : (dig (s.data.toList.drop 0) 0 0).1 = 0
  · simp only [h1, if_true] at h ⊢
    refine ⟨by simp, ?_, hf⟩
    rw [Int.toNat_natCast]
    have := numStr_of_dig s 0 (dig (s.data.toList.drop 0) 0 0).2.1 (dig (s.data.toList.drop 0) 0 0).2.2 (by rw [← h1])
    exact this
  · simp only [h1, if_true, if_false] at h
theorem rRow_ok (s : ByteArray) (h : (rRow s 0 0 2000).2.2 = 0) : rowStr (rRow s 0 0 2000).1 = s.extract 0 (rRow s 0 0 2000).2.1 ∧ (rRow s 0 0 2000).2.1 ≤ s.size ∧ (rRow s 0 0 2000).1.size ≤ 2000 := by
  unfold rRow rowC takeC at h ⊢
  have hf := dig_fits s 0 (Nat.zero_le _)
  by_cases h1 : (dig (s.data.toList.drop 0) 0 0).1 = 0
  · have hn := numStr_of_dig s 0 (dig (s.data.toList.drop 0) 0 0).2.1 (dig (s.data.toList.drop 0) 0 0).2.2 (by rw [← h1])
    generalize dig (s.data.toList.drop 0) 0 0 = x at *
    obtain ⟨er, n, u⟩ := x
    simp only [] at h1 hn hf
    subst h1
    simp only [if_true] at h ⊢
    by_cases h2 : (2000 : Int) < 0 ∨ (2000 : Int) < (n : Int)
    · simp only [h2, if_true] at h
      rw [if_neg (show ¬ (4 : Int) = 0 by decide)] at h
      exact absurd h (show ¬ (4 : Int) = 0 by decide)
    · simp only [h2, if_false] at h ⊢
      have h3 : ¬ ((n : Int) < 0) := by omega
      simp only [h3, if_false] at h ⊢
      by_cases h4 : (s.size : Int) - ((0 + u : Nat) : Int) < (n : Int)
      · simp only [h4, if_true] at h
        rw [if_neg (show ¬ (2 : Int) = 0 by decide)] at h
        exact absurd h (show ¬ (2 : Int) = 0 by decide)
      · simp only [h4, if_false, if_true] at h ⊢
        rw [Int.toNat_natCast]
        simp only [Nat.zero_add] at *
        have hsz : (s.extract u (u + n)).size = n := by simp; omega
        refine ⟨?_, by omega, by rw [hsz]; omega⟩
        unfold rowStr
        rw [hsz, hn]
        apply ByteArray.ext
        apply Array.toList_inj.1
        simp only [ByteArray.data_append, Array.toList_append, Lib.extract_data, Nat.sub_zero, List.drop_zero]
        rw [show u + n - u = n by omega, ← List.take_add]
  · simp only [h1, if_true, if_false] at h

set_option maxRecDepth 100000 in
set_option maxHeartbeats 800000 in
theorem NumsOne_walk (s : ByteArray) (w : World) (hs : s.size ≤ 9223372036854775807) :
    Calls Try.prog 4 #[.string s] w fun e w' => e = .returned (.bool true) ∧ Below w.heap.size w w' := by
  by_cases h : s.size ≤ 2000
  · have hs2 : Hid (s.size ≤ 1099511627776) := by show _ ≤ _; omega
    have hp0 : Hid (0 ≤ s.size) := Nat.zero_le _
    have q1 : ∀ g w, Hid (Rdr w g s 0 0) → Calls Try.prog 22 #[.pointer (some ⟨g, 0, none⟩), .int .u64 18446744073709551615] w _ := fun g w hr => RNum_any g s 0 0 18446744073709551615 w hr hs2 hp0 (by show U64 _; unfold U64; omega)
    have q2 : ∀ g w, Hid (Rdr w g s 0 0) → Calls Try.prog 25 #[.pointer (some ⟨g, 0, none⟩), .int .i64 2000] w _ := fun g w hr => RRow_nat g s 0 0 2000 (by show I64 _; unfold I64; omega) w hr hs2 hp0
    have e1 : (18446744073709551615 : Int).toNat = maxU64 := rfl
    rw [e1] at q1
    clear e1
    have o1 := rNum_ok s
    have o2 := rRow_ok s
    have o3 := rNum_U64 s 0 0 maxU64
    generalize rNum s 0 0 maxU64 = r1 at *
    generalize rRow s 0 0 2000 = r2 at *
    obtain ⟨v1, p1, f1⟩ := r1
    obtain ⟨v2, p2, f2⟩ := r2
    simp only [] at q1 q2 o1 o2 o3
    have Q1 := Lib.hid q1; clear q1
    have Q2 := Lib.hid q2; clear q2
    have O2 := Lib.hid o2; clear o2
    have O3 := Lib.hid o3; clear o3
    by_cases hf1 : f1 = 0
    · by_cases hf2 : f2 = 0
      · skip
        subst hf1
        obtain ⟨hv, hn, hp⟩ := o1 rfl
        have HV := Lib.hid hv; clear hv
        have HN := Lib.hid hn; clear hn o1
        have z1 : (s.size : Int) - ((s.size : Int) - p1) = p1 := by omega
        subst hf2
        obtain ⟨hrow, hp2, hsz2⟩ := O2.out rfl
        have HROW := Lib.hid hrow; clear hrow
        have z2 : (s.size : Int) - ((s.size : Int) - p2) = p2 := by omega
        go_enter Try.func4, Try.ntmps4
        go_wp2_with fail
        refine (alive01 _).mono ?_
        rintro e w1 ⟨rfl, hb⟩
        have HB1 := Lib.hid hb; clear hb
        go_wp2_with fail
        refine (Read_any _ _).mono ?_
        rintro e w2 ⟨rfl, hR, hb, hsz⟩
        have HR2 := Lib.hid hR; have HB2 := Lib.hid (below_to HB1.out hb); clear hR hb hsz
        go_wp2_with fail
        refine (Q1.out _ _ HR2).mono ?_
        rintro e w3 ⟨rfl, hR, hG⟩
        have HR3 := Lib.hid hR; have HB3 := Lib.hid (HB2.out.grown hG HB2.out.size (fun k hk => by injection hk with hk; have := HB1.out.size; omega)); clear hR hG
        go_wp2_with fail
        refine (RFault_any _ _ _ _ _ HR3).mono ?_
        rintro e w' ⟨rfl, rfl⟩
        go_wp2_with fail
        refine (Num_any _ _ O3).mono ?_
        rintro e w4 ⟨rfl, hb⟩
        rw [HN.out]
        have HR4 := Lib.hid (HR3.out.rest hb); have HB4 := Lib.hid (below_to HB3.out hb); clear hb
        go_wp2_with fail
        refine (RLeft_any _ _ _ _ _ HR4 hs2 hp).mono ?_
        rintro e w5 ⟨rfl, nd, rfl⟩
        have HB5 := Lib.hid (below_drewN HB4.out nd)
        go_wp2_with fail
        refine (Read_any _ _).mono ?_
        rintro e w6 ⟨rfl, hR, hb, hsz⟩
        have HR6 := Lib.hid hR; have HB6 := Lib.hid (below_to HB5.out hb); clear hR hb hsz
        go_wp2_with fail
        refine (Q2.out _ _ HR6).mono ?_
        rintro e w7 ⟨rfl, hR, hG⟩
        have HR7 := Lib.hid hR; have HB7 := Lib.hid (HB6.out.grown hG HB6.out.size (fun k hk => by injection hk with hk; have := HB5.out.size; (try simp at hk); (try simp at this); omega)); clear hR hG
        go_wp2_with fail
        refine (RFault_any _ _ _ _ _ HR7).mono ?_
        rintro e w' ⟨rfl, rfl⟩
        go_wp2_with fail
        refine (Row_any _ _ (by show _ ≤ _; omega)).mono ?_
        rintro e w8 ⟨rfl, hb⟩
        rw [HROW.out]
        have HR8 := Lib.hid (HR7.out.rest hb); have HB8 := Lib.hid (below_to HB7.out hb); clear hb
        go_wp2_with fail
        refine (RLeft_any _ _ _ _ _ HR8 hs2 hp2).mono ?_
        rintro e w9 ⟨rfl, nd2, rfl⟩
        go_wp2_with fail
        go_ret
        exact ⟨rfl, below_drewN HB8.out _⟩
      · skip
        subst hf1
        obtain ⟨hv, hn, hp⟩ := o1 rfl
        have HV := Lib.hid hv; clear hv
        have HN := Lib.hid hn; clear hn o1
        have z1 : (s.size : Int) - ((s.size : Int) - p1) = p1 := by omega
        have hf2' : (f2 == 0) = false := by simpa using hf2
        go_enter Try.func4, Try.ntmps4
        go_wp2_with fail
        refine (alive01 _).mono ?_
        rintro e w1 ⟨rfl, hb⟩
        have HB1 := Lib.hid hb; clear hb
        go_wp2_with fail
        refine (Read_any _ _).mono ?_
        rintro e w2 ⟨rfl, hR, hb, hsz⟩
        have HR2 := Lib.hid hR; have HB2 := Lib.hid (below_to HB1.out hb); clear hR hb hsz
        go_wp2_with fail
        refine (Q1.out _ _ HR2).mono ?_
        rintro e w3 ⟨rfl, hR, hG⟩
        have HR3 := Lib.hid hR; have HB3 := Lib.hid (HB2.out.grown hG HB2.out.size (fun k hk => by injection hk with hk; have := HB1.out.size; omega)); clear hR hG
        go_wp2_with fail
        refine (RFault_any _ _ _ _ _ HR3).mono ?_
        rintro e w' ⟨rfl, rfl⟩
        go_wp2_with fail
        refine (Num_any _ _ O3).mono ?_
        rintro e w4 ⟨rfl, hb⟩
        rw [HN.out]
        have HR4 := Lib.hid (HR3.out.rest hb); have HB4 := Lib.hid (below_to HB3.out hb); clear hb
        go_wp2_with fail
        refine (RLeft_any _ _ _ _ _ HR4 hs2 hp).mono ?_
        rintro e w5 ⟨rfl, nd, rfl⟩
        have HB5 := Lib.hid (below_drewN HB4.out nd)
        go_wp2_with fail
        refine (Read_any _ _).mono ?_
        rintro e w6 ⟨rfl, hR, hb, hsz⟩
        have HR6 := Lib.hid hR; have HB6 := Lib.hid (below_to HB5.out hb); clear hR hb hsz
        go_wp2_with fail
        refine (Q2.out _ _ HR6).mono ?_
        rintro e w7 ⟨rfl, hR, hG⟩
        have HR7 := Lib.hid hR; have HB7 := Lib.hid (HB6.out.grown hG HB6.out.size (fun k hk => by injection hk with hk; have := HB5.out.size; (try simp at hk); (try simp at this); omega)); clear hR hG
        go_wp2_with fail
        refine (RFault_any _ _ _ _ _ HR7).mono ?_
        rintro e w' ⟨rfl, rfl⟩
        go_wp2_with fail
        go_ret
        exact ⟨rfl, HB7.out⟩
    · by_cases hf2 : f2 = 0
      · skip
        have hf1' : (f1 == 0) = false := by simpa using hf1
        clear o1
        subst hf2
        obtain ⟨hrow, hp2, hsz2⟩ := O2.out rfl
        have HROW := Lib.hid hrow; clear hrow
        have z2 : (s.size : Int) - ((s.size : Int) - p2) = p2 := by omega
        go_enter Try.func4, Try.ntmps4
        go_wp2_with fail
        refine (alive01 _).mono ?_
        rintro e w1 ⟨rfl, hb⟩
        have HB1 := Lib.hid hb; clear hb
        go_wp2_with fail
        refine (Read_any _ _).mono ?_
        rintro e w2 ⟨rfl, hR, hb, hsz⟩
        have HR2 := Lib.hid hR; have HB2 := Lib.hid (below_to HB1.out hb); clear hR hb hsz
        go_wp2_with fail
        refine (Q1.out _ _ HR2).mono ?_
        rintro e w3 ⟨rfl, hR, hG⟩
        have HR3 := Lib.hid hR; have HB3 := Lib.hid (HB2.out.grown hG HB2.out.size (fun k hk => by injection hk with hk; have := HB1.out.size; omega)); clear hR hG
        go_wp2_with fail
        refine (RFault_any _ _ _ _ _ HR3).mono ?_
        rintro e w' ⟨rfl, rfl⟩
        have HB5 := HB3
        go_wp2_with fail
        refine (Read_any _ _).mono ?_
        rintro e w6 ⟨rfl, hR, hb, hsz⟩
        have HR6 := Lib.hid hR; have HB6 := Lib.hid (below_to HB5.out hb); clear hR hb hsz
        go_wp2_with fail
        refine (Q2.out _ _ HR6).mono ?_
        rintro e w7 ⟨rfl, hR, hG⟩
        have HR7 := Lib.hid hR; have HB7 := Lib.hid (HB6.out.grown hG HB6.out.size (fun k hk => by injection hk with hk; have := HB5.out.size; (try simp at hk); (try simp at this); omega)); clear hR hG
        go_wp2_with fail
        refine (RFault_any _ _ _ _ _ HR7).mono ?_
        rintro e w' ⟨rfl, rfl⟩
        go_wp2_with fail
        refine (Row_any _ _ (by show _ ≤ _; omega)).mono ?_
        rintro e w8 ⟨rfl, hb⟩
        rw [HROW.out]
        have HR8 := Lib.hid (HR7.out.rest hb); have HB8 := Lib.hid (below_to HB7.out hb); clear hb
        go_wp2_with fail
        refine (RLeft_any _ _ _ _ _ HR8 hs2 hp2).mono ?_
        rintro e w9 ⟨rfl, nd2, rfl⟩
        go_wp2_with fail
        go_ret
        exact ⟨rfl, below_drewN HB8.out _⟩
      · skip
        have hf1' : (f1 == 0) = false := by simpa using hf1
        clear o1
        have hf2' : (f2 == 0) = false := by simpa using hf2
        go_enter Try.func4, Try.ntmps4
        go_wp2_with fail
        refine (alive01 _).mono ?_
        rintro e w1 ⟨rfl, hb⟩
        have HB1 := Lib.hid hb; clear hb
        go_wp2_with fail
        refine (Read_any _ _).mono ?_
        rintro e w2 ⟨rfl, hR, hb, hsz⟩
        have HR2 := Lib.hid hR; have HB2 := Lib.hid (below_to HB1.out hb); clear hR hb hsz
        go_wp2_with fail
        refine (Q1.out _ _ HR2).mono ?_
        rintro e w3 ⟨rfl, hR, hG⟩
        have HR3 := Lib.hid hR; have HB3 := Lib.hid (HB2.out.grown hG HB2.out.size (fun k hk => by injection hk with hk; have := HB1.out.size; omega)); clear hR hG
        go_wp2_with fail
        refine (RFault_any _ _ _ _ _ HR3).mono ?_
        rintro e w' ⟨rfl, rfl⟩
        have HB5 := HB3
        go_wp2_with fail
        refine (Read_any _ _).mono ?_
        rintro e w6 ⟨rfl, hR, hb, hsz⟩
        have HR6 := Lib.hid hR; have HB6 := Lib.hid (below_to HB5.out hb); clear hR hb hsz
        go_wp2_with fail
        refine (Q2.out _ _ HR6).mono ?_
        rintro e w7 ⟨rfl, hR, hG⟩
        have HR7 := Lib.hid hR; have HB7 := Lib.hid (HB6.out.grown hG HB6.out.size (fun k hk => by injection hk with hk; have := HB5.out.size; (try simp at hk); (try simp at this); omega)); clear hR hG
        go_wp2_with fail
        refine (RFault_any _ _ _ _ _ HR7).mono ?_
        rintro e w' ⟨rfl, rfl⟩
        go_wp2_with fail
        go_ret
        exact ⟨rfl, HB7.out⟩
  · go_enter Try.func4, Try.ntmps4
    go_wp2_with fail
    refine (alive01 _).mono ?_
    rintro e w1 ⟨rfl, hb⟩
    have HB1 := Lib.hid hb; clear hb
    go_wp2_with fail
    go_ret
    exact ⟨rfl, HB1.out⟩

set_option maxRecDepth 100000 in
set_option maxHeartbeats 800000 in
theorem NumsBack_walk (n m : Int) (s more : ByteArray) (w : World) (hn : Hid (U64 n)) (hm : Hid (I64 m)) (hs : s.size ≤ 9223372036854775807) (hmo : more.size ≤ 9223372036854775807) :
    Calls Try.prog 5 #[.int .u64 n, .int .i64 m, .string s, .string more] w fun e w' => e = .returned (.bool true) ∧ Below w.heap.size w w' := by
  by_cases h : s.size ≤ 2000
  · by_cases h' : more.size ≤ 2000
    · have hs2 : Hid (s.size ≤ 1099511627776) := by show _ ≤ _; omega
      have d1 := numStr_size n.toNat
      have d2 := intStr_size m
      have d3 := rowStr_size s
      have hSl := back_list n m s more
      have hSz := back_size n m s more
      have hp0 : Hid (0 ≤ (((numStr n.toNat ++ intStr m) ++ rowStr s) ++ more).size) := Nat.zero_le _
      have hS : Hid ((((numStr n.toNat ++ intStr m) ++ rowStr s) ++ more).size ≤ 1099511627776) := by show _ ≤ _; rw [hSz]; omega
      have r1 := rNum_at (((numStr n.toNat ++ intStr m) ++ rowStr s) ++ more) 0 n.toNat _ (by have := hn.out.2; have := hn.out.1; omega) (by rw [List.drop_zero, hSl])
      have l1 := drop_step (s := ((numStr n.toNat ++ intStr m) ++ rowStr s) ++ more) (p := 0) (a := numStr n.toNat) (by rw [List.drop_zero, hSl])
      have r2 := rInt_at _ _ m _ hm.out l1
      have l2 := drop_step (a := intStr m) l1
      have r3 := rRow_at _ _ s _ s.size (Int.le_refl _) (by have := hs2.out; omega) l2
      have l3 := drop_step (a := rowStr s) l2
      have r4 := rTake_at _ _ more (by rw [hSz]; omega) l3
      rw [Nat.zero_add] at r1 r2 r3 r4
      have hpa : Hid ((numStr n.toNat).size ≤ (((numStr n.toNat ++ intStr m) ++ rowStr s) ++ more).size) := by show _ ≤ _; rw [hSz]; omega
      have hpb : Hid ((numStr n.toNat).size + (intStr m).size ≤ (((numStr n.toNat ++ intStr m) ++ rowStr s) ++ more).size) := by show _ ≤ _; rw [hSz]; omega
      have hpc : Hid ((numStr n.toNat).size + (intStr m).size + (rowStr s).size ≤ (((numStr n.toNat ++ intStr m) ++ rowStr s) ++ more).size) := by show _ ≤ _; rw [hSz]; omega
      have zl : (((((numStr n.toNat ++ intStr m) ++ rowStr s) ++ more).size : Nat) : Int) - (((numStr n.toNat).size + (intStr m).size + (rowStr s).size : Nat) : Int) = more.size := by rw [hSz]; omega
      have hn0 : ((n.toNat : Nat) : Int) = n := by have := hn.out.1; omega
      rw [hn0] at r1
      have ez1 := zag_zig m
      have ez2 := zig_zag n hn.out
      have hs1 : I64 (s.size : Int) := by unfold I64; omega
      have hs3 : Hid (U64 (zig m)) := zig_u64 m hm.out
      have hs4 : Hid (I64 (zag n)) := zag_i64 n hn.out
      have b1 : (numStr n.toNat).size + (intStr m).size ≤ 20 := by omega
      have b2 : (numStr n.toNat).size + (intStr m).size + (rowStr s).size ≤ 4000 := by omega
      have b3 : (numStr n.toNat).size + (intStr m).size + (rowStr s).size + more.size ≤ 8000 := by omega
      have EZ1 := Lib.hid ez1; have EZ2 := Lib.hid ez2; have R1 := Lib.hid r1; have R2 := Lib.hid r2; have R3 := Lib.hid r3; have R4 := Lib.hid r4
      have ZL := Lib.hid zl; have HS1 := Lib.hid hs1
      clear ez1 ez2 r1 r2 r3 r4 zl hs1 hSl hSz l1 l2 l3 hn0
      go_enter Try.func5, Try.ntmps5
      go_wp2_with fail
      refine (alive01 _).mono ?_
      rintro e w1 ⟨rfl, hb⟩
      have HB1 := Lib.hid hb; clear hb
      go_wp2_with fail
      refine (Num_any _ _ hn).mono ?_
      rintro e w2 ⟨rfl, hb⟩
      have HB2 := Lib.hid (below_to HB1.out hb); clear hb
      go_wp2_with fail
      refine (Int_any _ _ hm).mono ?_
      rintro e w3 ⟨rfl, hb⟩
      have HB3 := Lib.hid (below_to HB2.out hb); clear hb
      go_wp2_with fail
      refine (Row_any _ _ hs2).mono ?_
      rintro e w4 ⟨rfl, hb⟩
      have HB4 := Lib.hid (below_to HB3.out hb); clear hb
      go_wp2_with fail
      refine (Read_any _ _).mono ?_
      rintro e w5 ⟨rfl, hR, hb, hsz⟩
      have HR5 := Lib.hid hR; have HB5 := Lib.hid (below_to HB4.out hb); clear hR hb hsz
      have hg : Hid (w.heap.size ≤ w4.heap.size) := HB4.out.size
      generalize w4.heap.size = g at *
      clear HB1 HB2 HB3 HB4
      go_wp2_with fail
      refine (RNum_any _ _ _ _ _ _ HR5 hS hp0 (by show U64 _; unfold U64; omega)).mono ?_
      rintro e w6 ⟨rfl, hR, hG⟩
      rw [show (18446744073709551615 : Int).toNat = maxU64 from rfl, R1.out] at hR ⊢
      have HR6 := Lib.hid hR; have HB6 := Lib.hid (HB5.out.grown hG HB5.out.size (fun k hk => by injection hk with hk; have := hg.out; omega)); clear hR hG
      go_wp2_with fail
      refine (RInt_any _ _ _ _ _ HR6 hS hpa).mono ?_
      rintro e w7 ⟨rfl, hR, hG⟩
      rw [R2.out] at hR ⊢
      have HR7 := Lib.hid hR; have HB7 := Lib.hid (HB6.out.grown hG HB6.out.size (fun k hk => by injection hk with hk; have := hg.out; omega)); clear hR hG
      go_wp2_with fail
      refine (RRow_nat _ _ _ _ _ HS1 _ HR7 hS hpb).mono ?_
      rintro e w8 ⟨rfl, hR, hG⟩
      rw [R3.out] at hR ⊢
      have HR8 := Lib.hid hR; have HB8 := Lib.hid (HB7.out.grown hG HB7.out.size (fun k hk => by injection hk with hk; have := hg.out; omega)); clear hR hG
      go_wp2_with fail
      refine (RFault_any _ _ _ _ _ HR8).mono ?_
      rintro e w' ⟨rfl, rfl⟩
      go_wp2_with fail
      refine (RLeft_any _ _ _ _ _ HR8 hS hpc).mono ?_
      rintro e w9 ⟨rfl, nd, rfl⟩
      rw [ZL.out]
      have HR9 := Lib.hid (HR8.out.drewN nd)
      go_wp2_with fail
      refine (RTake_nat _ _ _ _ _ _ HR9 hS hpc).mono ?_
      rintro e w10 ⟨rfl, hR, hG⟩
      rw [R4.out]
      have HB10 := Lib.hid ((below_drewN HB8.out nd).grown hG HB8.out.size (fun k hk => by injection hk with hk; have := hg.out; omega)); clear hR hG
      go_wp2_with fail
      refine (Zig_any _ _ hm).mono ?_
      rintro e w' ⟨rfl, rfl⟩
      go_wp2_with fail
      refine (Zag_any _ _ hs3).mono ?_
      rintro e w' ⟨rfl, rfl⟩
      rw [EZ1.out]
      go_wp2_with fail
      refine (Zag_any _ _ hn).mono ?_
      rintro e w' ⟨rfl, rfl⟩
      go_wp2_with fail
      refine (Zig_any _ _ hs4).mono ?_
      rintro e w' ⟨rfl, rfl⟩
      rw [EZ2.out]
      go_wp2_with fail
      go_ret
      exact ⟨rfl, HB10.out⟩
    · go_enter Try.func5, Try.ntmps5
      go_wp2_with fail
      refine (alive01 _).mono ?_
      rintro e w1 ⟨rfl, hb⟩
      have HB1 := Lib.hid hb; clear hb
      go_wp2_with fail
      go_ret
      exact ⟨rfl, HB1.out⟩
  · go_enter Try.func5, Try.ntmps5
    go_wp2_with fail
    refine (alive01 _).mono ?_
    rintro e w1 ⟨rfl, hb⟩
    have HB1 := Lib.hid hb; clear hb
    go_wp2_with fail
    go_ret
    exact ⟨rfl, HB1.out⟩
end Go.Proofs.Ytgjehokkmdbknaa
