/- NumsReads: the walk. Whatever is done with a reader of any bytes: each answer, each fault, and how much is left, are the document's. -/
import Derived.Test.YtgjehokkmdbknaaNumsWalks
namespace Go.Proofs.Ytgjehokkmdbknaa
open Go.RowKit

theorem wrap_U64 (x : Int) : U64 (IntKind.u64.wrap x) := by unfold U64; rw [IntKind.wrap_u64]; omega
theorem FNum_any (g : Nat) (s : ByteArray) (p : Nat) (f : Int) (most : Int) (w : World) (hr : Hid (Ref w g s p f)) (hs : Hid (s.size ≤ 1099511627776)) (hp : Hid (p ≤ s.size)) (hm : Hid (U64 most)) :
    Calls Try.prog 29 #[.pointer (some ⟨g, 0, none⟩), .int .u64 most] w fun e w' => e = .returned (.int .u64 (rNum s p f most.toNat).1) ∧
      Ref w' g s (rNum s p f most.toNat).2.1 (rNum s p f most.toNat).2.2 ∧ w.grownBy w' (some g) := by
  obtain ⟨m, rfl⟩ := Int.eq_ofNat_of_zero_le hm.out.1
  exact FNum_nat g s p f m w hr hs hp
theorem takeC_p (s : ByteArray) (p : Nat) (n : Int) (hp : p ≤ s.size) : (takeC s p n).2.2 ≤ s.size := by
  unfold takeC
  split
  · exact hp
  · split
    · exact hp
    · simp only []; omega
theorem rNum_p (s : ByteArray) (p : Nat) (f : Int) (m : Nat) (hp : p ≤ s.size) : (rNum s p f m).2.1 ≤ s.size := by
  unfold rNum
  have := dig_fits s p hp
  split
  · split
    · simp only [numC_used]; exact this
    · exact hp
  · exact hp
theorem rInt_p (s : ByteArray) (p : Nat) (f : Int) (hp : p ≤ s.size) : (rInt s p f).2.1 ≤ s.size := by
  unfold rInt
  have := dig_fits s p hp
  split
  · split
    · exact this
    · exact hp
  · exact hp
theorem rTake_p (s : ByteArray) (p : Nat) (f n : Int) (hp : p ≤ s.size) : (rTake s p f n).2.1 ≤ s.size := by
  unfold rTake
  split
  · split
    · exact takeC_p s p n hp
    · exact hp
  · exact hp
theorem rRow_p (s : ByteArray) (p : Nat) (f n : Int) (hp : p ≤ s.size) : (rRow s p f n).2.1 ≤ s.size := by
  unfold rRow rowC
  have h := dig_fits s p hp
  repeat' split
  all_goals first | exact hp | exact h | exact takeC_p s _ _ h

theorem Ref.other {w w' : World} {g g' : Nat} {s : ByteArray} {p : Nat} {f : Int} (h : Ref w g' s p f) (hG : w.grownBy w' (some g)) (hne : g' ≠ g) : Ref w' g' s p f := (hG.block g' h.lt (fun e => hne (by injection e))).trans h
theorem Rdr.other {w w' : World} {g g' : Nat} {s : ByteArray} {p : Nat} {f : Int} (h : Rdr w g' s p f) (hG : w.grownBy w' (some g)) (hne : g' ≠ g) : Rdr w' g' s p f := (hG.block g' h.lt (fun e => hne (by injection e))).trans h

set_option maxRecDepth 100000 in
set_option maxHeartbeats 4000000 in
theorem NumsReads_loop (s : ByteArray) (w : World) (A : Option Addr) (n c : Nat) (kd : Nat → Int) (x : Nat → Int) (hs : s.size ≤ 2000) (hn : n ≤ 40)
    (hA : Hid (∀ i, i < n → ∃ b o, A = some ⟨b, o, none⟩ ∧ b < w.heap.size ∧ w.cell? ⟨b, o + i * 2, none⟩ = some (.int .u8 (kd i)) ∧ w.cell? ⟨b, o + i * 2 + 1, none⟩ = some (.int .i64 (x i)) ∧ 0 ≤ kd i ∧ kd i ≤ 255 ∧ I64 (x i))) :
    Calls Try.prog 6 #[.string s, .slice A n c] w fun e w' => e = .returned (.bool true) ∧ Below w.heap.size w w' := by
  have hs2 : Hid (s.size ≤ 1099511627776) := by show _ ≤ _; omega
  go_enter Try.func6, Try.ntmps6
  go_wp2_with fail
  refine (alive01 _).mono ?_
  rintro e w1 ⟨rfl, hb⟩
  have HB1 := Lib.hid hb; clear hb
  go_wp2_with fail
  refine (Read_any _ _).mono ?_
  rintro e w2 ⟨rfl, hR, hb, hsz⟩
  have HR2 := Lib.hid hR; have HB2 := Lib.hid (below_to HB1.out hb); clear hR hb
  go_wp2_with fail
  refine (Of_any _ _).mono ?_
  rintro e w3 ⟨rfl, hF, hb, hsz'⟩
  have HR3 := Lib.hid (HR2.out.rest hb); have HF3 := Lib.hid hF; have HB3 := Lib.hid (below_to HB2.out hb); clear hb hF
  have hg : Hid (w.heap.size ≤ w1.heap.size) := HB1.out.size
  have hg2 : Hid (w1.heap.size ≠ w2.heap.size) := by show _ ≠ _; omega
  have hg3 : Hid (w.heap.size ≤ w2.heap.size) := HB2.out.size
  clear hsz hsz'
  generalize w1.heap.size = g at *
  generalize w2.heap.size = g2 at *
  clear HB1 HB2 HR2
  go_wp2_with fail
  go_loopw [7] (fun si wr => ∃ (i p : Nat) (f : Int), Hid (i ≤ n) ∧ si = .int .i64 i ∧ Hid (p ≤ s.size) ∧ Hid (Rdr wr g s p f) ∧ Hid (Ref wr g2 s p f) ∧ Hid (Below w.heap.size w wr)) (fun si _ => n - (intOf si).toNat)
  case atStart => exact ⟨0, 0, 0, Nat.zero_le _, rfl, Nat.zero_le _, HR3.out, HF3.out, HB3.out⟩
  case round =>
    obtain ⟨i, p, f, hi, rfl, hp, HR, HF, HB⟩ := hrel
    by_cases hlt : i < n
    · obtain ⟨b, o, rfl, hbl, hk, hx, hk0, hk1, hxi⟩ := hA.out i hlt
      have ck := (HB.out.cell (p := ⟨b, o + i * 2, none⟩) hbl).trans hk
      have cx := (HB.out.cell (p := ⟨b, o + i * 2 + 1, none⟩) hbl).trans hx
      generalize kd i = kk at *
      generalize x i = xx at *
      have HXI := Lib.hid hxi
      clear hk hx hbl hxi hA
      have hcases : kk % 5 = 0 ∨ kk % 5 = 1 ∨ kk % 5 = 2 ∨ kk % 5 = 3 ∨ kk % 5 = 4 := by omega
      rcases hcases with h5 | h5 | h5 | h5 | h5
      · go_wp2_with fail
        refine (RNum_any _ _ _ _ _ _ HR hs2 hp (wrap_U64 xx)).mono ?_
        rintro e w4 ⟨rfl, hR, hG⟩
        have HF' := Lib.hid (HF.out.other hG (Ne.symm hg2.out)); have HB4 := Lib.hid (HB.out.grown hG HB.out.size (fun k hk => by injection hk with hk; have := hg.out; omega))
        have HR4 := Lib.hid hR
        clear hG hR
        go_wp2_with fail
        refine (FNum_any _ _ _ _ _ _ HF' hs2 hp (wrap_U64 xx)).mono ?_
        rintro e w5 ⟨rfl, hF, hG⟩
        have HR5 := Lib.hid (HR4.out.other hG hg2.out); have HB5 := Lib.hid (HB4.out.grown hG HB4.out.size (fun k hk => by injection hk with hk; have := hg3.out; omega))
        have HP5 := Lib.hid (rNum_p s p f (IntKind.u64.wrap xx).toNat hp.out)
        generalize rNum s p f (IntKind.u64.wrap xx).toNat = r at *
        obtain ⟨v5, p5, f5⟩ := r
        simp only [] at HR5 hF HP5
        have HF5 := Lib.hid hF
        have cf := hF.f
        clear hG hF
        go_wp2_with fail
        go_quiet ((first | (go_at_call 23; exact quiet_same (RFault_any _ _ _ _ _ (HR5.out.drewN _))) | (go_at_call 24; exact Calls.quiet_of (RLeft_any _ _ _ _ _ (HR5.out.drewN _) hs2 HP5)) | (go_at_call 35; exact Calls.quiet_of (FLeft_any _ _ _ _ _ (HF5.out.drewN _) hs2 HP5))))
        go_wp2_with fail
        go_roundw
        case rel => exact ⟨i + 1, _, _, by show _ ≤ _; omega, by simp, HP5, HR5.out.drewN _, HF5.out.drewN _, below_drewN HB5.out _⟩
        case measure => simp [intOf]; omega
      · go_wp2_with fail
        refine (RInt_any _ _ _ _ _ HR hs2 hp).mono ?_
        rintro e w4 ⟨rfl, hR, hG⟩
        have HF' := Lib.hid (HF.out.other hG (Ne.symm hg2.out)); have HB4 := Lib.hid (HB.out.grown hG HB.out.size (fun k hk => by injection hk with hk; have := hg.out; omega))
        have HR4 := Lib.hid hR
        clear hG hR
        go_wp2_with fail
        refine (FInt_any _ _ _ _ _ HF' hs2 hp).mono ?_
        rintro e w5 ⟨rfl, hF, hG⟩
        have HR5 := Lib.hid (HR4.out.other hG hg2.out); have HB5 := Lib.hid (HB4.out.grown hG HB4.out.size (fun k hk => by injection hk with hk; have := hg3.out; omega))
        have HP5 := Lib.hid (rInt_p s p f hp.out)
        generalize rInt s p f = r at *
        obtain ⟨v5, p5, f5⟩ := r
        simp only [] at HR5 hF HP5
        have HF5 := Lib.hid hF
        have cf := hF.f
        clear hG hF
        go_wp2_with fail
        go_quiet ((first | (go_at_call 23; exact quiet_same (RFault_any _ _ _ _ _ (HR5.out.drewN _))) | (go_at_call 24; exact Calls.quiet_of (RLeft_any _ _ _ _ _ (HR5.out.drewN _) hs2 HP5)) | (go_at_call 35; exact Calls.quiet_of (FLeft_any _ _ _ _ _ (HF5.out.drewN _) hs2 HP5))))
        go_wp2_with fail
        go_roundw
        case rel => exact ⟨i + 1, _, _, by show _ ≤ _; omega, by simp, HP5, HR5.out.drewN _, HF5.out.drewN _, below_drewN HB5.out _⟩
        case measure => simp [intOf]; omega
      · go_wp2_with fail
        refine (RRow_nat _ _ _ _ _ HXI _ HR hs2 hp).mono ?_
        rintro e w4 ⟨rfl, hR, hG⟩
        have HF' := Lib.hid (HF.out.other hG (Ne.symm hg2.out)); have HB4 := Lib.hid (HB.out.grown hG HB.out.size (fun k hk => by injection hk with hk; have := hg.out; omega))
        have HR4 := Lib.hid hR
        clear hG hR
        go_wp2_with fail
        refine (FRow_any _ _ _ _ _ _ HF' hs2 hp HXI).mono ?_
        rintro e w5 ⟨rfl, hF, hG⟩
        have HR5 := Lib.hid (HR4.out.other hG hg2.out); have HB5 := Lib.hid (HB4.out.grown hG HB4.out.size (fun k hk => by injection hk with hk; have := hg3.out; omega))
        have HP5 := Lib.hid (rRow_p s p f xx hp.out)
        generalize rRow s p f xx = r at *
        obtain ⟨v5, p5, f5⟩ := r
        simp only [] at HR5 hF HP5
        have HF5 := Lib.hid hF
        have cf := hF.f
        clear hG hF
        go_wp2_with fail
        go_quiet ((first | (go_at_call 23; exact quiet_same (RFault_any _ _ _ _ _ (HR5.out.drewN _))) | (go_at_call 24; exact Calls.quiet_of (RLeft_any _ _ _ _ _ (HR5.out.drewN _) hs2 HP5)) | (go_at_call 35; exact Calls.quiet_of (FLeft_any _ _ _ _ _ (HF5.out.drewN _) hs2 HP5))))
        go_wp2_with fail
        go_roundw
        case rel => exact ⟨i + 1, _, _, by show _ ≤ _; omega, by simp, HP5, HR5.out.drewN _, HF5.out.drewN _, below_drewN HB5.out _⟩
        case measure => simp [intOf]; omega
      · go_wp2_with fail
        refine (RTake_nat _ _ _ _ _ _ HR hs2 hp).mono ?_
        rintro e w4 ⟨rfl, hR, hG⟩
        have HF' := Lib.hid (HF.out.other hG (Ne.symm hg2.out)); have HB4 := Lib.hid (HB.out.grown hG HB.out.size (fun k hk => by injection hk with hk; have := hg.out; omega))
        have HR4 := Lib.hid hR
        clear hG hR
        go_wp2_with fail
        refine (FTake_any _ _ _ _ _ _ HF' hs2 hp).mono ?_
        rintro e w5 ⟨rfl, hF, hG⟩
        have HR5 := Lib.hid (HR4.out.other hG hg2.out); have HB5 := Lib.hid (HB4.out.grown hG HB4.out.size (fun k hk => by injection hk with hk; have := hg3.out; omega))
        have HP5 := Lib.hid (rTake_p s p f xx hp.out)
        generalize rTake s p f xx = r at *
        obtain ⟨v5, p5, f5⟩ := r
        simp only [] at HR5 hF HP5
        have HF5 := Lib.hid hF
        have cf := hF.f
        clear hG hF
        go_wp2_with fail
        go_quiet ((first | (go_at_call 23; exact quiet_same (RFault_any _ _ _ _ _ (HR5.out.drewN _))) | (go_at_call 24; exact Calls.quiet_of (RLeft_any _ _ _ _ _ (HR5.out.drewN _) hs2 HP5)) | (go_at_call 35; exact Calls.quiet_of (FLeft_any _ _ _ _ _ (HF5.out.drewN _) hs2 HP5))))
        go_wp2_with fail
        go_roundw
        case rel => exact ⟨i + 1, _, _, by show _ ≤ _; omega, by simp, HP5, HR5.out.drewN _, HF5.out.drewN _, below_drewN HB5.out _⟩
        case measure => simp [intOf]; omega
      · go_wp2_with fail
        refine (RFail_any _ _ _ _ _ _ HR).mono ?_
        rintro e w4 ⟨rfl, hR, hG⟩
        have HF' := Lib.hid (HF.out.other hG (Ne.symm hg2.out)); have HB4 := Lib.hid (HB.out.grown hG HB.out.size (fun k hk => by injection hk with hk; have := hg.out; omega))
        have HR4 := Lib.hid hR
        clear hG hR
        go_wp2_with fail
        refine (FFail_any _ _ _ _ _ _ HF').mono ?_
        rintro e w5 ⟨rfl, hF, hG⟩
        have HR5 := Lib.hid (HR4.out.other hG hg2.out); have HB5 := Lib.hid (HB4.out.grown hG HB4.out.size (fun k hk => by injection hk with hk; have := hg3.out; omega))
        have HP5 := hp
        have HF5 := Lib.hid hF
        have cf := hF.f
        clear hG hF
        go_wp2_with fail
        go_quiet ((first | (go_at_call 23; exact quiet_same (RFault_any _ _ _ _ _ (HR5.out.drewN _))) | (go_at_call 24; exact Calls.quiet_of (RLeft_any _ _ _ _ _ (HR5.out.drewN _) hs2 HP5)) | (go_at_call 35; exact Calls.quiet_of (FLeft_any _ _ _ _ _ (HF5.out.drewN _) hs2 HP5))))
        go_wp2_with fail
        go_roundw
        case rel => exact ⟨i + 1, _, _, by show _ ≤ _; omega, by simp, HP5, HR5.out.drewN _, HF5.out.drewN _, below_drewN HB5.out _⟩
        case measure => simp [intOf]; omega
    · clear hA
      have HBr := HB
      go_wp2_with fail
      refine (nil_Fail _ _).mono ?_
      rintro e w4 ⟨rfl, hb⟩
      have HBr := Lib.hid (below_to HBr.out hb)
      clear hb
      go_wp2_with fail
      refine (nil_Num _ _).mono ?_
      rintro e w4 ⟨rfl, hb⟩
      have HBr := Lib.hid (below_to HBr.out hb)
      clear hb
      go_wp2_with fail
      refine (nil_Int _).mono ?_
      rintro e w4 ⟨rfl, hb⟩
      have HBr := Lib.hid (below_to HBr.out hb)
      clear hb
      go_wp2_with fail
      refine (nil_Row _ _).mono ?_
      rintro e w4 ⟨rfl, hb⟩
      have HBr := Lib.hid (below_to HBr.out hb)
      clear hb
      go_wp2_with fail
      refine (nil_Take _ _).mono ?_
      rintro e w4 ⟨rfl, hb⟩
      have HBr := Lib.hid (below_to HBr.out hb)
      clear hb
      go_wp2_with fail
      refine (nil_Left _).mono ?_
      rintro e w4 ⟨rfl, rfl⟩
      go_wp2_with fail
      refine (nil_Fault _).mono ?_
      rintro e w4 ⟨rfl, rfl⟩
      go_wp2_with fail
      go_ret
      exact ⟨rfl, HBr.out⟩

set_option maxRecDepth 100000 in
set_option maxHeartbeats 800000 in
theorem NumsReads_great (s : ByteArray) (w : World) (A : Option Addr) (n c : Nat) (hs : s.size ≤ 9223372036854775807) (hn : n ≤ 9223372036854775807) (h : 2000 < s.size ∨ 40 < n) :
    Calls Try.prog 6 #[.string s, .slice A n c] w fun e w' => e = .returned (.bool true) ∧ Below w.heap.size w w' := by
  by_cases h1 : 2000 < s.size
  · go_enter Try.func6, Try.ntmps6
    go_wp2_with fail
    refine (alive01 _).mono ?_
    rintro e w1 ⟨rfl, hb⟩
    have HB1 := Lib.hid hb; clear hb
    go_wp2_with fail
    go_ret
    exact ⟨rfl, HB1.out⟩
  · have h2 : 40 < n := by omega
    clear h
    go_enter Try.func6, Try.ntmps6
    go_wp2_with fail
    refine (alive01 _).mono ?_
    rintro e w1 ⟨rfl, hb⟩
    have HB1 := Lib.hid hb; clear hb
    go_wp2_with fail
    go_ret
    exact ⟨rfl, HB1.out⟩
end Go.Proofs.Ytgjehokkmdbknaa
