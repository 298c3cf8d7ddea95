/- The row that the reference's reader reads. -/
import Derived.Test.YtaigngdlioplaaaDoorNumsG
namespace Go.Proofs.YtaigngdlioplaaaDoor
open Go.RowKit

theorem i64_u64 (n : Int) (h0 : 0 ≤ n) (h : n ≤ 1099511627776) : IntKind.u64.wrap n = n ∧ wrap64 n = n := by
  simp only [wrap64, IntKind.wrap_u64]; omega

set_option maxRecDepth 100000 in
set_option maxHeartbeats 1600000 in
theorem FRow_any (g : Nat) (s : ByteArray) (p : Nat) (f : Int) (most : Int) (w : World) (hr : Hid (Ref w g s p f)) (hs : Hid (s.size ≤ 1099511627776)) (hp : Hid (p ≤ s.size)) (hm : Hid (I64 most)) :
    Calls Tryd.prog 74 #[.pointer (some ⟨g, 0, none⟩), .int .i64 most] w fun e w' => e = .returned (.string (rRow s p f most).1) ∧
      Ref w' g s (rRow s p f most).2.1 (rRow s p f most).2.2 ∧ w.grownBy w' (some g) := by
  have c0 := hr.out.s
  have c1 := hr.out.p
  have c2 := hr.out.f
  have z1 := hr.out.z 1
  have z2 := hr.out.z 2
  have hps : p ≤ s.size := hp.out
  have hsz : s.size ≤ 1099511627776 := hs.out
  by_cases h0 : f = 0
  · subst h0
    have hfit := Lib.hid (dig_fits s p hp.out)
    have hu := Lib.hid (dig_U64 (s.data.toList.drop p))
    have hd : ∀ n, Calls Tryd.prog 110 #[.string (s.extract p s.size)] (w.drewN n) _ := fun n => rdigits_any (s.extract p s.size) (w.drewN n) (by have := hs.out; show _ ≤ _; simp; omega)
    rw [rest_data] at hd
    have hN : rRow s p 0 most = if (rowC s p most).1 = 0 then ((rowC s p most).2.1, (rowC s p most).2.2, 0) else (⟨#[]⟩, p, (rowC s p most).1) := rfl
    have hC : rowC s p most = if (dig (s.data.toList.drop p) 0 0).1 = 0 then
      (if most < 0 ∨ most < (dig (s.data.toList.drop p) 0 0).2.1 then (4, ⟨#[]⟩, p + (dig (s.data.toList.drop p) 0 0).2.2)
      else takeC s (p + (dig (s.data.toList.drop p) 0 0).2.2) (dig (s.data.toList.drop p) 0 0).2.1)
      else ((dig (s.data.toList.drop p) 0 0).1, ⟨#[]⟩, p + (dig (s.data.toList.drop p) 0 0).2.2) := rfl
    generalize rowC s p most = y at *
    generalize rRow s p 0 most = r at *
    generalize dig (s.data.toList.drop p) 0 0 = x at *
    obtain ⟨er, n, u⟩ := x
    simp only [] at hd hC hfit hu
    by_cases h1 : er = 0
    · subst h1
      simp only [okNat_zero] at hd
      have Hd := Lib.hid hd; clear hd
      rw [if_pos rfl] at hC
      by_cases hmn : most < 0 ∨ most < (n : Int)
      · rw [if_pos hmn] at hC
        subst hC
        rw [if_neg (show ¬ (4 : Int) = 0 by decide)] at hN
        subst hN
        have hww : 0 ≤ most → IntKind.u64.wrap most = most := by intro h; have := hm.out; unfold I64 at this; rw [IntKind.wrap_u64]; omega
        have Hww := Lib.hid hww; clear hww
        by_cases hm0 : most < 0
        · go_enter Tryd.func74, Tryd.ntmps74
          go_wp2_with fail
          go_quiet ((go_at_call 110; exact quiet_same (Hd.out _)))
          go_wp2_with fail
          go_quiet (fail)
          go_wp2_with fail
          go_ret
          exact ⟨rfl, hr.out.setf _ _, grown_set (World.grownBy.refl _ _) _ _ _⟩
        · have hw1 := Hww.out (by omega)
          have hm1 : most < (n : Int) := by omega
          go_enter Tryd.func74, Tryd.ntmps74
          go_wp2_with fail
          go_quiet ((go_at_call 110; exact quiet_same (Hd.out _)))
          go_wp2_with fail
          go_quiet (fail)
          go_wp2_with fail
          go_ret
          exact ⟨rfl, hr.out.setf _ _, grown_set (World.grownBy.refl _ _) _ _ _⟩
      · rw [if_neg hmn] at hC
        have hm0 : ¬ most < 0 := by omega
        have hm1 : ¬ most < (n : Int) := by omega
        have hw1 : IntKind.u64.wrap most = most := by have := hm.out; unfold I64 at this; rw [IntKind.wrap_u64]; omega
        have hn64 : wrap64 (n : Int) = (n : Int) := by have := hm.out; unfold I64 at this; simp only [wrap64]; omega
        unfold takeC at hC
        rw [if_neg (by omega)] at hC
        have hfit2 := hfit.out
        have hleft := Lib.hid (i64_u64 ((s.size : Int) - p - u) (by omega) (by omega))
        have hl1 := hleft.out.1
        clear hmn
        by_cases hlt : ((s.size : Int) - ((p + u : Nat) : Int)) < (n : Int)
        · rw [if_pos hlt] at hC
          subst hC
          rw [if_neg (show ¬ (2 : Int) = 0 by decide)] at hN
          subst hN
          have hlt' : (s.size : Int) - p - u < (n : Int) := by omega
          clear hlt
          go_enter Tryd.func74, Tryd.ntmps74
          go_wp2_with fail
          go_quiet ((go_at_call 110; exact quiet_same (Hd.out _)))
          go_wp2_with fail
          go_quiet (fail)
          go_wp2_with fail
          go_ret
          exact ⟨rfl, hr.out.setf _ _, grown_set (World.grownBy.refl _ _) _ _ _⟩
        · rw [if_neg hlt] at hC
          subst hC
          rw [if_pos rfl] at hN
          subst hN
          rw [Int.toNat_natCast]
          have hlt' : ¬ (s.size : Int) - p - u < (n : Int) := by omega
          have hd1 : decide ((s.size : Int) - p - u < n) = false := by simpa using hlt'
          have hpm : p + u + n ≤ s.size := by omega
          clear hlt
          have c1' : ∀ k, ((w.drewN k).setCell ⟨g, 1, none⟩ (.int .i64 ((p : Int) + u + n))).cell? ⟨g, 1, none⟩ = some (.int .i64 ((p : Int) + u + n)) := fun k => (hr.out.setp k _ (p + u + n) (by simp)).p.trans (by simp)
          have c0' : ∀ k, ((w.drewN k).setCell ⟨g, 1, none⟩ (.int .i64 ((p : Int) + u + n))).cell? ⟨g, 0, none⟩ = some (.string s) := fun k => (hr.out.setp k _ (p + u + n) (by simp)).s
          go_enter Tryd.func74, Tryd.ntmps74
          go_wp2_with fail
          go_quiet ((go_at_call 110; exact quiet_same (Hd.out _)))
          go_wp2_with fail
          go_quiet (fail)
          go_wp2_with fail
          go_quiet (fail)
          go_wp2_with fail
          go_ret
          exact ⟨rfl, (hr.out.setp _ _ (p + u + n) (by simp)).drewN _, grown_drewN (grown_set (World.grownBy.refl _ _) _ _ _) _⟩
    · rw [if_neg h1] at hC
      subst hC
      rw [if_neg h1] at hN
      subst hN
      have h1' : (er == 0) = false := by simpa using h1
      have ho : ∀ k, okNat er k = 0 := fun k => by unfold okNat; rw [if_neg h1]
      simp only [ho] at hd
      have Hd := Lib.hid hd; clear hd ho h1
      go_enter Tryd.func74, Tryd.ntmps74
      go_wp2_with fail
      go_quiet ((go_at_call 110; exact quiet_same (Hd.out _)))
      go_wp2_with fail
      go_quiet (fail)
      go_wp2_with fail
      go_ret
      exact ⟨rfl, hr.out.setf _ _, grown_set (World.grownBy.refl _ _) _ _ _⟩
  · have hN : rRow s p f most = (⟨#[]⟩, p, f) := by unfold rRow; rw [if_neg h0]
    rw [hN]
    have h0' : (f == 0) = false := by simpa using h0
    clear hN h0
    go_enter Tryd.func74, Tryd.ntmps74
    go_wp2_with fail
    go_ret
    exact ⟨rfl, hr.out, World.grownBy.refl _ _⟩
end Go.Proofs.YtaigngdlioplaaaDoor
