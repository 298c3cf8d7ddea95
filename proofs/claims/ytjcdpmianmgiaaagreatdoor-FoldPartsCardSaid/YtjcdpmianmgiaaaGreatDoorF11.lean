/- Part 12 of what the claim rests on. -/
import Derived.Test.YtjcdpmianmgiaaaGreatDoorF00
import Derived.Test.YtjcdpmianmgiaaaGreatDoorF06
import Derived.Test.YtjcdpmianmgiaaaGreatDoorF08
import Derived.Test.YtjcdpmianmgiaaaGreatDoorF10
import Derived.Laws.StructEq
namespace Go.Proofs.YtjcdpmianmgiaaaGreatDoor
open Go Go.RowKit
set_option linter.unusedVariables false
set_option linter.unusedSimpArgs false
def sameB (b c : Bk) : Bool := decide (b.h = c.h) && (decide (b.s = c.s) && (decide (b.o = c.o) && (decide (b.r = c.r) && decide (b.n = c.n))))
theorem sameB_iff (b c : Bk) : sameB b c = true ↔ b = c := by
  obtain ⟨h, s, o, r, n⟩ := b
  obtain ⟨h', s', o', r', n'⟩ := c
  simp [sameB]
theorem take_step {α : Type} {l m : List α} {j : Nat} {a b : α} (ha : l[j]? = some a) (hb : m[j]? = some b) (h : l.take j = m.take j) (hab : a = b) : l.take (j + 1) = m.take (j + 1) := by
  rw [List.take_add_one, List.take_add_one, h, ha, hb, hab]
theorem take_all {α : Type} {l m : List α} {j : Nat} (h : l.take j = m.take j) (hl : l.length ≤ j) (hm : m.length ≤ j) : l = m := by
  rwa [List.take_of_length_le hl, List.take_of_length_le hm] at h
set_option maxRecDepth 100000 in
theorem neqHolder (y0 y1 y2 y3 z0 z1 z2 z3 : Int) (w : World) : (binOp .neq 82 (.agg #[.int .i64 y0, .int .i64 y1, .int .i64 y2, .int .i64 y3]) (.agg #[.int .i64 z0, .int .i64 z1, .int .i64 z2, .int .i64 z3])).run Tryz.prog w = .ok (.bool (!decide (([y0, y1, y2, y3] : List Int) = [z0, z1, z2, z3]))) w := by
  have hS : Tryz.prog.underlying 82 = some (.struct (Tryz.prog.fieldsOf 82)) := by kernel_rfl
  have hp : Tryz.prog.stoodInHeld 82 = false := by kernel_rfl
  rw [run_neq_struct, show (10000 : Nat) = 9999 + 1 from rfl, run_equalIn_struct w 9999 82 _ _ hS hp]
  simp only [Program.fieldsOf, Tryz.underlying82]
  go_simp
  by_cases h0 : y0 = z0 <;> by_cases h1 : y1 = z1 <;> by_cases h2 : y2 = z2 <;> by_cases h3 : y3 = z3 <;> simp [h0, h1, h2, h3]
set_option maxRecDepth 100000 in
theorem neqStake (y0 y1 y2 z0 z1 z2 : Int) (w : World) : (binOp .neq 84 (.agg #[.int .i64 y0, .int .i64 y1, .int .i64 y2]) (.agg #[.int .i64 z0, .int .i64 z1, .int .i64 z2])).run Tryz.prog w = .ok (.bool (!decide (([y0, y1, y2] : List Int) = [z0, z1, z2]))) w := by
  have hS : Tryz.prog.underlying 84 = some (.struct (Tryz.prog.fieldsOf 84)) := by kernel_rfl
  have hp : Tryz.prog.stoodInHeld 84 = false := by kernel_rfl
  rw [run_neq_struct, show (10000 : Nat) = 9999 + 1 from rfl, run_equalIn_struct w 9999 84 _ _ hS hp]
  simp only [Program.fieldsOf, Tryz.underlying84]
  go_simp
  by_cases h0 : y0 = z0 <;> by_cases h1 : y1 = z1 <;> by_cases h2 : y2 = z2 <;> simp [h0, h1, h2]
set_option maxRecDepth 100000 in
theorem neqOpen (y0 y1 y2 y3 y4 y5 z0 z1 z2 z3 z4 z5 : Int) (w : World) : (binOp .neq 86 (.agg #[.int .i64 y0, .int .i64 y1, .int .i64 y2, .int .i64 y3, .int .i64 y4, .int .i64 y5]) (.agg #[.int .i64 z0, .int .i64 z1, .int .i64 z2, .int .i64 z3, .int .i64 z4, .int .i64 z5])).run Tryz.prog w = .ok (.bool (!decide (([y0, y1, y2, y3, y4, y5] : List Int) = [z0, z1, z2, z3, z4, z5]))) w := by
  have hS : Tryz.prog.underlying 86 = some (.struct (Tryz.prog.fieldsOf 86)) := by kernel_rfl
  have hp : Tryz.prog.stoodInHeld 86 = false := by kernel_rfl
  rw [run_neq_struct, show (10000 : Nat) = 9999 + 1 from rfl, run_equalIn_struct w 9999 86 _ _ hS hp]
  simp only [Program.fieldsOf, Tryz.underlying86]
  go_simp
  by_cases h0 : y0 = z0 <;> by_cases h1 : y1 = z1 <;> by_cases h2 : y2 = z2 <;> by_cases h3 : y3 = z3 <;> by_cases h4 : y4 = z4 <;> by_cases h5 : y5 = z5 <;> simp [h0, h1, h2, h3, h4, h5]
set_option maxRecDepth 100000 in
theorem neqRate (y0 y1 z0 z1 : Int) (w : World) : (binOp .neq 88 (.agg #[.int .i64 y0, .int .i64 y1]) (.agg #[.int .i64 z0, .int .i64 z1])).run Tryz.prog w = .ok (.bool (!decide (([y0, y1] : List Int) = [z0, z1]))) w := by
  have hS : Tryz.prog.underlying 88 = some (.struct (Tryz.prog.fieldsOf 88)) := by kernel_rfl
  have hp : Tryz.prog.stoodInHeld 88 = false := by kernel_rfl
  rw [run_neq_struct, show (10000 : Nat) = 9999 + 1 from rfl, run_equalIn_struct w 9999 88 _ _ hS hp]
  simp only [Program.fieldsOf, Tryz.underlying88]
  go_simp
  by_cases h0 : y0 = z0 <;> by_cases h1 : y1 = z1 <;> simp [h0, h1]
set_option maxRecDepth 100000 in
set_option maxHeartbeats 8000000 in
theorem rSame_any (v v' : Value) (b c : Bk) (w : World) (hb : Hid (BkAt w v b)) (hc : Hid (BkAt w v' c)) (hs : Hid b.Small) :
    Calls Tryz.prog 16 #[v, v'] w fun e w' => e = .returned (.bool (sameB b c)) ∧ Below w.heap.size w w' := by
  obtain ⟨vh, vs, vo, vr, rfl, g1, g2, g3, g4⟩ := hb.out
  obtain ⟨vh', vs', vo', vr', rfl, g1', g2', g3', g4'⟩ := hc.out
  obtain ⟨A1h, c1h, rfl, _⟩ := g1
  obtain ⟨A1s, c1s, rfl, _⟩ := g2
  obtain ⟨A1o, c1o, rfl, _⟩ := g3
  obtain ⟨A1r, c1r, rfl, _⟩ := g4
  obtain ⟨A2h, c2h, rfl, _⟩ := g1'
  obtain ⟨A2s, c2s, rfl, _⟩ := g2'
  obtain ⟨A2o, c2o, rfl, _⟩ := g3'
  obtain ⟨A2r, c2r, rfl, _⟩ := g4'
  obtain ⟨w1, hw1⟩ : ∃ w1, (w.alloc (.cells #[.slice A1h b.h.length c1h, .slice A1s b.s.length c1s, .slice A1o b.o.length c1o, .slice A1r b.r.length c1r, .int .i64 b.n] 27)).alloc (.cells #[.slice A2h c.h.length c2h, .slice A2s c.s.length c2s, .slice A2o c.o.length c2o, .slice A2r c.r.length c2r, .int .i64 c.n] 27) = w1 := ⟨_, rfl⟩
  have HB : Hid (Below w.heap.size w w1) := by rw [← hw1]; exact below_alloc (below_alloc (Below.refl _ _) (Nat.le_refl _) _) (by simp) _
  have K : Hid (w1.heap[w.heap.size]? = some (.cells #[.slice A1h b.h.length c1h, .slice A1s b.s.length c1s, .slice A1o b.o.length c1o, .slice A1r b.r.length c1r, .int .i64 b.n] 27 (0, 0))) := by rw [← hw1]; exact blk_old (heap_new _ _) _
  have K' : Hid (w1.heap[w.heap.size + 1]? = some (.cells #[.slice A2h c.h.length c2h, .slice A2s c.s.length c2s, .slice A2o c.o.length c2o, .slice A2r c.r.length c2r, .int .i64 c.n] 27 (0, 0))) := by rw [← hw1]; exact blk_new _ _ _ (by simp)
  obtain ⟨_, _, _, _, hh, g1, g2, g3, g4⟩ := hb.out.call HB.out
  injection hh with hh
  simp only [Array.mk.injEq, List.cons.injEq] at hh
  obtain ⟨rfl, rfl, rfl, rfl, _⟩ := hh
  have R0 := zH g1.rec'
  have R1 := zH g2.rec'
  have R2 := zH g3.rec'
  have R3 := zH g4.rec'
  clear g1 g2 g3 g4
  obtain ⟨_, _, _, _, hh, g1, g2, g3, g4⟩ := hc.out.call HB.out
  injection hh with hh
  simp only [Array.mk.injEq, List.cons.injEq] at hh
  obtain ⟨rfl, rfl, rfl, rfl, _⟩ := hh
  have Q0 := zH g1.rec'
  have Q1 := zH g2.rec'
  have Q2 := zH g3.rec'
  have Q3 := zH g4.rec'
  clear g1 g2 g3 g4
  have hl : b.h.length ≤ 1000000 ∧ b.s.length ≤ 1000000 ∧ b.o.length ≤ 1000000 ∧ b.r.length ≤ 1000000 := by have := hs.out; unfold Bk.Small at this; omega
  obtain ⟨hlh, hls, hlo, hlr⟩ := hl
  obtain ⟨Res, hRes⟩ : ∃ Res, sameB b c = Res := ⟨_, rfl⟩
  rw [hRes]
  replace hRes := zH hRes
  replace hw1 := zH hw1
  clear hb hc hs
  have a0 := zC K.out
  have d0 := zC K'.out
  rw [← hw1.out] at a0 d0
  have NE : Hid ((b.h.length ≠ c.h.length ∨ b.s.length ≠ c.s.length ∨ b.o.length ≠ c.o.length ∨ b.r.length ≠ c.r.length ∨ b.n ≠ c.n) → Res = false) := (show _ → _ from fun h => by
    rw [← hRes.out]
    cases hh : sameB b c with
    | false => rfl
    | true => rw [sameB_iff] at hh; subst hh; simp at h)
  by_cases lh : b.h.length ≠ c.h.length
  · have th : (((b.h.length : Nat) : Int) != ((c.h.length : Nat) : Int)) = true := by simp; omega
    have hR := NE.out (by first | exact .inl lh | exact .inr (.inl lh) | exact .inr (.inr (.inl lh)) | exact .inr (.inr (.inr (.inl lh))))
    subst hR
    clear lh NE
    go_enter Tryz.func16, Tryz.ntmps16
    go_wp2_with fail
    go_ret
    exact ⟨rfl, by have := HB.out; rw [← hw1.out] at this; exact this⟩
  have th : (((b.h.length : Nat) : Int) != ((c.h.length : Nat) : Int)) = false := by simp; omega
  have eh : Hid (b.h.length = c.h.length) := (show _ = _ from by omega)
  clear lh
  by_cases ls : b.s.length ≠ c.s.length
  · have ts : (((b.s.length : Nat) : Int) != ((c.s.length : Nat) : Int)) = true := by simp; omega
    have hR := NE.out (by first | exact .inl ls | exact .inr (.inl ls) | exact .inr (.inr (.inl ls)) | exact .inr (.inr (.inr (.inl ls))))
    subst hR
    clear ls NE
    go_enter Tryz.func16, Tryz.ntmps16
    go_wp2_with fail
    go_ret
    exact ⟨rfl, by have := HB.out; rw [← hw1.out] at this; exact this⟩
  have ts : (((b.s.length : Nat) : Int) != ((c.s.length : Nat) : Int)) = false := by simp; omega
  have es : Hid (b.s.length = c.s.length) := (show _ = _ from by omega)
  clear ls
  by_cases lo : b.o.length ≠ c.o.length
  · have to : (((b.o.length : Nat) : Int) != ((c.o.length : Nat) : Int)) = true := by simp; omega
    have hR := NE.out (by first | exact .inl lo | exact .inr (.inl lo) | exact .inr (.inr (.inl lo)) | exact .inr (.inr (.inr (.inl lo))))
    subst hR
    clear lo NE
    go_enter Tryz.func16, Tryz.ntmps16
    go_wp2_with fail
    go_ret
    exact ⟨rfl, by have := HB.out; rw [← hw1.out] at this; exact this⟩
  have to : (((b.o.length : Nat) : Int) != ((c.o.length : Nat) : Int)) = false := by simp; omega
  have eo : Hid (b.o.length = c.o.length) := (show _ = _ from by omega)
  clear lo
  by_cases lr : b.r.length ≠ c.r.length
  · have tr : (((b.r.length : Nat) : Int) != ((c.r.length : Nat) : Int)) = true := by simp; omega
    have hR := NE.out (by first | exact .inl lr | exact .inr (.inl lr) | exact .inr (.inr (.inl lr)) | exact .inr (.inr (.inr (.inl lr))))
    subst hR
    clear lr NE
    go_enter Tryz.func16, Tryz.ntmps16
    go_wp2_with fail
    go_ret
    exact ⟨rfl, by have := HB.out; rw [← hw1.out] at this; exact this⟩
  have tr : (((b.r.length : Nat) : Int) != ((c.r.length : Nat) : Int)) = false := by simp; omega
  have er : Hid (b.r.length = c.r.length) := (show _ = _ from by omega)
  clear lr
  by_cases ln : b.n ≠ c.n
  · have tn : (b.n != c.n) = true := by simp [ln]
    have hR := NE.out (.inr (.inr (.inr (.inr ln))))
    subst hR
    clear ln NE
    go_enter Tryz.func16, Tryz.ntmps16
    go_wp2_with fail
    go_ret
    exact ⟨rfl, by have := HB.out; rw [← hw1.out] at this; exact this⟩
  have tn : (b.n != c.n) = false := by simpa using ln
  replace ln : b.n = c.n := by simpa using ln
  replace ln := zH ln
  clear NE
  go_enter Tryz.func16, Tryz.ntmps16
  go_wp2_with fail
  rw [hw1.out]
  clear a0 d0 th ts to tr tn
  go_loopw [5] (fun s6 wr => ∃ j : Nat, s6 = .int .i64 j ∧ Hid (j ≤ b.h.length) ∧ Hid (b.h.take j = c.h.take j) ∧ Hid (Below w1.heap.size w1 wr)) (fun s6 _ => b.h.length - (intOf s6).toNat)
  case atStart => exact ⟨0, rfl, Nat.zero_le _, rfl, Below.refl _ _⟩
  case round =>
    obtain ⟨j, rfl, hjl, hrest, hBr⟩ := hrel
    replace hjl := hjl.out
    have cb := cells_of_blk (zK K hBr.out).out 0 _ rfl
    have cb' := (hBr.out.cell (p := ⟨w.heap.size + 1, 0, none⟩) (Array.getElem?_eq_some_iff.1 K'.out).1).trans (cells_of_blk K'.out 0 _ rfl)
    by_cases hin : j < b.h.length
    · have tn : decide ((j : Int) < (b.h.length : Int)) = true := decide_eq_true (by omega)
      have hge : b.h[j]? = some b.h[j] := List.getElem?_eq_getElem hin
      have hge2 : c.h[j]? = some c.h[j] := List.getElem?_eq_getElem (by have := eh.out; omega)
      obtain ⟨A', c', hA', hi⟩ := R0.out
      injection hA' with hA1 hA2 hA3
      subst hA1 hA3
      obtain ⟨hk, b0, o0, hA0, hbl, hc⟩ := hi j _ hge
      subst hA0
      obtain ⟨A'', c'', hA', hi2⟩ := Q0.out
      injection hA' with hA1 hA2' hA3
      subst hA1 hA3
      obtain ⟨hk2, b2, o2, hA0, hbl2, hc2⟩ := hi2 j _ hge2
      subst hA0
      have HG1 := zH hge
      have HG2 := zH hge2
      clear hA2 hA2' hge hge2 hi hi2
      have hjc : j < c.h.length := by have := eh.out; omega
      generalize b.h[j] = r at *
      generalize c.h[j] = r2 at *
      obtain ⟨y0, y1, y2, y3, rfl⟩ : ∃ y0 y1 y2 y3, r = [y0, y1, y2, y3] := by
        match r, hk with
        | [y0, y1, y2, y3], _ => exact ⟨y0, y1, y2, y3, rfl⟩
      obtain ⟨z0, z1, z2, z3, rfl⟩ : ∃ z0 z1 z2 z3, r2 = [z0, z1, z2, z3] := by
        match r2, hk2 with
        | [z0, z1, z2, z3], _ => exact ⟨z0, z1, z2, z3, rfl⟩
      have c0 : wr.cell? ⟨b0, o0 + j * 4, none⟩ = some (.int .i64 y0) := (hBr.out.cell (p := ⟨b0, o0 + j * 4 + 0, none⟩) hbl).trans (hc 0 _ rfl)
      have d0 : wr.cell? ⟨b2, o2 + j * 4, none⟩ = some (.int .i64 z0) := (hBr.out.cell (p := ⟨b2, o2 + j * 4 + 0, none⟩) hbl2).trans (hc2 0 _ rfl)
      have c1 : wr.cell? ⟨b0, o0 + j * 4 + 1, none⟩ = some (.int .i64 y1) := (hBr.out.cell (p := ⟨b0, o0 + j * 4 + 1, none⟩) hbl).trans (hc 1 _ rfl)
      have d1 : wr.cell? ⟨b2, o2 + j * 4 + 1, none⟩ = some (.int .i64 z1) := (hBr.out.cell (p := ⟨b2, o2 + j * 4 + 1, none⟩) hbl2).trans (hc2 1 _ rfl)
      have c2 : wr.cell? ⟨b0, o0 + j * 4 + 2, none⟩ = some (.int .i64 y2) := (hBr.out.cell (p := ⟨b0, o0 + j * 4 + 2, none⟩) hbl).trans (hc 2 _ rfl)
      have d2 : wr.cell? ⟨b2, o2 + j * 4 + 2, none⟩ = some (.int .i64 z2) := (hBr.out.cell (p := ⟨b2, o2 + j * 4 + 2, none⟩) hbl2).trans (hc2 2 _ rfl)
      have c3 : wr.cell? ⟨b0, o0 + j * 4 + 3, none⟩ = some (.int .i64 y3) := (hBr.out.cell (p := ⟨b0, o0 + j * 4 + 3, none⟩) hbl).trans (hc 3 _ rfl)
      have d3 : wr.cell? ⟨b2, o2 + j * 4 + 3, none⟩ = some (.int .i64 z3) := (hBr.out.cell (p := ⟨b2, o2 + j * 4 + 3, none⟩) hbl2).trans (hc2 3 _ rfl)
      have tc : (j : Int) < (c.h.length : Int) := by omega
      have tb : (j : Int) < (b.h.length : Int) := by omega
      clear hc hc2 hk hk2
      have hne := fun wz => neqHolder y0 y1 y2 y3 z0 z1 z2 z3 wz
      by_cases he : ([y0, y1, y2, y3] : List Int) = [z0, z1, z2, z3]
      · rw [decide_eq_true he] at hne
        have hst2 := zH (take_step HG1.out HG2.out hrest.out he)
        clear he HG1 HG2
        go_wp2_with fail
        go_quiet (fail)
        go_wp2_with fail
        go_roundw
        case rel => exact ⟨j + 1, by go_num, by show _ ≤ _; omega, hst2.out, below_drewN hBr.out _⟩
        case measure => simp [intOf]; omega
      · rw [decide_eq_false he] at hne
        have hR : Res = false := by
          rw [← hRes.out]
          cases hh : sameB b c with
          | false => rfl
          | true =>
            rw [sameB_iff] at hh
            have h1 := HG1.out
            rw [hh, HG2.out] at h1
            injection h1 with h1
            exact absurd h1.symm he
        subst hR
        clear he HG1 HG2
        go_wp2_with fail
        go_quiet (fail)
        go_wp2_with fail
        go_ret
        exact ⟨rfl, HB.out.trans ((below_drewN hBr.out _).mono HB.out.size)⟩
    · have tn : decide ((j : Int) < (b.h.length : Int)) = false := decide_eq_false (by omega)
      have E0 : Hid (b.h = c.h) := take_all hrest.out (by omega) (by have := eh.out; omega)
      have hBr0 := hBr
      clear hrest hBr hjl
      go_wp2_with fail
      go_loopw [6] (fun s6 wr => ∃ j : Nat, s6 = .int .i64 j ∧ Hid (j ≤ b.s.length) ∧ Hid (b.s.take j = c.s.take j) ∧ Hid (Below w1.heap.size w1 wr)) (fun s6 _ => b.s.length - (intOf s6).toNat)
      case atStart => exact ⟨0, rfl, Nat.zero_le _, rfl, hBr0.out⟩
      case round =>
        obtain ⟨j, rfl, hjl, hrest, hBr⟩ := hrel
        replace hjl := hjl.out
        have cb := cells_of_blk (zK K hBr.out).out 1 _ rfl
        have cb' := (hBr.out.cell (p := ⟨w.heap.size + 1, 1, none⟩) (Array.getElem?_eq_some_iff.1 K'.out).1).trans (cells_of_blk K'.out 1 _ rfl)
        by_cases hin : j < b.s.length
        · have tn : decide ((j : Int) < (b.s.length : Int)) = true := decide_eq_true (by omega)
          have hge : b.s[j]? = some b.s[j] := List.getElem?_eq_getElem hin
          have hge2 : c.s[j]? = some c.s[j] := List.getElem?_eq_getElem (by have := es.out; omega)
          obtain ⟨A', c', hA', hi⟩ := R1.out
          injection hA' with hA1 hA2 hA3
          subst hA1 hA3
          obtain ⟨hk, b0, o0, hA0, hbl, hc⟩ := hi j _ hge
          subst hA0
          obtain ⟨A'', c'', hA', hi2⟩ := Q1.out
          injection hA' with hA1 hA2' hA3
          subst hA1 hA3
          obtain ⟨hk2, b2, o2, hA0, hbl2, hc2⟩ := hi2 j _ hge2
          subst hA0
          have HG1 := zH hge
          have HG2 := zH hge2
          clear hA2 hA2' hge hge2 hi hi2
          have hjc : j < c.s.length := by have := es.out; omega
          generalize b.s[j] = r at *
          generalize c.s[j] = r2 at *
          obtain ⟨y0, y1, y2, rfl⟩ : ∃ y0 y1 y2, r = [y0, y1, y2] := by
            match r, hk with
            | [y0, y1, y2], _ => exact ⟨y0, y1, y2, rfl⟩
          obtain ⟨z0, z1, z2, rfl⟩ : ∃ z0 z1 z2, r2 = [z0, z1, z2] := by
            match r2, hk2 with
            | [z0, z1, z2], _ => exact ⟨z0, z1, z2, rfl⟩
          have c0 : wr.cell? ⟨b0, o0 + j * 3, none⟩ = some (.int .i64 y0) := (hBr.out.cell (p := ⟨b0, o0 + j * 3 + 0, none⟩) hbl).trans (hc 0 _ rfl)
          have d0 : wr.cell? ⟨b2, o2 + j * 3, none⟩ = some (.int .i64 z0) := (hBr.out.cell (p := ⟨b2, o2 + j * 3 + 0, none⟩) hbl2).trans (hc2 0 _ rfl)
          have c1 : wr.cell? ⟨b0, o0 + j * 3 + 1, none⟩ = some (.int .i64 y1) := (hBr.out.cell (p := ⟨b0, o0 + j * 3 + 1, none⟩) hbl).trans (hc 1 _ rfl)
          have d1 : wr.cell? ⟨b2, o2 + j * 3 + 1, none⟩ = some (.int .i64 z1) := (hBr.out.cell (p := ⟨b2, o2 + j * 3 + 1, none⟩) hbl2).trans (hc2 1 _ rfl)
          have c2 : wr.cell? ⟨b0, o0 + j * 3 + 2, none⟩ = some (.int .i64 y2) := (hBr.out.cell (p := ⟨b0, o0 + j * 3 + 2, none⟩) hbl).trans (hc 2 _ rfl)
          have d2 : wr.cell? ⟨b2, o2 + j * 3 + 2, none⟩ = some (.int .i64 z2) := (hBr.out.cell (p := ⟨b2, o2 + j * 3 + 2, none⟩) hbl2).trans (hc2 2 _ rfl)
          have tc : (j : Int) < (c.s.length : Int) := by omega
          have tb : (j : Int) < (b.s.length : Int) := by omega
          clear hc hc2 hk hk2
          have hne := fun wz => neqStake y0 y1 y2 z0 z1 z2 wz
          by_cases he : ([y0, y1, y2] : List Int) = [z0, z1, z2]
          · rw [decide_eq_true he] at hne
            have hst2 := zH (take_step HG1.out HG2.out hrest.out he)
            clear he HG1 HG2
            go_wp2_with fail
            go_quiet (fail)
            go_wp2_with fail
            go_roundw
            case rel => exact ⟨j + 1, by go_num, by show _ ≤ _; omega, hst2.out, below_drewN hBr.out _⟩
            case measure => simp [intOf]; omega
          · rw [decide_eq_false he] at hne
            have hR : Res = false := by
              rw [← hRes.out]
              cases hh : sameB b c with
              | false => rfl
              | true =>
                rw [sameB_iff] at hh
                have h1 := HG1.out
                rw [hh, HG2.out] at h1
                injection h1 with h1
                exact absurd h1.symm he
            subst hR
            clear he HG1 HG2
            go_wp2_with fail
            go_quiet (fail)
            go_wp2_with fail
            go_ret
            exact ⟨rfl, HB.out.trans ((below_drewN hBr.out _).mono HB.out.size)⟩
        · have tn : decide ((j : Int) < (b.s.length : Int)) = false := decide_eq_false (by omega)
          have E1 : Hid (b.s = c.s) := take_all hrest.out (by omega) (by have := es.out; omega)
          have hBr1 := hBr
          clear hrest hBr hjl
          go_wp2_with fail
          go_loopw [7] (fun s6 wr => ∃ j : Nat, s6 = .int .i64 j ∧ Hid (j ≤ b.o.length) ∧ Hid (b.o.take j = c.o.take j) ∧ Hid (Below w1.heap.size w1 wr)) (fun s6 _ => b.o.length - (intOf s6).toNat)
          case atStart => exact ⟨0, rfl, Nat.zero_le _, rfl, hBr1.out⟩
          case round =>
            obtain ⟨j, rfl, hjl, hrest, hBr⟩ := hrel
            replace hjl := hjl.out
            have cb := cells_of_blk (zK K hBr.out).out 2 _ rfl
            have cb' := (hBr.out.cell (p := ⟨w.heap.size + 1, 2, none⟩) (Array.getElem?_eq_some_iff.1 K'.out).1).trans (cells_of_blk K'.out 2 _ rfl)
            by_cases hin : j < b.o.length
            · have tn : decide ((j : Int) < (b.o.length : Int)) = true := decide_eq_true (by omega)
              have hge : b.o[j]? = some b.o[j] := List.getElem?_eq_getElem hin
              have hge2 : c.o[j]? = some c.o[j] := List.getElem?_eq_getElem (by have := eo.out; omega)
              obtain ⟨A', c', hA', hi⟩ := R2.out
              injection hA' with hA1 hA2 hA3
              subst hA1 hA3
              obtain ⟨hk, b0, o0, hA0, hbl, hc⟩ := hi j _ hge
              subst hA0
              obtain ⟨A'', c'', hA', hi2⟩ := Q2.out
              injection hA' with hA1 hA2' hA3
              subst hA1 hA3
              obtain ⟨hk2, b2, o2, hA0, hbl2, hc2⟩ := hi2 j _ hge2
              subst hA0
              have HG1 := zH hge
              have HG2 := zH hge2
              clear hA2 hA2' hge hge2 hi hi2
              have hjc : j < c.o.length := by have := eo.out; omega
              generalize b.o[j] = r at *
              generalize c.o[j] = r2 at *
              obtain ⟨y0, y1, y2, y3, y4, y5, rfl⟩ : ∃ y0 y1 y2 y3 y4 y5, r = [y0, y1, y2, y3, y4, y5] := by
                match r, hk with
                | [y0, y1, y2, y3, y4, y5], _ => exact ⟨y0, y1, y2, y3, y4, y5, rfl⟩
              obtain ⟨z0, z1, z2, z3, z4, z5, rfl⟩ : ∃ z0 z1 z2 z3 z4 z5, r2 = [z0, z1, z2, z3, z4, z5] := by
                match r2, hk2 with
                | [z0, z1, z2, z3, z4, z5], _ => exact ⟨z0, z1, z2, z3, z4, z5, rfl⟩
              have c0 : wr.cell? ⟨b0, o0 + j * 6, none⟩ = some (.int .i64 y0) := (hBr.out.cell (p := ⟨b0, o0 + j * 6 + 0, none⟩) hbl).trans (hc 0 _ rfl)
              have d0 : wr.cell? ⟨b2, o2 + j * 6, none⟩ = some (.int .i64 z0) := (hBr.out.cell (p := ⟨b2, o2 + j * 6 + 0, none⟩) hbl2).trans (hc2 0 _ rfl)
              have c1 : wr.cell? ⟨b0, o0 + j * 6 + 1, none⟩ = some (.int .i64 y1) := (hBr.out.cell (p := ⟨b0, o0 + j * 6 + 1, none⟩) hbl).trans (hc 1 _ rfl)
              have d1 : wr.cell? ⟨b2, o2 + j * 6 + 1, none⟩ = some (.int .i64 z1) := (hBr.out.cell (p := ⟨b2, o2 + j * 6 + 1, none⟩) hbl2).trans (hc2 1 _ rfl)
              have c2 : wr.cell? ⟨b0, o0 + j * 6 + 2, none⟩ = some (.int .i64 y2) := (hBr.out.cell (p := ⟨b0, o0 + j * 6 + 2, none⟩) hbl).trans (hc 2 _ rfl)
              have d2 : wr.cell? ⟨b2, o2 + j * 6 + 2, none⟩ = some (.int .i64 z2) := (hBr.out.cell (p := ⟨b2, o2 + j * 6 + 2, none⟩) hbl2).trans (hc2 2 _ rfl)
              have c3 : wr.cell? ⟨b0, o0 + j * 6 + 3, none⟩ = some (.int .i64 y3) := (hBr.out.cell (p := ⟨b0, o0 + j * 6 + 3, none⟩) hbl).trans (hc 3 _ rfl)
              have d3 : wr.cell? ⟨b2, o2 + j * 6 + 3, none⟩ = some (.int .i64 z3) := (hBr.out.cell (p := ⟨b2, o2 + j * 6 + 3, none⟩) hbl2).trans (hc2 3 _ rfl)
              have c4 : wr.cell? ⟨b0, o0 + j * 6 + 4, none⟩ = some (.int .i64 y4) := (hBr.out.cell (p := ⟨b0, o0 + j * 6 + 4, none⟩) hbl).trans (hc 4 _ rfl)
              have d4 : wr.cell? ⟨b2, o2 + j * 6 + 4, none⟩ = some (.int .i64 z4) := (hBr.out.cell (p := ⟨b2, o2 + j * 6 + 4, none⟩) hbl2).trans (hc2 4 _ rfl)
              have c5 : wr.cell? ⟨b0, o0 + j * 6 + 5, none⟩ = some (.int .i64 y5) := (hBr.out.cell (p := ⟨b0, o0 + j * 6 + 5, none⟩) hbl).trans (hc 5 _ rfl)
              have d5 : wr.cell? ⟨b2, o2 + j * 6 + 5, none⟩ = some (.int .i64 z5) := (hBr.out.cell (p := ⟨b2, o2 + j * 6 + 5, none⟩) hbl2).trans (hc2 5 _ rfl)
              have tc : (j : Int) < (c.o.length : Int) := by omega
              have tb : (j : Int) < (b.o.length : Int) := by omega
              clear hc hc2 hk hk2
              have hne := fun wz => neqOpen y0 y1 y2 y3 y4 y5 z0 z1 z2 z3 z4 z5 wz
              by_cases he : ([y0, y1, y2, y3, y4, y5] : List Int) = [z0, z1, z2, z3, z4, z5]
              · rw [decide_eq_true he] at hne
                have hst2 := zH (take_step HG1.out HG2.out hrest.out he)
                clear he HG1 HG2
                go_wp2_with fail
                go_quiet (fail)
                go_wp2_with fail
                go_roundw
                case rel => exact ⟨j + 1, by go_num, by show _ ≤ _; omega, hst2.out, below_drewN hBr.out _⟩
                case measure => simp [intOf]; omega
              · rw [decide_eq_false he] at hne
                have hR : Res = false := by
                  rw [← hRes.out]
                  cases hh : sameB b c with
                  | false => rfl
                  | true =>
                    rw [sameB_iff] at hh
                    have h1 := HG1.out
                    rw [hh, HG2.out] at h1
                    injection h1 with h1
                    exact absurd h1.symm he
                subst hR
                clear he HG1 HG2
                go_wp2_with fail
                go_quiet (fail)
                go_wp2_with fail
                go_ret
                exact ⟨rfl, HB.out.trans ((below_drewN hBr.out _).mono HB.out.size)⟩
            · have tn : decide ((j : Int) < (b.o.length : Int)) = false := decide_eq_false (by omega)
              have E2 : Hid (b.o = c.o) := take_all hrest.out (by omega) (by have := eo.out; omega)
              have hBr2 := hBr
              clear hrest hBr hjl
              go_wp2_with fail
              go_loopw [8] (fun s6 wr => ∃ j : Nat, s6 = .int .i64 j ∧ Hid (j ≤ b.r.length) ∧ Hid (b.r.take j = c.r.take j) ∧ Hid (Below w1.heap.size w1 wr)) (fun s6 _ => b.r.length - (intOf s6).toNat)
              case atStart => exact ⟨0, rfl, Nat.zero_le _, rfl, hBr2.out⟩
              case round =>
                obtain ⟨j, rfl, hjl, hrest, hBr⟩ := hrel
                replace hjl := hjl.out
                have cb := cells_of_blk (zK K hBr.out).out 3 _ rfl
                have cb' := (hBr.out.cell (p := ⟨w.heap.size + 1, 3, none⟩) (Array.getElem?_eq_some_iff.1 K'.out).1).trans (cells_of_blk K'.out 3 _ rfl)
                by_cases hin : j < b.r.length
                · have tn : decide ((j : Int) < (b.r.length : Int)) = true := decide_eq_true (by omega)
                  have hge : b.r[j]? = some b.r[j] := List.getElem?_eq_getElem hin
                  have hge2 : c.r[j]? = some c.r[j] := List.getElem?_eq_getElem (by have := er.out; omega)
                  obtain ⟨A', c', hA', hi⟩ := R3.out
                  injection hA' with hA1 hA2 hA3
                  subst hA1 hA3
                  obtain ⟨hk, b0, o0, hA0, hbl, hc⟩ := hi j _ hge
                  subst hA0
                  obtain ⟨A'', c'', hA', hi2⟩ := Q3.out
                  injection hA' with hA1 hA2' hA3
                  subst hA1 hA3
                  obtain ⟨hk2, b2, o2, hA0, hbl2, hc2⟩ := hi2 j _ hge2
                  subst hA0
                  have HG1 := zH hge
                  have HG2 := zH hge2
                  clear hA2 hA2' hge hge2 hi hi2
                  have hjc : j < c.r.length := by have := er.out; omega
                  generalize b.r[j] = r at *
                  generalize c.r[j] = r2 at *
                  obtain ⟨y0, y1, rfl⟩ : ∃ y0 y1, r = [y0, y1] := by
                    match r, hk with
                    | [y0, y1], _ => exact ⟨y0, y1, rfl⟩
                  obtain ⟨z0, z1, rfl⟩ : ∃ z0 z1, r2 = [z0, z1] := by
                    match r2, hk2 with
                    | [z0, z1], _ => exact ⟨z0, z1, rfl⟩
                  have c0 : wr.cell? ⟨b0, o0 + j * 2, none⟩ = some (.int .i64 y0) := (hBr.out.cell (p := ⟨b0, o0 + j * 2 + 0, none⟩) hbl).trans (hc 0 _ rfl)
                  have d0 : wr.cell? ⟨b2, o2 + j * 2, none⟩ = some (.int .i64 z0) := (hBr.out.cell (p := ⟨b2, o2 + j * 2 + 0, none⟩) hbl2).trans (hc2 0 _ rfl)
                  have c1 : wr.cell? ⟨b0, o0 + j * 2 + 1, none⟩ = some (.int .i64 y1) := (hBr.out.cell (p := ⟨b0, o0 + j * 2 + 1, none⟩) hbl).trans (hc 1 _ rfl)
                  have d1 : wr.cell? ⟨b2, o2 + j * 2 + 1, none⟩ = some (.int .i64 z1) := (hBr.out.cell (p := ⟨b2, o2 + j * 2 + 1, none⟩) hbl2).trans (hc2 1 _ rfl)
                  have tc : (j : Int) < (c.r.length : Int) := by omega
                  have tb : (j : Int) < (b.r.length : Int) := by omega
                  clear hc hc2 hk hk2
                  have hne := fun wz => neqRate y0 y1 z0 z1 wz
                  by_cases he : ([y0, y1] : List Int) = [z0, z1]
                  · rw [decide_eq_true he] at hne
                    have hst2 := zH (take_step HG1.out HG2.out hrest.out he)
                    clear he HG1 HG2
                    go_wp2_with fail
                    go_quiet (fail)
                    go_wp2_with fail
                    go_roundw
                    case rel => exact ⟨j + 1, by go_num, by show _ ≤ _; omega, hst2.out, below_drewN hBr.out _⟩
                    case measure => simp [intOf]; omega
                  · rw [decide_eq_false he] at hne
                    have hR : Res = false := by
                      rw [← hRes.out]
                      cases hh : sameB b c with
                      | false => rfl
                      | true =>
                        rw [sameB_iff] at hh
                        have h1 := HG1.out
                        rw [hh, HG2.out] at h1
                        injection h1 with h1
                        exact absurd h1.symm he
                    subst hR
                    clear he HG1 HG2
                    go_wp2_with fail
                    go_quiet (fail)
                    go_wp2_with fail
                    go_ret
                    exact ⟨rfl, HB.out.trans ((below_drewN hBr.out _).mono HB.out.size)⟩
                · have tn : decide ((j : Int) < (b.r.length : Int)) = false := decide_eq_false (by omega)
                  have E3 : Hid (b.r = c.r) := take_all hrest.out (by omega) (by have := er.out; omega)
                  have hBr3 := hBr
                  clear hrest hBr hjl
                  go_wp2_with fail
                  go_ret
                  have hR : Res = true := by rw [← hRes.out]; simp only [sameB, E0.out, E1.out, E2.out, E3.out, ln.out, decide_true, Bool.and_true]
                  subst hR
                  exact ⟨rfl, HB.out.trans (hBr3.out.mono HB.out.size)⟩
end Go.Proofs.YtjcdpmianmgiaaaGreatDoor
namespace Go.Proofs.YtjcdpmianmgiaaaGreatDoor
open Go Go.RowKit
set_option linter.unusedVariables false
set_option linter.unusedSimpArgs false
end Go.Proofs.YtjcdpmianmgiaaaGreatDoor
namespace Go.Proofs.YtjcdpmianmgiaaaGreatDoor
open Go Go.RowKit
set_option linter.unusedVariables false
set_option linter.unusedSimpArgs false
end Go.Proofs.YtjcdpmianmgiaaaGreatDoor
namespace Go.Proofs.YtjcdpmianmgiaaaGreatDoor
section
open Go Go.RowKit Bg Mon
set_option linter.unusedVariables false
set_option linter.unusedSimpArgs false
theorem rec_I64 {k : Nat} {l : List (List Int)} {E : List Int → Bool} {r : List Int} {F : Bool} (hl : ∀ r ∈ l, ∀ x ∈ r, I64 x) (h : recOf k (l.find? E) = (r, F)) : ∀ x ∈ r, I64 x := by
  intro x hx
  cases hf : l.find? E with
  | none =>
    rw [hf] at h
    injection h with e1 e2
    rw [← e1] at hx
    rw [List.eq_of_mem_replicate hx]; unfold I64; omega
  | some q =>
    rw [hf] at h
    injection h with e1 e2
    subst e1
    exact hl _ (List.mem_of_find?_eq_some hf) x hx
end
section
open Go Go.RowKit Bg Mon
set_option linter.unusedVariables false
set_option linter.unusedSimpArgs false
end
section
open Go Go.RowKit Bg Mon
set_option linter.unusedVariables false
set_option linter.unusedSimpArgs false
end
end Go.Proofs.YtjcdpmianmgiaaaGreatDoor
