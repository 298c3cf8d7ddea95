/- Part 12 of what the claim rests on. -/
import Derived.Test.YtajogedbacpohaaGreatDoorR00
import Derived.Test.YtajogedbacpohaaGreatDoorR04
import Derived.Test.YtajogedbacpohaaGreatDoorR05
import Derived.Test.YtajogedbacpohaaGreatDoorR06
import Derived.Laws.StructEq
set_option linter.unusedVariables false
set_option linter.unusedSimpArgs false
set_option maxRecDepth 1000000
set_option maxHeartbeats 32000000
namespace Go.Proofs.YtajogedbacpohaaGreatDoor
section
open Go Go.RowKit
def sameB (b c : Bk) : Bool := decide (b.h = c.h) && (decide (b.s = c.s) && (decide (b.o = c.o) && (decide (b.r = c.r) && decide (b.n = c.n))))
theorem zz3z (b c : Bk) : sameB b c = true ↔ b = c := by
 obtain ⟨h, s, o, r, n⟩ := b;obtain ⟨h', s', o', r', n'⟩ := c;simp [sameB]
theorem zz3y {α : Type} {l m : List α} {j : Nat} {a b : α} (ha : l[j]? = some a) (hb : m[j]? = some b) (h : l.take j = m.take j) (hab : a = b) : l.take (j + 1) = m.take (j + 1) := by
 rw [List.take_add_one, List.take_add_one, h, ha, hb, hab]
theorem zz5k {α : Type} {l m : List α} {j : Nat} (h : l.take j = m.take j) (hl : l.length ≤ j) (hm : m.length ≤ j) : l = m := by
 rwa [List.take_of_length_le hl, List.take_of_length_le hm] at h
theorem neqHolder (y0 y1 y2 y3 z0 z1 z2 z3 : Int) (w : World) : (binOp .neq 78 (.agg #[y0, y1, y2, y3]) (.agg #[z0, z1, z2, z3])).run Tryz.prog w = .ok (.bool (!decide (([y0, y1, y2, y3] : List Int) = [z0, z1, z2, z3]))) w := by
 have hS : Tryz.prog.underlying 78 = some (.struct (Tryz.prog.fieldsOf 78)) := by kernel_rfl
 have hp : Tryz.prog.stoodInHeld 78 = false := by kernel_rfl
 rw [run_neq_struct, show (10000 : Nat) = 9999 + 1 from rfl, run_equalIn_struct w 9999 78 _ _ hS hp]
 simp only [Program.fieldsOf, Tryz.underlying78];go_simp;by_cases h0 : y0 = z0 <;> by_cases h1 : y1 = z1 <;> by_cases h2 : y2 = z2 <;> by_cases h3 : y3 = z3 <;> simp [h0, h1, h2, h3]
theorem neqStake (y0 y1 y2 z0 z1 z2 : Int) (w : World) : (binOp .neq 80 (.agg #[y0, y1, y2]) (.agg #[z0, z1, z2])).run Tryz.prog w = .ok (.bool (!decide (([y0, y1, y2] : List Int) = [z0, z1, z2]))) w := by
 have hS : Tryz.prog.underlying 80 = some (.struct (Tryz.prog.fieldsOf 80)) := by kernel_rfl
 have hp : Tryz.prog.stoodInHeld 80 = false := by kernel_rfl
 rw [run_neq_struct, show (10000 : Nat) = 9999 + 1 from rfl, run_equalIn_struct w 9999 80 _ _ hS hp]
 simp only [Program.fieldsOf, Tryz.underlying80];go_simp;by_cases h0 : y0 = z0 <;> by_cases h1 : y1 = z1 <;> by_cases h2 : y2 = z2 <;> simp [h0, h1, h2]
theorem neqOpen (y0 y1 y2 y3 y4 y5 z0 z1 z2 z3 z4 z5 : Int) (w : World) : (binOp .neq 82 (.agg #[y0, y1, y2, y3, y4, y5]) (.agg #[z0, z1, z2, z3, z4, z5])).run Tryz.prog w = .ok (.bool (!decide (([y0, y1, y2, y3, y4, y5] : List Int) = [z0, z1, z2, z3, z4, z5]))) w := by
 have hS : Tryz.prog.underlying 82 = some (.struct (Tryz.prog.fieldsOf 82)) := by kernel_rfl
 have hp : Tryz.prog.stoodInHeld 82 = false := by kernel_rfl
 rw [run_neq_struct, show (10000 : Nat) = 9999 + 1 from rfl, run_equalIn_struct w 9999 82 _ _ hS hp]
 simp only [Program.fieldsOf, Tryz.underlying82];go_simp;by_cases h0 : y0 = z0 <;> by_cases h1 : y1 = z1 <;> by_cases h2 : y2 = z2 <;> by_cases h3 : y3 = z3 <;> by_cases h4 : y4 = z4 <;> by_cases h5 : y5 = z5 <;> simp [h0, h1, h2, h3, h4, h5]
theorem neqRate (y0 y1 z0 z1 : Int) (w : World) : (binOp .neq 84 (.agg #[y0, y1]) (.agg #[z0, z1])).run Tryz.prog w = .ok (.bool (!decide (([y0, y1] : List Int) = [z0, z1]))) w := by
 have hS : Tryz.prog.underlying 84 = some (.struct (Tryz.prog.fieldsOf 84)) := by kernel_rfl
 have hp : Tryz.prog.stoodInHeld 84 = false := by kernel_rfl
 rw [run_neq_struct, show (10000 : Nat) = 9999 + 1 from rfl, run_equalIn_struct w 9999 84 _ _ hS hp]
 simp only [Program.fieldsOf, Tryz.underlying84];go_simp;by_cases h0 : y0 = z0 <;> by_cases h1 : y1 = z1 <;> simp [h0, h1]
theorem zt20 {p : Prop} (h : p := by
 rw [decide_eq_false he] at hne;have hR : Res = false := by
  rw [← hRes.out];cases hh : sameB b c with
  | false => rfl
  | true =>
   rw [zz3z] at hh;have h1 := HG1.out;rw [hh, HG2.out] at h1;injection h1 with h1
   exact absurd h1.symm he
 subst hR;clear he HG1 HG2;go_wp2_with fail;go_quiet (fail);go_wp2_with fail;go_ret;exact ⟨rfl, HB.out.trans ((zz0b hBr.out _).mono HB.out.size)⟩) : p := h
theorem zt58 {p : Prop} (h : p := by
 go_in;go_wp2_with fail;go_ret;exact ⟨rfl, by have := HB.out; rw [← hw1.out] at this; exact this⟩) : p := h
theorem zz8g (v v' : Value) (b c : Bk) (w : World) (hb : Hid (BkAt w v b)) (hc : Hid (BkAt w v' c)) (hs : Hid b.Small) :
  Calls Tryz.prog 12 #[v, v'] w fun e w' => e = .returned (.bool (sameB b c)) ∧ Below w.heap.size w w' := by
 obtain ⟨vh, vs, vo, vr, rfl, g1, g2, g3, g4⟩ := hb.out;obtain ⟨vh', vs', vo', vr', rfl, g1', g2', g3', g4'⟩ := hc.out;obtain ⟨A1h, c1h, rfl, _⟩ := g1;obtain ⟨A1s, c1s, rfl, _⟩ := g2;obtain ⟨A1o, c1o, rfl, _⟩ := g3;obtain ⟨A1r, c1r, rfl, _⟩ := g4;obtain ⟨A2h, c2h, rfl, _⟩ := g1';obtain ⟨A2s, c2s, rfl, _⟩ := g2';obtain ⟨A2o, c2o, rfl, _⟩ := g3';obtain ⟨A2r, c2r, rfl, _⟩ := g4';obtain ⟨w1, hw1⟩ : ∃ w1, (w.alloc (.cells (BF A1h c1h A1s c1s A1o c1o A1r c1r b b.n) 27)).alloc (.cells (BF A2h c2h A2s c2s A2o c2o A2r c2r c c.n) 27) = w1 := ⟨_, rfl⟩;have HB : Hid (Below w.heap.size w w1) := by rw [← hw1]; exact zz01 zBa (by simp) _
 have K : ZB w1 w.heap.size (BF A1h c1h A1s c1s A1o c1o A1r c1r b b.n) 27 := by rw [← hw1]; exact zz05 (zz02 _ _) _
 have K' : ZB w1 (w.heap.size + 1) (BF A2h c2h A2s c2s A2o c2o A2r c2r c c.n) 27 := by rw [← hw1]; exact zz0d _ _ _ (by simp)
 obtain ⟨_, _, _, _, hh, g1, g2, g3, g4⟩ := hb.out.call HB.out;injection hh with hh
 simp only [Array.mk.injEq, List.cons.injEq] at hh;obtain ⟨rfl, rfl, rfl, rfl, _⟩ := hh;have R0 := zH g1.rec';have R1 := zH g2.rec';have R2 := zH g3.rec';have R3 := zH g4.rec';clear g1 g2 g3 g4;obtain ⟨_, _, _, _, hh, g1, g2, g3, g4⟩ := hc.out.call HB.out;injection hh with hh
 simp only [Array.mk.injEq, List.cons.injEq] at hh;obtain ⟨rfl, rfl, rfl, rfl, _⟩ := hh;have Q0 := zH g1.rec';have Q1 := zH g2.rec';have Q2 := zH g3.rec';have Q3 := zH g4.rec';clear g1 g2 g3 g4;have hl : b.h.length ≤ 1000000 ∧ b.s.length ≤ 1000000 ∧ b.o.length ≤ 1000000 ∧ b.r.length ≤ 1000000 := by have := hs.out; unfold Bk.Small at this; omega
 obtain ⟨hlh, hls, hlo, hlr⟩ := hl;obtain ⟨Res, hRes⟩ : ∃ Res, sameB b c = Res := ⟨_, rfl⟩;rw [hRes];replace hRes := zH hRes;replace hw1 := zH hw1;clear hb hc hs;have a0 := zC K.out;have d0 := zC K'.out;rw [← hw1.out] at a0 d0;have NE : Hid ((b.h.length ≠ c.h.length ∨ b.s.length ≠ c.s.length ∨ b.o.length ≠ c.o.length ∨ b.r.length ≠ c.r.length ∨ b.n ≠ c.n) → Res = false) := (show _ → _ from fun h => by
  rw [← hRes.out];cases hh : sameB b c with
  | false => rfl
  | true => rw [zz3z] at hh; subst hh; simp at h)
 by_cases lh : b.h.length ≠ c.h.length
 ·have th : (((b.h.length : Nat) : Int) != ((c.h.length : Nat) : Int)) = true := by simp; omega
  have hR := NE.out (by first | exact .inl lh | exact .inr (.inl lh) | exact .inr (.inr (.inl lh)) | exact .inr (.inr (.inr (.inl lh))))
  subst hR;clear lh NE;exact zt58
 have th : (((b.h.length : Nat) : Int) != ((c.h.length : Nat) : Int)) = false := by simp; omega
 have eh : Hid (b.h.length = c.h.length) := (show _ = _ from by omega)
 clear lh;by_cases ls : b.s.length ≠ c.s.length
 ·have ts : (((b.s.length : Nat) : Int) != ((c.s.length : Nat) : Int)) = true := by simp; omega
  have hR := NE.out (by first | exact .inl ls | exact .inr (.inl ls) | exact .inr (.inr (.inl ls)) | exact .inr (.inr (.inr (.inl ls))))
  subst hR;clear ls NE;exact zt58
 have ts : (((b.s.length : Nat) : Int) != ((c.s.length : Nat) : Int)) = false := by simp; omega
 have es : Hid (b.s.length = c.s.length) := (show _ = _ from by omega)
 clear ls;by_cases lo : b.o.length ≠ c.o.length
 ·have to : (((b.o.length : Nat) : Int) != ((c.o.length : Nat) : Int)) = true := by simp; omega
  have hR := NE.out (by first | exact .inl lo | exact .inr (.inl lo) | exact .inr (.inr (.inl lo)) | exact .inr (.inr (.inr (.inl lo))))
  subst hR;clear lo NE;exact zt58
 have to : (((b.o.length : Nat) : Int) != ((c.o.length : Nat) : Int)) = false := by simp; omega
 have eo : Hid (b.o.length = c.o.length) := (show _ = _ from by omega)
 clear lo;by_cases lr : b.r.length ≠ c.r.length
 ·have tr : (((b.r.length : Nat) : Int) != ((c.r.length : Nat) : Int)) = true := by simp; omega
  have hR := NE.out (by first | exact .inl lr | exact .inr (.inl lr) | exact .inr (.inr (.inl lr)) | exact .inr (.inr (.inr (.inl lr))))
  subst hR;clear lr NE;exact zt58
 have tr : (((b.r.length : Nat) : Int) != ((c.r.length : Nat) : Int)) = false := by simp; omega
 have er : Hid (b.r.length = c.r.length) := (show _ = _ from by omega)
 clear lr;by_cases ln : b.n ≠ c.n
 ·have tn : (b.n != c.n) = true := by simp [ln]
  have hR := NE.out (.inr (.inr (.inr (.inr ln))));subst hR;clear ln NE;exact zt58
 have tn : (b.n != c.n) = false := by simpa using ln
 replace ln : b.n = c.n := by simpa using ln
 replace ln := zH ln;clear NE;go_in;go_wp2_with fail;rw [hw1.out];clear a0 d0 th ts to tr tn;go_loopw [5] (fun s6 wr => ∃ j : Nat, s6 = .int .i64 j ∧ Hid (j ≤ b.h.length) ∧ Hid (b.h.take j = c.h.take j) ∧ Hid (Below w1.heap.size w1 wr)) (fun s6 _ => b.h.length - (intOf s6).toNat)
 case atStart => exact ⟨0, rfl, Nat.zero_le _, rfl, Below.refl _ _⟩
 case round =>
  obtain ⟨j, rfl, hjl, hrest, hBr⟩ := hrel;replace hjl := hjl.out;have cb := zz00 (zK K hBr.out).out 0 _ rfl;have cb' := (hBr.out.cell (p := ⟨w.heap.size + 1, 0, none⟩) (Array.getElem?_eq_some_iff.1 K'.out).1).trans (zz00 K'.out 0 _ rfl);by_cases hin : j < b.h.length
  ·have tn : decide ((j : Int) < (b.h.length : Int)) = true := decide_eq_true zw
   have hge : b.h[j]? = some b.h[j] := List.getElem?_eq_getElem hin;have hge2 : c.h[j]? = some c.h[j] := List.getElem?_eq_getElem (by have := eh.out; omega)
   obtain ⟨A', c', hA', hi⟩ := R0.out;injection hA' with hA1 hA2 hA3
   subst hA1 hA3;obtain ⟨hk, b0, o0, hA0, hbl, hc⟩ := hi j _ hge;subst hA0;obtain ⟨A'', c'', hA', hi2⟩ := Q0.out;injection hA' with hA1 hA2' hA3
   subst hA1 hA3;obtain ⟨hk2, b2, o2, hA0, hbl2, hc2⟩ := hi2 j _ hge2;subst hA0;have HG1 := zH hge;have HG2 := zH hge2;clear hA2 hA2' hge hge2 hi hi2;have hjc : j < c.h.length := by have := eh.out; omega
   generalize b.h[j] = r at *;generalize c.h[j] = r2 at *;obtain ⟨y0, y1, y2, y3, rfl⟩ : ∃ y0 y1 y2 y3, r = [y0, y1, y2, y3] := by
    match r, hk with
    | [y0, y1, y2, y3], _ => exact ⟨y0, y1, y2, y3, rfl⟩
   obtain ⟨z0, z1, z2, z3, rfl⟩ : ∃ z0 z1 z2 z3, r2 = [z0, z1, z2, z3] := by
    match r2, hk2 with
    | [z0, z1, z2, z3], _ => exact ⟨z0, z1, z2, z3, rfl⟩
   have c0 : wr.cell? ⟨b0, o0 + j * 4, none⟩ = some (.int .i64 y0) := (hBr.out.cell (p := ⟨b0, o0 + j * 4 + 0, none⟩) hbl).trans (hc 0 _ rfl);have d0 : wr.cell? ⟨b2, o2 + j * 4, none⟩ = some (.int .i64 z0) := (hBr.out.cell (p := ⟨b2, o2 + j * 4 + 0, none⟩) hbl2).trans (hc2 0 _ rfl);have c1 : wr.cell? ⟨b0, o0 + j * 4 + 1, none⟩ = some (.int .i64 y1) := (hBr.out.cell (p := ⟨b0, o0 + j * 4 + 1, none⟩) hbl).trans (hc 1 _ rfl);have d1 : wr.cell? ⟨b2, o2 + j * 4 + 1, none⟩ = some (.int .i64 z1) := (hBr.out.cell (p := ⟨b2, o2 + j * 4 + 1, none⟩) hbl2).trans (hc2 1 _ rfl);have c2 : wr.cell? ⟨b0, o0 + j * 4 + 2, none⟩ = some (.int .i64 y2) := (hBr.out.cell (p := ⟨b0, o0 + j * 4 + 2, none⟩) hbl).trans (hc 2 _ rfl);have d2 : wr.cell? ⟨b2, o2 + j * 4 + 2, none⟩ = some (.int .i64 z2) := (hBr.out.cell (p := ⟨b2, o2 + j * 4 + 2, none⟩) hbl2).trans (hc2 2 _ rfl);have c3 : wr.cell? ⟨b0, o0 + j * 4 + 3, none⟩ = some (.int .i64 y3) := (hBr.out.cell (p := ⟨b0, o0 + j * 4 + 3, none⟩) hbl).trans (hc 3 _ rfl);have d3 : wr.cell? ⟨b2, o2 + j * 4 + 3, none⟩ = some (.int .i64 z3) := (hBr.out.cell (p := ⟨b2, o2 + j * 4 + 3, none⟩) hbl2).trans (hc2 3 _ rfl);have tc : (j : Int) < (c.h.length : Int) := by omega
   have tb : (j : Int) < (b.h.length : Int) := by omega
   clear hc hc2 hk hk2;have hne := fun wz => neqHolder y0 y1 y2 y3 z0 z1 z2 z3 wz
   by_cases he : ([y0, y1, y2, y3] : List Int) = [z0, z1, z2, z3]
   ·rw [decide_eq_true he] at hne
    have hst2 := zH (zz3y HG1.out HG2.out hrest.out he);clear he HG1 HG2;exact zt23
   ·exact zt20
  ·have tn : decide ((j : Int) < (b.h.length : Int)) = false := decide_eq_false zw
   have E0 : Hid (b.h = c.h) := zz5k hrest.out zw (by have := eh.out; omega)
   have hBr0 := hBr;clear hrest hBr hjl;go_wp2_with fail;go_loopw [6] (fun s6 wr => ∃ j : Nat, s6 = .int .i64 j ∧ Hid (j ≤ b.s.length) ∧ Hid (b.s.take j = c.s.take j) ∧ Hid (Below w1.heap.size w1 wr)) (fun s6 _ => b.s.length - (intOf s6).toNat)
   case atStart => exact ⟨0, rfl, Nat.zero_le _, rfl, hBr0.out⟩
   case round =>
    obtain ⟨j, rfl, hjl, hrest, hBr⟩ := hrel;replace hjl := hjl.out;have cb := zz00 (zK K hBr.out).out 1 _ rfl;have cb' := (hBr.out.cell (p := ⟨w.heap.size + 1, 1, none⟩) (Array.getElem?_eq_some_iff.1 K'.out).1).trans (zz00 K'.out 1 _ rfl);by_cases hin : j < b.s.length
    ·have tn : decide ((j : Int) < (b.s.length : Int)) = true := decide_eq_true zw
     have hge : b.s[j]? = some b.s[j] := List.getElem?_eq_getElem hin;have hge2 : c.s[j]? = some c.s[j] := List.getElem?_eq_getElem (by have := es.out; omega)
     obtain ⟨A', c', hA', hi⟩ := R1.out;injection hA' with hA1 hA2 hA3
     subst hA1 hA3;obtain ⟨hk, b0, o0, hA0, hbl, hc⟩ := hi j _ hge;subst hA0;obtain ⟨A'', c'', hA', hi2⟩ := Q1.out;injection hA' with hA1 hA2' hA3
     subst hA1 hA3;obtain ⟨hk2, b2, o2, hA0, hbl2, hc2⟩ := hi2 j _ hge2;subst hA0;have HG1 := zH hge;have HG2 := zH hge2;clear hA2 hA2' hge hge2 hi hi2;have hjc : j < c.s.length := by have := es.out; omega
     generalize b.s[j] = r at *;generalize c.s[j] = r2 at *;obtain ⟨y0, y1, y2, rfl⟩ : ∃ y0 y1 y2, r = [y0, y1, y2] := by
      match r, hk with
      | [y0, y1, y2], _ => exact ⟨y0, y1, y2, rfl⟩
     obtain ⟨z0, z1, z2, rfl⟩ : ∃ z0 z1 z2, r2 = [z0, z1, z2] := by
      match r2, hk2 with
      | [z0, z1, z2], _ => exact ⟨z0, z1, z2, rfl⟩
     have c0 : wr.cell? ⟨b0, o0 + j * 3, none⟩ = some (.int .i64 y0) := (hBr.out.cell (p := ⟨b0, o0 + j * 3 + 0, none⟩) hbl).trans (hc 0 _ rfl);have d0 : wr.cell? ⟨b2, o2 + j * 3, none⟩ = some (.int .i64 z0) := (hBr.out.cell (p := ⟨b2, o2 + j * 3 + 0, none⟩) hbl2).trans (hc2 0 _ rfl);have c1 : wr.cell? ⟨b0, o0 + j * 3 + 1, none⟩ = some (.int .i64 y1) := (hBr.out.cell (p := ⟨b0, o0 + j * 3 + 1, none⟩) hbl).trans (hc 1 _ rfl);have d1 : wr.cell? ⟨b2, o2 + j * 3 + 1, none⟩ = some (.int .i64 z1) := (hBr.out.cell (p := ⟨b2, o2 + j * 3 + 1, none⟩) hbl2).trans (hc2 1 _ rfl);have c2 : wr.cell? ⟨b0, o0 + j * 3 + 2, none⟩ = some (.int .i64 y2) := (hBr.out.cell (p := ⟨b0, o0 + j * 3 + 2, none⟩) hbl).trans (hc 2 _ rfl);have d2 : wr.cell? ⟨b2, o2 + j * 3 + 2, none⟩ = some (.int .i64 z2) := (hBr.out.cell (p := ⟨b2, o2 + j * 3 + 2, none⟩) hbl2).trans (hc2 2 _ rfl);have tc : (j : Int) < (c.s.length : Int) := by omega
     have tb : (j : Int) < (b.s.length : Int) := by omega
     clear hc hc2 hk hk2;have hne := fun wz => neqStake y0 y1 y2 z0 z1 z2 wz
     by_cases he : ([y0, y1, y2] : List Int) = [z0, z1, z2]
     ·rw [decide_eq_true he] at hne
      have hst2 := zH (zz3y HG1.out HG2.out hrest.out he);clear he HG1 HG2;exact zt23
     ·exact zt20
    ·have tn : decide ((j : Int) < (b.s.length : Int)) = false := decide_eq_false zw
     have E1 : Hid (b.s = c.s) := zz5k hrest.out zw (by have := es.out; omega)
     have hBr1 := hBr;clear hrest hBr hjl;go_wp2_with fail;go_loopw [7] (fun s6 wr => ∃ j : Nat, s6 = .int .i64 j ∧ Hid (j ≤ b.o.length) ∧ Hid (b.o.take j = c.o.take j) ∧ Hid (Below w1.heap.size w1 wr)) (fun s6 _ => b.o.length - (intOf s6).toNat)
     case atStart => exact ⟨0, rfl, Nat.zero_le _, rfl, hBr1.out⟩
     case round =>
      obtain ⟨j, rfl, hjl, hrest, hBr⟩ := hrel;replace hjl := hjl.out;have cb := zz00 (zK K hBr.out).out 2 _ rfl;have cb' := (hBr.out.cell (p := ⟨w.heap.size + 1, 2, none⟩) (Array.getElem?_eq_some_iff.1 K'.out).1).trans (zz00 K'.out 2 _ rfl);by_cases hin : j < b.o.length
      ·have tn : decide ((j : Int) < (b.o.length : Int)) = true := decide_eq_true zw
       have hge : b.o[j]? = some b.o[j] := List.getElem?_eq_getElem hin;have hge2 : c.o[j]? = some c.o[j] := List.getElem?_eq_getElem (by have := eo.out; omega)
       obtain ⟨A', c', hA', hi⟩ := R2.out;injection hA' with hA1 hA2 hA3
       subst hA1 hA3;obtain ⟨hk, b0, o0, hA0, hbl, hc⟩ := hi j _ hge;subst hA0;obtain ⟨A'', c'', hA', hi2⟩ := Q2.out;injection hA' with hA1 hA2' hA3
       subst hA1 hA3;obtain ⟨hk2, b2, o2, hA0, hbl2, hc2⟩ := hi2 j _ hge2;subst hA0;have HG1 := zH hge;have HG2 := zH hge2;clear hA2 hA2' hge hge2 hi hi2;have hjc : j < c.o.length := by have := eo.out; omega
       generalize b.o[j] = r at *;generalize c.o[j] = r2 at *;obtain ⟨y0, y1, y2, y3, y4, y5, rfl⟩ : ∃ y0 y1 y2 y3 y4 y5, r = [y0, y1, y2, y3, y4, y5] := by
        match r, hk with
        | [y0, y1, y2, y3, y4, y5], _ => exact ⟨y0, y1, y2, y3, y4, y5, rfl⟩
       obtain ⟨z0, z1, z2, z3, z4, z5, rfl⟩ : ∃ z0 z1 z2 z3 z4 z5, r2 = [z0, z1, z2, z3, z4, z5] := by
        match r2, hk2 with
        | [z0, z1, z2, z3, z4, z5], _ => exact ⟨z0, z1, z2, z3, z4, z5, rfl⟩
       have c0 : wr.cell? ⟨b0, o0 + j * 6, none⟩ = some (.int .i64 y0) := (hBr.out.cell (p := ⟨b0, o0 + j * 6 + 0, none⟩) hbl).trans (hc 0 _ rfl);have d0 : wr.cell? ⟨b2, o2 + j * 6, none⟩ = some (.int .i64 z0) := (hBr.out.cell (p := ⟨b2, o2 + j * 6 + 0, none⟩) hbl2).trans (hc2 0 _ rfl);have c1 : wr.cell? ⟨b0, o0 + j * 6 + 1, none⟩ = some (.int .i64 y1) := (hBr.out.cell (p := ⟨b0, o0 + j * 6 + 1, none⟩) hbl).trans (hc 1 _ rfl);have d1 : wr.cell? ⟨b2, o2 + j * 6 + 1, none⟩ = some (.int .i64 z1) := (hBr.out.cell (p := ⟨b2, o2 + j * 6 + 1, none⟩) hbl2).trans (hc2 1 _ rfl);have c2 : wr.cell? ⟨b0, o0 + j * 6 + 2, none⟩ = some (.int .i64 y2) := (hBr.out.cell (p := ⟨b0, o0 + j * 6 + 2, none⟩) hbl).trans (hc 2 _ rfl);have d2 : wr.cell? ⟨b2, o2 + j * 6 + 2, none⟩ = some (.int .i64 z2) := (hBr.out.cell (p := ⟨b2, o2 + j * 6 + 2, none⟩) hbl2).trans (hc2 2 _ rfl);have c3 : wr.cell? ⟨b0, o0 + j * 6 + 3, none⟩ = some (.int .i64 y3) := (hBr.out.cell (p := ⟨b0, o0 + j * 6 + 3, none⟩) hbl).trans (hc 3 _ rfl);have d3 : wr.cell? ⟨b2, o2 + j * 6 + 3, none⟩ = some (.int .i64 z3) := (hBr.out.cell (p := ⟨b2, o2 + j * 6 + 3, none⟩) hbl2).trans (hc2 3 _ rfl);have c4 : wr.cell? ⟨b0, o0 + j * 6 + 4, none⟩ = some (.int .i64 y4) := (hBr.out.cell (p := ⟨b0, o0 + j * 6 + 4, none⟩) hbl).trans (hc 4 _ rfl);have d4 : wr.cell? ⟨b2, o2 + j * 6 + 4, none⟩ = some (.int .i64 z4) := (hBr.out.cell (p := ⟨b2, o2 + j * 6 + 4, none⟩) hbl2).trans (hc2 4 _ rfl);have c5 : wr.cell? ⟨b0, o0 + j * 6 + 5, none⟩ = some (.int .i64 y5) := (hBr.out.cell (p := ⟨b0, o0 + j * 6 + 5, none⟩) hbl).trans (hc 5 _ rfl);have d5 : wr.cell? ⟨b2, o2 + j * 6 + 5, none⟩ = some (.int .i64 z5) := (hBr.out.cell (p := ⟨b2, o2 + j * 6 + 5, none⟩) hbl2).trans (hc2 5 _ rfl);have tc : (j : Int) < (c.o.length : Int) := by omega
       have tb : (j : Int) < (b.o.length : Int) := by omega
       clear hc hc2 hk hk2;have hne := fun wz => neqOpen y0 y1 y2 y3 y4 y5 z0 z1 z2 z3 z4 z5 wz
       by_cases he : ([y0, y1, y2, y3, y4, y5] : List Int) = [z0, z1, z2, z3, z4, z5]
       ·rw [decide_eq_true he] at hne
        have hst2 := zH (zz3y HG1.out HG2.out hrest.out he);clear he HG1 HG2;exact zt23
       ·exact zt20
      ·have tn : decide ((j : Int) < (b.o.length : Int)) = false := decide_eq_false zw
       have E2 : Hid (b.o = c.o) := zz5k hrest.out zw (by have := eo.out; omega)
       have hBr2 := hBr;clear hrest hBr hjl;go_wp2_with fail;go_loopw [8] (fun s6 wr => ∃ j : Nat, s6 = .int .i64 j ∧ Hid (j ≤ b.r.length) ∧ Hid (b.r.take j = c.r.take j) ∧ Hid (Below w1.heap.size w1 wr)) (fun s6 _ => b.r.length - (intOf s6).toNat)
       case atStart => exact ⟨0, rfl, Nat.zero_le _, rfl, hBr2.out⟩
       case round =>
        obtain ⟨j, rfl, hjl, hrest, hBr⟩ := hrel;replace hjl := hjl.out;have cb := zz00 (zK K hBr.out).out 3 _ rfl;have cb' := (hBr.out.cell (p := ⟨w.heap.size + 1, 3, none⟩) (Array.getElem?_eq_some_iff.1 K'.out).1).trans (zz00 K'.out 3 _ rfl);by_cases hin : j < b.r.length
        ·have tn : decide ((j : Int) < (b.r.length : Int)) = true := decide_eq_true zw
         have hge : b.r[j]? = some b.r[j] := List.getElem?_eq_getElem hin;have hge2 : c.r[j]? = some c.r[j] := List.getElem?_eq_getElem (by have := er.out; omega)
         obtain ⟨A', c', hA', hi⟩ := R3.out;injection hA' with hA1 hA2 hA3
         subst hA1 hA3;obtain ⟨hk, b0, o0, hA0, hbl, hc⟩ := hi j _ hge;subst hA0;obtain ⟨A'', c'', hA', hi2⟩ := Q3.out;injection hA' with hA1 hA2' hA3
         subst hA1 hA3;obtain ⟨hk2, b2, o2, hA0, hbl2, hc2⟩ := hi2 j _ hge2;subst hA0;have HG1 := zH hge;have HG2 := zH hge2;clear hA2 hA2' hge hge2 hi hi2;have hjc : j < c.r.length := by have := er.out; omega
         generalize b.r[j] = r at *;generalize c.r[j] = r2 at *;obtain ⟨y0, y1, rfl⟩ : ∃ y0 y1, r = [y0, y1] := by
          match r, hk with
          | [y0, y1], _ => exact ⟨y0, y1, rfl⟩
         obtain ⟨z0, z1, rfl⟩ : ∃ z0 z1, r2 = [z0, z1] := by
          match r2, hk2 with
          | [z0, z1], _ => exact ⟨z0, z1, rfl⟩
         have c0 : wr.cell? ⟨b0, o0 + j * 2, none⟩ = some (.int .i64 y0) := (hBr.out.cell (p := ⟨b0, o0 + j * 2 + 0, none⟩) hbl).trans (hc 0 _ rfl);have d0 : wr.cell? ⟨b2, o2 + j * 2, none⟩ = some (.int .i64 z0) := (hBr.out.cell (p := ⟨b2, o2 + j * 2 + 0, none⟩) hbl2).trans (hc2 0 _ rfl);have c1 : wr.cell? ⟨b0, o0 + j * 2 + 1, none⟩ = some (.int .i64 y1) := (hBr.out.cell (p := ⟨b0, o0 + j * 2 + 1, none⟩) hbl).trans (hc 1 _ rfl);have d1 : wr.cell? ⟨b2, o2 + j * 2 + 1, none⟩ = some (.int .i64 z1) := (hBr.out.cell (p := ⟨b2, o2 + j * 2 + 1, none⟩) hbl2).trans (hc2 1 _ rfl);have tc : (j : Int) < (c.r.length : Int) := by omega
         have tb : (j : Int) < (b.r.length : Int) := by omega
         clear hc hc2 hk hk2;have hne := fun wz => neqRate y0 y1 z0 z1 wz
         by_cases he : ([y0, y1] : List Int) = [z0, z1]
         ·rw [decide_eq_true he] at hne
          have hst2 := zH (zz3y HG1.out HG2.out hrest.out he);clear he HG1 HG2;exact zt23
         ·exact zt20
        ·have tn : decide ((j : Int) < (b.r.length : Int)) = false := decide_eq_false zw
         have E3 : Hid (b.r = c.r) := zz5k hrest.out zw (by have := er.out; omega)
         have hBr3 := hBr;clear hrest hBr hjl;go_wp2_with fail;go_ret;have hR : Res = true := by rw [← hRes.out]; simp only [sameB, E0.out, E1.out, E2.out, E3.out, ln.out, decide_true, Bool.and_true]
         subst hR;exact ⟨rfl, HB.out.trans (hBr3.out.mono HB.out.size)⟩

theorem zzau (v : Value) (b : Bk) (acc sym : Int) (w : World) (hb : Hid (BkAt w v b)) (hs : Hid b.Small) :
  Calls Tryz.prog 51 #[v, .int .i64 acc, .int .i64 sym] w fun e w' => e = .returned (.bool (thereB b acc sym)) ∧ Below w.heap.size w w' := by
 obtain ⟨vh, vs, vo, vr, rfl, r1, r2, r3, r4⟩ := hb.out;have lh : ∀ r ∈ b.h, r.length = 4 := by obtain ⟨_, _, _, h, _⟩ := r1; exact h
 have lr : ∀ r ∈ b.r, r.length = 2 := by obtain ⟨_, _, _, h, _⟩ := r4; exact h
 obtain ⟨rh, H0, hl1, hx1⟩ := zz13 lh (isId acc);obtain ⟨rr, R0, hl3, hx3⟩ := zz13 lr (isId sym)
 match rh, rr, hl1, hl3, hx1, hx3 with
 | [h0, h1, h2, h3], [p0, p1], _, _, hx1, hx3 =>
 have hres : thereB b acc sym = (H0 && R0) := by unfold thereB; rw [zz0n hx1, zz0n hx3]
 rw [hres];have HB0 : Hid (Below w.heap.size w (w.alloc (.cells #[vh, vs, vo, vr, b.n] 27))) := zBa;have K0 : Hid ((w.alloc (.cells #[vh, vs, vo, vr, b.n] 27)).heap[w.heap.size]? = some (.cells #[vh, vs, vo, vr, b.n] 27 (0, 0))) := zz02 _ _;have B0 : Hid (BkAt (w.alloc (.cells #[vh, vs, vo, vr, b.n] 27)) (.agg #[vh, vs, vo, vr, b.n]) b) := hb.out.call HB0.out;have HX1 := zH hx1;have HX3 := zH hx3;have F1 : b.h.length ≤ 1000000 := by have := hs.out; unfold Bk.Small at this; omega
 have F3 : b.r.length ≤ 1000000 := by have := hs.out; unfold Bk.Small at this; omega
 clear hb r1 r2 r3 r4 lh lr hx1 hx3 hres hs;go_in;go_wp2_with fail;(with_reducible refine (zz1g _ b acc h0 h1 h2 h3 H0 _ B0 F1 HX1).mono ?_);rintro e w1 ⟨rfl, hb⟩;have K1 := zK K0 hb;have hb' := hb.trans ((zz01 (Below.refl w1.heap.size w1) (Nat.le_refl _) (.cells #[h0, h1, h2, h3] 78)).mono hb.size);have B1 := zH (B0.out.call hb');have HB1 := zH (HB0.out.trans (hb'.mono HB0.out.size));clear hb hb';have a0 := zC K1.out;have hgl : w.heap.size < w1.heap.size := zL K1.out;go_wp2_with fail;(with_reducible refine (zz40 _ b sym p0 p1 R0 _ B1 F3 HX3).mono ?_);rintro e w2 ⟨rfl, hb⟩;have HB2 := zB HB1 hb;clear hb a0 hgl;exact zt103
theorem zt47 {p : Prop} (h : p := by
 have hR : Res = false := by rw [← hRes.out, decide_eq_true h]; simp
 subst hR;clear hRes h;go_wp2_with fail;go_ret;exact ⟨rfl, HB2.out⟩) : p := h
theorem zt55 {p : Prop} (h : p := by
 clear h hbadE;have hR : Res = false := by rw [← hRes2.out]; simp [E0.out, E1.out, E2.out, hrest.out, hst.out, hbad]
 subst hR;clear hst hbad hRes2 hrest;go_wp2_with fail;go_ret;exact ⟨rfl, HB2.out.trans (HBX.out.mono HB2.out.size)⟩) : p := h
theorem zt70 {p : Prop} (h : p := by
 have hbad : badH [y0, y1, y2, y3] = true := by show (decide (y2 < 0) || decide (y3 < 0)) = _; simp [h]
 clear h;have hR : Res = false := by rw [← hRes2.out]; simp [hrest.out, hst.out, hbad]
 subst hR;clear hst hbad hRes2 hrest;go_wp2_with fail;go_ret;exact ⟨rfl, HB2.out.trans (hBr.out.mono HB2.out.size)⟩) : p := h
theorem zt73 {p : Prop} (h : p := by
 go_wp2_with fail;go_roundw
 case rel => exact ⟨j + 1, by go_num, by show _ ≤ _; omega, hst2.out, HBq.out⟩
 case measure => simp [intOf]; omega) : p := h
theorem zt89 {p : Prop} (h : p := by
 go_wp2_with fail;(with_reducible refine QT.out.mono ?_);rintro e wq ⟨rfl, hb⟩;have HBq := zB HBX hb;clear hb;go_wp2_with fail;go_ret;exact ⟨rfl, HB2.out.trans (HBq.out.mono HB2.out.size)⟩) : p := h
theorem zt91 {p : Prop} (h : p := by
 refine wpQuiet_nil ?_;rintro wq ⟨y, rfl⟩;have HBq := zH (hBr.out.trans (y.below.mono hBr.out.size));go_wp2_with fail;go_ret;exact ⟨rfl, HB2.out.trans (HBq.out.mono HB2.out.size)⟩) : p := h
theorem zt95 {p : Prop} (h : p := by
 clear hst hbad;go_wp2_with fail;go_roundw
 case rel => exact ⟨j + 1, by go_num, by show _ ≤ _; omega, hst2.out, hBr.out⟩
 case measure => simp [intOf]; omega) : p := h
theorem zzax (v : Value) (b : Bk) (w : World) (hb : Hid (BkAt w v b)) (hs : Hid b.Small) :
  Calls Tryz.prog 17 #[v] w fun e w' => e = .returned (.bool b.mayB) ∧ Below w.heap.size w w' := by
 obtain ⟨vh, vs, vo, vr, rfl, g1, g2, g3, g4⟩ := hb.out;obtain ⟨Ah, ch, rfl, -⟩ := g1;obtain ⟨As, cs, rfl, -⟩ := g2;obtain ⟨Ao, co, rfl, -⟩ := g3;obtain ⟨Ar, cr, rfl, -⟩ := g4;obtain ⟨w1, hw1⟩ : ∃ w1, w.alloc (.cells (BF Ah ch As cs Ao co Ar cr b b.n) 27) = w1 := ⟨_, rfl⟩;have HB : Hid (Below w.heap.size w w1) := by rw [← hw1]; exact zBa
 have K : ZB w1 w.heap.size (BF Ah ch As cs Ao co Ar cr b b.n) 27 := by rw [← hw1]; exact zz02 w _
 have BA : Hid (BkAt w1 (.agg (BF Ah ch As cs Ao co Ar cr b b.n)) b) := hb.out.call HB.out;have hl : b.h.length ≤ 1000000 ∧ b.s.length ≤ 1000000 ∧ b.o.length ≤ 1000000 ∧ b.r.length ≤ 1000000 := by have := hs.out; unfold Bk.Small at this; omega
 obtain ⟨hlh, hls, hlo, hlr⟩ := hl;obtain ⟨Res, hRes⟩ : ∃ Res, b.mayB = Res := ⟨_, rfl⟩;rw [hRes];unfold Bk.mayB Bk.countB Bk.listsB at hRes;replace hRes := zH hRes;replace hw1 := zH hw1;have qr := zH (fun u wz h => rRise_any u b wz h hs)
 have qt := zH (fun u acc sym wz h => zzau u b acc sym wz h hs)
 obtain ⟨RB, hRB⟩ : ∃ RB, b.riseB = RB := ⟨_, rfl⟩;rw [hRB] at hRes qr;clear hb hs hRB;go_in;go_wp2_with fail;rw [hw1.out];(with_reducible refine (qr.out _ _ BA).mono ?_);rintro e w2 ⟨rfl, hb⟩;have K2 := zK K hb;have BA2 := zH (BA.out.call hb);have HB2 := zB HB hb;clear hb qr;have a0 := zC K2.out;cases RB with
 | false =>
  have hR : Res = false := by rw [← hRes.out]; simp
  subst hR;clear hRes;go_wp2_with fail;go_ret;exact ⟨rfl, HB2.out⟩
 | true =>
 by_cases h : 32 < b.h.length
 ·have t : decide ((32 : Int) < (b.h.length : Int)) = true := decide_eq_true zw
  exact zt47
 have t0 : decide ((32 : Int) < (b.h.length : Int)) = false := decide_eq_false zw;have h0 := zH (decide_eq_false h);clear h;by_cases h : 64 < b.o.length
 ·have t : decide ((64 : Int) < (b.o.length : Int)) = true := decide_eq_true zw
  exact zt47
 have t1 : decide ((64 : Int) < (b.o.length : Int)) = false := decide_eq_false zw;have h1 := zH (decide_eq_false h);clear h;by_cases h : 32 < b.r.length
 ·have t : decide ((32 : Int) < (b.r.length : Int)) = true := decide_eq_true zw
  exact zt47
 have t2 : decide ((32 : Int) < (b.r.length : Int)) = false := decide_eq_false zw;have h2 := zH (decide_eq_false h);clear h;by_cases h : b.n < 0
 ·have t : decide (b.n < 0) = true := decide_eq_true zw
  exact zt47
 have t3 : decide (b.n < 0) = false := decide_eq_false zw;have h3 := zH (decide_eq_false h);clear h;by_cases h : 1099511627776 < b.n
 ·have t : decide (1099511627776 < b.n) = true := decide_eq_true zw
  exact zt47
 have t4 : decide (1099511627776 < b.n) = false := decide_eq_false zw;have h4 := zH (decide_eq_false h);clear h;have hRes2 : Hid ((!b.h.any badH && (!b.r.any badR && (!b.s.any (badS b) && !b.o.any (badO b)))) = Res) := (by
  have h := hRes.out;rw [h0.out, h1.out, h2.out, h3.out, h4.out] at h;show _ = _;simpa using h)
 clear hRes h0 h1 h2 h3 h4;obtain ⟨_, _, _, _, hh, g1, g2, g3, g4⟩ := BA2.out;injection hh with hh
 simp only [Array.mk.injEq, List.cons.injEq] at hh;obtain ⟨rfl, rfl, rfl, rfl, _⟩ := hh;have R0 := zH g1.rec';have R1 := zH g2.rec';have R2 := zH g3.rec';have R3 := zH g4.rec';clear g1 g2 g3 g4;go_wp2_with fail;clear t0 t1 t2 t3 t4 a0;go_loopw [3] (fun s6 wr => ∃ j : Nat, s6 = .int .i64 (j : Int) ∧ Hid (j ≤ b.h.length) ∧ Hid (b.h.any (badH) = (b.h.drop j).any (badH)) ∧ Hid (Below w2.heap.size w2 wr)) (fun s6 _ => b.h.length - (intOf s6).toNat)
 case atStart => exact ⟨0, rfl, Nat.zero_le _, rfl, Below.refl _ _⟩
 case round =>
  obtain ⟨j, rfl, hjl, hrest, hBr⟩ := hrel;replace hjl := hjl.out;have lK := Nat.lt_of_lt_of_le (zL K2.out) hBr.out.size;have cb := zz00 (zK K2 hBr.out).out 0 _ rfl;by_cases hin : j < b.h.length
  ·have tn : decide ((j : Int) < (b.h.length : Int)) = true := decide_eq_true zw
   have hge : b.h[j]? = some b.h[j] := List.getElem?_eq_getElem hin;obtain ⟨A', c', hA', hi⟩ := R0.out;injection hA' with hA1 hA2 hA3
   subst hA1 hA3;obtain ⟨hk, b0, o0, hA0, hbl, hc⟩ := hi j _ hge;subst hA0;have hst : Hid ((b.h.drop j).any (badH) = (badH b.h[j] || (b.h.drop (j + 1)).any (badH))) := (show _ = _ from by rw [List.drop_eq_getElem_cons hin, List.any_cons])
   clear hge hA2 hi;generalize b.h[j] = r at *;obtain ⟨y0, y1, y2, y3, rfl⟩ : ∃ y0 y1 y2 y3, r = [y0, y1, y2, y3] := by
    match r, hk with
    | [y0, y1, y2, y3], _ => exact ⟨y0, y1, y2, y3, rfl⟩
   have hb3 : (j : Int) < (b.h.length : Int) := by omega
   have hb4 : (0 : Int) ≤ (j : Int) := by omega
   have hbl3 : b0 < wr.heap.size := Nat.lt_of_lt_of_le hbl hBr.out.size;obtain ⟨c0, c1, c2, c3⟩ := zR4 hBr.out hbl hc;clear hc hk;by_cases h : y2 < 0
   ·have t : decide (y2 < 0) = true := decide_eq_true h
    exact zt70
   have uy2 : decide (y2 < 0) = false := decide_eq_false h;have huy2 : ¬ (y2 < 0) := h;clear h;by_cases h : y3 < 0
   ·have t : decide (y3 < 0) = true := decide_eq_true h
    exact zt70
   have uy3 : decide (y3 < 0) = false := decide_eq_false h;have huy3 : ¬ (y3 < 0) := h;clear h;have hbad : badH [y0, y1, y2, y3] = false := by show (decide (y2 < 0) || decide (y3 < 0)) = _; simp [huy2, huy3]
   clear huy2 huy3;have hst2 : Hid (b.h.any (badH) = (b.h.drop (j + 1)).any (badH)) := (show _ = _ from by rw [hrest.out, hst.out, hbad, Bool.false_or])
   exact zt95
  ·have tn : decide ((j : Int) < (b.h.length : Int)) = false := decide_eq_false zw
   have E0 : Hid (b.h.any (badH) = false) := (show _ = _ from by rw [hrest.out, List.drop_eq_nil_of_le zw]; rfl)
   have hBr0 := hBr;clear hrest hBr hjl;go_wp2_with fail;go_loopw [4] (fun s6 wr => ∃ j : Nat, s6 = .int .i64 (j : Int) ∧ Hid (j ≤ b.r.length) ∧ Hid (b.r.any (badR) = (b.r.drop j).any (badR)) ∧ Hid (Below w2.heap.size w2 wr)) (fun s6 _ => b.r.length - (intOf s6).toNat)
   case atStart => exact ⟨0, rfl, Nat.zero_le _, rfl, hBr0.out⟩
   case round =>
    obtain ⟨j, rfl, hjl, hrest, hBr⟩ := hrel;replace hjl := hjl.out;have lK := Nat.lt_of_lt_of_le (zL K2.out) hBr.out.size;have cb := zz00 (zK K2 hBr.out).out 3 _ rfl;by_cases hin : j < b.r.length
    ·have tn : decide ((j : Int) < (b.r.length : Int)) = true := decide_eq_true zw
     have hge : b.r[j]? = some b.r[j] := List.getElem?_eq_getElem hin;obtain ⟨A', c', hA', hi⟩ := R3.out;injection hA' with hA1 hA2 hA3
     subst hA1 hA3;obtain ⟨hk, b0, o0, hA0, hbl, hc⟩ := hi j _ hge;subst hA0;have hst : Hid ((b.r.drop j).any (badR) = (badR b.r[j] || (b.r.drop (j + 1)).any (badR))) := (show _ = _ from by rw [List.drop_eq_getElem_cons hin, List.any_cons])
     clear hge hA2 hi;generalize b.r[j] = r at *;obtain ⟨y0, y1, rfl⟩ : ∃ y0 y1, r = [y0, y1] := by
      match r, hk with
      | [y0, y1], _ => exact ⟨y0, y1, rfl⟩
     have hb3 : (j : Int) < (b.r.length : Int) := by omega
     have hb4 : (0 : Int) ≤ (j : Int) := by omega
     have hbl3 : b0 < wr.heap.size := Nat.lt_of_lt_of_le hbl hBr.out.size;obtain ⟨c0, c1⟩ := zR2 hBr.out hbl hc;clear hc hk;by_cases h : y1 < 1
     ·have t : decide (y1 < 1) = true := decide_eq_true h
      have hbad : badR [y0, y1] = true := by show (decide (y1 < 1)) = _; simp [h]
      clear h;have hR : Res = false := by rw [← hRes2.out]; simp [E0.out, hrest.out, hst.out, hbad]
      subst hR;clear hst hbad hRes2 hrest;go_wp2_with fail;go_ret;exact ⟨rfl, HB2.out.trans (hBr.out.mono HB2.out.size)⟩
     have uy1 : decide (y1 < 1) = false := decide_eq_false h;have huy1 : ¬ (y1 < 1) := h;clear h;have hbad : badR [y0, y1] = false := by show (decide (y1 < 1)) = _; simp [huy1]
     clear huy1;have hst2 : Hid (b.r.any (badR) = (b.r.drop (j + 1)).any (badR)) := (show _ = _ from by rw [hrest.out, hst.out, hbad, Bool.false_or])
     exact zt95
    ·have tn : decide ((j : Int) < (b.r.length : Int)) = false := decide_eq_false zw
     have E1 : Hid (b.r.any (badR) = false) := (show _ = _ from by rw [hrest.out, List.drop_eq_nil_of_le zw]; rfl)
     have hBr1 := hBr;clear hrest hBr hjl;go_wp2_with fail;go_loopw [5] (fun s6 wr => ∃ j : Nat, s6 = .int .i64 (j : Int) ∧ Hid (j ≤ b.s.length) ∧ Hid (b.s.any (badS b) = (b.s.drop j).any (badS b)) ∧ Hid (Below w2.heap.size w2 wr)) (fun s6 _ => b.s.length - (intOf s6).toNat)
     case atStart => exact ⟨0, rfl, Nat.zero_le _, rfl, hBr1.out⟩
     case round =>
      obtain ⟨j, rfl, hjl, hrest, hBr⟩ := hrel;replace hjl := hjl.out;have lK := Nat.lt_of_lt_of_le (zL K2.out) hBr.out.size;have cb := zz00 (zK K2 hBr.out).out 1 _ rfl;by_cases hin : j < b.s.length
      ·have tn : decide ((j : Int) < (b.s.length : Int)) = true := decide_eq_true zw
       have hge : b.s[j]? = some b.s[j] := List.getElem?_eq_getElem hin;obtain ⟨A', c', hA', hi⟩ := R1.out;injection hA' with hA1 hA2 hA3
       subst hA1 hA3;obtain ⟨hk, b0, o0, hA0, hbl, hc⟩ := hi j _ hge;subst hA0;have hst : Hid ((b.s.drop j).any (badS b) = (badS b b.s[j] || (b.s.drop (j + 1)).any (badS b))) := (show _ = _ from by rw [List.drop_eq_getElem_cons hin, List.any_cons])
       clear hge hA2 hi;generalize b.s[j] = r at *;obtain ⟨y0, y1, y2, rfl⟩ : ∃ y0 y1 y2, r = [y0, y1, y2] := by
        match r, hk with
        | [y0, y1, y2], _ => exact ⟨y0, y1, y2, rfl⟩
       have hb3 : (j : Int) < (b.s.length : Int) := by omega
       have hb4 : (0 : Int) ≤ (j : Int) := by omega
       have hbl3 : b0 < wr.heap.size := Nat.lt_of_lt_of_le hbl hBr.out.size;obtain ⟨c0, c1, c2⟩ := zR3 hBr.out hbl hc;clear hc hk;have BAr := zH (BA2.out.call hBr.out);have a0 := zC (zK K2 hBr.out).out;have hbadE : badS b [y0, y1, y2] = (decide (y2 = 0) || !thereB b y0 y1) := rfl
       by_cases h : y2 = 0
       ·have t : (y2 == 0) = true := by simp [h]
        have hbad : badS b [y0, y1, y2] = true := by rw [hbadE, decide_eq_true h]; rfl
        clear h hbadE;have hR : Res = false := by rw [← hRes2.out]; simp [E0.out, E1.out, hrest.out, hst.out, hbad]
        subst hR;clear hst hbad hRes2 hrest;go_wp2_with fail;refine zz0o zk zk ?_
        repeat (go_big_quiet_step (fail))
        exact zt91
       have t : (y2 == 0) = false := by simp [h]
       rw [decide_eq_false h, Bool.false_or] at hbadE;clear h;have QT : Hid (∀ x : ExtOf wr, Calls _ _ _ x.w _) := fun x : ExtOf wr => qt.out _ y0 y1 x.w (BAr.out.call x.below)
       cases hth : thereB b y0 y1 with
       | false =>
        rw [hth] at QT;have hbad : badS b [y0, y1, y2] = true := by rw [hbadE, hth]; rfl
        clear hth hbadE;have hR : Res = false := by rw [← hRes2.out]; simp [E0.out, E1.out, hrest.out, hst.out, hbad]
        subst hR;clear hst hbad hRes2 hrest;go_wp2_with fail;refine zz0o zk zk ?_
        repeat (go_big_quiet_step (with_reducible exact zz1q (QT.out _)))
        exact zt91
       | true =>
        rw [hth] at QT;have hbad : badS b [y0, y1, y2] = false := by rw [hbadE, hth]; rfl
        clear hth hbadE;have hst2 : Hid (b.s.any (badS b) = (b.s.drop (j + 1)).any (badS b)) := (show _ = _ from by rw [hrest.out, hst.out, hbad, Bool.false_or])
        clear hst hbad;go_wp2_with fail;refine zz0o zk zk ?_
        repeat (go_big_quiet_step (with_reducible exact zz1q (QT.out _)))
        refine wpQuiet_nil ?_;rintro wq ⟨y, rfl⟩;have HBq := zH (hBr.out.trans (y.below.mono hBr.out.size));exact zt73
      ·have tn : decide ((j : Int) < (b.s.length : Int)) = false := decide_eq_false zw
       have E2 : Hid (b.s.any (badS b) = false) := (show _ = _ from by rw [hrest.out, List.drop_eq_nil_of_le zw]; rfl)
       have hBr2 := hBr;clear hrest hBr hjl;go_wp2_with fail;go_loopw [6] (fun s6 wr => ∃ j : Nat, s6 = .int .i64 (j : Int) ∧ Hid (j ≤ b.o.length) ∧ Hid (b.o.any (badO b) = (b.o.drop j).any (badO b)) ∧ Hid (Below w2.heap.size w2 wr)) (fun s6 _ => b.o.length - (intOf s6).toNat)
       case atStart => exact ⟨0, rfl, Nat.zero_le _, rfl, hBr2.out⟩
       case round =>
        obtain ⟨j, rfl, hjl, hrest, hBr⟩ := hrel;replace hjl := hjl.out;have lK := Nat.lt_of_lt_of_le (zL K2.out) hBr.out.size;have cb := zz00 (zK K2 hBr.out).out 2 _ rfl;by_cases hin : j < b.o.length
        ·have tn : decide ((j : Int) < (b.o.length : Int)) = true := decide_eq_true zw
         have hge : b.o[j]? = some b.o[j] := List.getElem?_eq_getElem hin;obtain ⟨A', c', hA', hi⟩ := R2.out;injection hA' with hA1 hA2 hA3
         subst hA1 hA3;obtain ⟨hk, b0, o0, hA0, hbl, hc⟩ := hi j _ hge;subst hA0;have hst : Hid ((b.o.drop j).any (badO b) = (badO b b.o[j] || (b.o.drop (j + 1)).any (badO b))) := (show _ = _ from by rw [List.drop_eq_getElem_cons hin, List.any_cons])
         clear hge hA2 hi;generalize b.o[j] = r at *;obtain ⟨y0, y1, y2, y3, y4, y5, rfl⟩ : ∃ y0 y1 y2 y3 y4 y5, r = [y0, y1, y2, y3, y4, y5] := by
          match r, hk with
          | [y0, y1, y2, y3, y4, y5], _ => exact ⟨y0, y1, y2, y3, y4, y5, rfl⟩
         have hb3 : (j : Int) < (b.o.length : Int) := by omega
         have hb4 : (0 : Int) ≤ (j : Int) := by omega
         have hbl3 : b0 < wr.heap.size := Nat.lt_of_lt_of_le hbl hBr.out.size;obtain ⟨c0, c1, c2, c3, c4, c5⟩ := zR6 hBr.out hbl hc;clear hc hk;have BAr := zH (BA2.out.call hBr.out);have a0 := zC (zK K2 hBr.out).out;have hbx : Below w2.heap.size w2 (wr.alloc (.cells #[y0, y1, y2, y3, y4, y5] 82)) := zz01 hBr.out hBr.out.size _;have HBX := zH hbx;have BAx := zH (BA2.out.call hbx);clear hbx;have hbadE : badO b [y0, y1, y2, y3, y4, y5] = (decide (y4 < 1) || (decide (y5 < 1) || (decide (y3 < 0) || (decide (1 < y3) || !thereB b y1 y2)))) := rfl
         by_cases h : y4 < 1
         ·have t : decide (y4 < 1) = true := decide_eq_true h
          have hbad : badO b [y0, y1, y2, y3, y4, y5] = true := by rw [hbadE]; simp [h]
          exact zt55
         have uy4 : decide (y4 < 1) = false := decide_eq_false h;rw [decide_eq_false h, Bool.false_or] at hbadE;clear h;by_cases h : y5 < 1
         ·have t : decide (y5 < 1) = true := decide_eq_true h
          have hbad : badO b [y0, y1, y2, y3, y4, y5] = true := by rw [hbadE]; simp [h]
          exact zt55
         have uy5 : decide (y5 < 1) = false := decide_eq_false h;rw [decide_eq_false h, Bool.false_or] at hbadE;clear h;by_cases h : y3 ≠ 0 ∧ y3 ≠ 1
         ·have ta : (y3 != 0) = true := by simp [h.1]
          have tb : (y3 != 1) = true := by simp [h.2]
          have hbad : badO b [y0, y1, y2, y3, y4, y5] = true := by
           rw [hbadE];by_cases h3 : y3 < 0
           ·simp [h3]
           ·have h4 : 1 < y3 := by omega
            simp [h4]
          exact zt55
         have hbadE2 : badO b [y0, y1, y2, y3, y4, y5] = !thereB b y1 y2 := by
          rw [hbadE, decide_eq_false (show ¬ y3 < 0 by omega), decide_eq_false (show ¬ 1 < y3 by omega)]
          rfl
         clear hbadE;have QT := zH (qt.out _ y1 y2 _ BAx);have h33 : y3 = 0 ∨ y3 = 1 := by omega
         clear h;generalize thereB b y1 y2 = TT at *;cases TT with
         | false =>
          have hbad : badO b [y0, y1, y2, y3, y4, y5] = true := hbadE2;clear hbadE2;have hR : Res = false := by rw [← hRes2.out]; simp [E0.out, E1.out, E2.out, hrest.out, hst.out, hbad]
          subst hR;clear hst hbad hRes2 hrest;rcases h33 with rfl | rfl
          ·have ta : ((0 : Int) != 0) = false := rfl
           exact zt89
          ·have ta : ((1 : Int) != 0) = true := rfl
           have tb : ((1 : Int) != 1) = false := rfl;exact zt89
         | true =>
          have hbad : badO b [y0, y1, y2, y3, y4, y5] = false := hbadE2;clear hbadE2;have hst2 : Hid (b.o.any (badO b) = (b.o.drop (j + 1)).any (badO b)) := (show _ = _ from by rw [hrest.out, hst.out, hbad, Bool.false_or])
          clear hst hbad;rcases h33 with rfl | rfl
          ·have ta : ((0 : Int) != 0) = false := rfl
           go_wp2_with fail;(with_reducible refine QT.out.mono ?_);rintro e wq ⟨rfl, hb⟩;have HBq := zB HBX hb;clear hb;exact zt73
          ·have ta : ((1 : Int) != 0) = true := rfl
           have tb : ((1 : Int) != 1) = false := rfl;go_wp2_with fail;(with_reducible refine QT.out.mono ?_);rintro e wq ⟨rfl, hb⟩;have HBq := zB HBX hb;clear hb;exact zt73
        ·have tn : decide ((j : Int) < (b.o.length : Int)) = false := decide_eq_false zw
         have E3 : Hid (b.o.any (badO b) = false) := (show _ = _ from by rw [hrest.out, List.drop_eq_nil_of_le zw]; rfl)
         have hBr3 := hBr;clear hrest hBr hjl;go_wp2_with fail;have hR : Res = true := by rw [← hRes2.out, E0.out, E1.out, E2.out, E3.out]; rfl
         subst hR;go_ret;exact ⟨rfl, HB2.out.trans (hBr3.out.mono HB2.out.size)⟩
end
end Go.Proofs.YtajogedbacpohaaGreatDoor
