/- The reference's Chain. -/
import Derived.Test.YtgjehokkmdbknaaDoorHeadD
namespace Go.Proofs.YtgjehokkmdbknaaDoor
open Go Go.RowKit

/-- What the headers chain to. -/
def chainR (K : Nat → Int) (H : St) (m : Nat) (g : Nat → Hd) : Nat → Option (Int × ByteArray)
  | 0 => some (0, cutS K H ⟨#[]⟩ m)
  | k + 1 => match chainR K H m g k with
    | none => none
    | some (f, p) => if mayB (g k) m = true ∧ (g k).i = k ∧ (g k).f = f ∧ (g k).p = p then some (f + (g k).c, hashS K H (g k) m) else none
theorem chainR_none (K : Nat → Int) (H : St) (m : Nat) (g : Nat → Hd) (k : Nat) (h : chainR K H m g k = none) : ∀ d, chainR K H m g (k + d) = none
  | 0 => h
  | d + 1 => by
    show chainR K H m g (k + d + 1) = none
    rw [chainR, chainR_none K H m g k h d]
theorem chainR_off {K : Nat → Int} {H : St} {m : Nat} {g : Nat → Hd} {k n : Nat} {f : Int} {p : ByteArray} (h : chainR K H m g k = some (f, p)) (hk : k < n) (hx : ¬ (mayB (g k) m = true ∧ (g k).i = k ∧ (g k).f = f ∧ (g k).p = p)) : chainR K H m g n = none := by
  obtain ⟨d, rfl⟩ : ∃ d, n = k + 1 + d := ⟨n - (k + 1), by omega⟩
  refine chainR_none K H m g (k + 1) ?_ d
  rw [chainR, h]
  simp only []
  rw [if_neg hx]
theorem chainR_on {K : Nat → Int} {H : St} {m : Nat} {g : Nat → Hd} {k : Nat} {f : Int} {p : ByteArray} (h : chainR K H m g k = some (f, p)) (hx : mayB (g k) m = true ∧ (g k).i = k ∧ (g k).f = f ∧ (g k).p = p) : chainR K H m g (k + 1) = some (f + (g k).c, hashS K H (g k) m) := by
  rw [chainR, h]
  simp only []
  rw [if_pos hx]
/-- The headers lie in the slice. -/
def HdsAt (w : World) (A : Option Addr) (n : Nat) (g : Nat → Hd) : Prop :=
  ∀ i, i < n → ∃ b o, A = some ⟨b, o, none⟩ ∧ b < w.heap.size ∧ ∀ j v, (g i).cells[j]? = some v → w.cell? ⟨b, o + i * 6 + j, none⟩ = some v
theorem HdsAt.below {w w' : World} {A : Option Addr} {n : Nat} {g : Nat → Hd} (h : HdsAt w A n g) (hb : Below w.heap.size w w') : HdsAt w' A n g := fun i hi => by
  obtain ⟨b, o, ha, hlt, hc⟩ := h i hi
  exact ⟨b, o, ha, Nat.lt_of_lt_of_le hlt hb.size, fun j v hv => (hb.cell (p := ⟨b, o + i * 6 + j, none⟩) hlt).trans (hc j v hv)⟩
theorem may_c {h : Hd} {n : Int} (hm : mayB h n = true) : 1 ≤ h.c ∧ h.c ≤ 64 := by
  unfold mayB numsB at hm
  simp only [Bool.and_eq_true, decide_eq_true_eq] at hm
  exact hm.1.1.1.2

theorem str_ne {a b : ByteArray} (h : ¬ a = b) : (a.toList == b.toList) = false := by
  rw [beq_eq_false_iff_ne, ByteArray.toList_eq, ByteArray.toList_eq]
  intro h2
  exact h (ByteArray.ext (Array.toList_inj.1 h2))
def chainOut : Option (Int × ByteArray) → Value
  | none => .tuple #[.string ⟨#[]⟩, .bool false]
  | some (_, p) => .tuple #[.string p, .bool true]
theorem chainR_end {K : Nat → Int} {H : St} {m : Nat} {g : Nat → Hd} {k n : Nat} {f : Int} {p : ByteArray} (h : chainR K H m g k = some (f, p)) (hk : k = n) : chainR K H m g n = some (f, p) := by rw [← hk]; exact h

set_option maxRecDepth 100000 in
set_option maxHeartbeats 4000000 in
theorem rChain_any (A : Option Addr) (n c : Nat) (g : Nat → Hd) (m : Nat) (w : World) (hm : Hid (1 ≤ m ∧ m ≤ 32)) (hn : Hid (n ≤ 40)) (hA : Hid (HdsAt w A n g)) :
    Calls Tryd.prog 40 #[.agg key72, .slice A n c, .int .i64 m] w fun e w' => e = .returned (chainOut (chainR (nth kList) hSt m g n)) ∧ Below w.heap.size w w' := by
  have q0 := Lib.hid (fun w => rCut_any ⟨#[]⟩ m w (by show _ ≤ _; decide) hm)
  have qM := Lib.hid (fun i w => rMay_any (g i) m w)
  have qH := Lib.hid (fun i w (h : Hid (HdOk (g i))) => rHHash_any (g i) m w hm h)
  have hks := Lib.hid key72_size
  have hC0 : Hid (chainR (nth kList) hSt m g 0 = some (0, cutS (nth kList) hSt ⟨#[]⟩ m)) := rfl
  generalize nth kList = K at *
  generalize hSt = H at *
  generalize key72 = KA at *
  generalize cutS K H ⟨#[]⟩ m = S0 at *
  obtain ⟨w1, hw1⟩ : ∃ w1, w.alloc (.cells KA 68) = w1 := ⟨_, rfl⟩
  have HW1 := Lib.hid hw1
  have HK : Hid (w1.heap[w.heap.size]? = some (.cells KA 68 (0, 0))) := by rw [← hw1]; exact blk_new _ _ _ rfl
  have HL : Hid (Below w.heap.size w w1) := by rw [← hw1]; exact below_alloc (Below.refl _ _) (Nat.le_refl _) _
  have hA1 : Hid (HdsAt w1 A n g) := hA.out.below HL.out
  have hlt1 := (Array.getElem?_eq_some_iff.1 HK.out).1
  clear hw1 hA
  go_enter Tryd.func40, Tryd.ntmps40
  go_wp2_with (rw [HW1.out]; refine wpList_load_row rfl 68 (.tmp 3) rfl w.heap.size rfl 68 KA (0, 0) _ HK.out Tryd.underlying68 rfl (by rw [hks.out]; kernel_rfl) ?_)
  refine (q0.out _).mono ?_
  rintro e w2 ⟨rfl, hb⟩
  have HB2 := Lib.hid hb
  clear hb
  go_wp2_with fail
  go_loopw [8, 9, 10] (fun pv fv iv wr => ∃ (k : Nat) (f : Int) (p : ByteArray), iv = .int .i64 k ∧ fv = .int .i64 f ∧ pv = .string p ∧ Hid (chainR K H m g k = some (f, p)) ∧ Hid (0 ≤ f ∧ f ≤ 64 * k) ∧ Hid (k ≤ n) ∧ Hid (Below w1.heap.size w1 wr)) (fun _ _ iv _ => n - (intOf iv).toNat)
  case atStart => exact ⟨0, 0, _, rfl, rfl, rfl, hC0, by show _ ∧ _; omega, Nat.zero_le _, HB2⟩
  case round =>
    clear HB2
    obtain ⟨k, f, p, rfl, rfl, rfl, hC, hf, hk, HB⟩ := hrel
    have hk2 := hk.out
    have hn2 := hn.out
    obtain ⟨hf1, hf2⟩ := hf.out
    by_cases hlt : k < n
    · obtain ⟨b, o, rfl, hbl, hc⟩ := hA1.out k hlt
      have qm := Lib.hid (fun w => qM.out k w)
      have qh := Lib.hid (fun w h => qH.out k w h)
      have hOff := Lib.hid (fun hx => chainR_off (n := n) hC.out hlt hx)
      have hOn := Lib.hid (fun hx => chainR_on hC.out hx)
      have hOk := Lib.hid (fun (hx : mayB (g k) m = true) => hdOk_of (h := g k) (n := m) hx (by have := hm.out; omega))
      have hMc := Lib.hid (fun (hx : mayB (g k) m = true) => may_c hx)
      clear qM qH hA1
      generalize hashS K H (g k) m = S at *
      generalize g k = h at *
      obtain ⟨B, hB⟩ : ∃ B, mayB h m = B := ⟨_, rfl⟩
      rw [hB] at qm hOff hOn hOk hMc
      obtain ⟨i, fi, cc, bb, pp, rr⟩ := h
      have c0 : wr.cell? ⟨b, o + k * 6, none⟩ = some (.int .i64 i) := (HB.out.cell (p := ⟨b, o + k * 6, none⟩) hbl).trans (hc 0 _ rfl)
      have c1 : wr.cell? ⟨b, o + k * 6 + 1, none⟩ = some (.int .i64 fi) := (HB.out.cell (p := ⟨b, o + k * 6 + 1, none⟩) hbl).trans (hc 1 _ rfl)
      have c2 : wr.cell? ⟨b, o + k * 6 + 2, none⟩ = some (.int .i64 cc) := (HB.out.cell (p := ⟨b, o + k * 6 + 2, none⟩) hbl).trans (hc 2 _ rfl)
      have c3 : wr.cell? ⟨b, o + k * 6 + 3, none⟩ = some (.int .i64 bb) := (HB.out.cell (p := ⟨b, o + k * 6 + 3, none⟩) hbl).trans (hc 3 _ rfl)
      have c4 : wr.cell? ⟨b, o + k * 6 + 4, none⟩ = some (.string pp) := (HB.out.cell (p := ⟨b, o + k * 6 + 4, none⟩) hbl).trans (hc 4 _ rfl)
      have c5 : wr.cell? ⟨b, o + k * 6 + 5, none⟩ = some (.string rr) := (HB.out.cell (p := ⟨b, o + k * 6 + 5, none⟩) hbl).trans (hc 5 _ rfl)
      have hbr : b < wr.heap.size := Nat.lt_of_lt_of_le hbl HB.out.size
      have HKr : Hid (wr.heap[w.heap.size]? = some (.cells KA 68 (0, 0))) := (HB.out.block _ hlt1).trans HK.out
      have HLr := Lib.hid (HL.out.trans (HB.out.mono HL.out.size))
      have HBr := Lib.hid HB.out
      simp only [] at hOff hOn
      unfold Hd.cells at qm qh
      simp only [] at qm qh
      clear hC hc hB hk hn HB HL HK hbl hC0 q0
      cases B with
      | false =>
        have hN := Lib.hid (hOff.out (fun hx => by cases hx.1))
        clear hOff hOn hOk hMc qh
        go_wp2_with fail
        refine (qm.out _).mono ?_
        rintro e w3 ⟨rfl, hb3⟩
        have HL3 := Lib.hid (HLr.out.trans (hb3.mono HLr.out.size))
        clear hb3
        go_wp2_with fail
        go_ret2
        exact ⟨by rw [hN.out]; rfl, HL3.out⟩
      | true =>
        have hMc2 := hMc.out rfl
        simp only [] at hMc2
        obtain ⟨hcc1, hcc2⟩ := hMc2
        have hOk2 := Lib.hid (hOk.out rfl)
        clear hMc hOk
        by_cases hi : i = k
        · by_cases hfi : fi = f
          · by_cases hpp : pp = p
            · have HON := Lib.hid (hOn.out ⟨rfl, hi, hfi, hpp⟩)
              clear hOff hOn
              subst hi hfi hpp
              have hbq : (pp.toList == pp.toList) = true := by simp
              go_wp2_with fail
              refine (qm.out _).mono ?_
              rintro e w3 ⟨rfl, hb3⟩
              replace c0 := (hb3.cell (p := ⟨b, o + k * 6, none⟩) hbr).trans c0
              replace c1 := (hb3.cell (p := ⟨b, o + k * 6 + 1, none⟩) hbr).trans c1
              replace c2 := (hb3.cell (p := ⟨b, o + k * 6 + 2, none⟩) hbr).trans c2
              replace c3 := (hb3.cell (p := ⟨b, o + k * 6 + 3, none⟩) hbr).trans c3
              replace c4 := (hb3.cell (p := ⟨b, o + k * 6 + 4, none⟩) hbr).trans c4
              replace c5 := (hb3.cell (p := ⟨b, o + k * 6 + 5, none⟩) hbr).trans c5
              replace HKr := Lib.hid ((hb3.block _ (Array.getElem?_eq_some_iff.1 HKr.out).1).trans HKr.out)
              have hlw := (Array.getElem?_eq_some_iff.1 HKr.out).1
              replace hbr := Nat.lt_of_lt_of_le hbr hb3.size
              replace HLr := Lib.hid (HLr.out.trans (hb3.mono HLr.out.size))
              replace HBr := Lib.hid (HBr.out.trans (hb3.mono HBr.out.size))
              clear hb3
              go_wp2_with fail
              refine wp_region_ext (by kernel_rfl) (by kernel_rfl) ?_
              refine BigFrame.wpQuiet_want rfl fun KK hKK => ?_
              refine quiet_load_row 68 (.tmp 3) rfl w.heap.size rfl KA ?_ (hKK _ ?_)
              · rintro wz ⟨x, rfl⟩
                exact run_loadVar_row x.w w.heap.size 68 68 KA (0, 0) _ ((x.below.block _ (by omega)).trans HKr.out) Tryd.underlying68 rfl (by rw [hks.out]; kernel_rfl)
              clear hKK KK
              simp only [Act.put, List.setIfInBounds_toArray, List.set_cons_succ, List.set_cons_zero]
              repeat (go_big_quiet_step (with_reducible exact ext_call (qh.out _ hOk2)))
              refine wpQuiet_nil ?_
              rintro w' ⟨y, rfl⟩
              have HB3 := Lib.hid (HBr.out.trans (y.below.mono HBr.out.size))
              go_wp2_with fail
              go_roundw
              case rel => exact ⟨k + 1, _, _, by go_num, rfl, rfl, HON, by show _ ∧ _; omega, by show _ ≤ _; omega, HB3⟩
              case measure => simp [intOf]; omega
            · have hN := Lib.hid (hOff.out (fun hx => hpp hx.2.2.2))
              have hbq : (pp.toList == p.toList) = false := str_ne hpp
              subst hi hfi
              go_wp2_with fail
              refine (qm.out _).mono ?_
              rintro e w3 ⟨rfl, hb3⟩
              replace c0 := (hb3.cell (p := ⟨b, o + k * 6, none⟩) hbr).trans c0
              replace c1 := (hb3.cell (p := ⟨b, o + k * 6 + 1, none⟩) hbr).trans c1
              replace c4 := (hb3.cell (p := ⟨b, o + k * 6 + 4, none⟩) hbr).trans c4
              replace HLr := Lib.hid (HLr.out.trans (hb3.mono HLr.out.size))
              clear hb3 hpp
              go_wp2_with fail
              go_ret2
              exact ⟨by rw [hN.out]; rfl, HLr.out⟩
          · have hN := Lib.hid (hOff.out (fun hx => hfi hx.2.2.1))
            subst hi
            go_wp2_with fail
            refine (qm.out _).mono ?_
            rintro e w3 ⟨rfl, hb3⟩
            replace c0 := (hb3.cell (p := ⟨b, o + k * 6, none⟩) hbr).trans c0
            replace c1 := (hb3.cell (p := ⟨b, o + k * 6 + 1, none⟩) hbr).trans c1
            replace HLr := Lib.hid (HLr.out.trans (hb3.mono HLr.out.size))
            clear hb3
            go_wp2_with fail
            go_ret2
            exact ⟨by rw [hN.out]; rfl, HLr.out⟩
        · have hN := Lib.hid (hOff.out (fun hx => hi hx.2.1))
          go_wp2_with fail
          refine (qm.out _).mono ?_
          rintro e w3 ⟨rfl, hb3⟩
          replace c0 := (hb3.cell (p := ⟨b, o + k * 6, none⟩) hbr).trans c0
          replace HLr := Lib.hid (HLr.out.trans (hb3.mono HLr.out.size))
          clear hb3
          go_wp2_with fail
          go_ret2
          exact ⟨by rw [hN.out]; rfl, HLr.out⟩
    · have hE := Lib.hid (chainR_end hC.out (show k = n by omega))
      go_wp2_with fail
      go_ret2
      exact ⟨by rw [hE.out]; rfl, HL.out.trans (HB.out.mono HL.out.size)⟩
end Go.Proofs.YtgjehokkmdbknaaDoor
