/- The bundle's laws: what was put is got; BundleMuch (printed by genFileH.py). -/
import Derived.Test.YtaigngdlioplaaaFileG
import Derived.Test.YtaigngdlioplaaaRegD
import Derived.OwnWalk
namespace Go.Proofs.Ytaigngdlioplaaa
open Go Go.RowKit
set_option linter.unusedVariables false
set_option linter.unusedSimpArgs false

def rowsB (l : List Fil) : List UInt8 := l.flatMap fun f => (rowStr f.1).data.toList ++ (rowStr f.2).data.toList
theorem putFrom_rows : ∀ (l : List Fil) (s0 : ByteArray), (putFrom s0 l).data.toList = s0.data.toList ++ rowsB l
  | [], s0 => by simp [putFrom, rowsB]
  | f :: l, s0 => by
    show (putFrom ((s0 ++ rowStr f.1) ++ rowStr f.2) l).data.toList = _
    rw [putFrom_rows l]
    simp [rowsB, ByteArray.data_append]
theorem getR_in (s : ByteArray) : ∀ (l : List Fil) (p : Nat) (acc : List Fil), p ≤ s.size → s.data.toList.drop p = rowsB l → Fit l → getR s l.length p 0 acc = (acc ++ l, s.size, 0)
  | [], p, acc, hp, h, _ => by
    have hl : (s.data.toList.drop p).length = 0 := by rw [h]; rfl
    rw [drop_len] at hl
    rw [show p = s.size by omega]
    simp [getR]
  | f :: l, p, acc, hp, h, hF => by
    have hf := hF 0 f rfl
    have h1 : s.data.toList.drop p = (rowStr f.1).data.toList ++ ((rowStr f.2).data.toList ++ rowsB l) := by rw [h]; simp [rowsB]
    have e1 : nmR s p 0 = (f.1, p + (rowStr f.1).size, 0) := rRow_at s p f.1 _ 16 (by omega) (by omega) h1
    have h2 := drop_step h1
    have hp1 : p + (rowStr f.1).size ≤ s.size := by have := rRow_p_le s p 0 16 hp; rw [show rRow s p 0 16 = nmR s p 0 from rfl, e1] at this; exact this
    have e2 : rRow s (p + (rowStr f.1).size) 0 1048576 = (f.2, p + (rowStr f.1).size + (rowStr f.2).size, 0) := rRow_at s _ f.2 _ 1048576 (by omega) (by omega) h2
    have hp2 : p + (rowStr f.1).size + (rowStr f.2).size ≤ s.size := by have := rRow_p_le s (p + (rowStr f.1).size) 0 1048576 hp1; rw [e2] at this; exact this
    have e3 : btR s p 0 = (f.2, p + (rowStr f.1).size + (rowStr f.2).size, 0) := by unfold btR; rw [e1]; exact e2
    have ih := getR_in s l _ (acc ++ [f]) hp2 (drop_step h2) (fun i g hg => hF (i + 1) g (by simpa using hg))
    show getR s (l.length + 1) p 0 acc = _
    rw [getR, e1, e3, if_pos rfl]
    rw [ih]
    simp
/-- What was put is got. -/
theorem get_put {l : List Fil} (hm : mayF l = true) (hF : Fit l) : getE (putF l) = putE l ∧ getL (putF l) = if putE l = 0 then l else [] := by
  have hl := (mayF_short hm).2
  have hd : (putF l).data.toList.drop 0 = (numStr l.length).data.toList ++ rowsB l := by rw [List.drop_zero]; exact putFrom_rows l _
  have e0 := rNum_in (putF l) 0 l.length (rowsB l) 4096 hl (by omega) hd
  have h1 := drop_step hd
  have hp : 0 + (numStr l.length).size ≤ (putF l).size := by have := rNum_p_le (putF l) 0 0 4096 (Nat.zero_le _); rw [e0] at this; exact this
  have hg := getR_in (putF l) l _ [] hp h1 hF
  have ha : allR (putF l) = (l, (putF l).size, 0) := by
    unfold allR cntR
    rw [e0]
    simp only [Int.toNat_natCast]
    rw [hg]
    simp
  have hn : ¬ ((putF l).size < (putF l).size ∨ mayF l = false) := by
    rw [hm]; simp
  have hE : getE (putF l) = putE l := by
    unfold getE putE
    rw [ha, hm, if_pos rfl]
    by_cases hu : usedF l ≤ 1048576
    · rw [if_pos hu]; exact endE_ok hn (by omega)
    · rw [if_neg hu]; exact endE_much hn (by omega)
  refine ⟨hE, ?_⟩
  unfold getL
  rw [hE, ha]

def zeros (n : Nat) : ByteArray := strOfNums (List.replicate n 0)
theorem zeros_size (n : Nat) : (zeros n).size = n := by unfold zeros; rw [strOfNums_size]; simp
theorem made_zero (n : Nat) : (madeCells (Value.int .u8 0).cells (n * 1)).toList = (List.replicate n (0 : Int)).map (Value.int .u8) := by
  unfold madeCells
  rw [Nat.mul_one, Array.toList_map, List.map_replicate]
  refine List.eq_replicate_iff.2 ⟨by simp, fun v hv => ?_⟩
  obtain ⟨j, _, rfl⟩ := List.mem_map.1 hv
  show (#[Value.int .u8 0] : Array Value)[j % 1]! = _
  rw [Nat.mod_one]
  rfl

section
variable {P : Program} {ops : Array Oper} {md : Region.Mode} {C C' : World → Prop} {ex : List Nat}
theorem wpAnyD_weaken (hC : ∀ w, C' w → C w) {Q : Exit → Act → World → Prop} : ∀ {f : Nat} {L : Array Bool} {a : Act} {w : World}, wpAnyD P md ops C' ex Q f L a w → wpAnyD P md ops C ex Q f L a w
  | 0, _, _, _, h => h
  | f + 1, _, _, _, h => ⟨h.1, fun i hi => wpOp_mono (fun a' w' h' => ⟨fun he => hC _ (h'.1 he), wpAnyD_weaken hC h'.2⟩) (h.2 i hi)⟩
theorem wpAnyD_two {Q : Exit → Act → World → Prop} (i j : Nat) {oi oj : Oper} {f : Nat} {L Li Lj : Array Bool} {a : Act} {w : World} (hr : Region.ready md ops L = [i, j]) (hLi : L.setIfInBounds i true = Li) (hLj : L.setIfInBounds j true = Lj)
    (h0 : ops[i]? = some oi) (h1 : ops[j]? = some oj) (hgi : Region.wanted oi (yielded ops a.tmps) = true) (hgj : Region.wanted oj (yielded ops a.tmps) = true)
    (hi : wpList P ops (StepQ (keepsC ex C i) (OnlyN Q) (wpAnyD P md ops C ex (OnlyN Q) f Li)) [oi] a w) (hj : wpList P ops (StepQ (keepsC ex C j) (OnlyN Q) (wpAnyD P md ops C ex (OnlyN Q) f Lj)) [oj] a w) :
    wpAnyD P md ops C ex (OnlyN Q) (f + 1) L a w := by
  subst hLi hLj
  refine ⟨fun h1 => (by rw [hr] at h1; cases h1), fun k hk => ?_⟩
  rw [hr] at hk
  rcases List.mem_cons.1 hk with rfl | hk
  · exact wpOp_of_listG h0 hgi hi
  · obtain rfl : k = j := by simpa using hk
    exact wpOp_of_listG h1 hgj hj
theorem pure_str {K : Act → Prop} {o : Oper} {l : List Oper} {a : Act} (x : Operand) (t dst : TypeId) (v : Value) (s : ByteArray) (ho : o.op = .convert t dst x) (hg : Region.wanted o (yielded ops a.tmps) = true) (hx : a.eval x = v)
    (hr : ∀ w, C w → (convert t dst v).run P w = .ok (.string s) w) (h : wpPure P ops C K l (a.put o.dst (.string s))) : wpPure P ops C K (o :: l) a :=
  pure_atG (.string s) hg (fun w hw => by simp [execOp, ho, hx, hr w hw, Result.andThen]) h
end

def nmB : ByteArray := ⟨#[98]⟩
def much (m : Nat) : List Fil := [(nmA, zeros 524288), (nmB, zeros (524284 + m))]
theorem much_used (m : Nat) : usedF (much m) = 1048572 + m := by
  unfold much usedF
  simp [zeros_size]; omega
theorem much_may (m : Nat) : mayF (much m) = true := by
  unfold mayF
  rw [Bool.and_eq_true]
  refine ⟨by simp [much], ?_⟩
  have h1 := mayK_step (l := much m) (k := 0) (f := (nmA, zeros 524288)) rfl rfl (okF_first (by decide +kernel) (by rw [zeros_size]; decide))
  exact mayK_step (l := much m) (k := 1) (f := (nmB, zeros (524284 + m))) rfl h1 (by rw [okF_next (l := much m) (j := 0) (g := (nmA, zeros 524288)) (by decide +kernel) (by rw [zeros_size]; omega) rfl]; rw [befS]; rw [ByteArray.toList_eq, ByteArray.toList_eq]; rfl)
theorem much_fit (m : Nat) (h : m ≤ 7) : Fit (much m) := fun i f hf => by
  match i, hf with
  | 0, hf => simp [much] at hf; subst hf; exact ⟨by show nmA.size ≤ 16; decide, by show (zeros _).size ≤ _; rw [zeros_size]; decide⟩
  | 1, hf => simp [much] at hf; subst hf; exact ⟨by show nmB.size ≤ 16; decide, by show (zeros _).size ≤ _; rw [zeros_size]; omega⟩
  | i + 2, hf => simp [much] at hf
theorem much_at (w : World) (m : Nat) : FilesAt (w.alloc (.cells #[.string ⟨#[97]⟩, .string (zeros 524288), .string ⟨#[98]⟩, .string (zeros (524284 + m))] 33)) (.slice (some ⟨w.heap.size, 0, none⟩) 2 2) (much m) := by
  refine ⟨some ⟨w.heap.size, 0, none⟩, 2, rfl, fun i f hf => ?_⟩
  match i, hf with
  | 0, hf => simp [much] at hf; subst hf; exact ⟨w.heap.size, 0, rfl, by simp, cells_of_blk (heap_new _ _) 0 _ rfl, cells_of_blk (heap_new _ _) 1 _ rfl⟩
  | 1, hf => simp [much] at hf; subst hf; exact ⟨w.heap.size, 0, rfl, by simp, cells_of_blk (heap_new _ _) 2 _ rfl, cells_of_blk (heap_new _ _) 3 _ rfl⟩
  | i + 2, hf => simp [much] at hf

set_option maxRecDepth 100000 in
set_option maxHeartbeats 4000000 in
theorem BundleMuch_walk (b : Nat) (w : World) (h0 : b ≤ 255) : Calls Try.prog 4 #[.int .u8 b] w fun e w' => e = .returned (.bool true) ∧ Below w.heap.size w w' := by
  have qA := Lib.hid (alive29 w)
  obtain ⟨m, hm⟩ : ∃ m, b % 8 = m := ⟨_, rfl⟩
  have em : ((b : Int) % 8) = (m : Int) := by omega
  have hm7 : m ≤ 7 := by omega
  have HEM := Lib.hid em
  clear em hm
  go_enter Try.func4, Try.ntmps4
  go_wp2_with fail
  with_reducible refine qA.out.mono ?_
  rintro e w1 ⟨rfl, hb⟩
  have HB1 := Lib.hid hb
  clear hb
  go_wp2_with fail
  simp only [HEM.out]
  have HC : Hid (Below w1.heap.size w1 w1.drew) := (Below.refl _ _).drew
  obtain ⟨iu, hiu⟩ := el_u8z.info
  have HIU := Lib.hid hiu
  clear hiu
  refine wp_region_D [] (fun wz => Hid (Below w1.heap.size w1 wz)) 10 #[false, false, false, false, false, false, false, false, false, false] (by kernel_rfl) (by kernel_rfl) (by kernel_rfl) ?_
  refine pure_moreD [3, 4] 8 (L' := #[false, false, false, true, true, false, false, false, false, false]) (by kernel_rfl) (by kernel_rfl) HC ?_
  simp only [opsAt, List.getElem?_toArray, List.getElem?_cons_zero, List.getElem?_cons_succ]
  refine pure_moveG rfl rfl ?_
  refine pure_atG (.int .i64 ((524284 + m : Nat) : Int)) rfl (fun wz _ => by unfold execOp; go_simp; rw [IntKind.wrap_i64]; omega) ?_
  unfold wpPure
  go_simp
  refine wpAnyD_two 0 5 (f := 7) (Li := #[true, false, false, true, true, false, false, false, false, false]) (Lj := #[false, false, false, true, true, true, false, false, false, false]) (by kernel_rfl) (by kernel_rfl) (by kernel_rfl) rfl rfl rfl rfl ?_ ?_
  · refine wpList_make_full _ rfl _ _ _ rfl 0 5 iu (.int .u8 0) 1 el_u8z.und HIU.out.1 HIU.out.2.1 HIU.out.2.2.1 .i64 .i64 _ _ (524288) rfl rfl (by omega) (by omega) (by rw [HIU.out.2.2.2]; omega) (by unfold maxLen; omega) (Nat.zero_le _) ?_
    intro w3 hown hg
    rw [made_zero] at hown
    have hbx : Below (World.heap (w1.drew)).size (w1.drew) w3 := ⟨hg.os, hg.tape, hg.output, hg.size, fun k hk => hg.block k hk (by simp)⟩
    have HO0 : Hid (World.ownsRow w3 0 5 1 (.slice (some ⟨(World.heap (w1.drew)).size, 0, none⟩) (524288) (524288)) (524288) ((List.replicate (524288) (0 : Int)).map (Value.int .u8))) := hown
    have HC3 : Hid (Below w1.heap.size w1 w3) := HC.out.trans (hbx.mono HC.out.size)
    clear hown hg hbx
    go_wp2_with fail
    rw [StepQ_normal]
    refine ⟨fun _ => HC3, wpAnyD_weaken (C' := fun wz => Hid (Below (World.heap w3).size w3 wz)) (fun wz hz => HC3.out.trans (hz.out.mono HC3.out.size)) ?_⟩
    refine pure_moreD [1, 2] 5 (L' := #[true, true, true, true, true, false, false, false, false, false]) (by kernel_rfl) (by kernel_rfl) (Below.refl _ _) ?_
    simp only [opsAt, List.getElem?_toArray, List.getElem?_cons_zero, List.getElem?_cons_succ]
    refine pure_str _ _ _ _ (zeros 524288) rfl rfl rfl (fun wz hz => run_string_own (P := Try.prog) _ _ 5 _ Try.underlying31 Try.underlying5 Try.underlying9 (HO0.out.kept (grown_none hz.out) (none_ne _))) ?_
    refine pure_atG (.agg #[.string ⟨#[97]⟩, .string (zeros 524288)]) rfl (fun wz _ => by unfold execOp; go_simp) ?_
    unfold wpPure
    go_simp
    refine wpAnyD_one 5 (f := 4) (L' := #[true, true, true, true, true, true, false, false, false, false]) (by kernel_rfl) (by kernel_rfl) rfl rfl ?_
    refine wpList_make_full _ rfl _ _ _ rfl 0 5 iu (.int .u8 0) 1 el_u8z.und HIU.out.1 HIU.out.2.1 HIU.out.2.2.1 .i64 .i64 _ _ (524284 + m) rfl rfl (by omega) (by omega) (by rw [HIU.out.2.2.2]; omega) (by unfold maxLen; omega) (Nat.zero_le _) ?_
    intro w4 hown hg
    rw [made_zero] at hown
    have hbx : Below w3.heap.size w3 w4 := ⟨hg.os, hg.tape, hg.output, hg.size, fun k hk => hg.block k hk (by simp)⟩
    have HBx := Lib.hid hbx
    have HO5 : Hid (World.ownsRow w4 0 5 1 (.slice (some ⟨(World.heap (w3)).size, 0, none⟩) (524284 + m) (524284 + m)) (524284 + m) ((List.replicate (524284 + m) (0 : Int)).map (Value.int .u8))) := hown
    have HC4 : Hid (Below w1.heap.size w1 w4) := HC3.out.trans (hbx.mono HC3.out.size)
    clear hown hg hbx
    go_wp2_with fail
    rw [StepQ_normal]
    refine ⟨fun _ => HBx, wpAnyD_weaken (C' := fun wz => Hid (Below w4.heap.size w4 wz)) (fun wz hz => HBx.out.trans (hz.out.mono HBx.out.size)) ?_⟩
    refine pure_moreD [6, 7] 2 (L' := #[true, true, true, true, true, true, true, true, false, false]) (by kernel_rfl) (by kernel_rfl) (Below.refl _ _) ?_
    simp only [opsAt, List.getElem?_toArray, List.getElem?_cons_zero, List.getElem?_cons_succ]
    refine pure_str _ _ _ _ (zeros (524284 + m)) rfl rfl rfl (fun wz hz => run_string_own (P := Try.prog) _ _ 5 _ Try.underlying31 Try.underlying5 Try.underlying9 (HO5.out.kept (grown_none hz.out) (none_ne _))) ?_
    refine pure_atG (.agg #[.string ⟨#[98]⟩, .string (zeros (524284 + m))]) rfl (fun wz _ => by unfold execOp; go_simp) ?_
    unfold wpPure
    go_simp
    refine wpAnyD_one 8 (f := 1) (L' := #[true, true, true, true, true, true, true, true, true, false]) (by kernel_rfl) (by kernel_rfl) rfl rfl ?_
    go_wp2_with fail
    rw [StepQ_normal]
    have HF5 := Lib.hid (much_at w4 m)
    have HC5 := Lib.hid (below_alloc HC4.out HC4.out.size (.cells #[.string ⟨#[97]⟩, .string (zeros 524288), .string ⟨#[98]⟩, .string (zeros (524284 + m))] 33))
    refine ⟨fun _ => below_alloc (Below.refl _ _) (Nat.le_refl _) _, ?_⟩
    refine wpAnyD_one 9 (f := 0) (L' := #[true, true, true, true, true, true, true, true, true, true]) (by kernel_rfl) (by kernel_rfl) rfl rfl ?_
    go_wp2_with fail
    rw [StepQ_normal]
    refine ⟨fun _ => below_alloc (Below.refl _ _) (Nat.le_refl _) _, ?_⟩
    refine ⟨by kernel_rfl, ?_⟩
    rw [OnlyN_normal]
    have HB5 := Lib.hid (HB1.out.trans (HC5.out.mono HB1.out.size))
    clear HO0 HO5 HC HC3 HC4 HC5 HBx HEM HIU
    generalize w4.alloc (.cells #[.string ⟨#[97]⟩, .string (zeros 524288), .string ⟨#[98]⟩, .string (zeros (524284 + m))] 33) = w5 at *
    generalize w4.heap.size = G5 at *
    clear HB1 qA
    have hmay := much_may m
    have hfit := much_fit m hm7
    have hused := much_used m
    have hsh := (mayF_short hmay).1
    have hlen : (much m).length = 2 := rfl
    have hnm := Lib.hid hfit.names
    have qP := Lib.hid (fun w v hv => PutF_any v (much m) w hv (by omega) hnm (by omega))
    have qR := Lib.hid (fun w v hv => rPutF_any v (much m) w hv (by omega) hsh (by omega))
    have gp := get_put hmay hfit
    have hps : (putF (much m)).size ≤ 1099511627776 := by
      have h1 := putFrom_le (numStr (much m).length) (much m) hsh 2 (by omega)
      rw [show (much m).take 2 = much m from rfl, hused] at h1
      have h2 := numStr_size (much m).length
      show (putFrom (numStr (much m).length) (much m)).size ≤ _
      omega
    have qG := Lib.hid (fun w => GetF_any (putF (much m)) w hps)
    rw [gp.1, gp.2] at qG
    have qS := Lib.hid (fun w v1 v2 h1 h2 => SameF_any v1 v2 (much m) (much m) w h1 h2 (by omega) (by omega))
    rw [decide_eq_true (rfl : much m = much m)] at qS
    by_cases hm4 : m ≤ 4
    · have hE : putE (much m) = 0 := by unfold putE; rw [hmay, if_pos rfl, if_pos (by omega)]
      rw [hE] at qP qG
      rw [if_pos rfl] at qG
      have t0 : decide ((1048576 : Int) < 1048572 + (m : Int)) = false := decide_eq_false (by omega)
      clear gp hps hsh hused hfit hmay hE hlen hnm
      generalize putV (much m) = PV at *
      generalize putF (much m) = PF at *
      generalize much m = LL at *
      go_wp2_with fail
      with_reducible refine (qP.out _ _ HF5).mono ?_
      rintro e w6 ⟨rfl, hb⟩
      have HF6 := Lib.hid (HF5.out.call hb)
      have HB6 := Lib.hid (HB5.out.trans (hb.mono HB5.out.size))
      clear hb
      go_wp2_with fail
      with_reducible refine (qR.out _ _ HF6).mono ?_
      rintro e w7 ⟨rfl, hb⟩
      have HF7 := Lib.hid (HF6.out.call hb)
      have HB7 := Lib.hid (HB6.out.trans (hb.mono HB6.out.size))
      clear hb
      go_wp2_with fail
      with_reducible refine (qG.out _).mono ?_
      rintro e w8 ⟨⟨v8, rfl, hf8⟩, hb⟩
      have HF8 := Lib.hid hf8
      have HG8 := Lib.hid (HF7.out.call hb)
      have HB8 := Lib.hid (HB7.out.trans (hb.mono HB7.out.size))
      clear hb hf8
      go_wp2_with fail
      with_reducible refine (qS.out _ _ _ HF8 HG8).mono ?_
      rintro e w9 ⟨rfl, hb⟩
      have HB9 := Lib.hid (HB8.out.trans (hb.mono HB8.out.size))
      clear hb
      go_wp2_with fail
      go_ret
      exact ⟨rfl, HB9.out⟩
    · have hE : putE (much m) = 4 := by unfold putE; rw [hmay, if_pos rfl, if_neg (by omega)]
      have hV : putV (much m) = ⟨#[]⟩ := by unfold putV; rw [if_neg (by rw [hE]; decide)]
      rw [hE, hV] at qP
      rw [hE, if_neg (by decide)] at qG
      have t0 : decide ((1048576 : Int) < 1048572 + (m : Int)) = true := decide_eq_true (by omega)
      clear gp hps hsh hused hfit hmay hE hV hlen hnm qS
      generalize putF (much m) = PF at *
      generalize much m = LL at *
      go_wp2_with fail
      with_reducible refine (qP.out _ _ HF5).mono ?_
      rintro e w6 ⟨rfl, hb⟩
      have HF6 := Lib.hid (HF5.out.call hb)
      have HB6 := Lib.hid (HB5.out.trans (hb.mono HB5.out.size))
      clear hb
      go_wp2_with fail
      with_reducible refine (qR.out _ _ HF6).mono ?_
      rintro e w7 ⟨rfl, hb⟩
      have HB7 := Lib.hid (HB6.out.trans (hb.mono HB6.out.size))
      clear hb
      go_wp2_with fail
      with_reducible refine (qG.out _).mono ?_
      rintro e w8 ⟨⟨v8, rfl, hf8⟩, hb⟩
      obtain ⟨A8, c8, rfl, _⟩ := hf8
      have HB8 := Lib.hid (HB7.out.trans (hb.mono HB7.out.size))
      clear hb
      simp only [List.length_nil]
      go_wp2_with fail
      go_ret
      exact ⟨rfl, HB8.out⟩
  · refine wpList_make_full _ rfl _ _ _ rfl 0 5 iu (.int .u8 0) 1 el_u8z.und HIU.out.1 HIU.out.2.1 HIU.out.2.2.1 .i64 .i64 _ _ (524284 + m) rfl rfl (by omega) (by omega) (by rw [HIU.out.2.2.2]; omega) (by unfold maxLen; omega) (Nat.zero_le _) ?_
    intro w3 hown hg
    rw [made_zero] at hown
    have hbx : Below (World.heap (w1.drew)).size (w1.drew) w3 := ⟨hg.os, hg.tape, hg.output, hg.size, fun k hk => hg.block k hk (by simp)⟩
    have HO5 : Hid (World.ownsRow w3 0 5 1 (.slice (some ⟨(World.heap (w1.drew)).size, 0, none⟩) (524284 + m) (524284 + m)) (524284 + m) ((List.replicate (524284 + m) (0 : Int)).map (Value.int .u8))) := hown
    have HC3 : Hid (Below w1.heap.size w1 w3) := HC.out.trans (hbx.mono HC.out.size)
    clear hown hg hbx
    go_wp2_with fail
    rw [StepQ_normal]
    refine ⟨fun _ => HC3, wpAnyD_weaken (C' := fun wz => Hid (Below (World.heap w3).size w3 wz)) (fun wz hz => HC3.out.trans (hz.out.mono HC3.out.size)) ?_⟩
    refine pure_moreD [6, 7] 5 (L' := #[false, false, false, true, true, true, true, true, false, false]) (by kernel_rfl) (by kernel_rfl) (Below.refl _ _) ?_
    simp only [opsAt, List.getElem?_toArray, List.getElem?_cons_zero, List.getElem?_cons_succ]
    refine pure_str _ _ _ _ (zeros (524284 + m)) rfl rfl rfl (fun wz hz => run_string_own (P := Try.prog) _ _ 5 _ Try.underlying31 Try.underlying5 Try.underlying9 (HO5.out.kept (grown_none hz.out) (none_ne _))) ?_
    refine pure_atG (.agg #[.string ⟨#[98]⟩, .string (zeros (524284 + m))]) rfl (fun wz _ => by unfold execOp; go_simp) ?_
    unfold wpPure
    go_simp
    refine wpAnyD_one 0 (f := 4) (L' := #[true, false, false, true, true, true, true, true, false, false]) (by kernel_rfl) (by kernel_rfl) rfl rfl ?_
    refine wpList_make_full _ rfl _ _ _ rfl 0 5 iu (.int .u8 0) 1 el_u8z.und HIU.out.1 HIU.out.2.1 HIU.out.2.2.1 .i64 .i64 _ _ (524288) rfl rfl (by omega) (by omega) (by rw [HIU.out.2.2.2]; omega) (by unfold maxLen; omega) (Nat.zero_le _) ?_
    intro w4 hown hg
    rw [made_zero] at hown
    have hbx : Below w3.heap.size w3 w4 := ⟨hg.os, hg.tape, hg.output, hg.size, fun k hk => hg.block k hk (by simp)⟩
    have HBx := Lib.hid hbx
    have HO0 : Hid (World.ownsRow w4 0 5 1 (.slice (some ⟨(World.heap (w3)).size, 0, none⟩) (524288) (524288)) (524288) ((List.replicate (524288) (0 : Int)).map (Value.int .u8))) := hown
    have HC4 : Hid (Below w1.heap.size w1 w4) := HC3.out.trans (hbx.mono HC3.out.size)
    clear hown hg hbx
    go_wp2_with fail
    rw [StepQ_normal]
    refine ⟨fun _ => HBx, wpAnyD_weaken (C' := fun wz => Hid (Below w4.heap.size w4 wz)) (fun wz hz => HBx.out.trans (hz.out.mono HBx.out.size)) ?_⟩
    refine pure_moreD [1, 2] 2 (L' := #[true, true, true, true, true, true, true, true, false, false]) (by kernel_rfl) (by kernel_rfl) (Below.refl _ _) ?_
    simp only [opsAt, List.getElem?_toArray, List.getElem?_cons_zero, List.getElem?_cons_succ]
    refine pure_str _ _ _ _ (zeros 524288) rfl rfl rfl (fun wz hz => run_string_own (P := Try.prog) _ _ 5 _ Try.underlying31 Try.underlying5 Try.underlying9 (HO0.out.kept (grown_none hz.out) (none_ne _))) ?_
    refine pure_atG (.agg #[.string ⟨#[97]⟩, .string (zeros 524288)]) rfl (fun wz _ => by unfold execOp; go_simp) ?_
    unfold wpPure
    go_simp
    refine wpAnyD_one 8 (f := 1) (L' := #[true, true, true, true, true, true, true, true, true, false]) (by kernel_rfl) (by kernel_rfl) rfl rfl ?_
    go_wp2_with fail
    rw [StepQ_normal]
    have HF5 := Lib.hid (much_at w4 m)
    have HC5 := Lib.hid (below_alloc HC4.out HC4.out.size (.cells #[.string ⟨#[97]⟩, .string (zeros 524288), .string ⟨#[98]⟩, .string (zeros (524284 + m))] 33))
    refine ⟨fun _ => below_alloc (Below.refl _ _) (Nat.le_refl _) _, ?_⟩
    refine wpAnyD_one 9 (f := 0) (L' := #[true, true, true, true, true, true, true, true, true, true]) (by kernel_rfl) (by kernel_rfl) rfl rfl ?_
    go_wp2_with fail
    rw [StepQ_normal]
    refine ⟨fun _ => below_alloc (Below.refl _ _) (Nat.le_refl _) _, ?_⟩
    refine ⟨by kernel_rfl, ?_⟩
    rw [OnlyN_normal]
    have HB5 := Lib.hid (HB1.out.trans (HC5.out.mono HB1.out.size))
    clear HO0 HO5 HC HC3 HC4 HC5 HBx HEM HIU
    generalize w4.alloc (.cells #[.string ⟨#[97]⟩, .string (zeros 524288), .string ⟨#[98]⟩, .string (zeros (524284 + m))] 33) = w5 at *
    generalize w4.heap.size = G5 at *
    clear HB1 qA
    have hmay := much_may m
    have hfit := much_fit m hm7
    have hused := much_used m
    have hsh := (mayF_short hmay).1
    have hlen : (much m).length = 2 := rfl
    have hnm := Lib.hid hfit.names
    have qP := Lib.hid (fun w v hv => PutF_any v (much m) w hv (by omega) hnm (by omega))
    have qR := Lib.hid (fun w v hv => rPutF_any v (much m) w hv (by omega) hsh (by omega))
    have gp := get_put hmay hfit
    have hps : (putF (much m)).size ≤ 1099511627776 := by
      have h1 := putFrom_le (numStr (much m).length) (much m) hsh 2 (by omega)
      rw [show (much m).take 2 = much m from rfl, hused] at h1
      have h2 := numStr_size (much m).length
      show (putFrom (numStr (much m).length) (much m)).size ≤ _
      omega
    have qG := Lib.hid (fun w => GetF_any (putF (much m)) w hps)
    rw [gp.1, gp.2] at qG
    have qS := Lib.hid (fun w v1 v2 h1 h2 => SameF_any v1 v2 (much m) (much m) w h1 h2 (by omega) (by omega))
    rw [decide_eq_true (rfl : much m = much m)] at qS
    by_cases hm4 : m ≤ 4
    · have hE : putE (much m) = 0 := by unfold putE; rw [hmay, if_pos rfl, if_pos (by omega)]
      rw [hE] at qP qG
      rw [if_pos rfl] at qG
      have t0 : decide ((1048576 : Int) < 1048572 + (m : Int)) = false := decide_eq_false (by omega)
      clear gp hps hsh hused hfit hmay hE hlen hnm
      generalize putV (much m) = PV at *
      generalize putF (much m) = PF at *
      generalize much m = LL at *
      go_wp2_with fail
      with_reducible refine (qP.out _ _ HF5).mono ?_
      rintro e w6 ⟨rfl, hb⟩
      have HF6 := Lib.hid (HF5.out.call hb)
      have HB6 := Lib.hid (HB5.out.trans (hb.mono HB5.out.size))
      clear hb
      go_wp2_with fail
      with_reducible refine (qR.out _ _ HF6).mono ?_
      rintro e w7 ⟨rfl, hb⟩
      have HF7 := Lib.hid (HF6.out.call hb)
      have HB7 := Lib.hid (HB6.out.trans (hb.mono HB6.out.size))
      clear hb
      go_wp2_with fail
      with_reducible refine (qG.out _).mono ?_
      rintro e w8 ⟨⟨v8, rfl, hf8⟩, hb⟩
      have HF8 := Lib.hid hf8
      have HG8 := Lib.hid (HF7.out.call hb)
      have HB8 := Lib.hid (HB7.out.trans (hb.mono HB7.out.size))
      clear hb hf8
      go_wp2_with fail
      with_reducible refine (qS.out _ _ _ HF8 HG8).mono ?_
      rintro e w9 ⟨rfl, hb⟩
      have HB9 := Lib.hid (HB8.out.trans (hb.mono HB8.out.size))
      clear hb
      go_wp2_with fail
      go_ret
      exact ⟨rfl, HB9.out⟩
    · have hE : putE (much m) = 4 := by unfold putE; rw [hmay, if_pos rfl, if_neg (by omega)]
      have hV : putV (much m) = ⟨#[]⟩ := by unfold putV; rw [if_neg (by rw [hE]; decide)]
      rw [hE, hV] at qP
      rw [hE, if_neg (by decide)] at qG
      have t0 : decide ((1048576 : Int) < 1048572 + (m : Int)) = true := decide_eq_true (by omega)
      clear gp hps hsh hused hfit hmay hE hV hlen hnm qS
      generalize putF (much m) = PF at *
      generalize much m = LL at *
      go_wp2_with fail
      with_reducible refine (qP.out _ _ HF5).mono ?_
      rintro e w6 ⟨rfl, hb⟩
      have HF6 := Lib.hid (HF5.out.call hb)
      have HB6 := Lib.hid (HB5.out.trans (hb.mono HB5.out.size))
      clear hb
      go_wp2_with fail
      with_reducible refine (qR.out _ _ HF6).mono ?_
      rintro e w7 ⟨rfl, hb⟩
      have HB7 := Lib.hid (HB6.out.trans (hb.mono HB6.out.size))
      clear hb
      go_wp2_with fail
      with_reducible refine (qG.out _).mono ?_
      rintro e w8 ⟨⟨v8, rfl, hf8⟩, hb⟩
      obtain ⟨A8, c8, rfl, _⟩ := hf8
      have HB8 := Lib.hid (HB7.out.trans (hb.mono HB7.out.size))
      clear hb
      simp only [List.length_nil]
      go_wp2_with fail
      go_ret
      exact ⟨rfl, HB8.out⟩
theorem BundleMuch_any (x : Int) (w : World) (h : 0 ≤ x ∧ x ≤ 255) : Calls Try.prog 4 #[.int .u8 x] w fun e w' => e = .returned (.bool true) ∧ Below w.heap.size w w' := by
  obtain ⟨b, rfl⟩ := Int.eq_ofNat_of_zero_le h.1
  exact BundleMuch_walk b w (by omega)
end Go.Proofs.Ytaigngdlioplaaa
