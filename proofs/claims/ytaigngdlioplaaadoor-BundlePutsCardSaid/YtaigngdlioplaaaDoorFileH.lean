/- The bundle's laws: what was put is got; BundleMuch (printed by genFileH.py). -/
import Derived.Test.YtaigngdlioplaaaDoorFileG
import Derived.Test.YtaigngdlioplaaaDoorRegD
import Derived.OwnWalk
namespace Go.Proofs.YtaigngdlioplaaaDoor
open Go Go.RowKit
set_option linter.unusedVariables false
set_option linter.unusedSimpArgs false

def rowsB (l : List Fil) : List UInt8 := l.flatMap fun f => (rowStr f.1).data.toList ++ (rowStr f.2).data.toList
theorem putFrom_rows : ∀ (l : List Fil) (s0 : ByteArray), (putFrom s0 l).data.toList = s0.data.toList ++ rowsB l
  | [], s0 => by simp [putFrom, rowsB]
  | f :: l, s0 => by
    show (putFrom ((s0 ++ rowStr f.1) ++ rowStr f.2) l).data.toList = _
    rw [putFrom_rows l]
    simp [rowsB, ByteArray.data_append]
theorem getR_in (s : ByteArray) : ∀ (l : List Fil) (p : Nat) (acc : List Fil), p ≤ s.size → s.data.toList.drop p = rowsB l → Fit l → getR s l.length p 0 acc = (acc ++ l, s.size, 0)
  | [], p, acc, hp, h, _ => by
    have hl : (s.data.toList.drop p).length = 0 := by rw [h]; rfl
    rw [drop_len] at hl
    rw [show p = s.size by omega]
    simp [getR]
  | f :: l, p, acc, hp, h, hF => by
    have hf := hF 0 f rfl
    have h1 : s.data.toList.drop p = (rowStr f.1).data.toList ++ ((rowStr f.2).data.toList ++ rowsB l) := by rw [h]; simp [rowsB]
    have e1 : nmR s p 0 = (f.1, p + (rowStr f.1).size, 0) := rRow_at s p f.1 _ 16 (by omega) (by omega) h1
    have h2 := drop_step h1
    have hp1 : p + (rowStr f.1).size ≤ s.size := by have := rRow_p_le s p 0 16 hp; rw [show rRow s p 0 16 = nmR s p 0 from rfl, e1] at this; exact this
    have e2 : rRow s (p + (rowStr f.1).size) 0 1048576 = (f.2, p + (rowStr f.1).size + (rowStr f.2).size, 0) := rRow_at s _ f.2 _ 1048576 (by omega) (by omega) h2
    have hp2 : p + (rowStr f.1).size + (rowStr f.2).size ≤ s.size := by have := rRow_p_le s (p + (rowStr f.1).size) 0 1048576 hp1; rw [e2] at this; exact this
    have e3 : btR s p 0 = (f.2, p + (rowStr f.1).size + (rowStr f.2).size, 0) := by unfold btR; rw [e1]; exact e2
    have ih := getR_in s l _ (acc ++ [f]) hp2 (drop_step h2) (fun i g hg => hF (i + 1) g (by simpa using hg))
    show getR s (l.length + 1) p 0 acc = _
    rw [getR, e1, e3, if_pos rfl]
    rw [ih]
    simp
/-- What was put is got. -/
theorem get_put {l : List Fil} (hm : mayF l = true) (hF : Fit l) : getE (putF l) = putE l ∧ getL (putF l) = if putE l = 0 then l else [] := by
  have hl := (mayF_short hm).2
  have hd : (putF l).data.toList.drop 0 = (numStr l.length).data.toList ++ rowsB l := by rw [List.drop_zero]; exact putFrom_rows l _
  have e0 := rNum_in (putF l) 0 l.length (rowsB l) 4096 hl (by omega) hd
  have h1 := drop_step hd
  have hp : 0 + (numStr l.length).size ≤ (putF l).size := by have := rNum_p_le (putF l) 0 0 4096 (Nat.zero_le _); rw [e0] at this; exact this
  have hg := getR_in (putF l) l _ [] hp h1 hF
  have ha : allR (putF l) = (l, (putF l).size, 0) := by
    unfold allR cntR
    rw [e0]
    simp only [Int.toNat_natCast]
    rw [hg]
    simp
  have hn : ¬ ((putF l).size < (putF l).size ∨ mayF l = false) := by
    rw [hm]; simp
  have hE : getE (putF l) = putE l := by
    unfold getE putE
    rw [ha, hm, if_pos rfl]
    by_cases hu : usedF l ≤ 1048576
    · rw [if_pos hu]; exact endE_ok hn (by omega)
    · rw [if_neg hu]; exact endE_much hn (by omega)
  refine ⟨hE, ?_⟩
  unfold getL
  rw [hE, ha]

def zeros (n : Nat) : ByteArray := strOfNums (List.replicate n 0)
theorem zeros_size (n : Nat) : (zeros n).size = n := by unfold zeros; rw [strOfNums_size]; simp
theorem made_zero (n : Nat) : (madeCells (Value.int .u8 0).cells (n * 1)).toList = (List.replicate n (0 : Int)).map (Value.int .u8) := by
  unfold madeCells
  rw [Nat.mul_one, Array.toList_map, List.map_replicate]
  refine List.eq_replicate_iff.2 ⟨by simp, fun v hv => ?_⟩
  obtain ⟨j, _, rfl⟩ := List.mem_map.1 hv
  show (#[Value.int .u8 0] : Array Value)[j % 1]! = _
  rw [Nat.mod_one]
  rfl

section
variable {P : Program} {ops : Array Oper} {md : Region.Mode} {C C' : World → Prop} {ex : List Nat}
theorem wpAnyD_weaken (hC : ∀ w, C' w → C w) {Q : Exit → Act → World → Prop} : ∀ {f : Nat} {L : Array Bool} {a : Act} {w : World}, wpAnyD P md ops C' ex Q f L a w → wpAnyD P md ops C ex Q f L a w
  | 0, _, _, _, h => h
  | f + 1, _, _, _, h => ⟨h.1, fun i hi => wpOp_mono (fun a' w' h' => ⟨fun he => hC _ (h'.1 he), wpAnyD_weaken hC h'.2⟩) (h.2 i hi)⟩
theorem wpAnyD_two {Q : Exit → Act → World → Prop} (i j : Nat) {oi oj : Oper} {f : Nat} {L Li Lj : Array Bool} {a : Act} {w : World} (hr : Region.ready md ops L = [i, j]) (hLi : L.setIfInBounds i true = Li) (hLj : L.setIfInBounds j true = Lj)
    (h0 : ops[i]? = some oi) (h1 : ops[j]? = some oj) (hgi : Region.wanted oi (yielded ops a.tmps) = true) (hgj : Region.wanted oj (yielded ops a.tmps) = true)
    (hi : wpList P ops (StepQ (keepsC ex C i) (OnlyN Q) (wpAnyD P md ops C ex (OnlyN Q) f Li)) [oi] a w) (hj : wpList P ops (StepQ (keepsC ex C j) (OnlyN Q) (wpAnyD P md ops C ex (OnlyN Q) f Lj)) [oj] a w) :
    wpAnyD P md ops C ex (OnlyN Q) (f + 1) L a w := by
  subst hLi hLj
  refine ⟨fun h1 => (by rw [hr] at h1; cases h1), fun k hk => ?_⟩
  rw [hr] at hk
  rcases List.mem_cons.1 hk with rfl | hk
  · exact wpOp_of_listG h0 hgi hi
  · obtain rfl : k = j := by simpa using hk
    exact wpOp_of_listG h1 hgj hj
theorem pure_str {K : Act → Prop} {o : Oper} {l : List Oper} {a : Act} (x : Operand) (t dst : TypeId) (v : Value) (s : ByteArray) (ho : o.op = .convert t dst x) (hg : Region.wanted o (yielded ops a.tmps) = true) (hx : a.eval x = v)
    (hr : ∀ w, C w → (convert t dst v).run P w = .ok (.string s) w) (h : wpPure P ops C K l (a.put o.dst (.string s))) : wpPure P ops C K (o :: l) a :=
  pure_atG (.string s) hg (fun w hw => by simp [execOp, ho, hx, hr w hw, Result.andThen]) h
end

def nmB : ByteArray := ⟨#[98]⟩
def much (m : Nat) : List Fil := [(nmA, zeros 524288), (nmB, zeros (524284 + m))]
theorem much_used (m : Nat) : usedF (much m) = 1048572 + m := by
  unfold much usedF
  simp [zeros_size]; omega
theorem much_may (m : Nat) : mayF (much m) = true := by
  unfold mayF
  rw [Bool.and_eq_true]
  refine ⟨by simp [much], ?_⟩
  have h1 := mayK_step (l := much m) (k := 0) (f := (nmA, zeros 524288)) rfl rfl (okF_first (by decide +kernel) (by rw [zeros_size]; decide))
  exact mayK_step (l := much m) (k := 1) (f := (nmB, zeros (524284 + m))) rfl h1 (by rw [okF_next (l := much m) (j := 0) (g := (nmA, zeros 524288)) (by decide +kernel) (by rw [zeros_size]; omega) rfl]; rw [befS]; rw [ByteArray.toList_eq, ByteArray.toList_eq]; rfl)
theorem much_fit (m : Nat) (h : m ≤ 7) : Fit (much m) := fun i f hf => by
  match i, hf with
  | 0, hf => simp [much] at hf; subst hf; exact ⟨by show nmA.size ≤ 16; decide, by show (zeros _).size ≤ _; rw [zeros_size]; decide⟩
  | 1, hf => simp [much] at hf; subst hf; exact ⟨by show nmB.size ≤ 16; decide, by show (zeros _).size ≤ _; rw [zeros_size]; omega⟩
  | i + 2, hf => simp [much] at hf
theorem much_at (w : World) (m : Nat) : FilesAt (w.alloc (.cells #[.string ⟨#[97]⟩, .string (zeros 524288), .string ⟨#[98]⟩, .string (zeros (524284 + m))] 113)) (.slice (some ⟨w.heap.size, 0, none⟩) 2 2) (much m) := by
  refine ⟨some ⟨w.heap.size, 0, none⟩, 2, rfl, fun i f hf => ?_⟩
  match i, hf with
  | 0, hf => simp [much] at hf; subst hf; exact ⟨w.heap.size, 0, rfl, by simp, cells_of_blk (heap_new _ _) 0 _ rfl, cells_of_blk (heap_new _ _) 1 _ rfl⟩
  | 1, hf => simp [much] at hf; subst hf; exact ⟨w.heap.size, 0, rfl, by simp, cells_of_blk (heap_new _ _) 2 _ rfl, cells_of_blk (heap_new _ _) 3 _ rfl⟩
  | i + 2, hf => simp [much] at hf

end Go.Proofs.YtaigngdlioplaaaDoor
