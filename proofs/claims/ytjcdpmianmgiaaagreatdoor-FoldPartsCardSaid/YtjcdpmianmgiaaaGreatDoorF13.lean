/- Part 14 of what the claim rests on. -/
import Derived.Test.YtjcdpmianmgiaaaGreatDoorF00
import Derived.Test.YtjcdpmianmgiaaaGreatDoorF01
import Derived.Test.YtjcdpmianmgiaaaGreatDoorF05
import Derived.Test.YtjcdpmianmgiaaaGreatDoorF06
import Derived.Test.YtjcdpmianmgiaaaGreatDoorF12
import Derived.Maps.OwnOps
import Derived.Maps.Views
namespace Go.Proofs.YtjcdpmianmgiaaaGreatDoor
open Go Go.ChangeShapes Go.WideShapes Go.Deep Go.ChangeAt Go.RowKit
set_option linter.unusedVariables false
section
variable {H : Type} {enc : TypeId × Value → H} {P : Program} {w : World}
theorem open_recs {t e : TypeId} {fs : Array Field} (ht : P.underlying t = some (.slice e)) (he : P.underlying e = some (.struct fs)) (hone : oneCellFields P fs = true) (hC : P.cellsOf e = fs.size) (hpos : 0 < fs.size)
    (hI : ∀ (j : Nat) (f : Field), fs[j]? = some f → P.underlying f.type = some (.int .i64)) {m : Nat} {c : Value} {y : DataW H × List MemPlace} (hf : DataW.trod enc P w 0 (fun _ => true) true m t [c] = some y) :
    ∃ l : List (List Int), RowAt w c fs.size l ∧ l.length ≤ maxLen ∧ ∀ r ∈ l, ∀ x ∈ r, I64 x := by
  rcases open_slice ht hf with ⟨hcs, _⟩ | ⟨a, len, cap, m', n, D, Pl, hcs, hb, hl, hm, hmm, _, hi⟩
  · have hcs := List.cons.inj hcs |>.1
    subst hcs
    exact ⟨[], ⟨none, 0, rfl, fun r hr => by simp at hr, .inl rfl⟩, Nat.zero_le _, fun r hr => by simp at hr⟩
  · have hcs := List.cons.inj hcs |>.1
    subst hcs
    simp only [if_true] at hmm
    subst hmm
    have hA : ∀ ij : Nat × Nat, ∃ x : Int, ij.1 < len → ij.2 < fs.size → ((∃ b o, a = ⟨b, o, none⟩ ∧ b < w.heap.size ∧ w.cell? ⟨b, o + ij.1 * fs.size + ij.2, none⟩ = some (.int .i64 x)) ∧ I64 x) := by
      rintro ⟨i, j⟩
      by_cases hin : i < len
      · by_cases hjn : j < fs.size
        · obtain ⟨cs', hc, ht'⟩ := hi i (by omega)
          rw [hC] at hc
          obtain ⟨_, hcl, hat⟩ := World.cells?_some hc
          obtain ⟨ys, n', _, _, _, hyl, hff⟩ := DataW.trod_struct he ht'
          have hfj : fs[j]? = some fs[j] := Array.getElem?_eq_getElem hjn
          obtain ⟨ho, hk⟩ := hone_of hone j _ hfj
          have hcell := hat j hjn
          rw [List.getElem?_eq_getElem (by omega)] at hcell
          have h1 := hff j _ hfj
          rw [ho, hk] at h1
          have hone' : (cs'.drop j).take 1 = [cs'[j]'(by omega)] := by
            rw [List.drop_eq_getElem_cons (by omega)]
            rfl
          rw [hone', List.getElem?_eq_getElem (by omega)] at h1
          obtain ⟨x, hx, hwf⟩ := leaf_int (hI j _ hfj) h1
          rw [hx] at hcell
          have hsp0 : a.spot = none := by
            obtain ⟨cs0, hc0, _⟩ := hi 0 (by omega)
            rw [hC] at hc0
            obtain ⟨_, hcl0, hat0⟩ := World.cells?_some hc0
            have h2 := hat0 0 hpos
            rw [Nat.zero_mul] at h2
            have e0 : (a.add 0).add 0 = a := by simp [Addr.add]
            rw [e0, List.getElem?_eq_getElem (by omega)] at h2
            exact spot_none h2
          have h0 := addr_none hsp0
          generalize a.block = b at h0
          generalize a.off = o at h0
          subst h0
          rw [add_at, add_at] at hcell
          exact ⟨x, fun _ _ => ⟨⟨b, o, rfl, World.block_lt_of_cell? w _ hcell, hcell⟩, (wf_i64 hwf).out⟩⟩
        · exact ⟨0, fun _ h => absurd h hjn⟩
      · exact ⟨0, fun h => absurd h hin⟩
    obtain ⟨g, hg⟩ := Classical.axiomOfChoice hA
    have hk : ∀ r ∈ (List.range len).map (fun i => (List.range fs.size).map fun j => g (i, j)), r.length = fs.size := fun r hr => by
      obtain ⟨i, _, rfl⟩ := List.mem_map.1 hr
      simp
    have hlen : ((List.range len).map (fun i => (List.range fs.size).map fun j => g (i, j))).length = len := by simp
    refine ⟨(List.range len).map (fun i => (List.range fs.size).map fun j => g (i, j)), ⟨some a, m', by rw [hlen], hk, ?_⟩, by rw [hlen]; omega, fun r hr x hx => ?_⟩
    · by_cases h0 : len = 0
      · subst h0; exact .inl rfl
      · obtain ⟨⟨b, o, rfl, hbl, _⟩, _⟩ := hg (0, 0) (by show 0 < len; omega) hpos
        refine .inr ⟨b, o, rfl, hbl, fun j x hj => ?_⟩
        have hjl := (List.getElem?_eq_some_iff.1 hj).1
        rw [flat_len hk, hlen] at hjl
        have hd : j / fs.size < len := (Nat.div_lt_iff_lt_mul hpos).2 hjl
        have hmd : j % fs.size < fs.size := Nat.mod_lt _ hpos
        have h1 := flat_get (l := (List.range len).map (fun i => (List.range fs.size).map fun j => g (i, j))) (i := j / fs.size) (j := j % fs.size) hk (by rw [List.getElem?_map, List.getElem?_range hd]; rfl) (x := g (j / fs.size, j % fs.size)) (by rw [List.getElem?_map, List.getElem?_range hmd]; rfl)
        have hj' : j / fs.size * fs.size + j % fs.size = j := by rw [Nat.mul_comm]; exact Nat.div_add_mod j fs.size
        rw [hj', hj] at h1
        injection h1 with h1
        obtain ⟨⟨b', o', he', _, hcell⟩, _⟩ := hg (j / fs.size, j % fs.size) hd hmd
        injection he' with hb' ho'
        subst hb' ho' h1
        simp only at hcell
        rw [Nat.add_assoc, hj'] at hcell
        exact hcell
    · obtain ⟨i, hi', rfl⟩ := List.mem_map.1 hr
      obtain ⟨j, hj', rfl⟩ := List.mem_map.1 hx
      exact (hg (i, j) (by simpa using hi') (by simpa using hj')).2
end
def intF (P : Program) (fs : Array Field) : Bool := (List.range fs.size).all fun j => match fs[j]? with | some f => isI64 (P.underlying f.type) | none => true
theorem intF_spec {P : Program} {fs : Array Field} (h : intF P fs = true) (j : Nat) (f : Field) (hj : fs[j]? = some f) : P.underlying f.type = some (.int .i64) := by
  have h1 := List.all_eq_true.1 h j (List.mem_range.2 (zL hj))
  rw [hj] at h1
  exact isI64_spec h1
end Go.Proofs.YtjcdpmianmgiaaaGreatDoor
namespace Go.Proofs.YtjcdpmianmgiaaaGreatDoor
open Go Go.RowKit
set_option linter.unusedVariables false
set_option linter.unusedSimpArgs false
section
variable {P : Program} {ops : Array Oper} {rest : List Oper} {o : Oper} {a : Act} {Q : Exit → Act → World → Prop}
end
end Go.Proofs.YtjcdpmianmgiaaaGreatDoor
namespace Go.Proofs.YtjcdpmianmgiaaaGreatDoor
open Go Go.RowKit
set_option linter.unusedVariables false
set_option linter.unusedSimpArgs false
section
variable {P : Program} {ops : Array Oper} {rest : List Oper} {o : Oper} {a : Act} {Q : Exit → Act → World → Prop}
end
end Go.Proofs.YtjcdpmianmgiaaaGreatDoor
namespace Go.Proofs.YtjcdpmianmgiaaaGreatDoor
open Go Go.RowKit
set_option linter.unusedVariables false
set_option maxRecDepth 100000 in
set_option maxHeartbeats 1000000 in
theorem Holds_over (r a b : Int) (w : World) : Calls Tryz.prog 61 #[.agg #[.int .i64 r, .int .i64 a, .int .i64 b, .bool true]] w fun e w' => e = .returned (.bool false) ∧ Below w.heap.size w w' := by
  have hb := (Below.refl w.heap.size w).alloc (Nat.le_refl _) (.cells #[.int .i64 r, .int .i64 a, .int .i64 b, .bool true] 50)
  have HB := zH hb
  clear hb
  go_enter Tryz.func61, Tryz.ntmps61
  go_wp2_with fail
  go_region
  go_wp2_with fail
  go_ret
  exact ⟨rfl, HB.out.drew⟩
set_option maxRecDepth 100000 in
set_option maxHeartbeats 1000000 in
theorem Holds_rel0 (r a b : Int) (hr : I64 r) (h : relS r = 0) (w : World) (hT : Hid (Law16 w)) : Calls Tryz.prog 61 #[.agg #[.int .i64 r, .int .i64 a, .int .i64 b, .bool false]] w fun e w' => e = .returned (.bool (false)) ∧ Below w.heap.size w w' := by
  have hb := (Below.refl w.heap.size w).alloc (Nat.le_refl _) (.cells #[.int .i64 r, .int .i64 a, .int .i64 b, .bool false] 50)
  have HB := zH hb
  have hT1 := zH (hT.out.call hb)
  have hk : (w.alloc (.cells #[.int .i64 r, .int .i64 a, .int .i64 b, .bool false] 50)).heap[w.heap.size]? = some (.cells #[.int .i64 r, .int .i64 a, .int .i64 b, .bool false] 50) := heap_new _ _
  have c0 := cells_of_blk hk 0 _ rfl
  have c1 := cells_of_blk hk 1 _ rfl
  have c2 := cells_of_blk hk 2 _ rfl
  have c3 := cells_of_blk hk 3 _ rfl
  have lt : w.heap.size < (w.alloc (.cells #[.int .i64 r, .int .i64 a, .int .i64 b, .bool false] 50)).heap.size := zL hk
  clear hk hb
  have C0 := zH (And.intro c0 (And.intro c1 (And.intro c2 (And.intro c3 lt))))
  clear c0 c1 c2 c3 lt
  have qf := zH (fun w => rel1_any a b w)
  go_enter Tryz.func61, Tryz.ntmps61
  go_wp2_with fail
  generalize hG : w.heap.size = G at *
  have HG := zH hG
  clear hG
  generalize w.alloc (.cells #[.int .i64 r, .int .i64 a, .int .i64 b, .bool false] 50) = w1 at *
  have q : Hid (Calls Tryz.prog 120 #[.int .i64 r] w1.drew fun e w' => e = .returned (.int .i64 0) ∧ Below w1.drew.heap.size w1.drew w') := by
    have h1 := Relation_any r hr w1.drew (zH (hT1.out.call (Below.refl _ _).drew).rules)
    rw [h] at h1
    exact h1
  clear h
  have HC : Hid (Below w1.heap.size w1 w1.drew) := (Below.refl _ _).drew
  refine wp_region_D [] (fun wz => Hid (Below w1.heap.size w1 wz)) 17 #[false, false, false, false, false, false, false, false, false, false, false, false, false, false, false, false, false] (by kernel_rfl) (by kernel_rfl) (by kernel_rfl) ?_
  refine pure_moreD [0, 1, 2] 14 (L' := #[true, true, true, false, false, false, false, false, false, false, false, false, false, false, false, false, false]) (by kernel_rfl) (by kernel_rfl) HC ?_
  simp only [opsAt, List.getElem?_toArray, List.getElem?_cons_zero, List.getElem?_cons_succ]
  refine pure_atG (.pointer (some ⟨G, 3, none⟩)) rfl (fun wz _ => by unfold execOp; go_simp) ?_
  refine pure_atG (.bool false) rfl (fun wz hC => by have h0 := ((Hid.out hC).cell (p := ⟨G, 3, none⟩) C0.out.2.2.2.2).trans C0.out.2.2.2.1; unfold execOp; go_simp) ?_
  refine pure_atG (.bool true) rfl (fun wz _ => by unfold execOp; go_simp) ?_
  unfold wpPure
  go_simp
  refine pure_moreD [3] 13 (L' := #[true, true, true, true, false, false, false, false, false, false, false, false, false, false, false, false, false]) (by kernel_rfl) (by kernel_rfl) HC ?_
  simp only [opsAt, List.getElem?_toArray, List.getElem?_cons_zero, List.getElem?_cons_succ]
  refine pure_moveG rfl rfl ?_
  unfold wpPure
  go_simp
  refine pure_moreD [4, 5] 11 (L' := #[true, true, true, true, true, true, false, false, false, false, false, false, false, false, false, false, false]) (by kernel_rfl) (by kernel_rfl) HC ?_
  simp only [opsAt, List.getElem?_toArray, List.getElem?_cons_zero, List.getElem?_cons_succ]
  refine pure_atG (.pointer (some ⟨G, 0, none⟩)) rfl (fun wz _ => by unfold execOp; go_simp) ?_
  refine pure_atG (.int .i64 r) rfl (fun wz hC => by have h0 := ((Hid.out hC).cell (p := ⟨G, 0, none⟩) C0.out.2.2.2.2).trans C0.out.1; unfold execOp; go_simp) ?_
  unfold wpPure
  go_simp
  refine pure_moreD [10, 11] 9 (L' := #[true, true, true, true, true, true, false, false, false, false, true, true, false, false, false, false, false]) (by kernel_rfl) (by kernel_rfl) HC ?_
  simp only [opsAt, List.getElem?_toArray, List.getElem?_cons_zero, List.getElem?_cons_succ]
  refine pure_atG (.pointer (some ⟨G, 1, none⟩)) rfl (fun wz _ => by unfold execOp; go_simp) ?_
  refine pure_atG (.int .i64 a) rfl (fun wz hC => by have h0 := ((Hid.out hC).cell (p := ⟨G, 1, none⟩) C0.out.2.2.2.2).trans C0.out.2.1; unfold execOp; go_simp) ?_
  unfold wpPure
  go_simp
  refine pure_moreD [12, 13] 7 (L' := #[true, true, true, true, true, true, false, false, false, false, true, true, true, true, false, false, false]) (by kernel_rfl) (by kernel_rfl) HC ?_
  simp only [opsAt, List.getElem?_toArray, List.getElem?_cons_zero, List.getElem?_cons_succ]
  refine pure_atG (.pointer (some ⟨G, 2, none⟩)) rfl (fun wz _ => by unfold execOp; go_simp) ?_
  refine pure_atG (.int .i64 b) rfl (fun wz hC => by have h0 := ((Hid.out hC).cell (p := ⟨G, 2, none⟩) C0.out.2.2.2.2).trans C0.out.2.2.1; unfold execOp; go_simp) ?_
  unfold wpPure
  go_simp
  refine wpAnyD_one 6 (f := 6) (L' := #[true, true, true, true, true, true, true, false, false, false, true, true, true, true, false, false, false]) (by kernel_rfl) (by kernel_rfl) rfl rfl ?_
  go_wp2_with fail
  with_reducible refine q.out.mono ?_
  rintro e w2 ⟨rfl, hb⟩
  replace HC : Hid (Below w1.heap.size w1 w2) := HC.out.trans hb
  clear hb
  go_wp2_with fail
  rw [StepQ_normal]
  refine ⟨fun _ => HC, ?_⟩
  have hR := hT1.out.rels
  have g0 := hR.c0.2
  have g1 := hR.lt
  have G1 := zH (And.intro g0 g1)
  clear g0 g1 hR
  refine pure_moreD [7, 8, 9] 3 (L' := #[true, true, true, true, true, true, true, true, true, true, true, true, true, true, false, false, false]) (by kernel_rfl) (by kernel_rfl) HC ?_
  simp only [opsAt, List.getElem?_toArray, List.getElem?_cons_zero, List.getElem?_cons_succ]
  refine pure_atG (.pointer (some ⟨0, 0, none⟩)) rfl (fun wz _ => by unfold execOp; go_simp) ?_
  refine pure_atG (.pointer (some ⟨0, 1, none⟩)) rfl (fun wz _ => by unfold execOp; go_simp) ?_
  refine pure_atG (.func (.func 241) #[] #[]) rfl (fun wz hC => by have h0 := ((Hid.out hC).cell (p := ⟨0, 1, none⟩) G1.out.2).trans G1.out.1; unfold execOp; go_simp) ?_
  unfold wpPure
  go_simp
  refine wpAnyD_one 14 (f := 2) (L' := #[true, true, true, true, true, true, true, true, true, true, true, true, true, true, true, false, false]) (by kernel_rfl) (by kernel_rfl) rfl rfl ?_
  go_wp2_with fail
  with_reducible refine (qf.out _).mono ?_
  rintro e w3 ⟨rfl, rfl⟩
  go_wp2_with fail
  rw [StepQ_normal]
  refine ⟨fun _ => HC, ?_⟩
  refine pure_moreD [15] 1 (L' := #[true, true, true, true, true, true, true, true, true, true, true, true, true, true, true, true, false]) (by kernel_rfl) (by kernel_rfl) HC ?_
  simp only [opsAt, List.getElem?_toArray, List.getElem?_cons_zero, List.getElem?_cons_succ]
  refine pure_atG (.bool false) rfl (fun wz _ => by unfold execOp; go_simp) ?_
  unfold wpPure
  go_simp
  refine wpAnyD_one 16 (f := 0) (L' := #[true, true, true, true, true, true, true, true, true, true, true, true, true, true, true, true, true]) (by kernel_rfl) (by kernel_rfl) rfl rfl ?_
  go_wp2_with fail
  rw [StepQ_normal]
  refine ⟨fun _ => HC, ?_⟩
  refine ⟨by kernel_rfl, ?_⟩
  rw [OnlyN_normal]
  go_wp2_with fail
  go_ret
  exact ⟨rfl, by rw [HG.out]; exact HB.out.trans (HC.out.mono (Nat.le_of_lt C0.out.2.2.2.2))⟩
set_option maxRecDepth 100000 in
set_option maxHeartbeats 1000000 in
theorem Holds_rel1 (r a b : Int) (hr : I64 r) (h : relS r = 1) (w : World) (hT : Hid (Law16 w)) : Calls Tryz.prog 61 #[.agg #[.int .i64 r, .int .i64 a, .int .i64 b, .bool false]] w fun e w' => e = .returned (.bool (decide (a ≤ b))) ∧ Below w.heap.size w w' := by
  have hb := (Below.refl w.heap.size w).alloc (Nat.le_refl _) (.cells #[.int .i64 r, .int .i64 a, .int .i64 b, .bool false] 50)
  have HB := zH hb
  have hT1 := zH (hT.out.call hb)
  have hk : (w.alloc (.cells #[.int .i64 r, .int .i64 a, .int .i64 b, .bool false] 50)).heap[w.heap.size]? = some (.cells #[.int .i64 r, .int .i64 a, .int .i64 b, .bool false] 50) := heap_new _ _
  have c0 := cells_of_blk hk 0 _ rfl
  have c1 := cells_of_blk hk 1 _ rfl
  have c2 := cells_of_blk hk 2 _ rfl
  have c3 := cells_of_blk hk 3 _ rfl
  have lt : w.heap.size < (w.alloc (.cells #[.int .i64 r, .int .i64 a, .int .i64 b, .bool false] 50)).heap.size := zL hk
  clear hk hb
  have C0 := zH (And.intro c0 (And.intro c1 (And.intro c2 (And.intro c3 lt))))
  clear c0 c1 c2 c3 lt
  have qf := zH (fun w => rel2_any a b w)
  obtain ⟨z, hz⟩ : ∃ z, (decide (a ≤ b)) = z := ⟨_, rfl⟩
  rw [hz] at qf ⊢
  clear hz
  go_enter Tryz.func61, Tryz.ntmps61
  go_wp2_with fail
  generalize hG : w.heap.size = G at *
  have HG := zH hG
  clear hG
  generalize w.alloc (.cells #[.int .i64 r, .int .i64 a, .int .i64 b, .bool false] 50) = w1 at *
  have q : Hid (Calls Tryz.prog 120 #[.int .i64 r] w1.drew fun e w' => e = .returned (.int .i64 1) ∧ Below w1.drew.heap.size w1.drew w') := by
    have h1 := Relation_any r hr w1.drew (zH (hT1.out.call (Below.refl _ _).drew).rules)
    rw [h] at h1
    exact h1
  clear h
  have HC : Hid (Below w1.heap.size w1 w1.drew) := (Below.refl _ _).drew
  refine wp_region_D [] (fun wz => Hid (Below w1.heap.size w1 wz)) 17 #[false, false, false, false, false, false, false, false, false, false, false, false, false, false, false, false, false] (by kernel_rfl) (by kernel_rfl) (by kernel_rfl) ?_
  refine pure_moreD [0, 1, 2] 14 (L' := #[true, true, true, false, false, false, false, false, false, false, false, false, false, false, false, false, false]) (by kernel_rfl) (by kernel_rfl) HC ?_
  simp only [opsAt, List.getElem?_toArray, List.getElem?_cons_zero, List.getElem?_cons_succ]
  refine pure_atG (.pointer (some ⟨G, 3, none⟩)) rfl (fun wz _ => by unfold execOp; go_simp) ?_
  refine pure_atG (.bool false) rfl (fun wz hC => by have h0 := ((Hid.out hC).cell (p := ⟨G, 3, none⟩) C0.out.2.2.2.2).trans C0.out.2.2.2.1; unfold execOp; go_simp) ?_
  refine pure_atG (.bool true) rfl (fun wz _ => by unfold execOp; go_simp) ?_
  unfold wpPure
  go_simp
  refine pure_moreD [3] 13 (L' := #[true, true, true, true, false, false, false, false, false, false, false, false, false, false, false, false, false]) (by kernel_rfl) (by kernel_rfl) HC ?_
  simp only [opsAt, List.getElem?_toArray, List.getElem?_cons_zero, List.getElem?_cons_succ]
  refine pure_moveG rfl rfl ?_
  unfold wpPure
  go_simp
  refine pure_moreD [4, 5] 11 (L' := #[true, true, true, true, true, true, false, false, false, false, false, false, false, false, false, false, false]) (by kernel_rfl) (by kernel_rfl) HC ?_
  simp only [opsAt, List.getElem?_toArray, List.getElem?_cons_zero, List.getElem?_cons_succ]
  refine pure_atG (.pointer (some ⟨G, 0, none⟩)) rfl (fun wz _ => by unfold execOp; go_simp) ?_
  refine pure_atG (.int .i64 r) rfl (fun wz hC => by have h0 := ((Hid.out hC).cell (p := ⟨G, 0, none⟩) C0.out.2.2.2.2).trans C0.out.1; unfold execOp; go_simp) ?_
  unfold wpPure
  go_simp
  refine pure_moreD [10, 11] 9 (L' := #[true, true, true, true, true, true, false, false, false, false, true, true, false, false, false, false, false]) (by kernel_rfl) (by kernel_rfl) HC ?_
  simp only [opsAt, List.getElem?_toArray, List.getElem?_cons_zero, List.getElem?_cons_succ]
  refine pure_atG (.pointer (some ⟨G, 1, none⟩)) rfl (fun wz _ => by unfold execOp; go_simp) ?_
  refine pure_atG (.int .i64 a) rfl (fun wz hC => by have h0 := ((Hid.out hC).cell (p := ⟨G, 1, none⟩) C0.out.2.2.2.2).trans C0.out.2.1; unfold execOp; go_simp) ?_
  unfold wpPure
  go_simp
  refine pure_moreD [12, 13] 7 (L' := #[true, true, true, true, true, true, false, false, false, false, true, true, true, true, false, false, false]) (by kernel_rfl) (by kernel_rfl) HC ?_
  simp only [opsAt, List.getElem?_toArray, List.getElem?_cons_zero, List.getElem?_cons_succ]
  refine pure_atG (.pointer (some ⟨G, 2, none⟩)) rfl (fun wz _ => by unfold execOp; go_simp) ?_
  refine pure_atG (.int .i64 b) rfl (fun wz hC => by have h0 := ((Hid.out hC).cell (p := ⟨G, 2, none⟩) C0.out.2.2.2.2).trans C0.out.2.2.1; unfold execOp; go_simp) ?_
  unfold wpPure
  go_simp
  refine wpAnyD_one 6 (f := 6) (L' := #[true, true, true, true, true, true, true, false, false, false, true, true, true, true, false, false, false]) (by kernel_rfl) (by kernel_rfl) rfl rfl ?_
  go_wp2_with fail
  with_reducible refine q.out.mono ?_
  rintro e w2 ⟨rfl, hb⟩
  replace HC : Hid (Below w1.heap.size w1 w2) := HC.out.trans hb
  clear hb
  go_wp2_with fail
  rw [StepQ_normal]
  refine ⟨fun _ => HC, ?_⟩
  have hR := hT1.out.rels
  have g0 := hR.c1.2
  have g1 := hR.lt
  have G1 := zH (And.intro g0 g1)
  clear g0 g1 hR
  refine pure_moreD [7, 8, 9] 3 (L' := #[true, true, true, true, true, true, true, true, true, true, true, true, true, true, false, false, false]) (by kernel_rfl) (by kernel_rfl) HC ?_
  simp only [opsAt, List.getElem?_toArray, List.getElem?_cons_zero, List.getElem?_cons_succ]
  refine pure_atG (.pointer (some ⟨0, 2, none⟩)) rfl (fun wz _ => by unfold execOp; go_simp) ?_
  refine pure_atG (.pointer (some ⟨0, 3, none⟩)) rfl (fun wz _ => by unfold execOp; go_simp) ?_
  refine pure_atG (.func (.func 242) #[] #[]) rfl (fun wz hC => by have h0 := ((Hid.out hC).cell (p := ⟨0, 3, none⟩) G1.out.2).trans G1.out.1; unfold execOp; go_simp) ?_
  unfold wpPure
  go_simp
  refine wpAnyD_one 14 (f := 2) (L' := #[true, true, true, true, true, true, true, true, true, true, true, true, true, true, true, false, false]) (by kernel_rfl) (by kernel_rfl) rfl rfl ?_
  go_wp2_with fail
  with_reducible refine (qf.out _).mono ?_
  rintro e w3 ⟨rfl, rfl⟩
  go_wp2_with fail
  rw [StepQ_normal]
  refine ⟨fun _ => HC, ?_⟩
  refine pure_moreD [15] 1 (L' := #[true, true, true, true, true, true, true, true, true, true, true, true, true, true, true, true, false]) (by kernel_rfl) (by kernel_rfl) HC ?_
  simp only [opsAt, List.getElem?_toArray, List.getElem?_cons_zero, List.getElem?_cons_succ]
  refine pure_atG (.bool z) rfl (fun wz _ => by unfold execOp; go_simp) ?_
  unfold wpPure
  go_simp
  refine wpAnyD_one 16 (f := 0) (L' := #[true, true, true, true, true, true, true, true, true, true, true, true, true, true, true, true, true]) (by kernel_rfl) (by kernel_rfl) rfl rfl ?_
  go_wp2_with fail
  rw [StepQ_normal]
  refine ⟨fun _ => HC, ?_⟩
  refine ⟨by kernel_rfl, ?_⟩
  rw [OnlyN_normal]
  go_wp2_with fail
  go_ret
  exact ⟨rfl, by rw [HG.out]; exact HB.out.trans (HC.out.mono (Nat.le_of_lt C0.out.2.2.2.2))⟩
set_option maxRecDepth 100000 in
set_option maxHeartbeats 1000000 in
theorem Holds_rel2 (r a b : Int) (hr : I64 r) (h : relS r = 2) (w : World) (hT : Hid (Law16 w)) : Calls Tryz.prog 61 #[.agg #[.int .i64 r, .int .i64 a, .int .i64 b, .bool false]] w fun e w' => e = .returned (.bool (decide (b ≤ a))) ∧ Below w.heap.size w w' := by
  have hb := (Below.refl w.heap.size w).alloc (Nat.le_refl _) (.cells #[.int .i64 r, .int .i64 a, .int .i64 b, .bool false] 50)
  have HB := zH hb
  have hT1 := zH (hT.out.call hb)
  have hk : (w.alloc (.cells #[.int .i64 r, .int .i64 a, .int .i64 b, .bool false] 50)).heap[w.heap.size]? = some (.cells #[.int .i64 r, .int .i64 a, .int .i64 b, .bool false] 50) := heap_new _ _
  have c0 := cells_of_blk hk 0 _ rfl
  have c1 := cells_of_blk hk 1 _ rfl
  have c2 := cells_of_blk hk 2 _ rfl
  have c3 := cells_of_blk hk 3 _ rfl
  have lt : w.heap.size < (w.alloc (.cells #[.int .i64 r, .int .i64 a, .int .i64 b, .bool false] 50)).heap.size := zL hk
  clear hk hb
  have C0 := zH (And.intro c0 (And.intro c1 (And.intro c2 (And.intro c3 lt))))
  clear c0 c1 c2 c3 lt
  have qf := zH (fun w => rel3_any a b w)
  obtain ⟨z, hz⟩ : ∃ z, (decide (b ≤ a)) = z := ⟨_, rfl⟩
  rw [hz] at qf ⊢
  clear hz
  go_enter Tryz.func61, Tryz.ntmps61
  go_wp2_with fail
  generalize hG : w.heap.size = G at *
  have HG := zH hG
  clear hG
  generalize w.alloc (.cells #[.int .i64 r, .int .i64 a, .int .i64 b, .bool false] 50) = w1 at *
  have q : Hid (Calls Tryz.prog 120 #[.int .i64 r] w1.drew fun e w' => e = .returned (.int .i64 2) ∧ Below w1.drew.heap.size w1.drew w') := by
    have h1 := Relation_any r hr w1.drew (zH (hT1.out.call (Below.refl _ _).drew).rules)
    rw [h] at h1
    exact h1
  clear h
  have HC : Hid (Below w1.heap.size w1 w1.drew) := (Below.refl _ _).drew
  refine wp_region_D [] (fun wz => Hid (Below w1.heap.size w1 wz)) 17 #[false, false, false, false, false, false, false, false, false, false, false, false, false, false, false, false, false] (by kernel_rfl) (by kernel_rfl) (by kernel_rfl) ?_
  refine pure_moreD [0, 1, 2] 14 (L' := #[true, true, true, false, false, false, false, false, false, false, false, false, false, false, false, false, false]) (by kernel_rfl) (by kernel_rfl) HC ?_
  simp only [opsAt, List.getElem?_toArray, List.getElem?_cons_zero, List.getElem?_cons_succ]
  refine pure_atG (.pointer (some ⟨G, 3, none⟩)) rfl (fun wz _ => by unfold execOp; go_simp) ?_
  refine pure_atG (.bool false) rfl (fun wz hC => by have h0 := ((Hid.out hC).cell (p := ⟨G, 3, none⟩) C0.out.2.2.2.2).trans C0.out.2.2.2.1; unfold execOp; go_simp) ?_
  refine pure_atG (.bool true) rfl (fun wz _ => by unfold execOp; go_simp) ?_
  unfold wpPure
  go_simp
  refine pure_moreD [3] 13 (L' := #[true, true, true, true, false, false, false, false, false, false, false, false, false, false, false, false, false]) (by kernel_rfl) (by kernel_rfl) HC ?_
  simp only [opsAt, List.getElem?_toArray, List.getElem?_cons_zero, List.getElem?_cons_succ]
  refine pure_moveG rfl rfl ?_
  unfold wpPure
  go_simp
  refine pure_moreD [4, 5] 11 (L' := #[true, true, true, true, true, true, false, false, false, false, false, false, false, false, false, false, false]) (by kernel_rfl) (by kernel_rfl) HC ?_
  simp only [opsAt, List.getElem?_toArray, List.getElem?_cons_zero, List.getElem?_cons_succ]
  refine pure_atG (.pointer (some ⟨G, 0, none⟩)) rfl (fun wz _ => by unfold execOp; go_simp) ?_
  refine pure_atG (.int .i64 r) rfl (fun wz hC => by have h0 := ((Hid.out hC).cell (p := ⟨G, 0, none⟩) C0.out.2.2.2.2).trans C0.out.1; unfold execOp; go_simp) ?_
  unfold wpPure
  go_simp
  refine pure_moreD [10, 11] 9 (L' := #[true, true, true, true, true, true, false, false, false, false, true, true, false, false, false, false, false]) (by kernel_rfl) (by kernel_rfl) HC ?_
  simp only [opsAt, List.getElem?_toArray, List.getElem?_cons_zero, List.getElem?_cons_succ]
  refine pure_atG (.pointer (some ⟨G, 1, none⟩)) rfl (fun wz _ => by unfold execOp; go_simp) ?_
  refine pure_atG (.int .i64 a) rfl (fun wz hC => by have h0 := ((Hid.out hC).cell (p := ⟨G, 1, none⟩) C0.out.2.2.2.2).trans C0.out.2.1; unfold execOp; go_simp) ?_
  unfold wpPure
  go_simp
  refine pure_moreD [12, 13] 7 (L' := #[true, true, true, true, true, true, false, false, false, false, true, true, true, true, false, false, false]) (by kernel_rfl) (by kernel_rfl) HC ?_
  simp only [opsAt, List.getElem?_toArray, List.getElem?_cons_zero, List.getElem?_cons_succ]
  refine pure_atG (.pointer (some ⟨G, 2, none⟩)) rfl (fun wz _ => by unfold execOp; go_simp) ?_
  refine pure_atG (.int .i64 b) rfl (fun wz hC => by have h0 := ((Hid.out hC).cell (p := ⟨G, 2, none⟩) C0.out.2.2.2.2).trans C0.out.2.2.1; unfold execOp; go_simp) ?_
  unfold wpPure
  go_simp
  refine wpAnyD_one 6 (f := 6) (L' := #[true, true, true, true, true, true, true, false, false, false, true, true, true, true, false, false, false]) (by kernel_rfl) (by kernel_rfl) rfl rfl ?_
  go_wp2_with fail
  with_reducible refine q.out.mono ?_
  rintro e w2 ⟨rfl, hb⟩
  replace HC : Hid (Below w1.heap.size w1 w2) := HC.out.trans hb
  clear hb
  go_wp2_with fail
  rw [StepQ_normal]
  refine ⟨fun _ => HC, ?_⟩
  have hR := hT1.out.rels
  have g0 := hR.c2.2
  have g1 := hR.lt
  have G1 := zH (And.intro g0 g1)
  clear g0 g1 hR
  refine pure_moreD [7, 8, 9] 3 (L' := #[true, true, true, true, true, true, true, true, true, true, true, true, true, true, false, false, false]) (by kernel_rfl) (by kernel_rfl) HC ?_
  simp only [opsAt, List.getElem?_toArray, List.getElem?_cons_zero, List.getElem?_cons_succ]
  refine pure_atG (.pointer (some ⟨0, 4, none⟩)) rfl (fun wz _ => by unfold execOp; go_simp) ?_
  refine pure_atG (.pointer (some ⟨0, 5, none⟩)) rfl (fun wz _ => by unfold execOp; go_simp) ?_
  refine pure_atG (.func (.func 243) #[] #[]) rfl (fun wz hC => by have h0 := ((Hid.out hC).cell (p := ⟨0, 5, none⟩) G1.out.2).trans G1.out.1; unfold execOp; go_simp) ?_
  unfold wpPure
  go_simp
  refine wpAnyD_one 14 (f := 2) (L' := #[true, true, true, true, true, true, true, true, true, true, true, true, true, true, true, false, false]) (by kernel_rfl) (by kernel_rfl) rfl rfl ?_
  go_wp2_with fail
  with_reducible refine (qf.out _).mono ?_
  rintro e w3 ⟨rfl, rfl⟩
  go_wp2_with fail
  rw [StepQ_normal]
  refine ⟨fun _ => HC, ?_⟩
  refine pure_moreD [15] 1 (L' := #[true, true, true, true, true, true, true, true, true, true, true, true, true, true, true, true, false]) (by kernel_rfl) (by kernel_rfl) HC ?_
  simp only [opsAt, List.getElem?_toArray, List.getElem?_cons_zero, List.getElem?_cons_succ]
  refine pure_atG (.bool z) rfl (fun wz _ => by unfold execOp; go_simp) ?_
  unfold wpPure
  go_simp
  refine wpAnyD_one 16 (f := 0) (L' := #[true, true, true, true, true, true, true, true, true, true, true, true, true, true, true, true, true]) (by kernel_rfl) (by kernel_rfl) rfl rfl ?_
  go_wp2_with fail
  rw [StepQ_normal]
  refine ⟨fun _ => HC, ?_⟩
  refine ⟨by kernel_rfl, ?_⟩
  rw [OnlyN_normal]
  go_wp2_with fail
  go_ret
  exact ⟨rfl, by rw [HG.out]; exact HB.out.trans (HC.out.mono (Nat.le_of_lt C0.out.2.2.2.2))⟩
set_option maxRecDepth 100000 in
set_option maxHeartbeats 1000000 in
theorem Holds_rel3 (r a b : Int) (hr : I64 r) (h : relS r = 3) (w : World) (hT : Hid (Law16 w)) : Calls Tryz.prog 61 #[.agg #[.int .i64 r, .int .i64 a, .int .i64 b, .bool false]] w fun e w' => e = .returned (.bool (a == b)) ∧ Below w.heap.size w w' := by
  have hb := (Below.refl w.heap.size w).alloc (Nat.le_refl _) (.cells #[.int .i64 r, .int .i64 a, .int .i64 b, .bool false] 50)
  have HB := zH hb
  have hT1 := zH (hT.out.call hb)
  have hk : (w.alloc (.cells #[.int .i64 r, .int .i64 a, .int .i64 b, .bool false] 50)).heap[w.heap.size]? = some (.cells #[.int .i64 r, .int .i64 a, .int .i64 b, .bool false] 50) := heap_new _ _
  have c0 := cells_of_blk hk 0 _ rfl
  have c1 := cells_of_blk hk 1 _ rfl
  have c2 := cells_of_blk hk 2 _ rfl
  have c3 := cells_of_blk hk 3 _ rfl
  have lt : w.heap.size < (w.alloc (.cells #[.int .i64 r, .int .i64 a, .int .i64 b, .bool false] 50)).heap.size := zL hk
  clear hk hb
  have C0 := zH (And.intro c0 (And.intro c1 (And.intro c2 (And.intro c3 lt))))
  clear c0 c1 c2 c3 lt
  have qf := zH (fun w => rel4_any a b w)
  obtain ⟨z, hz⟩ : ∃ z, (a == b) = z := ⟨_, rfl⟩
  rw [hz] at qf ⊢
  clear hz
  go_enter Tryz.func61, Tryz.ntmps61
  go_wp2_with fail
  generalize hG : w.heap.size = G at *
  have HG := zH hG
  clear hG
  generalize w.alloc (.cells #[.int .i64 r, .int .i64 a, .int .i64 b, .bool false] 50) = w1 at *
  have q : Hid (Calls Tryz.prog 120 #[.int .i64 r] w1.drew fun e w' => e = .returned (.int .i64 3) ∧ Below w1.drew.heap.size w1.drew w') := by
    have h1 := Relation_any r hr w1.drew (zH (hT1.out.call (Below.refl _ _).drew).rules)
    rw [h] at h1
    exact h1
  clear h
  have HC : Hid (Below w1.heap.size w1 w1.drew) := (Below.refl _ _).drew
  refine wp_region_D [] (fun wz => Hid (Below w1.heap.size w1 wz)) 17 #[false, false, false, false, false, false, false, false, false, false, false, false, false, false, false, false, false] (by kernel_rfl) (by kernel_rfl) (by kernel_rfl) ?_
  refine pure_moreD [0, 1, 2] 14 (L' := #[true, true, true, false, false, false, false, false, false, false, false, false, false, false, false, false, false]) (by kernel_rfl) (by kernel_rfl) HC ?_
  simp only [opsAt, List.getElem?_toArray, List.getElem?_cons_zero, List.getElem?_cons_succ]
  refine pure_atG (.pointer (some ⟨G, 3, none⟩)) rfl (fun wz _ => by unfold execOp; go_simp) ?_
  refine pure_atG (.bool false) rfl (fun wz hC => by have h0 := ((Hid.out hC).cell (p := ⟨G, 3, none⟩) C0.out.2.2.2.2).trans C0.out.2.2.2.1; unfold execOp; go_simp) ?_
  refine pure_atG (.bool true) rfl (fun wz _ => by unfold execOp; go_simp) ?_
  unfold wpPure
  go_simp
  refine pure_moreD [3] 13 (L' := #[true, true, true, true, false, false, false, false, false, false, false, false, false, false, false, false, false]) (by kernel_rfl) (by kernel_rfl) HC ?_
  simp only [opsAt, List.getElem?_toArray, List.getElem?_cons_zero, List.getElem?_cons_succ]
  refine pure_moveG rfl rfl ?_
  unfold wpPure
  go_simp
  refine pure_moreD [4, 5] 11 (L' := #[true, true, true, true, true, true, false, false, false, false, false, false, false, false, false, false, false]) (by kernel_rfl) (by kernel_rfl) HC ?_
  simp only [opsAt, List.getElem?_toArray, List.getElem?_cons_zero, List.getElem?_cons_succ]
  refine pure_atG (.pointer (some ⟨G, 0, none⟩)) rfl (fun wz _ => by unfold execOp; go_simp) ?_
  refine pure_atG (.int .i64 r) rfl (fun wz hC => by have h0 := ((Hid.out hC).cell (p := ⟨G, 0, none⟩) C0.out.2.2.2.2).trans C0.out.1; unfold execOp; go_simp) ?_
  unfold wpPure
  go_simp
  refine pure_moreD [10, 11] 9 (L' := #[true, true, true, true, true, true, false, false, false, false, true, true, false, false, false, false, false]) (by kernel_rfl) (by kernel_rfl) HC ?_
  simp only [opsAt, List.getElem?_toArray, List.getElem?_cons_zero, List.getElem?_cons_succ]
  refine pure_atG (.pointer (some ⟨G, 1, none⟩)) rfl (fun wz _ => by unfold execOp; go_simp) ?_
  refine pure_atG (.int .i64 a) rfl (fun wz hC => by have h0 := ((Hid.out hC).cell (p := ⟨G, 1, none⟩) C0.out.2.2.2.2).trans C0.out.2.1; unfold execOp; go_simp) ?_
  unfold wpPure
  go_simp
  refine pure_moreD [12, 13] 7 (L' := #[true, true, true, true, true, true, false, false, false, false, true, true, true, true, false, false, false]) (by kernel_rfl) (by kernel_rfl) HC ?_
  simp only [opsAt, List.getElem?_toArray, List.getElem?_cons_zero, List.getElem?_cons_succ]
  refine pure_atG (.pointer (some ⟨G, 2, none⟩)) rfl (fun wz _ => by unfold execOp; go_simp) ?_
  refine pure_atG (.int .i64 b) rfl (fun wz hC => by have h0 := ((Hid.out hC).cell (p := ⟨G, 2, none⟩) C0.out.2.2.2.2).trans C0.out.2.2.1; unfold execOp; go_simp) ?_
  unfold wpPure
  go_simp
  refine wpAnyD_one 6 (f := 6) (L' := #[true, true, true, true, true, true, true, false, false, false, true, true, true, true, false, false, false]) (by kernel_rfl) (by kernel_rfl) rfl rfl ?_
  go_wp2_with fail
  with_reducible refine q.out.mono ?_
  rintro e w2 ⟨rfl, hb⟩
  replace HC : Hid (Below w1.heap.size w1 w2) := HC.out.trans hb
  clear hb
  go_wp2_with fail
  rw [StepQ_normal]
  refine ⟨fun _ => HC, ?_⟩
  have hR := hT1.out.rels
  have g0 := hR.c3.2
  have g1 := hR.lt
  have G1 := zH (And.intro g0 g1)
  clear g0 g1 hR
  refine pure_moreD [7, 8, 9] 3 (L' := #[true, true, true, true, true, true, true, true, true, true, true, true, true, true, false, false, false]) (by kernel_rfl) (by kernel_rfl) HC ?_
  simp only [opsAt, List.getElem?_toArray, List.getElem?_cons_zero, List.getElem?_cons_succ]
  refine pure_atG (.pointer (some ⟨0, 6, none⟩)) rfl (fun wz _ => by unfold execOp; go_simp) ?_
  refine pure_atG (.pointer (some ⟨0, 7, none⟩)) rfl (fun wz _ => by unfold execOp; go_simp) ?_
  refine pure_atG (.func (.func 244) #[] #[]) rfl (fun wz hC => by have h0 := ((Hid.out hC).cell (p := ⟨0, 7, none⟩) G1.out.2).trans G1.out.1; unfold execOp; go_simp) ?_
  unfold wpPure
  go_simp
  refine wpAnyD_one 14 (f := 2) (L' := #[true, true, true, true, true, true, true, true, true, true, true, true, true, true, true, false, false]) (by kernel_rfl) (by kernel_rfl) rfl rfl ?_
  go_wp2_with fail
  with_reducible refine (qf.out _).mono ?_
  rintro e w3 ⟨rfl, rfl⟩
  go_wp2_with fail
  rw [StepQ_normal]
  refine ⟨fun _ => HC, ?_⟩
  refine pure_moreD [15] 1 (L' := #[true, true, true, true, true, true, true, true, true, true, true, true, true, true, true, true, false]) (by kernel_rfl) (by kernel_rfl) HC ?_
  simp only [opsAt, List.getElem?_toArray, List.getElem?_cons_zero, List.getElem?_cons_succ]
  refine pure_atG (.bool z) rfl (fun wz _ => by unfold execOp; go_simp) ?_
  unfold wpPure
  go_simp
  refine wpAnyD_one 16 (f := 0) (L' := #[true, true, true, true, true, true, true, true, true, true, true, true, true, true, true, true, true]) (by kernel_rfl) (by kernel_rfl) rfl rfl ?_
  go_wp2_with fail
  rw [StepQ_normal]
  refine ⟨fun _ => HC, ?_⟩
  refine ⟨by kernel_rfl, ?_⟩
  rw [OnlyN_normal]
  go_wp2_with fail
  go_ret
  exact ⟨rfl, by rw [HG.out]; exact HB.out.trans (HC.out.mono (Nat.le_of_lt C0.out.2.2.2.2))⟩
theorem Holds_any (s : Stp) (hs : s.fit) (w : World) (hT : Hid (Law16 w)) : Calls Tryz.prog 61 #[s.val] w fun e w' => e = .returned (.bool s.holds) ∧ Below w.heap.size w w' := by
  obtain ⟨r, a, b, o⟩ := s
  cases o with
  | true => exact Holds_over r a b w
  | false =>
    have hl := relS_lt r
    have h4 : relS r = 0 ∨ relS r = 1 ∨ relS r = 2 ∨ relS r = 3 := by omega
    unfold Stp.holds
    rcases h4 with h | h | h | h
    · have := Holds_rel0 r a b hs.1 h w hT
      rw [show (!(Stp.mk r a b false).over && Rule.is (relS (Stp.mk r a b false).rule) (Stp.mk r a b false).left (Stp.mk r a b false).right) = false by show (true && Rule.is (relS r) a b) = _; rw [h]; rfl]
      exact this
    · have := Holds_rel1 r a b hs.1 h w hT
      rw [show (!(Stp.mk r a b false).over && Rule.is (relS (Stp.mk r a b false).rule) (Stp.mk r a b false).left (Stp.mk r a b false).right) = decide (a ≤ b) by show (true && Rule.is (relS r) a b) = _; rw [h]; rfl]
      exact this
    · have := Holds_rel2 r a b hs.1 h w hT
      rw [show (!(Stp.mk r a b false).over && Rule.is (relS (Stp.mk r a b false).rule) (Stp.mk r a b false).left (Stp.mk r a b false).right) = decide (b ≤ a) by show (true && Rule.is (relS r) a b) = _; rw [h]; rfl]
      exact this
    · have := Holds_rel3 r a b hs.1 h w hT
      rw [show (!(Stp.mk r a b false).over && Rule.is (relS (Stp.mk r a b false).rule) (Stp.mk r a b false).left (Stp.mk r a b false).right) = (a == b) by show (true && Rule.is (relS r) a b) = _; rw [h]; rfl]
      exact this
end Go.Proofs.YtjcdpmianmgiaaaGreatDoor
namespace Go.Proofs.YtjcdpmianmgiaaaGreatDoor
open Go Go.RowKit Go.Maps Go.WideMaps Go.MapKept
set_option linter.unusedVariables false
theorem keyR : Keyed Tryz.prog 3 := int_keyed Tryz.underlying3
theorem i64_wfR {x : Int} (h : I64 x) : (Lit.int .i64 x).wf = true := by
  unfold I64 at h
  simp [Lit.wf, IntKind.min, IntKind.max, IntKind.signed, IntKind.bits]
  omega
theorem zero_boolR (w : World) : (zeroValue 4).run Tryz.prog w = .ok (.bool false) w := by kernel_rfl
theorem grownR {w w' : World} (h : Below w.heap.size w w') : w.grownBy w' none := ⟨h.os, h.tape, h.output, h.size, fun k hk _ => h.block k hk⟩
theorem below_grownR {w w' : World} {B b : Nat} (h : w.grownBy w' (some b)) (hb : B ≤ b) (hl : b < w.heap.size) : Below B w w' :=
  ⟨h.os, h.tape, h.output, h.size, fun k hk => h.block k (by omega) (fun e => by cases e; omega)⟩
theorem key_litR (κ : Int) : WideAt.IsKeyLit (.int .i64 κ) := by first | trivial | exact ⟨_, _, rfl⟩ | simp [WideAt.IsKeyLit]
def SeenAt (w : World) (b n : Nat) (L : List Int) : Prop :=
  ∃ D : DataW Unit, w.ownsMap Tryz.prog 3 (plainElem Tryz.prog 4) b n D ∧ ∀ x, D.atKey (.int .i64 x) (.lit (.bool false)) = .lit (.bool (L.any fun y => y == x))
theorem SeenAt.made (w : World) : SeenAt (w.alloc (.map #[] 0)) w.heap.size 0 [] := ⟨.map [], World.ownsMap_made _ _ _ _, fun x => rfl⟩
theorem SeenAt.lt {w : World} {b n : Nat} {L : List Int} (h : SeenAt w b n L) : b < w.heap.size := by
  obtain ⟨D, h1, _⟩ := h
  exact h1.lt
theorem SeenAt.call {w w' : World} {b n : Nat} {L : List Int} (h : SeenAt w b n L) (hb : Below w.heap.size w w') : SeenAt w' b n L := by
  obtain ⟨D, h1, h2⟩ := h
  exact ⟨D, h1.kept (grownR hb) (by simp), h2⟩
set_option maxRecDepth 100000 in
theorem SeenAt.look {w : World} {b n : Nat} {L : List Int} (h : SeenAt w b n L) {r : Int} (hr : I64 r) {z : Bool} (hz : (L.any fun y => y == r) = z) : (Instr.lookup 155 (.map (some b)) (.int .i64 r) false).run Tryz.prog w = .ok (.bool z) w := by
  obtain ⟨D, h1, h2⟩ := h
  obtain ⟨v, ps, hrun, hv⟩ := h1.lookup keyR Tryz.underlying155 (zero_boolR w) (plainElem_bool Tryz.underlying4 false) (keyOf_int_mk Tryz.underlying3 (i64_wfR hr))
  rw [h2 r, hz] at hv
  have hvz : v = .bool z := by
    unfold plainElem at hv
    rw [Tryz.underlying4] at hv
    cases v <;> simp at hv
    obtain ⟨h1, _⟩ := hv
    rw [h1]
  subst hvz
  exact hrun
section
variable {ops : Array Oper} {rest : List Oper} {o : Oper} {a : Act} {Q : Exit → Act → World → Prop}
theorem any_snoc (L : List Int) (r x : Int) : ((L ++ [r]).any fun y => y == x) = ((L.any fun y => y == x) || (r == x)) := by simp
theorem wpList_update_seen (w : World) (hgd : o.guard = none) (m x v : Operand) (hop : o.op = Op.mapUpdate 155 m x v) {b n : Nat} {L : List Int} (h : Hid (SeenAt w b n L)) (hn : n ≤ 1000) (r : Int) (hr : I64 r)
    (hm : a.eval m = .map (some b)) (hx : a.eval x = .int .i64 r) (hv : a.eval v = .bool true) (hK : ∀ w', Hid (SeenAt w' b (n + 1) (L ++ [r])) → Hid (w.grownBy w' (some b)) → wpList Tryz.prog ops Q rest (a.put o.dst undef) w') : wpList Tryz.prog ops Q (o :: rest) a w := by
  obtain ⟨D, h1, h2⟩ := h.out
  refine wpList_mapUpdate_own _ hgd _ _ _ 155 hop 3 4 keyR Tryz.underlying155 _ b n D hm h1 (by unfold maxLen; omega) _ _ (.int .i64 r) hx hv (keyOf_int_mk Tryz.underlying3 (i64_wfR hr)) (.lit (.bool true)) [] (plainElem_bool Tryz.underlying4 true) ?_
  intro w' h3 h4
  refine hK w' ⟨_, h3, fun y => ?_⟩ h4
  rw [any_snoc]
  by_cases hy : y = r
  · subst hy
    rw [atKey_put_same h1.isMap (key_litR _)]
    simp
  · rw [atKey_put_other (by intro e; cases e; exact hy rfl), h2 y]
    have : (r == y) = false := beq_eq_false_iff_ne.2 (Ne.symm hy)
    rw [this, Bool.or_false]
end
def StepsAt (w : World) (v : Value) (l : List Stp) : Prop :=
  ∃ A c, v = .slice A l.length c ∧ ∀ (i : Nat) (s : Stp), l[i]? = some s → s.fit ∧ ∃ b o, A = some ⟨b, o, none⟩ ∧ b < w.heap.size ∧ w.cell? ⟨b, o + i * 4, none⟩ = some (.int .i64 s.rule) ∧ w.cell? ⟨b, o + i * 4 + 1, none⟩ = some (.int .i64 s.left) ∧ w.cell? ⟨b, o + i * 4 + 2, none⟩ = some (.int .i64 s.right) ∧ w.cell? ⟨b, o + i * 4 + 3, none⟩ = some (.bool s.over)
theorem StepsAt.call {w w' : World} {v : Value} {l : List Stp} (h : StepsAt w v l) (hb : Below w.heap.size w w') : StepsAt w' v l := by
  obtain ⟨A, c, hv, hi⟩ := h
  refine ⟨A, c, hv, fun i s hs => ?_⟩
  obtain ⟨hf, b, o, ha, hlt, h1, h2, h3, h4⟩ := hi i s hs
  exact ⟨hf, b, o, ha, Nat.lt_of_lt_of_le hlt hb.size, (hb.cell (p := ⟨b, o + i * 4, none⟩) hlt).trans h1, (hb.cell (p := ⟨b, o + i * 4 + 1, none⟩) hlt).trans h2, (hb.cell (p := ⟨b, o + i * 4 + 2, none⟩) hlt).trans h3, (hb.cell (p := ⟨b, o + i * 4 + 3, none⟩) hlt).trans h4⟩
end Go.Proofs.YtjcdpmianmgiaaaGreatDoor
namespace Go.Proofs.YtjcdpmianmgiaaaGreatDoor
open Go Go.RowKit
set_option linter.unusedVariables false
set_option linter.unusedSimpArgs false
def stpC (s : Stp) : List Value := [.int .i64 s.rule, .int .i64 s.left, .int .i64 s.right, .bool s.over]
def flatS (l : List Stp) : List Value := l.flatMap stpC
theorem flatS_append (l m : List Stp) : flatS (l ++ m) = flatS l ++ flatS m := by simp [flatS]
theorem flatS_get : ∀ {l : List Stp} {i j : Nat} {s : Stp} {x : Value}, l[i]? = some s → (stpC s)[j]? = some x → (flatS l)[i * 4 + j]? = some x
  | [], i, j, s, x, hi, _ => by simp at hi
  | a :: t, 0, j, s, x, hi, hj => by
    obtain rfl : a = s := by simpa using hi
    rw [flatS, List.flatMap_cons, Nat.zero_mul, Nat.zero_add, List.getElem?_append_left (List.getElem?_eq_some_iff.1 hj).1, hj]
  | a :: t, i + 1, j, s, x, hi, hj => by
    rw [flatS, List.flatMap_cons, List.getElem?_append_right (by show 4 ≤ _; omega), show (i + 1) * 4 + j - (stpC a).length = i * 4 + j by show (i + 1) * 4 + j - 4 = _; omega]
    exact flatS_get (by simpa using hi) hj
def StepsOwn (w : World) (B : Nat) (v : Value) (l : List Stp) : Prop := w.ownsRow B 50 4 v l.length (flatS l) ∧ ∀ s ∈ l, s.fit
theorem StepsOwn.nil (w : World) (B : Nat) : StepsOwn w B (.slice none 0 0) [] := ⟨World.ownsRow_nil _ _ _ _, fun s hs => by simp at hs⟩
theorem StepsOwn.form {w : World} {B : Nat} {v : Value} {l : List Stp} (h : StepsOwn w B v l) : ∃ A c, v = .slice A l.length c := by
  rcases h.1.2 with ⟨rfl, h0⟩ | ⟨g, cap, cur, rfl, _⟩
  · exact ⟨none, 0, by rw [h0]⟩
  · exact ⟨_, _, rfl⟩
theorem StepsOwn.kept {w w' : World} {B : Nat} {v : Value} {l : List Stp} (h : StepsOwn w B v l) (hb : Below w.heap.size w w') : StepsOwn w' B v l := by
  refine ⟨h.1.kept (row := none) ⟨hb.os, hb.tape, hb.output, hb.size, fun j hj _ => hb.block j hj⟩ ?_, h.2⟩
  cases hv : v.ownBlock with
  | none => exact .inl rfl
  | some b => exact .inr (by simp)
theorem StepsOwn.at {w : World} {B : Nat} {v : Value} {l : List Stp} (h : StepsOwn w B v l) : StepsAt w v l := by
  obtain ⟨ho, hk⟩ := h
  rcases ho.2 with ⟨rfl, h0⟩ | ⟨g, cap, cur, rfl, hB, hg, hn, hm, hs, ht⟩
  · obtain rfl : l = [] := List.eq_nil_of_length_eq_zero h0
    exact ⟨none, 0, rfl, fun i s hi => by simp at hi⟩
  · refine ⟨some ⟨g, 0, none⟩, cap, rfl, fun i s hi => ⟨hk s (List.mem_of_getElem? hi), g, 0, rfl, (zL hg), ?_⟩⟩
    have key : ∀ j x, (stpC s)[j]? = some x → w.cell? ⟨g, 0 + (i * 4 + j), none⟩ = some x := fun j x hj => by
      have := ho.cells (g := g) rfl (i * 4 + j) x (flatS_get hi hj)
      rwa [Addr.add_lit] at this
    refine ⟨key 0 _ rfl, ?_, ?_, ?_⟩
    · have := key 1 _ rfl; rwa [← Nat.add_assoc] at this
    · have := key 2 _ rfl; rwa [← Nat.add_assoc] at this
    · have := key 3 _ rfl; rwa [← Nat.add_assoc] at this
theorem StepsOwn.ne {w : World} {B : Nat} {v : Value} {l : List Stp} (h : StepsOwn w B v l) {g : Nat} {cs : Array Value} {t : TypeId} {fr : Nat × Nat} (hg : w.heap[g]? = some (.cells cs t fr)) (hne : t ≠ 50) : v.ownBlock ≠ some g := by
  rcases h.1.2 with h | ⟨g', cap, cur, h1, h2, h3, h4⟩
  · rw [h.1]; intro e'; cases e'
  · rw [h1]
    intro e'
    have e2 : g' = g := by simpa [Value.ownBlock] using e'
    subst e2
    rw [hg] at h3
    injection h3 with h3
    injection h3 with _ h3 _
    exact hne h3
theorem StepsOwn.setOther {w : World} {B : Nat} {v : Value} {l : List Stp} (h : StepsOwn w B v l) {g : Nat} {cs : Array Value} {t : TypeId} {fr : Nat × Nat} (hg : w.heap[g]? = some (.cells cs t fr)) (hne : t ≠ 50) (i : Nat) (u : Value) : StepsOwn (w.setCell ⟨g, i, none⟩ u) B v l := by
  have hn := h.ne hg hne
  refine ⟨h.1.kept (row := some g) (grown_set0 ⟨rfl, rfl, rfl, Nat.le_refl _, fun _ _ _ => rfl⟩ i u) ?_, h.2⟩
  exact .inr hn
theorem el_Step : Elt Tryz.prog 34 50 (.agg #[.int .i64 0, .int .i64 0, .int .i64 0, .bool false]) 4 32 := Elt.mk' Tryz.underlying34 (by kernel_rfl) rfl (by decide)
structure Off (w w' : World) : Prop where
  size : w.heap.size ≤ w'.heap.size
  blk : ∀ (p : Nat) (cs : Array Value) (t : TypeId) (fr : Nat × Nat), w.heap[p]? = some (.cells cs t fr) → t ≠ 75 → t ≠ 50 → w'.heap[p]? = some (.cells cs t fr)
  map : ∀ (p clock : Nat) (es : Array MapEntry), w.heap[p]? = some (.map es clock) → w'.heap[p]? = some (.map es clock)
theorem Off.refl (w : World) : Off w w := ⟨Nat.le_refl _, fun _ _ _ _ h _ _ => h, fun _ _ _ h => h⟩
theorem Off.trans {a b c : World} (h : Off a b) (k : Off b c) : Off a c := ⟨Nat.le_trans h.size k.size, fun p cs t fr hp h1 h2 => k.blk p cs t fr (h.blk p cs t fr hp h1 h2) h1 h2, fun p c es hp => k.map p c es (h.map p c es hp)⟩
theorem Off.of {w w' : World} (h : Below w.heap.size w w') : Off w w' := ⟨h.size, fun p cs t fr hp _ _ => blk_call hp h, fun p c es hp => blk_call hp h⟩
theorem Off.set {w : World} {g : Nat} {cs : Array Value} {fr : Nat × Nat} (hg : w.heap[g]? = some (.cells cs 75 fr)) (i : Nat) (u : Value) : Off w (w.setCell ⟨g, i, none⟩ u) := by
  refine ⟨by simp [World.setCell], fun p cs' t fr' hp h1 h2 => set_oth hp i u (fun e => ?_), fun p c es hp => set_oth hp i u (fun e => ?_)⟩
  · subst e
    rw [hg] at hp
    injection hp with hp
    injection hp with _ hp _
    exact h1 hp.symm
  · subst e
    rw [hg] at hp
    injection hp with hp
    cases hp
theorem Off.fresh {w w' : World} (h : Off w w') {g : Nat} (hg : w.heap.size ≤ g) (i : Nat) (u : Value) : Off w (w'.setCell ⟨g, i, none⟩ u) := by
  refine ⟨by have := h.size; simpa [World.setCell] using this, fun p cs t fr hp h1 h2 => set_oth (h.blk p cs t fr hp h1 h2) i u (fun e => ?_), fun p c es hp => set_oth (h.map p c es hp) i u (fun e => ?_)⟩
  · have := zL hp
    omega
  · have := zL hp
    omega
theorem Off.app {w w' : World} {B : Nat} {v : Value} {l : List Stp} (h : StepsOwn w B v l) (hs : w.heap.size ≤ w'.heap.size) (ho : ∀ (g : Nat) (ob : Obj), v.ownBlock ≠ some g → w.heap[g]? = some ob → w'.heap[g]? = some ob) : Off w w' :=
  ⟨hs, fun p cs t fr hp _ h2 => ho p _ (h.ne hp h2) hp, fun p c es hp => ho p _ (fun e => by
    rcases h.1.2 with h | ⟨g', cap, cur, h1, h2, h3, h4⟩
    · rw [h.1] at e; cases e
    · rw [h1] at e
      have e2 : g' = p := by simpa [Value.ownBlock] using e
      subst e2
      rw [hp] at h3
      injection h3 with h3
      cases h3) hp⟩
section
variable {P : Program} {ops : Array Oper} {rest : List Oper} {o : Oper} {a : Act} {Q : Exit → Act → World → Prop}
theorem wpList_append_stp {wr W : World} {B p : Nat} (s x : Operand) (t : TypeId) (he : Elt P t 50 (.agg #[.int .i64 0, .int .i64 0, .int .i64 0, .bool false]) 4 32) (r : Stp) (v : Value) (l : List Stp)
    (hb : Below B W wr) (hown : Hid (StepsOwn wr B v l)) (hB : B ≤ wr.heap.size) (hgd : o.guard = none) (ho : o.op = .call { callee := .builtin .append, args := #[s, x], argTypes := #[t, t] })
    (hs : a.eval s = v) (hx : a.eval x = .slice (some ⟨p, 0, none⟩) 1 1) (hp : p = wr.heap.size) (hr : r.fit) (hn : l.length + 1 ≤ 4000000)
    (h : ∀ v' w', Hid (StepsOwn w' B v' (l ++ [r])) → Hid (Below B W w') → B ≤ w'.heap.size → Hid (Off wr w') → Hid (∀ (g : Nat) (ob : Obj), v.ownBlock ≠ some g → wr.heap[g]? = some ob → w'.heap[g]? = some ob) → wpList P ops Q rest (a.put o.dst v') w') :
    wpList P ops Q (o :: rest) a (wr.alloc (.cells #[.int .i64 r.rule, .int .i64 r.left, .int .i64 r.right, .bool r.over] 50)) := by
  subst hp
  obtain ⟨i, hi, hz, hsz, hbs⟩ := he.info
  obtain ⟨ho', hk⟩ := hown.out
  refine wpList_append_own _ hgd s x t ho B 50 i _ 4 32 he.und hi hz hsz hbs he.zs he.pos v l.length (flatS l) hs (ho'.alloc _) ⟨wr.heap.size, 0, none⟩ 1 1 (stpC r) hx rfl ?_ ?_ ?_ ?_ ?_ ?_
  · intro j u hj
    rw [Addr.add_lit, Nat.zero_add]
    exact cells_of_blk (heap_new wr (.cells (stpC r).toArray 50)) j u (by simpa using hj)
  · intro u hu
    simp only [stpC, List.mem_cons, List.not_mem_nil, or_false] at hu
    rcases hu with rfl | rfl | rfl | rfl <;> rfl
  · unfold maxLen; omega
  · omega
  · simp; omega
  · intro v' w' h1 h2 _
    have hoth : ∀ (g : Nat) (ob : Obj), v.ownBlock ≠ some g → wr.heap[g]? = some ob → w'.heap[g]? = some ob := by
      intro g ob hne hg
      have hlt := zL hg
      rw [h2.block g (by simp; omega) (fun e => hne e.symm)]
      exact blk_old hg _
    have hsz : wr.heap.size ≤ w'.heap.size := by have := h2.size; simp at this; omega
    refine h v' w' ⟨?_, ?_⟩ ((hb.alloc hB _).grown h2 (by simp; omega) (fun q hq => (ho'.lt q hq).1)) ?_ (Off.app hown.out hsz hoth) hoth
    · rw [List.length_append, flatS_append, show flatS [r] = stpC r by simp [flatS]]
      exact h1
    · intro u hu
      rcases List.mem_append.1 hu with hu | hu
      · exact hk u hu
      · simp at hu; rw [hu]; exact hr
    · omega
end
theorem blk_ne {w : World} {g h : Nat} {cs cs' : Array Value} {t t' : TypeId} {fr fr' : Nat × Nat} (hg : w.heap[g]? = some (.cells cs t fr)) (hh : w.heap[h]? = some (.cells cs' t' fr')) (hne : t ≠ t') : g ≠ h := by
  intro e
  subst e
  rw [hg] at hh
  injection hh with hh
  injection hh with _ hh _
  exact hne hh
theorem ret_cell {P : Program} {fn : Func} {p : Tmp} {ty : TypeId} (h : fn.results = #[.cell p ty]) (tmps : Array Value) (w : World) (g : Nat) (t : TypeId) (cs : Array Value) (d : TypeDesc)
    (hp : tmps.getD p undef = .pointer (some ⟨g, 0, none⟩)) (hg : w.heap[g]? = some (.cells cs t (0, 0)))
    (hu : P.underlying ty = some d) (hd : (match d with | .struct _ | .array _ _ => true | _ => false) = true) (hi : (P.info? ty).map (·.size) = some cs.size) : (results fn tmps).run P w = .ok (.agg cs) w := by
  have hp' : tmps[p]?.getD undef = .pointer (some ⟨g, 0, none⟩) := by simpa using hp
  simp [results, h, hp', asAddr, run_loadVar_row w g t ty cs (0, 0) d hg hu hd hi]
structure Gt (w0 : World) (g : Nat) (vh vs vo vr : Value) (b : Bk) (e : Ev) (rate : Int) (l : List Stp) (w : World) : Prop where
  blk : ∃ v, w.heap[g]? = some (.cells #[vh, vs, vo, vr, .int .i64 b.n, .int .i64 e.kind, .int .i64 e.acc, .int .i64 e.ord, .int .i64 e.sym, .int .i64 e.side, .int .i64 e.qty, .int .i64 e.px, .int .i64 rate, v] 75 (0, 0)) ∧ StepsOwn w w0.heap.size v l
  below : Below w0.heap.size w0 w
  le : w0.heap.size ≤ g
theorem Gt.kept {w0 : World} {g : Nat} {vh vs vo vr : Value} {b : Bk} {e : Ev} {rate : Int} {l : List Stp} {w w' : World} (h : Gt w0 g vh vs vo vr b e rate l w) (hb : Below w.heap.size w w') : Gt w0 g vh vs vo vr b e rate l w' := by
  obtain ⟨v, h1, h2⟩ := h.blk
  exact ⟨⟨v, blk_call h1 hb, h2.kept hb⟩, h.below.trans (hb.mono h.below.size), h.le⟩
def putC (w : World) (g : Nat) : Nat → List Value → World
  | _, [] => w
  | o, v :: t => putC (w.setCell ⟨g, o, none⟩ v) g (o + 1) t
def putA (cs : Array Value) : Nat → List Value → Array Value
  | _, [] => cs
  | o, v :: t => putA (cs.setIfInBounds o v) (o + 1) t
theorem putC_blk {g : Nat} {t : TypeId} {fr : Nat × Nat} : ∀ {vs : List Value} {o : Nat} {w : World} {cs : Array Value}, w.heap[g]? = some (.cells cs t fr) → (putC w g o vs).heap[g]? = some (.cells (putA cs o vs) t fr)
  | [], _, _, _, h => h
  | v :: us, o, w, cs, h => by
    show (putC (w.setCell ⟨g, o, none⟩ v) g (o + 1) us).heap[g]? = some (.cells (putA (cs.setIfInBounds o v) (o + 1) us) t fr)
    exact putC_blk (set_blk h _ _)
theorem putC_oth {g p : Nat} {x : Option Obj} (hne : p ≠ g) : ∀ {vs : List Value} {o : Nat} {w : World}, w.heap[p]? = x → (putC w g o vs).heap[p]? = x
  | [], _, _, h => h
  | v :: us, o, w, h => by
    show (putC (w.setCell ⟨g, o, none⟩ v) g (o + 1) us).heap[p]? = x
    exact putC_oth hne (set_oth h _ _ hne)
theorem putC_below {g B : Nat} {a : World} (hg : B ≤ g) : ∀ {vs : List Value} {o : Nat} {w : World}, Below B a w → Below B a (putC w g o vs)
  | [], _, _, h => h
  | v :: us, o, w, h => by
    show Below B a (putC (w.setCell ⟨g, o, none⟩ v) g (o + 1) us)
    exact putC_below hg (h.setCell (p := ⟨g, o, none⟩) hg _)
theorem putC_steps {g B : Nat} {v : Value} {l : List Stp} {t : TypeId} {fr : Nat × Nat} (hne : t ≠ 50) : ∀ {vs : List Value} {o : Nat} {w : World} {cs : Array Value}, w.heap[g]? = some (.cells cs t fr) → StepsOwn w B v l → StepsOwn (putC w g o vs) B v l
  | [], _, _, _, _, h => h
  | u :: us, o, w, cs, hg, h => by
    show StepsOwn (putC (w.setCell ⟨g, o, none⟩ u) g (o + 1) us) B v l
    exact putC_steps hne (set_blk hg _ _) (h.setOther hg hne _ _)
theorem zO {w s : World} {g p o : Nat} {vs : List Value} (E : putC w g o vs = s) {cs cs' : Array Value} {t t' : TypeId} {fr fr' : Nat × Nat} (hg : Hid (w.heap[g]? = some (.cells cs t fr))) (hp : Hid (w.heap[p]? = some (.cells cs' t' fr'))) (hne : t' ≠ t := by decide) : Hid (s.heap[p]? = some (.cells cs' t' fr')) := E ▸ putC_oth (blk_ne hp.out hg.out hne) hp.out
theorem zN {w s : World} {g p o : Nat} {vs : List Value} (E : putC w g o vs = s) {x : Option Obj} (hp : Hid (w.heap[p]? = x)) (hne : p ≠ g) : Hid (s.heap[p]? = x) := E ▸ putC_oth hne hp.out
theorem zP {w s : World} {g o : Nat} {vs : List Value} (E : putC w g o vs = s) {cs : Array Value} {t : TypeId} {fr : Nat × Nat} (hg : Hid (w.heap[g]? = some (.cells cs t fr))) : Hid (s.heap[g]? = some (.cells (putA cs o vs) t fr)) := E ▸ putC_blk hg.out
theorem zQ {w s a : World} {g o B : Nat} {vs : List Value} (E : putC w g o vs = s) (hg : Hid (B ≤ g)) (h : Hid (Below B a w)) : Hid (Below B a s) := E ▸ putC_below hg.out h.out
theorem Gt.put {w0 : World} {g : Nat} {vh vs vo vr : Value} {b : Bk} {e : Ev} {rate : Int} {l : List Stp} {w : World} (h : Gt w0 g vh vs vo vr b e rate l w) {p : Nat} {cs : Array Value} {t : TypeId} {fr : Nat × Nat} (hp : w.heap[p]? = some (.cells cs t fr)) (h1 : t ≠ 75) (h2 : t ≠ 50) (hge : w0.heap.size ≤ p) (o : Nat) (us : List Value) : Gt w0 g vh vs vo vr b e rate l (putC w p o us) := by
  obtain ⟨v, hg, ho⟩ := h.blk
  exact ⟨⟨v, putC_oth (blk_ne hg hp (fun e => h1 e.symm)) hg, putC_steps h2 hp ho⟩, putC_below hge h.below, h.le⟩
def LookOn (I : List Stp → World → Prop) (W : World) (K : Nat) (caps : Array Value) (s : Stp) : Prop :=
  ∀ (w : World) (l : List Stp), l.length ≤ 100 → I l w → Off W w → Calls Tryz.prog K caps w fun e w' => e = .returned (.bool s.holds) ∧ I (l ++ [s]) w' ∧ Off w w'
def LookIs (I : List Stp → World → Prop) (W : World) (f : Value) (s : Stp) : Prop :=
  ∃ K caps, f = .func (.func K) #[] caps ∧ (∀ args w, (callFunc K args).run Tryz.prog w = .ok (.enter K args) w) ∧ LookOn I W K caps s
theorem LookIs.off {I : List Stp → World → Prop} {W W' : World} {f : Value} {s : Stp} (h : LookIs I W f s) (ho : Off W W') : LookIs I W' f s := by
  obtain ⟨K, caps, h1, h2, h3⟩ := h
  exact ⟨K, caps, h1, h2, fun w l hl hI hW => h3 w l hl hI (ho.trans hW)⟩
end Go.Proofs.YtjcdpmianmgiaaaGreatDoor
