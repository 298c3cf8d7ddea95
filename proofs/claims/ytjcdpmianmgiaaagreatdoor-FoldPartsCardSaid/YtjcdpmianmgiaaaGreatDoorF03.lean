/- Part 4 of what the claim rests on. -/
import Derived.Test.YtjcdpmianmgiaaaGreatDoorF00
import Derived.Test.YtjcdpmianmgiaaaGreatDoorF02
namespace Go.Proofs.YtjcdpmianmgiaaaGreatDoor
open Go Go.RowKit
set_option linter.unusedVariables false
set_option linter.unusedSimpArgs false
section
variable {P : Program}
theorem wpList_clear_runG (w : World) {ops : Array Oper} {rest : List Oper} {o : Oper} {a : Act} {Q : Exit → Act → World → Prop} (hgd : o.guard = none) (d : Operand) (t : TypeId)
    (ho : o.op = .call { callee := .builtin .clear, args := #[d], argTypes := #[t] }) (v : Value) (hd : a.eval d = v) {v' : Value} {w' : World}
    (hr : (Builtin.clear_ #[t] o.type #[v]).run P w = .ok v' w') (h : wpList P ops Q rest (a.put o.dst v') w') : wpList P ops Q (o :: rest) a w :=
  wpList_plain hgd fun K hK => by
    unfold Oper.wp execOp
    simp only [ho, resolve, invoke, builtin, Sem.run_bind, Sem.run_pure, Result.andThen_ok, List.map_toArray, List.map_cons, List.map_nil, hd, hr]
    exact hK _ _ h
theorem run_clear_k (w : World) (t ty e : TypeId) (z : Value) (k g o n c : Nat) (cur : List Value) (ht : P.underlying t = some (.slice e)) (hv : ∀ w, (zeroValue e).run P w = .ok z w) (hz : z.cells.size = k) (h1 : ∀ u ∈ z.cells.toList, u.oneCell' = true)
    (hg : w.heap[g]? = some (.cells cur.toArray e (0, 0))) (hfit : o + k ≤ cur.length) :
    (Builtin.clear_ #[t] ty #[.slice (some ⟨g, o, none⟩) 1 c]).run P w = .ok (.tuple #[]) (w.setRow g (splice cur o z.cells.toList).toArray) := by
  have ez : (Builtin.zeroCells z.cells 1).toList = z.cells.toList := by
    refine List.ext_getElem? fun j => ?_
    rw [Array.getElem?_toList, Array.getElem?_toList]
    by_cases hj : j < z.cells.size
    · simp [Builtin.zeroCells, hj, Nat.mod_eq_of_lt hj]
    · rw [Array.getElem?_eq_none (by simp [Builtin.zeroCells]; omega), Array.getElem?_eq_none (by omega)]
  have hst := run_storeCells_at P g o e z.cells.toList 0 cur.toArray w hg (by simp; omega) h1
  simp only [Nat.add_zero] at hst
  simp [Builtin.clear_, run_underlying ht, hv, ez, hst, splice, List.append_assoc]
end
theorem del_in_place (cur X1 D X2 Z : List Value) (k : Nat) (hZ : Z.length = k) (hD : D.length = k) (ht : cur.take (X1.length + k + X2.length) = X1 ++ (D ++ X2)) (hc : X1.length + k + X2.length ≤ cur.length) :
    (splice (splice cur X1.length X2) (X1.length + X2.length) Z).take (X1.length + X2.length) = X1 ++ X2 := by
  have e1 : cur.take X1.length = X1 := by
    have := congrArg (List.take X1.length) ht
    rwa [List.take_take, Nat.min_eq_left (by omega), List.take_left] at this
  rw [splice, splice, e1]
  rw [List.take_append_of_le_length (by first | (simp; done) | (simp; omega) | omega), List.take_take, Nat.min_self, ← List.append_assoc, List.take_left' (by simp)]
set_option maxRecDepth 100000 in
set_option maxHeartbeats 4000000 in
theorem DeleteStake_row (X2 : List Value) (n i c g : Nat) (cur : List Value) (w : World) (hi : i < n) (hnc : n ≤ c) (hc63 : c ≤ 9223372036854775807) (hX2 : X2.length = (n - (i + 1)) * 3) (hg : Hid (w.heap[g]? = some (.cells cur.toArray 84 (0, 0)))) (hcur : cur.length = c * 3)
    (hsrc : Hid (∀ (j : Nat) (v : Value), X2[j]? = some v → cur[(i + 1) * 3 + j]? = some v)) (h1 : Hid (∀ v ∈ X2, v.oneCell' = true)) :
    Calls Tryz.prog 194 #[.slice (some ⟨g, 0, none⟩) n c, .int .i64 i, .int .i64 ((i : Int) + 1)] w fun e w' => e = .returned (.slice (some ⟨g, 0, none⟩) (n - 1) c) ∧ w'.heap[g]? = some (.cells (splice (splice cur (i * 3) X2) ((n - 1) * 3) [.int .i64 0, .int .i64 0, .int .i64 0]).toArray 84 (0, 0)) ∧ w.grownBy w' (some g) := by
  have t24 := Tryz.underlying23
  have mixed : Tryz.prog.follows .mixedOrders = true := by kernel_rfl
  obtain ⟨i0, hi0, hz0, hzs, hzb⟩ := el_Stake.info
  have hz2 : ((i : Int) == (i : Int) + 1) = false := by simp; omega
  have htn : ((i : Int) + 1).toNat = i + 1 := by omega
  have hb1 : (0 : Int) ≤ (i : Int) + 1 := by omega
  have hb2 : (i : Int) + 1 ≤ (n : Int) := by omega
  have hb3 : (i : Int) ≤ (n : Int) := by omega
  have hb3' : (i : Int) ≤ (i : Int) + 1 := by omega
  have hb4 : ¬ (c = i) := by omega
  have hb5 : i ≤ c := by omega
  have hb6 : ¬ (c = n - 1) := by omega
  have hb7 : ¬ (n = i) := by omega
  have hsum : i + (n - (i + 1)) = n - 1 := by omega
  have hb8 : ((n - 1 : Nat) : Int) ≤ (n : Int) := by omega
  have hb9 : n - (n - 1) = 1 := by omega
  have hrun : ∀ ad ty c1 w0, w0.heap = w.heap → (0 < X2.length → ad = ⟨g, (i + 1) * 3, none⟩) → (Builtin.append_ #[23, 23] ty #[.slice (some ⟨g, 0, none⟩) i c, .slice (some ad) (n - (i + 1)) c1]).run Tryz.prog w0 = .ok (.slice (some ⟨g, 0, none⟩) (n - 1) c) (w0.setRow g (splice cur (i * 3) X2).toArray) := fun ad ty c1 w0 hw0 had => by
    have hgw : w0.heap[g]? = some (.cells cur.toArray 84 (0, 0)) := by rw [hw0]; exact hg.out
    rw [run_append_room w0 23 ty 84 i0 t24 hi0 g i c cur.toArray hgw ad (n - (i + 1)) c1 X2 (by rw [hzs, hX2]) (fun j v hj => by
      rw [had (by have := (List.getElem?_eq_some_iff.1 hj).1; omega), Addr.add_lit]
      exact cells_of_blk hgw _ _ (by simpa using hsrc.out j v hj)) h1.out (by omega) (by rw [hzs]; simp; omega), hsum, hzs]
    simp [splice]
  obtain ⟨A1, hA1⟩ : ∃ A1, A1 = splice cur (i * 3) X2 := ⟨_, rfl⟩
  have hA1l : A1.length = c * 3 := by rw [hA1, length_splice _ _ _ (by omega), hcur]
  obtain ⟨W1, hW1⟩ : ∃ W1, W1 = w.drew.setRow g A1.toArray := ⟨_, rfl⟩
  have hrun1 : ∀ ad ty c1, (0 < X2.length → ad = ⟨g, (i + 1) * 3, none⟩) → (Builtin.append_ #[23, 23] ty #[.slice (some ⟨g, 0, none⟩) i c, .slice (some ad) (n - (i + 1)) c1]).run Tryz.prog w.drew = .ok (.slice (some ⟨g, 0, none⟩) (n - 1) c) W1 := fun ad ty c1 had => by
    rw [hW1, hA1]; exact hrun ad ty c1 w.drew rfl had
  have hg1 : Hid (W1.heap[g]? = some (.cells A1.toArray 84 (0, 0))) := by rw [hW1]; exact setRow_heap w.drew g _ _ 84 _ hg.out
  have hgr1 : Hid (w.grownBy W1 (some g)) := by rw [hW1]; exact ⟨rfl, rfl, rfl, by simp [World.setRow], fun k hk hne => setRow_other w.drew g k _ (fun e => hne (by simp [e]))⟩
  obtain ⟨A2, hA2⟩ : ∃ A2, A2 = splice A1 ((n - 1) * 3) [.int .i64 0, .int .i64 0, .int .i64 0] := ⟨_, rfl⟩
  obtain ⟨W2, hW2⟩ : ∃ W2, W2 = W1.setRow g A2.toArray := ⟨_, rfl⟩
  have hcl : ∀ ty dc, (Builtin.clear_ #[23] ty #[.slice (some ⟨g, (n - 1) * 3, none⟩) 1 dc]).run Tryz.prog W1 = .ok (.tuple #[]) W2 := fun ty dc => by
    rw [run_clear_k W1 23 ty 84 (.agg #[.int .i64 0, .int .i64 0, .int .i64 0]) 3 g ((n - 1) * 3) 1 dc A1 t24 Tryz.zeroValue84 rfl (by intro u hu; simp [Value.cells] at hu; subst hu; first | done | rfl) hg1.out (by omega), hW2, hA2]
    rfl
  have fin : Hid (W2.heap[g]? = some (.cells A2.toArray 84 (0, 0)) ∧ w.grownBy W2 (some g)) := by
    rw [hW2]
    exact ⟨setRow_heap W1 g _ _ 84 _ hg1.out, grown_trans hgr1.out ⟨rfl, rfl, rfl, by simp [World.setRow], fun k hk hne => setRow_other W1 g k _ (fun e => hne (by simp [e]))⟩⟩
  have hX0 : c = i + 1 → X2.length = 0 := fun h => by rw [hX2, show n - (i + 1) = 0 by omega, Nat.zero_mul]
  have hWeq : Hid (w.drew.setCells g (0 + i * 3) X2 = W1) := by
    have hr1 := hrun1 ⟨g, (i + 1) * 3, none⟩ 23 0 (fun _ => rfl)
    have h2 := run_append_room_cells (P := Tryz.prog) w.drew 23 23 84 i0 t24 hi0 g 0 i c ⟨g, (i + 1) * 3, none⟩ (n - (i + 1)) 0 X2 (by rw [hzs, hX2]) (fun j v hj => by rw [Addr.add_lit]; exact cells_of_blk (w := w.drew) hg.out _ _ (by simpa using hsrc.out j v hj)) h1.out (by omega) (fun j hj => by rw [hzs, cells_of_blk (w := w.drew) hg.out _ _ (show cur.toArray[0 + i * 3 + j]? = some _ from by rw [List.getElem?_toArray]; exact List.getElem?_eq_getElem (by omega))]; rfl) (fun j hj => free_of_blk (w := w.drew) hg.out _)
    rw [hr1] at h2
    injection h2 with _ h3
    rw [hzs] at h3
    exact h3.symm
  have hA0 : Hid (∀ (j : Nat) (u : Value), X2[j]? = some u → w.drew.cell? ((⟨g, (i + 1) * 3, none⟩ : Addr).add j) = some u) := (show ∀ _ _ _, _ from fun j v hj => by rw [Addr.add_lit]; exact cells_of_blk (w := w.drew) hg.out _ _ (by simpa using hsrc.out j v hj))
  have hA00 : Hid (c = i + 1 → ∀ (j : Nat) (u : Value), X2[j]? = some u → w.drew.cell? ((⟨g, 0, none⟩ : Addr).add j) = some u) := (show _ → ∀ _ _ _, _ from fun hc j v hj => by have := (List.getElem?_eq_some_iff.1 hj).1; have := hX0 hc; omega)
  have hsp : Hid (∀ (j : Nat), j < X2.length → (w.drew.cell? ⟨g, 0 + i * 3 + j, none⟩).isSome = true ∧ w.drew.frozen? ⟨g, 0 + i * 3 + j, none⟩ = false) := (show ∀ _ _, _ from fun j hj => ⟨by rw [cells_of_blk (w := w.drew) hg.out _ _ (show cur.toArray[0 + i * 3 + j]? = some _ from by rw [List.getElem?_toArray]; exact List.getElem?_eq_getElem (by omega))]; rfl, free_of_blk (w := w.drew) hg.out _⟩)
  replace hX2 := zH hX2
  rw [← hA1, ← hA2]
  clear hg hsrc hg1 hgr1 hcur hA1l hA1 hW1 hA2 hW2 hrun hrun1 hX0
  have hroom := zH (show i + (n - (i + 1)) ≤ c by omega)
  have hsumh := zH hsum
  by_cases hce : c = i + 1
  · replace hA00 := zH (hA00.out hce)
    subst hce
    have hX20 : Hid (X2.length = 0 * 3) := by show _ = _; rw [hX2.out, show n - (i + 1) = 0 by omega]
    have hr0 : Hid (i + 0 ≤ i + 1) := by show _ ≤ _; omega
    have hs0 : Hid (i + 0 = n - 1) := by show _ = _; omega
    clear hA0
    go_enter Tryz.func194, Tryz.ntmps194
    go_wp2_with fail
    go_region_law_o (refine step_append_room rfl _ _ 23 rfl 84 i0 3 t24 hi0 hzs g 0 i (i + 1) (by simp [Act.eval, Act.put]) ⟨g, 0, none⟩ 0 0 X2 (by simp [Act.eval, Act.put]) hX20.out hA00.out h1.out hr0.out hsp.out ?_; rw [hs0.out, hWeq.out])
    go_wp2_with (at_builtin; refine wpList_clear_runG _ rfl _ 23 rfl _ rfl (hcl _ _) ?_)
    go_ret
    exact ⟨rfl, fin.out⟩
  · clear hA00
    go_enter Tryz.func194, Tryz.ntmps194
    go_wp2_with fail
    go_region_law_o (refine step_append_room rfl _ _ 23 rfl 84 i0 3 t24 hi0 hzs g 0 i c (by simp [Act.eval, Act.put]) ⟨g, (i + 1) * 3, none⟩ (n - (i + 1)) (c - (i + 1)) X2 (by simp [Act.eval, Act.put]) hX2.out hA0.out h1.out hroom.out hsp.out ?_; rw [hsumh.out, hWeq.out])
    go_wp2_with (at_builtin; refine wpList_clear_runG _ rfl _ 23 rfl _ rfl (hcl _ _) ?_)
    go_ret
    exact ⟨rfl, fin.out⟩
theorem DeleteStake_any (B : Nat) (v : Value) (l : List (List Int)) (i : Nat) (w : World) (hv : Hid (RowOwn w B 84 v 3 l)) (hl : l.length ≤ 1000000) (hi : i < l.length) :
    Calls Tryz.prog 194 #[v, .int .i64 i, .int .i64 ((i : Int) + 1)] w fun e w' => ∃ v', e = .returned v' ∧ RowOwn w' B 84 v' 3 (l.take i ++ l.drop (i + 1)) ∧ w.grownBy w' v.ownBlock := by
  obtain ⟨ho, hk⟩ := hv.out
  rcases ho.2 with ⟨_, h0⟩ | ⟨g, cap, cur, rfl, hBg, hg, hnc, hcm, hcs, ht⟩
  · omega
  · have hkt : ∀ r ∈ l.take i, r.length = 3 := fun r hr => hk r (List.mem_of_mem_take hr)
    have hkd : ∀ r ∈ l.drop (i + 1), r.length = 3 := fun r hr => hk r (List.mem_of_mem_drop hr)
    have hX1 : (flatC (l.take i)).length = i * 3 := by rw [flatC_len hkt, List.length_take, Nat.min_eq_left (by omega)]
    have hX2 : (flatC (l.drop (i + 1))).length = (l.length - (i + 1)) * 3 := by rw [flatC_len hkd, List.length_drop]
    have hD : (flatC [l[i]]).length = 3 := by rw [flatC_len (k := 3) (by intro r hr; simp at hr; rw [hr]; exact hk _ (List.getElem_mem hi))]; simp
    have hsp : l = l.take i ++ ([l[i]] ++ l.drop (i + 1)) := by
      have := List.take_append_drop i l
      rw [List.drop_eq_getElem_cons hi] at this
      exact this.symm
    have hX : flatC l = flatC (l.take i) ++ (flatC [l[i]] ++ flatC (l.drop (i + 1))) := by
      have := congrArg flatC hsp
      rw [flatC_append, flatC_append] at this
      exact this
    have hcur : cur.toList.length = cap * 3 := by rw [Array.length_toList]; exact hcs
    have hle : l.length * 3 ≤ cap * 3 := Nat.mul_le_mul_right _ hnc
    have hs2 : ∀ (j : Nat) (u : Value), (flatC (l.drop (i + 1)))[j]? = some u → cur.toList[(i + 1) * 3 + j]? = some u := fun j u hj => by
      have h2 : (flatC l)[(i + 1) * 3 + j]? = some u := by
        rw [hX, List.getElem?_append_right (by omega), List.getElem?_append_right (by omega), ← hj]
        congr 1; omega
      rw [← ht, List.getElem?_take] at h2
      split at h2
      · exact h2
      · cases h2
    have hg' : Hid (w.heap[g]? = some (.cells cur.toList.toArray 84 (0, 0))) := (show _ = _ from by simpa using hg)
    have hlen : (l.take i ++ l.drop (i + 1)).length = l.length - 1 := by simp; omega
    have hrows : ∀ r ∈ l.take i ++ l.drop (i + 1), r.length = 3 := fun r hr => by
      rcases List.mem_append.1 hr with hr | hr
      · exact hkt r hr
      · exact hkd r hr
    refine (DeleteStake_row (flatC (l.drop (i + 1))) l.length i cap g cur.toList w hi hnc (by unfold maxLen at hcm; omega) hX2 hg' hcur hs2 (flatC_one _)).mono ?_
    rintro e w' ⟨rfl, h1, h2⟩
    refine ⟨_, rfl, ⟨⟨?_, .inr ⟨g, cap, _, ?_, hBg, h1, ?_, hcm, ?_, ?_⟩⟩, hrows⟩, h2⟩
    · rw [flatC_len hrows]
    · rw [hlen]
    · omega
    · rw [List.size_toArray, length_splice, length_splice, hcur]
      · omega
      · rw [length_splice _ _ _ (by omega)]; simp; omega
    · have hp := del_in_place cur.toList (flatC (l.take i)) (flatC [l[i]]) (flatC (l.drop (i + 1))) [.int .i64 0, .int .i64 0, .int .i64 0] 3 rfl hD (by rw [← hX, ← ht]; congr 1; omega) (by omega)
      rw [hX1] at hp
      rw [flatC_append, ← hp]
      simp only []
      rw [hlen, show (l.length - 1) * 3 = i * 3 + (flatC (l.drop (i + 1))).length by omega]
set_option maxRecDepth 100000 in
set_option maxHeartbeats 4000000 in
theorem DeleteOpen_row (X2 : List Value) (n i c g : Nat) (cur : List Value) (w : World) (hi : i < n) (hnc : n ≤ c) (hc63 : c ≤ 9223372036854775807) (hX2 : X2.length = (n - (i + 1)) * 6) (hg : Hid (w.heap[g]? = some (.cells cur.toArray 86 (0, 0)))) (hcur : cur.length = c * 6)
    (hsrc : Hid (∀ (j : Nat) (v : Value), X2[j]? = some v → cur[(i + 1) * 6 + j]? = some v)) (h1 : Hid (∀ v ∈ X2, v.oneCell' = true)) :
    Calls Tryz.prog 191 #[.slice (some ⟨g, 0, none⟩) n c, .int .i64 i, .int .i64 ((i : Int) + 1)] w fun e w' => e = .returned (.slice (some ⟨g, 0, none⟩) (n - 1) c) ∧ w'.heap[g]? = some (.cells (splice (splice cur (i * 6) X2) ((n - 1) * 6) [.int .i64 0, .int .i64 0, .int .i64 0, .int .i64 0, .int .i64 0, .int .i64 0]).toArray 86 (0, 0)) ∧ w.grownBy w' (some g) := by
  have t24 := Tryz.underlying24
  have mixed : Tryz.prog.follows .mixedOrders = true := by kernel_rfl
  obtain ⟨i0, hi0, hz0, hzs, hzb⟩ := el_Open.info
  have hz2 : ((i : Int) == (i : Int) + 1) = false := by simp; omega
  have htn : ((i : Int) + 1).toNat = i + 1 := by omega
  have hb1 : (0 : Int) ≤ (i : Int) + 1 := by omega
  have hb2 : (i : Int) + 1 ≤ (n : Int) := by omega
  have hb3 : (i : Int) ≤ (n : Int) := by omega
  have hb3' : (i : Int) ≤ (i : Int) + 1 := by omega
  have hb4 : ¬ (c = i) := by omega
  have hb5 : i ≤ c := by omega
  have hb6 : ¬ (c = n - 1) := by omega
  have hb7 : ¬ (n = i) := by omega
  have hsum : i + (n - (i + 1)) = n - 1 := by omega
  have hb8 : ((n - 1 : Nat) : Int) ≤ (n : Int) := by omega
  have hb9 : n - (n - 1) = 1 := by omega
  have hrun : ∀ ad ty c1 w0, w0.heap = w.heap → (0 < X2.length → ad = ⟨g, (i + 1) * 6, none⟩) → (Builtin.append_ #[24, 24] ty #[.slice (some ⟨g, 0, none⟩) i c, .slice (some ad) (n - (i + 1)) c1]).run Tryz.prog w0 = .ok (.slice (some ⟨g, 0, none⟩) (n - 1) c) (w0.setRow g (splice cur (i * 6) X2).toArray) := fun ad ty c1 w0 hw0 had => by
    have hgw : w0.heap[g]? = some (.cells cur.toArray 86 (0, 0)) := by rw [hw0]; exact hg.out
    rw [run_append_room w0 24 ty 86 i0 t24 hi0 g i c cur.toArray hgw ad (n - (i + 1)) c1 X2 (by rw [hzs, hX2]) (fun j v hj => by
      rw [had (by have := (List.getElem?_eq_some_iff.1 hj).1; omega), Addr.add_lit]
      exact cells_of_blk hgw _ _ (by simpa using hsrc.out j v hj)) h1.out (by omega) (by rw [hzs]; simp; omega), hsum, hzs]
    simp [splice]
  obtain ⟨A1, hA1⟩ : ∃ A1, A1 = splice cur (i * 6) X2 := ⟨_, rfl⟩
  have hA1l : A1.length = c * 6 := by rw [hA1, length_splice _ _ _ (by omega), hcur]
  obtain ⟨W1, hW1⟩ : ∃ W1, W1 = w.drew.setRow g A1.toArray := ⟨_, rfl⟩
  have hrun1 : ∀ ad ty c1, (0 < X2.length → ad = ⟨g, (i + 1) * 6, none⟩) → (Builtin.append_ #[24, 24] ty #[.slice (some ⟨g, 0, none⟩) i c, .slice (some ad) (n - (i + 1)) c1]).run Tryz.prog w.drew = .ok (.slice (some ⟨g, 0, none⟩) (n - 1) c) W1 := fun ad ty c1 had => by
    rw [hW1, hA1]; exact hrun ad ty c1 w.drew rfl had
  have hg1 : Hid (W1.heap[g]? = some (.cells A1.toArray 86 (0, 0))) := by rw [hW1]; exact setRow_heap w.drew g _ _ 86 _ hg.out
  have hgr1 : Hid (w.grownBy W1 (some g)) := by rw [hW1]; exact ⟨rfl, rfl, rfl, by simp [World.setRow], fun k hk hne => setRow_other w.drew g k _ (fun e => hne (by simp [e]))⟩
  obtain ⟨A2, hA2⟩ : ∃ A2, A2 = splice A1 ((n - 1) * 6) [.int .i64 0, .int .i64 0, .int .i64 0, .int .i64 0, .int .i64 0, .int .i64 0] := ⟨_, rfl⟩
  obtain ⟨W2, hW2⟩ : ∃ W2, W2 = W1.setRow g A2.toArray := ⟨_, rfl⟩
  have hcl : ∀ ty dc, (Builtin.clear_ #[24] ty #[.slice (some ⟨g, (n - 1) * 6, none⟩) 1 dc]).run Tryz.prog W1 = .ok (.tuple #[]) W2 := fun ty dc => by
    rw [run_clear_k W1 24 ty 86 (.agg #[.int .i64 0, .int .i64 0, .int .i64 0, .int .i64 0, .int .i64 0, .int .i64 0]) 6 g ((n - 1) * 6) 1 dc A1 t24 Tryz.zeroValue86 rfl (by intro u hu; simp [Value.cells] at hu; subst hu; first | done | rfl) hg1.out (by omega), hW2, hA2]
    rfl
  have fin : Hid (W2.heap[g]? = some (.cells A2.toArray 86 (0, 0)) ∧ w.grownBy W2 (some g)) := by
    rw [hW2]
    exact ⟨setRow_heap W1 g _ _ 86 _ hg1.out, grown_trans hgr1.out ⟨rfl, rfl, rfl, by simp [World.setRow], fun k hk hne => setRow_other W1 g k _ (fun e => hne (by simp [e]))⟩⟩
  have hX0 : c = i + 1 → X2.length = 0 := fun h => by rw [hX2, show n - (i + 1) = 0 by omega, Nat.zero_mul]
  have hWeq : Hid (w.drew.setCells g (0 + i * 6) X2 = W1) := by
    have hr1 := hrun1 ⟨g, (i + 1) * 6, none⟩ 24 0 (fun _ => rfl)
    have h2 := run_append_room_cells (P := Tryz.prog) w.drew 24 24 86 i0 t24 hi0 g 0 i c ⟨g, (i + 1) * 6, none⟩ (n - (i + 1)) 0 X2 (by rw [hzs, hX2]) (fun j v hj => by rw [Addr.add_lit]; exact cells_of_blk (w := w.drew) hg.out _ _ (by simpa using hsrc.out j v hj)) h1.out (by omega) (fun j hj => by rw [hzs, cells_of_blk (w := w.drew) hg.out _ _ (show cur.toArray[0 + i * 6 + j]? = some _ from by rw [List.getElem?_toArray]; exact List.getElem?_eq_getElem (by omega))]; rfl) (fun j hj => free_of_blk (w := w.drew) hg.out _)
    rw [hr1] at h2
    injection h2 with _ h3
    rw [hzs] at h3
    exact h3.symm
  have hA0 : Hid (∀ (j : Nat) (u : Value), X2[j]? = some u → w.drew.cell? ((⟨g, (i + 1) * 6, none⟩ : Addr).add j) = some u) := (show ∀ _ _ _, _ from fun j v hj => by rw [Addr.add_lit]; exact cells_of_blk (w := w.drew) hg.out _ _ (by simpa using hsrc.out j v hj))
  have hA00 : Hid (c = i + 1 → ∀ (j : Nat) (u : Value), X2[j]? = some u → w.drew.cell? ((⟨g, 0, none⟩ : Addr).add j) = some u) := (show _ → ∀ _ _ _, _ from fun hc j v hj => by have := (List.getElem?_eq_some_iff.1 hj).1; have := hX0 hc; omega)
  have hsp : Hid (∀ (j : Nat), j < X2.length → (w.drew.cell? ⟨g, 0 + i * 6 + j, none⟩).isSome = true ∧ w.drew.frozen? ⟨g, 0 + i * 6 + j, none⟩ = false) := (show ∀ _ _, _ from fun j hj => ⟨by rw [cells_of_blk (w := w.drew) hg.out _ _ (show cur.toArray[0 + i * 6 + j]? = some _ from by rw [List.getElem?_toArray]; exact List.getElem?_eq_getElem (by omega))]; rfl, free_of_blk (w := w.drew) hg.out _⟩)
  replace hX2 := zH hX2
  rw [← hA1, ← hA2]
  clear hg hsrc hg1 hgr1 hcur hA1l hA1 hW1 hA2 hW2 hrun hrun1 hX0
  have hroom := zH (show i + (n - (i + 1)) ≤ c by omega)
  have hsumh := zH hsum
  by_cases hce : c = i + 1
  · replace hA00 := zH (hA00.out hce)
    subst hce
    have hX20 : Hid (X2.length = 0 * 6) := by show _ = _; rw [hX2.out, show n - (i + 1) = 0 by omega]
    have hr0 : Hid (i + 0 ≤ i + 1) := by show _ ≤ _; omega
    have hs0 : Hid (i + 0 = n - 1) := by show _ = _; omega
    clear hA0
    go_enter Tryz.func191, Tryz.ntmps191
    go_wp2_with fail
    go_region_law_o (refine step_append_room rfl _ _ 24 rfl 86 i0 6 t24 hi0 hzs g 0 i (i + 1) (by simp [Act.eval, Act.put]) ⟨g, 0, none⟩ 0 0 X2 (by simp [Act.eval, Act.put]) hX20.out hA00.out h1.out hr0.out hsp.out ?_; rw [hs0.out, hWeq.out])
    go_wp2_with (at_builtin; refine wpList_clear_runG _ rfl _ 24 rfl _ rfl (hcl _ _) ?_)
    go_ret
    exact ⟨rfl, fin.out⟩
  · clear hA00
    go_enter Tryz.func191, Tryz.ntmps191
    go_wp2_with fail
    go_region_law_o (refine step_append_room rfl _ _ 24 rfl 86 i0 6 t24 hi0 hzs g 0 i c (by simp [Act.eval, Act.put]) ⟨g, (i + 1) * 6, none⟩ (n - (i + 1)) (c - (i + 1)) X2 (by simp [Act.eval, Act.put]) hX2.out hA0.out h1.out hroom.out hsp.out ?_; rw [hsumh.out, hWeq.out])
    go_wp2_with (at_builtin; refine wpList_clear_runG _ rfl _ 24 rfl _ rfl (hcl _ _) ?_)
    go_ret
    exact ⟨rfl, fin.out⟩
theorem DeleteOpen_any (B : Nat) (v : Value) (l : List (List Int)) (i : Nat) (w : World) (hv : Hid (RowOwn w B 86 v 6 l)) (hl : l.length ≤ 1000000) (hi : i < l.length) :
    Calls Tryz.prog 191 #[v, .int .i64 i, .int .i64 ((i : Int) + 1)] w fun e w' => ∃ v', e = .returned v' ∧ RowOwn w' B 86 v' 6 (l.take i ++ l.drop (i + 1)) ∧ w.grownBy w' v.ownBlock := by
  obtain ⟨ho, hk⟩ := hv.out
  rcases ho.2 with ⟨_, h0⟩ | ⟨g, cap, cur, rfl, hBg, hg, hnc, hcm, hcs, ht⟩
  · omega
  · have hkt : ∀ r ∈ l.take i, r.length = 6 := fun r hr => hk r (List.mem_of_mem_take hr)
    have hkd : ∀ r ∈ l.drop (i + 1), r.length = 6 := fun r hr => hk r (List.mem_of_mem_drop hr)
    have hX1 : (flatC (l.take i)).length = i * 6 := by rw [flatC_len hkt, List.length_take, Nat.min_eq_left (by omega)]
    have hX2 : (flatC (l.drop (i + 1))).length = (l.length - (i + 1)) * 6 := by rw [flatC_len hkd, List.length_drop]
    have hD : (flatC [l[i]]).length = 6 := by rw [flatC_len (k := 6) (by intro r hr; simp at hr; rw [hr]; exact hk _ (List.getElem_mem hi))]; simp
    have hsp : l = l.take i ++ ([l[i]] ++ l.drop (i + 1)) := by
      have := List.take_append_drop i l
      rw [List.drop_eq_getElem_cons hi] at this
      exact this.symm
    have hX : flatC l = flatC (l.take i) ++ (flatC [l[i]] ++ flatC (l.drop (i + 1))) := by
      have := congrArg flatC hsp
      rw [flatC_append, flatC_append] at this
      exact this
    have hcur : cur.toList.length = cap * 6 := by rw [Array.length_toList]; exact hcs
    have hle : l.length * 6 ≤ cap * 6 := Nat.mul_le_mul_right _ hnc
    have hs2 : ∀ (j : Nat) (u : Value), (flatC (l.drop (i + 1)))[j]? = some u → cur.toList[(i + 1) * 6 + j]? = some u := fun j u hj => by
      have h2 : (flatC l)[(i + 1) * 6 + j]? = some u := by
        rw [hX, List.getElem?_append_right (by omega), List.getElem?_append_right (by omega), ← hj]
        congr 1; omega
      rw [← ht, List.getElem?_take] at h2
      split at h2
      · exact h2
      · cases h2
    have hg' : Hid (w.heap[g]? = some (.cells cur.toList.toArray 86 (0, 0))) := (show _ = _ from by simpa using hg)
    have hlen : (l.take i ++ l.drop (i + 1)).length = l.length - 1 := by simp; omega
    have hrows : ∀ r ∈ l.take i ++ l.drop (i + 1), r.length = 6 := fun r hr => by
      rcases List.mem_append.1 hr with hr | hr
      · exact hkt r hr
      · exact hkd r hr
    refine (DeleteOpen_row (flatC (l.drop (i + 1))) l.length i cap g cur.toList w hi hnc (by unfold maxLen at hcm; omega) hX2 hg' hcur hs2 (flatC_one _)).mono ?_
    rintro e w' ⟨rfl, h1, h2⟩
    refine ⟨_, rfl, ⟨⟨?_, .inr ⟨g, cap, _, ?_, hBg, h1, ?_, hcm, ?_, ?_⟩⟩, hrows⟩, h2⟩
    · rw [flatC_len hrows]
    · rw [hlen]
    · omega
    · rw [List.size_toArray, length_splice, length_splice, hcur]
      · omega
      · rw [length_splice _ _ _ (by omega)]; simp; omega
    · have hp := del_in_place cur.toList (flatC (l.take i)) (flatC [l[i]]) (flatC (l.drop (i + 1))) [.int .i64 0, .int .i64 0, .int .i64 0, .int .i64 0, .int .i64 0, .int .i64 0] 6 rfl hD (by rw [← hX, ← ht]; congr 1; omega) (by omega)
      rw [hX1] at hp
      rw [flatC_append, ← hp]
      simp only []
      rw [hlen, show (l.length - 1) * 6 = i * 6 + (flatC (l.drop (i + 1))).length by omega]
end Go.Proofs.YtjcdpmianmgiaaaGreatDoor
