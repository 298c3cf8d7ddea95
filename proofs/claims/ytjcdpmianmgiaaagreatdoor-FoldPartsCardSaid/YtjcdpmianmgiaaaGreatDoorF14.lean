/- Part 15 of what the claim rests on. -/
import Derived.Test.YtjcdpmianmgiaaaGreatDoorF00
import Derived.Test.YtjcdpmianmgiaaaGreatDoorF01
import Derived.Test.YtjcdpmianmgiaaaGreatDoorF13
namespace Go.Proofs.YtjcdpmianmgiaaaGreatDoor
open Go Go.RowKit
set_option linter.unusedVariables false
set_option linter.unusedSimpArgs false
theorem take_succ_map {α β : Type} (f : α → β) {l : List α} {i : Nat} (h : i < l.length) : (l.take (i + 1)).map f = (l.take i).map f ++ [f l[i]] := by
  rw [List.take_add_one, List.getElem?_eq_getElem h, List.map_append]; rfl
set_option maxRecDepth 100000 in
set_option maxHeartbeats 2000000 in
theorem all_gen (I : List Stp → World → Prop) (p n cap : Nat) (l : List (Value × Stp)) (cs : Array Value) (S0 : List Stp) (w : World) (hn : l.length = n) (hcs : Hid (∀ (i : Nat) (h : i < l.length), cs[i]? = some l[i].1)) (hp : Hid (w.heap[p]? = some (.cells cs 79 (0, 0)))) (hl : Hid (∀ x ∈ l, LookIs I w x.1 x.2)) (hI : Hid (I S0 w)) (hS : Hid (S0.length + n ≤ 100)) :
    Calls Tryz.prog 43 #[.slice (some ⟨p, 0, none⟩) n cap] w fun e w' => e = .returned (.bool ((l.map (·.2)).all (·.holds))) ∧ I (S0 ++ cutL (l.map (·.2))) w' ∧ Off w w' := by
  subst hn
  obtain ⟨Res, hRes⟩ : ∃ Res, (l.map (·.2)).all (·.holds) = Res := ⟨_, rfl⟩
  rw [hRes]
  replace hRes := zH hRes
  obtain ⟨n, hn⟩ : ∃ n, l.length = n := ⟨_, rfl⟩
  rw [hn] at hS ⊢
  replace hn := zH hn
  have hn60 : n ≤ 100 := by have := hS.out; omega
  go_enter Tryz.func43, Tryz.ntmps43
  go_wp2_with fail
  go_loopw [7] (fun s7 wr => ∃ i : Nat, s7 = .int .i64 (i : Int) ∧ Hid (i ≤ n) ∧ Hid (((l.take i).map (·.2)).all (·.holds) = true) ∧ Hid (I (S0 ++ (l.take i).map (·.2)) wr) ∧ Hid (Off w wr)) (fun s7 _ => n - (intOf s7).toNat)
  case atStart => exact ⟨0, rfl, Nat.zero_le _, rfl, (show I (S0 ++ []) w from by rw [List.append_nil]; exact hI.out), Off.refl _⟩
  case round =>
    obtain ⟨i, rfl, hil, hall, HI, HO⟩ := hrel
    replace hil := hil.out
    by_cases hin : i < n
    · have tn : decide ((i : Int) < (n : Int)) = true := decide_eq_true (by omega)
      have hlt : i < l.length := by rw [hn.out]; exact hin
      have hblk : Hid (wr.heap[p]? = some (.cells cs 79 (0, 0))) := HO.out.blk p _ _ _ hp.out (by decide) (by decide)
      have hc : wr.cell? ⟨p, i, none⟩ = some l[i].1 := cells_of_blk hblk.out i _ (hcs.out i hlt)
      have HT : Hid ((l.take (i + 1)).map (·.2) = (l.take i).map (·.2) ++ [l[i].2]) := take_succ_map _ hlt
      have hk := (hl.out l[i] (List.getElem_mem hlt)).off HO.out
      have HD : Hid (∃ m, l.map (·.2) = ((l.take i).map (·.2) ++ [l[i].2]) ++ m) := ⟨(l.drop (i + 1)).map (·.2), by rw [← HT.out, ← List.map_append, List.take_append_drop]⟩
      have hlen : (S0 ++ (l.take i).map (·.2)).length ≤ 100 := by have := hS.out; simp; omega
      generalize l[i] = x at *
      obtain ⟨f, s⟩ := x
      simp only [] at hc hk HT HD
      obtain ⟨K, caps, rfl, eg, hlook⟩ := hk
      have hcall := zH (hlook wr _ hlen HI.out (Off.refl _))
      obtain ⟨F, hF⟩ : ∃ F, s.holds = F := ⟨_, rfl⟩
      rw [hF] at hcall
      replace hF := zH hF
      clear hlook hlen hblk
      cases F with
      | true =>
        go_wp2_with (go_at_fn K; refine hcall.out.mono ?_; rintro e w2 ⟨rfl, hI2, ho2⟩)
        have HI2 := zH hI2
        have HO2 := zH (HO.out.trans ho2)
        clear hI2 ho2
        go_roundw
        case rel => exact ⟨i + 1, by go_num, by show _ ≤ _; omega, (show _ = _ from by rw [HT.out, List.all_append, hall.out]; simp [hF.out]), (show I _ _ from by rw [HT.out, ← List.append_assoc]; exact HI2.out), HO2.out⟩
        case measure => simp [intOf]; omega
      | false =>
        go_wp2_with (go_at_fn K; refine hcall.out.mono ?_; rintro e w2 ⟨rfl, hI2, ho2⟩)
        go_ret
        obtain ⟨m, hm⟩ := HD.out
        have hcut : cutL (l.map (·.2)) = (l.take i).map (·.2) ++ [s] := by
          rw [hm, List.append_assoc, cutL_app, hall.out, if_pos rfl, cutL_all hall.out]
          congr 1
          rw [List.cons_append, cutL, hF.out]
          rfl
        have hR : Res = false := by rw [← hRes.out, hm]; simp [hF.out]
        subst hR
        rw [hcut, ← List.append_assoc]
        exact ⟨rfl, hI2, HO.out.trans ho2⟩
    · have tn : decide ((i : Int) < (n : Int)) = false := decide_eq_false (by omega)
      have hz : l.take i = l := List.take_of_length_le (by rw [hn.out]; omega)
      rw [hz] at hall HI
      have hR : Res = true := hRes.out.symm.trans hall.out
      subst hR
      go_wp2_with fail
      go_ret
      rw [cutL_all hall.out]
      exact ⟨rfl, HI.out, HO.out⟩
theorem all_any (I : List Stp → World → Prop) (p n : Nat) (l : List (Value × Stp)) (cs : Array Value) (S0 : List Stp) (w : World) (hn : l.length = n) (hcs : (l.map (·.1)).toArray = cs) (hp : Hid (w.heap[p]? = some (.cells cs 79 (0, 0)))) (hl : Hid (∀ x ∈ l, LookIs I w x.1 x.2)) (hI : Hid (I S0 w)) (hS : Hid (S0.length + n ≤ 100)) :
    Calls Tryz.prog 43 #[.slice (some ⟨p, 0, none⟩) n n] w fun e w' => e = .returned (.bool ((l.map (·.2)).all (·.holds))) ∧ I (S0 ++ cutL (l.map (·.2))) w' ∧ Off w w' :=
  all_gen I p n n l cs S0 w hn (show _ from fun i h => by rw [← hcs]; simp [h]) hp hl hI hS
section
variable (w0 : World) (g : Nat) (vh vs vo vr : Value) (b : Bk) (e : Ev) (rate : Int)
theorem Gt.law {w0 : World} {g : Nat} {vh vs vo vr : Value} {b : Bk} {e : Ev} {rate : Int} {l : List Stp} {w : World} (h : Gt w0 g vh vs vo vr b e rate l w) (hT : Law16 w0) : Law16 w := hT.call h.below
theorem Holds_ag (r a b : Int) (o : Bool) (hs : Stp.fit ⟨r, a, b, o⟩) (w : World) (hT : Hid (Law16 w)) : Calls Tryz.prog 61 #[.agg #[.int .i64 r, .int .i64 a, .int .i64 b, .bool o]] w fun e w' => e = .returned (.bool (Stp.mk r a b o).holds) ∧ Below w.heap.size w w' := Holds_any ⟨r, a, b, o⟩ hs w hT
set_option maxRecDepth 100000 in
set_option maxHeartbeats 2000000 in
theorem sides1_on (hT : Hid (Law16 w0)) (n x y : Int) (hs : Hid ((sS n x y).fit)) (W : World) (p1 p2 p3 p4 : Nat) (h1 : Hid (W.heap[p1]? = some (.cells #[.int .i64 n] 3 (0, 0)))) (h2 : Hid (W.heap[p2]? = some (.cells #[.int .i64 x] 2 (0, 0)))) (h3 : Hid (W.heap[p3]? = some (.cells #[.int .i64 y] 2 (0, 0)))) (h4 : Hid (W.heap[p4]? = some (.cells #[.pointer (some ⟨g, 0, none⟩)] 73 (0, 0)))) :
    LookOn (Gt w0 g vh vs vo vr b e rate) W 104 #[.pointer (some ⟨p1, 0, none⟩), .pointer (some ⟨p2, 0, none⟩), .pointer (some ⟨p3, 0, none⟩), .pointer (some ⟨p4, 0, none⟩)] (sS n x y) := by
  intro w l hl hI hW
  have HG := zH hI
  have K1 : Hid (w.heap[p1]? = some (.cells #[.int .i64 n] 3 (0, 0))) := hW.blk _ _ _ _ h1.out (by decide) (by decide)
  have K2 : Hid (w.heap[p2]? = some (.cells #[.int .i64 x] 2 (0, 0))) := hW.blk _ _ _ _ h2.out (by decide) (by decide)
  have K3 : Hid (w.heap[p3]? = some (.cells #[.int .i64 y] 2 (0, 0))) := hW.blk _ _ _ _ h3.out (by decide) (by decide)
  have K4 : Hid (w.heap[p4]? = some (.cells #[.pointer (some ⟨g, 0, none⟩)] 73 (0, 0))) := hW.blk _ _ _ _ h4.out (by decide) (by decide)
  clear hI hW h1 h2 h3 h4
  obtain ⟨vS, hg, ho⟩ := HG.out.blk
  obtain ⟨A, c, rfl⟩ := ho.form
  have KG := zH hg
  have OS := zH ho
  clear hg ho
  obtain ⟨w1, hw1⟩ : ∃ w1, w.alloc (.cells #[.int .i64 n, .int .i64 x, .int .i64 y, .bool false] 50) = w1 := ⟨_, rfl⟩
  have HB1 : Hid (Below w.heap.size w w1) := by rw [← hw1]; exact below_alloc (Below.refl _ _) (Nat.le_refl _) _
  have S1 : Hid (w1.heap[w.heap.size]? = some (.cells #[.int .i64 n, .int .i64 x, .int .i64 y, .bool false] 50 (0, 0))) := by rw [← hw1]; exact heap_new _ _
  have G1 := zH (blk_call KG.out HB1.out)
  have P1 := zH (blk_call K4.out HB1.out)
  have O1 := zH (OS.out.kept HB1.out)
  have HI1 := zH (HG.out.kept HB1.out)
  have HW1 := zH hw1
  clear hw1
  have a1 := cells_of_blk K1.out 0 _ rfl
  have a2 := cells_of_blk K2.out 0 _ rfl
  have a3 := cells_of_blk K3.out 0 _ rfl
  have a4 := cells_of_blk K4.out 0 _ rfl
  go_enter Tryz.func104, Tryz.ntmps104
  go_wp2_with fail
  rw [HW1.out]
  clear a1 a2 a3 a4 HW1
  replace KG := G1
  clear G1
  have HF : Hid (Off w w1) := Off.of HB1.out
  have hneS : (Value.slice A l.length c).ownBlock ≠ some w.heap.size := fun h => by
    have := (OS.out.1.lt _ h).2
    omega
  clear OS K1 K2 K3 K4
  refine wp_region_D [10] (fun wz : World => Hid (wz.heap[p4]? = some (.cells #[.pointer (some ⟨g, 0, none⟩)] 73 (0, 0))) ∧ Hid (wz.heap[g]? = some (.cells #[vh, vs, vo, vr, .int .i64 b.n, .int .i64 e.kind, .int .i64 e.acc, .int .i64 e.ord, .int .i64 e.sym, .int .i64 e.side, .int .i64 e.qty, .int .i64 e.px, .int .i64 rate, .slice A l.length c] 75 (0, 0))) ∧ Hid (wz.heap[w.heap.size]? = some (.cells #[.int .i64 n, .int .i64 x, .int .i64 y, .bool false] 50 (0, 0)))) 11 #[false, false, false, false, false, false, false, false, false, false, false] (by kernel_rfl) (by kernel_rfl) (by kernel_rfl) ?_
  obtain ⟨wd1, hwd1⟩ : ∃ wd1 : World, { w1 with drawn := w1.drawn + 1 } = wd1 := ⟨_, rfl⟩
  rw [hwd1]
  have hbwd1 : Below w1.heap.size w1 wd1 := by rw [← hwd1]; exact (Below.refl _ _).drew
  replace P1 := zK P1 hbwd1
  replace KG := zK KG hbwd1
  replace S1 := zK S1 hbwd1
  replace O1 := zH (O1.out.kept hbwd1)
  replace HI1 := zH (HI1.out.kept hbwd1)
  replace HF := zH (HF.out.trans (Off.of hbwd1))
  clear hwd1 hbwd1
  refine pure_moreD [0, 1, 2, 3, 4, 5] 5 (L' := #[true, true, true, true, true, true, false, false, false, false, false]) (by kernel_rfl) (by kernel_rfl) ⟨P1, KG, S1⟩ ?_
  simp only [opsAt, List.getElem?_toArray, List.getElem?_cons_zero, List.getElem?_cons_succ]
  refine pure_atG (.pointer (some ⟨g, 0, none⟩)) rfl (fun wz hC => by have c0 := cells_of_blk hC.1.out 0 _ rfl; unfold execOp; go_simp) ?_
  refine pure_atG (.pointer (some ⟨g, 0, none⟩)) rfl (fun wz hC => by have c0 := cells_of_blk hC.1.out 0 _ rfl; unfold execOp; go_simp) ?_
  refine pure_atG (.pointer (some ⟨g, 0, none⟩)) rfl (fun wz _ => by unfold execOp; go_simp) ?_
  refine pure_atG (.pointer (some ⟨g, 13, none⟩)) rfl (fun wz _ => by unfold execOp; go_simp) ?_
  refine pure_atG (.slice A l.length c) rfl (fun wz hC => by have c0 := cells_of_blk hC.2.1.out 13 _ rfl; unfold execOp; go_simp) ?_
  refine pure_atG (.agg #[.int .i64 n, .int .i64 x, .int .i64 y, .bool false]) rfl (fun wz hC => by have c0 := cells_of_blk hC.2.2.out 0 _ rfl; have c1 := cells_of_blk hC.2.2.out 1 _ rfl; have c2 := cells_of_blk hC.2.2.out 2 _ rfl; have c3 := cells_of_blk hC.2.2.out 3 _ rfl; unfold execOp; go_simp) ?_
  unfold wpPure
  go_simp
  refine wpAnyD_one 6 (f := 4) (L' := #[true, true, true, true, true, true, true, false, false, false, false]) (by kernel_rfl) (by kernel_rfl) rfl rfl ?_
  go_wp2_with fail
  rw [StepQ_normal]
  refine ⟨fun _ => ⟨blk_old P1.out _, blk_old KG.out _, blk_old S1.out _⟩, ?_⟩
  refine wpAnyD_one 7 (f := 3) (L' := #[true, true, true, true, true, true, true, true, false, false, false]) (by kernel_rfl) (by kernel_rfl) rfl rfl ?_
  refine wpList_append_stp (W := w0) (B := w0.heap.size) _ _ 34 el_Step (⟨n, x, y, false⟩ : Stp) (.slice A l.length c) l HI1.out.below (zH O1.out) HI1.out.below.size rfl rfl rfl rfl rfl hs.out (by omega) ?_
  intro v2 wg2 ho2 hb2 hB2 hoff hoth
  have hneG : (Value.slice A l.length c).ownBlock ≠ some g := O1.out.ne KG.out (by decide)
  replace P1 := zH (hoff.out.blk _ _ _ _ P1.out (by decide) (by decide))
  replace KG := zH (hoth.out _ _ hneG KG.out)
  replace S1 := zH (hoth.out _ _ hneS S1.out)
  replace HF := zH (HF.out.trans hoff.out)
  clear hoth hoff hneG
  obtain ⟨A2, c2, hA2⟩ := ho2.out.form
  obtain ⟨k2, hk2⟩ : ∃ k2, (l ++ [(⟨n, x, y, false⟩ : Stp)]).length = k2 := ⟨_, rfl⟩
  rw [hk2] at hA2
  subst hA2
  clear hk2
  go_wp2_with fail
  rw [StepQ_normal]
  refine ⟨fun _ => ⟨P1, KG, S1⟩, ?_⟩
  refine wpAnyD_one 8 (f := 2) (L' := #[true, true, true, true, true, true, true, true, true, false, false]) (by kernel_rfl) (by kernel_rfl) rfl rfl ?_
  go_wp2_with fail
  rw [StepQ_normal]
  refine ⟨fun _ => ⟨P1, KG, S1⟩, ?_⟩
  refine wpAnyD_one 9 (f := 1) (L' := #[true, true, true, true, true, true, true, true, true, true, false]) (by kernel_rfl) (by kernel_rfl) rfl rfl ?_
  go_wp2_with fail
  rw [StepQ_normal]
  refine ⟨fun _ => ⟨P1, KG, S1⟩, ?_⟩
  have c_g_0 := zC KG.out
  have fc_g_0 := zF KG.out
  refine wpAnyD_one 10 (f := 0) (L' := #[true, true, true, true, true, true, true, true, true, true, true]) (by kernel_rfl) (by kernel_rfl) rfl rfl ?_
  go_wp2_with fail
  clear c_g_0 fc_g_0
  rw [StepQ_normal]
  refine ⟨fun h => absurd h (by decide), ?_⟩
  refine ⟨by kernel_rfl, ?_⟩
  rw [OnlyN_normal]
  obtain ⟨wg3, hw3⟩ : ∃ wg3 : World, wg2.setCell ⟨g, 13, none⟩ (.slice A2 k2 c2) = wg3 := ⟨_, rfl⟩
  rw [hw3]
  have HG3 : Hid (Gt w0 g vh vs vo vr b e rate (l ++ [(⟨n, x, y, false⟩ : Stp)]) wg3) := ⟨⟨_, by rw [← hw3]; exact set_blk KG.out 13 _, by rw [← hw3]; exact ho2.out.setOther KG.out (by decide) 13 _⟩, by rw [← hw3]; exact hb2.out.setCell (p := ⟨g, 13, none⟩) HI1.out.le _, HI1.out.le⟩
  have HF3 : Hid (Off w wg3) := HF.out.trans (by rw [← hw3]; exact Off.set KG.out 13 _)
  have S3 := zH (set_oth S1.out 13 (.slice A2 k2 c2) (blk_ne S1.out KG.out (by decide)))
  rw [hw3] at S3
  clear hw3 KG S1 P1
  have s0 := zC S3.out
  go_wp2_with fail
  have hfit : Stp.fit ⟨n, x, y, false⟩ := hs.out
  with_reducible refine (Holds_ag n x y false hfit _ (zH (HG3.out.law hT.out))).mono ?_
  rintro e w9 ⟨rfl, hb⟩
  clear s0
  go_wp2_with fail
  go_ret
  exact ⟨rfl, HG3.out.kept hb, HF3.out.trans (Off.of hb)⟩
end
end Go.Proofs.YtjcdpmianmgiaaaGreatDoor
namespace Go.Proofs.YtjcdpmianmgiaaaGreatDoor
open Go Go.RowKit
set_option linter.unusedVariables false
set_option linter.unusedSimpArgs false
def SideOn (I : List Stp → World → Prop) (W : World) (f : Value) (x y : Int) (fits : Bool) : Prop :=
  ∃ K caps, f = .func (.func K) #[] caps ∧ (∀ args w, (callFunc K args).run Tryz.prog w = .ok (.enter K args) w) ∧
    ∀ (w : World) (l : List Stp), I l w → Off W w → Calls Tryz.prog K caps w fun e w' => e = .returned (.tuple #[.int .i64 x, .int .i64 y, .bool fits]) ∧ Below w.heap.size w w'
section
variable (w0 : World) (g : Nat) (vh vs vo vr : Value) (b : Bk) (e : Ev) (rate : Int)
set_option maxRecDepth 100000 in
set_option maxHeartbeats 2000000 in
theorem sides_any (hT : Hid (Law16 w0)) (n x y : Int) (hs : Hid ((sS n x y).fit)) (w : World) :
    Calls Tryz.prog 44 #[.pointer (some ⟨g, 0, none⟩), .int .i64 n, .int .i64 x, .int .i64 y] w fun r w' => ∃ f, r = .returned f ∧ LookIs (Gt w0 g vh vs vo vr b e rate) w' f (sS n x y) ∧ Below w.heap.size w w' := by
  have K1 : Hid (((((w.alloc (.cells #[.pointer (some ⟨g, 0, none⟩)] 73)).alloc (.cells #[.int .i64 n] 3)).alloc (.cells #[.int .i64 x] 2)).alloc (.cells #[.int .i64 y] 2)).heap[w.heap.size]? = some (.cells #[.pointer (some ⟨g, 0, none⟩)] 73 (0, 0))) := blk_old (blk_old (blk_old (heap_new _ _) _) _) _
  have K2 : Hid (((((w.alloc (.cells #[.pointer (some ⟨g, 0, none⟩)] 73)).alloc (.cells #[.int .i64 n] 3)).alloc (.cells #[.int .i64 x] 2)).alloc (.cells #[.int .i64 y] 2)).heap[w.heap.size + 1]? = some (.cells #[.int .i64 n] 3 (0, 0))) := blk_old (blk_old (blk_new _ _ _ (by simp)) _) _
  have K3 : Hid (((((w.alloc (.cells #[.pointer (some ⟨g, 0, none⟩)] 73)).alloc (.cells #[.int .i64 n] 3)).alloc (.cells #[.int .i64 x] 2)).alloc (.cells #[.int .i64 y] 2)).heap[w.heap.size + 2]? = some (.cells #[.int .i64 x] 2 (0, 0))) := blk_old (blk_new _ _ _ (by simp)) _
  have K4 : Hid (((((w.alloc (.cells #[.pointer (some ⟨g, 0, none⟩)] 73)).alloc (.cells #[.int .i64 n] 3)).alloc (.cells #[.int .i64 x] 2)).alloc (.cells #[.int .i64 y] 2)).heap[w.heap.size + 3]? = some (.cells #[.int .i64 y] 2 (0, 0))) := blk_new _ _ _ (by simp)
  have HB : Hid (Below w.heap.size w ((((w.alloc (.cells #[.pointer (some ⟨g, 0, none⟩)] 73)).alloc (.cells #[.int .i64 n] 3)).alloc (.cells #[.int .i64 x] 2)).alloc (.cells #[.int .i64 y] 2))) := below_alloc (below_alloc (below_alloc (below_alloc (Below.refl _ _) (Nat.le_refl _) _) (by first | (simp; done) | (simp; omega)) _) (by first | (simp; done) | (simp; omega)) _) (by first | (simp; done) | (simp; omega)) _
  go_enter Tryz.func44, Tryz.ntmps44
  go_wp2_with fail
  go_ret
  exact ⟨_, rfl, ⟨104, _, rfl, fun args w => enters_of Tryz.func104 (by kernel_rfl) rfl _ w, sides1_on w0 g vh vs vo vr b e rate hT n x y hs _ _ _ _ _ K2 K3 K4 K1⟩, HB.out⟩
set_option maxRecDepth 100000 in
set_option maxHeartbeats 2000000 in
theorem exact1_on (hT : Hid (Law16 w0)) (n x y : Int) (fits : Bool) (fS : Value) (hn : Hid (I64 n)) (hs : Hid ((sS n x y).fit)) (W : World) (p1 p2 p3 : Nat) (hS : Hid (SideOn (Gt w0 g vh vs vo vr b e rate) W fS x y fits)) (h1 : Hid (W.heap[p1]? = some (.cells #[fS] 139 (0, 0)))) (h2 : Hid (W.heap[p2]? = some (.cells #[.pointer (some ⟨g, 0, none⟩)] 73 (0, 0)))) (h3 : Hid (W.heap[p3]? = some (.cells #[.int .i64 n] 3 (0, 0)))) :
    LookOn (Gt w0 g vh vs vo vr b e rate) W 151 #[.pointer (some ⟨p1, 0, none⟩), .pointer (some ⟨p2, 0, none⟩), .pointer (some ⟨p3, 0, none⟩)] (oS n x y fits) := by
  intro w l hl hI hW
  have HG := zH hI
  have K1 : Hid (w.heap[p1]? = some (.cells #[fS] 139 (0, 0))) := hW.blk _ _ _ _ h1.out (by decide) (by decide)
  have K2 : Hid (w.heap[p2]? = some (.cells #[.pointer (some ⟨g, 0, none⟩)] 73 (0, 0))) := hW.blk _ _ _ _ h2.out (by decide) (by decide)
  have K3 : Hid (w.heap[p3]? = some (.cells #[.int .i64 n] 3 (0, 0))) := hW.blk _ _ _ _ h3.out (by decide) (by decide)
  obtain ⟨K, caps, rfl, eg, hcall⟩ := hS.out
  have hcall2 := zH (hcall w l hI hW)
  clear hI hW h1 h2 h3 hS hcall
  have a1 := cells_of_blk K1.out 0 _ rfl
  have a2 := cells_of_blk K2.out 0 _ rfl
  have a3 := cells_of_blk K3.out 0 _ rfl
  cases fits with
  | true =>
    go_enter Tryz.func151, Tryz.ntmps151
    go_wp2_with (go_at_fn K; refine hcall2.out.mono ?_; rintro r w1 ⟨rfl, hb⟩; have J2 := zH (blk_call K2.out hb); have J3 := zH (blk_call K3.out hb); have HG1 := zH (HG.out.kept hb); have HO1 := zH (Off.of hb); clear hb; have b2 := cells_of_blk J2.out 0 _ rfl; have b3 := cells_of_blk J3.out 0 _ rfl)
    with_reducible refine (sides_any w0 g vh vs vo vr b e rate hT n x y hs _).mono ?_
    rintro r w2 ⟨f2, rfl, ⟨K', caps', rfl, eg', hlook⟩, hb⟩
    have hc := zH (hlook w2 l hl (HG1.out.kept hb) (Off.refl _))
    have HO2 := zH (HO1.out.trans (Off.of hb))
    clear hb b2 b3 a1 a2 a3 J2 J3 HG1 HO1 hlook
    obtain ⟨R, hR⟩ : ∃ R, (sS n x y).holds = R := ⟨_, rfl⟩
    rw [hR] at hc
    have hR2 : Hid ((oS n x y true).holds = R) := hR
    clear hR
    go_wp2_with (go_at_fn K'; refine hc.out.mono ?_; rintro r w3 ⟨rfl, hI3, ho3⟩)
    go_ret
    rw [hR2.out]
    exact ⟨rfl, hI3, HO2.out.trans ho3⟩
  | false =>
    clear hs
    obtain ⟨vS, hg, ho⟩ := HG.out.blk
    obtain ⟨A, c, rfl⟩ := ho.form
    have KG := zH hg
    have OS := zH ho
    clear hg ho
    go_enter Tryz.func151, Tryz.ntmps151
    go_wp2_with (go_at_fn K; refine hcall2.out.mono ?_; rintro r w1 ⟨rfl, hb⟩)
    replace KG := zK KG hb
    replace K2 := zK K2 hb
    replace K3 := zK K3 hb
    have O1 := zH (OS.out.kept hb)
    have HI1 := zH (HG.out.kept hb)
    have HF : Hid (Off w w1) := Off.of hb
    clear hb a1 a2 a3 K1 HG hcall2 OS
    go_wp2_with fail
    refine wp_region_D [11] (fun wz : World => Hid (wz.heap[p2]? = some (.cells #[.pointer (some ⟨g, 0, none⟩)] 73 (0, 0))) ∧ Hid (wz.heap[p3]? = some (.cells #[.int .i64 n] 3 (0, 0))) ∧ Hid (wz.heap[g]? = some (.cells #[vh, vs, vo, vr, .int .i64 b.n, .int .i64 e.kind, .int .i64 e.acc, .int .i64 e.ord, .int .i64 e.sym, .int .i64 e.side, .int .i64 e.qty, .int .i64 e.px, .int .i64 rate, .slice A l.length c] 75 (0, 0)))) 12 #[false, false, false, false, false, false, false, false, false, false, false, false] (by kernel_rfl) (by kernel_rfl) (by kernel_rfl) ?_
    obtain ⟨wd1, hwd1⟩ : ∃ wd1 : World, { w1 with drawn := w1.drawn + 1 } = wd1 := ⟨_, rfl⟩
    rw [hwd1]
    have hbwd1 : Below w1.heap.size w1 wd1 := by rw [← hwd1]; exact (Below.refl _ _).drew
    replace K2 := zK K2 hbwd1
    replace K3 := zK K3 hbwd1
    replace KG := zK KG hbwd1
    replace O1 := zH (O1.out.kept hbwd1)
    replace HI1 := zH (HI1.out.kept hbwd1)
    replace HF := zH (HF.out.trans (Off.of hbwd1))
    clear hwd1 hbwd1
    refine pure_moreD [0, 1, 2, 3, 4, 5, 6] 5 (L' := #[true, true, true, true, true, true, true, false, false, false, false, false]) (by kernel_rfl) (by kernel_rfl) ⟨K2, K3, KG⟩ ?_
    simp only [opsAt, List.getElem?_toArray, List.getElem?_cons_zero, List.getElem?_cons_succ]
    refine pure_atG (.pointer (some ⟨g, 0, none⟩)) rfl (fun wz hC => by have c0 := cells_of_blk hC.1.out 0 _ rfl; unfold execOp; go_simp) ?_
    refine pure_atG (.pointer (some ⟨g, 0, none⟩)) rfl (fun wz hC => by have c0 := cells_of_blk hC.1.out 0 _ rfl; unfold execOp; go_simp) ?_
    refine pure_atG (.pointer (some ⟨g, 0, none⟩)) rfl (fun wz _ => by unfold execOp; go_simp) ?_
    refine pure_atG (.pointer (some ⟨g, 13, none⟩)) rfl (fun wz _ => by unfold execOp; go_simp) ?_
    refine pure_atG (.slice A l.length c) rfl (fun wz hC => by have c0 := cells_of_blk hC.2.2.out 13 _ rfl; unfold execOp; go_simp) ?_
    refine pure_atG (.int .i64 n) rfl (fun wz hC => by have c0 := cells_of_blk hC.2.1.out 0 _ rfl; unfold execOp; go_simp) ?_
    refine pure_atG (.agg #[.int .i64 n, .int .i64 0, .int .i64 0, .bool true]) rfl (fun wz _ => by unfold execOp; go_simp) ?_
    unfold wpPure
    go_simp
    have hfit : Stp.fit ⟨n, 0, 0, true⟩ := ⟨hn.out, by show I64 0; unfold I64; omega, by show I64 0; unfold I64; omega⟩
    refine wpAnyD_one 7 (f := 4) (L' := #[true, true, true, true, true, true, true, true, false, false, false, false]) (by kernel_rfl) (by kernel_rfl) rfl rfl ?_
    go_wp2_with fail
    rw [StepQ_normal]
    refine ⟨fun _ => ⟨blk_old K2.out _, blk_old K3.out _, blk_old KG.out _⟩, ?_⟩
    refine wpAnyD_one 8 (f := 3) (L' := #[true, true, true, true, true, true, true, true, true, false, false, false]) (by kernel_rfl) (by kernel_rfl) rfl rfl ?_
    refine wpList_append_stp (W := w0) (B := w0.heap.size) _ _ 34 el_Step (⟨n, 0, 0, true⟩ : Stp) (.slice A l.length c) l HI1.out.below (zH O1.out) HI1.out.below.size rfl rfl rfl rfl rfl hfit (by omega) ?_
    intro v2 wg2 ho2 hb2 hB2 hoff hoth
    have hneG : (Value.slice A l.length c).ownBlock ≠ some g := O1.out.ne KG.out (by decide)
    replace K2 := zH (hoff.out.blk _ _ _ _ K2.out (by decide) (by decide))
    replace K3 := zH (hoff.out.blk _ _ _ _ K3.out (by decide) (by decide))
    replace KG := zH (hoth.out _ _ hneG KG.out)
    replace HF := zH (HF.out.trans hoff.out)
    clear hoth hoff hneG
    obtain ⟨A2, c2, hA2⟩ := ho2.out.form
    obtain ⟨k2, hk2⟩ : ∃ k2, (l ++ [(⟨n, 0, 0, true⟩ : Stp)]).length = k2 := ⟨_, rfl⟩
    rw [hk2] at hA2
    subst hA2
    clear hk2
    go_wp2_with fail
    rw [StepQ_normal]
    refine ⟨fun _ => ⟨K2, K3, KG⟩, ?_⟩
    refine wpAnyD_one 9 (f := 2) (L' := #[true, true, true, true, true, true, true, true, true, true, false, false]) (by kernel_rfl) (by kernel_rfl) rfl rfl ?_
    go_wp2_with fail
    rw [StepQ_normal]
    refine ⟨fun _ => ⟨K2, K3, KG⟩, ?_⟩
    refine wpAnyD_one 10 (f := 1) (L' := #[true, true, true, true, true, true, true, true, true, true, true, false]) (by kernel_rfl) (by kernel_rfl) rfl rfl ?_
    go_wp2_with fail
    rw [StepQ_normal]
    refine ⟨fun _ => ⟨K2, K3, KG⟩, ?_⟩
    have c_g_0 := zC KG.out
    have fc_g_0 := zF KG.out
    refine wpAnyD_one 11 (f := 0) (L' := #[true, true, true, true, true, true, true, true, true, true, true, true]) (by kernel_rfl) (by kernel_rfl) rfl rfl ?_
    go_wp2_with fail
    clear c_g_0 fc_g_0
    rw [StepQ_normal]
    refine ⟨fun h => absurd h (by decide), ?_⟩
    refine ⟨by kernel_rfl, ?_⟩
    rw [OnlyN_normal]
    obtain ⟨wg3, hw3⟩ : ∃ wg3 : World, wg2.setCell ⟨g, 13, none⟩ (.slice A2 k2 c2) = wg3 := ⟨_, rfl⟩
    rw [hw3]
    have HG3 : Hid (Gt w0 g vh vs vo vr b e rate (l ++ [(⟨n, 0, 0, true⟩ : Stp)]) wg3) := ⟨⟨_, by rw [← hw3]; exact set_blk KG.out 13 _, by rw [← hw3]; exact ho2.out.setOther KG.out (by decide) 13 _⟩, by rw [← hw3]; exact hb2.out.setCell (p := ⟨g, 13, none⟩) HI1.out.le _, HI1.out.le⟩
    have HF3 : Hid (Off w wg3) := HF.out.trans (by rw [← hw3]; exact Off.set KG.out 13 _)
    go_wp2_with fail
    go_ret
    exact ⟨rfl, HG3.out, HF3.out⟩
set_option maxRecDepth 100000 in
set_option maxHeartbeats 2000000 in
theorem exact_any (hT : Hid (Law16 w0)) (n x y : Int) (fits : Bool) (fS : Value) (hn : Hid (I64 n)) (hs : Hid ((sS n x y).fit)) (w : World) (hS : Hid (SideOn (Gt w0 g vh vs vo vr b e rate) w fS x y fits)) :
    Calls Tryz.prog 91 #[.pointer (some ⟨g, 0, none⟩), .int .i64 n, fS] w fun r w' => ∃ f, r = .returned f ∧ LookIs (Gt w0 g vh vs vo vr b e rate) w' f (oS n x y fits) ∧ Below w.heap.size w w' := by
  obtain ⟨K, caps, rfl, eg, hcall⟩ := hS.out
  obtain ⟨w3, hw3⟩ : ∃ w3, ((w.alloc (.cells #[.pointer (some ⟨g, 0, none⟩)] 73)).alloc (.cells #[.int .i64 n] 3)).alloc (.cells #[.func (.func K) #[] caps] 139) = w3 := ⟨_, rfl⟩
  have K1 : Hid (w3.heap[w.heap.size]? = some (.cells #[.pointer (some ⟨g, 0, none⟩)] 73 (0, 0))) := by rw [← hw3]; exact blk_old (blk_old (heap_new _ _) _) _
  have K2 : Hid (w3.heap[w.heap.size + 1]? = some (.cells #[.int .i64 n] 3 (0, 0))) := by rw [← hw3]; exact blk_old (blk_new _ _ _ (by simp)) _
  have K3 : Hid (w3.heap[w.heap.size + 2]? = some (.cells #[.func (.func K) #[] caps] 139 (0, 0))) := by rw [← hw3]; exact blk_new _ _ _ (by simp)
  have HB : Hid (Below w.heap.size w w3) := by rw [← hw3]; exact below_alloc (below_alloc (below_alloc (Below.refl _ _) (Nat.le_refl _) _) (by first | (simp; done) | (simp; omega)) _) (by first | (simp; done) | (simp; omega)) _
  have HS3 : Hid (SideOn (Gt w0 g vh vs vo vr b e rate) w3 (.func (.func K) #[] caps) x y fits) := ⟨K, caps, rfl, eg, fun wz l hI hO => hcall wz l hI ((Off.of HB.out).trans hO)⟩
  have HW3 := zH hw3
  clear hw3 hcall hS
  go_enter Tryz.func91, Tryz.ntmps91
  go_wp2_with fail
  rw [HW3.out]
  go_ret
  exact ⟨_, rfl, ⟨151, _, rfl, fun args w => enters_of Tryz.func151 (by kernel_rfl) rfl _ w, exact1_on w0 g vh vs vo vr b e rate hT n x y fits _ hn hs _ _ _ _ HS3 K3 K1 K2⟩, HB.out⟩
end
end Go.Proofs.YtjcdpmianmgiaaaGreatDoor
namespace Go.Proofs.YtjcdpmianmgiaaaGreatDoor
open Go Go.RowKit
set_option linter.unusedVariables false
set_option linter.unusedSimpArgs false
structure FreeC where
  i : Nat
  d : Tmp
  R : Nat → Nat → Value → World → Prop
structure RunC where
  lo : Nat
  hi : Nat
  v : Value
def putsE : List FreeC → List RunC → Act → Act
  | e :: es, v :: vs, a => putsE es vs (a.put (some e.d) v.v)
  | _, _, a => a
theorem putsE_mid (e : FreeC) (v : RunC) (l2 : List FreeC) (v2 : List RunC) : ∀ (l1 : List FreeC) (v1 : List RunC) (a : Act), l1.length = v1.length → (∀ x ∈ l1, x.d ≠ e.d) → putsE (l1 ++ e :: l2) (v1 ++ v :: v2) a = putsE (l1 ++ l2) (v1 ++ v2) (a.put (some e.d) v.v)
  | [], [], a, _, _ => rfl
  | x :: l1, u :: v1, a, hl, hd => by
    show putsE (l1 ++ e :: l2) (v1 ++ v :: v2) (a.put (some x.d) u.v) = putsE (l1 ++ l2) (v1 ++ v2) ((a.put (some e.d) v.v).put (some x.d) u.v)
    rw [putsE_mid e v l2 v2 l1 v1 _ (by simpa using hl) (fun y hy => hd y (by simp [hy])), Act.put_comm a u.v v.v (fun d h1 h2 => hd x (by simp) (by injection h1 with h1; injection h2 with h2; rw [h1, h2]))]
def Holds (B : Nat) : List FreeC → List RunC → World → Prop
  | e :: es, v :: vs, w => (e.R v.lo v.hi v.v w ∧ B ≤ v.lo) ∧ Holds B es vs w
  | [], [], _ => True
  | _, _, _ => False
theorem Holds.len {B : Nat} : ∀ {es : List FreeC} {vs : List RunC} {w : World}, Holds B es vs w → es.length = vs.length
  | [], [], _, _ => rfl
  | e :: es, v :: vs, w, h => by simp [Holds.len h.2]
theorem Holds.split {B : Nat} : ∀ {l1 l2 : List FreeC} {vs : List RunC} {w : World}, Holds B (l1 ++ l2) vs w → ∃ v1 v2, vs = v1 ++ v2 ∧ Holds B l1 v1 w ∧ Holds B l2 v2 w
  | [], l2, vs, w, h => ⟨[], vs, rfl, trivial, h⟩
  | e :: l1, l2, v :: vs, w, h => by
    obtain ⟨v1, v2, rfl, h1, h2⟩ := Holds.split h.2
    exact ⟨v :: v1, v2, rfl, ⟨h.1, h1⟩, h2⟩
theorem Holds.join {B : Nat} : ∀ {l1 l2 : List FreeC} {v1 v2 : List RunC} {w : World}, Holds B l1 v1 w → Holds B l2 v2 w → Holds B (l1 ++ l2) (v1 ++ v2) w
  | [], _, [], _, _, _, h => h
  | e :: l1, l2, v :: v1, v2, w, h, h2 => ⟨h.1, Holds.join h.2 h2⟩
theorem Holds.lower {B B' : Nat} (hB : B' ≤ B) : ∀ {es : List FreeC} {vs : List RunC} {w : World}, Holds B es vs w → Holds B' es vs w
  | [], [], _, _ => trivial
  | e :: es, v :: vs, w, h => ⟨⟨h.1.1, Nat.le_trans hB h.1.2⟩, Holds.lower hB h.2⟩
theorem Holds.all {B : Nat} : ∀ {es : List FreeC} {vs : List RunC} {w : World}, Holds B es vs w → ∀ v ∈ vs, B ≤ v.lo
  | [], [], _, _, x, hx => by simp at hx
  | e :: es, v :: vs, w, h, x, hx => by
    rcases List.mem_cons.1 hx with rfl | hx
    · exact h.1.2
    · exact Holds.all h.2 x hx
def Apart (bf : Nat → Nat → Bool) : List FreeC → List RunC → Prop
  | e :: es, v :: vs => (∀ (k : Nat) (e' : FreeC) (v' : RunC), es[k]? = some e' → vs[k]? = some v' → (v.hi ≤ v'.lo ∨ v'.hi ≤ v.lo) ∧ (bf e.i e'.i = true → v.hi ≤ v'.lo) ∧ (bf e'.i e.i = true → v'.hi ≤ v.lo)) ∧ Apart bf es vs
  | _, _ => True
theorem Apart.mid {bf : Nat → Nat → Bool} {e : FreeC} {v : RunC} {l2 : List FreeC} {v2 : List RunC} : ∀ {l1 : List FreeC} {v1 : List RunC}, l1.length = v1.length → Apart bf (l1 ++ l2) (v1 ++ v2) → (∀ x ∈ v1 ++ v2, v.hi ≤ x.lo) → (∀ x ∈ l1 ++ l2, bf x.i e.i = false) → Apart bf (l1 ++ e :: l2) (v1 ++ v :: v2)
  | [], [], _, h, hx, hb => ⟨fun k e' v' he hv => ⟨.inl (hx v' (List.mem_of_getElem? hv)), fun _ => hx v' (List.mem_of_getElem? hv), fun h' => by rw [hb e' (List.mem_of_getElem? he)] at h'; cases h'⟩, h⟩
  | x :: l1, u :: v1, hl, h, hx, hb => by
    refine ⟨fun k e' v' he hv => ?_, Apart.mid (by simpa using hl) h.2 (fun y hy => hx y (List.mem_cons_of_mem _ hy)) (fun y hy => hb y (List.mem_cons_of_mem _ hy))⟩
    have hl' : l1.length = v1.length := by simpa using hl
    replace he : (l1 ++ e :: l2)[k]? = some e' := he
    replace hv : (v1 ++ v :: v2)[k]? = some v' := hv
    have h1 : ∀ (k : Nat) (e' : FreeC) (v' : RunC), (l1 ++ l2)[k]? = some e' → (v1 ++ v2)[k]? = some v' → (u.hi ≤ v'.lo ∨ v'.hi ≤ u.lo) ∧ (bf x.i e'.i = true → u.hi ≤ v'.lo) ∧ (bf e'.i x.i = true → v'.hi ≤ u.lo) := h.1
    rw [List.getElem?_append] at he hv
    by_cases hk : k < l1.length
    · rw [if_pos hk] at he
      rw [if_pos (by omega)] at hv
      exact h1 k e' v' (by rw [List.getElem?_append, if_pos hk]; exact he) (by rw [List.getElem?_append, if_pos (by omega)]; exact hv)
    · rw [if_neg hk] at he
      rw [if_neg (by omega)] at hv
      by_cases h0 : k - l1.length = 0
      · rw [h0] at he
        rw [show k - v1.length = 0 by omega] at hv
        obtain rfl : e = e' := by simpa using he
        obtain rfl : v = v' := by simpa using hv
        have hux := hx u (by simp)
        have hbx := hb x (by simp)
        refine ⟨.inr hux, ?_, fun _ => hux⟩
        intro h'
        rw [hbx] at h'
        cases h'
      · obtain ⟨m, hm⟩ : ∃ m, k - l1.length = m + 1 := ⟨k - l1.length - 1, by omega⟩
        rw [hm, List.getElem?_cons_succ] at he
        rw [show k - v1.length = m + 1 by omega, List.getElem?_cons_succ] at hv
        exact h1 (l1.length + m) e' v' (by rw [List.getElem?_append_right (by omega), Nat.add_sub_cancel_left]; exact he) (by rw [List.getElem?_append_right (by omega), hl', Nat.add_sub_cancel_left]; exact hv)
section
variable {P : Program} {ops : Array Oper} {md : Region.Mode} {C : World → Prop} {ex : List Nat}
def readyAll (md : Region.Mode) (ops : Array Oper) (bf : Nat → Nat → Bool) (Lf : Array Bool) : Nat → List Nat → Array Bool → Bool
  | 0, is, L => is.isEmpty && L == Lf
  | n + 1, is, L => !(Region.ready md ops L).isEmpty && (Region.ready md ops L).all fun i => is.contains i && is.all (fun j => !bf j i) && readyAll md ops bf Lf n (is.erase i) (L.setIfInBounds i true)
theorem eval_put_ne (a : Act) (x : Operand) (t : Tmp) (v : Value) (h : x ≠ .tmp t) : (a.put (some t) v).eval x = a.eval x := by
  cases x with
  | tmp s =>
    have hs : t ≠ s := fun e => h (by rw [e])
    simp [Act.put, Act.eval, Array.getD_eq_getD_getElem?, Array.getElem?_setIfInBounds, hs]
  | _ => rfl
structure CanC (P : Program) (ops : Array Oper) (T : List Tmp) (W0 : World) (e : FreeC) (a : Act) : Prop where
  ex : ∃ o, ops[e.i]? = some o ∧ o.dst = some e.d ∧ o.guard = none
  run : ∀ (Q : Exit → Act → World → Prop) (a' : Act) (w : World) (K : Act → World → Prop), (∀ x : Operand, (∀ t ∈ T, x ≠ .tmp t) → a'.eval x = a.eval x) → Below W0.heap.size W0 w → (∀ v w', e.R w.heap.size w'.heap.size v w' → Below w.heap.size w w' → K (a'.put (some e.d) v) w') → wpOp P ops Q e.i K a' w
theorem CanC.put {T : List Tmp} {W0 : World} {e : FreeC} {a : Act} (h : CanC P ops T W0 e a) {t : Tmp} (ht : t ∈ T) (v : Value) : CanC P ops T W0 e (a.put (some t) v) :=
  ⟨h.ex, fun Q a' w K ha hB hK => h.run Q a' w K (fun x hx => (ha x hx).trans (eval_put_ne a x t v (hx t ht))) hB hK⟩
theorem can_call {T : List Tmp} {W0 : World} {e : FreeC} {a : Act} (f : FuncId) (args : Array Value) (ho : ∃ o az ats, ops[e.i]? = some o ∧ o.dst = some e.d ∧ o.guard = none ∧ o.op = .call { callee := .value (.func f), args := az, argTypes := ats } ∧ az.map a.eval = args ∧ ∀ x ∈ az.toList, ∀ t ∈ T, x ≠ .tmp t)
    (hen : ∀ w, (callFunc f args).run P w = .ok (.enter f args) w)
    (hc : ∀ w, Below W0.heap.size W0 w → Calls P f args w fun x w' => ∃ v, x = .returned v ∧ e.R w.heap.size w'.heap.size v w' ∧ Below w.heap.size w w') : CanC P ops T W0 e a := by
  obtain ⟨o, az, ats, h0, h1, h2, ho, ha, hn⟩ := ho
  refine ⟨⟨o, h0, h1, h2⟩, fun Q a' w K haa hB hK => ?_⟩
  have ha' : az.map a'.eval = args := by
    rw [← ha]
    exact Array.map_congr_left fun x hx => haa x (hn x (by simpa using hx))
  unfold wpOp
  simp only [h0]
  rw [if_pos (by simp [Region.wanted, h2])]
  left
  have he := hen w
  have hrun : (execOp a'.eval o).run P w = .ok (.enter f args) w := by simp [execOp, ho, resolve, invoke, Act.eval, ha', he, Result.andThen, Deferred.ofValue]
  unfold Oper.wp
  rw [hrun]
  refine Calls.mono (hc w hB) ?_
  rintro x w' ⟨v, rfl, hv, hb⟩
  simp only [h1]
  exact hK v w' hv hb
theorem can_alloc {T : List Tmp} {W0 : World} {e : FreeC} {a : Act} (o : Oper) (h0 : ops[e.i]? = some o) (h1 : o.dst = some e.d) (h2 : o.guard = none) (cs : Array Value) (t : TypeId)
    (hr : ∀ (ev : Operand → Value) w, (execOp ev o).run P w = .ok (.value (.pointer (some ⟨w.heap.size, 0, none⟩))) (w.alloc (.cells cs t)))
    (hR : ∀ w, Below W0.heap.size W0 w → e.R w.heap.size (w.alloc (.cells cs t)).heap.size (.pointer (some ⟨w.heap.size, 0, none⟩)) (w.alloc (.cells cs t))) : CanC P ops T W0 e a := by
  refine ⟨⟨o, h0, h1, h2⟩, fun Q a' w K haa hB hK => ?_⟩
  unfold wpOp
  simp only [h0]
  rw [if_pos (by simp [Region.wanted, h2])]
  left
  unfold Oper.wp
  rw [hr]
  show K (a'.put o.dst _) _
  rw [h1]
  exact hK _ _ (hR w hB) ((Below.refl _ _).alloc (Nat.le_refl _) _)
theorem free_ops {Q : Exit → Act → World → Prop} {W0 : World} (f : Nat) (Lf : Array Bool) (bf : Nat → Nat → Bool) (hC : ∀ w, Below W0.heap.size W0 w → C w) (T : List Tmp) :
    ∀ (n : Nat) (es : List FreeC) (L : Array Bool) (a : Act) (w : World), es.length = n → Below W0.heap.size W0 w → readyAll md ops bf Lf n (es.map (·.i)) L = true → (es.map (·.i)).Nodup → (es.map (·.d)).Nodup →
    (∀ e ∈ es, CanC P ops T W0 e a ∧ e.d ∈ T) →
    (∀ e ∈ es, ∀ lo hi v w1 w2, e.R lo hi v w1 → Below w1.heap.size w1 w2 → e.R lo hi v w2) →
    (∀ vs w', Holds w.heap.size es vs w' → Apart bf es vs → Below w.heap.size w w' → wpAnyD P md ops C ex (OnlyN Q) f Lf (putsE es vs a) w') →
    wpAnyD P md ops C ex (OnlyN Q) (f + n) L a w
  | 0, es, L, a, w, hn, hB, hr, _, _, _, _, K => by
    obtain rfl : es = [] := List.eq_nil_of_length_eq_zero hn
    simp only [readyAll, Bool.and_eq_true, beq_iff_eq] at hr
    obtain rfl := hr.2
    exact K [] w trivial trivial (Below.refl _ _)
  | n + 1, es, L, a, w, hn, hB, hr, hni, hnd, hga, hst, K => by
    simp only [readyAll, Bool.and_eq_true, List.all_eq_true] at hr
    obtain ⟨hr0, hr2⟩ := hr
    refine ⟨fun h0 => ?_, fun i hi => ?_⟩
    · rw [h0] at hr0
      simp at hr0
    · obtain ⟨⟨hin0, hbf⟩, h2⟩ := hr2 _ hi
      obtain ⟨e, he, rfl⟩ := List.mem_map.1 (show i ∈ es.map (·.i) by simpa using hin0)
      obtain ⟨l1, l2, rfl⟩ := List.append_of_mem he
      have hni' := hni
      have hnd' := hnd
      rw [List.map_append, List.map_cons] at hni' hnd' h2
      have hi1 : e.i ∉ l1.map (·.i) := fun h => (List.nodup_append.1 hni').2.2 _ h _ (by simp) rfl
      have hi2 : e.i ∉ l2.map (·.i) := (List.nodup_cons.1 (List.nodup_append.1 hni').2.1).1
      have hd1 : e.d ∉ l1.map (·.d) := fun h => (List.nodup_append.1 hnd').2.2 _ h _ (by simp) rfl
      rw [List.erase_append_right _ hi1, List.erase_cons_head, ← List.map_append] at h2
      have hin : ∀ x ∈ l1 ++ l2, x ∈ l1 ++ e :: l2 := fun x hx => by
        rcases List.mem_append.1 hx with h | h
        · exact List.mem_append_left _ h
        · exact List.mem_append_right _ (List.mem_cons_of_mem _ h)
      have hsub : List.Sublist (l1 ++ l2) (l1 ++ e :: l2) := List.Sublist.append (List.Sublist.refl l1) (List.sublist_cons_self e l2)
      refine (hga e (by simp)).1.run _ a w _ (fun _ _ => rfl) hB fun v w1 hv hb => ?_
      have hB1 := hB.trans (hb.mono hB.size)
      refine ⟨fun _ => hC _ hB1, ?_⟩
      refine free_ops f Lf bf hC T n (l1 ++ l2) (L.setIfInBounds e.i true) (a.put (some e.d) v) w1 (by simp at hn ⊢; omega) hB1 h2 ((hsub.map _).nodup hni) ((hsub.map _).nodup hnd) (fun x hx => ⟨(hga x (hin x hx)).1.put (hga e (by simp)).2 v, (hga x (hin x hx)).2⟩) (fun x hx => hst x (hin x hx)) ?_
      intro vs w' hh hap hb'
      obtain ⟨v1, v2, rfl, h1, h2'⟩ := Holds.split hh
      have hall := hh.all
      have := K (v1 ++ ⟨w.heap.size, w1.heap.size, v⟩ :: v2) w' (Holds.join (h1.lower hb.size) ⟨⟨hst e (by simp) _ _ v w1 w' hv hb', Nat.le_refl _⟩, h2'.lower hb.size⟩)
        (Apart.mid h1.len hap hall (fun x hx => by have := hbf x.i (List.mem_map_of_mem (hin x hx)); simpa using this)) (hb.trans (hb'.mono hb.size))
      rw [putsE_mid e _ l2 v2 l1 v1 a h1.len (fun x hx h => hd1 (h ▸ List.mem_map_of_mem hx))] at this
      exact this
end
section
variable {P : Program} {ops : Array Oper} {md : Region.Mode} {C : World → Prop} {ex : List Nat}
end
end Go.Proofs.YtjcdpmianmgiaaaGreatDoor
namespace Go.Proofs.YtjcdpmianmgiaaaGreatDoor
open Go Go.RowKit
set_option linter.unusedVariables false
set_option linter.unusedSimpArgs false
def putsV (a : Act) : List (Tmp × Value) → Act
  | [] => a
  | p :: l => putsV (a.put (some p.1) p.2) l
theorem putsV_put (t : Tmp) (v : Value) : ∀ (l : List (Tmp × Value)) (a : Act), (∀ p ∈ l, p.1 ≠ t) → putsV (a.put (some t) v) l = (putsV a l).put (some t) v
  | [], _, _ => rfl
  | p :: l, a, h => by
    show putsV ((a.put (some t) v).put (some p.1) p.2) l = (putsV (a.put (some p.1) p.2) l).put (some t) v
    rw [← putsV_put t v l _ (fun q hq => h q (by simp [hq])), Act.put_comm a v p.2 (fun d h1 h2 => h p (by simp) (by injection h1 with h1; injection h2 with h2; rw [h1, h2]))]
theorem putsV_eval (T : List Tmp) : ∀ (l : List (Tmp × Value)) (a : Act), (∀ p ∈ l, p.1 ∈ T) → ∀ x : Operand, (∀ t ∈ T, x ≠ .tmp t) → (putsV a l).eval x = a.eval x
  | [], _, _, _, _ => rfl
  | p :: l, a, h, x, hx => by
    show (putsV (a.put (some p.1) p.2) l).eval x = _
    rw [putsV_eval T l _ (fun q hq => h q (by simp [hq])) x hx, eval_put_ne a x p.1 p.2 (hx _ (h p (by simp)))]
section
variable {P : Program} {ops : Array Oper} {md : Region.Mode} {C : World → Prop} {ex : List Nat}
theorem wpAnyD_ca {Q : Exit → Act → World → Prop} (i j : Nat) (hs : List Nat) (di dj : Tmp) (f : Nat) {L L2 : Array Bool} {a : Act} {w : World} (v : Value) (cs : Array Value) (t : TypeId) (vs : List (Tmp × Value)) (T : List Tmp)
    (hr0 : ((Region.ready md ops L).all (fun k => k == i || k == j) && !(Region.ready md ops L).isEmpty) = true)
    (hr1 : Region.ready md ops (L.setIfInBounds j true) = [i]) (hr2 : Region.ready md ops (setAll hs (L.setIfInBounds i true)) = [j])
    (hB1 : (Region.noSelect ops && headDB md ops ex hs (L.setIfInBounds i true)) = true) (hB2 : (Region.noSelect ops && headDB md ops ex hs ((L.setIfInBounds j true).setIfInBounds i true)) = true)
    (hL1 : (setAll hs (L.setIfInBounds i true)).setIfInBounds j true = L2) (hL2 : setAll hs ((L.setIfInBounds j true).setIfInBounds i true) = L2)
    (hT : (T.contains di && T.contains dj && vs.all (fun p => T.contains p.1) && vs.all (fun p => p.1 != dj) && (di != dj)) = true)
    (hi : CanC P ops T w ⟨i, di, fun _ _ u _ => u = v⟩ a) (hj : CanC P ops T w ⟨j, dj, fun lo _ u wz => u = .pointer (some ⟨lo, 0, none⟩) ∧ wz.heap[lo]? = some (.cells cs t (0, 0))⟩ a)
    (hC : ∀ w', Below w.heap.size w w' → C w')
    (hp : ∀ (a' : Act) (K : Act → Prop), (a' = a.put (some di) v ∨ ∃ p : Nat, a' = (a.put (some dj) (.pointer (some ⟨p, 0, none⟩))).put (some di) v) → K (putsV a' vs) → wpPure P ops C K (opsAt ops hs) a')
    (cont : ∀ (p : Nat) (w' : World), w.heap.size ≤ p → w'.heap[p]? = some (.cells cs t (0, 0)) → Below w.heap.size w w' → wpAnyD P md ops C ex (OnlyN Q) f L2 ((putsV (a.put (some di) v) vs).put (some dj) (.pointer (some ⟨p, 0, none⟩))) w') :
    wpAnyD P md ops C ex (OnlyN Q) (f + hs.length + 2) L a w := by
  simp only [Bool.and_eq_true, List.all_eq_true, List.contains_iff_mem, bne_iff_ne, ne_eq] at hT
  obtain ⟨⟨⟨⟨hTi, hTj⟩, hTv⟩, hvj⟩, hij⟩ := hT
  simp only [Bool.and_eq_true] at hr0
  refine ⟨fun h => ?_, fun k hk => ?_⟩
  · rw [h] at hr0
    simp at hr0
  have hk' : k = i ∨ k = j := by simpa using List.all_eq_true.1 hr0.1 k hk
  rcases hk' with rfl | rfl
  · refine hi.run _ a w _ (fun _ _ => rfl) (Below.refl _ _) fun u w1 hu hb => ⟨fun _ => hC _ hb, ?_⟩
    obtain rfl : u = v := hu
    rw [show f + hs.length + 1 = (f + 1) + hs.length by omega]
    refine pure_moreD hs (f + 1) hB1 rfl (hC _ hb) (hp _ _ (.inl rfl) ?_)
    refine ⟨fun h => (by rw [hr2] at h; cases h), fun k' hk' => ?_⟩
    rw [hr2] at hk'
    obtain rfl : k' = j := by simpa using hk'
    refine hj.run _ _ w1 _ (fun x hx => ?_) hb fun u1 w2 hu1 hb1 => ⟨fun _ => hC _ (hb.trans (hb1.mono hb.size)), ?_⟩
    · rw [putsV_eval T vs _ (fun p hp => hTv p hp) x hx, eval_put_ne a x di u (hx _ hTi)]
    · obtain ⟨rfl, hg⟩ := hu1
      rw [hL1]
      exact cont _ _ hb.size hg (hb.trans (hb1.mono hb.size))
  · refine hj.run _ a w _ (fun _ _ => rfl) (Below.refl _ _) fun u1 w1 hu1 hb => ⟨fun _ => hC _ hb, ?_⟩
    obtain ⟨rfl, hg⟩ := hu1
    refine ⟨fun h => (by rw [hr1] at h; cases h), fun k' hk' => ?_⟩
    rw [hr1] at hk'
    obtain rfl : k' = i := by simpa using hk'
    refine hi.run _ _ w1 _ (fun x hx => eval_put_ne a x dj _ (hx _ hTj)) hb fun u w2 hu hb1 => ⟨fun _ => hC _ (hb.trans (hb1.mono hb.size)), ?_⟩
    obtain rfl : u = v := hu
    refine pure_moreD hs f hB2 hL2 (hC _ (hb.trans (hb1.mono hb.size))) (hp _ _ (.inr ⟨_, rfl⟩) ?_)
    have hcomm : (a.put (some dj) (.pointer (some ⟨w.heap.size, 0, none⟩))).put (some di) u = (a.put (some di) u).put (some dj) (.pointer (some ⟨w.heap.size, 0, none⟩)) := Act.put_comm a _ u (fun d h1 h2 => hij (by injection h1 with h1; injection h2 with h2; rw [h1, h2]))
    show wpAnyD P md ops C ex (OnlyN Q) f L2 (putsV ((a.put (some dj) (.pointer (some ⟨w.heap.size, 0, none⟩))).put (some di) u) vs) w2
    rw [hcomm, putsV_put _ _ _ _ (fun p hp => hvj p hp)]
    exact cont _ _ (Nat.le_refl _) (blk_call hg hb1) (hb.trans (hb1.mono hb.size))
end
end Go.Proofs.YtjcdpmianmgiaaaGreatDoor
namespace Go.Proofs.YtjcdpmianmgiaaaGreatDoor
open Go Go.RowKit Go.Maps Go.WideMaps Go.MapKept
set_option linter.unusedVariables false
set_option maxRecDepth 100000 in
set_option maxHeartbeats 4000000 in
theorem May_any (v : Value) (l : List Stp) (w : World) (hT : Hid (Law16 w)) (hv : Hid (StepsAt w v l)) (hl : l.length ≤ 1000) :
    Calls Tryz.prog 60 #[v] w fun e w' => e = .returned (.bool (mayS l)) ∧ Below w.heap.size w w' := by
  have qT := zH (fun n hn w => there_any n hn w)
  have qH := zH (fun s hs w h => Holds_any s hs w h)
  have hmm := @run_makeMap Tryz.prog
  obtain ⟨A, c, rfl, _⟩ := hv.out
  go_enter Tryz.func60, Tryz.ntmps60
  go_wp2_with fail
  go_loopw [10] (fun s10 wr => ∃ (k : Nat), s10 = .int .i64 k ∧ Hid (k ≤ l.length) ∧ Hid (SeenAt wr w.heap.size k ((l.take k).map (·.rule))) ∧ Hid (mayB l k = true) ∧ Hid (Below w.heap.size w wr)) (fun s10 _ => l.length - (intOf s10).toNat)
  case atStart => exact ⟨0, rfl, Nat.zero_le _, SeenAt.made w, rfl, (Below.refl _ _).alloc (Nat.le_refl _) _⟩
  case round =>
    obtain ⟨k, rfl, hk, hS, hM, hB⟩ := hrel
    clear hmm
    by_cases hkl : k < l.length
    · obtain ⟨A', c', hA', hci⟩ := (hv.out.call hB.out)
      cases hA'
      have hge : l[k]? = some l[k] := List.getElem?_eq_getElem hkl
      obtain ⟨hf, b, o, rfl, hbl, h0, h1, h2, h3⟩ := hci k _ hge
      have htk : Hid (l.take (k + 1) = l.take k ++ [l[k]]) := List.take_succ_eq_append_getElem hkl
      have HG := zH hge
      clear hci hge
      generalize l[k] = s at *
      obtain ⟨r, x, y, ov⟩ := s
      have h0 : wr.cell? ⟨b, o + k * 4, none⟩ = some (.int .i64 r) := h0
      have h1 : wr.cell? ⟨b, o + k * 4 + 1, none⟩ = some (.int .i64 x) := h1
      have h2 : wr.cell? ⟨b, o + k * 4 + 2, none⟩ = some (.int .i64 y) := h2
      have h3 : wr.cell? ⟨b, o + k * 4 + 3, none⟩ = some (.bool ov) := h3
      have hr : I64 r := hf.1
      have hr2 : Hid (I64 r) := hr
      have q1 := zH (fun w => qT.out r hr w)
      have q2 : Hid (∀ w, Hid (Law16 w) → Calls Tryz.prog 61 #[.agg #[.int .i64 r, .int .i64 x, .int .i64 y, .bool ov]] w fun e w' => e = .returned (.bool (Stp.mk r x y ov).holds) ∧ Below w.heap.size w w') := fun w h => qH.out ⟨r, x, y, ov⟩ hf w h
      have hkn : Hid ((Stp.mk r x y ov).known = decide (0 < r ∧ r < 24)) := rfl
      have hba : Hid ((Stp.mk r x y ov).bare = (ov && (x != 0 || y != 0))) := rfl
      have hkw : w.heap.size < wr.heap.size := hS.out.lt
      have hS1 := zH (hS.out.call ((Below.refl wr.heap.size wr).alloc (Nat.le_refl _) (.cells #[.int .i64 r, .int .i64 x, .int .i64 y, .bool ov] 50)))
      have HB1 := zH (below_alloc hB.out hB.out.size (.cells #[.int .i64 r, .int .i64 x, .int .i64 y, .bool ov] 50))
      have hblk : Hid ((wr.alloc (.cells #[.int .i64 r, .int .i64 x, .int .i64 y, .bool ov] 50)).heap[wr.heap.size]? = some (.cells #[.int .i64 r, .int .i64 x, .int .i64 y, .bool ov] 50 (0, 0))) := heap_new _ _
      have hT1 := zH (hT.out.call HB1.out)
      obtain ⟨z, hz⟩ : ∃ z, (((l.take k).map (·.rule)).any fun t => t == r) = z := ⟨_, rfl⟩
      have hse : Hid (((l.take k).any fun t => t.rule == r) = z) := by show _ = _; rw [← hz, List.any_map]; rfl
      have HZ := zH hz
      obtain ⟨kb, hkb⟩ : ∃ kb, decide (0 < r ∧ r < 24) = kb := ⟨_, rfl⟩
      rw [hkb] at q1 hkn
      obtain ⟨hb, hhb⟩ : ∃ hb, (Stp.mk r x y ov).holds = hb := ⟨_, rfl⟩
      rw [hhb] at q2
      have HH := zH hhb
      have hok : Hid (okB l k ⟨r, x, y, ov⟩ = (kb && !(ov && (x != 0 || y != 0)) && !z && (!decide (k + 1 < l.length) || hb))) := by
        show _ = _
        unfold okB
        rw [hkn.out, hba.out, hhb]
        show (kb && !(ov && (x != 0 || y != 0)) && !((l.take k).any fun t => t.rule == r) && _) = _
        rw [hse.out]
      have hex : Hid (okB l k ⟨r, x, y, ov⟩ = false → mayS l = false) := fun h => mayS_false HG.out h
      have hgo : Hid (okB l k ⟨r, x, y, ov⟩ = true → mayB l (k + 1) = true) := fun h => mayB_step HG.out hM.out h
      clear hkb hhb hz hkn hba hse qT qH hf HG hS hM
      by_cases hov : ov = true
      · by_cases hx : x = 0
        · by_cases hy : y = 0
          · subst hov hx hy
            cases kb with
            | false =>
              clear q2
              go_wp2_with fail
              with_reducible refine (q1.out _).mono ?_
              rintro e w2 ⟨rfl, rfl⟩
              go_wp2_with fail
              go_ret
              exact ⟨by rw [hex.out (by rw [hok.out]; rfl)]; rfl, HB1.out⟩
            | true =>
              have hlook := hS1.out.look hr2.out HZ.out
              cases z with
              | true =>
                clear q2
                go_wp2_with fail
                with_reducible refine (q1.out _).mono ?_
                rintro e w2 ⟨rfl, rfl⟩
                go_wp2_with fail
                go_ret
                exact ⟨by rw [hex.out (by rw [hok.out]; simp)]; rfl, HB1.out⟩
              | false =>
                by_cases hlast : k + 1 < l.length
                · have t9 : decide ((k : Int) < (l.length : Int) - 1) = true := decide_eq_true (by omega)
                  rw [decide_eq_true hlast] at hok
                  cases hb with
                  | false =>
                    go_wp2_with fail
                    with_reducible refine (q1.out _).mono ?_
                    rintro e w2 ⟨rfl, rfl⟩
                    go_wp2_with fail
                    with_reducible refine (q2.out _ hT1).mono ?_
                    rintro e w3 ⟨rfl, hb3⟩
                    have HB3 := zB HB1 hb3
                    clear hb3
                    go_wp2_with fail
                    go_ret
                    exact ⟨by rw [hex.out (by rw [hok.out]; simp)]; rfl, HB3.out⟩
                  | true =>
                    go_wp2_with fail
                    with_reducible refine (q1.out _).mono ?_
                    rintro e w2 ⟨rfl, rfl⟩
                    go_wp2_with fail
                    with_reducible refine (q2.out _ hT1).mono ?_
                    rintro e w3 ⟨rfl, hb3⟩
                    have HB3 := zB HB1 hb3
                    have hS3 := zH (hS1.out.call hb3)
                    have c0 := cells_of_blk (blk_call hblk.out hb3) 0 _ rfl
                    clear hb3
                    go_wp2_with (at_mapUpdate; refine wpList_update_seen _ rfl _ _ _ rfl hS3 (by omega) r hr2.out rfl rfl rfl ?_; intro w4 hS4 hg4)
                    have HB4 := zH (HB3.out.trans (below_grownR (B := w.heap.size) hg4.out (Nat.le_refl _) hS3.out.lt))
                    go_roundw
                    case rel => exact ⟨k + 1, by go_num, by show _ ≤ _; omega, by rw [htk.out, List.map_append]; exact hS4.out, hgo.out (by rw [hok.out]; simp), HB4.out⟩
                    case measure => simp [intOf]; omega
                · have t9 : decide ((k : Int) < (l.length : Int) - 1) = false := decide_eq_false (by omega)
                  rw [decide_eq_false hlast] at hok
                  have c0 := cells_of_blk hblk.out 0 _ rfl
                  go_wp2_with fail
                  with_reducible refine (q1.out _).mono ?_
                  rintro e w2 ⟨rfl, rfl⟩
                  go_wp2_with (at_mapUpdate; refine wpList_update_seen _ rfl _ _ _ rfl hS1 (by omega) r hr2.out rfl rfl rfl ?_; intro w4 hS4 hg4)
                  have HB4 := zH (HB1.out.trans (below_grownR (B := w.heap.size) hg4.out (Nat.le_refl _) hS1.out.lt))
                  go_roundw
                  case rel => exact ⟨k + 1, by go_num, by show _ ≤ _; omega, by rw [htk.out, List.map_append]; exact hS4.out, hgo.out (by rw [hok.out]; simp), HB4.out⟩
                  case measure => simp [intOf]; omega
          · have t1 : (y != 0) = true := by simp [hy]
            subst hov hx
            clear hy
            cases kb with
            | false =>
              clear q2
              go_wp2_with fail
              with_reducible refine (q1.out _).mono ?_
              rintro e w2 ⟨rfl, rfl⟩
              go_wp2_with fail
              go_ret
              exact ⟨by rw [hex.out (by rw [hok.out]; rfl)]; rfl, HB1.out⟩
            | true =>
              clear q2
              go_wp2_with fail
              with_reducible refine (q1.out _).mono ?_
              rintro e w2 ⟨rfl, rfl⟩
              go_wp2_with fail
              go_ret
              exact ⟨by rw [hex.out (by rw [hok.out]; simp_all)]; rfl, HB1.out⟩
        · have t1 : (x != 0) = true := by simp [hx]
          subst hov
          clear hx
          cases kb with
          | false =>
            clear q2
            go_wp2_with fail
            with_reducible refine (q1.out _).mono ?_
            rintro e w2 ⟨rfl, rfl⟩
            go_wp2_with fail
            go_ret
            exact ⟨by rw [hex.out (by rw [hok.out]; rfl)]; rfl, HB1.out⟩
          | true =>
            clear q2
            go_wp2_with fail
            with_reducible refine (q1.out _).mono ?_
            rintro e w2 ⟨rfl, rfl⟩
            go_wp2_with fail
            go_ret
            exact ⟨by rw [hex.out (by rw [hok.out]; simp_all)]; rfl, HB1.out⟩
      · obtain rfl : ov = false := by simpa using hov
        clear hov
        cases kb with
        | false =>
          clear q2
          go_wp2_with fail
          with_reducible refine (q1.out _).mono ?_
          rintro e w2 ⟨rfl, rfl⟩
          go_wp2_with fail
          go_ret
          exact ⟨by rw [hex.out (by rw [hok.out]; rfl)]; rfl, HB1.out⟩
        | true =>
          have hlook := hS1.out.look hr2.out HZ.out
          cases z with
          | true =>
            clear q2
            go_wp2_with fail
            with_reducible refine (q1.out _).mono ?_
            rintro e w2 ⟨rfl, rfl⟩
            go_wp2_with fail
            go_ret
            exact ⟨by rw [hex.out (by rw [hok.out]; simp)]; rfl, HB1.out⟩
          | false =>
            by_cases hlast : k + 1 < l.length
            · have t9 : decide ((k : Int) < (l.length : Int) - 1) = true := decide_eq_true (by omega)
              rw [decide_eq_true hlast] at hok
              cases hb with
              | false =>
                go_wp2_with fail
                with_reducible refine (q1.out _).mono ?_
                rintro e w2 ⟨rfl, rfl⟩
                go_wp2_with fail
                with_reducible refine (q2.out _ hT1).mono ?_
                rintro e w3 ⟨rfl, hb3⟩
                have HB3 := zB HB1 hb3
                clear hb3
                go_wp2_with fail
                go_ret
                exact ⟨by rw [hex.out (by rw [hok.out]; simp)]; rfl, HB3.out⟩
              | true =>
                go_wp2_with fail
                with_reducible refine (q1.out _).mono ?_
                rintro e w2 ⟨rfl, rfl⟩
                go_wp2_with fail
                with_reducible refine (q2.out _ hT1).mono ?_
                rintro e w3 ⟨rfl, hb3⟩
                have HB3 := zB HB1 hb3
                have hS3 := zH (hS1.out.call hb3)
                have c0 := cells_of_blk (blk_call hblk.out hb3) 0 _ rfl
                clear hb3
                go_wp2_with (at_mapUpdate; refine wpList_update_seen _ rfl _ _ _ rfl hS3 (by omega) r hr2.out rfl rfl rfl ?_; intro w4 hS4 hg4)
                have HB4 := zH (HB3.out.trans (below_grownR (B := w.heap.size) hg4.out (Nat.le_refl _) hS3.out.lt))
                go_roundw
                case rel => exact ⟨k + 1, by go_num, by show _ ≤ _; omega, by rw [htk.out, List.map_append]; exact hS4.out, hgo.out (by rw [hok.out]; simp), HB4.out⟩
                case measure => simp [intOf]; omega
            · have t9 : decide ((k : Int) < (l.length : Int) - 1) = false := decide_eq_false (by omega)
              rw [decide_eq_false hlast] at hok
              have c0 := cells_of_blk hblk.out 0 _ rfl
              go_wp2_with fail
              with_reducible refine (q1.out _).mono ?_
              rintro e w2 ⟨rfl, rfl⟩
              go_wp2_with (at_mapUpdate; refine wpList_update_seen _ rfl _ _ _ rfl hS1 (by omega) r hr2.out rfl rfl rfl ?_; intro w4 hS4 hg4)
              have HB4 := zH (HB1.out.trans (below_grownR (B := w.heap.size) hg4.out (Nat.le_refl _) hS1.out.lt))
              go_roundw
              case rel => exact ⟨k + 1, by go_num, by show _ ≤ _; omega, by rw [htk.out, List.map_append]; exact hS4.out, hgo.out (by rw [hok.out]; simp), HB4.out⟩
              case measure => simp [intOf]; omega
    · have hkk : k = l.length := by have := hk.out; omega
      subst hkk
      go_wp2_with fail
      go_ret
      exact ⟨by rw [show mayS l = true from hM.out]; rfl, hB.out⟩
end Go.Proofs.YtjcdpmianmgiaaaGreatDoor
