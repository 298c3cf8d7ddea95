/- The document's example of the clash; the walks of ClashFinds and ClashChains (printed by genClashG.py). -/
import Derived.Test.YtaigngdlioplaaaDoorClashY
import Derived.Test.YtaigngdlioplaaaDoorClashZ
import Derived.Test.YtaigngdlioplaaaDoorShaTwo
import Derived.Test.YtaigngdlioplaaaDoorTreeI
namespace Go.Proofs.YtaigngdlioplaaaDoor
open Go Go.RowKit
set_option linter.unusedVariables false
set_option linter.unusedSimpArgs false

theorem strs_new2 (w : World) (s t : ByteArray) (T : TypeId) : StrsAt ((w.alloc (.cells #[.string s] T)).alloc (.cells #[.string t] T)) (.slice (some ⟨w.heap.size, 0, none⟩) 1 1) [s] ∧ StrsAt ((w.alloc (.cells #[.string s] T)).alloc (.cells #[.string t] T)) (.slice (some ⟨w.heap.size + 1, 0, none⟩) 1 1) [t] := by
  have k1 := blk_old (heap_new w (.cells #[.string s] T)) (.cells #[.string t] T)
  have k2 := heap_new (w.alloc (.cells #[.string s] T)) (.cells #[.string t] T)
  rw [World.size_alloc] at k2
  refine ⟨⟨_, 1, rfl, Nat.le_refl _, fun i x hx => ?_⟩, ⟨_, 1, rfl, Nat.le_refl _, fun i x hx => ?_⟩⟩
  · match i, hx with
    | 0, hx => simp at hx; subst hx; exact ⟨_, 0, rfl, (Array.getElem?_eq_some_iff.1 k1).1, cells_of_blk k1 0 _ rfl⟩
    | i + 1, hx => simp at hx
  · match i, hx with
    | 0, hx => simp at hx; subst hx; exact ⟨_, 0, rfl, (Array.getElem?_eq_some_iff.1 k2).1, cells_of_blk k2 0 _ rfl⟩
    | i + 1, hx => simp at hx
theorem fine_one {s : ByteArray} (h : s.size ≤ 400) : Fine [s] := fun i x hx => by
  match i, hx with
  | 0, hx => simp at hx; subst hx; exact h
  | i + 1, hx => simp at hx
theorem find_two (s t : ByteArray) (hs : s.size ≤ 400) (ht : t.size ≤ 400) (w : World) (hT : Hid (ShaT w (nth kList) hSt)) (x y : ByteArray) (z : Int) (hr : findS (nth kList) hSt 32 [s] [t] = (x, y, z)) :
    Calls Tryd.prog 42 #[.slice (some ⟨w.heap.size, 0, none⟩) 1 1, .slice (some ⟨w.heap.size + 1, 0, none⟩) 1 1, .int .i64 32] ((w.alloc (.cells #[.string s] 9)).alloc (.cells #[.string t] 9)) fun e w' => e = .returned (.tuple #[.string x, .string y, .int .i64 z]) ∧ Below ((w.alloc (.cells #[.string s] 9)).alloc (.cells #[.string t] 9)).heap.size ((w.alloc (.cells #[.string s] 9)).alloc (.cells #[.string t] 9)) w' := by
  have hb : Below w.heap.size w ((w.alloc (.cells #[.string s] 9)).alloc (.cells #[.string t] 9)) := below_alloc (below_alloc (Below.refl _ _) (Nat.le_refl _) _) (by rw [World.size_alloc]; omega) _
  have h := Find_in (nth kList) hSt 32 (by show _ ∧ _; omega) [s] [t] _ _ _ (Lib.hid (hT.out.call hb)) (Lib.hid (strs_new2 w s t 9).1) (Lib.hid (strs_new2 w s t 9).2) (Lib.hid (fine_one hs)) (Lib.hid (fine_one ht)) (by simp) (by simp)
  rw [hr] at h
  exact h
theorem root_a : rootS (nth kList) hSt (32 : Nat) [⟨#[97]⟩] = (sumS (nth kList) hSt (bytesL lfaS)).extract 0 32 := by
  rw [rootS_one _ _ _ _ rfl]
  exact cut_in _ _ _ 32 (by omega)
theorem root_b : rootS (nth kList) hSt (32 : Nat) [⟨#[98]⟩] = (sumS (nth kList) hSt (bytesL lfbS)).extract 0 32 := by
  rw [rootS_one _ _ _ _ rfl]
  exact cut_in _ _ _ 32 (by omega)
theorem roots_part : ¬ rootS (nth kList) hSt (32 : Nat) [⟨#[97]⟩] = rootS (nth kList) hSt (32 : Nat) [⟨#[98]⟩] := by
  rw [root_a, root_b, lfa_sum, lfb_sum]
  decide
theorem find_aa : findS (nth kList) hSt 32 [⟨#[97]⟩] [⟨#[97]⟩] = (⟨#[]⟩, ⟨#[]⟩, 7) := by
  unfold findS foundS
  rw [if_pos ⟨rfl, rfl⟩, if_pos rfl]
theorem find_ab : findS (nth kList) hSt 32 [⟨#[97]⟩] [⟨#[98]⟩] = (⟨#[]⟩, ⟨#[]⟩, 12) := by
  unfold findS foundS
  rw [if_neg (fun h => roots_part h.2)]
theorem chain_nil : chainV (nth kList) hSt 32 [] [] = (⟨#[]⟩, ⟨#[]⟩, 7) := by
  unfold chainV foundS
  rw [if_pos ⟨rfl, rfl⟩, if_pos rfl]

set_option maxRecDepth 100000 in
set_option maxHeartbeats 1000000 in
theorem alive04 (w : World) (hT : Hid (ShaT w (nth kList) hSt)) : Calls Tryd.prog 41 #[] w fun e w' => e = .returned (.bool true) ∧ Below w.heap.size w w' := by
  have q1 := Lib.hid (fun w hT => find_two ⟨#[97]⟩ ⟨#[97]⟩ (by decide) (by decide) w hT _ _ _ find_aa)
  have q2 := Lib.hid (fun w hT => find_two ⟨#[97]⟩ ⟨#[98]⟩ (by decide) (by decide) w hT _ _ _ find_ab)
  have q3 : Hid (∀ w, Hid (ShaT w (nth kList) hSt) → Calls Tryd.prog 44 #[.slice none 0 0, .slice none 0 0, .int .i64 32] w fun e w' => e = .returned (.tuple #[.string ⟨#[]⟩, .string ⟨#[]⟩, .int .i64 7]) ∧ Below w.heap.size w w') := fun w hT => by
    have h := Chain_in (nth kList) hSt 32 (by show _ ∧ _; omega) [] [] _ _ w hT (Lib.hid (StrsAt.nil w)) (Lib.hid (StrsAt.nil w)) (Lib.hid fun i s hs => by simp at hs) (Lib.hid fun i s hs => by simp at hs) (by simp) (by simp)
    rw [chain_nil] at h
    exact h
  have HB0 : Hid (∀ (w : World) (o p : Obj), Below w.heap.size w ((w.alloc o).alloc p)) := fun w o p => below_alloc (below_alloc (Below.refl _ _) (Nat.le_refl _) _) (by rw [World.size_alloc]; omega) _
  generalize nth kList = K at *
  generalize hSt = H at *
  go_enter Tryd.func41, Tryd.ntmps41
  go_wp2_with fail
  with_reducible refine (q1.out _ hT).mono ?_
  rintro e w1 ⟨rfl, hb⟩
  have HB1 := Lib.hid ((HB0.out _ _ _).trans (hb.mono (HB0.out _ _ _).size))
  have hT1 := Lib.hid (hT.out.call HB1.out)
  clear hb
  go_wp2_with fail
  with_reducible refine (q2.out _ hT1).mono ?_
  rintro e w2 ⟨rfl, hb⟩
  have HB2 := Lib.hid ((HB0.out _ _ _).trans (hb.mono (HB0.out _ _ _).size))
  have hT2 := Lib.hid (hT1.out.call HB2.out)
  have HB3 := Lib.hid (HB1.out.trans (HB2.out.mono HB1.out.size))
  clear hb
  go_wp2_with fail
  with_reducible refine (q3.out _ hT2).mono ?_
  rintro e w3 ⟨rfl, hb⟩
  have HB4 := Lib.hid (HB3.out.trans (hb.mono HB3.out.size))
  clear hb
  go_wp2_with fail
  go_ret
  exact ⟨rfl, HB4.out⟩

set_option maxRecDepth 100000 in
set_option maxHeartbeats 4000000 in
theorem ClashFinds_bad (va vb : Value) (a b : List ByteArray) (n : Int) (w : World) (hT : Hid (ShaT w (nth kList) hSt)) (ha : Hid (StrsAt w va a)) (hb' : Hid (StrsAt w vb b)) (hla : a.length ≤ 9223372036854775807) (hlb : b.length ≤ 9223372036854775807) (hza : Hid (∀ (i : Nat) (s : ByteArray), a[i]? = some s → s.size ≤ 9223372036854775807)) (hzb : Hid (∀ (i : Nat) (s : ByteArray), b[i]? = some s → s.size ≤ 9223372036854775807)) (E : Int) (hE : rightC n a.length b.length = E) (hne : E ≠ 0) (hc : (E = 1 ∧ n < 1) ∨ (E = 1 ∧ ¬ n < 1 ∧ 32 < n) ∨ (E = 4 ∧ ¬ n < 1 ∧ ¬ 32 < n ∧ 4096 < a.length) ∨ (E = 4 ∧ ¬ n < 1 ∧ ¬ 32 < n ∧ ¬ 4096 < a.length ∧ 4096 < b.length)) :
    Calls Tryd.prog 9 #[va, vb, .int .i64 n] w fun e w' => e = .returned (.bool true) ∧ Below w.heap.size w w' := by
  have a0 := Lib.hid (alive04 w hT)
  have qGa := Lib.hid (fun w h => Great_any va a w h hla hza)
  have qGb := Lib.hid (fun w h => Great_any vb b w h hlb hzb)
  have hks := Lib.hid key72_size
  have hon := Lib.hid key72_one
  have qK := Lib.hid (fun w => MakeKey_any w)
  obtain ⟨A1, c1, rfl, _, _⟩ := ha.out
  obtain ⟨A2, c2, rfl, _, _⟩ := hb'.out
  have qF := Lib.hid (fun w => Find_bad n A1 A2 a.length c1 b.length c2 w hla hlb (by rw [hE]; exact hne))
  rw [hE] at qF
  generalize nth kList = K at *
  generalize hSt = H at *
  generalize key72 = KA at *
  obtain ⟨ka, hka⟩ : ∃ ka, a.length = ka := ⟨_, rfl⟩
  obtain ⟨kb, hkb⟩ : ∃ kb, b.length = kb := ⟨_, rfl⟩
  rw [hka] at qGa qF ha hc ⊢
  rw [hkb] at qGb qF hb' hc ⊢
  have hla : ka ≤ 9223372036854775807 := by omega
  have hlb : kb ≤ 9223372036854775807 := by omega
  clear hE hka hkb hza hzb hne hks hon qK
  rcases hc with ⟨rfl, h1⟩ | ⟨rfl, h1, h2⟩ | ⟨rfl, h1, h2, h3⟩ | ⟨rfl, h1, h2, h3, h4⟩
  all_goals
    first | have u1 : decide (n < 1) = true := decide_eq_true h1 | have u1 : decide (n < 1) = false := decide_eq_false h1
    first | have u2 : decide (32 < n) = true := decide_eq_true h2 | have u2 : decide (32 < n) = false := decide_eq_false h2 | skip
    first | have u3 : decide ((4096 : Int) < (ka : Int)) = true := decide_eq_true (by omega) | have u3 : decide ((4096 : Int) < (ka : Int)) = false := decide_eq_false (by omega) | skip
    first | have u4 : decide ((4096 : Int) < (kb : Int)) = true := decide_eq_true (by omega) | skip
    go_enter Tryd.func9, Tryd.ntmps9
    go_wp2_with fail
    refine a0.out.mono ?_
    rintro e w1 ⟨rfl, hb⟩
    have HB1 := Lib.hid hb
    have hT1 := Lib.hid (hT.out.call hb)
    have ha1 := Lib.hid (ha.out.call hb)
    have hb1 := Lib.hid (hb'.out.call hb)
    clear hb
    go_wp2_with fail
    refine (qGa.out _ ha1).mono ?_
    rintro e w2 ⟨⟨g, rfl, hgf⟩, rfl⟩
    by_cases hg : g = true ∧ ka ≤ 4096
    · obtain ⟨rfl, hg2⟩ := hg
      have t1 : decide ((ka : Int) ≤ 4096) = true := decide_eq_true (by omega)
      clear hgf
      go_wp2_with fail
      go_ret
      exact ⟨rfl, HB1.out⟩
    have hgc : g = false ∨ (g = true ∧ ¬ ka ≤ 4096) := by
      cases g with
      | false => exact .inl rfl
      | true => exact .inr ⟨rfl, fun h => hg ⟨rfl, h⟩⟩
    clear hgf hg
    rcases hgc with rfl | ⟨rfl, hg2⟩
    all_goals
      first | have t3 : decide ((ka : Int) ≤ 4096) = false := decide_eq_false (by omega) | skip
      go_wp2_with fail
      refine (qGb.out _ hb1).mono ?_
      rintro e w2 ⟨⟨gb, rfl, hgf⟩, rfl⟩
      by_cases hg : gb = true ∧ kb ≤ 4096
      · obtain ⟨rfl, hg2⟩ := hg
        have t1 : decide ((kb : Int) ≤ 4096) = true := decide_eq_true (by omega)
        clear hgf
        go_wp2_with fail
        go_ret
        exact ⟨rfl, HB1.out⟩
      have hgc : gb = false ∨ (gb = true ∧ ¬ kb ≤ 4096) := by
        cases gb with
        | false => exact .inl rfl
        | true => exact .inr ⟨rfl, fun h => hg ⟨rfl, h⟩⟩
      clear hgf hg
      rcases hgc with rfl | ⟨rfl, hg2⟩
      all_goals
        first | have t2 : decide ((kb : Int) ≤ 4096) = false := decide_eq_false (by omega) | skip
        go_wp2_with fail
        refine (qF.out _).mono ?_
        rintro e w3 ⟨rfl, hb⟩
        have HB3 := Lib.hid (HB1.out.trans (hb.mono HB1.out.size))
        clear hb
        go_wp2_with fail
        go_ret
        exact ⟨rfl, HB3.out⟩

set_option maxRecDepth 100000 in
set_option maxHeartbeats 4000000 in
theorem ClashFinds_in1 (va vb : Value) (a b : List ByteArray) (m : Nat) (w : World) (hT : Hid (ShaT w (nth kList) hSt)) (ha : Hid (StrsAt w va a)) (hb' : Hid (StrsAt w vb b)) (hla : a.length ≤ 9223372036854775807) (hlb : b.length ≤ 9223372036854775807) (hza : Hid (∀ (i : Nat) (s : ByteArray), a[i]? = some s → s.size ≤ 9223372036854775807)) (hzb : Hid (∀ (i : Nat) (s : ByteArray), b[i]? = some s → s.size ≤ 9223372036854775807)) (hm : Hid (1 ≤ m ∧ m ≤ 32)) (h4 : a.length ≤ 4096) (h5 : b.length ≤ 4096) (hl : ¬ a.length = b.length) :
    Calls Tryd.prog 9 #[va, vb, .int .i64 m] w fun e w' => e = .returned (.bool true) ∧ Below w.heap.size w w' := by
  have a0 := Lib.hid (alive04 w hT)
  have qGa := Lib.hid (fun w h => Great_any va a w h hla hza)
  have qGb := Lib.hid (fun w h => Great_any vb b w h hlb hzb)
  have hks := Lib.hid key72_size
  have hon := Lib.hid key72_one
  have qK := Lib.hid (fun w => MakeKey_any w)
  have qF := Lib.hid (fun w hT h1 h2 h3 h4' => Find_in (nth kList) hSt m hm a b va vb w hT h1 h2 h3 h4' h4 h5)
  rw [show findS (nth kList) hSt m a b = (⟨#[]⟩, ⟨#[]⟩, 12) by unfold findS foundS; rw [if_neg (fun h => hl h.1)]] at qF
  simp only [] at qF
  obtain ⟨A1, c1, rfl, _, _⟩ := ha.out
  obtain ⟨A2, c2, rfl, _, _⟩ := hb'.out
  generalize nth kList = K at *
  generalize hSt = H at *
  generalize key72 = KA at *
  obtain ⟨ka, hka⟩ : ∃ ka, a.length = ka := ⟨_, rfl⟩
  obtain ⟨kb, hkb⟩ : ∃ kb, b.length = kb := ⟨_, rfl⟩
  rw [hka] at h4 hl hla ⊢
  rw [hkb] at h5 hl hlb ⊢
  rw [hka] at qGa qF ha
  rw [hkb] at qGb qF hb'
  have hm2 := hm.out
  have u1 : decide ((m : Int) < 1) = false := decide_eq_false (by omega)
  have u2 : decide ((32 : Int) < (m : Int)) = false := decide_eq_false (by omega)
  have u3 : decide ((4096 : Int) < (ka : Int)) = false := decide_eq_false (by omega)
  have u4 : decide ((4096 : Int) < (kb : Int)) = false := decide_eq_false (by omega)
  have u5 : ((ka : Int) != (kb : Int)) = true := by simp; omega
  have u7 : ((ka : Int) == (kb : Int)) = false := by rw [beq_eq_false_iff_ne]; omega
  clear hka hkb hza hzb hm2 hl
  go_enter Tryd.func9, Tryd.ntmps9
  go_wp2_with fail
  refine a0.out.mono ?_
  rintro e w1 ⟨rfl, hb⟩
  have HB1 := Lib.hid hb
  have hT1 := Lib.hid (hT.out.call hb)
  have ha1 := Lib.hid (ha.out.call hb)
  have hb1 := Lib.hid (hb'.out.call hb)
  clear hb
  go_wp2_with fail
  refine (qGa.out _ ha1).mono ?_
  rintro e w2 ⟨⟨g, rfl, hgf⟩, rfl⟩
  by_cases hg : g = true ∧ ka ≤ 4096
  · obtain ⟨rfl, hg2⟩ := hg
    have t1 : decide ((ka : Int) ≤ 4096) = true := decide_eq_true (by omega)
    clear hgf
    go_wp2_with fail
    go_ret
    exact ⟨rfl, HB1.out⟩
  have hFa : Hid (ka ≤ 4096 → Fine a) := fun h => by
    cases g with
    | false => exact fine_of (hgf rfl).2
    | true => exact absurd ⟨rfl, h⟩ hg
  obtain rfl : g = false := by
    cases g with
    | false => rfl
    | true => exact absurd ⟨rfl, by omega⟩ hg
  clear hgf hg
  go_wp2_with fail
  refine (qGb.out _ hb1).mono ?_
  rintro e w2 ⟨⟨gb, rfl, hgf⟩, rfl⟩
  by_cases hg : gb = true ∧ kb ≤ 4096
  · obtain ⟨rfl, hg2⟩ := hg
    have t1 : decide ((kb : Int) ≤ 4096) = true := decide_eq_true (by omega)
    clear hgf
    go_wp2_with fail
    go_ret
    exact ⟨rfl, HB1.out⟩
  have hFb : Hid (kb ≤ 4096 → Fine b) := fun h => by
    cases gb with
    | false => exact fine_of (hgf rfl).2
    | true => exact absurd ⟨rfl, h⟩ hg
  obtain rfl : gb = false := by
    cases gb with
    | false => rfl
    | true => exact absurd ⟨rfl, by omega⟩ hg
  clear hgf hg
  have HFa := Lib.hid (hFa.out h4)
  have HFb := Lib.hid (hFb.out h5)
  clear hFa hFb
  go_wp2_with fail
  with_reducible refine (qF.out _ hT1 ha1 hb1 HFa HFb).mono ?_
  rintro e w3 ⟨rfl, hb⟩
  have HB3 := Lib.hid (HB1.out.trans (hb.mono HB1.out.size))
  clear hb
  go_wp2_with fail
  refine (qK.out _).mono ?_
  rintro e w5 ⟨rfl, hb⟩
  have HB5 := Lib.hid (HB3.out.trans (hb.mono HB3.out.size))
  clear hb
  go_wp2_with (
    refine wpList_store_rowTo rfl 37 (.tmp 10) (.tmp 73) rfl rfl w5.heap.size KA rfl rfl 37 _ (blk_new w5 _ _ rfl) (by rw [hks.out]; kernel_rfl) (by rw [hks.out]; rfl) hon.out ?_
    obtain ⟨w6, hw6⟩ : ∃ w6, (w5.alloc (.cells Tryd.zeroCells37 37)).setRow w5.heap.size KA = w6 := ⟨_, rfl⟩
    have HK6 : Hid (w6.heap[w5.heap.size]? = some (.cells KA 37 (0, 0))) := by rw [← hw6]; exact setRow_heap _ _ _ _ _ _ (blk_new w5 _ _ rfl)
    have HB6 : Hid (Below w.heap.size w w6) := by rw [← hw6]; exact below_setRow (below_alloc HB5.out HB5.out.size _) HB5.out.size _
    rw [hw6]
    clear hw6)
  have hlt : w5.heap.size < w6.heap.size := (Array.getElem?_eq_some_iff.1 HK6.out).1
  have hkey : Hid (∀ w2, Below w6.heap.size w6 w2 → ∀ x : ExtOf w2, (loadVar 37 ⟨w5.heap.size, 0, none⟩).run Tryd.prog x.w = .ok (.agg KA) x.w) := fun w2 hb2 x =>
    run_loadVar_row x.w w5.heap.size 37 37 KA (0, 0) _ ((x.below.block _ (by have := hb2.size; omega)).trans ((hb2.block _ hlt).trans HK6.out)) Tryd.underlying37 rfl (by rw [hks.out]; kernel_rfl)
  clear hkey
  go_quiet (fail)
  have HB9 := Lib.hid (below_drewN HB6.out nq)
  go_wp2_with fail
  go_ret
  exact ⟨rfl, HB9.out⟩

set_option maxRecDepth 100000 in
set_option maxHeartbeats 4000000 in
theorem ClashFinds_in2 (va vb : Value) (a b : List ByteArray) (m : Nat) (w : World) (hT : Hid (ShaT w (nth kList) hSt)) (ha : Hid (StrsAt w va a)) (hb' : Hid (StrsAt w vb b)) (hla : a.length ≤ 9223372036854775807) (hlb : b.length ≤ 9223372036854775807) (hza : Hid (∀ (i : Nat) (s : ByteArray), a[i]? = some s → s.size ≤ 9223372036854775807)) (hzb : Hid (∀ (i : Nat) (s : ByteArray), b[i]? = some s → s.size ≤ 9223372036854775807)) (hm : Hid (1 ≤ m ∧ m ≤ 32)) (h4 : a.length ≤ 4096) (h5 : b.length ≤ 4096) (hl : a.length = b.length) (hh : ¬ rootS (nth kList) hSt m a = rootS (nth kList) hSt m b) :
    Calls Tryd.prog 9 #[va, vb, .int .i64 m] w fun e w' => e = .returned (.bool true) ∧ Below w.heap.size w w' := by
  have a0 := Lib.hid (alive04 w hT)
  have qGa := Lib.hid (fun w h => Great_any va a w h hla hza)
  have qGb := Lib.hid (fun w h => Great_any vb b w h hlb hzb)
  have hks := Lib.hid key72_size
  have hon := Lib.hid key72_one
  have qK := Lib.hid (fun w => MakeKey_any w)
  have qF := Lib.hid (fun w hT h1 h2 h3 h4' => Find_in (nth kList) hSt m hm a b va vb w hT h1 h2 h3 h4' h4 h5)
  rw [show findS (nth kList) hSt m a b = (⟨#[]⟩, ⟨#[]⟩, 12) by unfold findS foundS; rw [if_neg (fun h => hh h.2)]] at qF
  simp only [] at qF
  have qRa := Lib.hid (fun w h hF => rRoot_any m hm (a.length) a va w rfl h hF h4)
  have qRb := Lib.hid (fun w h hF => rRoot_any m hm (b.length) b vb w rfl h hF h5)
  have hbn : ((rootS (nth kList) hSt m a).toList == (rootS (nth kList) hSt m b).toList) = false := strs_ne hh
  generalize rootS (nth kList) hSt m a = RA at *
  generalize rootS (nth kList) hSt m b = RB at *
  obtain ⟨A1, c1, rfl, _, _⟩ := ha.out
  obtain ⟨A2, c2, rfl, _, _⟩ := hb'.out
  generalize nth kList = K at *
  generalize hSt = H at *
  generalize key72 = KA at *
  obtain ⟨ka, hka⟩ : ∃ ka, a.length = ka := ⟨_, rfl⟩
  obtain ⟨kb, hkb⟩ : ∃ kb, b.length = kb := ⟨_, rfl⟩
  rw [hka] at h4 hl hla ⊢
  rw [hkb] at h5 hl hlb ⊢
  rw [hka] at qGa qF ha qRa
  rw [hkb] at qGb qF hb' qRb
  have hm2 := hm.out
  have u1 : decide ((m : Int) < 1) = false := decide_eq_false (by omega)
  have u2 : decide ((32 : Int) < (m : Int)) = false := decide_eq_false (by omega)
  have u3 : decide ((4096 : Int) < (ka : Int)) = false := decide_eq_false (by omega)
  have u4 : decide ((4096 : Int) < (kb : Int)) = false := decide_eq_false (by omega)
  subst hl
  clear hka hkb hza hzb hm2 hh
  go_enter Tryd.func9, Tryd.ntmps9
  go_wp2_with fail
  refine a0.out.mono ?_
  rintro e w1 ⟨rfl, hb⟩
  have HB1 := Lib.hid hb
  have hT1 := Lib.hid (hT.out.call hb)
  have ha1 := Lib.hid (ha.out.call hb)
  have hb1 := Lib.hid (hb'.out.call hb)
  clear hb
  go_wp2_with fail
  refine (qGa.out _ ha1).mono ?_
  rintro e w2 ⟨⟨g, rfl, hgf⟩, rfl⟩
  by_cases hg : g = true ∧ ka ≤ 4096
  · obtain ⟨rfl, hg2⟩ := hg
    have t1 : decide ((ka : Int) ≤ 4096) = true := decide_eq_true (by omega)
    clear hgf
    go_wp2_with fail
    go_ret
    exact ⟨rfl, HB1.out⟩
  have hFa : Hid (ka ≤ 4096 → Fine a) := fun h => by
    cases g with
    | false => exact fine_of (hgf rfl).2
    | true => exact absurd ⟨rfl, h⟩ hg
  obtain rfl : g = false := by
    cases g with
    | false => rfl
    | true => exact absurd ⟨rfl, by omega⟩ hg
  clear hgf hg
  go_wp2_with fail
  refine (qGb.out _ hb1).mono ?_
  rintro e w2 ⟨⟨gb, rfl, hgf⟩, rfl⟩
  by_cases hg : gb = true ∧ ka ≤ 4096
  · obtain ⟨rfl, hg2⟩ := hg
    have t1 : decide ((ka : Int) ≤ 4096) = true := decide_eq_true (by omega)
    clear hgf
    go_wp2_with fail
    go_ret
    exact ⟨rfl, HB1.out⟩
  have hFb : Hid (ka ≤ 4096 → Fine b) := fun h => by
    cases gb with
    | false => exact fine_of (hgf rfl).2
    | true => exact absurd ⟨rfl, h⟩ hg
  obtain rfl : gb = false := by
    cases gb with
    | false => rfl
    | true => exact absurd ⟨rfl, by omega⟩ hg
  clear hgf hg
  have HFa := Lib.hid (hFa.out h4)
  have HFb := Lib.hid (hFb.out h5)
  clear hFa hFb
  go_wp2_with fail
  with_reducible refine (qF.out _ hT1 ha1 hb1 HFa HFb).mono ?_
  rintro e w3 ⟨rfl, hb⟩
  have HB3 := Lib.hid (HB1.out.trans (hb.mono HB1.out.size))
  clear hb
  go_wp2_with fail
  refine (qK.out _).mono ?_
  rintro e w5 ⟨rfl, hb⟩
  have HB5 := Lib.hid (HB3.out.trans (hb.mono HB3.out.size))
  clear hb
  go_wp2_with (
    refine wpList_store_rowTo rfl 37 (.tmp 10) (.tmp 73) rfl rfl w5.heap.size KA rfl rfl 37 _ (blk_new w5 _ _ rfl) (by rw [hks.out]; kernel_rfl) (by rw [hks.out]; rfl) hon.out ?_
    obtain ⟨w6, hw6⟩ : ∃ w6, (w5.alloc (.cells Tryd.zeroCells37 37)).setRow w5.heap.size KA = w6 := ⟨_, rfl⟩
    have HK6 : Hid (w6.heap[w5.heap.size]? = some (.cells KA 37 (0, 0))) := by rw [← hw6]; exact setRow_heap _ _ _ _ _ _ (blk_new w5 _ _ rfl)
    have HB6 : Hid (Below w.heap.size w w6) := by rw [← hw6]; exact below_setRow (below_alloc HB5.out HB5.out.size _) HB5.out.size _
    rw [hw6]
    clear hw6)
  have hlt : w5.heap.size < w6.heap.size := (Array.getElem?_eq_some_iff.1 HK6.out).1
  have hkey : Hid (∀ w2, Below w6.heap.size w6 w2 → ∀ x : ExtOf w2, (loadVar 37 ⟨w5.heap.size, 0, none⟩).run Tryd.prog x.w = .ok (.agg KA) x.w) := fun w2 hb2 x =>
    run_loadVar_row x.w w5.heap.size 37 37 KA (0, 0) _ ((x.below.block _ (by have := hb2.size; omega)).trans ((hb2.block _ hlt).trans HK6.out)) Tryd.underlying37 rfl (by rw [hks.out]; kernel_rfl)
  have ha6 := Lib.hid (ha.out.call HB6.out)
  have hb6 := Lib.hid (hb'.out.call HB6.out)
  have qE1 := Lib.hid (fun (x : ExtOf w6) => qRa.out x.w (Lib.hid (ha6.out.call x.below)) HFa)
  have qE2 := Lib.hid (fun (x : ExtOf w6) => qRb.out x.w (Lib.hid (hb6.out.call x.below)) HFb)
  refine wp_region_ext (by kernel_rfl) (by kernel_rfl) ?_
  repeat (first
    | (refine BigFrame.wpQuiet_want rfl fun K hK => ?_
       refine quiet_load_row 37 (.tmp 10) rfl w5.heap.size rfl KA (by rintro wz ⟨x, rfl⟩; exact hkey.out w6 (Below.refl _ _) x) (hK _ ?_)
       clear hK K
       simp only [Act.put, List.setIfInBounds_toArray, List.set_cons_succ, List.set_cons_zero])
    | (go_big_quiet_step (first | (with_reducible exact ext_call (qE1.out _)) | (with_reducible exact ext_call (qE2.out _)))))
  refine wpQuiet_nil ?_
  rintro w' ⟨y, rfl⟩
  have HB8 := Lib.hid y.below
  have HB9 := Lib.hid (HB6.out.trans (y.below.mono HB6.out.size))
  have ha9 := Lib.hid (ha6.out.call y.below)
  have hb9 := Lib.hid (hb6.out.call y.below)
  generalize y.w = w9 at *
  clear y qE1 qE2
  go_wp2_with fail
  go_ret
  exact ⟨rfl, HB9.out⟩

set_option maxRecDepth 100000 in
set_option maxHeartbeats 4000000 in
theorem ClashFinds_in3 (va vb : Value) (a b : List ByteArray) (m : Nat) (w : World) (hT : Hid (ShaT w (nth kList) hSt)) (ha : Hid (StrsAt w va a)) (hb' : Hid (StrsAt w vb b)) (hla : a.length ≤ 9223372036854775807) (hlb : b.length ≤ 9223372036854775807) (hza : Hid (∀ (i : Nat) (s : ByteArray), a[i]? = some s → s.size ≤ 9223372036854775807)) (hzb : Hid (∀ (i : Nat) (s : ByteArray), b[i]? = some s → s.size ≤ 9223372036854775807)) (hm : Hid (1 ≤ m ∧ m ≤ 32)) (h4 : a.length ≤ 4096) (h5 : b.length ≤ 4096) (hl : a.length = b.length) (hh : rootS (nth kList) hSt m a = rootS (nth kList) hSt m b) (hab : a = b) :
    Calls Tryd.prog 9 #[va, vb, .int .i64 m] w fun e w' => e = .returned (.bool true) ∧ Below w.heap.size w w' := by
  have a0 := Lib.hid (alive04 w hT)
  have qGa := Lib.hid (fun w h => Great_any va a w h hla hza)
  have qGb := Lib.hid (fun w h => Great_any vb b w h hlb hzb)
  have hks := Lib.hid key72_size
  have hon := Lib.hid key72_one
  have qK := Lib.hid (fun w => MakeKey_any w)
  have qF := Lib.hid (fun w hT h1 h2 h3 h4' => Find_in (nth kList) hSt m hm a b va vb w hT h1 h2 h3 h4' h4 h5)
  rw [show findS (nth kList) hSt m a b = (⟨#[]⟩, ⟨#[]⟩, 7) by unfold findS foundS; rw [if_pos ⟨hl, hh⟩, if_pos hab]] at qF
  simp only [] at qF
  have qRa := Lib.hid (fun w h hF => rRoot_any m hm (a.length) a va w rfl h hF h4)
  have qRb := Lib.hid (fun w h hF => rRoot_any m hm (b.length) b vb w rfl h hF h5)
  have qS := Lib.hid (fun w h1 h2 => Same_any va vb a b w h1 h2 hla)
  rw [decide_eq_true hab] at qS
  rw [← hh] at qRb
  have hbn : ((rootS (nth kList) hSt m a).toList != (rootS (nth kList) hSt m a).toList) = false := by simp
  generalize rootS (nth kList) hSt m a = RA at *
  obtain ⟨A1, c1, rfl, _, _⟩ := ha.out
  obtain ⟨A2, c2, rfl, _, _⟩ := hb'.out
  generalize nth kList = K at *
  generalize hSt = H at *
  generalize key72 = KA at *
  obtain ⟨ka, hka⟩ : ∃ ka, a.length = ka := ⟨_, rfl⟩
  obtain ⟨kb, hkb⟩ : ∃ kb, b.length = kb := ⟨_, rfl⟩
  rw [hka] at h4 hl hla ⊢
  rw [hkb] at h5 hl hlb ⊢
  rw [hka] at qGa qF ha qRa qS
  rw [hkb] at qGb qF hb' qRb qS
  have hm2 := hm.out
  have u1 : decide ((m : Int) < 1) = false := decide_eq_false (by omega)
  have u2 : decide ((32 : Int) < (m : Int)) = false := decide_eq_false (by omega)
  have u3 : decide ((4096 : Int) < (ka : Int)) = false := decide_eq_false (by omega)
  have u4 : decide ((4096 : Int) < (kb : Int)) = false := decide_eq_false (by omega)
  subst hl
  clear hka hkb hza hzb hm2 hh
  go_enter Tryd.func9, Tryd.ntmps9
  go_wp2_with fail
  refine a0.out.mono ?_
  rintro e w1 ⟨rfl, hb⟩
  have HB1 := Lib.hid hb
  have hT1 := Lib.hid (hT.out.call hb)
  have ha1 := Lib.hid (ha.out.call hb)
  have hb1 := Lib.hid (hb'.out.call hb)
  clear hb
  go_wp2_with fail
  refine (qGa.out _ ha1).mono ?_
  rintro e w2 ⟨⟨g, rfl, hgf⟩, rfl⟩
  by_cases hg : g = true ∧ ka ≤ 4096
  · obtain ⟨rfl, hg2⟩ := hg
    have t1 : decide ((ka : Int) ≤ 4096) = true := decide_eq_true (by omega)
    clear hgf
    go_wp2_with fail
    go_ret
    exact ⟨rfl, HB1.out⟩
  have hFa : Hid (ka ≤ 4096 → Fine a) := fun h => by
    cases g with
    | false => exact fine_of (hgf rfl).2
    | true => exact absurd ⟨rfl, h⟩ hg
  obtain rfl : g = false := by
    cases g with
    | false => rfl
    | true => exact absurd ⟨rfl, by omega⟩ hg
  clear hgf hg
  go_wp2_with fail
  refine (qGb.out _ hb1).mono ?_
  rintro e w2 ⟨⟨gb, rfl, hgf⟩, rfl⟩
  by_cases hg : gb = true ∧ ka ≤ 4096
  · obtain ⟨rfl, hg2⟩ := hg
    have t1 : decide ((ka : Int) ≤ 4096) = true := decide_eq_true (by omega)
    clear hgf
    go_wp2_with fail
    go_ret
    exact ⟨rfl, HB1.out⟩
  have hFb : Hid (ka ≤ 4096 → Fine b) := fun h => by
    cases gb with
    | false => exact fine_of (hgf rfl).2
    | true => exact absurd ⟨rfl, h⟩ hg
  obtain rfl : gb = false := by
    cases gb with
    | false => rfl
    | true => exact absurd ⟨rfl, by omega⟩ hg
  clear hgf hg
  have HFa := Lib.hid (hFa.out h4)
  have HFb := Lib.hid (hFb.out h5)
  clear hFa hFb
  go_wp2_with fail
  with_reducible refine (qF.out _ hT1 ha1 hb1 HFa HFb).mono ?_
  rintro e w3 ⟨rfl, hb⟩
  have HB3 := Lib.hid (HB1.out.trans (hb.mono HB1.out.size))
  clear hb
  go_wp2_with fail
  refine (qK.out _).mono ?_
  rintro e w5 ⟨rfl, hb⟩
  have HB5 := Lib.hid (HB3.out.trans (hb.mono HB3.out.size))
  clear hb
  go_wp2_with (
    refine wpList_store_rowTo rfl 37 (.tmp 10) (.tmp 73) rfl rfl w5.heap.size KA rfl rfl 37 _ (blk_new w5 _ _ rfl) (by rw [hks.out]; kernel_rfl) (by rw [hks.out]; rfl) hon.out ?_
    obtain ⟨w6, hw6⟩ : ∃ w6, (w5.alloc (.cells Tryd.zeroCells37 37)).setRow w5.heap.size KA = w6 := ⟨_, rfl⟩
    have HK6 : Hid (w6.heap[w5.heap.size]? = some (.cells KA 37 (0, 0))) := by rw [← hw6]; exact setRow_heap _ _ _ _ _ _ (blk_new w5 _ _ rfl)
    have HB6 : Hid (Below w.heap.size w w6) := by rw [← hw6]; exact below_setRow (below_alloc HB5.out HB5.out.size _) HB5.out.size _
    rw [hw6]
    clear hw6)
  have hlt : w5.heap.size < w6.heap.size := (Array.getElem?_eq_some_iff.1 HK6.out).1
  have hkey : Hid (∀ w2, Below w6.heap.size w6 w2 → ∀ x : ExtOf w2, (loadVar 37 ⟨w5.heap.size, 0, none⟩).run Tryd.prog x.w = .ok (.agg KA) x.w) := fun w2 hb2 x =>
    run_loadVar_row x.w w5.heap.size 37 37 KA (0, 0) _ ((x.below.block _ (by have := hb2.size; omega)).trans ((hb2.block _ hlt).trans HK6.out)) Tryd.underlying37 rfl (by rw [hks.out]; kernel_rfl)
  have ha6 := Lib.hid (ha.out.call HB6.out)
  have hb6 := Lib.hid (hb'.out.call HB6.out)
  have qE1 := Lib.hid (fun (x : ExtOf w6) => qRa.out x.w (Lib.hid (ha6.out.call x.below)) HFa)
  have qE2 := Lib.hid (fun (x : ExtOf w6) => qRb.out x.w (Lib.hid (hb6.out.call x.below)) HFb)
  refine wp_region_ext (by kernel_rfl) (by kernel_rfl) ?_
  repeat (first
    | (refine BigFrame.wpQuiet_want rfl fun K hK => ?_
       refine quiet_load_row 37 (.tmp 10) rfl w5.heap.size rfl KA (by rintro wz ⟨x, rfl⟩; exact hkey.out w6 (Below.refl _ _) x) (hK _ ?_)
       clear hK K
       simp only [Act.put, List.setIfInBounds_toArray, List.set_cons_succ, List.set_cons_zero])
    | (go_big_quiet_step (first | (with_reducible exact ext_call (qE1.out _)) | (with_reducible exact ext_call (qE2.out _)))))
  refine wpQuiet_nil ?_
  rintro w' ⟨y, rfl⟩
  have HB8 := Lib.hid y.below
  have HB9 := Lib.hid (HB6.out.trans (y.below.mono HB6.out.size))
  have ha9 := Lib.hid (ha6.out.call y.below)
  have hb9 := Lib.hid (hb6.out.call y.below)
  generalize y.w = w9 at *
  clear y qE1 qE2
  go_wp2_with fail
  with_reducible refine (qS.out _ ha9 hb9).mono ?_
  rintro e w10 ⟨rfl, hb⟩
  have HB10 := Lib.hid (HB9.out.trans (hb.mono HB9.out.size))
  clear hb
  go_wp2_with fail
  go_ret
  exact ⟨rfl, HB10.out⟩

set_option maxRecDepth 100000 in
set_option maxHeartbeats 4000000 in
theorem ClashFinds_in4 (va vb : Value) (a b : List ByteArray) (m : Nat) (w : World) (hT : Hid (ShaT w (nth kList) hSt)) (ha : Hid (StrsAt w va a)) (hb' : Hid (StrsAt w vb b)) (hla : a.length ≤ 9223372036854775807) (hlb : b.length ≤ 9223372036854775807) (hza : Hid (∀ (i : Nat) (s : ByteArray), a[i]? = some s → s.size ≤ 9223372036854775807)) (hzb : Hid (∀ (i : Nat) (s : ByteArray), b[i]? = some s → s.size ≤ 9223372036854775807)) (hm : Hid (1 ≤ m ∧ m ≤ 32)) (h4 : a.length ≤ 4096) (h5 : b.length ≤ 4096) (hl : a.length = b.length) (hh : rootS (nth kList) hSt m a = rootS (nth kList) hSt m b) (hab : ¬ a = b) :
    Calls Tryd.prog 9 #[va, vb, .int .i64 m] w fun e w' => e = .returned (.bool true) ∧ Below w.heap.size w w' := by
  have a0 := Lib.hid (alive04 w hT)
  have qGa := Lib.hid (fun w h => Great_any va a w h hla hza)
  have qGb := Lib.hid (fun w h => Great_any vb b w h hlb hzb)
  have hks := Lib.hid key72_size
  have hon := Lib.hid key72_one
  have qK := Lib.hid (fun w => MakeKey_any w)
  have qF := Lib.hid (fun w hT h1 h2 h3 h4' => Find_in (nth kList) hSt m hm a b va vb w hT h1 h2 h3 h4' h4 h5)
  rw [show findS (nth kList) hSt m a b = ((downS (nth kList) hSt m a b).1, (downS (nth kList) hSt m a b).2, 0) by unfold findS foundS; rw [if_pos ⟨hl, hh⟩, if_neg hab]] at qF
  simp only [] at qF
  have qRa := Lib.hid (fun w h hF => rRoot_any m hm (a.length) a va w rfl h hF h4)
  have qRb := Lib.hid (fun w h hF => rRoot_any m hm (b.length) b vb w rfl h hF h5)
  have qS := Lib.hid (fun w h1 h2 => Same_any va vb a b w h1 h2 hla)
  rw [decide_eq_false hab] at qS
  have qX := Lib.hid (fun w h1 h2 h3 h4' => rFind_any m hm a.length a b va vb w rfl hl hab h1 h2 h3 h4' h4)
  rw [← hh] at qRb
  have hbn : ((rootS (nth kList) hSt m a).toList != (rootS (nth kList) hSt m a).toList) = false := by simp
  generalize (downS (nth kList) hSt m a b).1 = X at *
  generalize (downS (nth kList) hSt m a b).2 = Y at *
  have x1 : (X.toList == X.toList) = true := by simp
  have y1 : (Y.toList == Y.toList) = true := by simp
  generalize rootS (nth kList) hSt m a = RA at *
  obtain ⟨A1, c1, rfl, _, _⟩ := ha.out
  obtain ⟨A2, c2, rfl, _, _⟩ := hb'.out
  generalize nth kList = K at *
  generalize hSt = H at *
  generalize key72 = KA at *
  obtain ⟨ka, hka⟩ : ∃ ka, a.length = ka := ⟨_, rfl⟩
  obtain ⟨kb, hkb⟩ : ∃ kb, b.length = kb := ⟨_, rfl⟩
  rw [hka] at h4 hl hla ⊢
  rw [hkb] at h5 hl hlb ⊢
  rw [hka] at qGa qF ha qRa qS qX
  rw [hkb] at qGb qF hb' qRb qS qX
  have hm2 := hm.out
  have u1 : decide ((m : Int) < 1) = false := decide_eq_false (by omega)
  have u2 : decide ((32 : Int) < (m : Int)) = false := decide_eq_false (by omega)
  have u3 : decide ((4096 : Int) < (ka : Int)) = false := decide_eq_false (by omega)
  have u4 : decide ((4096 : Int) < (kb : Int)) = false := decide_eq_false (by omega)
  subst hl
  clear hka hkb hza hzb hm2 hh
  go_enter Tryd.func9, Tryd.ntmps9
  go_wp2_with fail
  refine a0.out.mono ?_
  rintro e w1 ⟨rfl, hb⟩
  have HB1 := Lib.hid hb
  have hT1 := Lib.hid (hT.out.call hb)
  have ha1 := Lib.hid (ha.out.call hb)
  have hb1 := Lib.hid (hb'.out.call hb)
  clear hb
  go_wp2_with fail
  refine (qGa.out _ ha1).mono ?_
  rintro e w2 ⟨⟨g, rfl, hgf⟩, rfl⟩
  by_cases hg : g = true ∧ ka ≤ 4096
  · obtain ⟨rfl, hg2⟩ := hg
    have t1 : decide ((ka : Int) ≤ 4096) = true := decide_eq_true (by omega)
    clear hgf
    go_wp2_with fail
    go_ret
    exact ⟨rfl, HB1.out⟩
  have hFa : Hid (ka ≤ 4096 → Fine a) := fun h => by
    cases g with
    | false => exact fine_of (hgf rfl).2
    | true => exact absurd ⟨rfl, h⟩ hg
  obtain rfl : g = false := by
    cases g with
    | false => rfl
    | true => exact absurd ⟨rfl, by omega⟩ hg
  clear hgf hg
  go_wp2_with fail
  refine (qGb.out _ hb1).mono ?_
  rintro e w2 ⟨⟨gb, rfl, hgf⟩, rfl⟩
  by_cases hg : gb = true ∧ ka ≤ 4096
  · obtain ⟨rfl, hg2⟩ := hg
    have t1 : decide ((ka : Int) ≤ 4096) = true := decide_eq_true (by omega)
    clear hgf
    go_wp2_with fail
    go_ret
    exact ⟨rfl, HB1.out⟩
  have hFb : Hid (ka ≤ 4096 → Fine b) := fun h => by
    cases gb with
    | false => exact fine_of (hgf rfl).2
    | true => exact absurd ⟨rfl, h⟩ hg
  obtain rfl : gb = false := by
    cases gb with
    | false => rfl
    | true => exact absurd ⟨rfl, by omega⟩ hg
  clear hgf hg
  have HFa := Lib.hid (hFa.out h4)
  have HFb := Lib.hid (hFb.out h5)
  clear hFa hFb
  go_wp2_with fail
  with_reducible refine (qF.out _ hT1 ha1 hb1 HFa HFb).mono ?_
  rintro e w3 ⟨rfl, hb⟩
  have HB3 := Lib.hid (HB1.out.trans (hb.mono HB1.out.size))
  clear hb
  go_wp2_with fail
  refine (qK.out _).mono ?_
  rintro e w5 ⟨rfl, hb⟩
  have HB5 := Lib.hid (HB3.out.trans (hb.mono HB3.out.size))
  clear hb
  go_wp2_with (
    refine wpList_store_rowTo rfl 37 (.tmp 10) (.tmp 73) rfl rfl w5.heap.size KA rfl rfl 37 _ (blk_new w5 _ _ rfl) (by rw [hks.out]; kernel_rfl) (by rw [hks.out]; rfl) hon.out ?_
    obtain ⟨w6, hw6⟩ : ∃ w6, (w5.alloc (.cells Tryd.zeroCells37 37)).setRow w5.heap.size KA = w6 := ⟨_, rfl⟩
    have HK6 : Hid (w6.heap[w5.heap.size]? = some (.cells KA 37 (0, 0))) := by rw [← hw6]; exact setRow_heap _ _ _ _ _ _ (blk_new w5 _ _ rfl)
    have HB6 : Hid (Below w.heap.size w w6) := by rw [← hw6]; exact below_setRow (below_alloc HB5.out HB5.out.size _) HB5.out.size _
    rw [hw6]
    clear hw6)
  have hlt : w5.heap.size < w6.heap.size := (Array.getElem?_eq_some_iff.1 HK6.out).1
  have hkey : Hid (∀ w2, Below w6.heap.size w6 w2 → ∀ x : ExtOf w2, (loadVar 37 ⟨w5.heap.size, 0, none⟩).run Tryd.prog x.w = .ok (.agg KA) x.w) := fun w2 hb2 x =>
    run_loadVar_row x.w w5.heap.size 37 37 KA (0, 0) _ ((x.below.block _ (by have := hb2.size; omega)).trans ((hb2.block _ hlt).trans HK6.out)) Tryd.underlying37 rfl (by rw [hks.out]; kernel_rfl)
  have ha6 := Lib.hid (ha.out.call HB6.out)
  have hb6 := Lib.hid (hb'.out.call HB6.out)
  have qE1 := Lib.hid (fun (x : ExtOf w6) => qRa.out x.w (Lib.hid (ha6.out.call x.below)) HFa)
  have qE2 := Lib.hid (fun (x : ExtOf w6) => qRb.out x.w (Lib.hid (hb6.out.call x.below)) HFb)
  refine wp_region_ext (by kernel_rfl) (by kernel_rfl) ?_
  repeat (first
    | (refine BigFrame.wpQuiet_want rfl fun K hK => ?_
       refine quiet_load_row 37 (.tmp 10) rfl w5.heap.size rfl KA (by rintro wz ⟨x, rfl⟩; exact hkey.out w6 (Below.refl _ _) x) (hK _ ?_)
       clear hK K
       simp only [Act.put, List.setIfInBounds_toArray, List.set_cons_succ, List.set_cons_zero])
    | (go_big_quiet_step (first | (with_reducible exact ext_call (qE1.out _)) | (with_reducible exact ext_call (qE2.out _)))))
  refine wpQuiet_nil ?_
  rintro w' ⟨y, rfl⟩
  have HB8 := Lib.hid y.below
  have HB9 := Lib.hid (HB6.out.trans (y.below.mono HB6.out.size))
  have ha9 := Lib.hid (ha6.out.call y.below)
  have hb9 := Lib.hid (hb6.out.call y.below)
  generalize y.w = w9 at *
  clear y qE1 qE2
  go_wp2_with fail
  with_reducible refine (qS.out _ ha9 hb9).mono ?_
  rintro e w10 ⟨rfl, hb⟩
  have HB10 := Lib.hid (HB9.out.trans (hb.mono HB9.out.size))
  have HK10 : Hid (w10.heap[w5.heap.size]? = some (.cells KA 37 (0, 0))) := ((HB8.out.trans (hb.mono HB8.out.size)).block _ hlt).trans HK6.out
  have ha10 := Lib.hid (ha9.out.call hb)
  have hb10 := Lib.hid (hb9.out.call hb)
  clear hb
  go_wp2_with (refine wpList_load_row_g (by rfl) 37 (.tmp 10) rfl w5.heap.size rfl 37 KA (0, 0) _ HK10.out Tryd.underlying37 rfl (by rw [hks.out]; kernel_rfl) ?_)
  with_reducible refine (qX.out _ ha10 hb10 HFa HFb).mono ?_
  rintro e w11 ⟨rfl, hb⟩
  have HB11 := Lib.hid (HB10.out.trans (hb.mono HB10.out.size))
  clear hb
  go_wp2_with fail
  go_ret
  exact ⟨rfl, HB11.out⟩

theorem ClashFinds_walk (va vb : Value) (a b : List ByteArray) (n : Int) (w : World) (hT : Hid (ShaT w (nth kList) hSt)) (ha : Hid (StrsAt w va a)) (hb' : Hid (StrsAt w vb b)) (hla : a.length ≤ 9223372036854775807) (hlb : b.length ≤ 9223372036854775807) (hza : Hid (∀ (i : Nat) (s : ByteArray), a[i]? = some s → s.size ≤ 9223372036854775807)) (hzb : Hid (∀ (i : Nat) (s : ByteArray), b[i]? = some s → s.size ≤ 9223372036854775807)) (hn : I64 n) :
    Calls Tryd.prog 9 #[va, vb, .int .i64 n] w fun e w' => e = .returned (.bool true) ∧ Below w.heap.size w w' := by
  by_cases h1 : n < 1
  · exact ClashFinds_bad va vb a b n w hT ha hb' hla hlb hza hzb 1 (by unfold rightC; rw [if_pos (Or.inl h1)]) (by decide) (.inl ⟨rfl, h1⟩)
  by_cases h2 : 32 < n
  · exact ClashFinds_bad va vb a b n w hT ha hb' hla hlb hza hzb 1 (by unfold rightC; rw [if_pos (Or.inr h2)]) (by decide) (.inr (.inl ⟨rfl, h1, h2⟩))
  by_cases h3 : 4096 < a.length
  · exact ClashFinds_bad va vb a b n w hT ha hb' hla hlb hza hzb 4 (by unfold rightC; rw [if_neg (by omega), if_pos (Or.inl h3)]) (by decide) (.inr (.inr (.inl ⟨rfl, h1, h2, h3⟩)))
  by_cases h4 : 4096 < b.length
  · exact ClashFinds_bad va vb a b n w hT ha hb' hla hlb hza hzb 4 (by unfold rightC; rw [if_neg (by omega), if_pos (Or.inr h4)]) (by decide) (.inr (.inr (.inr ⟨rfl, h1, h2, h3, h4⟩)))
  obtain ⟨m, rfl⟩ : ∃ m : Nat, n = m := ⟨n.toNat, by omega⟩
  have hm : Hid (1 ≤ m ∧ m ≤ 32) := by show _ ∧ _; omega
  by_cases hl : a.length = b.length
  · by_cases hh : rootS (nth kList) hSt m a = rootS (nth kList) hSt m b
    · by_cases hab : a = b
      · exact ClashFinds_in3 va vb a b m w hT ha hb' hla hlb hza hzb hm (by omega) (by omega) hl hh hab
      · exact ClashFinds_in4 va vb a b m w hT ha hb' hla hlb hza hzb hm (by omega) (by omega) hl hh hab
    · exact ClashFinds_in2 va vb a b m w hT ha hb' hla hlb hza hzb hm (by omega) (by omega) hl hh
  · exact ClashFinds_in1 va vb a b m w hT ha hb' hla hlb hza hzb hm (by omega) (by omega) hl

end Go.Proofs.YtaigngdlioplaaaDoor
