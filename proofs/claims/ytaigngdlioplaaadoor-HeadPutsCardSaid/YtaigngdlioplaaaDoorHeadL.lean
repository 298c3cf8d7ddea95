/- The walk of HeadGets. -/
import Derived.Test.YtaigngdlioplaaaDoorHeadK
import Derived.Test.YtaigngdlioplaaaDoorHeadH
namespace Go.Proofs.YtaigngdlioplaaaDoor
open Go Go.RowKit

set_option maxRecDepth 100000 in
set_option maxHeartbeats 1000000 in
theorem HeadGets_walk (s : ByteArray) (n : Int) (w : World) (hT : Hid (ShaT w (nth kList) hSt)) (hs : s.size ≤ 9223372036854775807) :
    Calls Tryd.prog 4 #[.string s, .int .i64 n] w fun e w' => e = .returned (.bool true) ∧ Below w.heap.size w w' := by
  have a0 := Lib.hid (alive08 w hT)
  generalize nth kList = K at *
  generalize hSt = H at *
  by_cases h500 : 500 < s.size
  · go_enter Tryd.func4, Tryd.ntmps4
    go_wp2_with fail
    refine a0.out.mono ?_
    rintro e w1 ⟨rfl, hb⟩
    have HB := Lib.hid hb
    clear hb
    go_wp2_with fail
    go_ret
    exact ⟨rfl, HB.out⟩
  · by_cases hoff : 1 ≤ n ∧ n ≤ 32
    · have hno : Hid (1 ≤ n ∧ n ≤ 32) := hoff
      have q1 := Lib.hid (fun w => HGet_any s n w (by show _ ≤ _; omega) hno)
      have q2 := Lib.hid (fun w => rHGet_any s n w (by show _ ≤ _; omega) hno)
      obtain ⟨hn1, hn2⟩ := hoff
      by_cases hE : errH s n = 0
      · obtain ⟨hp, hm⟩ := got_put s n hE
        have hg : getH s n = gotH s n := by unfold getH; rw [if_pos hE]
        have q3 := Lib.hid (fun w => HPut_any (gotH s n) w (Lib.hid (hdOk_of hm hn2).fit))
        have q4 := Lib.hid (fun w => May_any (gotH s n) n w hno)
        rw [hp] at q3
        rw [hm] at q4
        rw [hE, hg] at q1 q2
        have hbq : (s.toList == s.toList) = true := by simp
        clear hE hp hm hg
        generalize gotH s n = h at *
        obtain ⟨i, f, c, b, p, r⟩ := h
        have hb1 : (p.toList == p.toList) = true := by simp
        have hb2 : (r.toList == r.toList) = true := by simp
        unfold Hd.cells at *
        simp only [] at q1 q2 q3 q4
        go_enter Tryd.func4, Tryd.ntmps4
        go_wp2_with fail
        refine a0.out.mono ?_
        rintro e w1 ⟨rfl, hb⟩
        have HB1 := Lib.hid hb
        clear hb
        go_wp2_with fail
        refine (q1.out _).mono ?_
        rintro e w2 ⟨rfl, hb⟩
        have HB2 := Lib.hid (HB1.out.trans (hb.mono HB1.out.size))
        clear hb
        go_wp2_with fail
        generalize hw3 : World.alloc w2 _ = w3
        have D3 : w3.heap[w2.heap.size]? = some (.cells #[.int .i64 i, .int .i64 f, .int .i64 c, .int .i64 b, .string p, .string r] 23 (0, 0)) := by rw [← hw3]; exact blk_new _ _ _ rfl
        have HB3 : Hid (Below w.heap.size w w3) := by rw [← hw3]; exact below_alloc HB2.out HB2.out.size _
        have D3h := Lib.hid D3
        obtain ⟨b1, hb1'⟩ : ∃ b1, w2.heap.size = b1 := ⟨_, rfl⟩
        rw [hb1'] at D3h ⊢
        clear hw3 D3 hb1'
        refine (q2.out _).mono ?_
        rintro e w4 ⟨rfl, hb⟩
        have HB4 := Lib.hid (HB3.out.trans (hb.mono HB3.out.size))
        have D4 := blk_call D3h.out hb
        clear hb D3h
        have D5 : (w4.alloc (.cells #[.int .i64 i, .int .i64 f, .int .i64 c, .int .i64 b, .string p, .string r] 23)).heap[b1]? = some (.cells #[.int .i64 i, .int .i64 f, .int .i64 c, .int .i64 b, .string p, .string r] 23 (0, 0)) := blk_old D4 _
        have HB5 : Hid (Below w.heap.size w (w4.alloc (.cells #[.int .i64 i, .int .i64 f, .int .i64 c, .int .i64 b, .string p, .string r] 23))) := below_alloc HB4.out HB4.out.size _
        have D5h := Lib.hid D5
        have g0 := cells_of_blk D5 0 _ rfl
        have g1 := cells_of_blk D5 1 _ rfl
        have g2 := cells_of_blk D5 2 _ rfl
        have g3 := cells_of_blk D5 3 _ rfl
        have g4 := cells_of_blk D5 4 _ rfl
        have g5 := cells_of_blk D5 5 _ rfl
        clear D4 D5
        go_wp2_with fail
        refine (q3.out _).mono ?_
        rintro e w6 ⟨rfl, hb⟩
        have HB6 := Lib.hid (HB5.out.trans (hb.mono HB5.out.size))
        have D6 := blk_call D5h.out hb
        clear hb g0 g1 g2 g3 g4 g5
        have g0 := cells_of_blk D6 0 _ rfl
        have g1 := cells_of_blk D6 1 _ rfl
        have g2 := cells_of_blk D6 2 _ rfl
        have g3 := cells_of_blk D6 3 _ rfl
        have g4 := cells_of_blk D6 4 _ rfl
        have g5 := cells_of_blk D6 5 _ rfl
        clear D6
        go_wp2_with fail
        refine (q4.out _).mono ?_
        rintro e w7 ⟨rfl, hb⟩
        have HB7 := Lib.hid (HB6.out.trans (hb.mono HB6.out.size))
        clear hb
        go_wp2_with fail
        go_ret
        exact ⟨rfl, HB7.out⟩
      · have hg : getH s n = zeroH := by unfold getH; rw [if_neg hE]
        rw [hg] at q1 q2
        generalize errH s n = E at *
        clear hg
        unfold Hd.cells at q1 q2
        simp only [zeroH] at q1 q2
        go_enter Tryd.func4, Tryd.ntmps4
        go_wp2_with fail
        refine a0.out.mono ?_
        rintro e w1 ⟨rfl, hb⟩
        have HB1 := Lib.hid hb
        clear hb
        go_wp2_with fail
        refine (q1.out _).mono ?_
        rintro e w2 ⟨rfl, hb⟩
        have HB2 := Lib.hid (HB1.out.trans (hb.mono HB1.out.size))
        clear hb
        go_wp2_with fail
        generalize hw3 : World.alloc w2 _ = w3
        have D3 : w3.heap[w2.heap.size]? = some (.cells #[.int .i64 0, .int .i64 0, .int .i64 0, .int .i64 0, .string ⟨#[]⟩, .string ⟨#[]⟩] 23 (0, 0)) := by rw [← hw3]; exact blk_new _ _ _ rfl
        have HB3 : Hid (Below w.heap.size w w3) := by rw [← hw3]; exact below_alloc HB2.out HB2.out.size _
        have D3h := Lib.hid D3
        obtain ⟨b1, hb1'⟩ : ∃ b1, w2.heap.size = b1 := ⟨_, rfl⟩
        rw [hb1'] at D3h ⊢
        clear hw3 D3 hb1'
        refine (q2.out _).mono ?_
        rintro e w4 ⟨rfl, hb⟩
        have HB4 := Lib.hid (HB3.out.trans (hb.mono HB3.out.size))
        have D4 := blk_call D3h.out hb
        clear hb D3h
        have D5 : (w4.alloc (.cells #[.int .i64 0, .int .i64 0, .int .i64 0, .int .i64 0, .string ⟨#[]⟩, .string ⟨#[]⟩] 23)).heap[b1]? = some (.cells #[.int .i64 0, .int .i64 0, .int .i64 0, .int .i64 0, .string ⟨#[]⟩, .string ⟨#[]⟩] 23 (0, 0)) := blk_old D4 _
        have HB5 : Hid (Below w.heap.size w (w4.alloc (.cells #[.int .i64 0, .int .i64 0, .int .i64 0, .int .i64 0, .string ⟨#[]⟩, .string ⟨#[]⟩] 23))) := below_alloc HB4.out HB4.out.size _
        have g0 := cells_of_blk D5 0 _ rfl
        have g1 := cells_of_blk D5 1 _ rfl
        have g2 := cells_of_blk D5 2 _ rfl
        have g3 := cells_of_blk D5 3 _ rfl
        have g4 := cells_of_blk D5 4 _ rfl
        have g5 := cells_of_blk D5 5 _ rfl
        clear D4 D5
        go_wp2_with fail
        go_ret
        exact ⟨rfl, HB5.out⟩
    · have q1 := Lib.hid (fun w => HGet_bad s n w hoff)
      have hoff2 : n < 1 ∨ ¬ n < 1 ∧ 32 < n := by omega
      unfold Hd.cells at q1
      simp only [zeroH] at q1
      clear hoff
      rcases hoff2 with h1 | ⟨h1, h2⟩
      all_goals
        go_enter Tryd.func4, Tryd.ntmps4
        go_wp2_with fail
        refine a0.out.mono ?_
        rintro e w1 ⟨rfl, hb⟩
        have HB1 := Lib.hid hb
        clear hb
        go_wp2_with fail
        refine (q1.out _).mono ?_
        rintro e w2 ⟨rfl, hb⟩
        have HB2 := Lib.hid (HB1.out.trans (hb.mono HB1.out.size))
        clear hb
        have HB3 : Hid (∀ o, Below w.heap.size w (w2.alloc o)) := fun o => below_alloc HB2.out HB2.out.size _
        go_wp2_with fail
        go_ret
        exact ⟨rfl, HB3.out _⟩
end Go.Proofs.YtaigngdlioplaaaDoor
