/- money: AddMul, Add, Total. -/
import Derived.Test.YtfkfpppiikgjbaaMoneyD
namespace Go.Proofs.Ytfkfpppiikgjbaa
open Go Go.RowKit Mon

theorem mod_word (x : Int) : 0 ≤ x % 18446744073709551616 ∧ x % 18446744073709551616 < M := by unfold M; omega

theorem acW_sum {V a b c d e f : Int} (hV : Ok V) (h0 : w0 V = a) (h1 : w1 V = b) (h2 : w2 V = c) (hd : 0 ≤ d ∧ d < M) (he : 0 ≤ e ∧ e < M) (hf : 0 ≤ f ∧ f < M) :
    acW a b c d e f 3 = sumA ((V + (d + e * M + f * (M * M))) % M3) := by
  obtain ⟨ha, hb, hc⟩ := w_ok hV
  have hv := w_back hV
  rw [h0] at ha; rw [h1] at hb; rw [h2] at hc
  rw [h0, h1, h2] at hv
  have h := add_words ha hb hc hd he hf
  rw [hv] at h
  obtain ⟨e0, e1, e2, _⟩ := w_of (V := (V + (d + e * M + f * (M * M))) % M3) (mod_word _) (mod_word _) (mod_word _) h
  unfold sumA
  rw [e0, e1, e2]
  rfl

theorem ngW_sum (W : Int) (h : 0 ≤ W ∧ W < M * M) : ∃ d e f : Int, (0 ≤ d ∧ d < M) ∧ (0 ≤ e ∧ e < M) ∧ (0 ≤ f ∧ f < M) ∧
    ngW (W % 18446744073709551616) (W / 18446744073709551616) 0 (18446744073709551615 - W % 18446744073709551616) (18446744073709551615 - W / 18446744073709551616) (18446744073709551615 - 0) 3 = #[.int .u64 d, .int .u64 e, .int .u64 f] ∧ d + e * M + f * (M * M) = (M3 - W) % M3 := by
  refine ⟨_, _, _, mod_word _, mod_word _, mod_word _, rfl, ?_⟩
  have := neg_words (a := W % M) (b := W / M) (c := 0) (by unfold M; omega) (by unfold M at *; omega) (by unfold M; omega)
  rw [show W % M + W / M * M + 0 * (M * M) = W by unfold M; omega] at this
  rw [this]
  rfl

theorem grown_of_below (w : World) (o : Obj) {w2 : World} (h : Below (w.alloc o).heap.size (w.alloc o) w2) (g : Nat) : w.grownBy w2 (some g) := by
  have h1 : Below w.heap.size w w2 := (below_alloc (Below.refl _ _) (Nat.le_refl _) o).trans (h.mono (by rw [World.size_alloc]; omega))
  exact ⟨h1.os, h1.tape, h1.output, h1.size, fun k hk _ => h1.block k hk⟩
theorem grown_set_new {w wz : World} {g : Option Nat} (h : w.grownBy wz g) {p : Addr} (hp : w.heap.size ≤ p.block) (v : Value) : w.grownBy (wz.setCell p v) g :=
  ⟨h.os, h.tape, h.output, by simpa [World.setCell] using h.size, fun k hk hne => by
    rw [Below.heap_setCell _ _ _ _ (by omega)]
    exact h.block k hk hne⟩
theorem ab_prod {a b : Int} (ha : I64 a) (hb : I64 b) : 0 ≤ ab a * ab b ∧ ab a * ab b < M * M := by
  have h1 := (ab_word ha).1
  have h2 := (ab_word hb).1
  have h3 : ab a ≤ 9223372036854775808 := by unfold I64 at ha; unfold ab; split <;> omega
  have h4 : ab b ≤ 9223372036854775808 := by unfold I64 at hb; unfold ab; split <;> omega
  have h5 := Int.mul_le_mul h3 h4 h2 (by decide)
  have h6 := Int.mul_nonneg h1 h2
  unfold M
  omega

set_option maxRecDepth 100000 in
set_option maxHeartbeats 1000000 in
theorem AddMul_any (g : Nat) (V a b : Int) (hV : Ok V) (ha : I64 a) (hb : I64 b) (w : World) (hS : Hid (SumAt w g V)) :
    Calls Try.prog 76 #[.pointer (some ⟨g, 0, none⟩), .int .i64 a, .int .i64 b] w fun r w' =>
      r = .returned (.tuple #[]) ∧ SumAt w' g ((V + a * b) % M3) ∧ w.grownBy w' (some g) := by
  have hglt : g < w.heap.size := (Array.getElem?_eq_some_iff.1 hS.out).1
  have hp := ab_prod ha hb
  have qa := Lib.hid (fun w => size_any a ha w)
  have qb := Lib.hid (fun w => size_any b hb w)
  have qm := Lib.hid (fun w => mul64 (ab a) (ab b) (ab_word ha) (ab_word hb) w)
  obtain ⟨W, hW⟩ : ∃ W : Int, ab a * ab b = W := ⟨_, rfl⟩
  rw [hW] at hp qm
  have HP := Lib.hid hp
  obtain ⟨k0, k1, k2⟩ := w_ok hV
  by_cases h1 : a < 0
  · by_cases h2 : b < 0
    · skip
      have d1 : decide (a < 0) = true := decide_eq_true h1
      have d2 : decide (b < 0) = true := decide_eq_true h2
      have hW2 : a * b = W := by rw [← hW]; unfold ab; rw [if_pos h1, if_pos h2]; exact (Int.neg_mul_neg a b).symm
      have HW := Lib.hid hW
      rw [hW2]
      clear hW hW2 hp
      go_enter Try.func76, Try.ntmps76
      go_wp2_with (first
        | (go_at_call 123; with_reducible refine (qm.out _).mono ?_; rintro e w' ⟨rfl, rfl⟩)
        | (go_at_call 124; first | (with_reducible refine (qa.out _).mono ?_; rintro e w' ⟨rfl, rfl⟩) | (with_reducible refine (qb.out _).mono ?_; rintro e w' ⟨rfl, rfl⟩)))
      refine (addW_any g (w0 V) (w1 V) (w2 V) (W % 18446744073709551616) (W / 18446744073709551616) 0 k0 k1 k2 (mod_word _) ⟨by have := HP.out; omega, by have := HP.out; unfold M at *; omega⟩ (by unfold M; omega) _ (blk_old hS.out _)).mono ?_
      rintro e wz ⟨rfl, h2, h3⟩
      have e1 := acW_sum hV rfl rfl rfl (mod_word W) (e := W / 18446744073709551616) (f := 0) ⟨by have := HP.out; omega, by have := HP.out; unfold M at *; omega⟩ (by unfold M; omega)
      rw [e1, show W % 18446744073709551616 + W / 18446744073709551616 * M + 0 * (M * M) = W by unfold M; omega] at h2
      have H2 := Lib.hid h2
      have H3 := Lib.hid h3
      clear h2 h3 e1
      go_wp2_with fail
      go_end0
      exact ⟨rfl, H2.out, grown_trans (grown_alloc0 (World.grownBy.refl _ _) _) H3.out⟩
    · skip
      have d1 : decide (a < 0) = true := decide_eq_true h1
      have d2 : decide (b < 0) = false := decide_eq_false h2
      have hW2 : a * b = -W := by rw [← hW]; unfold ab; rw [if_pos h1, if_neg h2]; rw [Int.neg_mul, Int.neg_neg]
      have HW := Lib.hid hW
      rw [hW2]
      clear hW hW2 hp
      go_enter Try.func76, Try.ntmps76
      go_wp2_with (first
        | (go_at_call 123; with_reducible refine (qm.out _).mono ?_; rintro e w' ⟨rfl, rfl⟩)
        | (go_at_call 124; first | (with_reducible refine (qa.out _).mono ?_; rintro e w' ⟨rfl, rfl⟩) | (with_reducible refine (qb.out _).mono ?_; rintro e w' ⟨rfl, rfl⟩)))
      refine (neg_any (W % 18446744073709551616) (W / 18446744073709551616) 0 (mod_word _) ⟨by have := HP.out; omega, by have := HP.out; unfold M at *; omega⟩ (by unfold M; omega) _).mono ?_
      rintro e wz ⟨rfl, hb2⟩
      obtain ⟨d, e, f, hd, he, hf, hng, hdef⟩ := ngW_sum W HP.out
      rw [hng]
      have c0 : wz.cell? ⟨w'.heap.size, 0, none⟩ = some (.int .u64 (W % 18446744073709551616)) := cells_of_blk (blk_call (heap_new _ _) hb2) 0 _ rfl
      have c1 : wz.cell? ⟨w'.heap.size, 1, none⟩ = some (.int .u64 (W / 18446744073709551616)) := cells_of_blk (blk_call (heap_new _ _) hb2) 1 _ rfl
      have c2 : wz.cell? ⟨w'.heap.size, 2, none⟩ = some (.int .u64 0) := cells_of_blk (blk_call (heap_new _ _) hb2) 2 _ rfl
      have f0 := free_of_blk (blk_call (heap_new w' (.cells #[.int .u64 (W % 18446744073709551616), .int .u64 (W / 18446744073709551616), .int .u64 0] 103)) hb2) 0
      have f1 := free_of_blk (blk_call (heap_new w' (.cells #[.int .u64 (W % 18446744073709551616), .int .u64 (W / 18446744073709551616), .int .u64 0] 103)) hb2) 1
      have f2 := free_of_blk (blk_call (heap_new w' (.cells #[.int .u64 (W % 18446744073709551616), .int .u64 (W / 18446744073709551616), .int .u64 0] 103)) hb2) 2
      have hne : ¬ g = w'.heap.size := by omega
      have HB2 := Lib.hid (grown_of_below w' _ hb2 g)
      have HS2 : Hid (SumAt wz g V) := blk_call (blk_old hS.out _) hb2
      have HD := Lib.hid (And.intro hd (And.intro he (And.intro hf hdef)))
      clear hb2 hng hd he hf hdef hS
      go_wp2_with fail
      refine (addW_any g (w0 V) (w1 V) (w2 V) d e f k0 k1 k2 HD.out.1 HD.out.2.1 HD.out.2.2.1 _ (set_oth (set_oth (set_oth HS2.out _ _ hne) _ _ hne) _ _ hne)).mono ?_
      rintro e w3 ⟨rfl, h2, h3⟩
      have e1 := acW_sum hV rfl rfl rfl HD.out.1 HD.out.2.1 HD.out.2.2.1
      rw [e1, HD.out.2.2.2, show (V + (M3 - W) % M3) % M3 = (V + -W) % M3 by unfold M3; omega] at h2
      have H2 := Lib.hid h2
      have H3 := Lib.hid h3
      clear h2 h3 e1
      go_wp2_with fail
      go_end0
      exact ⟨rfl, H2.out, grown_trans (grown_set_new (grown_set_new (grown_set_new HB2.out (Nat.le_refl _) _) (Nat.le_refl _) _) (Nat.le_refl _) _) H3.out⟩
  · by_cases h2 : b < 0
    · skip
      have d1 : decide (a < 0) = false := decide_eq_false h1
      have d2 : decide (b < 0) = true := decide_eq_true h2
      have hW2 : a * b = -W := by rw [← hW]; unfold ab; rw [if_neg h1, if_pos h2]; rw [Int.mul_neg, Int.neg_neg]
      have HW := Lib.hid hW
      rw [hW2]
      clear hW hW2 hp
      go_enter Try.func76, Try.ntmps76
      go_wp2_with (first
        | (go_at_call 123; with_reducible refine (qm.out _).mono ?_; rintro e w' ⟨rfl, rfl⟩)
        | (go_at_call 124; first | (with_reducible refine (qa.out _).mono ?_; rintro e w' ⟨rfl, rfl⟩) | (with_reducible refine (qb.out _).mono ?_; rintro e w' ⟨rfl, rfl⟩)))
      refine (neg_any (W % 18446744073709551616) (W / 18446744073709551616) 0 (mod_word _) ⟨by have := HP.out; omega, by have := HP.out; unfold M at *; omega⟩ (by unfold M; omega) _).mono ?_
      rintro e wz ⟨rfl, hb2⟩
      obtain ⟨d, e, f, hd, he, hf, hng, hdef⟩ := ngW_sum W HP.out
      rw [hng]
      have c0 : wz.cell? ⟨w'.heap.size, 0, none⟩ = some (.int .u64 (W % 18446744073709551616)) := cells_of_blk (blk_call (heap_new _ _) hb2) 0 _ rfl
      have c1 : wz.cell? ⟨w'.heap.size, 1, none⟩ = some (.int .u64 (W / 18446744073709551616)) := cells_of_blk (blk_call (heap_new _ _) hb2) 1 _ rfl
      have c2 : wz.cell? ⟨w'.heap.size, 2, none⟩ = some (.int .u64 0) := cells_of_blk (blk_call (heap_new _ _) hb2) 2 _ rfl
      have f0 := free_of_blk (blk_call (heap_new w' (.cells #[.int .u64 (W % 18446744073709551616), .int .u64 (W / 18446744073709551616), .int .u64 0] 103)) hb2) 0
      have f1 := free_of_blk (blk_call (heap_new w' (.cells #[.int .u64 (W % 18446744073709551616), .int .u64 (W / 18446744073709551616), .int .u64 0] 103)) hb2) 1
      have f2 := free_of_blk (blk_call (heap_new w' (.cells #[.int .u64 (W % 18446744073709551616), .int .u64 (W / 18446744073709551616), .int .u64 0] 103)) hb2) 2
      have hne : ¬ g = w'.heap.size := by omega
      have HB2 := Lib.hid (grown_of_below w' _ hb2 g)
      have HS2 : Hid (SumAt wz g V) := blk_call (blk_old hS.out _) hb2
      have HD := Lib.hid (And.intro hd (And.intro he (And.intro hf hdef)))
      clear hb2 hng hd he hf hdef hS
      go_wp2_with fail
      refine (addW_any g (w0 V) (w1 V) (w2 V) d e f k0 k1 k2 HD.out.1 HD.out.2.1 HD.out.2.2.1 _ (set_oth (set_oth (set_oth HS2.out _ _ hne) _ _ hne) _ _ hne)).mono ?_
      rintro e w3 ⟨rfl, h2, h3⟩
      have e1 := acW_sum hV rfl rfl rfl HD.out.1 HD.out.2.1 HD.out.2.2.1
      rw [e1, HD.out.2.2.2, show (V + (M3 - W) % M3) % M3 = (V + -W) % M3 by unfold M3; omega] at h2
      have H2 := Lib.hid h2
      have H3 := Lib.hid h3
      clear h2 h3 e1
      go_wp2_with fail
      go_end0
      exact ⟨rfl, H2.out, grown_trans (grown_set_new (grown_set_new (grown_set_new HB2.out (Nat.le_refl _) _) (Nat.le_refl _) _) (Nat.le_refl _) _) H3.out⟩
    · skip
      have d1 : decide (a < 0) = false := decide_eq_false h1
      have d2 : decide (b < 0) = false := decide_eq_false h2
      have hW2 : a * b = W := by rw [← hW]; unfold ab; rw [if_neg h1, if_neg h2]
      have HW := Lib.hid hW
      rw [hW2]
      clear hW hW2 hp
      go_enter Try.func76, Try.ntmps76
      go_wp2_with (first
        | (go_at_call 123; with_reducible refine (qm.out _).mono ?_; rintro e w' ⟨rfl, rfl⟩)
        | (go_at_call 124; first | (with_reducible refine (qa.out _).mono ?_; rintro e w' ⟨rfl, rfl⟩) | (with_reducible refine (qb.out _).mono ?_; rintro e w' ⟨rfl, rfl⟩)))
      refine (addW_any g (w0 V) (w1 V) (w2 V) (W % 18446744073709551616) (W / 18446744073709551616) 0 k0 k1 k2 (mod_word _) ⟨by have := HP.out; omega, by have := HP.out; unfold M at *; omega⟩ (by unfold M; omega) _ (blk_old hS.out _)).mono ?_
      rintro e wz ⟨rfl, h2, h3⟩
      have e1 := acW_sum hV rfl rfl rfl (mod_word W) (e := W / 18446744073709551616) (f := 0) ⟨by have := HP.out; omega, by have := HP.out; unfold M at *; omega⟩ (by unfold M; omega)
      rw [e1, show W % 18446744073709551616 + W / 18446744073709551616 * M + 0 * (M * M) = W by unfold M; omega] at h2
      have H2 := Lib.hid h2
      have H3 := Lib.hid h3
      clear h2 h3 e1
      go_wp2_with fail
      go_end0
      exact ⟨rfl, H2.out, grown_trans (grown_alloc0 (World.grownBy.refl _ _) _) H3.out⟩

theorem Add_any (g : Nat) (V a : Int) (hV : Ok V) (ha : I64 a) (w : World) (hS : Hid (SumAt w g V)) :
    Calls Try.prog 75 #[.pointer (some ⟨g, 0, none⟩), .int .i64 a] w fun r w' =>
      r = .returned (.tuple #[]) ∧ SumAt w' g ((V + a) % M3) ∧ w.grownBy w' (some g) := by
  go_enter Try.func75, Try.ntmps75
  go_wp2_with fail
  refine (AddMul_any g V a 1 hV ha (by unfold I64; omega) w hS).mono ?_
  rintro e w2 ⟨rfl, h2, h3⟩
  rw [Int.mul_one] at h2
  have H2 := Lib.hid h2
  have H3 := Lib.hid h3
  clear h2 h3
  go_wp2_with fail
  go_end0
  exact ⟨rfl, H2.out, H3.out⟩

theorem total_in {V : Int} (h : -9223372036854775808 ≤ sg V ∧ sg V ≤ 9223372036854775807) : total V = (sg V, true) := by
  unfold total fits; rw [if_pos (by simp [h])]
theorem total_out {V : Int} (h : ¬ (-9223372036854775808 ≤ sg V ∧ sg V ≤ 9223372036854775807)) : total V = (0, false) := by
  unfold total fits; rw [if_neg (by simpa using h)]

set_option maxRecDepth 100000 in
set_option maxHeartbeats 1000000 in
theorem Total_any (g : Nat) (V : Int) (hV : Ok V) (w : World) (hS : Hid (SumAt w g V)) :
    Calls Try.prog 78 #[.pointer (some ⟨g, 0, none⟩)] w fun r w' =>
      r = .returned (.tuple #[.int .i64 (total V).1, .bool (total V).2]) ∧ w' = w := by
  have c0 : w.cell? ⟨g, 0, none⟩ = some (.int .u64 (w0 V)) := cells_of_blk hS.out 0 _ rfl
  have c1 : w.cell? ⟨g, 1, none⟩ = some (.int .u64 (w1 V)) := cells_of_blk hS.out 1 _ rfl
  have c2 : w.cell? ⟨g, 2, none⟩ = some (.int .u64 (w2 V)) := cells_of_blk hS.out 2 _ rfl
  obtain ⟨k0, k1, k2⟩ := w_ok hV
  have hv := w_back hV
  have hO := Lib.hid hV
  have hs : sg V = if V < 3138550867693340381917894711603833208051177722232017256448 then V else V - M3 := rfl
  obtain ⟨T, hT⟩ : ∃ T, total V = T := ⟨_, rfl⟩
  have hin := @total_in V
  have hout := @total_out V
  rw [hT] at hin hout ⊢
  obtain ⟨s, hsV⟩ : ∃ s, sg V = s := ⟨_, rfl⟩
  rw [hsV] at hs hin hout
  obtain ⟨a, hA⟩ : ∃ a, w0 V = a := ⟨_, rfl⟩
  obtain ⟨b, hB⟩ : ∃ b, w1 V = b := ⟨_, rfl⟩
  obtain ⟨c, hC⟩ : ∃ c, w2 V = c := ⟨_, rfl⟩
  rw [hA] at c0 k0 hv
  rw [hB] at c1 k1 hv
  rw [hC] at c2 k2 hv
  obtain ⟨n, hn⟩ : ∃ n, wrap64 a = n := ⟨_, rfl⟩
  have hn' : n = if a < 9223372036854775808 then a else a - 18446744073709551616 := by rw [← hn]; unfold M at k0; unfold wrap64; split <;> omega
  have hI := Lib.hid hin; have hO2 := Lib.hid hout; have hs' := Lib.hid hs; have hv' := Lib.hid hv; have hn2 := Lib.hid hn'
  have K := Lib.hid (And.intro k0 (And.intro k1 k2))
  clear hin hout hs hv hn' hT hsV hA hB hC k0 k1 k2 hV
  by_cases h0 : n < 0
  · skip
    by_cases h1 : b = 18446744073709551615
    · by_cases h2 : c = 18446744073709551615
      · skip
        have K' := K.out; have hs2 := hs'.out; have hv2 := hv'.out; have hn3 := hn2.out
        unfold M at K' hv2; unfold M3 at hs2
        have e0 : s = n := by omega
        have e1 := hI.out (by omega)
        rw [e0] at e1
        have E1 := Lib.hid e1
        subst h1
        subst h2
        clear K' hs2 hv2 hn3 e1 e0
        go_enter Try.func78, Try.ntmps78
        go_wp2
        go_ret2
        exact ⟨by rw [E1.out]; first | rfl | (rw [← hn]; rfl), rfl⟩
      · skip
        have tc : (c != 18446744073709551615) = true := by simpa using h2
        have K' := K.out; have hs2 := hs'.out; have hv2 := hv'.out; have hn3 := hn2.out
        unfold M at K' hv2; unfold M3 at hs2
        have e1 := hO2.out (by omega)
        have E1 := Lib.hid e1
        subst h1
        clear K' hs2 hv2 hn3 e1
        go_enter Try.func78, Try.ntmps78
        go_wp2
        go_ret2
        exact ⟨by rw [E1.out]; first | rfl | (rw [← hn]; rfl), rfl⟩
    · skip
      have tb : (b != 18446744073709551615) = true := by simpa using h1
      have K' := K.out; have hs2 := hs'.out; have hv2 := hv'.out; have hn3 := hn2.out
      unfold M at K' hv2; unfold M3 at hs2
      have e1 := hO2.out (by omega)
      have E1 := Lib.hid e1
      clear K' hs2 hv2 hn3 e1
      go_enter Try.func78, Try.ntmps78
      go_wp2
      go_ret2
      exact ⟨by rw [E1.out]; first | rfl | (rw [← hn]; rfl), rfl⟩
  · skip
    by_cases h1 : b = 0
    · by_cases h2 : c = 0
      · skip
        have K' := K.out; have hs2 := hs'.out; have hv2 := hv'.out; have hn3 := hn2.out
        unfold M at K' hv2; unfold M3 at hs2
        have e0 : s = n := by omega
        have e1 := hI.out (by omega)
        rw [e0] at e1
        have E1 := Lib.hid e1
        subst h1
        subst h2
        clear K' hs2 hv2 hn3 e1 e0
        go_enter Try.func78, Try.ntmps78
        go_wp2
        go_ret2
        exact ⟨by rw [E1.out]; first | rfl | (rw [← hn]; rfl), rfl⟩
      · skip
        have tc : (c != 0) = true := by simpa using h2
        have K' := K.out; have hs2 := hs'.out; have hv2 := hv'.out; have hn3 := hn2.out
        unfold M at K' hv2; unfold M3 at hs2
        have e1 := hO2.out (by omega)
        have E1 := Lib.hid e1
        subst h1
        clear K' hs2 hv2 hn3 e1
        go_enter Try.func78, Try.ntmps78
        go_wp2
        go_ret2
        exact ⟨by rw [E1.out]; first | rfl | (rw [← hn]; rfl), rfl⟩
    · skip
      have tb : (b != 0) = true := by simpa using h1
      have K' := K.out; have hs2 := hs'.out; have hv2 := hv'.out; have hn3 := hn2.out
      unfold M at K' hv2; unfold M3 at hs2
      have e1 := hO2.out (by omega)
      have E1 := Lib.hid e1
      clear K' hs2 hv2 hn3 e1
      go_enter Try.func78, Try.ntmps78
      go_wp2
      go_ret2
      exact ⟨by rw [E1.out]; first | rfl | (rw [← hn]; rfl), rfl⟩
end Go.Proofs.Ytfkfpppiikgjbaa
