/- Part 15 of what the claim rests on. -/
import Derived.Test.YtajogedbacpohaaGreatDoorB00
import Derived.Test.YtajogedbacpohaaGreatDoorB01
import Derived.Test.YtajogedbacpohaaGreatDoorB04
import Derived.Test.YtajogedbacpohaaGreatDoorB05
import Derived.Test.YtajogedbacpohaaGreatDoorB12
import Derived.Test.YtajogedbacpohaaGreatDoorB13
import Derived.BigQuiet
import Derived.Deep.QuietTactic
set_option linter.unusedVariables false
set_option linter.unusedSimpArgs false
set_option maxRecDepth 1000000
set_option maxHeartbeats 32000000
namespace Go.Proofs.YtajogedbacpohaaGreatDoor
section
open Go Go.RowKit
def tabL : List Value := [.string ⟨#[]⟩, .int .i64 0, .int .i64 0, .string ⟨#[107, 105, 110, 100, 32, 97, 116, 32, 108, 101, 97, 115, 116]⟩, .int .i64 2, .int .i64 1, .string ⟨#[107, 105, 110, 100, 32, 97, 116, 32, 109, 111, 115, 116]⟩, .int .i64 1, .int .i64 1, .string ⟨#[115, 105, 100, 101, 32, 97, 116, 32, 108, 101, 97, 115, 116]⟩, .int .i64 2, .int .i64 2, .string ⟨#[115, 105, 100, 101, 32, 97, 116, 32, 109, 111, 115, 116]⟩, .int .i64 1, .int .i64 2, .string ⟨#[113, 117, 97, 110, 116, 105, 116, 121]⟩, .int .i64 2, .int .i64 2, .string ⟨#[112, 114, 105, 99, 101]⟩, .int .i64 2, .int .i64 2, .string ⟨#[99, 97, 115, 104]⟩, .int .i64 2, .int .i64 2, .string ⟨#[108, 105, 109, 105, 116, 32, 111, 102, 32, 112, 111, 115, 105, 116, 105, 111, 110]⟩, .int .i64 2, .int .i64 2, .string ⟨#[108, 105, 109, 105, 116, 32, 111, 102, 32, 111, 114, 100, 101, 114]⟩, .int .i64 2, .int .i64 2, .string ⟨#[97, 99, 99, 111, 117, 110, 116, 32, 107, 110, 111, 119, 110]⟩, .int .i64 3, .int .i64 3, .string ⟨#[97, 99, 99, 111, 117, 110, 116, 32, 110, 101, 119]⟩, .int .i64 3, .int .i64 4, .string ⟨#[111, 114, 100, 101, 114, 32, 110, 101, 119]⟩, .int .i64 3, .int .i64 5, .string ⟨#[111, 114, 100, 101, 114, 32, 107, 110, 111, 119, 110]⟩, .int .i64 3, .int .i64 6, .string ⟨#[115, 121, 109, 98, 111, 108, 32, 112, 114, 105, 99, 101, 100]⟩, .int .i64 3, .int .i64 7, .string ⟨#[114, 111, 111, 109, 32, 111, 102, 32, 97, 99, 99, 111, 117, 110, 116, 115]⟩, .int .i64 1, .int .i64 8, .string ⟨#[114, 111, 111, 109, 32, 111, 102, 32, 111, 114, 100, 101, 114, 115]⟩, .int .i64 1, .int .i64 8, .string ⟨#[114, 111, 111, 109, 32, 111, 102, 32, 112, 114, 105, 99, 101, 115]⟩, .int .i64 1, .int .i64 8, .string ⟨#[119, 111, 114, 116, 104]⟩, .int .i64 1, .int .i64 9, .string ⟨#[114, 101, 97, 99, 104]⟩, .int .i64 1, .int .i64 10, .string ⟨#[109, 97, 114, 103, 105, 110]⟩, .int .i64 1, .int .i64 11, .string ⟨#[102, 105, 108, 108, 101, 100]⟩, .int .i64 1, .int .i64 2, .string ⟨#[99, 97, 115, 104, 32, 98, 101, 104, 105, 110, 100]⟩, .int .i64 3, .int .i64 12, .string ⟨#[112, 111, 115, 105, 116, 105, 111, 110, 32, 98, 101, 104, 105, 110, 100]⟩, .int .i64 3, .int .i64 12]
theorem tab_at : ∀ n, n < 24 → tabL[n * 3]? = some (.string ⟨(Rule.name n).toArray⟩) ∧ tabL[n * 3 + 1]? = some (.int .i64 (Rule.rel n)) ∧ tabL[n * 3 + 2]? = some (.int .i64 (Rule.code n))
 | 0, _ => ⟨rfl, rfl, rfl⟩
 | 1, _ => ⟨rfl, rfl, rfl⟩
 | 2, _ => ⟨rfl, rfl, rfl⟩
 | 3, _ => ⟨rfl, rfl, rfl⟩
 | 4, _ => ⟨rfl, rfl, rfl⟩
 | 5, _ => ⟨rfl, rfl, rfl⟩
 | 6, _ => ⟨rfl, rfl, rfl⟩
 | 7, _ => ⟨rfl, rfl, rfl⟩
 | 8, _ => ⟨rfl, rfl, rfl⟩
 | 9, _ => ⟨rfl, rfl, rfl⟩
 | 10, _ => ⟨rfl, rfl, rfl⟩
 | 11, _ => ⟨rfl, rfl, rfl⟩
 | 12, _ => ⟨rfl, rfl, rfl⟩
 | 13, _ => ⟨rfl, rfl, rfl⟩
 | 14, _ => ⟨rfl, rfl, rfl⟩
 | 15, _ => ⟨rfl, rfl, rfl⟩
 | 16, _ => ⟨rfl, rfl, rfl⟩
 | 17, _ => ⟨rfl, rfl, rfl⟩
 | 18, _ => ⟨rfl, rfl, rfl⟩
 | 19, _ => ⟨rfl, rfl, rfl⟩
 | 20, _ => ⟨rfl, rfl, rfl⟩
 | 21, _ => ⟨rfl, rfl, rfl⟩
 | 22, _ => ⟨rfl, rfl, rfl⟩
 | 23, _ => ⟨rfl, rfl, rfl⟩
 | n + 24, h => absurd h zw
theorem Table_in (n : Nat) (h0 : 0 < n) (h1 : n < 24) (w : World) : Calls Tryz.prog 109 #[.int .i64 n] w fun e w' => e = .returned (.agg #[.string ⟨(Rule.name n).toArray⟩, .int .i64 (Rule.rel n), .int .i64 (Rule.code n)]) ∧ Below w.heap.size w w' := by
 have t0 : decide ((n : Int) < 1) = false := decide_eq_false zw;have t1 : decide (23 < (n : Int)) = false := decide_eq_false zw;have hf := (tab_at n h1);generalize Rule.name n = nm at *;generalize Rule.rel n = rl at *;generalize Rule.code n = cd at *;obtain ⟨f0, f1, f2⟩ := hf;have hl0 : ([.string ⟨#[]⟩, .int .i64 0, .int .i64 0, .string ⟨#[107, 105, 110, 100, 32, 97, 116, 32, 108, 101, 97, 115, 116]⟩, .int .i64 2, .int .i64 1, .string ⟨#[107, 105, 110, 100, 32, 97, 116, 32, 109, 111, 115, 116]⟩, .int .i64 1, .int .i64 1, .string ⟨#[115, 105, 100, 101, 32, 97, 116, 32, 108, 101, 97, 115, 116]⟩, .int .i64 2, .int .i64 2, .string ⟨#[115, 105, 100, 101, 32, 97, 116, 32, 109, 111, 115, 116]⟩, .int .i64 1, .int .i64 2, .string ⟨#[113, 117, 97, 110, 116, 105, 116, 121]⟩, .int .i64 2, .int .i64 2, .string ⟨#[112, 114, 105, 99, 101]⟩, .int .i64 2, .int .i64 2, .string ⟨#[99, 97, 115, 104]⟩, .int .i64 2, .int .i64 2, .string ⟨#[108, 105, 109, 105, 116, 32, 111, 102, 32, 112, 111, 115, 105, 116, 105, 111, 110]⟩, .int .i64 2, .int .i64 2, .string ⟨#[108, 105, 109, 105, 116, 32, 111, 102, 32, 111, 114, 100, 101, 114]⟩, .int .i64 2, .int .i64 2, .string ⟨#[97, 99, 99, 111, 117, 110, 116, 32, 107, 110, 111, 119, 110]⟩, .int .i64 3, .int .i64 3, .string ⟨#[97, 99, 99, 111, 117, 110, 116, 32, 110, 101, 119]⟩, .int .i64 3, .int .i64 4, .string ⟨#[111, 114, 100, 101, 114, 32, 110, 101, 119]⟩, .int .i64 3, .int .i64 5, .string ⟨#[111, 114, 100, 101, 114, 32, 107, 110, 111, 119, 110]⟩, .int .i64 3, .int .i64 6, .string ⟨#[115, 121, 109, 98, 111, 108, 32, 112, 114, 105, 99, 101, 100]⟩, .int .i64 3, .int .i64 7, .string ⟨#[114, 111, 111, 109, 32, 111, 102, 32, 97, 99, 99, 111, 117, 110, 116, 115]⟩, .int .i64 1, .int .i64 8, .string ⟨#[114, 111, 111, 109, 32, 111, 102, 32, 111, 114, 100, 101, 114, 115]⟩, .int .i64 1, .int .i64 8, .string ⟨#[114, 111, 111, 109, 32, 111, 102, 32, 112, 114, 105, 99, 101, 115]⟩, .int .i64 1, .int .i64 8, .string ⟨#[119, 111, 114, 116, 104]⟩, .int .i64 1, .int .i64 9, .string ⟨#[114, 101, 97, 99, 104]⟩, .int .i64 1, .int .i64 10, .string ⟨#[109, 97, 114, 103, 105, 110]⟩, .int .i64 1, .int .i64 11, .string ⟨#[102, 105, 108, 108, 101, 100]⟩, .int .i64 1, .int .i64 2, .string ⟨#[99, 97, 115, 104, 32, 98, 101, 104, 105, 110, 100]⟩, .int .i64 3, .int .i64 12, .string ⟨#[112, 111, 115, 105, 116, 105, 111, 110, 32, 98, 101, 104, 105, 110, 100]⟩, .int .i64 3, .int .i64 12] : List Value)[n * 3]? = some (.string ⟨nm.toArray⟩) := f0;have hl1 : ([.string ⟨#[]⟩, .int .i64 0, .int .i64 0, .string ⟨#[107, 105, 110, 100, 32, 97, 116, 32, 108, 101, 97, 115, 116]⟩, .int .i64 2, .int .i64 1, .string ⟨#[107, 105, 110, 100, 32, 97, 116, 32, 109, 111, 115, 116]⟩, .int .i64 1, .int .i64 1, .string ⟨#[115, 105, 100, 101, 32, 97, 116, 32, 108, 101, 97, 115, 116]⟩, .int .i64 2, .int .i64 2, .string ⟨#[115, 105, 100, 101, 32, 97, 116, 32, 109, 111, 115, 116]⟩, .int .i64 1, .int .i64 2, .string ⟨#[113, 117, 97, 110, 116, 105, 116, 121]⟩, .int .i64 2, .int .i64 2, .string ⟨#[112, 114, 105, 99, 101]⟩, .int .i64 2, .int .i64 2, .string ⟨#[99, 97, 115, 104]⟩, .int .i64 2, .int .i64 2, .string ⟨#[108, 105, 109, 105, 116, 32, 111, 102, 32, 112, 111, 115, 105, 116, 105, 111, 110]⟩, .int .i64 2, .int .i64 2, .string ⟨#[108, 105, 109, 105, 116, 32, 111, 102, 32, 111, 114, 100, 101, 114]⟩, .int .i64 2, .int .i64 2, .string ⟨#[97, 99, 99, 111, 117, 110, 116, 32, 107, 110, 111, 119, 110]⟩, .int .i64 3, .int .i64 3, .string ⟨#[97, 99, 99, 111, 117, 110, 116, 32, 110, 101, 119]⟩, .int .i64 3, .int .i64 4, .string ⟨#[111, 114, 100, 101, 114, 32, 110, 101, 119]⟩, .int .i64 3, .int .i64 5, .string ⟨#[111, 114, 100, 101, 114, 32, 107, 110, 111, 119, 110]⟩, .int .i64 3, .int .i64 6, .string ⟨#[115, 121, 109, 98, 111, 108, 32, 112, 114, 105, 99, 101, 100]⟩, .int .i64 3, .int .i64 7, .string ⟨#[114, 111, 111, 109, 32, 111, 102, 32, 97, 99, 99, 111, 117, 110, 116, 115]⟩, .int .i64 1, .int .i64 8, .string ⟨#[114, 111, 111, 109, 32, 111, 102, 32, 111, 114, 100, 101, 114, 115]⟩, .int .i64 1, .int .i64 8, .string ⟨#[114, 111, 111, 109, 32, 111, 102, 32, 112, 114, 105, 99, 101, 115]⟩, .int .i64 1, .int .i64 8, .string ⟨#[119, 111, 114, 116, 104]⟩, .int .i64 1, .int .i64 9, .string ⟨#[114, 101, 97, 99, 104]⟩, .int .i64 1, .int .i64 10, .string ⟨#[109, 97, 114, 103, 105, 110]⟩, .int .i64 1, .int .i64 11, .string ⟨#[102, 105, 108, 108, 101, 100]⟩, .int .i64 1, .int .i64 2, .string ⟨#[99, 97, 115, 104, 32, 98, 101, 104, 105, 110, 100]⟩, .int .i64 3, .int .i64 12, .string ⟨#[112, 111, 115, 105, 116, 105, 111, 110, 32, 98, 101, 104, 105, 110, 100]⟩, .int .i64 3, .int .i64 12] : List Value)[n * 3 + 1]? = some (.int .i64 rl) := f1;have hl2 : ([.string ⟨#[]⟩, .int .i64 0, .int .i64 0, .string ⟨#[107, 105, 110, 100, 32, 97, 116, 32, 108, 101, 97, 115, 116]⟩, .int .i64 2, .int .i64 1, .string ⟨#[107, 105, 110, 100, 32, 97, 116, 32, 109, 111, 115, 116]⟩, .int .i64 1, .int .i64 1, .string ⟨#[115, 105, 100, 101, 32, 97, 116, 32, 108, 101, 97, 115, 116]⟩, .int .i64 2, .int .i64 2, .string ⟨#[115, 105, 100, 101, 32, 97, 116, 32, 109, 111, 115, 116]⟩, .int .i64 1, .int .i64 2, .string ⟨#[113, 117, 97, 110, 116, 105, 116, 121]⟩, .int .i64 2, .int .i64 2, .string ⟨#[112, 114, 105, 99, 101]⟩, .int .i64 2, .int .i64 2, .string ⟨#[99, 97, 115, 104]⟩, .int .i64 2, .int .i64 2, .string ⟨#[108, 105, 109, 105, 116, 32, 111, 102, 32, 112, 111, 115, 105, 116, 105, 111, 110]⟩, .int .i64 2, .int .i64 2, .string ⟨#[108, 105, 109, 105, 116, 32, 111, 102, 32, 111, 114, 100, 101, 114]⟩, .int .i64 2, .int .i64 2, .string ⟨#[97, 99, 99, 111, 117, 110, 116, 32, 107, 110, 111, 119, 110]⟩, .int .i64 3, .int .i64 3, .string ⟨#[97, 99, 99, 111, 117, 110, 116, 32, 110, 101, 119]⟩, .int .i64 3, .int .i64 4, .string ⟨#[111, 114, 100, 101, 114, 32, 110, 101, 119]⟩, .int .i64 3, .int .i64 5, .string ⟨#[111, 114, 100, 101, 114, 32, 107, 110, 111, 119, 110]⟩, .int .i64 3, .int .i64 6, .string ⟨#[115, 121, 109, 98, 111, 108, 32, 112, 114, 105, 99, 101, 100]⟩, .int .i64 3, .int .i64 7, .string ⟨#[114, 111, 111, 109, 32, 111, 102, 32, 97, 99, 99, 111, 117, 110, 116, 115]⟩, .int .i64 1, .int .i64 8, .string ⟨#[114, 111, 111, 109, 32, 111, 102, 32, 111, 114, 100, 101, 114, 115]⟩, .int .i64 1, .int .i64 8, .string ⟨#[114, 111, 111, 109, 32, 111, 102, 32, 112, 114, 105, 99, 101, 115]⟩, .int .i64 1, .int .i64 8, .string ⟨#[119, 111, 114, 116, 104]⟩, .int .i64 1, .int .i64 9, .string ⟨#[114, 101, 97, 99, 104]⟩, .int .i64 1, .int .i64 10, .string ⟨#[109, 97, 114, 103, 105, 110]⟩, .int .i64 1, .int .i64 11, .string ⟨#[102, 105, 108, 108, 101, 100]⟩, .int .i64 1, .int .i64 2, .string ⟨#[99, 97, 115, 104, 32, 98, 101, 104, 105, 110, 100]⟩, .int .i64 3, .int .i64 12, .string ⟨#[112, 111, 115, 105, 116, 105, 111, 110, 32, 98, 101, 104, 105, 110, 100]⟩, .int .i64 3, .int .i64 12] : List Value)[n * 3 + 2]? = some (.int .i64 cd) := f2;clear f0 f1 f2 h0;go_in;go_wp2_with fail;clear hl0 hl1 hl2;refine bodyPost_ret (v := .agg #[.string ⟨nm.toArray⟩, rl, cd]) ?_ rfl ⟨rfl, ((Below.refl _ w).alloc (Nat.le_refl _) _).alloc (by rw [World.size_alloc]; omega) _⟩
 rw [zz0l rfl];go_simp
theorem zt77 {p : Prop} (h : p := by
 clear h h0;go_in;go_wp2_with fail;refine bodyPost_ret (v := .agg #[.string ⟨#[]⟩, .int .i64 0, .int .i64 0]) ?_ rfl ⟨rfl, ((Below.refl _ w).alloc (Nat.le_refl _) _).alloc (by rw [World.size_alloc]; omega) _⟩
 rw [zz0l rfl];go_simp) : p := h
theorem Table_out (n : Int) (h : n < 1 ∨ 23 < n) (w : World) : Calls Tryz.prog 109 #[.int .i64 n] w fun e w' => e = .returned (.agg #[.string ⟨#[]⟩, .int .i64 0, .int .i64 0]) ∧ Below w.heap.size w w' := by
 by_cases h0 : n < 1
 ·have t0 : decide (n < 1) = true := decide_eq_true h0
  exact zt77
 ·have t0 : decide (n < 1) = false := decide_eq_false h0
  have t1 : decide (23 < n) = true := decide_eq_true zw;exact zt77
theorem zz3e (n : Int) (w : World) : Calls Tryz.prog 109 #[.int .i64 n] w fun e w' => e = .returned (.agg #[.string ⟨(Rule.name (numR n)).toArray⟩, .int .i64 (relS n), .int .i64 (codeS n)]) ∧ Below w.heap.size w w' := by
 by_cases h : 0 < n ∧ n < 24
 ·obtain ⟨m, rfl⟩ : ∃ m : Nat, n = m := ⟨n.toNat, by omega⟩
  have hn : numR (m : Int) = m := by unfold numR; rw [if_pos h]; rfl
  unfold relS codeS;rw [hn];exact Table_in m zw zw w
 ·have hn : numR n = 0 := by unfold numR; rw [if_neg h]
  unfold relS codeS;rw [hn];exact Table_out n zw w
theorem row_f1 (s : ByteArray) (a b : Int) (w : World) : (Instr.field 148 (.agg #[.string s, a, b]) 1).run Tryz.prog w = .ok (.int .i64 a) w := by kernel_rfl
theorem row_f2 (s : ByteArray) (a b : Int) (w : World) : (Instr.field 148 (.agg #[.string s, a, b]) 2).run Tryz.prog w = .ok (.int .i64 b) w := by kernel_rfl
theorem zt30 {p : Prop} (h : p := by
 clear h hnm hcd hb;go_in;go_wp2_with fail;(with_reducible refine (q.out _).mono ?_);rintro e w' ⟨rfl, hb⟩;have HB2 := zB HB hb;have c1 := zz00 (zz06 hk.out hb) 1 _ rfl;have c2 := zz00 (zz06 hk.out hb) 2 _ rfl;clear hb;go_wp2_with fail;go_ret;exact ⟨rfl, HB2.out⟩) : p := h
theorem zz9p (r a b : Int) (h : relS r = 0) (w : World) : Calls Tryz.prog 108 #[.agg #[r, a, b, .bool false]] w fun e w' => e = .returned (.bool (false)) ∧ Below w.heap.size w w' := by
 have hb := (Below.refl w.heap.size w).alloc (Nat.le_refl _) (.cells #[r, a, b, .bool false] 65);have HB := zH hb;have hk : Hid ((w.alloc (.cells #[r, a, b, .bool false] 65)).heap[w.heap.size]? = some (.cells #[r, a, b, .bool false] 65)) := zz02 _ _;obtain ⟨nm, hnm⟩ : ∃ nm, Rule.name (numR r) = nm := ⟨_, rfl⟩;obtain ⟨cd, hcd⟩ : ∃ cd, codeS r = cd := ⟨_, rfl⟩;have q : Hid (∀ w, Calls Tryz.prog 109 #[.int .i64 r] w fun e w' => e = .returned (.agg #[.string ⟨nm.toArray⟩, .int .i64 0, cd]) ∧ Below w.heap.size w w') := fun w => by
  have := zz3e r w;rw [h, hnm, hcd] at this;exact this
 have hf := row_f1 ⟨nm.toArray⟩ 0 cd;exact zt30
theorem zz9o (r a b : Int) (h : relS r = 1) (w : World) : Calls Tryz.prog 108 #[.agg #[r, a, b, .bool false]] w fun e w' => e = .returned (.bool (decide (a ≤ b))) ∧ Below w.heap.size w w' := by
 have hb := (Below.refl w.heap.size w).alloc (Nat.le_refl _) (.cells #[r, a, b, .bool false] 65);have HB := zH hb;have hk : Hid ((w.alloc (.cells #[r, a, b, .bool false] 65)).heap[w.heap.size]? = some (.cells #[r, a, b, .bool false] 65)) := zz02 _ _;obtain ⟨nm, hnm⟩ : ∃ nm, Rule.name (numR r) = nm := ⟨_, rfl⟩;obtain ⟨cd, hcd⟩ : ∃ cd, codeS r = cd := ⟨_, rfl⟩;have q : Hid (∀ w, Calls Tryz.prog 109 #[.int .i64 r] w fun e w' => e = .returned (.agg #[.string ⟨nm.toArray⟩, .int .i64 1, cd]) ∧ Below w.heap.size w w') := fun w => by
  have := zz3e r w;rw [h, hnm, hcd] at this;exact this
 have hf := row_f1 ⟨nm.toArray⟩ 1 cd;exact zt30
theorem zz9n (r a b : Int) (h : relS r = 2) (w : World) : Calls Tryz.prog 108 #[.agg #[r, a, b, .bool false]] w fun e w' => e = .returned (.bool (decide (b ≤ a))) ∧ Below w.heap.size w w' := by
 have hb := (Below.refl w.heap.size w).alloc (Nat.le_refl _) (.cells #[r, a, b, .bool false] 65);have HB := zH hb;have hk : Hid ((w.alloc (.cells #[r, a, b, .bool false] 65)).heap[w.heap.size]? = some (.cells #[r, a, b, .bool false] 65)) := zz02 _ _;obtain ⟨nm, hnm⟩ : ∃ nm, Rule.name (numR r) = nm := ⟨_, rfl⟩;obtain ⟨cd, hcd⟩ : ∃ cd, codeS r = cd := ⟨_, rfl⟩;have q : Hid (∀ w, Calls Tryz.prog 109 #[.int .i64 r] w fun e w' => e = .returned (.agg #[.string ⟨nm.toArray⟩, .int .i64 2, cd]) ∧ Below w.heap.size w w') := fun w => by
  have := zz3e r w;rw [h, hnm, hcd] at this;exact this
 have hf := row_f1 ⟨nm.toArray⟩ 2 cd;exact zt30
theorem zz9m (r a b : Int) (h : relS r = 3) (w : World) : Calls Tryz.prog 108 #[.agg #[r, a, b, .bool false]] w fun e w' => e = .returned (.bool (a == b)) ∧ Below w.heap.size w w' := by
 have hb := (Below.refl w.heap.size w).alloc (Nat.le_refl _) (.cells #[r, a, b, .bool false] 65);have HB := zH hb;have hk : Hid ((w.alloc (.cells #[r, a, b, .bool false] 65)).heap[w.heap.size]? = some (.cells #[r, a, b, .bool false] 65)) := zz02 _ _;obtain ⟨nm, hnm⟩ : ∃ nm, Rule.name (numR r) = nm := ⟨_, rfl⟩;obtain ⟨cd, hcd⟩ : ∃ cd, codeS r = cd := ⟨_, rfl⟩;have q : Hid (∀ w, Calls Tryz.prog 109 #[.int .i64 r] w fun e w' => e = .returned (.agg #[.string ⟨nm.toArray⟩, .int .i64 3, cd]) ∧ Below w.heap.size w w') := fun w => by
  have := zz3e r w;rw [h, hnm, hcd] at this;exact this
 have hf := row_f1 ⟨nm.toArray⟩ 3 cd;exact zt30
theorem zz9q (r a b : Int) (w : World) : Calls Tryz.prog 108 #[.agg #[r, a, b, .bool true]] w fun e w' => e = .returned (.bool false) ∧ Below w.heap.size w w' := by
 have hb := (Below.refl w.heap.size w).alloc (Nat.le_refl _) (.cells #[r, a, b, .bool true] 65);have HB := zH hb;clear hb;go_in;go_wp2_with fail;go_ret;exact ⟨rfl, HB.out⟩
theorem zz6z (s : Stp) (w : World) : Calls Tryz.prog 108 #[s.val] w fun e w' => e = .returned (.bool s.holds) ∧ Below w.heap.size w w' := by
 obtain ⟨r, a, b, o⟩ := s;cases o with
 | true => exact zz9q r a b w
 | false =>
  have hl := relS_lt r;have h4 : relS r = 0 ∨ relS r = 1 ∨ relS r = 2 ∨ relS r = 3 := by omega
  rcases h4 with h | h | h | h
  ·have := zz9p r a b h w
   rw [show (Stp.mk r a b false).holds = (false) by show (true && Rule.is (relS r) a b) = _; rw [h]; rfl]
   exact this
  ·have := zz9o r a b h w
   rw [show (Stp.mk r a b false).holds = (decide (a ≤ b)) by show (true && Rule.is (relS r) a b) = _; rw [h]; rfl]
   exact this
  ·have := zz9n r a b h w
   rw [show (Stp.mk r a b false).holds = (decide (b ≤ a)) by show (true && Rule.is (relS r) a b) = _; rw [h]; rfl]
   exact this
  ·have := zz9m r a b h w
   rw [show (Stp.mk r a b false).holds = (a == b) by show (true && Rule.is (relS r) a b) = _; rw [h]; rfl]
   exact this
theorem rHolds_ag (r a b : Int) (o : Bool) (w : World) : Calls Tryz.prog 108 #[.agg #[r, a, b, .bool o]] w fun e w' => e = .returned (.bool (Stp.mk r a b o).holds) ∧ Below w.heap.size w w' := zz6z ⟨r, a, b, o⟩ w
theorem zt79 {p : Prop} (h : p := by
 cases f with
 | true =>
  have h : bitI true = 1 := rfl;rw [h];go_in;go_wp2_with fail;go_ret;exact ⟨rfl, rfl⟩
 | false =>
  have h : bitI false = 0 := rfl;rw [h];go_in;go_wp2_with fail;go_ret;exact ⟨rfl, rfl⟩) : p := h
theorem zz2v (f : Bool) (w : World) : Calls Tryz.prog 100 #[.bool f] w fun e w' => e = .returned (.int .i64 (bitI f)) ∧ w' = w := by
 exact zt79
theorem zz2y (f : Bool) (w : World) : Calls Tryz.prog 73 #[.bool f] w fun e w' => e = .returned (.int .i64 (bitI f)) ∧ w' = w := by
 exact zt79
def LkAt (w : World) (B : Nat) (v : Value) (pre : List Stp) : Prop := ∃ vs, v = .agg #[vs, .bool (!pre.all (·.holds))] ∧ StepsOwn w B vs (cutL pre)
theorem LkAt.nil (w : World) (B : Nat) : LkAt w B (.agg #[.slice none 0 0, .bool false]) [] := ⟨_, rfl, StepsOwn.nil w B⟩
theorem LkAt.kept {w w' : World} {B : Nat} {v : Value} {pre : List Stp} (h : LkAt w B v pre) (hb : Below w.heap.size w w') : LkAt w' B v pre := by
 obtain ⟨vs, rfl, h⟩ := h;exact ⟨vs, rfl, h.kept hb⟩
theorem zz67 (pre : List Stp) (s : Stp) : (pre ++ [s]).all (·.holds) = (pre.all (·.holds) && s.holds) := by simp
theorem zt67 {p : Prop} (h : p := by
 have HB2 : Below w.heap.size w ((w.alloc (.cells #[.slice A k c, .bool true] 138)).alloc (.cells #[.slice A k c, .bool true] 138)) := zz01 zBa (by simp) _
 refine bodyPost_ret (v := .agg #[.slice A k c, .bool true]) ?_ rfl ⟨_, rfl, hfin.out _ (ho.out.kept HB2), HB2⟩;rw [zz0l rfl];go_simp) : p := h
theorem zzap (B : Nat) (vs : Value) (pre : List Stp) (n a b : Int) (w : World) (hall : Hid (pre.all (·.holds) = false)) (ho : Hid (StepsOwn w B vs (cutL pre))) :
  Calls Tryz.prog 99 #[.agg #[vs, .bool true], .int .i64 n, .int .i64 a, .int .i64 b] w fun e w' => ∃ v', e = .returned v' ∧ LkAt w' B v' (pre ++ [sS n a b]) ∧ Below w.heap.size w w' := by
 have hc : cutL (pre ++ [sS n a b]) = cutL pre := by rw [zz42, hall.out]; rfl
 have hfin : Hid (∀ w', StepsOwn w' B vs (cutL pre) → LkAt w' B (.agg #[vs, .bool true]) (pre ++ [sS n a b])) := (show _ from fun w' h => ⟨_, by rw [zz67, hall.out]; rfl, by rw [hc]; exact h⟩)
 clear hc hall;obtain ⟨A, c, rfl⟩ := ho.out.form;obtain ⟨k, hk⟩ : ∃ k, (cutL pre).length = k := ⟨_, rfl⟩;rw [hk] at ho hfin ⊢;clear hk;obtain ⟨w1, hw1⟩ : ∃ w1, (w.alloc (.cells #[.slice A k c, .bool true] 138)).alloc (.cells #[.slice none 0 0, .bool false] 138) = w1 := ⟨_, rfl⟩;have HB1 : Hid (Below w.heap.size w w1) := by rw [← hw1]; exact zz01 zBa (by simp) _
 have K1 : ZB w1 w.heap.size #[.slice A k c, .bool true] 138 := by rw [← hw1]; exact zz05 (zz02 _ _) _
 have e0 := zC K1.out;rw [← hw1] at e0;replace hw1 := zH hw1;go_in;go_wp2_with fail;clear e0 hw1 HB1 K1;exact zt67
theorem zzao (W : World) (B : Nat) (vs : Value) (pre : List Stp) (n a b : Int) (hs : Hid ((sS n a b).fit)) (w : World) (hall : Hid (pre.all (·.holds) = true)) (ho : Hid (StepsOwn w B vs (cutL pre))) (hb : Hid (Below B W w)) (hB : Hid (B ≤ w.heap.size)) (hl : Hid (pre.length ≤ 100)) :
  Calls Tryz.prog 99 #[.agg #[vs, .bool false], .int .i64 n, .int .i64 a, .int .i64 b] w fun e w' => ∃ v', e = .returned v' ∧ LkAt w' B v' (pre ++ [sS n a b]) ∧ Below B W w' ∧ Off w w' := by
 have hc : cutL (pre ++ [sS n a b]) = cutL pre ++ [sS n a b] := by rw [zz42, hall.out]; rfl
 have hfin : Hid (∀ w' v', StepsOwn w' B v' (cutL pre ++ [sS n a b]) → LkAt w' B (.agg #[v', .bool (!(sS n a b).holds)]) (pre ++ [sS n a b])) := (show _ from fun w' v' h => ⟨_, by rw [zz67, hall.out, Bool.true_and], by rw [hc]; exact h⟩)
 have hlc : (cutL pre).length + 1 ≤ 4000000 := by have := hl.out; have := zz64 pre; omega
 clear hc hall hl;obtain ⟨H, hH⟩ : ∃ H, (sS n a b).holds = H := ⟨_, rfl⟩;have qH := zH (fun wz => rHolds_ag n a b false wz)
 have hH' : (Stp.mk n a b false).holds = H := hH;rw [hH'] at qH;rw [hH] at hfin;clear hH hH';obtain ⟨A, c, hA⟩ := ho.out.form;obtain ⟨k, hk⟩ : ∃ k, (cutL pre).length = k := ⟨_, rfl⟩;rw [hk] at hA;subst hA;have HK := zH hk;have HLC := zH hlc;clear hk hlc;obtain ⟨w1, hw1⟩ : ∃ w1, ((w.alloc (.cells #[.slice A k c, .bool false] 138)).alloc (.cells #[.slice none 0 0, .bool false] 138)).alloc (.cells #[n, a, b, .bool false] 65) = w1 := ⟨_, rfl⟩;have HB1 : Hid (Below w.heap.size w w1) := by rw [← hw1]; exact zz01 (zz01 zBa (by simp) _) zo _
 have K1 : ZB w1 w.heap.size #[.slice A k c, .bool false] 138 := by rw [← hw1]; exact zz05 (zz05 (zz02 _ _) _) _
 have R1 : ZB w1 (w.heap.size + 1) #[.slice none 0 0, .bool false] 138 := by rw [← hw1]; exact zz05 (zz0c _ _ _ (by simp)) _
 have S1 : ZB w1 (w.heap.size + 2) #[n, a, b, .bool false] 65 := by rw [← hw1]; exact zz0c _ _ _ (by simp)
 have O1 : Hid (StepsOwn w1 B (.slice A k c) (cutL pre)) := ho.out.kept HB1.out;have HBW : Hid (Below B W w1) := hb.out.trans (HB1.out.mono hB.out);have hB1 : Hid (B ≤ w1.heap.size) := Nat.le_trans hB.out HB1.out.size;replace hw1 := zH hw1;go_in;go_wp2_with fail;rw [hw1.out];refine zz07 [9] (fun wz => ZB wz w.heap.size #[.slice A k c, .bool false] 138 ∧ ZB wz (w.heap.size + 2) #[n, a, b, .bool false] 65) 10 (zb 10 0) zk zk zk ?_
 obtain ⟨wd, hwd⟩ : ∃ wd : World, { w1 with drawn := w1.drawn + 1 } = wd := ⟨_, rfl⟩
 rw [hwd];replace K1 : ZB wd w.heap.size #[.slice A k c, .bool false] 138 := by rw [← hwd]; exact K1.out
 replace R1 : ZB wd (w.heap.size + 1) #[.slice none 0 0, .bool false] 138 := by rw [← hwd]; exact R1.out
 replace S1 : ZB wd (w.heap.size + 2) #[n, a, b, .bool false] 65 := by rw [← hwd]; exact S1.out
 replace O1 : Hid (StepsOwn wd B (.slice A k c) (cutL pre)) := by rw [← hwd]; exact O1.out
 replace HBW : Hid (Below B W wd) := by rw [← hwd]; exact HBW.out.drew
 replace HB1 : Hid (Below w.heap.size w wd) := by rw [← hwd]; exact HB1.out.drew
 replace hB1 : Hid (B ≤ wd.heap.size) := by rw [← hwd]; exact hB1.out
 have HC : ZB wd w.heap.size #[.slice A k c, .bool false] 138 ∧ ZB wd (w.heap.size + 2) #[n, a, b, .bool false] 65 := ⟨K1, S1⟩;clear hwd hw1;refine zM [0, 1, 2, 5] 6 HC ?_;simp only [opsAt, zA];refine zp ?_;refine zq (fun wz hC => zC hC.1.out) ?_
 refine zq (fun wz hC => zC hC.2.out) ?_
 refine zq (fun wz hC => zC hC.2.out) ?_
 unfold wpPure;go_simp;refine zW 3 ?_;go_wp2_with fail;refine zQs (fun _ => ⟨zz05 K1.out _, zz05 S1.out _⟩) ?_
 refine zW 4 ?_;have hFit : Stp.fit ⟨n, a, b, false⟩ := hs.out;refine zz12 (W := W) (B := B) _ _ 34 zz93 ⟨n, a, b, false⟩ (.slice A k c) (cutL pre) HBW.out O1 hB1.out rfl rfl rfl rfl rfl hFit HLC.out ?_;intro v2 w2 ho2 hb2 hB2 hoff hoth;have hne : (Value.slice A k c).ownBlock ≠ some (w.heap.size + 2) := fun h => by
  have := (ho.out.1.lt _ h).2;omega
 have K2 := zH (hoff.out.blk _ _ _ _ K1.out zx zx);have R2 := zH (hoff.out.blk _ _ _ _ R1.out zx zx);have S2 := zH (hoth.out _ _ hne S1.out);have HO2 : Hid (Off w w2) := (Off.of HB1.out).trans hoff.out;clear hoth hoff hne HC;go_wp2_with fail;refine zQs (fun _ => ⟨K2, S2⟩) ?_
 refine zW 6 ?_;go_wp2_with fail;(with_reducible refine (qH.out _).mono ?_);rintro e w3 ⟨rfl, hb⟩;have K3 := zK K2 hb;have R3 := zK R2 hb;have S3 := zK S2 hb;have HO3 : Hid (Off w w3) := HO2.out.trans (Off.of hb);have O3 := zH (ho2.out.kept hb);have HB3 : Hid (Below B W w3) := hb2.out.trans (hb.mono hB2);clear hb;go_wp2_with fail;refine zQs (fun _ => ⟨K3, S3⟩) ?_
 refine zM [7, 8] 1 ⟨K3, S3⟩ ?_;simp only [opsAt, zA];obtain ⟨A2, c2, hA2⟩ := ho2.out.form;obtain ⟨k2, hk2⟩ : ∃ k2, (cutL pre ++ [(⟨n, a, b, false⟩ : Stp)]).length = k2 := ⟨_, rfl⟩;rw [hk2] at hA2;subst hA2;clear hk2
 iterate 2 refine zp ?_
 unfold wpPure;go_simp;refine zW 9 ?_;have f0 := zz04 R3.out 0;have f1 := zz04 R3.out 1;have d0 := zC R3.out;go_wp2_with fail;refine zQs (fun h => absurd h zx) ?_
 refine zQe ?_;clear f0 f1 d0;obtain ⟨vN, hvN⟩ : ∃ vN : Value, (.slice A2 k2 c2) = vN := ⟨_, rfl⟩;rw [hvN] at O3 ⊢;obtain ⟨w4, hw4⟩ : ∃ w4, (w3.setCell ⟨w.heap.size + 1, 0, none⟩ vN).setCell ⟨w.heap.size + 1, 1, none⟩ (.bool !H) = w4 := ⟨_, rfl⟩;have R4 : ZB w4 (w.heap.size + 1) #[vN, .bool !H] 138 := by rw [← hw4]; exact zz0b (zz0b R3.out 0 _) 1 _
 have O4 : Hid (StepsOwn w4 B vN (cutL pre ++ [(⟨n, a, b, false⟩ : Stp)])) := by rw [← hw4]; exact (O3.out.setOther R3.out zx 0 _).setOther (zz0b R3.out 0 _) zx 1 _
 have hge : B ≤ w.heap.size + 1 := Nat.le_succ_of_le hB.out;have HB4 : Hid (Below B W w4) := by rw [← hw4]; exact (HB3.out.setCell (p := ⟨w.heap.size + 1, 0, none⟩) hge _).setCell (p := ⟨w.heap.size + 1, 1, none⟩) hge _
 have HO4 : Hid (Off w w4) := by rw [← hw4]; exact HO3.out.fresh2 (Nat.le_succ _) _ _ _ _
 rw [hw4];clear hw4;go_wp2_with fail;refine bodyPost_ret (v := .agg #[vN, .bool !H]) ?_ rfl ⟨_, rfl, hfin.out _ _ O4.out, HB4.out, HO4.out⟩;exact zz3l rfl _ _ (w.heap.size + 1) _ _ _ rfl R4.out Tryz.underlying138 rfl zk
theorem Off.freshC {w : World} {g : Nat} (hg : w.heap.size ≤ g) : ∀ {w' : World}, Off w w' → ∀ (o : Nat) (us : List Value), Off w (putC w' g o us)
 | w', h, o, [] => h
 | w', h, o, u :: us => by
  show Off w (putC (w'.setCell ⟨g, o, none⟩ u) g (o + 1) us);exact Off.freshC hg (h.fresh hg o u) (o + 1) us
theorem RowOwn.setO {w : World} {B : Nat} {e : TypeId} {v : Value} {k : Nat} {l : List (List Int)} (h : RowOwn w B e v k l) {g : Nat} {cs : Array Value} {t : TypeId} {fr : Nat × Nat} (hg : w.heap[g]? = some (.cells cs t fr)) (hne : e ≠ t) (i : Nat) (u : Value) : RowOwn (w.setCell ⟨g, i, none⟩ u) B e v k l := by
 obtain ⟨⟨hl, ho⟩, hk⟩ := h;refine ⟨⟨hl, ?_⟩, hk⟩;rcases ho with h | ⟨g', cap, cur, h1, h2, h3, h4⟩
 ·exact .inl h
 ·refine .inr ⟨g', cap, cur, h1, h2, zz09 h3 i u (fun e' => ?_), h4⟩
  subst e';rw [hg] at h3;injection h3 with h3
  injection h3 with _ h3 _
  exact hne h3.symm
theorem BkOwn.setO {w : World} {B : Nat} {v : Value} {b : Bk} (h : BkOwn w B v b) {g : Nat} {cs : Array Value} {fr : Nat × Nat} (hg : w.heap[g]? = some (.cells cs 27 fr)) (i : Nat) (u : Value) : BkOwn (w.setCell ⟨g, i, none⟩ u) B v b := by
 obtain ⟨vh, vs, vo, vr, rfl, h1, h2, h3, h4⟩ := h;exact ⟨vh, vs, vo, vr, rfl, h1.setO hg zx i u, h2.setO hg zx i u, h3.setO hg zx i u, h4.setO hg zx i u⟩
theorem BkOwn.put {g B : Nat} {v : Value} {b : Bk} {fr : Nat × Nat} : ∀ {w : World} {cs : Array Value}, BkOwn w B v b → w.heap[g]? = some (.cells cs 27 fr) → ∀ (o : Nat) (us : List Value), BkOwn (putC w g o us) B v b
 | w, cs, h, hg, o, [] => h
 | w, cs, h, hg, o, u :: us => by
  show BkOwn (putC (w.setCell ⟨g, o, none⟩ u) g (o + 1) us) B v b;exact BkOwn.put (h.setO hg o u) (zz0b hg o u) (o + 1) us
theorem BkOwn.low {g B : Nat} {v : Value} {b : Bk} (hlt : g < B) : ∀ {w : World}, BkOwn w B v b → ∀ (o : Nat) (us : List Value), BkOwn (putC w g o us) B v b
 | w, h, o, [] => h
 | w, h, o, u :: us => by
  show BkOwn (putC (w.setCell ⟨g, o, none⟩ u) g (o + 1) us) B v b;exact BkOwn.low hlt (BkOwn.setBelow (a := ⟨g, o, none⟩) h hlt u) (o + 1) us
def BkEi (w : World) (u v : Value) (b b' : Bk) : Prop := (v = u ∧ b' = b) ∨ BkOwn w 0 v b'
theorem BkEi.same (w : World) (u : Value) (b : Bk) : BkEi w u u b b := Or.inl ⟨rfl, rfl⟩
theorem BkEi.own {w : World} {u v : Value} {b b' : Bk} (h : BkOwn w 0 v b') : BkEi w u v b b' := Or.inr h
theorem LookIs.form {I : List Stp → World → Prop} {W : World} {f : Value} {s : Stp} (h : LookIs I W f s) : ∃ K caps, f = .func (.func K) #[] caps := by
 obtain ⟨K, caps, h1, _⟩ := h;exact ⟨K, caps, h1⟩
theorem zz1y {fn : Func} {t u v : Tmp} (h : fn.results = #[.tmp t, .tmp u, .tmp v]) (tmps : Array Value) (P : Program) (w : World) :
  (results fn tmps).run P w = .ok (.tuple #[tmps.getD t undef, tmps.getD u undef, tmps.getD v undef]) w := by
 simp [results, h, go_sem]
theorem gfit (n a b : Int) (hn : 0 ≤ n ∧ n ≤ 100) (ha : I64 a) (hb : I64 b) : Hid ((sS n a b).fit) := (show (sS n a b).fit from ⟨by show I64 n; unfold I64; omega, ha, hb⟩)
theorem zz0k {n : Int} (h : -1000 ≤ n ∧ n ≤ 1000) : I64 n := by unfold I64; omega
theorem zz1p (f : Bool) : I64 (bitI f) := by cases f <;> (unfold bitI I64; simp)
theorem zz5d {n : Nat} (h : n ≤ 1000000) : I64 (n : Int) := by unfold I64; omega
theorem Ev.I64s.all {e : Ev} (h : e.I64s) : I64 e.kind ∧ I64 e.acc ∧ I64 e.ord ∧ I64 e.sym ∧ I64 e.side ∧ I64 e.qty ∧ I64 e.px := h
theorem Ev.I64s.kind {e : Ev} (h : e.I64s) : I64 e.kind := h.all.1
theorem Ev.I64s.acc {e : Ev} (h : e.I64s) : I64 e.acc := h.all.2.1
theorem Ev.I64s.ord {e : Ev} (h : e.I64s) : I64 e.ord := h.all.2.2.1
theorem Ev.I64s.sym {e : Ev} (h : e.I64s) : I64 e.sym := h.all.2.2.2.1
theorem Ev.I64s.side {e : Ev} (h : e.I64s) : I64 e.side := h.all.2.2.2.2.1
theorem Ev.I64s.qty {e : Ev} (h : e.I64s) : I64 e.qty := h.all.2.2.2.2.2.1
theorem Ev.I64s.px {e : Ev} (h : e.I64s) : I64 e.px := h.all.2.2.2.2.2.2
end
section
open Go Go.RowKit Mon Bg
theorem mul_fits {a b : Int} (ha : I64 a) (hb : I64 b) : total ((a * b) % M3) = mulP a b := by
 unfold mulP;refine zz27 ?_;have h1 : (a * b).natAbs ≤ 9223372036854775808 * 9223372036854775808 := by
  rw [Int.natAbs_mul];exact Nat.mul_le_mul (by unfold I64 at ha; omega) (by unfold I64 at hb; omega)
 omega
theorem zz1d (X : Int) : I64 (fitsP X).1 := by
 by_cases h : -9223372036854775808 ≤ X ∧ X ≤ 9223372036854775807
 ·rw [zz92 h]; unfold I64; simp only []; omega
 ·rw [zz61 h]; unfold I64; simp
theorem zz6w (b : Bk) (acc sym side qty : Int) : I64 (reachR b acc sym side qty).1 := by
 unfold reachR
 split
 ·unfold I64; simp
 ·exact zz1d _
theorem zz8r (X rate : Int) : I64 (needR X rate).1 := by
 unfold needR
 split
 ·unfold I64; simp
 ·exact zz1d _
theorem zt99 {p : Prop} (h : p := by
 go_wp2_with fail;go_quiet (fail);go_wp2_with fail;refine bodyPost_ret (zz1y rfl _ _ _) rfl ?_;exact ⟨rfl, zz0d HB.out _⟩) : p := h
theorem order1_on (w0 : World) (g : Nat) (vh vs vo vr : Value) (b : Bk) (e : Ev) (rate : Int) (hE : Hid e.I64s) (h0 h1 h2 h3 : Int) (W : World) (p1 p2 : Nat) (hp1 : ZB W p1 #[e.kind, e.acc, e.ord, e.sym, e.side, e.qty, e.px] 29) (hp2 : ZB W p2 #[h0, h1, h2, h3] 78) :
  SideOn (Gt w0 g vh vs vo vr b e rate) W (.func (.func 78) #[] #[.pointer (some ⟨p1, 0, none⟩), .pointer (some ⟨p2, 0, none⟩)]) (mulP e.qty e.px).1 h3 (mulP e.qty e.px).2 := by
 refine ⟨_, _, rfl, fun args w => enters_of Tryz.func78 zk rfl _ w, fun w l hI hW => ?_⟩
 have K1 : ZB w p1 #[e.kind, e.acc, e.ord, e.sym, e.side, e.qty, e.px] 29 := hW.blk _ _ _ _ hp1.out zx zx;have K2 : ZB w p2 #[h0, h1, h2, h3] 78 := hW.blk _ _ _ _ hp2.out zx zx;clear hp1 hp2 hI hW;have q := zH (fun wz => Mul_any e.qty e.px hE.out.qty hE.out.px wz)
 rw [mul_fits hE.out.qty hE.out.px] at q;obtain ⟨M, hM⟩ : ∃ M, mulP e.qty e.px = M := ⟨_, rfl⟩;rw [hM] at q ⊢;clear hM;have c5 := zC K1.out;go_in;go_wp2_with fail;(with_reducible refine (q.out _).mono ?_);rintro r w1 ⟨rfl, hb⟩;replace K2 := zK K2 hb;have HB := zH hb;clear hb c5;have lt2 := zL K2.out;have c3 := zz00 K2.out 3 _ rfl;exact zt99
theorem order2_on (w0 : World) (g : Nat) (vh vs vo vr : Value) (b : Bk) (e : Ev) (rate : Int) (B0 : Hid (BkAt w0 (.agg #[vh, vs, vo, vr, b.n]) b)) (hs : Hid b.Small) (hi : Hid b.I64s) (hm : Hid (b.mayB = true)) (hE : Hid e.I64s) (h0 h1 h2 h3 : Int) (W : World) (p1 p2 p3 : Nat) (hp1 : ZB W p1 #[.pointer (some ⟨g, 0, none⟩)] 66) (hp2 : ZB W p2 #[e.kind, e.acc, e.ord, e.sym, e.side, e.qty, e.px] 29) (hp3 : ZB W p3 #[h0, h1, h2, h3] 78) :
  SideOn (Gt w0 g vh vs vo vr b e rate) W (.func (.func 80) #[] #[.pointer (some ⟨p1, 0, none⟩), .pointer (some ⟨p2, 0, none⟩), .pointer (some ⟨p3, 0, none⟩)]) (reachR b e.acc e.sym e.side e.qty).1 h2 (reachR b e.acc e.sym e.side e.qty).2 := by
 refine ⟨_, _, rfl, fun args w => enters_of Tryz.func80 zk rfl _ w, fun w l hI hW => ?_⟩
 have K1 : ZB w p1 #[.pointer (some ⟨g, 0, none⟩)] 66 := hW.blk _ _ _ _ hp1.out zx zx;have K2 : ZB w p2 #[e.kind, e.acc, e.ord, e.sym, e.side, e.qty, e.px] 29 := hW.blk _ _ _ _ hp2.out zx zx;have K3 : ZB w p3 #[h0, h1, h2, h3] 78 := hW.blk _ _ _ _ hp3.out zx zx;clear hp1 hp2 hp3;obtain ⟨_, _, _, _, hv, r1, r2, r3, r4⟩ := B0.out;injection hv with hv
 simp only [Array.mk.injEq, List.cons.injEq, and_true] at hv;obtain ⟨rfl, rfl, rfl, rfl, _⟩ := hv;obtain ⟨Ah, ch, rfl, _⟩ := r1;obtain ⟨As, cs, rfl, _⟩ := r2;obtain ⟨Ao, co, rfl, _⟩ := r3;obtain ⟨Ar, cr, rfl, _⟩ := r4;have HI := zH hI;have HB : Hid (Below w.heap.size w w) := Below.refl _ _;have KG := zH (HI.out.blk.imp fun _ h => h.1)
 clear hI hW;have q := zH (fun u wz hv => Reach_any u b e.acc e.sym e.side e.qty wz hv hs hi (zH hE.out.qty))
 have hRP : reachP b e.acc e.sym e.side e.qty = reachR b e.acc e.sym e.side e.qty := by unfold reachP; rw [hm.out]; rfl
 rw [hRP] at q;obtain ⟨M, hM⟩ : ∃ M, reachR b e.acc e.sym e.side e.qty = M := ⟨_, rfl⟩;rw [hM] at q ⊢;clear hM hRP;go_in;go_wp2_with fail;refine zz07 [] (fun wz : World => ZB wz p1 #[.pointer (some ⟨g, 0, none⟩)] 66 ∧ ZB wz p2 #[e.kind, e.acc, e.ord, e.sym, e.side, e.qty, e.px] 29 ∧ zG wz g Ah ch As cs Ao co Ar cr b e rate) 18 (zb 18 0) zk zk zk ?_
 obtain ⟨wd1, hwd1⟩ : ∃ wd1 : World, { w with drawn := w.drawn + 1 } = wd1 := ⟨_, rfl⟩
 rw [hwd1];have hbwd1 : Below w.heap.size w wd1 := by rw [← hwd1]; exact (Below.refl _ _).drew
 replace KG := zKx KG hbwd1;replace K1 := zK K1 hbwd1;replace K2 := zK K2 hbwd1;replace K3 := zK K3 hbwd1;replace HI := zH (HI.out.kept hbwd1);replace HB := zB HB hbwd1;clear hwd1 hbwd1;refine zM [0, 1, 2, 3, 4, 5, 6, 7, 8, 9, 10, 11] 6 ⟨K1, K2, KG⟩ ?_;simp only [opsAt, zA];refine zq (fun wz hC => zC hC.1.out) ?_
 iterate 2 refine zp ?_
 refine zr (fun wz hC => hC.2.2.out) ?_
 refine zp ?_;refine zq (fun wz hC => zC hC.2.1.out) ?_
 refine zp ?_;refine zq (fun wz hC => zC hC.2.1.out) ?_
 refine zp ?_;refine zq (fun wz hC => zC hC.2.1.out) ?_
 refine zp ?_;refine zq (fun wz hC => zC hC.2.1.out) ?_
 unfold wpPure;go_simp;refine zW 12 ?_;go_wp2_with fail;(with_reducible refine (q.out _ _ (zH (B0.out.call HI.out.below))).mono ?_);rintro e wc2 ⟨rfl, hb⟩;replace KG := zKx KG hb;replace K1 := zK K1 hb;replace K2 := zK K2 hb;replace K3 := zK K3 hb;replace HI := zH (HI.out.kept hb);replace HB := zB HB hb;clear hb;go_wp2_with fail;refine zQs (fun _ => ⟨K1, K2, KG⟩) ?_
 refine zM [13, 14, 15, 16, 17] 0 ⟨K1, K2, KG⟩ ?_;simp only [opsAt, zA]
 iterate 5 refine zp ?_
 unfold wpPure;go_simp;refine zQe ?_;have c_h_0 := zC K3.out;have lt2 := zL K3.out;exact zt99
theorem order3_on (w0 : World) (g : Nat) (vh vs vo vr : Value) (b : Bk) (e : Ev) (rate : Int) (B0 : Hid (BkAt w0 (.agg #[vh, vs, vo, vr, b.n]) b)) (hs : Hid b.Small) (hi : Hid b.I64s) (hm : Hid (b.mayB = true)) (hE : Hid e.I64s) (W : World) (p1 p2 : Nat) (hp1 : ZB W p1 #[.pointer (some ⟨g, 0, none⟩)] 66) (hp2 : ZB W p2 #[e.kind, e.acc, e.ord, e.sym, e.side, e.qty, e.px] 29) :
  SideOn (Gt w0 g vh vs vo vr b e rate) W (.func (.func 82) #[] #[.pointer (some ⟨p1, 0, none⟩), .pointer (some ⟨p2, 0, none⟩)]) (needE b e rate).1 (eqR b e.acc).1 ((needE b e rate).2 && (eqR b e.acc).2) := by
 refine ⟨_, _, rfl, fun args w => enters_of Tryz.func82 zk rfl _ w, fun w l hI hW => ?_⟩
 have K1 : ZB w p1 #[.pointer (some ⟨g, 0, none⟩)] 66 := hW.blk _ _ _ _ hp1.out zx zx;have K2 : ZB w p2 #[e.kind, e.acc, e.ord, e.sym, e.side, e.qty, e.px] 29 := hW.blk _ _ _ _ hp2.out zx zx;clear hp1 hp2;obtain ⟨_, _, _, _, hv, r1, r2, r3, r4⟩ := B0.out;injection hv with hv
 simp only [Array.mk.injEq, List.cons.injEq, and_true] at hv;obtain ⟨rfl, rfl, rfl, rfl, _⟩ := hv;obtain ⟨Ah, ch, rfl, _⟩ := r1;obtain ⟨As, cs, rfl, _⟩ := r2;obtain ⟨Ao, co, rfl, _⟩ := r3;obtain ⟨Ar, cr, rfl, _⟩ := r4;have HI := zH hI;have HB : Hid (Below w.heap.size w w) := Below.refl _ _;have KG := zH (HI.out.blk.imp fun _ h => h.1)
 clear hI hW;have q := zH (fun u wz hv => Need_any u b e.acc e.qty e.px rate wz hv hs hi (zH hE.out.qty) (zH hE.out.px))
 have q2 := zH (fun u wz hv => zzc9 u b e.acc wz hv hs hi)
 have hRP : needP b e.acc e.qty e.px rate = needE b e rate := by unfold needP needE; rw [hm.out]; rfl
 have hRQ : eqP b e.acc = eqR b e.acc := by unfold eqP eqR; rw [hm.out]; rfl
 rw [hRP] at q;rw [hRQ] at q2;obtain ⟨M, hM⟩ : ∃ M, needE b e rate = M := ⟨_, rfl⟩;obtain ⟨N, hN⟩ : ∃ N, eqR b e.acc = N := ⟨_, rfl⟩;rw [hM] at q ⊢;rw [hN] at q2 ⊢;clear hM hRP hN hRQ;obtain ⟨M1, M2⟩ := M;obtain ⟨N1, N2⟩ := N;go_in;go_wp2_with fail;refine zz07 [] (fun wz : World => ZB wz p1 #[.pointer (some ⟨g, 0, none⟩)] 66 ∧ ZB wz p2 #[e.kind, e.acc, e.ord, e.sym, e.side, e.qty, e.px] 29 ∧ zG wz g Ah ch As cs Ao co Ar cr b e rate) 20 (zb 20 0) zk zk zk ?_
 obtain ⟨wd1, hwd1⟩ : ∃ wd1 : World, { w with drawn := w.drawn + 1 } = wd1 := ⟨_, rfl⟩
 rw [hwd1];have hbwd1 : Below w.heap.size w wd1 := by rw [← hwd1]; exact (Below.refl _ _).drew
 replace KG := zKx KG hbwd1;replace K1 := zK K1 hbwd1;replace K2 := zK K2 hbwd1;replace HI := zH (HI.out.kept hbwd1);replace HB := zB HB hbwd1;clear hwd1 hbwd1;refine zM [0, 1, 2, 3, 4, 5, 6, 7, 8, 9, 10, 11, 12, 13] 6 ⟨K1, K2, KG⟩ ?_;simp only [opsAt, zA];refine zq (fun wz hC => zC hC.1.out) ?_
 iterate 2 refine zp ?_
 refine zr (fun wz hC => hC.2.2.out) ?_
 refine zp ?_;refine zq (fun wz hC => zC hC.2.1.out) ?_
 refine zp ?_;refine zq (fun wz hC => zC hC.2.1.out) ?_
 refine zp ?_;refine zq (fun wz hC => zC hC.2.1.out) ?_
 refine zq (fun wz hC => zC hC.1.out) ?_
 iterate 2 refine zp ?_
 refine zr (fun wz hC => hC.2.2.out) ?_
 unfold wpPure;go_simp;refine zW 14 ?_;go_wp2_with fail;(with_reducible refine (q.out _ _ (zH (B0.out.call HI.out.below))).mono ?_);rintro e wc2 ⟨rfl, hb⟩;replace KG := zKx KG hb;replace K1 := zK K1 hb;replace K2 := zK K2 hb;replace HI := zH (HI.out.kept hb);replace HB := zB HB hb;clear hb;go_wp2_with fail;refine zQs (fun _ => ⟨K1, K2, KG⟩) ?_
 refine zM [15, 16, 17, 18, 19] 0 ⟨K1, K2, KG⟩ ?_;simp only [opsAt, zA]
 iterate 5 refine zp ?_
 unfold wpPure;go_simp;refine zQe ?_;go_wp2_with fail;refine zz07 [] (fun wz : World => ZB wz p1 #[.pointer (some ⟨g, 0, none⟩)] 66 ∧ ZB wz p2 #[e.kind, e.acc, e.ord, e.sym, e.side, e.qty, e.px] 29 ∧ zG wz g Ah ch As cs Ao co Ar cr b e rate) 12 (zb 12 0) zk zk zk ?_
 obtain ⟨wd3, hwd3⟩ : ∃ wd3 : World, { wc2 with drawn := wc2.drawn + 1 } = wd3 := ⟨_, rfl⟩
 rw [hwd3];have hbwd3 : Below wc2.heap.size wc2 wd3 := by rw [← hwd3]; exact (Below.refl _ _).drew
 replace KG := zKx KG hbwd3;replace K1 := zK K1 hbwd3;replace K2 := zK K2 hbwd3;replace HI := zH (HI.out.kept hbwd3);replace HB := zB HB hbwd3;clear hwd3 hbwd3;refine zM [0, 1, 2, 3, 4, 5] 6 ⟨K1, K2, KG⟩ ?_;simp only [opsAt, zA];refine zq (fun wz hC => zC hC.1.out) ?_
 iterate 2 refine zp ?_
 refine zr (fun wz hC => hC.2.2.out) ?_
 refine zp ?_;refine zq (fun wz hC => zC hC.2.1.out) ?_
 unfold wpPure;go_simp;refine zW 6 ?_;go_wp2_with fail;(with_reducible refine (q2.out _ _ (zH (B0.out.call HI.out.below))).mono ?_);rintro e wc4 ⟨rfl, hb⟩;replace KG := zKx KG hb;replace K1 := zK K1 hb;replace K2 := zK K2 hb;replace HI := zH (HI.out.kept hb);replace HB := zB HB hb;clear hb;go_wp2_with fail;refine zQs (fun _ => ⟨K1, K2, KG⟩) ?_
 refine zM [7, 8, 9, 10, 11] 0 ⟨K1, K2, KG⟩ ?_;simp only [opsAt, zA]
 iterate 5 refine zp ?_
 unfold wpPure;go_simp;refine zQe ?_;cases M2 with
 | true =>
  go_wp2_with fail;refine bodyPost_ret (zz1y rfl _ _ _) rfl ?_;exact ⟨rfl, HB.out⟩
 | false =>
  go_wp2_with fail;refine bodyPost_ret (zz1y rfl _ _ _) rfl ?_;exact ⟨rfl, HB.out⟩
theorem zt54 {p : Prop} (h : p := by
 have K1 : ZB w p1 #[c] 2 := hW.blk _ _ _ _ hp1.out zx zx;have K2 : ZB w p2 #[.bool x] 4 := hW.blk _ _ _ _ hp2.out zx zx;clear hp1 hp2 hI hW;have c1 := zz00 K1.out 0 _ rfl;have c2 := zz00 K2.out 0 _ rfl;have lt1 := zL K1.out;have lt2 := zL K2.out;go_in;go_wp2_with fail;go_quiet (fail);go_wp2_with fail;refine bodyPost_ret (zz1y rfl _ _ _) rfl ?_;exact ⟨rfl, zz0d (Below.refl _ _) _⟩) : p := h
theorem fill1_on (w0 : World) (g : Nat) (vh vs vo vr : Value) (b : Bk) (e : Ev) (rate : Int) (c : Int) (x : Bool) (W : World) (p1 p2 : Nat) (hp1 : ZB W p1 #[c] 2) (hp2 : ZB W p2 #[.bool x] 4) :
  SideOn (Gt w0 g vh vs vo vr b e rate) W (.func (.func 87) #[] #[.pointer (some ⟨p1, 0, none⟩), .pointer (some ⟨p2, 0, none⟩)]) c c x := by
 refine ⟨_, _, rfl, fun args w => enters_of Tryz.func87 zk rfl _ w, fun w l hI hW => ?_⟩
 exact zt54
theorem fill2_on (w0 : World) (g : Nat) (vh vs vo vr : Value) (b : Bk) (e : Ev) (rate : Int) (c : Int) (x : Bool) (W : World) (p1 p2 : Nat) (hp1 : ZB W p1 #[c] 2) (hp2 : ZB W p2 #[.bool x] 4) :
  SideOn (Gt w0 g vh vs vo vr b e rate) W (.func (.func 88) #[] #[.pointer (some ⟨p1, 0, none⟩), .pointer (some ⟨p2, 0, none⟩)]) c c x := by
 refine ⟨_, _, rfl, fun args w => enters_of Tryz.func88 zk rfl _ w, fun w l hI hW => ?_⟩
 exact zt54
end
section
open Go Go.RowKit
theorem zt98 {p : Prop} (h : p := by
 obtain ⟨k, hk⟩ := List.getElem?_of_mem hm;rw [List.getElem?_take] at hk
 split at hk
 ·rename_i hkp; exact (hlt k r hk).2 hkp
 ·cases hk) : p := h
theorem zz5m (id : Int) (x : List Int) (out : Bool) {l : List (List Int)} (hr : riseH l) (hx : x.headD 0 = id) : riseH (setH id x out l) := by
 obtain ⟨p, hp, hlt, _⟩ := placeH id hr;have e := zz33 id x out hr hp hlt;obtain ⟨F, hF, e⟩ : ∃ F : Bool, (∀ r, l[p]? = some r → F = decide (r.headD 0 = id)) ∧ setH id x out l = l.take p ++ ((if out then [] else [x]) ++ l.drop (if F then p + 1 else p)) := ⟨_, fun r hr => by rw [hr], e⟩
 rw [e];have h1 : ∀ r ∈ l.take p, r.headD 0 < id := fun r hm => by
  exact zt98
 obtain ⟨q, hq⟩ : ∃ q, (if F then p + 1 else p) = q := ⟨_, rfl⟩
 have h2 : ∀ r ∈ l.drop q, id < r.headD 0 := fun r hm => by
  obtain ⟨k, hk⟩ := List.getElem?_of_mem hm;rw [List.getElem?_drop] at hk;have hkl := (List.getElem?_eq_some_iff.1 hk).1;have hqp : p ≤ q := by rw [← hq]; cases F <;> simp
  have hpl : p < l.length := by omega
  have hge : ¬ l[p].headD 0 < id := fun h => by have := (hlt p _ (List.getElem?_eq_getElem hpl)).1 h; omega
  by_cases he : q + k = p
  ·rw [he] at hk
   have hne : q = p := by omega
   have hFr := hF r hk;have hr' : l[p] = r := by rw [List.getElem?_eq_getElem hpl] at hk; injection hk
   rw [hr'] at hge;by_cases hid : r.headD 0 = id
   ·exfalso
    rw [decide_eq_true hid] at hFr;subst hFr;simp only [if_true] at hq;omega
   ·omega
  ·have h3 := (List.pairwise_iff_getElem.1 hr) p (q + k) hpl hkl zw
   have hr' : l[q + k] = r := by rw [List.getElem?_eq_getElem hkl] at hk; injection hk
   rw [hr'] at h3;omega
 rw [hq];unfold riseH at *;rw [List.pairwise_append];refine ⟨hr.sublist (List.take_sublist _ _), ?_, ?_⟩
 ·cases out with
  | true => exact hr.sublist (List.drop_sublist _ _)
  | false => exact List.pairwise_cons.2 ⟨fun r hm => by have := h2 r hm; omega, hr.sublist (List.drop_sublist _ _)⟩
 ·intro a ha b hb
  have ha' := h1 a ha;rcases List.mem_append.1 hb with hb | hb
  ·cases out with
   | true => simp at hb
   | false => simp at hb; subst hb; omega
  ·have := h2 b hb; omega
theorem setS_rise (kx ky : Int) (x : List Int) (out : Bool) {l : List (List Int)} (hr : riseS l) (hx : x.headD 0 = kx) (hy : x.tail.headD 0 = ky) : riseS (setS kx ky x out l) := by
 obtain ⟨p, hp, hlt, _⟩ := placeS kx ky hr;have e := zz6t kx ky x out hr hp hlt;obtain ⟨F, hF, e⟩ : ∃ F : Bool, (∀ r, l[p]? = some r → F = decide (r.headD 0 = kx ∧ r.tail.headD 0 = ky)) ∧ setS kx ky x out l = l.take p ++ ((if out then [] else [x]) ++ l.drop (if F then p + 1 else p)) := ⟨_, fun r hr => by rw [hr], e⟩
 rw [e];have h1 : ∀ r ∈ l.take p, stLt r kx ky := fun r hm => by
  exact zt98
 obtain ⟨q, hq⟩ : ∃ q, (if F then p + 1 else p) = q := ⟨_, rfl⟩
 have h2 : ∀ r ∈ l.drop q, kx < r.headD 0 ∨ kx = r.headD 0 ∧ ky < r.tail.headD 0 := fun r hm => by
  obtain ⟨k, hk⟩ := List.getElem?_of_mem hm;rw [List.getElem?_drop] at hk;have hkl := (List.getElem?_eq_some_iff.1 hk).1;have hqp : p ≤ q := by rw [← hq]; cases F <;> simp
  have hpl : p < l.length := by omega
  have hge : ¬ stLt l[p] kx ky := fun h => by have := (hlt p _ (List.getElem?_eq_getElem hpl)).1 h; omega
  by_cases he : q + k = p
  ·rw [he] at hk
   have hne : q = p := by omega
   have hFr := hF r hk;have hr' : l[p] = r := by rw [List.getElem?_eq_getElem hpl] at hk; injection hk
   rw [hr'] at hge;by_cases hid : r.headD 0 = kx ∧ r.tail.headD 0 = ky
   ·exfalso
    rw [decide_eq_true hid] at hFr;subst hFr;simp only [if_true] at hq;omega
   ·unfold stLt at hge; omega
  ·have h3 := (List.pairwise_iff_getElem.1 hr) p (q + k) hpl hkl zw
   have hr' : l[q + k] = r := by rw [List.getElem?_eq_getElem hkl] at hk; injection hk
   rw [hr'] at h3;unfold stLt at h3 hge;omega
 rw [hq];unfold riseS at *;rw [List.pairwise_append];refine ⟨hr.sublist (List.take_sublist _ _), ?_, ?_⟩
 ·cases out with
  | true => exact hr.sublist (List.drop_sublist _ _)
  | false => exact List.pairwise_cons.2 ⟨fun r hm => by have := h2 r hm; unfold stLt; omega, hr.sublist (List.drop_sublist _ _)⟩
 ·intro a ha b hb
  have ha' := h1 a ha;rcases List.mem_append.1 hb with hb | hb
  ·cases out with
   | true => simp at hb
   | false => simp only [Bool.false_eq_true, if_false, List.mem_singleton] at hb; subst hb; rw [hx, hy]; exact ha'
  ·have := h2 b hb; unfold stLt at ha' ⊢; omega
end
section
open Go Go.RowKit Mon
theorem zzal {ge ne : List Int → Bool} {x : List Int} (p : List Int → Bool) : ∀ (d : Bool) (l : List (List Int)), (setK ge ne x d l).any p = ((!d && p x) || l.any (fun r => ne r && p r))
 | d, [] => by cases d <;> simp [setK]
 | d, r :: t => by
  have e1 : ∀ (c : Bool) (y : List Int), (if c then [y] else []).any p = (c && p y) := by intro c y; cases c <;> simp
  rw [setK, List.any_append, List.any_append, zzal p (d || ge r) t, List.any_cons, e1, e1]
  generalize p x = X;generalize p r = Y;generalize t.any (fun r => ne r && p r) = Z
  generalize ge r = G;generalize ne r = N;cases d <;> cases G <;> cases N <;> cases X <;> cases Y <;> cases Z <;> rfl
theorem zz2k {ge ne : List Int → Bool} {x : List Int} : ∀ (d : Bool) (l : List (List Int)), (setK ge ne x d l).length = (if d then 0 else 1) + (l.filter ne).length
 | d, [] => by cases d <;> simp [setK]
 | d, r :: t => by
  rw [setK, List.length_append, List.length_append, zz2k (d || ge r) t, List.filter_cons]
  cases d <;> cases ge r <;> cases ne r <;> simp <;> omega
theorem zz47 {ge ne : List Int → Bool} {x : List Int} : ∀ (l : List (List Int)), setK ge ne x true l = l.filter ne
 | [] => rfl
 | r :: t => by
  rw [setK, show (true || ge r) = true from rfl, zz47 t, List.filter_cons]
  cases ne r <;> simp
theorem zz2t {ge ne : List Int → Bool} {x r : List Int} : ∀ {d : Bool} {l : List (List Int)}, r ∈ setK ge ne x d l → r = x ∨ r ∈ l
 | d, [], h => by cases d <;> simp [setK] at h; exact .inl h
 | d, a :: t, h => by
  rw [setK] at h;rcases List.mem_append.1 h with h | h
  ·split at h <;> simp at h
   exact .inl h
  rcases List.mem_append.1 h with h | h
  ·split at h <;> simp at h
   exact .inr (by simp [h])
  ·rcases zz2t h with h | h
   ·exact .inl h
   ·exact .inr (by simp [h])
def hasId (l : List (List Int)) (id : Int) : Bool := (l.find? (isId id)).isSome
theorem zz40 (l : List (List Int)) (id : Int) : hasId l id = l.any (isId id) := by
 unfold hasId;rw [List.isSome_find?]
theorem zzb8 {k : Int} {r : List Int} (h : r.headD 0 = k) : isId k r = true := decide_eq_true h
theorem zzb9 {k : Int} {r : List Int} (h : ¬ r.headD 0 = k) : isId k r = false := decide_eq_false h
theorem isId_both {k id : Int} (hk : ¬ k = id) : (fun r => !isId id r && isId k r) = isId k := by
 funext r
 by_cases h : r.headD 0 = k
 ·rw [zzb8 h, zzb9 (by rw [h]; exact hk)]; rfl
 ·rw [zzb9 h]; simp
theorem zz5v {id : Int} {x : List Int} (hx : x.headD 0 = id) (l : List (List Int)) (k : Int) : hasId (setH id x false l) k = (decide (k = id) || hasId l k) := by
 rw [zz40, zz40, setH, zzal];by_cases hk : k = id
 ·subst hk
  rw [zzb8 hx];simp
 ·rw [zzb9 (show ¬ x.headD 0 = k from by rw [hx]; exact fun e => hk e.symm), isId_both hk]
  simp [hk]
theorem zz4i {p : List Int → Bool} {l : List (List Int)} (h : l.any p = false) : ∀ r ∈ l, p r = false := by
 intro r hr;have := List.any_eq_false.1 h r hr;simpa using this
theorem zz66 {p : List Int → Bool} {l : List (List Int)} (h : ∀ r ∈ l, p r = false) : l.any p = false := by
 rw [List.any_eq_false];intro r hr;simp [h r hr]
theorem zzbk {id : Int} {l : List (List Int)} (h : hasId l id = false) : l.filter (fun r => !isId id r) = l := by
 rw [zz40] at h;rw [List.filter_eq_self];intro r hr;simp [zz4i h r hr]
theorem zz7p {id : Int} {x : List Int} {l : List (List Int)} (h : hasId l id = false) : (setH id x false l).length = l.length + 1 := by
 rw [setH, zz2k, zzbk h];simp; omega
theorem zz48 {id : Int} {x : List Int} {d : Bool} {l : List (List Int)} (h : hasId l id = true) : (setH id x d l).length ≤ l.length := by
 rw [setH, zz2k];rw [zz40, List.any_eq_true] at h;obtain ⟨r, hr, hi⟩ := h;have : (l.filter (fun r => !isId id r)).length < l.length := by
  rw [← Nat.not_le];intro hle;have he := List.filter_eq_self.1 ((List.filter_sublist).eq_of_length_le hle) r hr;rw [hi] at he;simp at he
 split <;> omega
structure Bk.Fine (b : Bk) : Prop where
 lh : b.h.length ≤ 32
 lo : b.o.length ≤ 64
 lr : b.r.length ≤ 32
 rise : b.Rise
 n0 : 0 ≤ b.n
 n1 : b.n ≤ 1099511627776
 h : ∀ r ∈ b.h, badH r = false
 r : ∀ r ∈ b.r, badR r = false
 s : ∀ r ∈ b.s, badS b r = false
 o : ∀ r ∈ b.o, badO b r = false
theorem Bk.mayB_iff (b : Bk) : b.mayB = true ↔ b.Fine := by
 unfold Bk.mayB Bk.listsB Bk.countB;simp only [Bool.and_eq_true, Bool.not_eq_true', decide_eq_false_iff_not, Bk.riseB_iff];constructor
 ·rintro ⟨⟨h1, h2, h3, h4⟩, ⟨h5, h6⟩, h7, h8, h9, h10⟩
  exact ⟨by omega, by omega, by omega, h4, by omega, by omega, zz4i h7, zz4i h8, zz4i h9, zz4i h10⟩
 ·intro h
  exact ⟨⟨by have := h.lh; omega, by have := h.lo; omega, by have := h.lr; omega, h.rise⟩, ⟨by have := h.n0; omega, by have := h.n1; omega⟩, zz66 h.h, zz66 h.r, zz66 h.s, zz66 h.o⟩
theorem zz2j (b : Bk) (acc sym : Int) : thereB b acc sym = (hasId b.h acc && hasId b.r sym) := rfl
theorem zz96 {b c : Bk} (h : ∀ a s, thereB b a s = true → thereB c a s = true) {r : List Int} (hr : badS b r = false) : badS c r = false := by
 unfold badS at hr ⊢;simp only [Bool.or_eq_false_iff, Bool.not_eq_false'] at hr ⊢;exact ⟨hr.1, h _ _ hr.2⟩
theorem zz97 {b c : Bk} (h : ∀ a s, thereB b a s = true → thereB c a s = true) {r : List Int} (hr : badO b r = false) : badO c r = false := by
 unfold badO at hr ⊢;simp only [Bool.or_eq_false_iff, Bool.not_eq_false'] at hr ⊢;exact ⟨hr.1, hr.2.1, hr.2.2.1, hr.2.2.2.1, h _ _ hr.2.2.2.2⟩
theorem Fine.setHolder {b : Bk} (hb : b.Fine) {id x1 x2 x3 : Int} (h2 : 0 ≤ x2) (h3 : 0 ≤ x3) (hl : (setH id [id, x1, x2, x3] false b.h).length ≤ 32) : ({ b with h := setH id [id, x1, x2, x3] false b.h } : Bk).Fine := by
 have hm : ∀ a s, thereB b a s = true → thereB { b with h := setH id [id, x1, x2, x3] false b.h } a s = true := by
  intro a s h;rw [zz2j] at h ⊢;rw [Bool.and_eq_true] at h ⊢;refine ⟨?_, h.2⟩;show hasId (setH id [id, x1, x2, x3] false b.h) a = true;rw [zz5v (id := id) (x := [id, x1, x2, x3]) rfl, h.1];simp
 refine ⟨hl, hb.lo, hb.lr, ⟨zz5m _ _ _ hb.rise.1 rfl, hb.rise.2⟩, hb.n0, hb.n1, ?_, hb.r, fun r hr => zz96 hm (hb.s r hr), fun r hr => zz97 hm (hb.o r hr)⟩
 intro r hr;rcases zz2t hr with rfl | hr
 ·simp [badH]; omega
 ·exact hb.h r hr
theorem Fine.setRate {b : Bk} (hb : b.Fine) {id x1 : Int} (h1 : 1 ≤ x1) (hl : (setH id [id, x1] false b.r).length ≤ 32) : ({ b with r := setH id [id, x1] false b.r } : Bk).Fine := by
 have hm : ∀ a s, thereB b a s = true → thereB { b with r := setH id [id, x1] false b.r } a s = true := by
  intro a s h;rw [zz2j] at h ⊢;rw [Bool.and_eq_true] at h ⊢;refine ⟨h.1, ?_⟩;show hasId (setH id [id, x1] false b.r) s = true;rw [zz5v (id := id) (x := [id, x1]) rfl, h.2];simp
 refine ⟨hb.lh, hb.lo, hl, ⟨hb.rise.1, hb.rise.2.1, zz5m _ _ _ hb.rise.2.2.1 rfl, hb.rise.2.2.2⟩, hb.n0, hb.n1, hb.h, ?_, fun r hr => zz96 hm (hb.s r hr), fun r hr => zz97 hm (hb.o r hr)⟩
 intro r hr;rcases zz2t hr with rfl | hr
 ·simp [badR]; omega
 ·exact hb.r r hr
theorem Fine.setOpen {b : Bk} (hb : b.Fine) {id : Int} {x : List Int} {d : Bool} (hx : x.headD 0 = id) (h : d = false → badO b x = false) (hl : (setH id x d b.o).length ≤ 64) : ({ b with o := setH id x d b.o } : Bk).Fine := by
 refine ⟨hb.lh, hl, hb.lr, ⟨hb.rise.1, zz5m _ _ _ hb.rise.2.1 hx, hb.rise.2.2⟩, hb.n0, hb.n1, hb.h, hb.r, hb.s, ?_⟩;intro r hr;show badO b r = false;cases d with
 | false =>
  rcases zz2t hr with rfl | hr
  ·exact h rfl
  ·exact hb.o r hr
 | true =>
  have hr' : r ∈ setH id x true b.o := hr;rw [setH, zz47] at hr';exact hb.o r ((List.mem_filter.1 hr').1)
theorem Fine.setStake {b : Bk} (hb : b.Fine) {a s q : Int} (ht : thereB b a s = true) : ({ b with s := setS a s [a, s, q] (q == 0) b.s } : Bk).Fine := by
 refine ⟨hb.lh, hb.lo, hb.lr, ⟨hb.rise.1, hb.rise.2.1, hb.rise.2.2.1, setS_rise _ _ _ _ hb.rise.2.2.2 rfl rfl⟩, hb.n0, hb.n1, hb.h, hb.r, ?_, hb.o⟩;intro r hr;show badS b r = false;by_cases hq : q = 0
 ·have hr' : r ∈ setS a s [a, s, q] (q == 0) b.s := hr
  rw [show (q == 0) = true by simp [hq], setS, zz47] at hr'
  exact hb.s r ((List.mem_filter.1 hr').1)
 ·rcases zz2t hr with rfl | hr
  ·simp [badS, hq]; exact ht
  ·exact hb.s r hr
theorem hold1 {n a b : Int} (h : relS n = 1) : (sS n a b).holds = decide (a ≤ b) := by unfold Stp.holds sS; simp only []; rw [h]; rfl
theorem hold2 {n a b : Int} (h : relS n = 2) : (sS n a b).holds = decide (b ≤ a) := by unfold Stp.holds sS; simp only []; rw [h]; rfl
theorem hold3 {n a b : Int} (h : relS n = 3) : (sS n a b).holds = decide (a = b) := by
 unfold Stp.holds sS; simp only []; rw [h];show (!false && (a == b)) = _;simp
 rfl
theorem holdO {n a b : Int} {f : Bool} : (oS n a b f).holds = (f && (sS n a b).holds) := by cases f <;> rfl
theorem zz65 (b : Bool) : (bitI b = 1) ↔ b = true := by cases b <;> simp [bitI]
theorem zz94 (b : Bool) : (bitI b = 0) ↔ b = false := by cases b <;> simp [bitI]
theorem rels : relS 1 = 2 ∧ relS 2 = 1 ∧ relS 3 = 2 ∧ relS 4 = 1 ∧ relS 5 = 2 ∧ relS 6 = 2 ∧ relS 7 = 2 ∧ relS 8 = 2 ∧ relS 9 = 2 ∧ relS 10 = 3 ∧ relS 11 = 3 ∧ relS 12 = 3 ∧ relS 13 = 3 ∧ relS 14 = 3 ∧ relS 15 = 1 ∧ relS 16 = 1 ∧ relS 17 = 1 ∧ relS 18 = 1 ∧ relS 19 = 1 ∧ relS 20 = 1 ∧ relS 21 = 1 ∧ relS 22 = 3 ∧ relS 23 = 3 := by decide
theorem zz8v (e : Ev) : (headS e).all (·.holds) = true ↔ 1 ≤ e.kind ∧ e.kind ≤ 7 := by
 obtain ⟨r1, r2, _⟩ := rels;simp [headS, hold2 r1, hold1 r2]
theorem accS_iff (b : Bk) (e : Ev) : (accS b e).all (·.holds) = true ↔ 0 ≤ e.qty ∧ hasH b e.acc = false ∧ b.h.length ≤ 31 := by
 obtain ⟨_, _, _, _, _, _, r7, _, _, _, r11, _, _, _, r15, _⟩ := rels;simp [accS, hold2 r7, hold3 r11, hold1 r15, zz94];omega
theorem limS_iff (b : Bk) (e : Ev) : (limS b e).all (·.holds) = true ↔ hasH b e.acc = true ∧ 0 ≤ e.qty ∧ 0 ≤ e.px := by
 obtain ⟨_, _, _, _, _, _, _, r8, r9, r10, _⟩ := rels;simp [limS, hold2 r8, hold2 r9, hold3 r10, zz65]
theorem quoS_iff (b : Bk) (e : Ev) : (quoS b e).all (·.holds) = true ↔ 1 ≤ e.px ∧ (hasR b e.sym = false → b.r.length ≤ 31) := by
 obtain ⟨_, _, _, _, _, r6, _, _, _, _, _, _, _, _, _, _, r17, _⟩ := rels;unfold quoS;cases h : hasR b e.sym
 ·simp [hold2 r6, hold1 r17]; omega
 ·simp [hold2 r6]
theorem zzbu (b : Bk) (e : Ev) : (canS b e).all (·.holds) = true ↔ hasO b e.ord = true := by
 obtain ⟨_, _, _, _, _, _, _, _, _, _, _, _, r13, _⟩ := rels;simp [canS, hold3 r13, zz65]
theorem ordS_iff (b : Bk) (e : Ev) (rate : Int) : (ordS b e rate).all (·.holds) = true → 0 ≤ e.side ∧ e.side ≤ 1 ∧ 1 ≤ e.qty ∧ 1 ≤ e.px ∧ hasH b e.acc = true ∧ hasO b e.ord = false ∧ hasR b e.sym = true ∧ b.o.length ≤ 63 ∧ (needE b e rate).2 = true := by
 obtain ⟨_, _, r3, r4, r5, r6, _, _, _, r10, _, r12, _, r14, _, r16, _⟩ := rels;simp only [ordS, List.all_cons, List.all_nil, Bool.and_true, Bool.and_eq_true, hold2 r3, hold1 r4, hold2 r5, hold2 r6, hold3 r10, hold3 r12, hold3 r14, hold1 r16, zz65, zz94, decide_eq_true_eq, holdO];rintro ⟨h1, h2, h3, h4, h5, h6, h7, h8, _, _, ⟨h9, _⟩, _⟩;exact ⟨h1, h2, h3, h4, h5, h6, h7, by omega, h9⟩
theorem zz41 (b : Bk) (e : Ev) : (fillS b e).all (·.holds) = true → hasO b e.ord = true ∧ 1 ≤ e.qty ∧ 1 ≤ e.px ∧ e.qty ≤ (recO b e.ord).getD 4 0 := by
 obtain ⟨_, _, _, _, r5, r6, _, _, _, _, _, _, r13, _, _, _, _, _, _, _, r21, _⟩ := rels;simp only [fillS, List.all_cons, List.all_nil, Bool.and_true, Bool.and_eq_true, hold2 r5, hold2 r6, hold3 r13, hold1 r21, zz65, decide_eq_true_eq];rintro ⟨h1, h2, h3, h4, _⟩;exact ⟨h1, h2, h3, h4⟩
theorem zz7t {b : Bk} {ord : Int} (h : hasO b ord = true) : recO b ord ∈ b.o ∧ (recO b ord).headD 0 = ord := by
 unfold hasO at h;unfold recO;cases hf : b.o.find? (isId ord) with
 | none => rw [hf] at h; cases h
 | some r =>
  have h1 : isId ord r = true := List.find?_some hf;exact ⟨List.mem_of_find?_eq_some hf, of_decide_eq_true h1⟩
theorem zzau {b : Bk} {acc : Int} (h : hasH b acc = true) : recH b acc ∈ b.h ∧ (recH b acc).headD 0 = acc := by
 unfold hasH at h;unfold recH;cases hf : b.h.find? (isId acc) with
 | none => rw [hf] at h; cases h
 | some r =>
  have h1 : isId acc r = true := List.find?_some hf;exact ⟨List.mem_of_find?_eq_some hf, of_decide_eq_true h1⟩
theorem getD0 (r : List Int) : r.getD 0 0 = r.headD 0 := by cases r <;> rfl
theorem fill_fine {b : Bk} (hb : b.Fine) {o h : List Int} {c s qty : Int} (ho : o ∈ b.o) (hl6 : o.length = 6) (h1 : 1 ≤ qty) (h2 : qty ≤ o.getD 4 0) (hh : h ∈ b.h) (hk : h.headD 0 = o.getD 1 0) (hO : hasId b.o (o.getD 0 0) = true) : (fillX b o h c s qty).Fine := by
 have hbad := hb.o o ho;have hbh := hb.h h hh;unfold badO at hbad;simp only [Bool.or_eq_false_iff, Bool.not_eq_false', decide_eq_false_iff_not] at hbad;obtain ⟨_, p5, p3, p31, pt⟩ := hbad;unfold badH at hbh;simp only [Bool.or_eq_false_iff, decide_eq_false_iff_not] at hbh;have pt' := pt;rw [zz2j, Bool.and_eq_true] at pt';have f1 := Fine.setHolder hb (id := h.getD 0 0) (x1 := c) (x2 := h.getD 2 0) (x3 := h.getD 3 0) zw zw (Nat.le_trans (zz48 (by rw [getD0, hk]; exact pt'.1)) hb.lh)
 have t1 : thereB { b with h := setH (h.getD 0 0) [h.getD 0 0, c, h.getD 2 0, h.getD 3 0] false b.h } (o.getD 1 0) (o.getD 2 0) = true := by
  rw [zz2j, Bool.and_eq_true];refine ⟨?_, pt'.2⟩;show hasId (setH (h.getD 0 0) [h.getD 0 0, c, h.getD 2 0, h.getD 3 0] false b.h) (o.getD 1 0) = true;rw [zz5v (id := h.getD 0 0) (x := [h.getD 0 0, c, h.getD 2 0, h.getD 3 0]) rfl, pt'.1];simp
 have f2 := Fine.setStake f1 (q := s) t1;have f3 := Fine.setOpen f2 (id := o.getD 0 0) (x := [o.getD 0 0, o.getD 1 0, o.getD 2 0, o.getD 3 0, o.getD 4 0 - qty, o.getD 5 0]) (d := (o.getD 4 0 - qty == 0)) rfl
  (fun hd => by
   have hd' : o.getD 4 0 - qty ≠ 0 := by simpa using hd
   unfold badO;simp only [List.getD_cons_zero, List.getD_cons_succ, Bool.or_eq_false_iff, Bool.not_eq_false', decide_eq_false_iff_not];exact ⟨by omega, p5, p3, p31, t1⟩)
  (Nat.le_trans (zz48 hO) hb.lo)
 exact f3
theorem zz8q {b : Bk} (hb : b.Fine) (h6 : ∀ r ∈ b.o, r.length = 6) (e : Ev) (rate : Int) (ha : (allS b e rate).all (·.holds) = true) : (newB b e).Fine := by
 unfold allS at ha;rw [List.all_append, Bool.and_eq_true] at ha;obtain ⟨_, hk⟩ := ha;unfold newB;unfold kindS at hk;by_cases h1 : e.kind = 1
 ·rw [if_pos h1] at hk ⊢
  obtain ⟨k1, k2, k3⟩ := (accS_iff b e).1 hk;exact Fine.setHolder hb (by unfold maxI; omega) (by unfold maxI; omega) (by rw [zz7p k2]; omega)
 rw [if_neg h1] at hk ⊢;by_cases h2 : e.kind = 2
 ·rw [if_pos h2] at hk ⊢
  obtain ⟨k1, k2, k3⟩ := (limS_iff b e).1 hk;have hid := (zzau k1).2;exact Fine.setHolder hb k2 k3 (Nat.le_trans (zz48 (by rw [getD0, hid]; exact k1)) hb.lh)
 rw [if_neg h2] at hk ⊢;by_cases h3 : e.kind = 3
 ·rw [if_pos h3] at hk ⊢
  obtain ⟨k1, k2⟩ := (quoS_iff b e).1 hk;refine Fine.setRate hb k1 ?_;cases hr : hasR b e.sym with
  | true => exact Nat.le_trans (zz48 hr) hb.lr
  | false => have := k2 hr; rw [zz7p hr]; omega
 rw [if_neg h3] at hk ⊢;by_cases h4 : e.kind = 4
 ·rw [if_pos h4] at hk ⊢
  obtain ⟨k1, k2, k3, k4, k5, k6, k7, k8, _⟩ := ordS_iff b e rate hk;have hq : (e.qty == 0) = false := by simp; omega
  unfold ordB;rw [hq];refine Fine.setOpen hb rfl (fun _ => ?_) (by rw [zz7p k6]; omega)
  unfold badO;simp only [List.getD_cons_zero, List.getD_cons_succ, Bool.or_eq_false_iff, Bool.not_eq_false', decide_eq_false_iff_not];exact ⟨by omega, by omega, by omega, by omega, by rw [zz2j, Bool.and_eq_true]; exact ⟨k5, k7⟩⟩
 rw [if_neg h4] at hk ⊢;by_cases h5 : e.kind = 5
 ·rw [if_pos h5] at hk ⊢
  obtain ⟨k1, k2, k3, k4⟩ := zz41 b e hk;obtain ⟨m1, m2⟩ := zz7t k1;have hbad := hb.o _ m1;unfold badO at hbad;simp only [Bool.or_eq_false_iff, Bool.not_eq_false', decide_eq_false_iff_not] at hbad;have ht := hbad.2.2.2.2;rw [zz2j, Bool.and_eq_true] at ht;obtain ⟨g1, g2⟩ := zzau (b := b) (acc := (recO b e.ord).getD 1 0) ht.1;exact fill_fine hb m1 (h6 _ m1) k2 k4 g1 g2 (by rw [getD0, m2]; exact k1)
 rw [if_neg h5] at hk ⊢;by_cases h6' : e.kind = 6
 ·rw [if_pos h6'] at hk ⊢
  have k1 := (zzbu b e).1 hk;exact Fine.setOpen hb rfl (fun h => by cases h) (Nat.le_trans (zz48 k1) hb.lo)
 rw [if_neg h6'];exact hb
theorem gateB_may {b : Bk} (hb : b.mayB = true) (h6 : ∀ r ∈ b.o, r.length = 6) (hn : b.n ≠ 1099511627776) (e : Ev) (rate : Int) : (gateB b e rate).mayB = true := by
 rw [Bk.mayB_iff] at hb ⊢;have hd : (doneB b e rate).Fine := by
  unfold doneB
  split
  ·exact zz8q hb h6 e rate ‹_›
  ·exact hb
 have n1 := hb.n1;have n0 := hb.n0;exact ⟨hd.lh, hd.lo, hd.lr, hd.rise, by show 0 ≤ b.n + 1; omega, by show b.n + 1 ≤ _; omega, hd.h, hd.r, hd.s, hd.o⟩
end
section
open Go Go.RowKit Mon Bg
theorem zz3c (b : Bk) (acc sym side qty px : Int) : I64 (afterR b acc sym side qty px).1.1 ∧ I64 (afterR b acc sym side qty px).2.1 := by
 unfold afterR
 split
 ·unfold I64; simp
 ·exact ⟨zz1d _, zz1d _⟩
theorem zzaj {ge ne : List Int → Bool} {x : List Int} (d : Bool) (l : List (List Int)) : (setK ge ne x d l).length ≤ l.length + 1 := by
 rw [zz2k];have := List.length_filter_le ne l
 split <;> omega
end
section
open Go Go.RowKit
theorem zzbf {b : Bk} {e : Ev} {rate : Int} (h : (headS e).all (·.holds) = false) : [] ++ cutL (headS e) = gateL b e rate := by
 unfold gateL allS;rw [zz8a, h];simp
theorem gateL_on {b : Bk} {e : Ev} {rate : Int} (h : (headS e).all (·.holds) = true) : ([] ++ cutL (headS e)) ++ cutL (kindS b e rate) = gateL b e rate := by
 unfold gateL allS;rw [zz8a, h];simp
theorem zzbo {b : Bk} {e : Ev} {rate : Int} (h : (headS e).all (·.holds) = false) : doneB b e rate = b := by
 unfold doneB allS;rw [List.all_append, h];simp
theorem doneB_on {b : Bk} {e : Ev} {rate : Int} (h : (headS e).all (·.holds) = true) : (if (kindS b e rate).all (·.holds) then newB b e else b) = doneB b e rate := by
 unfold doneB allS;rw [List.all_append, h];simp
theorem zza0 (b : Bk) (e : Ev) : (newB b e).n = b.n := by
 unfold newB
 repeat' split
 all_goals rfl
theorem zzbp (b : Bk) (e : Ev) (rate : Int) : (doneB b e rate).n = b.n := by
 unfold doneB
 split
 ·exact zza0 b e
 ·rfl
theorem newB_s (b : Bk) (e : Ev) : (newB b e).s.length ≤ b.s.length + 1 := by
 unfold newB
 repeat' split
 all_goals first
  | exact Nat.le_succ _
  | exact zzaj _ _
theorem zz5f {b : Bk} (hb : b.mayB = true) (h6 : ∀ r ∈ b.o, r.length = 6) (hs : b.s.length ≤ 900000) (e : Ev) (rate : Int) : (doneB b e rate).Small := by
 have hf : (doneB b e rate).Fine ∧ (doneB b e rate).s.length ≤ b.s.length + 1 := by
  unfold doneB
  split
  ·exact ⟨zz8q ((Bk.mayB_iff b).1 hb) h6 e rate ‹_›, newB_s b e⟩
  ·exact ⟨(Bk.mayB_iff b).1 hb, Nat.le_succ _⟩
 have h1 := hf.1.lh;have h2 := hf.1.lo;have h3 := hf.1.lr;have h4 := hf.2;unfold Bk.Small;omega
theorem zt80 {p : Prop} (h : p := by
 obtain ⟨c1, c2, c3, c4, hv, h1, h2, h3, h4⟩ := h;injection hv with hv
 simp only [Array.mk.injEq, List.cons.injEq, and_true] at hv;obtain ⟨rfl, rfl, rfl, rfl, _⟩ := hv;exact ⟨a1, a2, a3, a4, rfl, h1, h2, h3, h4⟩) : p := h
theorem BkOwn.count {w : World} {B : Nat} {a1 a2 a3 a4 x : Value} {b : Bk} (h : BkOwn w B (.agg #[a1, a2, a3, a4, x]) b) (m : Int) : BkOwn w B (.agg #[a1, a2, a3, a4, m]) { b with n := m } := by
 exact zt80
theorem BkEi.form {w w0 : World} {u v : Value} {b b' : Bk} (h : BkEi w u v b b') (hu : BkAt w0 u b) : ∃ A1 c1 A2 c2 A3 c3 A4 c4, v = .agg (BF A1 c1 A2 c2 A3 c3 A4 c4 b' b'.n) := by
 rcases h with ⟨rfl, rfl⟩ | h
 ·obtain ⟨a1, a2, a3, a4, rfl, ⟨A1, c1, rfl, _⟩, ⟨A2, c2, rfl, _⟩, ⟨A3, c3, rfl, _⟩, ⟨A4, c4, rfl, _⟩⟩ := hu
  exact ⟨A1, c1, A2, c2, A3, c3, A4, c4, rfl⟩
 ·obtain ⟨A1, c1, A2, c2, A3, c3, A4, c4, rfl⟩ := h.form
  exact ⟨A1, c1, A2, c2, A3, c3, A4, c4, rfl⟩
theorem BkEi.put {w : World} {u v : Value} {b b' : Bk} (h : BkEi w u v b b') {g : Nat} {cs : Array Value} {fr : Nat × Nat} (hg : w.heap[g]? = some (.cells cs 27 fr)) (o : Nat) (us : List Value) (hu : BkAt (putC w g o us) u b) : BkAt (putC w g o us) v b' := by
 rcases h with ⟨rfl, rfl⟩ | h
 ·exact hu
 ·exact (h.put hg o us).at
theorem zt64 {p : Prop} (h : p := by
 have hp' : tmps[p]?.getD undef = .pointer (some ⟨g, 0, none⟩) := by simpa using hp
 have hp2' : tmps[p2]?.getD undef = .pointer (some ⟨g2, 0, none⟩) := by simpa using hp2
 simp [results, h, hp', hp2', asAddr, run_loadVar_row w g t ty cs (0, 0) d hg hu hd hi, run_loadVar_row w g2 t2 ty2 cs2 (0, 0) d2 hg2 hu2 hd2 hi2]) : p := h
theorem ret_c2t2 {P : Program} {fn : Func} {p p2 : Tmp} {ty ty2 : TypeId} {s1 s2 : Tmp} (h : fn.results = #[.cell p ty, .cell p2 ty2, .tmp s1, .tmp s2]) (tmps : Array Value) (w : World) (g g2 : Nat) (t t2 : TypeId) (cs cs2 : Array Value) (d d2 : TypeDesc)
  (hp : tmps.getD p undef = .pointer (some ⟨g, 0, none⟩)) (hg : w.heap[g]? = some (.cells cs t (0, 0)))
  (hu : P.underlying ty = some d) (hd : (match d with | .struct _ | .array _ _ => true | _ => false) = true) (hi : (P.info? ty).map (·.size) = some cs.size)
  (hp2 : tmps.getD p2 undef = .pointer (some ⟨g2, 0, none⟩)) (hg2 : w.heap[g2]? = some (.cells cs2 t2 (0, 0)))
  (hu2 : P.underlying ty2 = some d2) (hd2 : (match d2 with | .struct _ | .array _ _ => true | _ => false) = true) (hi2 : (P.info? ty2).map (·.size) = some cs2.size)
  (x y : Value) (hx : tmps.getD s1 undef = x) (hy : tmps.getD s2 undef = y) : (results fn tmps).run P w = .ok (.tuple #[.agg cs, .agg cs2, x, y]) w := by
 subst hx hy;exact zt64
end
end Go.Proofs.YtajogedbacpohaaGreatDoor
