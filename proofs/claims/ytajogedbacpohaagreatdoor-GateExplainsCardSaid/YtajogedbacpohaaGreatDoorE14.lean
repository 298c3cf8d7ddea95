/- Part 15 of what the claim rests on. -/
import Derived.Test.YtajogedbacpohaaGreatDoorE00
import Derived.Test.YtajogedbacpohaaGreatDoorE01
import Derived.Test.YtajogedbacpohaaGreatDoorE13
import Derived.Maps.OwnOps
import Derived.Maps.Views
set_option linter.unusedVariables false
set_option linter.unusedSimpArgs false
set_option maxRecDepth 1000000
set_option maxHeartbeats 32000000
namespace Go.Proofs.YtajogedbacpohaaGreatDoor
section
open Go Go.RowKit
theorem zzc9 (r a b : Int) (w : World) : Calls Tryz.prog 91 #[.agg #[r, a, b, .bool true]] w fun e w' => e = .returned (.bool false) ∧ Below w.heap.size w w' := by
 have hb := (Below.refl w.heap.size w).alloc (Nat.le_refl _) (.cells #[r, a, b, .bool true] 65);have HB := zH hb;clear hb;go_in;go_wp2_with fail;go_region;go_wp2_with fail;go_ret;exact ⟨rfl, HB.out.drew⟩
theorem zt18 {p : Prop} (h : p := by
 unfold wpPure;go_simp;refine zW 14 ?_;go_wp2_with fail;(with_reducible refine (qf.out _).mono ?_);rintro e w3 ⟨rfl, rfl⟩;go_wp2_with fail;refine zQs (fun _ => HC) ?_
 refine zM [15] 1 HC ?_;simp only [opsAt, zA];refine zp ?_;unfold wpPure;go_simp;refine zW 16 ?_;go_wp2_with fail;refine zQs (fun _ => HC) ?_
 refine zQe ?_;go_wp2_with fail;go_ret;exact ⟨rfl, by rw [HG.out]; exact HB.out.trans (HC.out.mono (Nat.le_of_lt C0.out.2.2.2.2))⟩) : p := h
theorem zt69 {p : Prop} (h : p := by
 have h1 := zz4s r hr w1.drew (zH (hT1.out.call (Below.refl _ _).drew).rules);rw [h] at h1;exact h1) : p := h
theorem zzc8 (r a b : Int) (hr : I64 r) (h : relS r = 0) (w : World) (hT : Hid (Law16 w)) : Calls Tryz.prog 91 #[.agg #[r, a, b, .bool false]] w fun e w' => e = .returned (.bool (false)) ∧ Below w.heap.size w w' := by
 have hb := (Below.refl w.heap.size w).alloc (Nat.le_refl _) (.cells #[r, a, b, .bool false] 65);have HB := zH hb;have hT1 := zH (hT.out.call hb);have hk : (w.alloc (.cells #[r, a, b, .bool false] 65)).heap[w.heap.size]? = some (.cells #[r, a, b, .bool false] 65) := zz02 _ _;have c0 := zz00 hk 0 _ rfl;have c1 := zz00 hk 1 _ rfl;have c2 := zz00 hk 2 _ rfl;have c3 := zz00 hk 3 _ rfl;have lt : w.heap.size < (w.alloc (.cells #[r, a, b, .bool false] 65)).heap.size := zL hk;clear hk hb;have C0 := zH (And.intro c0 (And.intro c1 (And.intro c2 (And.intro c3 lt))));clear c0 c1 c2 c3 lt;have qf := zH (fun w => rel1_any a b w)
 go_in;go_wp2_with fail;generalize hG : w.heap.size = G at *;have HG := zH hG;clear hG;generalize w.alloc (.cells #[r, a, b, .bool false] 65) = w1 at *;have q : Hid (Calls Tryz.prog 117 #[.int .i64 r] w1.drew fun e w' => e = .returned (.int .i64 0) ∧ Below w1.drew.heap.size w1.drew w') := by
  exact zt69
 clear h;have HC : Hid (Below w1.heap.size w1 w1.drew) := (Below.refl _ _).drew;refine zz07 [] (fun wz => Hid (Below w1.heap.size w1 wz)) 17 (zb 17 0) zk zk zk ?_
 refine zM [0, 1, 2] 14 HC ?_;simp only [opsAt, zA];refine zp ?_;refine zz08 (.bool false) rfl (fun wz hC => by have h0 := ((Hid.out hC).cell (p := ⟨G, 3, none⟩) C0.out.2.2.2.2).trans C0.out.2.2.2.1; unfold execOp; go_simp) ?_
 refine zp ?_;unfold wpPure;go_simp;refine zM [3] 13 HC ?_;simp only [opsAt, zA];refine zp ?_;unfold wpPure;go_simp;refine zM [4, 5] 11 HC ?_;simp only [opsAt, zA];refine zp ?_;refine zz08 (.int .i64 r) rfl (fun wz hC => by have h0 := ((Hid.out hC).cell (p := ⟨G, 0, none⟩) C0.out.2.2.2.2).trans C0.out.1; unfold execOp; go_simp) ?_
 unfold wpPure;go_simp;refine zM [10, 11] 9 HC ?_;simp only [opsAt, zA];refine zp ?_;refine zz08 (.int .i64 a) rfl (fun wz hC => by have h0 := ((Hid.out hC).cell (p := ⟨G, 1, none⟩) C0.out.2.2.2.2).trans C0.out.2.1; unfold execOp; go_simp) ?_
 unfold wpPure;go_simp;refine zM [12, 13] 7 HC ?_;simp only [opsAt, zA];refine zp ?_;refine zz08 (.int .i64 b) rfl (fun wz hC => by have h0 := ((Hid.out hC).cell (p := ⟨G, 2, none⟩) C0.out.2.2.2.2).trans C0.out.2.2.1; unfold execOp; go_simp) ?_
 unfold wpPure;go_simp;refine zW 6 ?_;go_wp2_with fail;(with_reducible refine q.out.mono ?_);rintro e w2 ⟨rfl, hb⟩;replace HC : Hid (Below w1.heap.size w1 w2) := HC.out.trans hb;clear hb;go_wp2_with fail;refine zQs (fun _ => HC) ?_
 have hR := hT1.out.rels;have g0 := hR.c0.2;have g1 := hR.lt;have G1 := zH (And.intro g0 g1);clear g0 g1 hR;refine zM [7, 8, 9] 3 HC ?_;simp only [opsAt, zA]
 iterate 2 refine zp ?_
 refine zz08 (.func (.func 236) #[] #[]) rfl (fun wz hC => by have h0 := ((Hid.out hC).cell (p := ⟨1, 1, none⟩) G1.out.2).trans G1.out.1; unfold execOp; go_simp) ?_
 exact zt18
theorem zzc7 (r a b : Int) (hr : I64 r) (h : relS r = 1) (w : World) (hT : Hid (Law16 w)) : Calls Tryz.prog 91 #[.agg #[r, a, b, .bool false]] w fun e w' => e = .returned (.bool (decide (a ≤ b))) ∧ Below w.heap.size w w' := by
 have hb := (Below.refl w.heap.size w).alloc (Nat.le_refl _) (.cells #[r, a, b, .bool false] 65);have HB := zH hb;have hT1 := zH (hT.out.call hb);have hk : (w.alloc (.cells #[r, a, b, .bool false] 65)).heap[w.heap.size]? = some (.cells #[r, a, b, .bool false] 65) := zz02 _ _;have c0 := zz00 hk 0 _ rfl;have c1 := zz00 hk 1 _ rfl;have c2 := zz00 hk 2 _ rfl;have c3 := zz00 hk 3 _ rfl;have lt : w.heap.size < (w.alloc (.cells #[r, a, b, .bool false] 65)).heap.size := zL hk;clear hk hb;have C0 := zH (And.intro c0 (And.intro c1 (And.intro c2 (And.intro c3 lt))));clear c0 c1 c2 c3 lt;have qf := zH (fun w => rel2_any a b w)
 obtain ⟨z, hz⟩ : ∃ z, (decide (a ≤ b)) = z := ⟨_, rfl⟩;rw [hz] at qf ⊢;clear hz;go_in;go_wp2_with fail;generalize hG : w.heap.size = G at *;have HG := zH hG;clear hG;generalize w.alloc (.cells #[r, a, b, .bool false] 65) = w1 at *;have q : Hid (Calls Tryz.prog 117 #[.int .i64 r] w1.drew fun e w' => e = .returned (.int .i64 1) ∧ Below w1.drew.heap.size w1.drew w') := by
  exact zt69
 clear h;have HC : Hid (Below w1.heap.size w1 w1.drew) := (Below.refl _ _).drew;refine zz07 [] (fun wz => Hid (Below w1.heap.size w1 wz)) 17 (zb 17 0) zk zk zk ?_
 refine zM [0, 1, 2] 14 HC ?_;simp only [opsAt, zA];refine zp ?_;refine zz08 (.bool false) rfl (fun wz hC => by have h0 := ((Hid.out hC).cell (p := ⟨G, 3, none⟩) C0.out.2.2.2.2).trans C0.out.2.2.2.1; unfold execOp; go_simp) ?_
 refine zp ?_;unfold wpPure;go_simp;refine zM [3] 13 HC ?_;simp only [opsAt, zA];refine zp ?_;unfold wpPure;go_simp;refine zM [4, 5] 11 HC ?_;simp only [opsAt, zA];refine zp ?_;refine zz08 (.int .i64 r) rfl (fun wz hC => by have h0 := ((Hid.out hC).cell (p := ⟨G, 0, none⟩) C0.out.2.2.2.2).trans C0.out.1; unfold execOp; go_simp) ?_
 unfold wpPure;go_simp;refine zM [10, 11] 9 HC ?_;simp only [opsAt, zA];refine zp ?_;refine zz08 (.int .i64 a) rfl (fun wz hC => by have h0 := ((Hid.out hC).cell (p := ⟨G, 1, none⟩) C0.out.2.2.2.2).trans C0.out.2.1; unfold execOp; go_simp) ?_
 unfold wpPure;go_simp;refine zM [12, 13] 7 HC ?_;simp only [opsAt, zA];refine zp ?_;refine zz08 (.int .i64 b) rfl (fun wz hC => by have h0 := ((Hid.out hC).cell (p := ⟨G, 2, none⟩) C0.out.2.2.2.2).trans C0.out.2.2.1; unfold execOp; go_simp) ?_
 unfold wpPure;go_simp;refine zW 6 ?_;go_wp2_with fail;(with_reducible refine q.out.mono ?_);rintro e w2 ⟨rfl, hb⟩;replace HC : Hid (Below w1.heap.size w1 w2) := HC.out.trans hb;clear hb;go_wp2_with fail;refine zQs (fun _ => HC) ?_
 have hR := hT1.out.rels;have g0 := hR.c1.2;have g1 := hR.lt;have G1 := zH (And.intro g0 g1);clear g0 g1 hR;refine zM [7, 8, 9] 3 HC ?_;simp only [opsAt, zA]
 iterate 2 refine zp ?_
 refine zz08 (.func (.func 237) #[] #[]) rfl (fun wz hC => by have h0 := ((Hid.out hC).cell (p := ⟨1, 3, none⟩) G1.out.2).trans G1.out.1; unfold execOp; go_simp) ?_
 exact zt18
theorem zzc6 (r a b : Int) (hr : I64 r) (h : relS r = 2) (w : World) (hT : Hid (Law16 w)) : Calls Tryz.prog 91 #[.agg #[r, a, b, .bool false]] w fun e w' => e = .returned (.bool (decide (b ≤ a))) ∧ Below w.heap.size w w' := by
 have hb := (Below.refl w.heap.size w).alloc (Nat.le_refl _) (.cells #[r, a, b, .bool false] 65);have HB := zH hb;have hT1 := zH (hT.out.call hb);have hk : (w.alloc (.cells #[r, a, b, .bool false] 65)).heap[w.heap.size]? = some (.cells #[r, a, b, .bool false] 65) := zz02 _ _;have c0 := zz00 hk 0 _ rfl;have c1 := zz00 hk 1 _ rfl;have c2 := zz00 hk 2 _ rfl;have c3 := zz00 hk 3 _ rfl;have lt : w.heap.size < (w.alloc (.cells #[r, a, b, .bool false] 65)).heap.size := zL hk;clear hk hb;have C0 := zH (And.intro c0 (And.intro c1 (And.intro c2 (And.intro c3 lt))));clear c0 c1 c2 c3 lt;have qf := zH (fun w => rel3_any a b w)
 obtain ⟨z, hz⟩ : ∃ z, (decide (b ≤ a)) = z := ⟨_, rfl⟩;rw [hz] at qf ⊢;clear hz;go_in;go_wp2_with fail;generalize hG : w.heap.size = G at *;have HG := zH hG;clear hG;generalize w.alloc (.cells #[r, a, b, .bool false] 65) = w1 at *;have q : Hid (Calls Tryz.prog 117 #[.int .i64 r] w1.drew fun e w' => e = .returned (.int .i64 2) ∧ Below w1.drew.heap.size w1.drew w') := by
  exact zt69
 clear h;have HC : Hid (Below w1.heap.size w1 w1.drew) := (Below.refl _ _).drew;refine zz07 [] (fun wz => Hid (Below w1.heap.size w1 wz)) 17 (zb 17 0) zk zk zk ?_
 refine zM [0, 1, 2] 14 HC ?_;simp only [opsAt, zA];refine zp ?_;refine zz08 (.bool false) rfl (fun wz hC => by have h0 := ((Hid.out hC).cell (p := ⟨G, 3, none⟩) C0.out.2.2.2.2).trans C0.out.2.2.2.1; unfold execOp; go_simp) ?_
 refine zp ?_;unfold wpPure;go_simp;refine zM [3] 13 HC ?_;simp only [opsAt, zA];refine zp ?_;unfold wpPure;go_simp;refine zM [4, 5] 11 HC ?_;simp only [opsAt, zA];refine zp ?_;refine zz08 (.int .i64 r) rfl (fun wz hC => by have h0 := ((Hid.out hC).cell (p := ⟨G, 0, none⟩) C0.out.2.2.2.2).trans C0.out.1; unfold execOp; go_simp) ?_
 unfold wpPure;go_simp;refine zM [10, 11] 9 HC ?_;simp only [opsAt, zA];refine zp ?_;refine zz08 (.int .i64 a) rfl (fun wz hC => by have h0 := ((Hid.out hC).cell (p := ⟨G, 1, none⟩) C0.out.2.2.2.2).trans C0.out.2.1; unfold execOp; go_simp) ?_
 unfold wpPure;go_simp;refine zM [12, 13] 7 HC ?_;simp only [opsAt, zA];refine zp ?_;refine zz08 (.int .i64 b) rfl (fun wz hC => by have h0 := ((Hid.out hC).cell (p := ⟨G, 2, none⟩) C0.out.2.2.2.2).trans C0.out.2.2.1; unfold execOp; go_simp) ?_
 unfold wpPure;go_simp;refine zW 6 ?_;go_wp2_with fail;(with_reducible refine q.out.mono ?_);rintro e w2 ⟨rfl, hb⟩;replace HC : Hid (Below w1.heap.size w1 w2) := HC.out.trans hb;clear hb;go_wp2_with fail;refine zQs (fun _ => HC) ?_
 have hR := hT1.out.rels;have g0 := hR.c2.2;have g1 := hR.lt;have G1 := zH (And.intro g0 g1);clear g0 g1 hR;refine zM [7, 8, 9] 3 HC ?_;simp only [opsAt, zA]
 iterate 2 refine zp ?_
 refine zz08 (.func (.func 238) #[] #[]) rfl (fun wz hC => by have h0 := ((Hid.out hC).cell (p := ⟨1, 5, none⟩) G1.out.2).trans G1.out.1; unfold execOp; go_simp) ?_
 exact zt18
theorem zzc5 (r a b : Int) (hr : I64 r) (h : relS r = 3) (w : World) (hT : Hid (Law16 w)) : Calls Tryz.prog 91 #[.agg #[r, a, b, .bool false]] w fun e w' => e = .returned (.bool (a == b)) ∧ Below w.heap.size w w' := by
 have hb := (Below.refl w.heap.size w).alloc (Nat.le_refl _) (.cells #[r, a, b, .bool false] 65);have HB := zH hb;have hT1 := zH (hT.out.call hb);have hk : (w.alloc (.cells #[r, a, b, .bool false] 65)).heap[w.heap.size]? = some (.cells #[r, a, b, .bool false] 65) := zz02 _ _;have c0 := zz00 hk 0 _ rfl;have c1 := zz00 hk 1 _ rfl;have c2 := zz00 hk 2 _ rfl;have c3 := zz00 hk 3 _ rfl;have lt : w.heap.size < (w.alloc (.cells #[r, a, b, .bool false] 65)).heap.size := zL hk;clear hk hb;have C0 := zH (And.intro c0 (And.intro c1 (And.intro c2 (And.intro c3 lt))));clear c0 c1 c2 c3 lt;have qf := zH (fun w => rel4_any a b w)
 obtain ⟨z, hz⟩ : ∃ z, (a == b) = z := ⟨_, rfl⟩;rw [hz] at qf ⊢;clear hz;go_in;go_wp2_with fail;generalize hG : w.heap.size = G at *;have HG := zH hG;clear hG;generalize w.alloc (.cells #[r, a, b, .bool false] 65) = w1 at *;have q : Hid (Calls Tryz.prog 117 #[.int .i64 r] w1.drew fun e w' => e = .returned (.int .i64 3) ∧ Below w1.drew.heap.size w1.drew w') := by
  exact zt69
 clear h;have HC : Hid (Below w1.heap.size w1 w1.drew) := (Below.refl _ _).drew;refine zz07 [] (fun wz => Hid (Below w1.heap.size w1 wz)) 17 (zb 17 0) zk zk zk ?_
 refine zM [0, 1, 2] 14 HC ?_;simp only [opsAt, zA];refine zp ?_;refine zz08 (.bool false) rfl (fun wz hC => by have h0 := ((Hid.out hC).cell (p := ⟨G, 3, none⟩) C0.out.2.2.2.2).trans C0.out.2.2.2.1; unfold execOp; go_simp) ?_
 refine zp ?_;unfold wpPure;go_simp;refine zM [3] 13 HC ?_;simp only [opsAt, zA];refine zp ?_;unfold wpPure;go_simp;refine zM [4, 5] 11 HC ?_;simp only [opsAt, zA];refine zp ?_;refine zz08 (.int .i64 r) rfl (fun wz hC => by have h0 := ((Hid.out hC).cell (p := ⟨G, 0, none⟩) C0.out.2.2.2.2).trans C0.out.1; unfold execOp; go_simp) ?_
 unfold wpPure;go_simp;refine zM [10, 11] 9 HC ?_;simp only [opsAt, zA];refine zp ?_;refine zz08 (.int .i64 a) rfl (fun wz hC => by have h0 := ((Hid.out hC).cell (p := ⟨G, 1, none⟩) C0.out.2.2.2.2).trans C0.out.2.1; unfold execOp; go_simp) ?_
 unfold wpPure;go_simp;refine zM [12, 13] 7 HC ?_;simp only [opsAt, zA];refine zp ?_;refine zz08 (.int .i64 b) rfl (fun wz hC => by have h0 := ((Hid.out hC).cell (p := ⟨G, 2, none⟩) C0.out.2.2.2.2).trans C0.out.2.2.1; unfold execOp; go_simp) ?_
 unfold wpPure;go_simp;refine zW 6 ?_;go_wp2_with fail;(with_reducible refine q.out.mono ?_);rintro e w2 ⟨rfl, hb⟩;replace HC : Hid (Below w1.heap.size w1 w2) := HC.out.trans hb;clear hb;go_wp2_with fail;refine zQs (fun _ => HC) ?_
 have hR := hT1.out.rels;have g0 := hR.c3.2;have g1 := hR.lt;have G1 := zH (And.intro g0 g1);clear g0 g1 hR;refine zM [7, 8, 9] 3 HC ?_;simp only [opsAt, zA]
 iterate 2 refine zp ?_
 refine zz08 (.func (.func 239) #[] #[]) rfl (fun wz hC => by have h0 := ((Hid.out hC).cell (p := ⟨1, 7, none⟩) G1.out.2).trans G1.out.1; unfold execOp; go_simp) ?_
 exact zt18
theorem zz6a (s : Stp) (hs : s.fit) (w : World) (hT : Hid (Law16 w)) : Calls Tryz.prog 91 #[s.val] w fun e w' => e = .returned (.bool s.holds) ∧ Below w.heap.size w w' := by
 obtain ⟨r, a, b, o⟩ := s;cases o with
 | true => exact zzc9 r a b w
 | false =>
  have hl := zz8h r;have h4 : relS r = 0 ∨ relS r = 1 ∨ relS r = 2 ∨ relS r = 3 := by omega
  unfold Stp.holds;rcases h4 with h | h | h | h
  ·have := zzc8 r a b hs.1 h w hT
   rw [show (!(Stp.mk r a b false).over && Rule.is (relS (Stp.mk r a b false).rule) (Stp.mk r a b false).left (Stp.mk r a b false).right) = false by show (true && Rule.is (relS r) a b) = _; rw [h]; rfl]
   exact this
  ·have := zzc7 r a b hs.1 h w hT
   rw [show (!(Stp.mk r a b false).over && Rule.is (relS (Stp.mk r a b false).rule) (Stp.mk r a b false).left (Stp.mk r a b false).right) = decide (a ≤ b) by show (true && Rule.is (relS r) a b) = _; rw [h]; rfl]
   exact this
  ·have := zzc6 r a b hs.1 h w hT
   rw [show (!(Stp.mk r a b false).over && Rule.is (relS (Stp.mk r a b false).rule) (Stp.mk r a b false).left (Stp.mk r a b false).right) = decide (b ≤ a) by show (true && Rule.is (relS r) a b) = _; rw [h]; rfl]
   exact this
  ·have := zzc5 r a b hs.1 h w hT
   rw [show (!(Stp.mk r a b false).over && Rule.is (relS (Stp.mk r a b false).rule) (Stp.mk r a b false).left (Stp.mk r a b false).right) = (a == b) by show (true && Rule.is (relS r) a b) = _; rw [h]; rfl]
   exact this
end
section
open Go Go.RowKit Go.Maps Go.WideMaps Go.MapKept
theorem keyR : Keyed Tryz.prog 3 := int_keyed Tryz.underlying3
theorem i64_wfR {x : Int} (h : I64 x) : (Lit.int .i64 x).wf = true := by
 unfold I64 at h;simp [Lit.wf, IntKind.min, IntKind.max, IntKind.signed, IntKind.bits];omega
theorem zza8 (w : World) : (zeroValue 4).run Tryz.prog w = .ok (.bool false) w := by kernel_rfl
theorem grownR {w w' : World} (h : Below w.heap.size w w') : w.grownBy w' none := ⟨h.os, h.tape, h.output, h.size, fun k hk _ => h.block k hk⟩
theorem zz4r {w w' : World} {B b : Nat} (h : w.grownBy w' (some b)) (hb : B ≤ b) (hl : b < w.heap.size) : Below B w w' :=
 ⟨h.os, h.tape, h.output, h.size, fun k hk => h.block k zw (fun e => by cases e; omega)⟩
theorem key_litR (κ : Int) : WideAt.IsKeyLit (.int .i64 κ) := by first | trivial | exact ⟨_, _, rfl⟩ | simp [WideAt.IsKeyLit]
def SeenAt (w : World) (b n : Nat) (L : List Int) : Prop :=
 ∃ D : DataW Unit, w.ownsMap Tryz.prog 3 (plainElem Tryz.prog 4) b n D ∧ ∀ x, D.atKey (.int .i64 x) (.lit (.bool false)) = .lit (.bool (L.any fun y => y == x))
theorem SeenAt.made (w : World) : SeenAt (w.alloc (.map #[] 0)) w.heap.size 0 [] := ⟨.map [], World.ownsMap_made _ _ _ _, fun x => rfl⟩
theorem SeenAt.lt {w : World} {b n : Nat} {L : List Int} (h : SeenAt w b n L) : b < w.heap.size := by
 obtain ⟨D, h1, _⟩ := h;exact h1.lt
theorem SeenAt.call {w w' : World} {b n : Nat} {L : List Int} (h : SeenAt w b n L) (hb : Below w.heap.size w w') : SeenAt w' b n L := by
 obtain ⟨D, h1, h2⟩ := h;exact ⟨D, h1.kept (grownR hb) (by simp), h2⟩
theorem SeenAt.look {w : World} {b n : Nat} {L : List Int} (h : SeenAt w b n L) {r : Int} (hr : I64 r) {z : Bool} (hz : (L.any fun y => y == r) = z) : (Instr.lookup 211 (.map (some b)) (.int .i64 r) false).run Tryz.prog w = .ok (.bool z) w := by
 obtain ⟨D, h1, h2⟩ := h;obtain ⟨v, ps, hrun, hv⟩ := h1.lookup keyR Tryz.underlying211 (zza8 w) (plainElem_bool Tryz.underlying4 false) (keyOf_int_mk Tryz.underlying3 (i64_wfR hr));rw [h2 r, hz] at hv;have hvz : v = .bool z := by
  unfold plainElem at hv;rw [Tryz.underlying4] at hv;cases v <;> simp at hv
  obtain ⟨h1, _⟩ := hv;rw [h1]
 subst hvz;exact hrun
section
variable {ops : Array Oper} {rest : List Oper} {o : Oper} {a : Act} {Q : Exit → Act → World → Prop}
theorem any_snoc (L : List Int) (r x : Int) : ((L ++ [r]).any fun y => y == x) = ((L.any fun y => y == x) || (r == x)) := by simp
theorem zz1u (w : World) (hgd : o.guard = none) (m x v : Operand) (hop : o.op = Op.mapUpdate 211 m x v) {b n : Nat} {L : List Int} (h : Hid (SeenAt w b n L)) (hn : n ≤ 1000) (r : Int) (hr : I64 r)
  (hm : a.eval m = .map (some b)) (hx : a.eval x = .int .i64 r) (hv : a.eval v = .bool true) (hK : ∀ w', Hid (SeenAt w' b (n + 1) (L ++ [r])) → Hid (w.grownBy w' (some b)) → wpList Tryz.prog ops Q rest (a.put o.dst undef) w') : wpList Tryz.prog ops Q (o :: rest) a w := by
 obtain ⟨D, h1, h2⟩ := h.out;refine wpList_mapUpdate_own _ hgd _ _ _ 211 hop 3 4 keyR Tryz.underlying211 _ b n D hm h1 (by unfold maxLen; omega) _ _ (.int .i64 r) hx hv (keyOf_int_mk Tryz.underlying3 (i64_wfR hr)) (.lit (.bool true)) [] (plainElem_bool Tryz.underlying4 true) ?_
 intro w' h3 h4;refine hK w' ⟨_, h3, fun y => ?_⟩ h4
 rw [any_snoc];by_cases hy : y = r
 ·subst hy
  rw [atKey_put_same h1.isMap (key_litR _)];simp
 ·rw [atKey_put_other (by intro e; cases e; exact hy rfl), h2 y]
  have : (r == y) = false := beq_eq_false_iff_ne.2 (Ne.symm hy);rw [this, Bool.or_false]
end
def StepsAt (w : World) (v : Value) (l : List Stp) : Prop :=
 ∃ A c, v = .slice A l.length c ∧ ∀ (i : Nat) (s : Stp), l[i]? = some s → s.fit ∧ ∃ b o, A = some ⟨b, o, none⟩ ∧ b < w.heap.size ∧ w.cell? ⟨b, o + i * 4, none⟩ = some (.int .i64 s.rule) ∧ w.cell? ⟨b, o + i * 4 + 1, none⟩ = some (.int .i64 s.left) ∧ w.cell? ⟨b, o + i * 4 + 2, none⟩ = some (.int .i64 s.right) ∧ w.cell? ⟨b, o + i * 4 + 3, none⟩ = some (.bool s.over)
theorem StepsAt.call {w w' : World} {v : Value} {l : List Stp} (h : StepsAt w v l) (hb : Below w.heap.size w w') : StepsAt w' v l := by
 obtain ⟨A, c, hv, hi⟩ := h;refine ⟨A, c, hv, fun i s hs => ?_⟩
 obtain ⟨hf, b, o, ha, hlt, h1, h2, h3, h4⟩ := hi i s hs;exact ⟨hf, b, o, ha, Nat.lt_of_lt_of_le hlt hb.size, (hb.cell (p := ⟨b, o + i * 4, none⟩) hlt).trans h1, (hb.cell (p := ⟨b, o + i * 4 + 1, none⟩) hlt).trans h2, (hb.cell (p := ⟨b, o + i * 4 + 2, none⟩) hlt).trans h3, (hb.cell (p := ⟨b, o + i * 4 + 3, none⟩) hlt).trans h4⟩
end
section
open Go Go.RowKit
def stpC (s : Stp) : List Value := [.int .i64 s.rule, .int .i64 s.left, .int .i64 s.right, .bool s.over]
def flatS (l : List Stp) : List Value := l.flatMap stpC
theorem zz85 (l m : List Stp) : flatS (l ++ m) = flatS l ++ flatS m := by simp [flatS]
theorem zz8x : ∀ {l : List Stp} {i j : Nat} {s : Stp} {x : Value}, l[i]? = some s → (stpC s)[j]? = some x → (flatS l)[i * 4 + j]? = some x
 | [], i, j, s, x, hi, _ => by simp at hi
 | a :: t, 0, j, s, x, hi, hj => by
  obtain rfl : a = s := by simpa using hi
  rw [flatS, List.flatMap_cons, Nat.zero_mul, Nat.zero_add, List.getElem?_append_left (List.getElem?_eq_some_iff.1 hj).1, hj]
 | a :: t, i + 1, j, s, x, hi, hj => by
  rw [flatS, List.flatMap_cons, List.getElem?_append_right (by show 4 ≤ _; omega), show (i + 1) * 4 + j - (stpC a).length = i * 4 + j by show (i + 1) * 4 + j - 4 = _; omega]
  exact zz8x (by simpa using hi) hj
def StepsOwn (w : World) (B : Nat) (v : Value) (l : List Stp) : Prop := w.ownsRow B 65 4 v l.length (flatS l) ∧ ∀ s ∈ l, s.fit
theorem StepsOwn.nil (w : World) (B : Nat) : StepsOwn w B (.slice none 0 0) [] := ⟨World.ownsRow_nil _ _ _ _, fun s hs => by simp at hs⟩
theorem StepsOwn.form {w : World} {B : Nat} {v : Value} {l : List Stp} (h : StepsOwn w B v l) : ∃ A c, v = .slice A l.length c := by
 rcases h.1.2 with ⟨rfl, h0⟩ | ⟨g, cap, cur, rfl, _⟩
 ·exact ⟨none, 0, by rw [h0]⟩
 ·exact ⟨_, _, rfl⟩
theorem StepsOwn.kept {w w' : World} {B : Nat} {v : Value} {l : List Stp} (h : StepsOwn w B v l) (hb : Below w.heap.size w w') : StepsOwn w' B v l := by
 exact zt87
theorem StepsOwn.at {w : World} {B : Nat} {v : Value} {l : List Stp} (h : StepsOwn w B v l) : StepsAt w v l := by
 obtain ⟨ho, hk⟩ := h;rcases ho.2 with ⟨rfl, h0⟩ | ⟨g, cap, cur, rfl, hB, hg, hn, hm, hs, ht⟩
 ·obtain rfl : l = [] := List.eq_nil_of_length_eq_zero h0
  exact ⟨none, 0, rfl, fun i s hi => by simp at hi⟩
 ·refine ⟨some ⟨g, 0, none⟩, cap, rfl, fun i s hi => ⟨hk s (List.mem_of_getElem? hi), g, 0, rfl, (zL hg), ?_⟩⟩
  have key : ∀ j x, (stpC s)[j]? = some x → w.cell? ⟨g, 0 + (i * 4 + j), none⟩ = some x := fun j x hj => by
   have := ho.cells (g := g) rfl (i * 4 + j) x (zz8x hi hj)
   rwa [Addr.add_lit] at this
  refine ⟨key 0 _ rfl, ?_, ?_, ?_⟩
  ·have := key 1 _ rfl; rwa [← Nat.add_assoc] at this
  ·have := key 2 _ rfl; rwa [← Nat.add_assoc] at this
  ·have := key 3 _ rfl; rwa [← Nat.add_assoc] at this
theorem StepsOwn.ne {w : World} {B : Nat} {v : Value} {l : List Stp} (h : StepsOwn w B v l) {g : Nat} {cs : Array Value} {t : TypeId} {fr : Nat × Nat} (hg : w.heap[g]? = some (.cells cs t fr)) (hne : t ≠ 65) : v.ownBlock ≠ some g := by
 rcases h.1.2 with h | ⟨g', cap, cur, h1, h2, h3, h4⟩
 ·rw [h.1]; intro e'; cases e'
 ·rw [h1]
  intro e';have e2 : g' = g := by simpa [Value.ownBlock] using e'
  subst e2;rw [hg] at h3;injection h3 with h3
  injection h3 with _ h3 _
  exact hne h3
theorem StepsOwn.setOther {w : World} {B : Nat} {v : Value} {l : List Stp} (h : StepsOwn w B v l) {g : Nat} {cs : Array Value} {t : TypeId} {fr : Nat × Nat} (hg : w.heap[g]? = some (.cells cs t fr)) (hne : t ≠ 65) (i : Nat) (u : Value) : StepsOwn (w.setCell ⟨g, i, none⟩ u) B v l := by
 have hn := h.ne hg hne;refine ⟨h.1.kept (row := some g) (zzbe ⟨rfl, rfl, rfl, Nat.le_refl _, fun _ _ _ => rfl⟩ i u) ?_, h.2⟩
 exact .inr hn
theorem zz8z : Elt Tryz.prog 34 65 (.agg #[.int .i64 0, .int .i64 0, .int .i64 0, .bool false]) 4 32 := Elt.mk' Tryz.underlying34 zk rfl zx
structure Off (w w' : World) : Prop where
 size : w.heap.size ≤ w'.heap.size
 blk : ∀ (p : Nat) (cs : Array Value) (t : TypeId) (fr : Nat × Nat), w.heap[p]? = some (.cells cs t fr) → t ≠ 68 → t ≠ 65 → w'.heap[p]? = some (.cells cs t fr)
 map : ∀ (p clock : Nat) (es : Array MapEntry), w.heap[p]? = some (.map es clock) → w'.heap[p]? = some (.map es clock)
theorem Off.refl (w : World) : Off w w := ⟨Nat.le_refl _, fun _ _ _ _ h _ _ => h, fun _ _ _ h => h⟩
theorem Off.trans {a b c : World} (h : Off a b) (k : Off b c) : Off a c := ⟨Nat.le_trans h.size k.size, fun p cs t fr hp h1 h2 => k.blk p cs t fr (h.blk p cs t fr hp h1 h2) h1 h2, fun p c es hp => k.map p c es (h.map p c es hp)⟩
theorem Off.of {w w' : World} (h : Below w.heap.size w w') : Off w w' := ⟨h.size, fun p cs t fr hp _ _ => zz06 hp h, fun p c es hp => zz06 hp h⟩
theorem Off.set {w : World} {g : Nat} {cs : Array Value} {fr : Nat × Nat} (hg : w.heap[g]? = some (.cells cs 68 fr)) (i : Nat) (u : Value) : Off w (w.setCell ⟨g, i, none⟩ u) := by
 refine ⟨by simp [World.setCell], fun p cs' t fr' hp h1 h2 => zz09 hp i u (fun e => ?_), fun p c es hp => zz09 hp i u (fun e => ?_)⟩
 ·subst e
  rw [hg] at hp;injection hp with hp
  injection hp with _ hp _
  exact h1 hp.symm
 ·subst e
  rw [hg] at hp;injection hp with hp
  cases hp
theorem Off.fresh {w w' : World} (h : Off w w') {g : Nat} (hg : w.heap.size ≤ g) (i : Nat) (u : Value) : Off w (w'.setCell ⟨g, i, none⟩ u) := by
 refine ⟨by have := h.size; simpa [World.setCell] using this, fun p cs t fr hp h1 h2 => zz09 (h.blk p cs t fr hp h1 h2) i u (fun e => ?_), fun p c es hp => zz09 (h.map p c es hp) i u (fun e => ?_)⟩
 ·have := zL hp
  omega
 ·have := zL hp
  omega
theorem Off.fresh2 {w w' : World} (h : Off w w') {g : Nat} (hg : w.heap.size ≤ g) (i j : Nat) (u v : Value) : Off w ((w'.setCell ⟨g, i, none⟩ u).setCell ⟨g, j, none⟩ v) := (h.fresh hg i u).fresh hg j v
theorem Off.app {w w' : World} {B : Nat} {v : Value} {l : List Stp} (h : StepsOwn w B v l) (hs : w.heap.size ≤ w'.heap.size) (ho : ∀ (g : Nat) (ob : Obj), v.ownBlock ≠ some g → w.heap[g]? = some ob → w'.heap[g]? = some ob) : Off w w' :=
 ⟨hs, fun p cs t fr hp _ h2 => ho p _ (h.ne hp h2) hp, fun p c es hp => ho p _ (fun e => by
  rcases h.1.2 with h | ⟨g', cap, cur, h1, h2, h3, h4⟩
  ·rw [h.1] at e; cases e
  ·rw [h1] at e
   have e2 : g' = p := by simpa [Value.ownBlock] using e
   subst e2;rw [hp] at h3;injection h3 with h3
   cases h3) hp⟩
section
variable {P : Program} {ops : Array Oper} {rest : List Oper} {o : Oper} {a : Act} {Q : Exit → Act → World → Prop}
theorem zz15 {wr W : World} {B p : Nat} (s x : Operand) (t : TypeId) (he : Elt P t 65 (.agg #[.int .i64 0, .int .i64 0, .int .i64 0, .bool false]) 4 32) (r : Stp) (v : Value) (l : List Stp)
  (hb : Below B W wr) (hown : Hid (StepsOwn wr B v l)) (hB : B ≤ wr.heap.size) (hgd : o.guard = none) (ho : o.op = .call { callee := .builtin .append, args := #[s, x], argTypes := #[t, t] })
  (hs : a.eval s = v) (hx : a.eval x = .slice (some ⟨p, 0, none⟩) 1 1) (hp : p = wr.heap.size) (hr : r.fit) (hn : l.length + 1 ≤ 4000000)
  (h : ∀ v' w', Hid (StepsOwn w' B v' (l ++ [r])) → Hid (Below B W w') → B ≤ w'.heap.size → Hid (Off wr w') → Hid (∀ (g : Nat) (ob : Obj), v.ownBlock ≠ some g → wr.heap[g]? = some ob → w'.heap[g]? = some ob) → wpList P ops Q rest (a.put o.dst v') w') :
  wpList P ops Q (o :: rest) a (wr.alloc (.cells #[r.rule, r.left, r.right, .bool r.over] 65)) := by
 subst hp;obtain ⟨i, hi, hz, hsz, hbs⟩ := he.info;obtain ⟨ho', hk⟩ := hown.out;refine wpList_append_own _ hgd s x t ho B 65 i _ 4 32 he.und hi hz hsz hbs he.zs he.pos v l.length (flatS l) hs (ho'.alloc _) ⟨wr.heap.size, 0, none⟩ 1 1 (stpC r) hx rfl ?_ ?_ ?_ ?_ ?_ ?_
 ·intro j u hj
  rw [Addr.add_lit, Nat.zero_add];exact zz00 (zz02 wr (.cells (stpC r).toArray 65)) j u (by simpa using hj)
 ·intro u hu
  simp only [stpC, List.mem_cons, List.not_mem_nil, or_false] at hu;rcases hu with rfl | rfl | rfl | rfl <;> rfl
 ·unfold maxLen; omega
 ·omega
 ·simp; omega
 ·intro v' w' h1 h2 _
  have hoth : ∀ (g : Nat) (ob : Obj), v.ownBlock ≠ some g → wr.heap[g]? = some ob → w'.heap[g]? = some ob := by
   intro g ob hne hg;have hlt := zL hg;rw [h2.block g (by simp; omega) (fun e => hne e.symm)]
   exact zz04 hg _
  have hsz : wr.heap.size ≤ w'.heap.size := by have := h2.size; simp at this; omega
  refine h v' w' ⟨?_, ?_⟩ ((hb.alloc hB _).grown h2 (by simp; omega) (fun q hq => (ho'.lt q hq).1)) ?_ (Off.app hown.out hsz hoth) hoth
  ·rw [List.length_append, zz85, show flatS [r] = stpC r by simp [flatS]]
   exact h1
  ·exact zt85
  ·omega
end
theorem zz0a {w : World} {g h : Nat} {cs cs' : Array Value} {t t' : TypeId} {fr fr' : Nat × Nat} (hg : w.heap[g]? = some (.cells cs t fr)) (hh : w.heap[h]? = some (.cells cs' t' fr')) (hne : t ≠ t') : g ≠ h := by
 intro e;subst e;rw [hg] at hh;injection hh with hh
 injection hh with _ hh _
 exact hne hh
theorem zz38 {P : Program} {fn : Func} {p : Tmp} {ty : TypeId} (h : fn.results = #[.cell p ty]) (tmps : Array Value) (w : World) (g : Nat) (t : TypeId) (cs : Array Value) (d : TypeDesc)
  (hp : tmps.getD p undef = .pointer (some ⟨g, 0, none⟩)) (hg : w.heap[g]? = some (.cells cs t (0, 0)))
  (hu : P.underlying ty = some d) (hd : (match d with | .struct _ | .array _ _ => true | _ => false) = true) (hi : (P.info? ty).map (·.size) = some cs.size) : (results fn tmps).run P w = .ok (.agg cs) w := by
 have hp' : tmps[p]?.getD undef = .pointer (some ⟨g, 0, none⟩) := by simpa using hp
 simp [results, h, hp', asAddr, run_loadVar_row w g t ty cs (0, 0) d hg hu hd hi]
structure Gt (w0 : World) (g : Nat) (vh vs vo vr : Value) (b : Bk) (e : Ev) (rate : Int) (l : List Stp) (w : World) : Prop where
 blk : ∃ v, w.heap[g]? = some (.cells #[vh, vs, vo, vr, b.n, e.kind, e.acc, e.ord, e.sym, e.side, e.qty, e.px, rate, v] 68 (0, 0)) ∧ StepsOwn w w0.heap.size v l
 below : Below w0.heap.size w0 w
 le : w0.heap.size ≤ g
theorem Gt.kept {w0 : World} {g : Nat} {vh vs vo vr : Value} {b : Bk} {e : Ev} {rate : Int} {l : List Stp} {w w' : World} (h : Gt w0 g vh vs vo vr b e rate l w) (hb : Below w.heap.size w w') : Gt w0 g vh vs vo vr b e rate l w' := by
 obtain ⟨v, h1, h2⟩ := h.blk;exact ⟨⟨v, zz06 h1 hb, h2.kept hb⟩, h.below.trans (hb.mono h.below.size), h.le⟩
def putC (w : World) (g : Nat) : Nat → List Value → World
 | _, [] => w
 | o, v :: t => putC (w.setCell ⟨g, o, none⟩ v) g (o + 1) t
def putA (cs : Array Value) : Nat → List Value → Array Value
 | _, [] => cs
 | o, v :: t => putA (cs.setIfInBounds o v) (o + 1) t
theorem zz17 {g : Nat} {t : TypeId} {fr : Nat × Nat} : ∀ {vs : List Value} {o : Nat} {w : World} {cs : Array Value}, w.heap[g]? = some (.cells cs t fr) → (putC w g o vs).heap[g]? = some (.cells (putA cs o vs) t fr)
 | [], _, _, _, h => h
 | v :: us, o, w, cs, h => by
  show (putC (w.setCell ⟨g, o, none⟩ v) g (o + 1) us).heap[g]? = some (.cells (putA (cs.setIfInBounds o v) (o + 1) us) t fr);exact zz17 (zz0d h _ _)
theorem zz03 {g p : Nat} {x : Option Obj} (hne : p ≠ g) : ∀ {vs : List Value} {o : Nat} {w : World}, w.heap[p]? = x → (putC w g o vs).heap[p]? = x
 | [], _, _, h => h
 | v :: us, o, w, h => by
  show (putC (w.setCell ⟨g, o, none⟩ v) g (o + 1) us).heap[p]? = x;exact zz03 hne (zz09 h _ _ hne)
theorem zz1v {g B : Nat} {a : World} (hg : B ≤ g) : ∀ {vs : List Value} {o : Nat} {w : World}, Below B a w → Below B a (putC w g o vs)
 | [], _, _, h => h
 | v :: us, o, w, h => by
  show Below B a (putC (w.setCell ⟨g, o, none⟩ v) g (o + 1) us);exact zz1v hg (h.setCell (p := ⟨g, o, none⟩) hg _)
theorem zz0t {g B : Nat} {v : Value} {l : List Stp} {t : TypeId} {fr : Nat × Nat} (hne : t ≠ 65) : ∀ {vs : List Value} {o : Nat} {w : World} {cs : Array Value}, w.heap[g]? = some (.cells cs t fr) → StepsOwn w B v l → StepsOwn (putC w g o vs) B v l
 | [], _, _, _, _, h => h
 | u :: us, o, w, cs, hg, h => by
  show StepsOwn (putC (w.setCell ⟨g, o, none⟩ u) g (o + 1) us) B v l;exact zz0t hne (zz0d hg _ _) (h.setOther hg hne _ _)
theorem zO {w s : World} {g p o : Nat} {vs : List Value} (E : putC w g o vs = s) {cs cs' : Array Value} {t t' : TypeId} {fr fr' : Nat × Nat} (hg : Hid (w.heap[g]? = some (.cells cs t fr))) (hp : Hid (w.heap[p]? = some (.cells cs' t' fr'))) (hne : t' ≠ t := by decide) : Hid (s.heap[p]? = some (.cells cs' t' fr')) := E ▸ zz03 (zz0a hp.out hg.out hne) hp.out
theorem zN {w s : World} {g p o : Nat} {vs : List Value} (E : putC w g o vs = s) {x : Option Obj} (hp : Hid (w.heap[p]? = x)) (hne : p ≠ g) : Hid (s.heap[p]? = x) := E ▸ zz03 hne hp.out
theorem zP {w s : World} {g o : Nat} {vs : List Value} (E : putC w g o vs = s) {cs : Array Value} {t : TypeId} {fr : Nat × Nat} (hg : Hid (w.heap[g]? = some (.cells cs t fr))) : Hid (s.heap[g]? = some (.cells (putA cs o vs) t fr)) := E ▸ zz17 hg.out
theorem zQ {w s a : World} {g o B : Nat} {vs : List Value} (E : putC w g o vs = s) (hg : Hid (B ≤ g)) (h : Hid (Below B a w)) : Hid (Below B a s) := E ▸ zz1v hg.out h.out
theorem zD {w w' : World} {g : Nat} {cs : Array Value} {t : TypeId} {fr : Nat × Nat} (ho : Off w w') (h : Hid (w.heap[g]? = some (.cells cs t fr))) (h1 : t ≠ 68 := by decide) (h2 : t ≠ 65 := by decide) : Hid (w'.heap[g]? = some (.cells cs t fr)) := ho.blk _ _ _ _ h.out h1 h2
theorem zX {a w w' : World} (h : Hid (Off a w)) (hb : Below w.heap.size w w') : Hid (Off a w') := h.out.trans (Off.of hb)
theorem zV1 {w s : World} {g : Nat} {a : Value} (h : w.setCell ⟨g, 0, none⟩ a = s) : ∃ vs, putC w g 0 vs = s ∧ vs = [a] := ⟨[a], h, rfl⟩
theorem zV2 {w s : World} {g : Nat} {a b : Value} (h : (w.setCell ⟨g, 0, none⟩ a).setCell ⟨g, 1, none⟩ b = s) : ∃ vs, putC w g 0 vs = s ∧ vs = [a, b] := ⟨[a, b], h, rfl⟩
theorem zV4 {w s : World} {g : Nat} {a b c d : Value} (h : (((w.setCell ⟨g, 0, none⟩ a).setCell ⟨g, 1, none⟩ b).setCell ⟨g, 2, none⟩ c).setCell ⟨g, 3, none⟩ d = s) : ∃ vs, putC w g 0 vs = s ∧ vs = [a, b, c, d] := ⟨[a, b, c, d], h, rfl⟩
theorem zV5 {w s : World} {g : Nat} {a b c d e : Value} (h : ((((w.setCell ⟨g, 0, none⟩ a).setCell ⟨g, 1, none⟩ b).setCell ⟨g, 2, none⟩ c).setCell ⟨g, 3, none⟩ d).setCell ⟨g, 4, none⟩ e = s) : ∃ vs, putC w g 0 vs = s ∧ vs = [a, b, c, d, e] := ⟨[a, b, c, d, e], h, rfl⟩
theorem zV6 {w s : World} {g : Nat} {a b c d e f : Value} (h : (((((w.setCell ⟨g, 0, none⟩ a).setCell ⟨g, 1, none⟩ b).setCell ⟨g, 2, none⟩ c).setCell ⟨g, 3, none⟩ d).setCell ⟨g, 4, none⟩ e).setCell ⟨g, 5, none⟩ f = s) : ∃ vs, putC w g 0 vs = s ∧ vs = [a, b, c, d, e, f] := ⟨[a, b, c, d, e, f], h, rfl⟩
abbrev zG (w : World) (g : Nat) (A : Option Addr) (a : Nat) (B : Option Addr) (b : Nat) (C : Option Addr) (c : Nat) (D : Option Addr) (d : Nat) (k : Bk) (e : Ev) (rate : Int) : Prop := Hid (∃ vX : Value, w.heap[g]? = some (.cells #[.slice A k.h.length a, .slice B k.s.length b, .slice C k.o.length c, .slice D k.r.length d, .int .i64 k.n, .int .i64 e.kind, .int .i64 e.acc, .int .i64 e.ord, .int .i64 e.sym, .int .i64 e.side, .int .i64 e.qty, .int .i64 e.px, .int .i64 rate, vX] 68 (0, 0)))
theorem Gt.put {w0 : World} {g : Nat} {vh vs vo vr : Value} {b : Bk} {e : Ev} {rate : Int} {l : List Stp} {w : World} (h : Gt w0 g vh vs vo vr b e rate l w) {p : Nat} {cs : Array Value} {t : TypeId} {fr : Nat × Nat} (hp : w.heap[p]? = some (.cells cs t fr)) (h1 : t ≠ 68) (h2 : t ≠ 65) (hge : w0.heap.size ≤ p) (o : Nat) (us : List Value) : Gt w0 g vh vs vo vr b e rate l (putC w p o us) := by
 obtain ⟨v, hg, ho⟩ := h.blk;exact ⟨⟨v, zz03 (zz0a hg hp (fun e => h1 e.symm)) hg, zz0t h2 hp ho⟩, zz1v hge h.below, h.le⟩
def LookOn (I : List Stp → World → Prop) (W : World) (K : Nat) (caps : Array Value) (s : Stp) : Prop :=
 ∀ (w : World) (l : List Stp), l.length ≤ 100 → I l w → Off W w → Calls Tryz.prog K caps w fun e w' => e = .returned (.bool s.holds) ∧ I (l ++ [s]) w' ∧ Off w w'
def LookIs (I : List Stp → World → Prop) (W : World) (f : Value) (s : Stp) : Prop :=
 ∃ K caps, f = .func (.func K) #[] caps ∧ (∀ args w, (callFunc K args).run Tryz.prog w = .ok (.enter K args) w) ∧ LookOn I W K caps s
theorem LookIs.off {I : List Stp → World → Prop} {W W' : World} {f : Value} {s : Stp} (h : LookIs I W f s) (ho : Off W W') : LookIs I W' f s := by
 obtain ⟨K, caps, h1, h2, h3⟩ := h;exact ⟨K, caps, h1, h2, fun w l hl hI hW => h3 w l hl hI (ho.trans hW)⟩
theorem zz6j {α β : Type} (f : α → β) {l : List α} {i : Nat} (h : i < l.length) : (l.take (i + 1)).map f = (l.take i).map f ++ [f l[i]] := by
 rw [List.take_add_one, List.getElem?_eq_getElem h, List.map_append]; rfl
theorem zzbx (I : List Stp → World → Prop) (p n cap : Nat) (l : List (Value × Stp)) (cs : Array Value) (S0 : List Stp) (w : World) (hn : l.length = n) (hcs : Hid (∀ (i : Nat) (h : i < l.length), cs[i]? = some l[i].1)) (hp : Hid (w.heap[p]? = some (.cells cs 72 (0, 0)))) (hl : Hid (∀ x ∈ l, LookIs I w x.1 x.2)) (hI : Hid (I S0 w)) (hS : Hid (S0.length + n ≤ 100)) :
  Calls Tryz.prog 35 #[.slice (some ⟨p, 0, none⟩) n cap] w fun e w' => e = .returned (.bool ((l.map (·.2)).all (·.holds))) ∧ I (S0 ++ cutL (l.map (·.2))) w' ∧ Off w w' := by
 subst hn;obtain ⟨Res, hRes⟩ : ∃ Res, (l.map (·.2)).all (·.holds) = Res := ⟨_, rfl⟩;rw [hRes];replace hRes := zH hRes;obtain ⟨n, hn⟩ : ∃ n, l.length = n := ⟨_, rfl⟩;rw [hn] at hS ⊢;replace hn := zH hn;have hn60 : n ≤ 100 := by have := hS.out; omega
 go_in;go_wp2_with fail;go_loopw [7] (fun s7 wr => ∃ i : Nat, s7 = .int .i64 (i : Int) ∧ Hid (i ≤ n) ∧ Hid (((l.take i).map (·.2)).all (·.holds) = true) ∧ Hid (I (S0 ++ (l.take i).map (·.2)) wr) ∧ Hid (Off w wr)) (fun s7 _ => n - (intOf s7).toNat)
 case atStart => exact ⟨0, rfl, Nat.zero_le _, rfl, (show I (S0 ++ []) w from by rw [List.append_nil]; exact hI.out), Off.refl _⟩
 case round =>
  obtain ⟨i, rfl, hil, hall, HI, HO⟩ := hrel;replace hil := hil.out;by_cases hin : i < n
  ·have tn : decide ((i : Int) < (n : Int)) = true := decide_eq_true zw
   have hlt : i < l.length := by rw [hn.out]; exact hin
   have hblk : Hid (wr.heap[p]? = some (.cells cs 72 (0, 0))) := HO.out.blk p _ _ _ hp.out zx zx;have hc : wr.cell? ⟨p, i, none⟩ = some l[i].1 := zz00 hblk.out i _ (hcs.out i hlt);have HT : Hid ((l.take (i + 1)).map (·.2) = (l.take i).map (·.2) ++ [l[i].2]) := zz6j _ hlt;have hk := (hl.out l[i] (List.getElem_mem hlt)).off HO.out;have HD : Hid (∃ m, l.map (·.2) = ((l.take i).map (·.2) ++ [l[i].2]) ++ m) := ⟨(l.drop (i + 1)).map (·.2), by rw [← HT.out, ← List.map_append, List.take_append_drop]⟩
   have hlen : (S0 ++ (l.take i).map (·.2)).length ≤ 100 := by have := hS.out; simp; omega
   generalize l[i] = x at *;obtain ⟨f, s⟩ := x;simp only [] at hc hk HT HD;obtain ⟨K, caps, rfl, eg, hlook⟩ := hk;have hcall := zH (hlook wr _ hlen HI.out (Off.refl _));obtain ⟨F, hF⟩ : ∃ F, s.holds = F := ⟨_, rfl⟩;rw [hF] at hcall;replace hF := zH hF;clear hlook hlen hblk;cases F with
   | true =>
    go_wp2_with (go_at_fn K; refine hcall.out.mono ?_; rintro e w2 ⟨rfl, hI2, ho2⟩);have HI2 := zH hI2;have HO2 := zH (HO.out.trans ho2);clear hI2 ho2;go_roundw
    case rel => exact ⟨i + 1, by go_num, by show _ ≤ _; omega, (show _ = _ from by rw [HT.out, List.all_append, hall.out]; simp [hF.out]), (show I _ _ from by rw [HT.out, ← List.append_assoc]; exact HI2.out), HO2.out⟩
    case measure => simp [intOf]; omega
   | false =>
    go_wp2_with (go_at_fn K; refine hcall.out.mono ?_; rintro e w2 ⟨rfl, hI2, ho2⟩);go_ret;obtain ⟨m, hm⟩ := HD.out;have hcut : cutL (l.map (·.2)) = (l.take i).map (·.2) ++ [s] := by
     rw [hm, List.append_assoc, zz88, hall.out, if_pos rfl, zzbs hall.out]
     congr 1
     rw [List.cons_append, cutL, hF.out]
     rfl
    have hR : Res = false := by rw [← hRes.out, hm]; simp [hF.out]
    subst hR;rw [hcut, ← List.append_assoc];exact ⟨rfl, hI2, HO.out.trans ho2⟩
  ·have tn : decide ((i : Int) < (n : Int)) = false := decide_eq_false zw
   have hz : l.take i = l := List.take_of_length_le (by rw [hn.out]; omega)
   rw [hz] at hall HI;have hR : Res = true := hRes.out.symm.trans hall.out;subst hR;go_wp2_with fail;go_ret;rw [zzbs hall.out];exact ⟨rfl, HI.out, HO.out⟩
theorem zz5h (I : List Stp → World → Prop) (p n : Nat) (l : List (Value × Stp)) (cs : Array Value) (S0 : List Stp) (w : World) (hn : l.length = n) (hcs : (l.map (·.1)).toArray = cs) (hp : Hid (w.heap[p]? = some (.cells cs 72 (0, 0)))) (hl : Hid (∀ x ∈ l, LookIs I w x.1 x.2)) (hI : Hid (I S0 w)) (hS : Hid (S0.length + n ≤ 100)) :
  Calls Tryz.prog 35 #[.slice (some ⟨p, 0, none⟩) n n] w fun e w' => e = .returned (.bool ((l.map (·.2)).all (·.holds))) ∧ I (S0 ++ cutL (l.map (·.2))) w' ∧ Off w w' :=
 zzbx I p n n l cs S0 w hn (show _ from fun i h => by rw [← hcs]; simp [h]) hp hl hI hS
section
variable (w0 : World) (g : Nat) (vh vs vo vr : Value) (b : Bk) (e : Ev) (rate : Int)
theorem Gt.law {w0 : World} {g : Nat} {vh vs vo vr : Value} {b : Bk} {e : Ev} {rate : Int} {l : List Stp} {w : World} (h : Gt w0 g vh vs vo vr b e rate l w) (hT : Law16 w0) : Law16 w := hT.call h.below
theorem Holds_ag (r a b : Int) (o : Bool) (hs : Stp.fit ⟨r, a, b, o⟩) (w : World) (hT : Hid (Law16 w)) : Calls Tryz.prog 91 #[.agg #[r, a, b, .bool o]] w fun e w' => e = .returned (.bool (Stp.mk r a b o).holds) ∧ Below w.heap.size w w' := zz6a ⟨r, a, b, o⟩ hs w hT
theorem sides1_on (hT : Hid (Law16 w0)) (n x y : Int) (hs : Hid ((sS n x y).fit)) (W : World) (p1 p2 p3 p4 : Nat) (h1 : ZB W p1 #[n] 3) (h2 : ZB W p2 #[x] 2) (h3 : ZB W p3 #[y] 2) (h4 : ZB W p4 #[.pointer (some ⟨g, 0, none⟩)] 66) :
  LookOn (Gt w0 g vh vs vo vr b e rate) W 90 #[.pointer (some ⟨p1, 0, none⟩), .pointer (some ⟨p2, 0, none⟩), .pointer (some ⟨p3, 0, none⟩), .pointer (some ⟨p4, 0, none⟩)] (sS n x y) := by
 intro w l hl hI hW;have HG := zH hI;have K1 : ZB w p1 #[n] 3 := hW.blk _ _ _ _ h1.out zx zx;have K2 : ZB w p2 #[x] 2 := hW.blk _ _ _ _ h2.out zx zx;have K3 : ZB w p3 #[y] 2 := hW.blk _ _ _ _ h3.out zx zx;have K4 : ZB w p4 #[.pointer (some ⟨g, 0, none⟩)] 66 := hW.blk _ _ _ _ h4.out zx zx;clear hI hW h1 h2 h3 h4;obtain ⟨vS, hg, ho⟩ := HG.out.blk;obtain ⟨A, c, rfl⟩ := ho.form;have KG := zH hg;have OS := zH ho;clear hg ho;obtain ⟨w1, hw1⟩ : ∃ w1, w.alloc (.cells #[n, x, y, .bool false] 65) = w1 := ⟨_, rfl⟩;have HB1 : Hid (Below w.heap.size w w1) := by rw [← hw1]; exact zBa
 have S1 : ZB w1 w.heap.size #[n, x, y, .bool false] 65 := by rw [← hw1]; exact zz02 _ _
 have G1 := zH (zz06 KG.out HB1.out);have P1 := zH (zz06 K4.out HB1.out);have O1 := zH (OS.out.kept HB1.out);have HI1 := zH (HG.out.kept HB1.out);have HW1 := zH hw1;clear hw1;have a1 := zz00 K1.out 0 _ rfl;have a2 := zz00 K2.out 0 _ rfl;have a3 := zz00 K3.out 0 _ rfl;have a4 := zz00 K4.out 0 _ rfl;go_in;go_wp2_with fail;rw [HW1.out];clear a1 a2 a3 a4 HW1;replace KG := G1;clear G1;have HF : Hid (Off w w1) := Off.of HB1.out;have hneS : (Value.slice A l.length c).ownBlock ≠ some w.heap.size := fun h => by
  have := (OS.out.1.lt _ h).2;omega
 clear OS K1 K2 K3 K4;refine zS3 [10] 11 P1 KG S1 ?_;intro wd1 hbwd1;replace P1 := zK P1 hbwd1;replace KG := zK KG hbwd1;replace S1 := zK S1 hbwd1;replace O1 := zH (O1.out.kept hbwd1);replace HI1 := zH (HI1.out.kept hbwd1);replace HF := zX HF hbwd1;clear hbwd1;refine zM [0, 1, 2, 3, 4, 5] 5 ⟨P1, KG, S1⟩ ?_;simp only [opsAt, zA];refine zq (fun wz hC => zC hC.1.out) ?_
 refine zq (fun wz hC => zC hC.1.out) ?_
 iterate 2 refine zp ?_
 refine zq (fun wz hC => zC hC.2.1.out) ?_
 refine zq (fun wz hC => zC hC.2.2.out) ?_
 unfold wpPure;go_simp;refine zW 6 ?_;go_wp2_with fail;refine zQs (fun _ => ⟨zz04 P1.out _, zz04 KG.out _, zz04 S1.out _⟩) ?_
 refine zW 7 ?_;refine zz15 (W := w0) (B := w0.heap.size) _ _ 34 zz8z (⟨n, x, y, false⟩ : Stp) (.slice A l.length c) l HI1.out.below (zH O1.out) HI1.out.below.size rfl rfl rfl rfl rfl hs.out zw ?_;intro v2 wg2 ho2 hb2 hB2 hoff hoth;have hneG : (Value.slice A l.length c).ownBlock ≠ some g := O1.out.ne KG.out zx;replace P1 := zH (hoff.out.blk _ _ _ _ P1.out zx zx);replace KG := zH (hoth.out _ _ hneG KG.out);replace S1 := zH (hoth.out _ _ hneS S1.out);replace HF := zH (HF.out.trans hoff.out);clear hoth hoff hneG;obtain ⟨A2, c2, hA2⟩ := ho2.out.form;obtain ⟨k2, hk2⟩ : ∃ k2, (l ++ [(⟨n, x, y, false⟩ : Stp)]).length = k2 := ⟨_, rfl⟩;rw [hk2] at hA2;subst hA2;clear hk2;go_wp2_with fail;refine zQs (fun _ => ⟨P1, KG, S1⟩) ?_
 refine zW 8 ?_;go_wp2_with fail;refine zQs (fun _ => ⟨P1, KG, S1⟩) ?_
 refine zW 9 ?_;go_wp2_with fail;refine zQs (fun _ => ⟨P1, KG, S1⟩) ?_
 have c_g_0 := zC KG.out;have fc_g_0 := zF KG.out;refine zW 10 ?_;go_wp2_with fail;clear c_g_0 fc_g_0;refine zQs (fun h => absurd h zx) ?_
 refine zQe ?_;generalize hw3 : World.setCell _ _ _ = wg3;have HG3 : Hid (Gt w0 g vh vs vo vr b e rate (l ++ [(⟨n, x, y, false⟩ : Stp)]) wg3) := ⟨⟨_, by rw [← hw3]; exact zz0d KG.out 13 _, by rw [← hw3]; exact ho2.out.setOther KG.out zx 13 _⟩, by rw [← hw3]; exact hb2.out.setCell (p := ⟨g, 13, none⟩) HI1.out.le _, HI1.out.le⟩
 have HF3 : Hid (Off w wg3) := HF.out.trans (by rw [← hw3]; exact Off.set KG.out 13 _)
 have S3 := zH (zz09 S1.out 13 (.slice A2 k2 c2) (zz0a S1.out KG.out zx));rw [hw3] at S3;clear hw3 KG S1 P1;have s0 := zC S3.out;go_wp2_with fail;have hfit : Stp.fit ⟨n, x, y, false⟩ := hs.out;(with_reducible refine (Holds_ag n x y false hfit _ (zH (HG3.out.law hT.out))).mono ?_);rintro e w9 ⟨rfl, hb⟩;clear s0;go_wp2_with fail;go_ret;exact ⟨rfl, HG3.out.kept hb, HF3.out.trans (Off.of hb)⟩
end
def SideOn (I : List Stp → World → Prop) (W : World) (f : Value) (x y : Int) (fits : Bool) : Prop :=
 ∃ K caps, f = .func (.func K) #[] caps ∧ (∀ args w, (callFunc K args).run Tryz.prog w = .ok (.enter K args) w) ∧
  ∀ (w : World) (l : List Stp), I l w → Off W w → Calls Tryz.prog K caps w fun e w' => e = .returned (.tuple #[.int .i64 x, .int .i64 y, .bool fits]) ∧ Below w.heap.size w w'
section
variable (w0 : World) (g : Nat) (vh vs vo vr : Value) (b : Bk) (e : Ev) (rate : Int)
theorem zz0i (hT : Hid (Law16 w0)) (n x y : Int) (hs : Hid ((sS n x y).fit)) (w : World) :
  Calls Tryz.prog 36 #[.pointer (some ⟨g, 0, none⟩), .int .i64 n, .int .i64 x, .int .i64 y] w fun r w' => ∃ f, r = .returned f ∧ LookIs (Gt w0 g vh vs vo vr b e rate) w' f (sS n x y) ∧ Below w.heap.size w w' := by
 have K1 : Hid (((((w.alloc (.cells #[.pointer (some ⟨g, 0, none⟩)] 66)).alloc (.cells #[n] 3)).alloc (.cells #[x] 2)).alloc (.cells #[y] 2)).heap[w.heap.size]? = some (.cells #[.pointer (some ⟨g, 0, none⟩)] 66 (0, 0))) := zz04 (zz04 (zz04 (zz02 _ _) _) _) _;have K2 : Hid (((((w.alloc (.cells #[.pointer (some ⟨g, 0, none⟩)] 66)).alloc (.cells #[n] 3)).alloc (.cells #[x] 2)).alloc (.cells #[y] 2)).heap[w.heap.size + 1]? = some (.cells #[n] 3 (0, 0))) := zz04 (zz04 (zz0e _ _ _ (by simp)) _) _
 have K3 : Hid (((((w.alloc (.cells #[.pointer (some ⟨g, 0, none⟩)] 66)).alloc (.cells #[n] 3)).alloc (.cells #[x] 2)).alloc (.cells #[y] 2)).heap[w.heap.size + 2]? = some (.cells #[x] 2 (0, 0))) := zz04 (zz0e _ _ _ (by simp)) _
 have K4 : Hid (((((w.alloc (.cells #[.pointer (some ⟨g, 0, none⟩)] 66)).alloc (.cells #[n] 3)).alloc (.cells #[x] 2)).alloc (.cells #[y] 2)).heap[w.heap.size + 3]? = some (.cells #[y] 2 (0, 0))) := zz0e _ _ _ (by simp)
 have HB : Hid (Below w.heap.size w ((((w.alloc (.cells #[.pointer (some ⟨g, 0, none⟩)] 66)).alloc (.cells #[n] 3)).alloc (.cells #[x] 2)).alloc (.cells #[y] 2))) := zz01 (zz01 (zz01 zBa zo _) zo _) zo _;go_in;go_wp2_with fail;go_ret;exact ⟨_, rfl, ⟨90, _, rfl, fun args w => enters_of Tryz.func90 zk rfl _ w, sides1_on w0 g vh vs vo vr b e rate hT n x y hs _ _ _ _ _ K2 K3 K4 K1⟩, HB.out⟩
theorem exact1_on (hT : Hid (Law16 w0)) (n x y : Int) (fits : Bool) (fS : Value) (hn : Hid (I64 n)) (hs : Hid ((sS n x y).fit)) (W : World) (p1 p2 p3 : Nat) (hS : Hid (SideOn (Gt w0 g vh vs vo vr b e rate) W fS x y fits)) (h1 : ZB W p1 #[fS] 127) (h2 : ZB W p2 #[.pointer (some ⟨g, 0, none⟩)] 66) (h3 : ZB W p3 #[n] 3) :
  LookOn (Gt w0 g vh vs vo vr b e rate) W 144 #[.pointer (some ⟨p1, 0, none⟩), .pointer (some ⟨p2, 0, none⟩), .pointer (some ⟨p3, 0, none⟩)] (oS n x y fits) := by
 intro w l hl hI hW;have HG := zH hI;have K1 : ZB w p1 #[fS] 127 := hW.blk _ _ _ _ h1.out zx zx;have K2 : ZB w p2 #[.pointer (some ⟨g, 0, none⟩)] 66 := hW.blk _ _ _ _ h2.out zx zx;have K3 : ZB w p3 #[n] 3 := hW.blk _ _ _ _ h3.out zx zx;obtain ⟨K, caps, rfl, eg, hcall⟩ := hS.out;have hcall2 := zH (hcall w l hI hW);clear hI hW h1 h2 h3 hS hcall;have a1 := zz00 K1.out 0 _ rfl;have a2 := zz00 K2.out 0 _ rfl;have a3 := zz00 K3.out 0 _ rfl;cases fits with
 | true =>
  go_in;go_wp2_with (go_at_fn K; refine hcall2.out.mono ?_; rintro r w1 ⟨rfl, hb⟩; have J2 := zH (zz06 K2.out hb); have J3 := zH (zz06 K3.out hb); have HG1 := zH (HG.out.kept hb); have HO1 := zH (Off.of hb); clear hb; have b2 := zz00 J2.out 0 _ rfl; have b3 := zz00 J3.out 0 _ rfl);(with_reducible refine (zz0i w0 g vh vs vo vr b e rate hT n x y hs _).mono ?_);rintro r w2 ⟨f2, rfl, ⟨K', caps', rfl, eg', hlook⟩, hb⟩;have hc := zH (hlook w2 l hl (HG1.out.kept hb) (Off.refl _));have HO2 := zH (HO1.out.trans (Off.of hb));clear hb b2 b3 a1 a2 a3 J2 J3 HG1 HO1 hlook;obtain ⟨R, hR⟩ : ∃ R, (sS n x y).holds = R := ⟨_, rfl⟩;rw [hR] at hc;have hR2 : Hid ((oS n x y true).holds = R) := hR;clear hR;go_wp2_with (go_at_fn K'; refine hc.out.mono ?_; rintro r w3 ⟨rfl, hI3, ho3⟩);go_ret;rw [hR2.out];exact ⟨rfl, hI3, HO2.out.trans ho3⟩
 | false =>
  clear hs;obtain ⟨vS, hg, ho⟩ := HG.out.blk;obtain ⟨A, c, rfl⟩ := ho.form;have KG := zH hg;have OS := zH ho;clear hg ho;go_in;go_wp2_with (go_at_fn K; refine hcall2.out.mono ?_; rintro r w1 ⟨rfl, hb⟩);replace KG := zK KG hb;replace K2 := zK K2 hb;replace K3 := zK K3 hb;have O1 := zH (OS.out.kept hb);have HI1 := zH (HG.out.kept hb);have HF : Hid (Off w w1) := Off.of hb;clear hb a1 a2 a3 K1 HG hcall2 OS;go_wp2_with fail;refine zS3 [11] 12 K2 K3 KG ?_;intro wd1 hbwd1;replace K2 := zK K2 hbwd1;replace K3 := zK K3 hbwd1;replace KG := zK KG hbwd1;replace O1 := zH (O1.out.kept hbwd1);replace HI1 := zH (HI1.out.kept hbwd1);replace HF := zX HF hbwd1;clear hbwd1;refine zM [0, 1, 2, 3, 4, 5, 6] 5 ⟨K2, K3, KG⟩ ?_;simp only [opsAt, zA];refine zq (fun wz hC => zC hC.1.out) ?_
  refine zq (fun wz hC => zC hC.1.out) ?_
  iterate 2 refine zp ?_
  refine zq (fun wz hC => zC hC.2.2.out) ?_
  refine zq (fun wz hC => zC hC.2.1.out) ?_
  refine zp ?_;unfold wpPure;go_simp;have hfit : Stp.fit ⟨n, 0, 0, true⟩ := ⟨hn.out, by show I64 0; unfold I64; omega, by show I64 0; unfold I64; omega⟩
  refine zW 7 ?_;go_wp2_with fail;refine zQs (fun _ => ⟨zz04 K2.out _, zz04 K3.out _, zz04 KG.out _⟩) ?_
  refine zW 8 ?_;refine zz15 (W := w0) (B := w0.heap.size) _ _ 34 zz8z (⟨n, 0, 0, true⟩ : Stp) (.slice A l.length c) l HI1.out.below (zH O1.out) HI1.out.below.size rfl rfl rfl rfl rfl hfit zw ?_;intro v2 wg2 ho2 hb2 hB2 hoff hoth;have hneG : (Value.slice A l.length c).ownBlock ≠ some g := O1.out.ne KG.out zx;replace K2 := zH (hoff.out.blk _ _ _ _ K2.out zx zx);replace K3 := zH (hoff.out.blk _ _ _ _ K3.out zx zx);replace KG := zH (hoth.out _ _ hneG KG.out);replace HF := zH (HF.out.trans hoff.out);clear hoth hoff hneG;obtain ⟨A2, c2, hA2⟩ := ho2.out.form;obtain ⟨k2, hk2⟩ : ∃ k2, (l ++ [(⟨n, 0, 0, true⟩ : Stp)]).length = k2 := ⟨_, rfl⟩;rw [hk2] at hA2;subst hA2;clear hk2;go_wp2_with fail;refine zQs (fun _ => ⟨K2, K3, KG⟩) ?_
  refine zW 9 ?_;go_wp2_with fail;refine zQs (fun _ => ⟨K2, K3, KG⟩) ?_
  refine zW 10 ?_;go_wp2_with fail;refine zQs (fun _ => ⟨K2, K3, KG⟩) ?_
  have c_g_0 := zC KG.out;have fc_g_0 := zF KG.out;refine zW 11 ?_;go_wp2_with fail;clear c_g_0 fc_g_0;refine zQs (fun h => absurd h zx) ?_
  refine zQe ?_;generalize hw3 : World.setCell _ _ _ = wg3;have HG3 : Hid (Gt w0 g vh vs vo vr b e rate (l ++ [(⟨n, 0, 0, true⟩ : Stp)]) wg3) := ⟨⟨_, by rw [← hw3]; exact zz0d KG.out 13 _, by rw [← hw3]; exact ho2.out.setOther KG.out zx 13 _⟩, by rw [← hw3]; exact hb2.out.setCell (p := ⟨g, 13, none⟩) HI1.out.le _, HI1.out.le⟩
  have HF3 : Hid (Off w wg3) := HF.out.trans (by rw [← hw3]; exact Off.set KG.out 13 _)
  go_wp2_with fail;go_ret;exact ⟨rfl, HG3.out, HF3.out⟩
theorem zz2y (hT : Hid (Law16 w0)) (n x y : Int) (fits : Bool) (fS : Value) (hn : Hid (I64 n)) (hs : Hid ((sS n x y).fit)) (w : World) (hS : Hid (SideOn (Gt w0 g vh vs vo vr b e rate) w fS x y fits)) :
  Calls Tryz.prog 77 #[.pointer (some ⟨g, 0, none⟩), .int .i64 n, fS] w fun r w' => ∃ f, r = .returned f ∧ LookIs (Gt w0 g vh vs vo vr b e rate) w' f (oS n x y fits) ∧ Below w.heap.size w w' := by
 obtain ⟨K, caps, rfl, eg, hcall⟩ := hS.out;obtain ⟨w3, hw3⟩ : ∃ w3, ((w.alloc (.cells #[.pointer (some ⟨g, 0, none⟩)] 66)).alloc (.cells #[n] 3)).alloc (.cells #[.func (.func K) #[] caps] 127) = w3 := ⟨_, rfl⟩;have K1 : ZB w3 w.heap.size #[.pointer (some ⟨g, 0, none⟩)] 66 := by rw [← hw3]; exact zz04 (zz04 (zz02 _ _) _) _
 have K2 : ZB w3 (w.heap.size + 1) #[n] 3 := by rw [← hw3]; exact zz04 (zz0e _ _ _ (by simp)) _
 have K3 : ZB w3 (w.heap.size + 2) #[.func (.func K) #[] caps] 127 := by rw [← hw3]; exact zz0e _ _ _ (by simp)
 have HB : Hid (Below w.heap.size w w3) := by rw [← hw3]; exact zz01 (zz01 zBa zo _) zo _
 have HS3 : Hid (SideOn (Gt w0 g vh vs vo vr b e rate) w3 (.func (.func K) #[] caps) x y fits) := ⟨K, caps, rfl, eg, fun wz l hI hO => hcall wz l hI ((Off.of HB.out).trans hO)⟩
 have HW3 := zH hw3;clear hw3 hcall hS;go_in;go_wp2_with fail;rw [HW3.out];go_ret;exact ⟨_, rfl, ⟨144, _, rfl, fun args w => enters_of Tryz.func144 zk rfl _ w, exact1_on w0 g vh vs vo vr b e rate hT n x y fits _ hn hs _ _ _ _ HS3 K3 K1 K2⟩, HB.out⟩
end
structure FreeC where
 i : Nat
 d : Tmp
 R : Nat → Nat → Value → World → Prop
structure RunC where
 lo : Nat
 hi : Nat
 v : Value
def putsE : List FreeC → List RunC → Act → Act
 | e :: es, v :: vs, a => putsE es vs (a.put (some e.d) v.v)
 | _, _, a => a
theorem zz5r (e : FreeC) (v : RunC) (l2 : List FreeC) (v2 : List RunC) : ∀ (l1 : List FreeC) (v1 : List RunC) (a : Act), l1.length = v1.length → (∀ x ∈ l1, x.d ≠ e.d) → putsE (l1 ++ e :: l2) (v1 ++ v :: v2) a = putsE (l1 ++ l2) (v1 ++ v2) (a.put (some e.d) v.v)
 | [], [], a, _, _ => rfl
 | x :: l1, u :: v1, a, hl, hd => by
  show putsE (l1 ++ e :: l2) (v1 ++ v :: v2) (a.put (some x.d) u.v) = putsE (l1 ++ l2) (v1 ++ v2) ((a.put (some e.d) v.v).put (some x.d) u.v);rw [zz5r e v l2 v2 l1 v1 _ (by simpa using hl) (fun y hy => hd y (by simp [hy])), Act.put_comm a u.v v.v (fun d h1 h2 => hd x (by simp) (by injection h1 with h1; injection h2 with h2; rw [h1, h2]))]
def Holds (B : Nat) : List FreeC → List RunC → World → Prop
 | e :: es, v :: vs, w => (e.R v.lo v.hi v.v w ∧ B ≤ v.lo) ∧ Holds B es vs w
 | [], [], _ => True
 | _, _, _ => False
theorem Holds.len {B : Nat} : ∀ {es : List FreeC} {vs : List RunC} {w : World}, Holds B es vs w → es.length = vs.length
 | [], [], _, _ => rfl
 | e :: es, v :: vs, w, h => by simp [Holds.len h.2]
theorem Holds.split {B : Nat} : ∀ {l1 l2 : List FreeC} {vs : List RunC} {w : World}, Holds B (l1 ++ l2) vs w → ∃ v1 v2, vs = v1 ++ v2 ∧ Holds B l1 v1 w ∧ Holds B l2 v2 w
 | [], l2, vs, w, h => ⟨[], vs, rfl, trivial, h⟩
 | e :: l1, l2, v :: vs, w, h => by
  obtain ⟨v1, v2, rfl, h1, h2⟩ := Holds.split h.2;exact ⟨v :: v1, v2, rfl, ⟨h.1, h1⟩, h2⟩
theorem Holds.join {B : Nat} : ∀ {l1 l2 : List FreeC} {v1 v2 : List RunC} {w : World}, Holds B l1 v1 w → Holds B l2 v2 w → Holds B (l1 ++ l2) (v1 ++ v2) w
 | [], _, [], _, _, _, h => h
 | e :: l1, l2, v :: v1, v2, w, h, h2 => ⟨h.1, Holds.join h.2 h2⟩
theorem Holds.lower {B B' : Nat} (hB : B' ≤ B) : ∀ {es : List FreeC} {vs : List RunC} {w : World}, Holds B es vs w → Holds B' es vs w
 | [], [], _, _ => trivial
 | e :: es, v :: vs, w, h => ⟨⟨h.1.1, Nat.le_trans hB h.1.2⟩, Holds.lower hB h.2⟩
theorem Holds.all {B : Nat} : ∀ {es : List FreeC} {vs : List RunC} {w : World}, Holds B es vs w → ∀ v ∈ vs, B ≤ v.lo
 | [], [], _, _, x, hx => by simp at hx
 | e :: es, v :: vs, w, h, x, hx => by
  rcases List.mem_cons.1 hx with rfl | hx
  ·exact h.1.2
  ·exact Holds.all h.2 x hx
def Apart (bf : Nat → Nat → Bool) : List FreeC → List RunC → Prop
 | e :: es, v :: vs => (∀ (k : Nat) (e' : FreeC) (v' : RunC), es[k]? = some e' → vs[k]? = some v' → (v.hi ≤ v'.lo ∨ v'.hi ≤ v.lo) ∧ (bf e.i e'.i = true → v.hi ≤ v'.lo) ∧ (bf e'.i e.i = true → v'.hi ≤ v.lo)) ∧ Apart bf es vs
 | _, _ => True
theorem Apart.mid {bf : Nat → Nat → Bool} {e : FreeC} {v : RunC} {l2 : List FreeC} {v2 : List RunC} : ∀ {l1 : List FreeC} {v1 : List RunC}, l1.length = v1.length → Apart bf (l1 ++ l2) (v1 ++ v2) → (∀ x ∈ v1 ++ v2, v.hi ≤ x.lo) → (∀ x ∈ l1 ++ l2, bf x.i e.i = false) → Apart bf (l1 ++ e :: l2) (v1 ++ v :: v2)
 | [], [], _, h, hx, hb => ⟨fun k e' v' he hv => ⟨.inl (hx v' (List.mem_of_getElem? hv)), fun _ => hx v' (List.mem_of_getElem? hv), fun h' => by rw [hb e' (List.mem_of_getElem? he)] at h'; cases h'⟩, h⟩
 | x :: l1, u :: v1, hl, h, hx, hb => by
  refine ⟨fun k e' v' he hv => ?_, Apart.mid (by simpa using hl) h.2 (fun y hy => hx y (List.mem_cons_of_mem _ hy)) (fun y hy => hb y (List.mem_cons_of_mem _ hy))⟩
  have hl' : l1.length = v1.length := by simpa using hl
  replace he : (l1 ++ e :: l2)[k]? = some e' := he;replace hv : (v1 ++ v :: v2)[k]? = some v' := hv;have h1 : ∀ (k : Nat) (e' : FreeC) (v' : RunC), (l1 ++ l2)[k]? = some e' → (v1 ++ v2)[k]? = some v' → (u.hi ≤ v'.lo ∨ v'.hi ≤ u.lo) ∧ (bf x.i e'.i = true → u.hi ≤ v'.lo) ∧ (bf e'.i x.i = true → v'.hi ≤ u.lo) := h.1;rw [List.getElem?_append] at he hv;by_cases hk : k < l1.length
  ·rw [if_pos hk] at he
   rw [if_pos zw] at hv;exact h1 k e' v' (by rw [List.getElem?_append, if_pos hk]; exact he) (by rw [List.getElem?_append, if_pos zw]; exact hv)
  ·rw [if_neg hk] at he
   rw [if_neg zw] at hv;by_cases h0 : k - l1.length = 0
   ·rw [h0] at he
    rw [show k - v1.length = 0 by omega] at hv
    obtain rfl : e = e' := by simpa using he
    obtain rfl : v = v' := by simpa using hv
    have hux := hx u (by simp)
    have hbx := hb x (by simp)
    refine ⟨.inr hux, ?_, fun _ => hux⟩
    intro h';rw [hbx] at h';cases h'
   ·obtain ⟨m, hm⟩ : ∃ m, k - l1.length = m + 1 := ⟨k - l1.length - 1, by omega⟩
    rw [hm, List.getElem?_cons_succ] at he;rw [show k - v1.length = m + 1 by omega, List.getElem?_cons_succ] at hv
    exact h1 (l1.length + m) e' v' (by rw [List.getElem?_append_right zw, Nat.add_sub_cancel_left]; exact he) (by rw [List.getElem?_append_right zw, hl', Nat.add_sub_cancel_left]; exact hv)
section
variable {P : Program} {ops : Array Oper} {md : Region.Mode} {C : World → Prop} {ex : List Nat}
def readyAll (md : Region.Mode) (ops : Array Oper) (bf : Nat → Nat → Bool) (Lf : Array Bool) : Nat → List Nat → Array Bool → Bool
 | 0, is, L => is.isEmpty && L == Lf
 | n + 1, is, L => !(Region.ready md ops L).isEmpty && (Region.ready md ops L).all fun i => is.contains i && is.all (fun j => !bf j i) && readyAll md ops bf Lf n (is.erase i) (L.setIfInBounds i true)
theorem zz0m (a : Act) (x : Operand) (t : Tmp) (v : Value) (h : x ≠ .tmp t) : (a.put (some t) v).eval x = a.eval x := by
 cases x with
 | tmp s =>
  have hs : t ≠ s := fun e => h (by rw [e])
  simp [Act.put, Act.eval, Array.getD_eq_getD_getElem?, Array.getElem?_setIfInBounds, hs]
 | _ => rfl
structure CanC (P : Program) (ops : Array Oper) (T : List Tmp) (W0 : World) (e : FreeC) (a : Act) : Prop where
 ex : ∃ o, ops[e.i]? = some o ∧ o.dst = some e.d ∧ o.guard = none
 run : ∀ (Q : Exit → Act → World → Prop) (a' : Act) (w : World) (K : Act → World → Prop), (∀ x : Operand, (∀ t ∈ T, x ≠ .tmp t) → a'.eval x = a.eval x) → Below W0.heap.size W0 w → (∀ v w', e.R w.heap.size w'.heap.size v w' → Below w.heap.size w w' → K (a'.put (some e.d) v) w') → wpOp P ops Q e.i K a' w
theorem CanC.put {T : List Tmp} {W0 : World} {e : FreeC} {a : Act} (h : CanC P ops T W0 e a) {t : Tmp} (ht : t ∈ T) (v : Value) : CanC P ops T W0 e (a.put (some t) v) :=
 ⟨h.ex, fun Q a' w K ha hB hK => h.run Q a' w K (fun x hx => (ha x hx).trans (zz0m a x t v (hx t ht))) hB hK⟩
theorem zz3g {T : List Tmp} {W0 : World} {e : FreeC} {a : Act} (f : FuncId) (args : Array Value) (ho : ∃ o az ats, ops[e.i]? = some o ∧ o.dst = some e.d ∧ o.guard = none ∧ o.op = .call { callee := .value (.func f), args := az, argTypes := ats } ∧ az.map a.eval = args ∧ ∀ x ∈ az.toList, ∀ t ∈ T, x ≠ .tmp t)
  (hen : ∀ w, (callFunc f args).run P w = .ok (.enter f args) w)
  (hc : ∀ w, Below W0.heap.size W0 w → Calls P f args w fun x w' => ∃ v, x = .returned v ∧ e.R w.heap.size w'.heap.size v w' ∧ Below w.heap.size w w') : CanC P ops T W0 e a := by
 obtain ⟨o, az, ats, h0, h1, h2, ho, ha, hn⟩ := ho;refine ⟨⟨o, h0, h1, h2⟩, fun Q a' w K haa hB hK => ?_⟩
 have ha' : az.map a'.eval = args := by
  rw [← ha];exact Array.map_congr_left fun x hx => haa x (hn x (by simpa using hx))
 unfold wpOp;simp only [h0];rw [if_pos (by simp [Region.wanted, h2])]
 left
 have he := hen w;have hrun : (execOp a'.eval o).run P w = .ok (.enter f args) w := by simp [execOp, ho, resolve, invoke, Act.eval, ha', he, Result.andThen, Deferred.ofValue]
 unfold Oper.wp;rw [hrun];refine Calls.mono (hc w hB) ?_;rintro x w' ⟨v, rfl, hv, hb⟩;simp only [h1];exact hK v w' hv hb
theorem zz2z {T : List Tmp} {W0 : World} {e : FreeC} {a : Act} (o : Oper) (h0 : ops[e.i]? = some o) (h1 : o.dst = some e.d) (h2 : o.guard = none) (cs : Array Value) (t : TypeId)
  (hr : ∀ (ev : Operand → Value) w, (execOp ev o).run P w = .ok (.value (.pointer (some ⟨w.heap.size, 0, none⟩))) (w.alloc (.cells cs t)))
  (hR : ∀ w, Below W0.heap.size W0 w → e.R w.heap.size (w.alloc (.cells cs t)).heap.size (.pointer (some ⟨w.heap.size, 0, none⟩)) (w.alloc (.cells cs t))) : CanC P ops T W0 e a := by
 refine ⟨⟨o, h0, h1, h2⟩, fun Q a' w K haa hB hK => ?_⟩
 unfold wpOp;simp only [h0];rw [if_pos (by simp [Region.wanted, h2])]
 left
 unfold Oper.wp;rw [hr];show K (a'.put o.dst _) _;rw [h1];exact hK _ _ (hR w hB) ((Below.refl _ _).alloc (Nat.le_refl _) _)
theorem zzbk {Q : Exit → Act → World → Prop} {W0 : World} (f : Nat) (Lf : Array Bool) (bf : Nat → Nat → Bool) (hC : ∀ w, Below W0.heap.size W0 w → C w) (T : List Tmp) :
  ∀ (n : Nat) (es : List FreeC) (L : Array Bool) (a : Act) (w : World), es.length = n → Below W0.heap.size W0 w → readyAll md ops bf Lf n (es.map (·.i)) L = true → (es.map (·.i)).Nodup → (es.map (·.d)).Nodup →
  (∀ e ∈ es, CanC P ops T W0 e a ∧ e.d ∈ T) →
  (∀ e ∈ es, ∀ lo hi v w1 w2, e.R lo hi v w1 → Below w1.heap.size w1 w2 → e.R lo hi v w2) →
  (∀ vs w', Holds w.heap.size es vs w' → Apart bf es vs → Below w.heap.size w w' → wpAnyD P md ops C ex (OnlyN Q) f Lf (putsE es vs a) w') →
  wpAnyD P md ops C ex (OnlyN Q) (f + n) L a w
 | 0, es, L, a, w, hn, hB, hr, _, _, _, _, K => by
  obtain rfl : es = [] := List.eq_nil_of_length_eq_zero hn;simp only [readyAll, Bool.and_eq_true, beq_iff_eq] at hr;obtain rfl := hr.2;exact K [] w trivial trivial (Below.refl _ _)
 | n + 1, es, L, a, w, hn, hB, hr, hni, hnd, hga, hst, K => by
  simp only [readyAll, Bool.and_eq_true, List.all_eq_true] at hr;obtain ⟨hr0, hr2⟩ := hr;refine ⟨fun h0 => ?_, fun i hi => ?_⟩
  ·rw [h0] at hr0
   simp at hr0
  ·obtain ⟨⟨hin0, hbf⟩, h2⟩ := hr2 _ hi
   obtain ⟨e, he, rfl⟩ := List.mem_map.1 (show i ∈ es.map (·.i) by simpa using hin0)
   obtain ⟨l1, l2, rfl⟩ := List.append_of_mem he;have hni' := hni;have hnd' := hnd;rw [List.map_append, List.map_cons] at hni' hnd' h2;have hi1 : e.i ∉ l1.map (·.i) := fun h => (List.nodup_append.1 hni').2.2 _ h _ (by simp) rfl
   have hi2 : e.i ∉ l2.map (·.i) := (List.nodup_cons.1 (List.nodup_append.1 hni').2.1).1;have hd1 : e.d ∉ l1.map (·.d) := fun h => (List.nodup_append.1 hnd').2.2 _ h _ (by simp) rfl
   rw [List.erase_append_right _ hi1, List.erase_cons_head, ← List.map_append] at h2;have hin : ∀ x ∈ l1 ++ l2, x ∈ l1 ++ e :: l2 := fun x hx => by
    rcases List.mem_append.1 hx with h | h
    ·exact List.mem_append_left _ h
    ·exact List.mem_append_right _ (List.mem_cons_of_mem _ h)
   have hsub : List.Sublist (l1 ++ l2) (l1 ++ e :: l2) := List.Sublist.append (List.Sublist.refl l1) (List.sublist_cons_self e l2);refine (hga e (by simp)).1.run _ a w _ (fun _ _ => rfl) hB fun v w1 hv hb => ?_
   have hB1 := hB.trans (hb.mono hB.size);refine ⟨fun _ => hC _ hB1, ?_⟩
   refine zzbk f Lf bf hC T n (l1 ++ l2) (L.setIfInBounds e.i true) (a.put (some e.d) v) w1 (by simp at hn ⊢; omega) hB1 h2 ((hsub.map _).nodup hni) ((hsub.map _).nodup hnd) (fun x hx => ⟨(hga x (hin x hx)).1.put (hga e (by simp)).2 v, (hga x (hin x hx)).2⟩) (fun x hx => hst x (hin x hx)) ?_
   intro vs w' hh hap hb';obtain ⟨v1, v2, rfl, h1, h2'⟩ := Holds.split hh;have hall := hh.all;have := K (v1 ++ ⟨w.heap.size, w1.heap.size, v⟩ :: v2) w' (Holds.join (h1.lower hb.size) ⟨⟨hst e (by simp) _ _ v w1 w' hv hb', Nat.le_refl _⟩, h2'.lower hb.size⟩)
    (Apart.mid h1.len hap hall (fun x hx => by have := hbf x.i (List.mem_map_of_mem (hin x hx)); simpa using this)) (hb.trans (hb'.mono hb.size))
   rw [zz5r e _ l2 v2 l1 v1 a h1.len (fun x hx h => hd1 (h ▸ List.mem_map_of_mem hx))] at this
   exact this
end
section
variable {P : Program} {ops : Array Oper} {md : Region.Mode} {C : World → Prop} {ex : List Nat}
end
end
end Go.Proofs.YtajogedbacpohaaGreatDoor
