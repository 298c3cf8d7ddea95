/- The reference's Cut. -/
import Derived.Test.YtaigngdlioplaaaDoorShaK
namespace Go.Proofs.YtaigngdlioplaaaDoor
open Go Go.RowKit

/-- A whole row is loaded by an operation that is guarded. -/
theorem wpList_load_row_g {P : Program} {ops : Array Oper} {rest : List Oper} {o : Oper} {a : Act} {w : World} {Q : Exit → Act → World → Prop} (hw : Region.wanted o (yielded ops a.tmps) = true) (ty : TypeId) (x : Operand) (ho : o.op = .load ty x)
    (g : Nat) (hx : a.eval x = .pointer (some ⟨g, 0, none⟩)) (t : TypeId) (cs : Array Value) (fr : Nat × Nat) (d : TypeDesc) (hg : w.heap[g]? = some (.cells cs t fr))
    (hu : P.underlying ty = some d) (hd : (match d with | .struct _ | .array _ _ => true | _ => false) = true) (hi : (P.info? ty).map (·.size) = some cs.size)
    (h : wpList P ops Q rest (a.put o.dst (.agg cs)) w) : wpList P ops Q (o :: rest) a w := by
  unfold wpList
  rw [if_pos hw]
  exact .inl (wp_load_row ty x ho g hx t cs fr d hg hu hd hi h)
theorem quiet_load_row {P : Program} {C : World → Prop} {a : Act} {o : Oper} {K : Act → Prop} (ty : TypeId) (x : Operand) (ho : o.op = .load ty x) (g : Nat) (hx : a.eval x = .pointer (some ⟨g, 0, none⟩)) (A : Array Value)
    (h : ∀ w, C w → (loadVar ty ⟨g, 0, none⟩).run P w = .ok (.agg A) w) (hk : K (a.put o.dst (.agg A))) : o.quiet P a C K :=
  ⟨.agg A, fun w hw => by
    unfold Oper.quietAt execOp
    simp only [ho, hx, Instr.loadAt, Instr.sureAddr, Sem.run_bind, Sem.run_pure, Result.andThen_ok, h w hw]
    exact ⟨rfl, rfl⟩, hk⟩

theorem cut_in (K : Nat → Int) (H : St) (s : ByteArray) (m : Nat) (h : 1 ≤ m ∧ m ≤ 32) : cutS K H s m = (sumS K H (bytesL s)).extract 0 m := by
  unfold cutS
  rw [if_neg (by omega), Int.toNat_natCast]

set_option maxRecDepth 100000 in
theorem rCut_any (s : ByteArray) (m : Nat) (w : World) (hs : Hid (s.size ≤ 1099511000000)) (hm : Hid (1 ≤ m ∧ m ≤ 32)) :
    Calls Tryd.prog 23 #[.agg key72, .string s, .int .i64 m] w fun e w' => e = .returned (.string (cutS (nth kList) hSt s m)) ∧ Below w.heap.size w w' := by
  have q := Lib.hid (fun w => Digest_any s w hs)
  have hsz := sumS_size (nth kList) hSt (bytesL s)
  have hks := Lib.hid key72_size
  rw [cut_in _ _ _ _ hm.out]
  generalize key72 = A at *
  generalize sumS (nth kList) hSt (bytesL s) = S at *
  obtain ⟨hm1, hm2⟩ := hm.out
  have hm3 : m ≤ S.size := by omega
  have HSZ := Lib.hid hsz
  obtain ⟨w1, hw1⟩ : ∃ w1, w.alloc (.cells A 37) = w1 := ⟨_, rfl⟩
  have HW1 := Lib.hid hw1
  have HA : Hid (w1.heap[w.heap.size]? = some (.cells A 37 (0, 0))) := by rw [← hw1]; exact blk_new _ _ _ rfl
  have HL : Hid (Below w.heap.size w w1) := by rw [← hw1]; exact below_alloc (Below.refl _ _) (Nat.le_refl _) _
  clear hw1 hsz
  go_enter Tryd.func23, Tryd.ntmps23
  go_wp2_with (rw [HW1.out]; refine wpList_load_row rfl 37 (.tmp 3) rfl w.heap.size rfl 37 A (0, 0) _ HA.out Tryd.underlying37 rfl (by rw [hks.out]; kernel_rfl) ?_)
  refine (q.out _).mono ?_
  rintro e w2 ⟨rfl, hb⟩
  have HB2 := Lib.hid (HL.out.trans (hb.mono HL.out.size))
  clear hb
  go_wp2_with fail
  go_ret
  exact ⟨rfl, HB2.out⟩
end Go.Proofs.YtaigngdlioplaaaDoor
