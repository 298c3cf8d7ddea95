/- The reference's bundle.Get (printed by genFileF.py). -/
import Derived.Test.YtaigngdlioplaaaFileE
import Derived.Test.YtaigngdlioplaaaNumsH
import Derived.BigQuiet
namespace Go.Proofs.Ytaigngdlioplaaa
open Go Go.RowKit
set_option linter.unusedVariables false
set_option linter.unusedSimpArgs false

theorem rFail_ne {f x : Int} (h : ¬ f = 0) : rFail f x = f := if_neg h
theorem endE_bad {s : ByteArray} {l : List Fil} {p : Nat} {f : Int} (h : ¬ f = 0) : endE s (l, p, f) = f := by
  unfold endE
  simp only [rFail_ne h]
  split <;> split <;> first | rfl | exact rFail_ne h
theorem endE_form {s : ByteArray} {l : List Fil} {p : Nat} (h : p < s.size ∨ mayF l = false) : endE s (l, p, 0) = 3 := by
  unfold endE
  simp only []
  rw [if_pos h]
  simp only [rFail]
  split <;> simp
theorem endE_much {s : ByteArray} {l : List Fil} {p : Nat} (h : ¬ (p < s.size ∨ mayF l = false)) (hu : 1048576 < usedF l) : endE s (l, p, 0) = 4 := by
  unfold endE
  simp only []
  rw [if_neg h, if_pos hu]
  rfl
theorem endE_ok {s : ByteArray} {l : List Fil} {p : Nat} (h : ¬ (p < s.size ∨ mayF l = false)) (hu : ¬ 1048576 < usedF l) : endE s (l, p, 0) = 0 := by
  unfold endE
  simp only []
  rw [if_neg h, if_neg hu]

/-- Where the reading stands. -/
structure RefW (w wr : World) (s : ByteArray) (p : Nat) (f : Int) (v : Value) (acc : List Fil) : Prop where
  r : Ref wr w.heap.size s p f
  o : wr.ownsRow (w.heap.size + 1) 33 2 v acc.length (filesC acc)
  b : Below w.heap.size w wr
  z : w.heap.size + 1 ≤ wr.heap.size
section
variable {w wr w' : World} {s : ByteArray} {p : Nat} {f : Int} {v : Value} {acc : List Fil}
theorem RefW.ne (h : RefW w wr s p f v acc) : v.ownBlock = none ∨ v.ownBlock ≠ some w.heap.size := by
  cases hv : v.ownBlock with
  | none => exact .inl rfl
  | some k => exact .inr (fun e => by have := (h.o.lt k hv).1; injection e with e; omega)
theorem RefW.call (h : RefW w wr s p f v acc) (hb : Below wr.heap.size wr w') : RefW w w' s p f v acc :=
  ⟨(hb.block _ h.r.lt).trans h.r, h.o.kept (grown_none hb) (none_ne v), h.b.trans (hb.mono h.b.size), Nat.le_trans h.z hb.size⟩
theorem RefW.step {p' : Nat} {f' : Int} (h : RefW w wr s p f v acc) (hG : wr.grownBy w' (some w.heap.size)) (hR : Ref w' w.heap.size s p' f') : RefW w w' s p' f' v acc :=
  ⟨hR, h.o.kept hG h.ne, h.b.grown hG h.b.size (fun k hk => by injection hk with hk; omega), Nat.le_trans h.z hG.size⟩
theorem RefW.files (h : RefW w wr s p f v acc) : FilesAt wr v acc := own_files h.o
theorem RefW.set (h : RefW w wr s p f v acc) {k : Nat} (i : Nat) (u : Value) (hk : w.heap.size < k) (hv : v.ownBlock ≠ some k) : RefW w (wr.setCell ⟨k, i, none⟩ u) s p f v acc := by
  have hg : wr.grownBy (wr.setCell ⟨k, i, none⟩ u) (some k) := grown_set0 (World.grownBy.refl wr (some k)) i u
  refine ⟨(Below.heap_setCell _ _ _ _ (by show w.heap.size ≠ k; omega)).trans h.r, h.o.kept hg (.inr hv), h.b.setCell (by show w.heap.size ≤ k; omega) _, Nat.le_trans h.z hg.size⟩
theorem RefW.app {o : Obj} {v' : Value} {fl : Fil} (h : RefW w wr s p f v acc) (ho : w'.ownsRow (w.heap.size + 1) 33 2 v' (acc.length + 1) (filesC acc ++ [.string fl.1, .string fl.2])) (hG : (wr.alloc o).grownBy w' v.ownBlock) : RefW w w' s p f v' (acc ++ [fl]) := by
  have h1 := h.call (below_alloc (Below.refl _ wr) (Nat.le_refl _) o)
  refine ⟨(hG.block _ h1.r.lt (fun e => ?_)).trans h1.r, by rw [List.length_append, filesC_snoc]; exact ho, h1.b.grown hG h1.b.size (fun k hk => ?_), Nat.le_trans h1.z hG.size⟩
  · rcases h.ne with h2 | h2
    · rw [h2] at e; cases e
    · exact h2 e.symm
  · have := (h.o.lt k hk).1; omega
end


set_option maxRecDepth 100000 in
set_option maxHeartbeats 8000000 in
theorem RefGet_any (s : ByteArray) (w : World) (hs : Hid (s.size ≤ 1099511627776)) :
    Calls Try.prog 7 #[.string s] w fun e w' => (∃ v, e = .returned (.tuple #[v, .int .i64 (getE s)]) ∧ FilesAt w' v (getL s)) ∧ Below w.heap.size w w' := by
  have hE0 : Hid (getE s = endE s (getR s (cntR s) (rNum s 0 0 4096).2.1 (rNum s 0 0 4096).2.2 [])) := rfl
  have hL0 : Hid (getL s = if getE s = 0 then (getR s (cntR s) (rNum s 0 0 4096).2.1 (rNum s 0 0 4096).2.2 []).1 else []) := rfl
  generalize getL s = LL at *
  generalize getE s = E at *
  have hbad := Lib.hid (rNum_bad2 s)
  have hcnt := cntR_le s
  have hval := rNum_val s 0 0 4096 (Nat.zero_le _)
  have hp0 := rNum_p_le s 0 0 4096 (Nat.zero_le _)
  have hNc : Hid ((rNum s 0 0 4096).1 = ((cntR s : Nat) : Int)) := by show _ = _; unfold cntR; omega
  have qN := Lib.hid (fun w' hr => FNum_nat w.heap.size s 0 0 4096 w' hr hs (Nat.zero_le _))
  obtain ⟨x, hx⟩ : ∃ x, rNum s 0 0 4096 = x := ⟨_, rfl⟩
  obtain ⟨xn, p0, f0⟩ := x
  rw [hx] at hE0 hL0 hbad hp0 hNc qN
  simp only [] at hE0 hL0 hbad hp0 hNc qN
  generalize cntR s = N at *
  obtain rfl : xn = (N : Int) := hNc.out
  clear hx hval hNc
  go_enter Try.func7, Try.ntmps7
  go_wp2_with fail
  refine (Of_any s w).mono ?_
  rintro e w1 ⟨rfl, hR, hb, hz⟩
  have HR1 := Lib.hid hR
  have HB1 := Lib.hid hb
  have HZ1 := Lib.hid hz
  clear hR hb hz
  go_wp2_with fail
  refine (qN.out _ HR1).mono ?_
  rintro e w2 ⟨rfl, hR, hG⟩
  have HG2 : Hid (RefW w w2 s p0 f0 (.slice none 0 0) []) := ⟨hR, World.ownsRow_nil _ _ _ _, HB1.out.grown hG (by have := HZ1.out; omega) (fun k hk => by injection hk with hk; omega), by have := HZ1.out; have := hG.size; omega⟩
  clear hR hG HR1 HB1 HZ1 qN
  have hst0 : Hid (f0 = 0 → E = endE s (getR s N p0 0 []) ∧ LL = if E = 0 then (getR s N p0 0 []).1 else []) := by
    intro h
    rw [h] at hE0 hL0
    exact ⟨hE0.out, hL0.out⟩
  have hst1 : Hid (¬ f0 = 0 → E = f0 ∧ LL = []) := by
    intro h
    have h0 := hbad.out h
    have h1 : E = f0 := by rw [hE0.out, h0]; exact endE_bad h
    exact ⟨h1, by rw [hL0.out, if_neg (by rw [h1]; exact h)]⟩
  clear hE0 hL0 hbad
  go_wp2_with fail
  go_loopw [6, 7] (fun s6 s7 wr => ∃ (i p : Nat) (f : Int) (acc : List Fil) (v6 : Value), v6 = s6 ∧ s7 = .int .i64 i ∧ Hid (i ≤ N) ∧ Hid (acc.length = i) ∧ Hid (p ≤ s.size) ∧ Hid (Fit acc) ∧ Hid (f = 0 → E = endE s (getR s (N - i) p 0 acc) ∧ LL = if E = 0 then (getR s (N - i) p 0 acc).1 else []) ∧ Hid (¬ f = 0 → E = f ∧ LL = []) ∧ Hid (RefW w wr s p f v6 acc)) (fun _ s7 _ => N - (intOf s7).toNat)
  case atStart => exact ⟨0, p0, f0, [], _, rfl, rfl, Nat.zero_le _, rfl, hp0, Fit.nil, hst0.out, hst1.out, HG2.out⟩
  case round =>
    obtain ⟨i, p, f, acc, v6, rfl, rfl, hi, hai, hp, HF, h0, h1, HG⟩ := hrel
    have hp := hp.out
    have hacc : acc.length ≤ 4096 := by have := hai.out; have := hi.out; omega
    clear HG2 hst0 hst1
    have cf := Lib.hid HG.out.r.f
    by_cases hf : f = 0
    · have h00 := Lib.hid (h0.out hf)
      subst hf
      have tf : ((0 : Int) == 0) = true := rfl
      clear h1 h0
      have h0 := h00
      clear h00
      by_cases hlt : i < N
      · have t0 : decide ((i : Int) < (N : Int)) = true := decide_eq_true (by omega)
        obtain ⟨m, hm⟩ : ∃ m, N - i = m + 1 := ⟨N - i - 1, by omega⟩
        have hm2 : Hid (m = N - (i + 1)) := by show _ = _; omega
        have hgo : Hid ((btR s p 0).2.2 = 0 → E = endE s (getR s (N - (i + 1)) (btR s p 0).2.1 0 (acc ++ [((nmR s p 0).1, (btR s p 0).1)])) ∧ LL = if E = 0 then (getR s (N - (i + 1)) (btR s p 0).2.1 0 (acc ++ [((nmR s p 0).1, (btR s p 0).1)])).1 else []) := fun h => by
          have e0 : getR s (N - i) p 0 acc = getR s (N - (i + 1)) (btR s p 0).2.1 0 (acc ++ [((nmR s p 0).1, (btR s p 0).1)]) := by rw [hm, ← hm2.out, getR]; exact if_pos h
          rw [← e0]
          exact h0.out
        have hst : Hid (¬ (btR s p 0).2.2 = 0 → E = (btR s p 0).2.2 ∧ LL = []) := fun h => by
          have e0 : getR s (N - i) p 0 acc = (acc, (btR s p 0).2.1, (btR s p 0).2.2) := by rw [hm, getR]; exact if_neg h
          have e1 : E = (btR s p 0).2.2 := by rw [h0.out.1, e0]; exact endE_bad h
          exact ⟨e1, by rw [h0.out.2, if_neg (by rw [e1]; exact h)]⟩
        have hp1 : (nmR s p 0).2.1 ≤ s.size := rRow_p_le s p 0 16 hp
        have hs1 := rRow_size s p 0 16 hp (by omega)
        have hp2 : (btR s p 0).2.1 ≤ s.size := rRow_p_le s _ _ 1048576 hp1
        have hs2 := rRow_size s (nmR s p 0).2.1 (nmR s p 0).2.2 1048576 hp1 (by omega)
        have q1 := Lib.hid (fun w' hr => FRow_any w.heap.size s p 0 16 w' hr hs hp (by show I64 _; unfold I64; omega))
        have q2 := Lib.hid (fun w' hr => FRow_any w.heap.size s (nmR s p 0).2.1 (nmR s p 0).2.2 1048576 w' hr hs hp1 (by show I64 _; unfold I64; omega))
        rw [show rRow s p 0 16 = nmR s p 0 from rfl] at q1 hs1
        rw [show rRow s (nmR s p 0).2.1 (nmR s p 0).2.2 1048576 = btR s p 0 from rfl] at q2 hs2
        clear hm hm2 h0
        generalize btR s p 0 = y at *
        generalize nmR s p 0 = x at *
        obtain ⟨nm, p1, f1⟩ := x
        obtain ⟨bt, p2, f2⟩ := y
        simp only [] at q1 q2 hgo hst hp1 hp2 hs1 hs2
        have cf := cf.out
        go_wp2_with fail
        refine (q1.out _ (Lib.hid HG.out.r)).mono ?_
        rintro e w3 ⟨rfl, hR, hG⟩
        have HG3 := Lib.hid (HG.out.step hG hR)
        clear hR hG q1 HG cf
        go_wp2_with fail
        refine (q2.out _ (Lib.hid HG3.out.r)).mono ?_
        rintro e w5 ⟨rfl, hR, hG⟩
        have HG5 := Lib.hid (HG3.out.step hG hR)
        clear hR hG q2 HG3
        go_wp2_with (at_builtin; refine wpList_append_two _ _ _ _ _ _ el_file _ _ _ _ _ (Lib.hid HG5.out.o) HG5.out.z rfl rfl rfl rfl rfl rfl (by have := hai.out; omega) (by decide) ?_; intro v8 w8 hown8 hg8
                     have HG8 := Lib.hid (HG5.out.app (fl := (nm, bt)) hown8.out hg8)
                     clear hg8 hown8)
        go_roundw
        case rel => exact ⟨i + 1, p2, f2, acc ++ [(nm, bt)], v8, rfl, by go_num, by show _ ≤ _; omega, by show _ = _; rw [List.length_append]; have := hai.out; simp; omega, hp2, HF.out.snoc (by show nm.size ≤ 16; omega) (by show bt.size ≤ 1048576; omega), hgo.out, hst.out, HG8.out⟩
        case measure => simp [intOf]; omega
      · obtain rfl : i = N := by have := hi.out; omega
        rw [Nat.sub_self] at h0
        have h0 : Hid (E = endE s (acc, p, 0) ∧ LL = if E = 0 then acc else []) := h0.out
        have t0 : decide ((i : Int) < (i : Int)) = false := decide_eq_false (by omega)
        have qM := Lib.hid (fun w hv => rMayF_any v6 acc w hv (by omega) HF.out.names)
        have qU := Lib.hid (fun w hv => rUsed_any v6 acc w hv (by omega) (by have := HF.out.used; omega))
        have qL := Lib.hid (FLeft_any w.heap.size s p 0 wr (Lib.hid HG.out.r) hs hp)
        have k3 : Hid (p < s.size ∨ mayF acc = false → E = 3 ∧ LL = []) := fun h => by
          have e1 : E = 3 := by rw [h0.out.1]; exact endE_form h
          exact ⟨e1, by rw [h0.out.2, if_neg (by rw [e1]; decide)]⟩
        have k4 : Hid (¬ (p < s.size ∨ mayF acc = false) → 1048576 < usedF acc → E = 4 ∧ LL = []) := fun h hu => by
          have e1 : E = 4 := by rw [h0.out.1]; exact endE_much h hu
          exact ⟨e1, by rw [h0.out.2, if_neg (by rw [e1]; decide)]⟩
        have k0 : Hid (¬ (p < s.size ∨ mayF acc = false) → ¬ 1048576 < usedF acc → E = 0 ∧ LL = acc) := fun h hu => by
          have e1 : E = 0 := by rw [h0.out.1]; exact endE_ok h hu
          exact ⟨e1, by rw [h0.out.2, if_pos e1]⟩
        clear h0
        have cf := cf.out
        generalize usedF acc = U at *
        generalize mayF acc = M at *
        by_cases h1 : p < s.size
        · have t1 : decide ((0 : Int) < (s.size : Int) - (p : Int)) = true := decide_eq_true (by omega)
          obtain ⟨rfl, hLL⟩ := k3.out (.inl h1)
          clear k3 k4 k0
          go_wp2_with fail
          refine qL.out.mono ?_
          rintro e w10 ⟨rfl, n10, rfl⟩
          have HG10 := Lib.hid (HG.out.call (below_drewN (Below.refl _ _) n10))
          go_wp2_with fail
          go_ret2
          exact ⟨⟨_, rfl, by rw [hLL]; exact FilesAt.nil _⟩, HG10.out.b⟩
        · have t1 : decide ((0 : Int) < (s.size : Int) - (p : Int)) = false := decide_eq_false (by omega)
          go_wp2_with fail
          refine qL.out.mono ?_
          rintro e w10 ⟨rfl, n10, rfl⟩
          have HG10 := Lib.hid (HG.out.call (below_drewN (Below.refl _ _) n10))
          generalize wr.drewN n10 = w10 at *
          cases M with
          | false =>
            obtain ⟨rfl, hLL⟩ := k3.out (.inr rfl)
            clear k3 k4 k0
            go_wp2_with fail
            with_reducible refine (qM.out _ (Lib.hid HG10.out.files)).mono ?_
            rintro e w11 ⟨rfl, hb⟩
            have HG11 := Lib.hid (HG10.out.call hb)
            clear hb
            go_wp2_with fail
            go_ret2
            exact ⟨⟨_, rfl, by rw [hLL]; exact FilesAt.nil _⟩, HG11.out.b⟩
          | true =>
            have k4 := Lib.hid (k4.out (by simpa using h1))
            have k0 := Lib.hid (k0.out (by simpa using h1))
            clear k3
            go_wp2_with fail
            with_reducible refine (qM.out _ (Lib.hid HG10.out.files)).mono ?_
            rintro e w11 ⟨rfl, hb⟩
            have HG11 := Lib.hid (HG10.out.call hb)
            clear hb
            go_wp2_with fail
            with_reducible refine (qU.out _ (Lib.hid HG11.out.files)).mono ?_
            rintro e w12 ⟨rfl, rfl⟩
            have HG12 := HG11
            by_cases hU : 1048576 < U
            · have t2 : decide ((1048576 : Int) < (U : Int)) = true := decide_eq_true (by omega)
              obtain ⟨rfl, hLL⟩ := k4.out hU
              clear k4 k0
              go_wp2_with fail
              go_ret2
              exact ⟨⟨_, rfl, by rw [hLL]; exact FilesAt.nil _⟩, HG12.out.b⟩
            · have t2 : decide ((1048576 : Int) < (U : Int)) = false := decide_eq_false (by omega)
              obtain ⟨rfl, hLL⟩ := k0.out hU
              have HFI := Lib.hid HG12.out.files
              clear k4 k0
              go_wp2_with fail
              go_ret2
              exact ⟨⟨_, rfl, by rw [hLL]; exact HFI.out⟩, HG12.out.b⟩
    · obtain ⟨rfl, hLL⟩ := h1.out hf
      have tf : (E == 0) = false := beq_eq_false_iff_ne.2 hf
      have tf2 : (E != 0) = true := by rw [bne, tf]; rfl
      have hLL := Lib.hid hLL
      clear h0 h1 hf
      have cf := cf.out
      by_cases hlt : i < N
      · have t0 : decide ((i : Int) < (N : Int)) = true := decide_eq_true (by omega)
        go_wp2_with fail
        go_quiet (fail)
        go_wp2_with fail
        go_ret2
        exact ⟨⟨_, rfl, by rw [hLL.out]; exact FilesAt.nil _⟩, below_drewN HG.out.b _⟩
      · have t0 : decide ((i : Int) < (N : Int)) = false := decide_eq_false (by omega)
        go_wp2_with fail
        go_quiet (fail)
        go_wp2_with fail
        go_ret2
        exact ⟨⟨_, rfl, by rw [hLL.out]; exact FilesAt.nil _⟩, below_drewN HG.out.b _⟩
end Go.Proofs.Ytaigngdlioplaaa
