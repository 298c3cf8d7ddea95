/- bundle.Get (printed by genFileE.py). -/
import Derived.Test.YtaigngdlioplaaaDoorFileD
import Derived.Test.YtaigngdlioplaaaDoorRd
namespace Go.Proofs.YtaigngdlioplaaaDoor
open Go Go.RowKit
set_option linter.unusedVariables false
set_option linter.unusedSimpArgs false

def nmR (s : ByteArray) (p : Nat) (f : Int) : ByteArray × Nat × Int := rRow s p f 16
def btR (s : ByteArray) (p : Nat) (f : Int) : ByteArray × Nat × Int := rRow s (nmR s p f).2.1 (nmR s p f).2.2 1048576
/-- The files that are read, where they end, the fault. -/
def getR (s : ByteArray) : Nat → Nat → Int → List Fil → List Fil × Nat × Int
  | 0, p, f, acc => (acc, p, f)
  | n + 1, p, f, acc => if (btR s p f).2.2 = 0 then getR s n (btR s p f).2.1 0 (acc ++ [((nmR s p f).1, (btR s p f).1)]) else (acc, (btR s p f).2.1, (btR s p f).2.2)
def cntR (s : ByteArray) : Nat := (rNum s 0 0 4096).1.toNat
def allR (s : ByteArray) : List Fil × Nat × Int := getR s (cntR s) (rNum s 0 0 4096).2.1 (rNum s 0 0 4096).2.2 []
def endE (s : ByteArray) (r : List Fil × Nat × Int) : Int :=
  if 1048576 < usedF r.1 then rFail (if r.2.1 < s.size ∨ mayF r.1 = false then rFail r.2.2 3 else r.2.2) 4 else (if r.2.1 < s.size ∨ mayF r.1 = false then rFail r.2.2 3 else r.2.2)
def getE (s : ByteArray) : Int := endE s (allR s)
def getL (s : ByteArray) : List Fil := if getE s = 0 then (allR s).1 else []
theorem cntR_le (s : ByteArray) : cntR s ≤ 4096 := by
  have := rNum_val s 0 0 4096 (Nat.zero_le _)
  unfold cntR; omega
theorem rNum_bad2 (s : ByteArray) (h : ¬ (rNum s 0 0 4096).2.2 = 0) : cntR s = 0 := by
  unfold cntR
  unfold rNum at h ⊢
  rw [if_pos rfl] at h ⊢
  split at h
  · exact absurd rfl h
  · rename_i h1; rw [if_neg h1]; rfl
/-- What is read may be held. -/
def Fit (l : List Fil) : Prop := ∀ (i : Nat) (f : Fil), l[i]? = some f → f.1.size ≤ 16 ∧ f.2.size ≤ 1048576
theorem Fit.nil : Fit [] := fun i f h => by simp at h
theorem Fit.snoc {l : List Fil} {f : Fil} (h : Fit l) (h1 : f.1.size ≤ 16) (h2 : f.2.size ≤ 1048576) : Fit (l ++ [f]) := fun i g hg => by
  rw [List.getElem?_append] at hg
  split at hg
  · exact h i g hg
  · match hx : i - l.length, hg with
    | 0, hg => simp at hg; subst hg; exact ⟨h1, h2⟩
    | j + 1, hg => simp at hg
theorem Fit.used : ∀ {l : List Fil}, Fit l → usedF l ≤ 1048576 * l.length
  | [], _ => by simp [usedF]
  | f :: l, h => by
    have h0 := (h 0 f rfl).2
    have ih := Fit.used (l := l) (fun i g hg => h (i + 1) g (by simpa using hg))
    simp only [usedF, List.map_cons, List.sum_cons, List.length_cons] at ih ⊢
    omega
theorem Fit.names {l : List Fil} (h : Fit l) : ∀ (i : Nat) (f : Fil), l[i]? = some f → f.1.size ≤ 9223372036854775807 := fun i f hf => by have := (h i f hf).1; omega

def filesC (l : List Fil) : List Value := l.flatMap fun f => [.string f.1, .string f.2]
theorem filesC_snoc (l : List Fil) (f : Fil) : filesC (l ++ [f]) = filesC l ++ [.string f.1, .string f.2] := by simp [filesC]
theorem filesC_at : ∀ (l : List Fil) (i : Nat) (f : Fil), l[i]? = some f → (filesC l)[i * 2]? = some (.string f.1) ∧ (filesC l)[i * 2 + 1]? = some (.string f.2)
  | [], i, s, h => by simp at h
  | x :: l, 0, s, h => by
    simp at h
    subst h
    exact ⟨rfl, rfl⟩
  | x :: l, i + 1, s, h => by
    have := filesC_at l i s (by simpa using h)
    rw [show (i + 1) * 2 = (i * 2 + 1) + 1 by omega]
    exact this
theorem el_file : Elt Tryd.prog 67 113 (.agg #[.string ⟨#[]⟩, .string ⟨#[]⟩]) 2 32 := Elt.mk' Tryd.underlying67 (by kernel_rfl) rfl (by decide)
theorem own_files {w : World} {B : Nat} {v : Value} {l : List Fil} (h : w.ownsRow B 113 2 v l.length (filesC l)) : FilesAt w v l := by
  have hlt := h.lt
  rcases h.2 with ⟨rfl, h0⟩ | ⟨g, cap, cur, rfl, _, _⟩
  · exact ⟨none, 0, by rw [h0], fun i s hs => by rw [List.length_eq_zero_iff.1 h0] at hs; simp at hs⟩
  · refine ⟨_, cap, rfl, fun i s hs => ?_⟩
    obtain ⟨f1, f2⟩ := filesC_at l i s hs
    have c1 := h.cells (g := g) rfl _ _ f1
    have c2 := h.cells (g := g) rfl _ _ f2
    rw [Addr.add_lit] at c1 c2
    exact ⟨g, 0, rfl, (hlt g rfl).2, c1, by rw [Nat.add_assoc]; exact c2⟩

section
variable {P : Program} {ops : Array Oper} {rest : List Oper} {o : Oper} {a : Act} {Q : Exit → Act → World → Prop}
/-- 'append(out, x)', x of two cells, which lies in the block that was just laid. -/
theorem wpList_append_two {wr : World} {B : Nat} (s x : Operand) (t e : TypeId) (z : Value) (bytes : Nat) (he : Elt P t e z 2 bytes) (u u2 : Value) (v : Value) (n : Nat) (xs : List Value)
    (hown : Hid (wr.ownsRow B e 2 v n xs)) (hB : B ≤ wr.heap.size)
    (hgd : o.guard = none) (ho : o.op = .call { callee := .builtin .append, args := #[s, x], argTypes := #[t, t] })
    (hs : a.eval s = v) (hx : a.eval x = .slice (some ⟨wr.heap.size, 0, none⟩) 1 1) (hu : u.oneCell' = true) (hu2 : u2.oneCell' = true) (hn : n + 1 ≤ 1099511627776) (hby : bytes ≤ 64)
    (h : ∀ v' w', Hid (w'.ownsRow B e 2 v' (n + 1) (xs ++ [u, u2])) → (wr.alloc (.cells #[u, u2] e)).grownBy w' v.ownBlock → wpList P ops Q rest (a.put o.dst v') w') :
    wpList P ops Q (o :: rest) a (wr.alloc (.cells #[u, u2] e)) := by
  obtain ⟨i, hi, hz, hsz, hbs⟩ := he.info
  have hown := hown.out
  refine wpList_append_own _ hgd s x t ho B e i z 2 bytes he.und hi hz hsz hbs he.zs he.pos v n xs hs (hown.alloc _) ⟨wr.heap.size, 0, none⟩ 1 1 [u, u2] hx rfl ?_ ?_ ?_ ?_ ?_ ?_
  · intro j w' hj
    match j with
    | 0 => simp at hj; subst hj; rw [Addr.add_lit]; exact World.cell?_alloc_at _ _ _ _ rfl
    | 1 => simp at hj; subst hj; rw [Addr.add_lit]; exact World.cell?_alloc_at _ _ _ _ rfl
    | j+2 => simp at hj
  · intro u' hu'
    simp at hu'
    rcases hu' with rfl | rfl
    · exact hu
    · exact hu2
  · unfold maxLen; omega
  · have h1 := Nat.mul_le_mul (show n + 1 ≤ 1099511627776 from hn) hby; omega
  · simp; omega
  · intro v' w' h1 h2 _
    exact h v' w' h1 h2
end

/-- Where the reading stands. -/
structure GetW (w wr : World) (s : ByteArray) (p : Nat) (f : Int) (v : Value) (acc : List Fil) : Prop where
  r : Rdr wr w.heap.size s p f
  o : wr.ownsRow (w.heap.size + 1) 113 2 v acc.length (filesC acc)
  b : Below w.heap.size w wr
  z : w.heap.size + 1 ≤ wr.heap.size
theorem grown_none {w w' : World} (h : Below w.heap.size w w') : w.grownBy w' none := ⟨h.os, h.tape, h.output, h.size, fun k hk _ => h.block k hk⟩
section
variable {w wr w' : World} {s : ByteArray} {p : Nat} {f : Int} {v : Value} {acc : List Fil}
theorem GetW.ne (h : GetW w wr s p f v acc) : v.ownBlock = none ∨ v.ownBlock ≠ some w.heap.size := by
  cases hv : v.ownBlock with
  | none => exact .inl rfl
  | some k => exact .inr (fun e => by have := (h.o.lt k hv).1; injection e with e; omega)
theorem none_ne (v : Value) : v.ownBlock = none ∨ v.ownBlock ≠ none := by
  cases v.ownBlock with
  | none => exact .inl rfl
  | some k => exact .inr (fun e => by cases e)
theorem GetW.call (h : GetW w wr s p f v acc) (hb : Below wr.heap.size wr w') : GetW w w' s p f v acc :=
  ⟨h.r.rest hb, h.o.kept (grown_none hb) (none_ne v), h.b.trans (hb.mono h.b.size), Nat.le_trans h.z hb.size⟩
theorem GetW.step {p' : Nat} {f' : Int} (h : GetW w wr s p f v acc) (hG : wr.grownBy w' (some w.heap.size)) (hR : Rdr w' w.heap.size s p' f') : GetW w w' s p' f' v acc :=
  ⟨hR, h.o.kept hG h.ne, h.b.grown hG h.b.size (fun k hk => by injection hk with hk; omega), Nat.le_trans h.z hG.size⟩
theorem GetW.files (h : GetW w wr s p f v acc) : FilesAt wr v acc := own_files h.o
theorem GetW.set (h : GetW w wr s p f v acc) {k : Nat} (i : Nat) (u : Value) (hk : w.heap.size < k) (hv : v.ownBlock ≠ some k) : GetW w (wr.setCell ⟨k, i, none⟩ u) s p f v acc := by
  have hg : wr.grownBy (wr.setCell ⟨k, i, none⟩ u) (some k) := grown_set0 (World.grownBy.refl wr (some k)) i u
  refine ⟨(Below.heap_setCell _ _ _ _ (by show w.heap.size ≠ k; omega)).trans h.r, h.o.kept hg (.inr hv), h.b.setCell (by show w.heap.size ≤ k; omega) _, Nat.le_trans h.z hg.size⟩
theorem GetW.app {o : Obj} {v' : Value} {fl : Fil} (h : GetW w wr s p f v acc) (ho : w'.ownsRow (w.heap.size + 1) 113 2 v' (acc.length + 1) (filesC acc ++ [.string fl.1, .string fl.2])) (hG : (wr.alloc o).grownBy w' v.ownBlock) : GetW w w' s p f v' (acc ++ [fl]) := by
  have h1 := h.call (below_alloc (Below.refl _ wr) (Nat.le_refl _) o)
  refine ⟨(hG.block _ h1.r.lt (fun e => ?_)).trans h1.r, by rw [List.length_append, filesC_snoc]; exact ho, h1.b.grown hG h1.b.size (fun k hk => ?_), Nat.le_trans h1.z hG.size⟩
  · rcases h.ne with h2 | h2
    · rw [h2] at e; cases e
    · exact h2 e.symm
  · have := (h.o.lt k hk).1; omega
end

set_option maxRecDepth 100000 in
set_option maxHeartbeats 8000000 in
theorem GetF_any (s : ByteArray) (w : World) (hs : Hid (s.size ≤ 1099511627776)) :
    Calls Tryd.prog 52 #[.string s] w fun e w' => (∃ v, e = .returned (.tuple #[v, .int .i64 (getE s)]) ∧ FilesAt w' v (getL s)) ∧ Below w.heap.size w w' := by
  have hE0 : Hid (getE s = endE s (getR s (cntR s) (rNum s 0 0 4096).2.1 (rNum s 0 0 4096).2.2 [])) := rfl
  have hL0 : Hid (getL s = if getE s = 0 then (getR s (cntR s) (rNum s 0 0 4096).2.1 (rNum s 0 0 4096).2.2 []).1 else []) := rfl
  generalize getL s = LL at *
  generalize getE s = E at *
  have hbad := Lib.hid (rNum_bad2 s)
  have hcnt := cntR_le s
  have hval := rNum_val s 0 0 4096 (Nat.zero_le _)
  have hp0 := rNum_p_le s 0 0 4096 (Nat.zero_le _)
  have hNc : Hid ((rNum s 0 0 4096).1 = ((cntR s : Nat) : Int)) := by show _ = _; unfold cntR; omega
  have qN := Lib.hid (fun w' hr => RNum_nat w.heap.size s 0 0 4096 w' hr hs (Nat.zero_le _))
  obtain ⟨x, hx⟩ : ∃ x, rNum s 0 0 4096 = x := ⟨_, rfl⟩
  obtain ⟨xn, p0, f0⟩ := x
  rw [hx] at hE0 hL0 hbad hp0 hNc qN
  simp only [] at hE0 hL0 hbad hp0 hNc qN
  generalize cntR s = N at *
  obtain rfl : xn = (N : Int) := hNc.out
  clear hx hval hNc
  go_enter Tryd.func52, Tryd.ntmps52
  go_wp2_with fail
  refine (Read_any s w).mono ?_
  rintro e w1 ⟨rfl, hR, hb, hz⟩
  have HR1 := Lib.hid hR
  have HB1 := Lib.hid hb
  have HZ1 := Lib.hid hz
  clear hR hb hz
  go_wp2_with fail
  refine (qN.out _ HR1).mono ?_
  rintro e w2 ⟨rfl, hR, hG⟩
  have HG2 : Hid (GetW w w2 s p0 f0 (.slice none 0 0) []) := ⟨hR, World.ownsRow_nil _ _ _ _, HB1.out.grown hG (by have := HZ1.out; omega) (fun k hk => by injection hk with hk; omega), by have := HZ1.out; have := hG.size; omega⟩
  clear hR hG HR1 HB1 HZ1 qN
  go_wp2_with fail
  go_loopw [6, 15] (fun s6 s15 wr => ∃ (i p : Nat) (f : Int) (acc : List Fil) (v6 : Value), v6 = s6 ∧ s15 = .int .u64 i ∧ Hid (i ≤ N) ∧ Hid (acc.length = i) ∧ Hid (p ≤ s.size) ∧ Hid (i < N → f = 0) ∧ Hid (Fit acc) ∧ Hid (E = endE s (getR s (N - i) p f acc)) ∧ Hid (LL = if E = 0 then (getR s (N - i) p f acc).1 else []) ∧ Hid (GetW w wr s p f v6 acc)) (fun _ s15 _ => N - (intOf s15).toNat)
  case atStart => exact ⟨0, p0, f0, [], _, rfl, rfl, Nat.zero_le _, rfl, hp0, fun h => Classical.byContradiction fun hf => by have := hbad.out hf; omega, Fit.nil, hE0.out, hL0.out, HG2.out⟩
  case round =>
    obtain ⟨i, p, f, acc, v6, rfl, rfl, hi, hai, hp, hf0, HF, HE, HLL, HG⟩ := hrel
    have hp := hp.out
    have hacc : acc.length ≤ 4096 := by have := hai.out; have := hi.out; omega
    clear HG2 hE0 hL0 hbad
    by_cases hlt : i < N
    · obtain rfl : f = 0 := hf0.out hlt
      obtain ⟨m, hm⟩ : ∃ m, N - i = m + 1 := ⟨N - i - 1, by omega⟩
      rw [hm] at HE HLL
      have hm2 : Hid (m = N - (i + 1)) := by show _ = _; omega
      have hgo : Hid ((btR s p 0).2.2 = 0 → getR s (m + 1) p 0 acc = getR s m (btR s p 0).2.1 0 (acc ++ [((nmR s p 0).1, (btR s p 0).1)])) := fun h => by rw [getR]; exact if_pos h
      have hst : Hid (¬ (btR s p 0).2.2 = 0 → getR s (m + 1) p 0 acc = (acc, (btR s p 0).2.1, (btR s p 0).2.2)) := fun h => by rw [getR]; exact if_neg h
      have hp1 : (nmR s p 0).2.1 ≤ s.size := rRow_p_le s p 0 16 hp
      have hs1 := rRow_size s p 0 16 hp (by omega)
      have hp2 : (btR s p 0).2.1 ≤ s.size := rRow_p_le s _ _ 1048576 hp1
      have hs2 := rRow_size s (nmR s p 0).2.1 (nmR s p 0).2.2 1048576 hp1 (by omega)
      have q1 := Lib.hid (fun w' hr => RRow_nat w.heap.size s p 0 16 (by show I64 _; unfold I64; omega) w' hr hs hp)
      have q2 := Lib.hid (fun w' hr => RRow_nat w.heap.size s (nmR s p 0).2.1 (nmR s p 0).2.2 1048576 (by show I64 _; unfold I64; omega) w' hr hs hp1)
      rw [show rRow s p 0 16 = nmR s p 0 from rfl] at q1 hs1
      rw [show rRow s (nmR s p 0).2.1 (nmR s p 0).2.2 1048576 = btR s p 0 from rfl] at q2 hs2
      generalize btR s p 0 = y at *
      generalize nmR s p 0 = x at *
      obtain ⟨nm, p1, f1⟩ := x
      obtain ⟨bt, p2, f2⟩ := y
      simp only [] at q1 q2 hgo hst hp1 hp2 hs1 hs2
      have t0 : decide ((i : Int) < (N : Int)) = true := decide_eq_true (by omega)
      clear hm hf0
      go_wp2_with fail
      refine (q1.out _ (Lib.hid HG.out.r)).mono ?_
      rintro e w3 ⟨rfl, hR, hG⟩
      have HG3 := Lib.hid (HG.out.step hG hR)
      have hv7 : Hid (v6.ownBlock ≠ some w3.heap.size) := fun e => by have := (HG3.out.o.lt _ e).2; omega
      have hD4 := Lib.hid (heap_new w3 (.cells #[.string nm, .string ⟨#[]⟩] 113))
      have HG4 := Lib.hid (HG3.out.call (below_alloc (Below.refl _ w3) (Nat.le_refl _) (.cells #[.string nm, .string ⟨#[]⟩] 113)))
      have hgl : Hid (w.heap.size < w3.heap.size) := HG3.out.z
      clear hR hG q1 HG HG3
      go_wp2_with fail
      generalize w3.heap.size = G7 at *
      generalize w3.alloc (.cells #[.string nm, .string ⟨#[]⟩] 113) = w4 at *
      refine (q2.out _ (Lib.hid HG4.out.r)).mono ?_
      rintro e w5 ⟨rfl, hR, hG⟩
      have HG5 := Lib.hid (HG4.out.step hG hR)
      have hD5 := Lib.hid ((hG.block G7 (Array.getElem?_eq_some_iff.1 hD4.out).1 (fun e => by injection e with e; have := hgl.out; omega)).trans hD4.out)
      clear hR hG q2 HG4 hD4
      have hfr := free_of_blk hD5.out 1
      have hcl := cells_of_blk hD5.out 1 _ rfl
      go_wp2_with fail
      have HG6 := Lib.hid (HG5.out.set 1 (.string bt) hgl.out hv7.out)
      have hD6 := Lib.hid (set_blk hD5.out 1 (.string bt))
      clear HG5 hD5 hfr hcl
      generalize w5.setCell ⟨G7, 1, none⟩ (.string bt) = w6 at *
      refine (RFault_any w.heap.size s p2 f2 w6 HG6.out.r).mono ?_
      rintro e w7 ⟨rfl, rfl⟩
      by_cases hf : f2 = 0
      · have hN2 := Lib.hid (hgo.out hf)
        rw [hN2.out] at HE HLL
        subst hf
        clear hN2 hgo hst
        have c0 := cells_of_blk hD6.out 0 _ rfl
        have c1 := cells_of_blk hD6.out 1 _ rfl
        go_wp2_with (at_builtin; refine wpList_append_two _ _ _ _ _ _ el_file _ _ _ _ _ (Lib.hid HG6.out.o) HG6.out.z rfl rfl rfl rfl rfl rfl (by have := hai.out; omega) (by decide) ?_; intro v8 w8 hown8 hg8
                     have HG8 := Lib.hid (HG6.out.app (fl := (nm, bt)) hown8.out hg8)
                     clear hg8 hown8)
        go_roundw
        case rel => exact ⟨i + 1, p2, 0, acc ++ [(nm, bt)], v8, rfl, by go_num, by show _ ≤ _; omega, by show _ = _; rw [List.length_append]; have := hai.out; simp; omega, hp2, fun _ => rfl, HF.out.snoc (by show nm.size ≤ 16; omega) (by show bt.size ≤ 1048576; omega), by show _ = _; rw [HE.out, hm2.out], by show _ = _; rw [HLL.out, hm2.out], HG8.out⟩
        case measure => simp [intOf]; omega
      · have hN2 := Lib.hid (hst.out hf)
        rw [hN2.out] at HE HLL
        have HG := HG6
        have hp := hp2
        have tf : (f2 == 0) = false := beq_eq_false_iff_ne.2 hf
        have tf2 : (f2 != 0) = true := by rw [bne, tf]; rfl
        clear hN2 hgo hst hf HG6
        have qM := Lib.hid (fun w hv => MayF_any v6 acc w hv (by omega) HF.out.names)
        have qU := Lib.hid (fun w hv => used_any v6 acc w hv (by omega) (by have := HF.out.used; omega))
        have qL := Lib.hid (RLeft_any w.heap.size s p2 f2 w6 (Lib.hid HG.out.r) hs hp)
        have HE2 : Hid (E = if 1048576 < usedF acc then rFail (if p2 < s.size ∨ mayF acc = false then rFail f2 3 else f2) 4 else (if p2 < s.size ∨ mayF acc = false then rFail f2 3 else f2)) := HE.out
        generalize usedF acc = U at *
        generalize hMM : mayF acc = M at *
        have hMM := Lib.hid hMM
        have hc : (p2 < s.size) ∨ (¬ p2 < s.size ∧ M = false) ∨ (¬ p2 < s.size ∧ M = true) := by
          by_cases h : p2 < s.size
          · exact .inl h
          · cases M
            · exact .inr (.inl ⟨h, rfl⟩)
            · exact .inr (.inr ⟨h, rfl⟩)
        obtain ⟨F1, hF1⟩ : ∃ F1, (if p2 < s.size ∨ M = false then rFail f2 3 else f2) = F1 := ⟨_, rfl⟩
        rw [hF1] at HE2
        obtain ⟨U1, hU1⟩ : ∃ z, decide ((1048576 : Int) < (U : Int)) = z := ⟨_, rfl⟩
        have HE3 : Hid (E = if U1 then rFail F1 4 else F1) := by
          show _ = _
          rw [HE2.out, ← hU1]
          by_cases h : 1048576 < U
          · rw [if_pos h, decide_eq_true (show (1048576 : Int) < (U : Int) by omega), if_pos rfl]
          · rw [if_neg h, decide_eq_false (show ¬ (1048576 : Int) < (U : Int) by omega), if_neg (by simp)]
        clear HE HE2 hMM
        rcases hc with h1 | ⟨h1, rfl⟩ | ⟨h1, rfl⟩
        · have t1 : decide ((0 : Int) < (s.size : Int) - (p2 : Int)) = true := decide_eq_true (by omega)
          rw [if_pos (Or.inl h1)] at hF1
          go_wp2_with fail
          refine qL.out.mono ?_
          rintro e w10 ⟨rfl, n10, rfl⟩
          have HG10 := Lib.hid (HG.out.call (below_drewN (Below.refl _ _) n10))
          generalize w6.drewN n10 = w10 at *
          go_wp2_with fail
          refine (RFail_any w.heap.size s p2 f2 3 _ HG10.out.r).mono ?_
          rintro e w12 ⟨rfl, hR, hG⟩
          have HG12 := Lib.hid (HG10.out.step hG hR)
          clear hR hG
          rw [hF1] at HG12
          clear hF1
          go_wp2_with fail
          -- used, the second fault
          with_reducible refine (qU.out _ (Lib.hid HG12.out.files)).mono ?_
          rintro e w20 ⟨rfl, hb⟩
          have HG20 := Lib.hid (HG12.out.call hb)
          clear hb
          cases U1 with
          | true =>
            have HEE : Hid (E = rFail F1 4) := HE3.out.trans (if_pos rfl)
            have qF2 := Lib.hid (RFail_any w.heap.size s p2 F1 4 w20 HG20.out.r)
            clear HE3
            go_wp2_with fail
            refine qF2.out.mono ?_
            rintro e w21 ⟨rfl, hR, hG⟩
            have HG21 := Lib.hid (HG20.out.step hG hR)
            clear hR hG
            rw [← HEE.out] at HG21
            have qFt := Lib.hid (RFault_any w.heap.size s p2 E w21 HG21.out.r)
            go_wp2_with fail
            refine qFt.out.mono ?_
            rintro e w22 ⟨rfl, rfl⟩
            by_cases hE0 : E = 0
            · exact absurd (HEE.out.symm.trans hE0) (by unfold rFail; split <;> omega)
            · have tE : (E == 0) = false := beq_eq_false_iff_ne.2 hE0
              have tE2 : (E != 0) = true := by rw [bne, tE]; rfl
              have HL2 := Lib.hid (HLL.out.trans (if_neg hE0))
              clear hE0 HEE
              go_wp2_with fail
              go_ret2
              exact ⟨⟨_, rfl, by rw [HL2.out]; exact FilesAt.nil _⟩, HG21.out.b⟩
          | false =>
            have HEE : Hid (E = F1) := HE3.out.trans (if_neg (by simp))
            have HG21 := HG20
            clear HE3
            rw [← HEE.out] at HG21
            have qFt := Lib.hid (RFault_any w.heap.size s p2 E w20 HG21.out.r)
            go_wp2_with fail
            refine qFt.out.mono ?_
            rintro e w22 ⟨rfl, rfl⟩
            by_cases hE0 : E = 0
            · have tE : (E == 0) = true := beq_iff_eq.2 hE0
              have HL2 := Lib.hid (HLL.out.trans (if_pos hE0))
              have HFI := Lib.hid HG21.out.files
              subst hE0
              clear HEE
              go_wp2_with fail
              go_ret2
              exact ⟨⟨_, rfl, by rw [HL2.out]; exact HFI.out⟩, HG21.out.b⟩
            · have tE : (E == 0) = false := beq_eq_false_iff_ne.2 hE0
              have tE2 : (E != 0) = true := by rw [bne, tE]; rfl
              have HL2 := Lib.hid (HLL.out.trans (if_neg hE0))
              clear hE0 HEE
              go_wp2_with fail
              go_ret2
              exact ⟨⟨_, rfl, by rw [HL2.out]; exact FilesAt.nil _⟩, HG21.out.b⟩

        · have t1 : decide ((0 : Int) < (s.size : Int) - (p2 : Int)) = false := decide_eq_false (by omega)
          rw [if_pos (Or.inr rfl)] at hF1
          go_wp2_with fail
          refine qL.out.mono ?_
          rintro e w10 ⟨rfl, n10, rfl⟩
          have HG10 := Lib.hid (HG.out.call (below_drewN (Below.refl _ _) n10))
          generalize w6.drewN n10 = w10 at *
          go_wp2_with fail
          with_reducible refine (qM.out _ (Lib.hid HG10.out.files)).mono ?_
          rintro e w11 ⟨rfl, hb⟩
          have HG11 := Lib.hid (HG10.out.call hb)
          clear hb
          go_wp2_with fail
          refine (RFail_any w.heap.size s p2 f2 3 _ HG11.out.r).mono ?_
          rintro e w12 ⟨rfl, hR, hG⟩
          have HG12 := Lib.hid (HG11.out.step hG hR)
          clear hR hG
          rw [hF1] at HG12
          clear hF1
          go_wp2_with fail
          -- used, the second fault
          with_reducible refine (qU.out _ (Lib.hid HG12.out.files)).mono ?_
          rintro e w20 ⟨rfl, hb⟩
          have HG20 := Lib.hid (HG12.out.call hb)
          clear hb
          cases U1 with
          | true =>
            have HEE : Hid (E = rFail F1 4) := HE3.out.trans (if_pos rfl)
            have qF2 := Lib.hid (RFail_any w.heap.size s p2 F1 4 w20 HG20.out.r)
            clear HE3
            go_wp2_with fail
            refine qF2.out.mono ?_
            rintro e w21 ⟨rfl, hR, hG⟩
            have HG21 := Lib.hid (HG20.out.step hG hR)
            clear hR hG
            rw [← HEE.out] at HG21
            have qFt := Lib.hid (RFault_any w.heap.size s p2 E w21 HG21.out.r)
            go_wp2_with fail
            refine qFt.out.mono ?_
            rintro e w22 ⟨rfl, rfl⟩
            by_cases hE0 : E = 0
            · exact absurd (HEE.out.symm.trans hE0) (by unfold rFail; split <;> omega)
            · have tE : (E == 0) = false := beq_eq_false_iff_ne.2 hE0
              have tE2 : (E != 0) = true := by rw [bne, tE]; rfl
              have HL2 := Lib.hid (HLL.out.trans (if_neg hE0))
              clear hE0 HEE
              go_wp2_with fail
              go_ret2
              exact ⟨⟨_, rfl, by rw [HL2.out]; exact FilesAt.nil _⟩, HG21.out.b⟩
          | false =>
            have HEE : Hid (E = F1) := HE3.out.trans (if_neg (by simp))
            have HG21 := HG20
            clear HE3
            rw [← HEE.out] at HG21
            have qFt := Lib.hid (RFault_any w.heap.size s p2 E w20 HG21.out.r)
            go_wp2_with fail
            refine qFt.out.mono ?_
            rintro e w22 ⟨rfl, rfl⟩
            by_cases hE0 : E = 0
            · have tE : (E == 0) = true := beq_iff_eq.2 hE0
              have HL2 := Lib.hid (HLL.out.trans (if_pos hE0))
              have HFI := Lib.hid HG21.out.files
              subst hE0
              clear HEE
              go_wp2_with fail
              go_ret2
              exact ⟨⟨_, rfl, by rw [HL2.out]; exact HFI.out⟩, HG21.out.b⟩
            · have tE : (E == 0) = false := beq_eq_false_iff_ne.2 hE0
              have tE2 : (E != 0) = true := by rw [bne, tE]; rfl
              have HL2 := Lib.hid (HLL.out.trans (if_neg hE0))
              clear hE0 HEE
              go_wp2_with fail
              go_ret2
              exact ⟨⟨_, rfl, by rw [HL2.out]; exact FilesAt.nil _⟩, HG21.out.b⟩

        · have t1 : decide ((0 : Int) < (s.size : Int) - (p2 : Int)) = false := decide_eq_false (by omega)
          rw [if_neg (by simp only [Bool.true_eq_false, or_false]; exact h1)] at hF1
          go_wp2_with fail
          refine qL.out.mono ?_
          rintro e w10 ⟨rfl, n10, rfl⟩
          have HG10 := Lib.hid (HG.out.call (below_drewN (Below.refl _ _) n10))
          generalize w6.drewN n10 = w10 at *
          go_wp2_with fail
          with_reducible refine (qM.out _ (Lib.hid HG10.out.files)).mono ?_
          rintro e w11 ⟨rfl, hb⟩
          have HG12 := Lib.hid (HG10.out.call hb)
          clear hb
          rw [hF1] at HG12
          clear hF1
          go_wp2_with fail
          -- used, the second fault
          with_reducible refine (qU.out _ (Lib.hid HG12.out.files)).mono ?_
          rintro e w20 ⟨rfl, hb⟩
          have HG20 := Lib.hid (HG12.out.call hb)
          clear hb
          cases U1 with
          | true =>
            have HEE : Hid (E = rFail F1 4) := HE3.out.trans (if_pos rfl)
            have qF2 := Lib.hid (RFail_any w.heap.size s p2 F1 4 w20 HG20.out.r)
            clear HE3
            go_wp2_with fail
            refine qF2.out.mono ?_
            rintro e w21 ⟨rfl, hR, hG⟩
            have HG21 := Lib.hid (HG20.out.step hG hR)
            clear hR hG
            rw [← HEE.out] at HG21
            have qFt := Lib.hid (RFault_any w.heap.size s p2 E w21 HG21.out.r)
            go_wp2_with fail
            refine qFt.out.mono ?_
            rintro e w22 ⟨rfl, rfl⟩
            by_cases hE0 : E = 0
            · exact absurd (HEE.out.symm.trans hE0) (by unfold rFail; split <;> omega)
            · have tE : (E == 0) = false := beq_eq_false_iff_ne.2 hE0
              have tE2 : (E != 0) = true := by rw [bne, tE]; rfl
              have HL2 := Lib.hid (HLL.out.trans (if_neg hE0))
              clear hE0 HEE
              go_wp2_with fail
              go_ret2
              exact ⟨⟨_, rfl, by rw [HL2.out]; exact FilesAt.nil _⟩, HG21.out.b⟩
          | false =>
            have HEE : Hid (E = F1) := HE3.out.trans (if_neg (by simp))
            have HG21 := HG20
            clear HE3
            rw [← HEE.out] at HG21
            have qFt := Lib.hid (RFault_any w.heap.size s p2 E w20 HG21.out.r)
            go_wp2_with fail
            refine qFt.out.mono ?_
            rintro e w22 ⟨rfl, rfl⟩
            by_cases hE0 : E = 0
            · have tE : (E == 0) = true := beq_iff_eq.2 hE0
              have HL2 := Lib.hid (HLL.out.trans (if_pos hE0))
              have HFI := Lib.hid HG21.out.files
              subst hE0
              clear HEE
              go_wp2_with fail
              go_ret2
              exact ⟨⟨_, rfl, by rw [HL2.out]; exact HFI.out⟩, HG21.out.b⟩
            · have tE : (E == 0) = false := beq_eq_false_iff_ne.2 hE0
              have tE2 : (E != 0) = true := by rw [bne, tE]; rfl
              have HL2 := Lib.hid (HLL.out.trans (if_neg hE0))
              clear hE0 HEE
              go_wp2_with fail
              go_ret2
              exact ⟨⟨_, rfl, by rw [HL2.out]; exact FilesAt.nil _⟩, HG21.out.b⟩

    · obtain rfl : i = N := by have := hi.out; omega
      rw [Nat.sub_self] at HE HLL
      have t0 : decide ((i : Int) < (i : Int)) = false := decide_eq_false (by omega)
      go_wp2_with fail
      have qM := Lib.hid (fun w hv => MayF_any v6 acc w hv (by omega) HF.out.names)
      have qU := Lib.hid (fun w hv => used_any v6 acc w hv (by omega) (by have := HF.out.used; omega))
      have qL := Lib.hid (RLeft_any w.heap.size s p f wr (Lib.hid HG.out.r) hs hp)
      have HE2 : Hid (E = if 1048576 < usedF acc then rFail (if p < s.size ∨ mayF acc = false then rFail f 3 else f) 4 else (if p < s.size ∨ mayF acc = false then rFail f 3 else f)) := HE.out
      generalize usedF acc = U at *
      generalize hMM : mayF acc = M at *
      have hMM := Lib.hid hMM
      have hc : (p < s.size) ∨ (¬ p < s.size ∧ M = false) ∨ (¬ p < s.size ∧ M = true) := by
        by_cases h : p < s.size
        · exact .inl h
        · cases M
          · exact .inr (.inl ⟨h, rfl⟩)
          · exact .inr (.inr ⟨h, rfl⟩)
      obtain ⟨F1, hF1⟩ : ∃ F1, (if p < s.size ∨ M = false then rFail f 3 else f) = F1 := ⟨_, rfl⟩
      rw [hF1] at HE2
      obtain ⟨U1, hU1⟩ : ∃ z, decide ((1048576 : Int) < (U : Int)) = z := ⟨_, rfl⟩
      have HE3 : Hid (E = if U1 then rFail F1 4 else F1) := by
        show _ = _
        rw [HE2.out, ← hU1]
        by_cases h : 1048576 < U
        · rw [if_pos h, decide_eq_true (show (1048576 : Int) < (U : Int) by omega), if_pos rfl]
        · rw [if_neg h, decide_eq_false (show ¬ (1048576 : Int) < (U : Int) by omega), if_neg (by simp)]
      clear HE HE2 hMM
      rcases hc with h1 | ⟨h1, rfl⟩ | ⟨h1, rfl⟩
      · have t1 : decide ((0 : Int) < (s.size : Int) - (p : Int)) = true := decide_eq_true (by omega)
        rw [if_pos (Or.inl h1)] at hF1
        go_wp2_with fail
        refine qL.out.mono ?_
        rintro e w10 ⟨rfl, n10, rfl⟩
        have HG10 := Lib.hid (HG.out.call (below_drewN (Below.refl _ _) n10))
        generalize wr.drewN n10 = w10 at *
        go_wp2_with fail
        refine (RFail_any w.heap.size s p f 3 _ HG10.out.r).mono ?_
        rintro e w12 ⟨rfl, hR, hG⟩
        have HG12 := Lib.hid (HG10.out.step hG hR)
        clear hR hG
        rw [hF1] at HG12
        clear hF1
        go_wp2_with fail
        -- used, the second fault
        with_reducible refine (qU.out _ (Lib.hid HG12.out.files)).mono ?_
        rintro e w20 ⟨rfl, hb⟩
        have HG20 := Lib.hid (HG12.out.call hb)
        clear hb
        cases U1 with
        | true =>
          have HEE : Hid (E = rFail F1 4) := HE3.out.trans (if_pos rfl)
          have qF2 := Lib.hid (RFail_any w.heap.size s p F1 4 w20 HG20.out.r)
          clear HE3
          go_wp2_with fail
          refine qF2.out.mono ?_
          rintro e w21 ⟨rfl, hR, hG⟩
          have HG21 := Lib.hid (HG20.out.step hG hR)
          clear hR hG
          rw [← HEE.out] at HG21
          have qFt := Lib.hid (RFault_any w.heap.size s p E w21 HG21.out.r)
          go_wp2_with fail
          refine qFt.out.mono ?_
          rintro e w22 ⟨rfl, rfl⟩
          by_cases hE0 : E = 0
          · exact absurd (HEE.out.symm.trans hE0) (by unfold rFail; split <;> omega)
          · have tE : (E == 0) = false := beq_eq_false_iff_ne.2 hE0
            have tE2 : (E != 0) = true := by rw [bne, tE]; rfl
            have HL2 := Lib.hid (HLL.out.trans (if_neg hE0))
            clear hE0 HEE
            go_wp2_with fail
            go_ret2
            exact ⟨⟨_, rfl, by rw [HL2.out]; exact FilesAt.nil _⟩, HG21.out.b⟩
        | false =>
          have HEE : Hid (E = F1) := HE3.out.trans (if_neg (by simp))
          have HG21 := HG20
          clear HE3
          rw [← HEE.out] at HG21
          have qFt := Lib.hid (RFault_any w.heap.size s p E w20 HG21.out.r)
          go_wp2_with fail
          refine qFt.out.mono ?_
          rintro e w22 ⟨rfl, rfl⟩
          by_cases hE0 : E = 0
          · have tE : (E == 0) = true := beq_iff_eq.2 hE0
            have HL2 := Lib.hid (HLL.out.trans (if_pos hE0))
            have HFI := Lib.hid HG21.out.files
            subst hE0
            clear HEE
            go_wp2_with fail
            go_ret2
            exact ⟨⟨_, rfl, by rw [HL2.out]; exact HFI.out⟩, HG21.out.b⟩
          · have tE : (E == 0) = false := beq_eq_false_iff_ne.2 hE0
            have tE2 : (E != 0) = true := by rw [bne, tE]; rfl
            have HL2 := Lib.hid (HLL.out.trans (if_neg hE0))
            clear hE0 HEE
            go_wp2_with fail
            go_ret2
            exact ⟨⟨_, rfl, by rw [HL2.out]; exact FilesAt.nil _⟩, HG21.out.b⟩

      · have t1 : decide ((0 : Int) < (s.size : Int) - (p : Int)) = false := decide_eq_false (by omega)
        rw [if_pos (Or.inr rfl)] at hF1
        go_wp2_with fail
        refine qL.out.mono ?_
        rintro e w10 ⟨rfl, n10, rfl⟩
        have HG10 := Lib.hid (HG.out.call (below_drewN (Below.refl _ _) n10))
        generalize wr.drewN n10 = w10 at *
        go_wp2_with fail
        with_reducible refine (qM.out _ (Lib.hid HG10.out.files)).mono ?_
        rintro e w11 ⟨rfl, hb⟩
        have HG11 := Lib.hid (HG10.out.call hb)
        clear hb
        go_wp2_with fail
        refine (RFail_any w.heap.size s p f 3 _ HG11.out.r).mono ?_
        rintro e w12 ⟨rfl, hR, hG⟩
        have HG12 := Lib.hid (HG11.out.step hG hR)
        clear hR hG
        rw [hF1] at HG12
        clear hF1
        go_wp2_with fail
        -- used, the second fault
        with_reducible refine (qU.out _ (Lib.hid HG12.out.files)).mono ?_
        rintro e w20 ⟨rfl, hb⟩
        have HG20 := Lib.hid (HG12.out.call hb)
        clear hb
        cases U1 with
        | true =>
          have HEE : Hid (E = rFail F1 4) := HE3.out.trans (if_pos rfl)
          have qF2 := Lib.hid (RFail_any w.heap.size s p F1 4 w20 HG20.out.r)
          clear HE3
          go_wp2_with fail
          refine qF2.out.mono ?_
          rintro e w21 ⟨rfl, hR, hG⟩
          have HG21 := Lib.hid (HG20.out.step hG hR)
          clear hR hG
          rw [← HEE.out] at HG21
          have qFt := Lib.hid (RFault_any w.heap.size s p E w21 HG21.out.r)
          go_wp2_with fail
          refine qFt.out.mono ?_
          rintro e w22 ⟨rfl, rfl⟩
          by_cases hE0 : E = 0
          · exact absurd (HEE.out.symm.trans hE0) (by unfold rFail; split <;> omega)
          · have tE : (E == 0) = false := beq_eq_false_iff_ne.2 hE0
            have tE2 : (E != 0) = true := by rw [bne, tE]; rfl
            have HL2 := Lib.hid (HLL.out.trans (if_neg hE0))
            clear hE0 HEE
            go_wp2_with fail
            go_ret2
            exact ⟨⟨_, rfl, by rw [HL2.out]; exact FilesAt.nil _⟩, HG21.out.b⟩
        | false =>
          have HEE : Hid (E = F1) := HE3.out.trans (if_neg (by simp))
          have HG21 := HG20
          clear HE3
          rw [← HEE.out] at HG21
          have qFt := Lib.hid (RFault_any w.heap.size s p E w20 HG21.out.r)
          go_wp2_with fail
          refine qFt.out.mono ?_
          rintro e w22 ⟨rfl, rfl⟩
          by_cases hE0 : E = 0
          · have tE : (E == 0) = true := beq_iff_eq.2 hE0
            have HL2 := Lib.hid (HLL.out.trans (if_pos hE0))
            have HFI := Lib.hid HG21.out.files
            subst hE0
            clear HEE
            go_wp2_with fail
            go_ret2
            exact ⟨⟨_, rfl, by rw [HL2.out]; exact HFI.out⟩, HG21.out.b⟩
          · have tE : (E == 0) = false := beq_eq_false_iff_ne.2 hE0
            have tE2 : (E != 0) = true := by rw [bne, tE]; rfl
            have HL2 := Lib.hid (HLL.out.trans (if_neg hE0))
            clear hE0 HEE
            go_wp2_with fail
            go_ret2
            exact ⟨⟨_, rfl, by rw [HL2.out]; exact FilesAt.nil _⟩, HG21.out.b⟩

      · have t1 : decide ((0 : Int) < (s.size : Int) - (p : Int)) = false := decide_eq_false (by omega)
        rw [if_neg (by simp only [Bool.true_eq_false, or_false]; exact h1)] at hF1
        go_wp2_with fail
        refine qL.out.mono ?_
        rintro e w10 ⟨rfl, n10, rfl⟩
        have HG10 := Lib.hid (HG.out.call (below_drewN (Below.refl _ _) n10))
        generalize wr.drewN n10 = w10 at *
        go_wp2_with fail
        with_reducible refine (qM.out _ (Lib.hid HG10.out.files)).mono ?_
        rintro e w11 ⟨rfl, hb⟩
        have HG12 := Lib.hid (HG10.out.call hb)
        clear hb
        rw [hF1] at HG12
        clear hF1
        go_wp2_with fail
        -- used, the second fault
        with_reducible refine (qU.out _ (Lib.hid HG12.out.files)).mono ?_
        rintro e w20 ⟨rfl, hb⟩
        have HG20 := Lib.hid (HG12.out.call hb)
        clear hb
        cases U1 with
        | true =>
          have HEE : Hid (E = rFail F1 4) := HE3.out.trans (if_pos rfl)
          have qF2 := Lib.hid (RFail_any w.heap.size s p F1 4 w20 HG20.out.r)
          clear HE3
          go_wp2_with fail
          refine qF2.out.mono ?_
          rintro e w21 ⟨rfl, hR, hG⟩
          have HG21 := Lib.hid (HG20.out.step hG hR)
          clear hR hG
          rw [← HEE.out] at HG21
          have qFt := Lib.hid (RFault_any w.heap.size s p E w21 HG21.out.r)
          go_wp2_with fail
          refine qFt.out.mono ?_
          rintro e w22 ⟨rfl, rfl⟩
          by_cases hE0 : E = 0
          · exact absurd (HEE.out.symm.trans hE0) (by unfold rFail; split <;> omega)
          · have tE : (E == 0) = false := beq_eq_false_iff_ne.2 hE0
            have tE2 : (E != 0) = true := by rw [bne, tE]; rfl
            have HL2 := Lib.hid (HLL.out.trans (if_neg hE0))
            clear hE0 HEE
            go_wp2_with fail
            go_ret2
            exact ⟨⟨_, rfl, by rw [HL2.out]; exact FilesAt.nil _⟩, HG21.out.b⟩
        | false =>
          have HEE : Hid (E = F1) := HE3.out.trans (if_neg (by simp))
          have HG21 := HG20
          clear HE3
          rw [← HEE.out] at HG21
          have qFt := Lib.hid (RFault_any w.heap.size s p E w20 HG21.out.r)
          go_wp2_with fail
          refine qFt.out.mono ?_
          rintro e w22 ⟨rfl, rfl⟩
          by_cases hE0 : E = 0
          · have tE : (E == 0) = true := beq_iff_eq.2 hE0
            have HL2 := Lib.hid (HLL.out.trans (if_pos hE0))
            have HFI := Lib.hid HG21.out.files
            subst hE0
            clear HEE
            go_wp2_with fail
            go_ret2
            exact ⟨⟨_, rfl, by rw [HL2.out]; exact HFI.out⟩, HG21.out.b⟩
          · have tE : (E == 0) = false := beq_eq_false_iff_ne.2 hE0
            have tE2 : (E != 0) = true := by rw [bne, tE]; rfl
            have HL2 := Lib.hid (HLL.out.trans (if_neg hE0))
            clear hE0 HEE
            go_wp2_with fail
            go_ret2
            exact ⟨⟨_, rfl, by rw [HL2.out]; exact FilesAt.nil _⟩, HG21.out.b⟩

end Go.Proofs.YtaigngdlioplaaaDoor
