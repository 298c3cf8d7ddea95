/- A book that comes in. -/
import Derived.Test.YtfkfpppiikgjbaaBookI
import Derived.Test.YtfkfpppiikgjbaaOpen
import Derived.Test.YtfkfpppiikgjbaaLeaf
namespace Go.Proofs.Ytfkfpppiikgjbaa
open Go Go.ChangeShapes Go.WideShapes Go.Deep Go.ChangeAt Go.RowKit
set_option linter.unusedVariables false

section
variable {H : Type} {enc : TypeId × Value → H} {P : Program} {w : World}
/-- A slice of records of whole numbers, the one cell of it at hand. -/
theorem open_recs {t e : TypeId} {fs : Array Field} (ht : P.underlying t = some (.slice e)) (he : P.underlying e = some (.struct fs)) (hone : oneCellFields P fs = true) (hC : P.cellsOf e = fs.size) (hpos : 0 < fs.size)
    (hI : ∀ (j : Nat) (f : Field), fs[j]? = some f → P.underlying f.type = some (.int .i64)) {m : Nat} {c : Value} {y : DataW H × List MemPlace} (hf : DataW.trod enc P w 0 (fun _ => true) true m t [c] = some y) :
    ∃ l : List (List Int), RowAt w c fs.size l ∧ l.length ≤ maxLen ∧ ∀ r ∈ l, ∀ x ∈ r, I64 x := by
  rcases open_slice ht hf with ⟨hcs, _⟩ | ⟨a, len, cap, m', n, D, Pl, hcs, hb, hl, hm, hmm, _, hi⟩
  · have hcs := List.cons.inj hcs |>.1
    subst hcs
    exact ⟨[], ⟨none, 0, rfl, fun r hr => by simp at hr, .inl rfl⟩, Nat.zero_le _, fun r hr => by simp at hr⟩
  · have hcs := List.cons.inj hcs |>.1
    subst hcs
    simp only [if_true] at hmm
    subst hmm
    have hA : ∀ ij : Nat × Nat, ∃ x : Int, ij.1 < len → ij.2 < fs.size → ((∃ b o, a = ⟨b, o, none⟩ ∧ b < w.heap.size ∧ w.cell? ⟨b, o + ij.1 * fs.size + ij.2, none⟩ = some (.int .i64 x)) ∧ I64 x) := by
      rintro ⟨i, j⟩
      by_cases hin : i < len
      · by_cases hjn : j < fs.size
        · obtain ⟨cs', hc, ht'⟩ := hi i (by omega)
          rw [hC] at hc
          obtain ⟨_, hcl, hat⟩ := World.cells?_some hc
          obtain ⟨ys, n', _, _, _, hyl, hff⟩ := DataW.trod_struct he ht'
          have hfj : fs[j]? = some fs[j] := Array.getElem?_eq_getElem hjn
          obtain ⟨ho, hk⟩ := hone_of hone j _ hfj
          have hcell := hat j hjn
          rw [List.getElem?_eq_getElem (by omega)] at hcell
          have h1 := hff j _ hfj
          rw [ho, hk] at h1
          have hone' : (cs'.drop j).take 1 = [cs'[j]'(by omega)] := by
            rw [List.drop_eq_getElem_cons (by omega)]
            rfl
          rw [hone', List.getElem?_eq_getElem (by omega)] at h1
          obtain ⟨x, hx, hwf⟩ := leaf_int (hI j _ hfj) h1
          rw [hx] at hcell
          have hsp0 : a.spot = none := by
            obtain ⟨cs0, hc0, _⟩ := hi 0 (by omega)
            rw [hC] at hc0
            obtain ⟨_, hcl0, hat0⟩ := World.cells?_some hc0
            have h2 := hat0 0 hpos
            rw [Nat.zero_mul] at h2
            have e0 : (a.add 0).add 0 = a := by simp [Addr.add]
            rw [e0, List.getElem?_eq_getElem (by omega)] at h2
            exact spot_none h2
          have h0 := addr_none hsp0
          generalize a.block = b at h0
          generalize a.off = o at h0
          subst h0
          rw [add_at, add_at] at hcell
          exact ⟨x, fun _ _ => ⟨⟨b, o, rfl, World.block_lt_of_cell? w _ hcell, hcell⟩, (wf_i64 hwf).out⟩⟩
        · exact ⟨0, fun _ h => absurd h hjn⟩
      · exact ⟨0, fun h => absurd h hin⟩
    obtain ⟨g, hg⟩ := Classical.axiomOfChoice hA
    have hk : ∀ r ∈ (List.range len).map (fun i => (List.range fs.size).map fun j => g (i, j)), r.length = fs.size := fun r hr => by
      obtain ⟨i, _, rfl⟩ := List.mem_map.1 hr
      simp
    have hlen : ((List.range len).map (fun i => (List.range fs.size).map fun j => g (i, j))).length = len := by simp
    refine ⟨(List.range len).map (fun i => (List.range fs.size).map fun j => g (i, j)), ⟨some a, m', by rw [hlen], hk, ?_⟩, by rw [hlen]; omega, fun r hr x hx => ?_⟩
    · by_cases h0 : len = 0
      · subst h0; exact .inl rfl
      · obtain ⟨⟨b, o, rfl, hbl, _⟩, _⟩ := hg (0, 0) (by show 0 < len; omega) hpos
        refine .inr ⟨b, o, rfl, hbl, fun j x hj => ?_⟩
        have hjl := (List.getElem?_eq_some_iff.1 hj).1
        rw [flat_len hk, hlen] at hjl
        have hd : j / fs.size < len := (Nat.div_lt_iff_lt_mul hpos).2 hjl
        have hmd : j % fs.size < fs.size := Nat.mod_lt _ hpos
        have h1 := flat_get (l := (List.range len).map (fun i => (List.range fs.size).map fun j => g (i, j))) (i := j / fs.size) (j := j % fs.size) hk (by rw [List.getElem?_map, List.getElem?_range hd]; rfl) (x := g (j / fs.size, j % fs.size)) (by rw [List.getElem?_map, List.getElem?_range hmd]; rfl)
        have hj' : j / fs.size * fs.size + j % fs.size = j := by rw [Nat.mul_comm]; exact Nat.div_add_mod j fs.size
        rw [hj', hj] at h1
        injection h1 with h1
        obtain ⟨⟨b', o', he', _, hcell⟩, _⟩ := hg (j / fs.size, j % fs.size) hd hmd
        injection he' with hb' ho'
        subst hb' ho' h1
        simp only at hcell
        rw [Nat.add_assoc, hj'] at hcell
        exact hcell
    · obtain ⟨i, hi', rfl⟩ := List.mem_map.1 hr
      obtain ⟨j, hj', rfl⟩ := List.mem_map.1 hx
      exact (hg (i, j) (by simpa using hi') (by simpa using hj')).2
end
def Bk.Ints (b : Bk) : Prop := (∀ r ∈ b.h, ∀ x ∈ r, I64 x) ∧ (∀ r ∈ b.s, ∀ x ∈ r, I64 x) ∧ (∀ r ∈ b.o, ∀ x ∈ r, I64 x) ∧ (∀ r ∈ b.r, ∀ x ∈ r, I64 x) ∧ I64 b.n
def intF (P : Program) (fs : Array Field) : Bool := (List.range fs.size).all fun j => match fs[j]? with | some f => isI64 (P.underlying f.type) | none => true
theorem intF_spec {P : Program} {fs : Array Field} (h : intF P fs = true) (j : Nat) (f : Field) (hj : fs[j]? = some f) : P.underlying f.type = some (.int .i64) := by
  have h1 := List.all_eq_true.1 h j (List.mem_range.2 (Array.getElem?_eq_some_iff.1 hj).1)
  rw [hj] at h1
  exact isI64_spec h1
set_option maxRecDepth 100000 in
theorem open_book {H : Type} {enc : TypeId × Value → H} {W : World} {r : Reach} {b0 : Nat} {v : Value} {d : DataW H} {ps : List MemPlace} (hv : Value.okWide Try.prog W r b0 37 v) (h : DataW.Trod enc Try.prog W 0 (fun _ => true) true 37 v d ps) :
    ∃ b : Bk, BkAt W v b ∧ b.Ints := by
  obtain ⟨cs, rfl, hsz, hc⟩ := open_agg (n := 2) Try.underlying37 hv h
  obtain ⟨v0, m0, y0, e0, t0⟩ := hc 0 32 (by decide +kernel)
  obtain ⟨v1, m1, y1, e1, t1⟩ := hc 1 33 (by decide +kernel)
  obtain ⟨v2, m2, y2, e2, t2⟩ := hc 2 34 (by decide +kernel)
  obtain ⟨v3, m3, y3, e3, t3⟩ := hc 3 35 (by decide +kernel)
  obtain ⟨v4, m4, y4, e4, t4⟩ := hc 4 2 (by decide +kernel)
  obtain ⟨lh, h1, _, i1⟩ := open_recs Try.underlying32 Try.underlying39 (by kernel_rfl) (by kernel_rfl) (by decide) (fun j f hj => intF_spec (P := Try.prog) (by kernel_rfl) j f hj) t0
  obtain ⟨ls, h2, _, i2⟩ := open_recs Try.underlying33 Try.underlying41 (by kernel_rfl) (by kernel_rfl) (by decide) (fun j f hj => intF_spec (P := Try.prog) (by kernel_rfl) j f hj) t1
  obtain ⟨lo, h3, _, i3⟩ := open_recs Try.underlying34 Try.underlying43 (by kernel_rfl) (by kernel_rfl) (by decide) (fun j f hj => intF_spec (P := Try.prog) (by kernel_rfl) j f hj) t2
  obtain ⟨lr, h4, _, i4⟩ := open_recs Try.underlying35 Try.underlying45 (by kernel_rfl) (by kernel_rfl) (by decide) (fun j f hj => intF_spec (P := Try.prog) (by kernel_rfl) j f hj) t3
  obtain ⟨n, hn, wn⟩ := leaf_int Try.underlying2 t4
  have hcs : cs = #[v0, v1, v2, v3, .int .i64 n] := by
    have hz : cs.size = 5 := hsz.trans (by kernel_rfl)
    apply Array.ext_getElem?
    intro i
    match i with
    | 0 => rw [e0]; rfl
    | 1 => rw [e1]; rfl
    | 2 => rw [e2]; rfl
    | 3 => rw [e3]; rfl
    | 4 => rw [e4, hn]; rfl
    | i + 5 => rw [Array.getElem?_eq_none (by omega), Array.getElem?_eq_none (by simp)]
  subst hcs
  exact ⟨⟨lh, ls, lo, lr, n⟩, ⟨v0, v1, v2, v3, rfl, h1, h2, h3, h4⟩, i1, i2, i3, i4, (wf_i64 wn).out⟩
end Go.Proofs.Ytfkfpppiikgjbaa
