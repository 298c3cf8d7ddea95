/- Part 17 of what the claim rests on. -/
import Derived.Test.YtjcdpmianmgiaaaGreatDoorP00
import Derived.Test.YtjcdpmianmgiaaaGreatDoorP08
import Derived.Test.YtjcdpmianmgiaaaGreatDoorP12
import Derived.Test.YtjcdpmianmgiaaaGreatDoorP15
import Derived.MapKept
namespace Go.Proofs.YtjcdpmianmgiaaaGreatDoor
open Go Go.RowKit Mon
set_option linter.unusedVariables false
set_option linter.unusedSimpArgs false
theorem setK_any {ge ne : List Int → Bool} {x : List Int} (p : List Int → Bool) : ∀ (d : Bool) (l : List (List Int)), (setK ge ne x d l).any p = ((!d && p x) || l.any (fun r => ne r && p r))
  | d, [] => by cases d <;> simp [setK]
  | d, r :: t => by
    have e1 : ∀ (c : Bool) (y : List Int), (if c then [y] else []).any p = (c && p y) := by intro c y; cases c <;> simp
    rw [setK, List.any_append, List.any_append, setK_any p (d || ge r) t, List.any_cons, e1, e1]
    generalize p x = X
    generalize p r = Y
    generalize t.any (fun r => ne r && p r) = Z
    generalize ge r = G
    generalize ne r = N
    cases d <;> cases G <;> cases N <;> cases X <;> cases Y <;> cases Z <;> rfl
theorem setK_length {ge ne : List Int → Bool} {x : List Int} : ∀ (d : Bool) (l : List (List Int)), (setK ge ne x d l).length = (if d then 0 else 1) + (l.filter ne).length
  | d, [] => by cases d <;> simp [setK]
  | d, r :: t => by
    rw [setK, List.length_append, List.length_append, setK_length (d || ge r) t, List.filter_cons]
    cases d <;> cases ge r <;> cases ne r <;> simp <;> omega
theorem setK_filter {ge ne : List Int → Bool} {x : List Int} (hx : ne x = false) : ∀ (d : Bool) (l : List (List Int)), (setK ge ne x d l).filter ne = l.filter ne
  | d, [] => by cases d <;> simp [setK, hx]
  | d, r :: t => by
    rw [setK, List.filter_append, List.filter_append, setK_filter hx (d || ge r) t, List.filter_cons]
    cases d <;> cases ge r <;> cases h : ne r <;> simp [hx, h]
theorem setK_out {ge ne : List Int → Bool} {x : List Int} : ∀ (l : List (List Int)), setK ge ne x true l = l.filter ne
  | [] => rfl
  | r :: t => by
    rw [setK, show (true || ge r) = true from rfl, setK_out t, List.filter_cons]
    cases ne r <;> simp
theorem setK_mem {ge ne : List Int → Bool} {x r : List Int} : ∀ {d : Bool} {l : List (List Int)}, r ∈ setK ge ne x d l → r = x ∨ r ∈ l
  | d, [], h => by cases d <;> simp [setK] at h; exact .inl h
  | d, a :: t, h => by
    rw [setK] at h
    rcases List.mem_append.1 h with h | h
    · split at h <;> simp at h
      exact .inl h
    rcases List.mem_append.1 h with h | h
    · split at h <;> simp at h
      exact .inr (by simp [h])
    · rcases setK_mem h with h | h
      · exact .inl h
      · exact .inr (by simp [h])
def hasId (l : List (List Int)) (id : Int) : Bool := (l.find? (isId id)).isSome
theorem hasId_any (l : List (List Int)) (id : Int) : hasId l id = l.any (isId id) := by
  unfold hasId
  rw [List.isSome_find?]
theorem isId_yes {k : Int} {r : List Int} (h : r.headD 0 = k) : isId k r = true := decide_eq_true h
theorem isId_no {k : Int} {r : List Int} (h : ¬ r.headD 0 = k) : isId k r = false := decide_eq_false h
theorem isId_both {k id : Int} (hk : ¬ k = id) : (fun r => !isId id r && isId k r) = isId k := by
  funext r
  by_cases h : r.headD 0 = k
  · rw [isId_yes h, isId_no (by rw [h]; exact hk)]; rfl
  · rw [isId_no h]; simp
theorem hasId_set {id : Int} {x : List Int} (hx : x.headD 0 = id) (l : List (List Int)) (k : Int) : hasId (setH id x false l) k = (decide (k = id) || hasId l k) := by
  rw [hasId_any, hasId_any, setH, setK_any]
  by_cases hk : k = id
  · subst hk
    rw [isId_yes hx]
    simp
  · rw [isId_no (show ¬ x.headD 0 = k from by rw [hx]; exact fun e => hk e.symm), isId_both hk]
    simp [hk]
theorem none_any {p : List Int → Bool} {l : List (List Int)} (h : l.any p = false) : ∀ r ∈ l, p r = false := by
  intro r hr
  have := List.any_eq_false.1 h r hr
  simpa using this
theorem any_none {p : List Int → Bool} {l : List (List Int)} (h : ∀ r ∈ l, p r = false) : l.any p = false := by
  rw [List.any_eq_false]
  intro r hr
  simp [h r hr]
theorem filter_new {id : Int} {l : List (List Int)} (h : hasId l id = false) : l.filter (fun r => !isId id r) = l := by
  rw [hasId_any] at h
  rw [List.filter_eq_self]
  intro r hr
  simp [none_any h r hr]
theorem setH_new {id : Int} {x : List Int} {l : List (List Int)} (h : hasId l id = false) : (setH id x false l).length = l.length + 1 := by
  rw [setH, setK_length, filter_new h]
  simp; omega
theorem setH_old {id : Int} {x : List Int} {d : Bool} {l : List (List Int)} (h : hasId l id = true) : (setH id x d l).length ≤ l.length := by
  rw [setH, setK_length]
  rw [hasId_any, List.any_eq_true] at h
  obtain ⟨r, hr, hi⟩ := h
  have : (l.filter (fun r => !isId id r)).length < l.length := by
    rw [← Nat.not_le]
    intro hle
    have he := List.filter_eq_self.1 ((List.filter_sublist).eq_of_length_le hle) r hr
    rw [hi] at he
    simp at he
  split <;> omega
theorem setH_back {id : Int} {x y : List Int} {l : List (List Int)} (hx : x.headD 0 = id) (h : hasId l id = false) : setH id y true (setH id x false l) = l := by
  rw [setH, setK_out, setH, setK_filter (show (!isId id x) = false from by rw [isId_yes hx]; rfl), filter_new h]
structure Bk.Fine (b : Bk) : Prop where
  lh : b.h.length ≤ 32
  lo : b.o.length ≤ 64
  lr : b.r.length ≤ 32
  rise : b.Rise
  n0 : 0 ≤ b.n
  n1 : b.n ≤ 1099511627776
  h : ∀ r ∈ b.h, badH r = false
  r : ∀ r ∈ b.r, badR r = false
  s : ∀ r ∈ b.s, badS b r = false
  o : ∀ r ∈ b.o, badO b r = false
theorem Bk.mayB_iff (b : Bk) : b.mayB = true ↔ b.Fine := by
  unfold Bk.mayB Bk.listsB Bk.countB
  simp only [Bool.and_eq_true, Bool.not_eq_true', decide_eq_false_iff_not, Bk.riseB_iff]
  constructor
  · rintro ⟨⟨h1, h2, h3, h4⟩, ⟨h5, h6⟩, h7, h8, h9, h10⟩
    exact ⟨by omega, by omega, by omega, h4, by omega, by omega, none_any h7, none_any h8, none_any h9, none_any h10⟩
  · intro h
    exact ⟨⟨by have := h.lh; omega, by have := h.lo; omega, by have := h.lr; omega, h.rise⟩, ⟨by have := h.n0; omega, by have := h.n1; omega⟩, any_none h.h, any_none h.r, any_none h.s, any_none h.o⟩
theorem thereB_eq (b : Bk) (acc sym : Int) : thereB b acc sym = (hasId b.h acc && hasId b.r sym) := rfl
theorem badS_mono {b c : Bk} (h : ∀ a s, thereB b a s = true → thereB c a s = true) {r : List Int} (hr : badS b r = false) : badS c r = false := by
  unfold badS at hr ⊢
  simp only [Bool.or_eq_false_iff, Bool.not_eq_false'] at hr ⊢
  exact ⟨hr.1, h _ _ hr.2⟩
theorem badO_mono {b c : Bk} (h : ∀ a s, thereB b a s = true → thereB c a s = true) {r : List Int} (hr : badO b r = false) : badO c r = false := by
  unfold badO at hr ⊢
  simp only [Bool.or_eq_false_iff, Bool.not_eq_false'] at hr ⊢
  exact ⟨hr.1, hr.2.1, hr.2.2.1, hr.2.2.2.1, h _ _ hr.2.2.2.2⟩
theorem Fine.setHolder {b : Bk} (hb : b.Fine) {id x1 x2 x3 : Int} (h2 : 0 ≤ x2) (h3 : 0 ≤ x3) (hl : (setH id [id, x1, x2, x3] false b.h).length ≤ 32) : ({ b with h := setH id [id, x1, x2, x3] false b.h } : Bk).Fine := by
  have hm : ∀ a s, thereB b a s = true → thereB { b with h := setH id [id, x1, x2, x3] false b.h } a s = true := by
    intro a s h
    rw [thereB_eq] at h ⊢
    rw [Bool.and_eq_true] at h ⊢
    refine ⟨?_, h.2⟩
    show hasId (setH id [id, x1, x2, x3] false b.h) a = true
    rw [hasId_set (id := id) (x := [id, x1, x2, x3]) rfl, h.1]
    simp
  refine ⟨hl, hb.lo, hb.lr, ⟨setH_rise _ _ _ hb.rise.1 rfl, hb.rise.2⟩, hb.n0, hb.n1, ?_, hb.r, fun r hr => badS_mono hm (hb.s r hr), fun r hr => badO_mono hm (hb.o r hr)⟩
  intro r hr
  rcases setK_mem hr with rfl | hr
  · simp [badH]; omega
  · exact hb.h r hr
theorem Fine.setRate {b : Bk} (hb : b.Fine) {id x1 : Int} (h1 : 1 ≤ x1) (hl : (setH id [id, x1] false b.r).length ≤ 32) : ({ b with r := setH id [id, x1] false b.r } : Bk).Fine := by
  have hm : ∀ a s, thereB b a s = true → thereB { b with r := setH id [id, x1] false b.r } a s = true := by
    intro a s h
    rw [thereB_eq] at h ⊢
    rw [Bool.and_eq_true] at h ⊢
    refine ⟨h.1, ?_⟩
    show hasId (setH id [id, x1] false b.r) s = true
    rw [hasId_set (id := id) (x := [id, x1]) rfl, h.2]
    simp
  refine ⟨hb.lh, hb.lo, hl, ⟨hb.rise.1, hb.rise.2.1, setH_rise _ _ _ hb.rise.2.2.1 rfl, hb.rise.2.2.2⟩, hb.n0, hb.n1, hb.h, ?_, fun r hr => badS_mono hm (hb.s r hr), fun r hr => badO_mono hm (hb.o r hr)⟩
  intro r hr
  rcases setK_mem hr with rfl | hr
  · simp [badR]; omega
  · exact hb.r r hr
theorem Fine.setOpen {b : Bk} (hb : b.Fine) {id : Int} {x : List Int} {d : Bool} (hx : x.headD 0 = id) (h : d = false → badO b x = false) (hl : (setH id x d b.o).length ≤ 64) : ({ b with o := setH id x d b.o } : Bk).Fine := by
  refine ⟨hb.lh, hl, hb.lr, ⟨hb.rise.1, setH_rise _ _ _ hb.rise.2.1 hx, hb.rise.2.2⟩, hb.n0, hb.n1, hb.h, hb.r, hb.s, ?_⟩
  intro r hr
  show badO b r = false
  cases d with
  | false =>
    rcases setK_mem hr with rfl | hr
    · exact h rfl
    · exact hb.o r hr
  | true =>
    have hr' : r ∈ setH id x true b.o := hr
    rw [setH, setK_out] at hr'
    exact hb.o r ((List.mem_filter.1 hr').1)
theorem Fine.setStake {b : Bk} (hb : b.Fine) {a s q : Int} (ht : thereB b a s = true) : ({ b with s := setS a s [a, s, q] (q == 0) b.s } : Bk).Fine := by
  refine ⟨hb.lh, hb.lo, hb.lr, ⟨hb.rise.1, hb.rise.2.1, hb.rise.2.2.1, setS_rise _ _ _ _ hb.rise.2.2.2 rfl rfl⟩, hb.n0, hb.n1, hb.h, hb.r, ?_, hb.o⟩
  intro r hr
  show badS b r = false
  by_cases hq : q = 0
  · have hr' : r ∈ setS a s [a, s, q] (q == 0) b.s := hr
    rw [show (q == 0) = true by simp [hq], setS, setK_out] at hr'
    exact hb.s r ((List.mem_filter.1 hr').1)
  · rcases setK_mem hr with rfl | hr
    · simp [badS, hq]; exact ht
    · exact hb.s r hr
theorem hold1 {n a b : Int} (h : relS n = 1) : (sS n a b).holds = decide (a ≤ b) := by unfold Stp.holds sS; simp only []; rw [h]; rfl
theorem hold2 {n a b : Int} (h : relS n = 2) : (sS n a b).holds = decide (b ≤ a) := by unfold Stp.holds sS; simp only []; rw [h]; rfl
theorem hold3 {n a b : Int} (h : relS n = 3) : (sS n a b).holds = decide (a = b) := by
  unfold Stp.holds sS; simp only []; rw [h]
  show (!false && (a == b)) = _
  simp
  rfl
theorem holdO {n a b : Int} {f : Bool} : (oS n a b f).holds = (f && (sS n a b).holds) := by cases f <;> rfl
theorem bitI_one (b : Bool) : (bitI b = 1) ↔ b = true := by cases b <;> simp [bitI]
theorem bitI_zero (b : Bool) : (bitI b = 0) ↔ b = false := by cases b <;> simp [bitI]
theorem rels : relS 1 = 2 ∧ relS 2 = 1 ∧ relS 3 = 2 ∧ relS 4 = 1 ∧ relS 5 = 2 ∧ relS 6 = 2 ∧ relS 7 = 2 ∧ relS 8 = 2 ∧ relS 9 = 2 ∧ relS 10 = 3 ∧ relS 11 = 3 ∧ relS 12 = 3 ∧ relS 13 = 3 ∧ relS 14 = 3 ∧ relS 15 = 1 ∧ relS 16 = 1 ∧ relS 17 = 1 ∧ relS 18 = 1 ∧ relS 19 = 1 ∧ relS 20 = 1 ∧ relS 21 = 1 ∧ relS 22 = 3 ∧ relS 23 = 3 := by decide
theorem headS_iff (e : Ev) : (headS e).all (·.holds) = true ↔ 1 ≤ e.kind ∧ e.kind ≤ 7 := by
  obtain ⟨r1, r2, _⟩ := rels
  simp [headS, hold2 r1, hold1 r2]
theorem accS_iff (b : Bk) (e : Ev) : (accS b e).all (·.holds) = true ↔ 0 ≤ e.qty ∧ hasH b e.acc = false ∧ b.h.length ≤ 31 := by
  obtain ⟨_, _, _, _, _, _, r7, _, _, _, r11, _, _, _, r15, _⟩ := rels
  simp [accS, hold2 r7, hold3 r11, hold1 r15, bitI_zero]
  omega
theorem limS_iff (b : Bk) (e : Ev) : (limS b e).all (·.holds) = true ↔ hasH b e.acc = true ∧ 0 ≤ e.qty ∧ 0 ≤ e.px := by
  obtain ⟨_, _, _, _, _, _, _, r8, r9, r10, _⟩ := rels
  simp [limS, hold2 r8, hold2 r9, hold3 r10, bitI_one]
theorem quoS_iff (b : Bk) (e : Ev) : (quoS b e).all (·.holds) = true ↔ 1 ≤ e.px ∧ (hasR b e.sym = false → b.r.length ≤ 31) := by
  obtain ⟨_, _, _, _, _, r6, _, _, _, _, _, _, _, _, _, _, r17, _⟩ := rels
  unfold quoS
  cases h : hasR b e.sym
  · simp [hold2 r6, hold1 r17]; omega
  · simp [hold2 r6]
theorem canS_iff (b : Bk) (e : Ev) : (canS b e).all (·.holds) = true ↔ hasO b e.ord = true := by
  obtain ⟨_, _, _, _, _, _, _, _, _, _, _, _, r13, _⟩ := rels
  simp [canS, hold3 r13, bitI_one]
theorem ordS_iff (b : Bk) (e : Ev) (rate : Int) : (ordS b e rate).all (·.holds) = true → 0 ≤ e.side ∧ e.side ≤ 1 ∧ 1 ≤ e.qty ∧ 1 ≤ e.px ∧ hasH b e.acc = true ∧ hasO b e.ord = false ∧ hasR b e.sym = true ∧ b.o.length ≤ 63 ∧ (needE b e rate).2 = true := by
  obtain ⟨_, _, r3, r4, r5, r6, _, _, _, r10, _, r12, _, r14, _, r16, _⟩ := rels
  simp only [ordS, List.all_cons, List.all_nil, Bool.and_true, Bool.and_eq_true, hold2 r3, hold1 r4, hold2 r5, hold2 r6, hold3 r10, hold3 r12, hold3 r14, hold1 r16, bitI_one, bitI_zero, decide_eq_true_eq, holdO]
  rintro ⟨h1, h2, h3, h4, h5, h6, h7, h8, _, _, ⟨h9, _⟩, _⟩
  exact ⟨h1, h2, h3, h4, h5, h6, h7, by omega, h9⟩
theorem fillS_iff (b : Bk) (e : Ev) : (fillS b e).all (·.holds) = true → hasO b e.ord = true ∧ 1 ≤ e.qty ∧ 1 ≤ e.px ∧ e.qty ≤ (recO b e.ord).getD 4 0 := by
  obtain ⟨_, _, _, _, r5, r6, _, _, _, _, _, _, r13, _, _, _, _, _, _, _, r21, _⟩ := rels
  simp only [fillS, List.all_cons, List.all_nil, Bool.and_true, Bool.and_eq_true, hold2 r5, hold2 r6, hold3 r13, hold1 r21, bitI_one, decide_eq_true_eq]
  rintro ⟨h1, h2, h3, h4, _⟩
  exact ⟨h1, h2, h3, h4⟩
theorem recO_mem {b : Bk} {ord : Int} (h : hasO b ord = true) : recO b ord ∈ b.o ∧ (recO b ord).headD 0 = ord := by
  unfold hasO at h
  unfold recO
  cases hf : b.o.find? (isId ord) with
  | none => rw [hf] at h; cases h
  | some r =>
    have h1 : isId ord r = true := List.find?_some hf
    exact ⟨List.mem_of_find?_eq_some hf, of_decide_eq_true h1⟩
theorem recH_mem {b : Bk} {acc : Int} (h : hasH b acc = true) : recH b acc ∈ b.h ∧ (recH b acc).headD 0 = acc := by
  unfold hasH at h
  unfold recH
  cases hf : b.h.find? (isId acc) with
  | none => rw [hf] at h; cases h
  | some r =>
    have h1 : isId acc r = true := List.find?_some hf
    exact ⟨List.mem_of_find?_eq_some hf, of_decide_eq_true h1⟩
theorem getD0 (r : List Int) : r.getD 0 0 = r.headD 0 := by cases r <;> rfl
theorem fill_fine {b : Bk} (hb : b.Fine) {o h : List Int} {c s qty : Int} (ho : o ∈ b.o) (hl6 : o.length = 6) (h1 : 1 ≤ qty) (h2 : qty ≤ o.getD 4 0) (hh : h ∈ b.h) (hk : h.headD 0 = o.getD 1 0) (hO : hasId b.o (o.getD 0 0) = true) : (fillX b o h c s qty).Fine := by
  have hbad := hb.o o ho
  have hbh := hb.h h hh
  unfold badO at hbad
  simp only [Bool.or_eq_false_iff, Bool.not_eq_false', decide_eq_false_iff_not] at hbad
  obtain ⟨_, p5, p3, p31, pt⟩ := hbad
  unfold badH at hbh
  simp only [Bool.or_eq_false_iff, decide_eq_false_iff_not] at hbh
  have pt' := pt
  rw [thereB_eq, Bool.and_eq_true] at pt'
  have f1 := Fine.setHolder hb (id := h.getD 0 0) (x1 := c) (x2 := h.getD 2 0) (x3 := h.getD 3 0) (by omega) (by omega) (Nat.le_trans (setH_old (by rw [getD0, hk]; exact pt'.1)) hb.lh)
  have t1 : thereB { b with h := setH (h.getD 0 0) [h.getD 0 0, c, h.getD 2 0, h.getD 3 0] false b.h } (o.getD 1 0) (o.getD 2 0) = true := by
    rw [thereB_eq, Bool.and_eq_true]
    refine ⟨?_, pt'.2⟩
    show hasId (setH (h.getD 0 0) [h.getD 0 0, c, h.getD 2 0, h.getD 3 0] false b.h) (o.getD 1 0) = true
    rw [hasId_set (id := h.getD 0 0) (x := [h.getD 0 0, c, h.getD 2 0, h.getD 3 0]) rfl, pt'.1]
    simp
  have f2 := Fine.setStake f1 (q := s) t1
  have f3 := Fine.setOpen f2 (id := o.getD 0 0) (x := [o.getD 0 0, o.getD 1 0, o.getD 2 0, o.getD 3 0, o.getD 4 0 - qty, o.getD 5 0]) (d := (o.getD 4 0 - qty == 0)) rfl
    (fun hd => by
      have hd' : o.getD 4 0 - qty ≠ 0 := by simpa using hd
      unfold badO
      simp only [List.getD_cons_zero, List.getD_cons_succ, Bool.or_eq_false_iff, Bool.not_eq_false', decide_eq_false_iff_not]
      exact ⟨by omega, p5, p3, p31, t1⟩)
    (Nat.le_trans (setH_old hO) hb.lo)
  exact f3
theorem newB_fine {b : Bk} (hb : b.Fine) (h6 : ∀ r ∈ b.o, r.length = 6) (e : Ev) (rate : Int) (ha : (allS b e rate).all (·.holds) = true) : (newB b e).Fine := by
  unfold allS at ha
  rw [List.all_append, Bool.and_eq_true] at ha
  obtain ⟨_, hk⟩ := ha
  unfold newB
  unfold kindS at hk
  by_cases h1 : e.kind = 1
  · rw [if_pos h1] at hk ⊢
    obtain ⟨k1, k2, k3⟩ := (accS_iff b e).1 hk
    exact Fine.setHolder hb (by unfold maxI; omega) (by unfold maxI; omega) (by rw [setH_new k2]; omega)
  rw [if_neg h1] at hk ⊢
  by_cases h2 : e.kind = 2
  · rw [if_pos h2] at hk ⊢
    obtain ⟨k1, k2, k3⟩ := (limS_iff b e).1 hk
    have hid := (recH_mem k1).2
    exact Fine.setHolder hb k2 k3 (Nat.le_trans (setH_old (by rw [getD0, hid]; exact k1)) hb.lh)
  rw [if_neg h2] at hk ⊢
  by_cases h3 : e.kind = 3
  · rw [if_pos h3] at hk ⊢
    obtain ⟨k1, k2⟩ := (quoS_iff b e).1 hk
    refine Fine.setRate hb k1 ?_
    cases hr : hasR b e.sym with
    | true => exact Nat.le_trans (setH_old hr) hb.lr
    | false => have := k2 hr; rw [setH_new hr]; omega
  rw [if_neg h3] at hk ⊢
  by_cases h4 : e.kind = 4
  · rw [if_pos h4] at hk ⊢
    obtain ⟨k1, k2, k3, k4, k5, k6, k7, k8, _⟩ := ordS_iff b e rate hk
    have hq : (e.qty == 0) = false := by simp; omega
    unfold ordB
    rw [hq]
    refine Fine.setOpen hb rfl (fun _ => ?_) (by rw [setH_new k6]; omega)
    unfold badO
    simp only [List.getD_cons_zero, List.getD_cons_succ, Bool.or_eq_false_iff, Bool.not_eq_false', decide_eq_false_iff_not]
    exact ⟨by omega, by omega, by omega, by omega, by rw [thereB_eq, Bool.and_eq_true]; exact ⟨k5, k7⟩⟩
  rw [if_neg h4] at hk ⊢
  by_cases h5 : e.kind = 5
  · rw [if_pos h5] at hk ⊢
    obtain ⟨k1, k2, k3, k4⟩ := fillS_iff b e hk
    obtain ⟨m1, m2⟩ := recO_mem k1
    have hbad := hb.o _ m1
    unfold badO at hbad
    simp only [Bool.or_eq_false_iff, Bool.not_eq_false', decide_eq_false_iff_not] at hbad
    have ht := hbad.2.2.2.2
    rw [thereB_eq, Bool.and_eq_true] at ht
    obtain ⟨g1, g2⟩ := recH_mem (b := b) (acc := (recO b e.ord).getD 1 0) ht.1
    exact fill_fine hb m1 (h6 _ m1) k2 k4 g1 g2 (by rw [getD0, m2]; exact k1)
  rw [if_neg h5] at hk ⊢
  by_cases h6' : e.kind = 6
  · rw [if_pos h6'] at hk ⊢
    have k1 := (canS_iff b e).1 hk
    exact Fine.setOpen hb rfl (fun h => by cases h) (Nat.le_trans (setH_old k1) hb.lo)
  rw [if_neg h6']
  exact hb
theorem gateB_may {b : Bk} (hb : b.mayB = true) (h6 : ∀ r ∈ b.o, r.length = 6) (hn : b.n ≠ 1099511627776) (e : Ev) (rate : Int) : (gateB b e rate).mayB = true := by
  rw [Bk.mayB_iff] at hb ⊢
  have hd : (doneB b e rate).Fine := by
    unfold doneB
    split
    · exact newB_fine hb h6 e rate ‹_›
    · exact hb
  have n1 := hb.n1
  have n0 := hb.n0
  exact ⟨hd.lh, hd.lo, hd.lr, hd.rise, by show 0 ≤ b.n + 1; omega, by show b.n + 1 ≤ _; omega, hd.h, hd.r, hd.s, hd.o⟩
end Go.Proofs.YtjcdpmianmgiaaaGreatDoor
namespace Go.Proofs.YtjcdpmianmgiaaaGreatDoor
open Go Go.RowKit Mon Bg
set_option linter.unusedVariables false
set_option linter.unusedSimpArgs false
theorem afterR_I64 (b : Bk) (acc sym side qty px : Int) : I64 (afterR b acc sym side qty px).1.1 ∧ I64 (afterR b acc sym side qty px).2.1 := by
  unfold afterR
  split
  · unfold I64; simp
  · exact ⟨fitsP_I64 _, fitsP_I64 _⟩
theorem setK_le {ge ne : List Int → Bool} {x : List Int} (d : Bool) (l : List (List Int)) : (setK ge ne x d l).length ≤ l.length + 1 := by
  rw [setK_length]
  have := List.length_filter_le ne l
  split <;> omega
end Go.Proofs.YtjcdpmianmgiaaaGreatDoor
namespace Go.Proofs.YtjcdpmianmgiaaaGreatDoor
open Go Go.RowKit
set_option linter.unusedVariables false
set_option linter.unusedSimpArgs false
theorem gateL_stop {b : Bk} {e : Ev} {rate : Int} (h : (headS e).all (·.holds) = false) : [] ++ cutL (headS e) = gateL b e rate := by
  unfold gateL allS
  rw [cutL_app, h]
  simp
theorem gateL_on {b : Bk} {e : Ev} {rate : Int} (h : (headS e).all (·.holds) = true) : ([] ++ cutL (headS e)) ++ cutL (kindS b e rate) = gateL b e rate := by
  unfold gateL allS
  rw [cutL_app, h]
  simp
theorem doneB_stop {b : Bk} {e : Ev} {rate : Int} (h : (headS e).all (·.holds) = false) : doneB b e rate = b := by
  unfold doneB allS
  rw [List.all_append, h]
  simp
theorem doneB_on {b : Bk} {e : Ev} {rate : Int} (h : (headS e).all (·.holds) = true) : (if (kindS b e rate).all (·.holds) then newB b e else b) = doneB b e rate := by
  unfold doneB allS
  rw [List.all_append, h]
  simp
theorem newB_n (b : Bk) (e : Ev) : (newB b e).n = b.n := by
  unfold newB
  repeat' split
  all_goals rfl
theorem doneB_n (b : Bk) (e : Ev) (rate : Int) : (doneB b e rate).n = b.n := by
  unfold doneB
  split
  · exact newB_n b e
  · rfl
theorem newB_s (b : Bk) (e : Ev) : (newB b e).s.length ≤ b.s.length + 1 := by
  unfold newB
  repeat' split
  all_goals first
    | exact Nat.le_succ _
    | exact setK_le _ _
theorem doneB_small {b : Bk} (hb : b.mayB = true) (h6 : ∀ r ∈ b.o, r.length = 6) (hs : b.s.length ≤ 900000) (e : Ev) (rate : Int) : (doneB b e rate).Small := by
  have hf : (doneB b e rate).Fine ∧ (doneB b e rate).s.length ≤ b.s.length + 1 := by
    unfold doneB
    split
    · exact ⟨newB_fine ((Bk.mayB_iff b).1 hb) h6 e rate ‹_›, newB_s b e⟩
    · exact ⟨(Bk.mayB_iff b).1 hb, Nat.le_succ _⟩
  have h1 := hf.1.lh
  have h2 := hf.1.lo
  have h3 := hf.1.lr
  have h4 := hf.2
  unfold Bk.Small
  omega
theorem BkOwn.count {w : World} {B : Nat} {a1 a2 a3 a4 x : Value} {b : Bk} (h : BkOwn w B (.agg #[a1, a2, a3, a4, x]) b) (m : Int) : BkOwn w B (.agg #[a1, a2, a3, a4, .int .i64 m]) { b with n := m } := by
  obtain ⟨c1, c2, c3, c4, hv, h1, h2, h3, h4⟩ := h
  injection hv with hv
  simp only [Array.mk.injEq, List.cons.injEq, and_true] at hv
  obtain ⟨rfl, rfl, rfl, rfl, _⟩ := hv
  exact ⟨a1, a2, a3, a4, rfl, h1, h2, h3, h4⟩
theorem BkEi.form {w w0 : World} {u v : Value} {b b' : Bk} (h : BkEi w u v b b') (hu : BkAt w0 u b) : ∃ A1 c1 A2 c2 A3 c3 A4 c4, v = .agg #[.slice A1 b'.h.length c1, .slice A2 b'.s.length c2, .slice A3 b'.o.length c3, .slice A4 b'.r.length c4, .int .i64 b'.n] := by
  rcases h with ⟨rfl, rfl⟩ | h
  · obtain ⟨a1, a2, a3, a4, rfl, ⟨A1, c1, rfl, _⟩, ⟨A2, c2, rfl, _⟩, ⟨A3, c3, rfl, _⟩, ⟨A4, c4, rfl, _⟩⟩ := hu
    exact ⟨A1, c1, A2, c2, A3, c3, A4, c4, rfl⟩
  · obtain ⟨A1, c1, A2, c2, A3, c3, A4, c4, rfl⟩ := h.form
    exact ⟨A1, c1, A2, c2, A3, c3, A4, c4, rfl⟩
theorem BkEi.put {w : World} {u v : Value} {b b' : Bk} (h : BkEi w u v b b') {g : Nat} {cs : Array Value} {fr : Nat × Nat} (hg : w.heap[g]? = some (.cells cs 27 fr)) (o : Nat) (us : List Value) (hu : BkAt (putC w g o us) u b) : BkAt (putC w g o us) v b' := by
  rcases h with ⟨rfl, rfl⟩ | h
  · exact hu
  · exact (h.put hg o us).at
theorem ret_c2t2 {P : Program} {fn : Func} {p p2 : Tmp} {ty ty2 : TypeId} {s1 s2 : Tmp} (h : fn.results = #[.cell p ty, .cell p2 ty2, .tmp s1, .tmp s2]) (tmps : Array Value) (w : World) (g g2 : Nat) (t t2 : TypeId) (cs cs2 : Array Value) (d d2 : TypeDesc)
    (hp : tmps.getD p undef = .pointer (some ⟨g, 0, none⟩)) (hg : w.heap[g]? = some (.cells cs t (0, 0)))
    (hu : P.underlying ty = some d) (hd : (match d with | .struct _ | .array _ _ => true | _ => false) = true) (hi : (P.info? ty).map (·.size) = some cs.size)
    (hp2 : tmps.getD p2 undef = .pointer (some ⟨g2, 0, none⟩)) (hg2 : w.heap[g2]? = some (.cells cs2 t2 (0, 0)))
    (hu2 : P.underlying ty2 = some d2) (hd2 : (match d2 with | .struct _ | .array _ _ => true | _ => false) = true) (hi2 : (P.info? ty2).map (·.size) = some cs2.size)
    (x y : Value) (hx : tmps.getD s1 undef = x) (hy : tmps.getD s2 undef = y) : (results fn tmps).run P w = .ok (.tuple #[.agg cs, .agg cs2, x, y]) w := by
  subst hx hy
  have hp' : tmps[p]?.getD undef = .pointer (some ⟨g, 0, none⟩) := by simpa using hp
  have hp2' : tmps[p2]?.getD undef = .pointer (some ⟨g2, 0, none⟩) := by simpa using hp2
  simp [results, h, hp', hp2', asAddr, run_loadVar_row w g t ty cs (0, 0) d hg hu hd hi, run_loadVar_row w g2 t2 ty2 cs2 (0, 0) d2 hg2 hu2 hd2 hi2]
end Go.Proofs.YtjcdpmianmgiaaaGreatDoor
namespace Go.Proofs.YtjcdpmianmgiaaaGreatDoor
open Go Go.RowKit Mon
set_option linter.unusedVariables false
set_option linter.unusedSimpArgs false
theorem needR_nonneg (X rate : Int) : 0 ≤ (needR X rate).1 := by
  unfold needR
  split
  · exact Int.le_refl _
  · rename_i h
    have h1 : 0 ≤ X := by omega
    have h2 : 0 ≤ rate := by omega
    have h3 : 0 ≤ X * rate := Int.mul_nonneg h1 h2
    generalize X * rate = Y at *
    unfold fitsP
    split
    · show 0 ≤ up100 Y
      unfold up100
      omega
    · exact Int.le_refl _
theorem goW_no20 : ∀ (l : List Stp) (n : Int), (∀ s ∈ l, s.rule ≠ 20) → l.foldl (fun n s => if s.rule = 20 then s.left else n) n = n
  | [], _, _ => rfl
  | s :: r, n, h => by
    rw [List.foldl_cons, if_neg (h s (by simp))]
    exact goW_no20 r n fun t ht => h t (by simp [ht])
theorem kindS_no20 {b : Bk} {e : Ev} {rate : Int} (h4 : e.kind ≠ 4) : ∀ s ∈ kindS b e rate, s.rule ≠ 20 := by
  intro s hs
  unfold kindS at hs
  split at hs
  · simp only [accS, List.mem_cons, List.not_mem_nil, or_false] at hs
    rcases hs with rfl | rfl | rfl <;> simp [sS]
  split at hs
  · simp only [limS, List.mem_cons, List.not_mem_nil, or_false] at hs
    rcases hs with rfl | rfl | rfl <;> simp [sS]
  split at hs
  · unfold quoS at hs
    rcases List.mem_cons.1 hs with rfl | hs
    · simp [sS]
    · split at hs
      · simp at hs
      · obtain rfl := List.mem_singleton.1 hs
        simp [sS]
  split at hs
  · simp only [fillS, List.mem_cons, List.not_mem_nil, or_false] at hs
    rcases hs with rfl | rfl | rfl | rfl | rfl | rfl
    all_goals first | (simp [sS]; done) | (rw [oS_rule]; decide)
  split at hs
  · simp only [canS, List.mem_cons, List.not_mem_nil, or_false] at hs
    subst hs
    simp [sS]
  · simp at hs
theorem gateV_good {b : Bk} {e : Ev} {rate : Int} (h : (gateV b e rate).1 = 0) : (allS b e rate).all (·.holds) = true ∧ 0 ≤ (gateV b e rate).2 ∧ (e.kind = 4 ∨ (gateV b e rate).2 = 0) := by
  have hall : (allS b e rate).all (·.holds) = true := by rw [← gateV_code, h]; rfl
  refine ⟨hall, ?_⟩
  have hv : (gateV b e rate).2 = (allS b e rate).foldl (fun n s => if s.rule = 20 then s.left else n) 0 := by
    unfold gateV gateL
    rw [goW_got _ _ (by rw [cutL_holds]; exact hall), cutL_all hall]
  by_cases h4 : e.kind = 4
  · refine ⟨?_, .inl h4⟩
    rw [hv]
    unfold allS at hall ⊢
    rw [List.all_append, Bool.and_eq_true] at hall
    have hk := hall.2
    unfold kindS at hk ⊢
    simp only [h4] at hk ⊢
    rw [if_neg (by decide), if_neg (by decide), if_neg (by decide), if_pos trivial] at hk ⊢
    obtain ⟨_, _, _, _, _, _, _, _, hf⟩ := ordS_iff b e rate hk
    rw [List.foldl_append]
    have h20 : (oS 20 (needE b e rate).1 (eqR b e.acc).1 ((needE b e rate).2 && (eqR b e.acc).2)).holds = true := by
      unfold ordS at hk
      simp only [List.all_cons, Bool.and_eq_true] at hk
      exact hk.2.2.2.2.2.2.2.2.2.2.1
    have hff : ((needE b e rate).2 && (eqR b e.acc).2) = true := by rw [holdO, Bool.and_eq_true] at h20; exact h20.1
    unfold ordS
    rw [hff]
    simp only [List.foldl_cons, List.foldl_nil]
    rw [if_pos (show (oS 20 (needE b e rate).1 (eqR b e.acc).1 true).rule = 20 from rfl)]
    show 0 ≤ (needE b e rate).1
    unfold needE
    exact needR_nonneg _ _
  · have : (gateV b e rate).2 = 0 := by
      rw [hv]
      refine goW_no20 _ _ fun s hs => ?_
      unfold allS at hs
      rcases List.mem_append.1 hs with hs | hs
      · simp only [headS, List.mem_cons, List.not_mem_nil, or_false] at hs
        rcases hs with rfl | rfl <;> simp [sS]
      · exact kindS_no20 h4 s hs
    exact ⟨by omega, .inr this⟩
theorem gateV_bad {b : Bk} {e : Ev} {rate : Int} (h : (gateV b e rate).1 ≠ 0) : (gateV b e rate).2 = 0 ∧ doneB b e rate = b := by
  refine ⟨goW_need _ _ (gateL_known b e rate) h, ?_⟩
  have := gateV_code b e rate
  rw [beq_eq_false_iff_ne.2 h] at this
  unfold doneB
  rw [← this]
  rfl
theorem gateL_holds {b : Bk} {e : Ev} {rate : Int} {k : Nat} {s : Stp} (hs : (gateL b e rate)[k]? = some s) (h : s.holds = false) : k + 1 = (gateL b e rate).length ∧ (gateV b e rate).1 ≠ 0 := by
  have hk := (List.getElem?_eq_some_iff.1 hs).1
  constructor
  · by_cases hlt : k + 1 < (gateL b e rate).length
    · have := cutL_last hs hlt
      rw [this] at h
      cases h
    · omega
  · intro h0
    have h1 := (gateV_good h0).1
    have h2 : (gateL b e rate).all (·.holds) = true := by unfold gateL; rw [cutL_holds]; exact h1
    have h3 := List.all_eq_true.1 h2 s (List.mem_of_getElem? hs)
    rw [h] at h3
    cases h3
theorem setK_ints {ge ne : List Int → Bool} {x : List Int} {d : Bool} {l : List (List Int)} (hx : ∀ y ∈ x, I64 y) (hl : ∀ r ∈ l, ∀ y ∈ r, I64 y) : ∀ r ∈ setK ge ne x d l, ∀ y ∈ r, I64 y := by
  intro r hr
  rcases setK_mem hr with rfl | hr
  · exact hx
  · exact hl r hr
theorem getD_ints {r : List Int} (h : ∀ y ∈ r, I64 y) (k : Nat) : I64 (r.getD k 0) := by
  rw [List.getD_eq_getElem?_getD]
  cases hk : r[k]? with
  | none => simp [I64]
  | some y => exact h y (List.mem_of_getElem? hk)
theorem recH_ints {b : Bk} (hi : b.I64s) (acc : Int) : ∀ y ∈ recH b acc, I64 y := by
  unfold recH
  cases hf : b.h.find? (isId acc) with
  | none => intro y hy; have : y = 0 := (List.mem_replicate.1 hy).2; subst this; simp [I64]
  | some r => exact hi.1 r (List.mem_of_find?_eq_some hf)
theorem recO_ints {b : Bk} (hi : b.I64s) (ord : Int) : ∀ y ∈ recO b ord, I64 y := by
  unfold recO
  cases hf : b.o.find? (isId ord) with
  | none => intro y hy; have : y = 0 := (List.mem_replicate.1 hy).2; subst this; simp [I64]
  | some r => exact hi.2.2.1 r (List.mem_of_find?_eq_some hf)
theorem gateB_ints {b : Bk} (hm : b.mayB = true) (hi : b.I64s) (h6 : ∀ r ∈ b.o, r.length = 6) (e : Ev) (rate : Int) (hE : e.I64s) : Hid (gateB b e rate).I64s := by
  show (gateB b e rate).I64s
  have hz : I64 0 := by unfold I64; simp
  have hmx : I64 maxI := by unfold I64 maxI; omega
  have key : (doneB b e rate).I64s := by
    unfold doneB
    split
    · rename_i ha
      unfold allS at ha
      rw [List.all_append, Bool.and_eq_true] at ha
      have hk := ha.2
      unfold newB
      unfold kindS at hk
      obtain ⟨i1, i2, i3, i4⟩ := hi
      have rh := recH_ints (b := b) ⟨i1, i2, i3, i4⟩
      have ro := recO_ints (b := b) ⟨i1, i2, i3, i4⟩
      by_cases h1 : e.kind = 1
      · rw [if_pos h1]
        refine ⟨setK_ints ?_ i1, i2, i3, i4⟩
        simp only [List.mem_cons, List.not_mem_nil, or_false]
        rintro y (rfl | rfl | rfl | rfl)
        · exact hE.acc
        · exact hE.qty
        · exact hmx
        · exact hmx
      rw [if_neg h1] at hk ⊢
      by_cases h2 : e.kind = 2
      · rw [if_pos h2]
        refine ⟨setK_ints ?_ i1, i2, i3, i4⟩
        simp only [List.mem_cons, List.not_mem_nil, or_false]
        rintro y (rfl | rfl | rfl | rfl)
        · exact getD_ints (rh _) _
        · exact getD_ints (rh _) _
        · exact hE.qty
        · exact hE.px
      rw [if_neg h2] at hk ⊢
      by_cases h3 : e.kind = 3
      · rw [if_pos h3]
        refine ⟨i1, i2, i3, setK_ints ?_ i4⟩
        simp only [List.mem_cons, List.not_mem_nil, or_false]
        rintro y (rfl | rfl)
        · exact hE.sym
        · exact hE.px
      rw [if_neg h3] at hk ⊢
      by_cases h4 : e.kind = 4
      · rw [if_pos h4]
        refine ⟨i1, i2, setK_ints ?_ i3, i4⟩
        simp only [List.mem_cons, List.not_mem_nil, or_false]
        rintro y (rfl | rfl | rfl | rfl | rfl | rfl)
        · exact hE.ord
        · exact hE.acc
        · exact hE.sym
        · exact hE.side
        · exact hE.qty
        · exact hE.px
      rw [if_neg h4] at hk ⊢
      by_cases h5 : e.kind = 5
      · rw [if_pos h5] at hk ⊢
        obtain ⟨_, k2, _, k4⟩ := fillS_iff b e hk
        have ha1 : I64 (afterE b e).1.1 := by
          unfold afterE afterR
          split
          all_goals first | exact fitsP_I64 _ | exact hz
        have ha2 : I64 (afterE b e).2.1 := by
          unfold afterE afterR
          split
          all_goals first | exact fitsP_I64 _ | exact hz
        have ho := fun k => getD_ints (ro e.ord) k
        refine ⟨setK_ints ?_ i1, setK_ints ?_ i2, setK_ints ?_ i3, i4⟩
        · simp only [List.mem_cons, List.not_mem_nil, or_false]
          rintro y (rfl | rfl | rfl | rfl)
          · exact getD_ints (rh _) _
          · exact ha1
          · exact getD_ints (rh _) _
          · exact getD_ints (rh _) _
        · simp only [List.mem_cons, List.not_mem_nil, or_false]
          rintro y (rfl | rfl | rfl)
          · exact ho _
          · exact ho _
          · exact ha2
        · simp only [List.mem_cons, List.not_mem_nil, or_false]
          rintro y (rfl | rfl | rfl | rfl | rfl | rfl)
          · exact ho _
          · exact ho _
          · exact ho _
          · exact ho _
          · have := ho 4
            unfold I64 at this ⊢
            omega
          · exact ho _
      rw [if_neg h5] at hk ⊢
      by_cases h6' : e.kind = 6
      · rw [if_pos h6']
        refine ⟨i1, i2, setK_ints ?_ i3, i4⟩
        simp only [List.mem_cons, List.not_mem_nil, or_false]
        rintro y (rfl | rfl | rfl | rfl | rfl | rfl)
        · exact hE.ord
        all_goals exact hz
      rw [if_neg h6']
      exact ⟨i1, i2, i3, i4⟩
    · exact hi
  exact key
theorem gateB_stakes (b : Bk) (e : Ev) (rate : Int) : (gateB b e rate).s.length ≤ b.s.length + 1 := by
  show (doneB b e rate).s.length ≤ _
  unfold doneB
  split
  · exact newB_s b e
  · exact Nat.le_succ _
def backE (e : Ev) : Ev := ⟨6, 0, e.ord, 0, 0, 0, 0⟩
theorem back_gate {b : Bk} {e : Ev} {rate : Int} (h4 : e.kind = 4) (h : (gateV b e rate).1 = 0) (hb : b.mayB = true) :
    (gateB b e rate).o.length = b.o.length + 1 ∧ (gateV (gateB b e rate) (backE e) rate).1 = 0 ∧ gateB (gateB b e rate) (backE e) rate = { b with n := b.n + 2 } := by
  have hall := (gateV_good h).1
  have hd : doneB b e rate = ordB b e := by
    unfold doneB
    rw [if_pos hall]
    unfold newB
    rw [h4]
    rfl
  unfold allS at hall
  rw [List.all_append, Bool.and_eq_true] at hall
  have hk := hall.2
  unfold kindS at hk
  simp only [h4] at hk
  rw [if_neg (by decide), if_neg (by decide), if_neg (by decide), if_pos trivial] at hk
  obtain ⟨_, _, hq, _, _, hno, _, _, _⟩ := ordS_iff b e rate hk
  have hq0 : (e.qty == 0) = false := by simp; omega
  have hno' : hasId b.o e.ord = false := hno
  have ho : (gateB b e rate).o = setH e.ord [e.ord, e.acc, e.sym, e.side, e.qty, e.px] false b.o := by
    unfold gateB
    rw [hd]
    unfold ordB
    rw [hq0]
  have hhas : hasO (gateB b e rate) e.ord = true := by
    show hasId (gateB b e rate).o e.ord = true
    rw [ho, hasId_set (id := e.ord) (x := [e.ord, e.acc, e.sym, e.side, e.qty, e.px]) rfl]
    simp
  have hbk : (allS (gateB b e rate) (backE e) rate).all (·.holds) = true := by
    unfold allS
    rw [List.all_append, Bool.and_eq_true]
    exact ⟨(headS_iff _).2 ⟨show (1 : Int) ≤ 6 by decide, show (6 : Int) ≤ 7 by decide⟩, (canS_iff _ _).2 hhas⟩
  have hc0 : (gateV (gateB b e rate) (backE e) rate).1 = 0 := by
    have := gateV_code (gateB b e rate) (backE e) rate
    rw [hbk] at this
    simpa using this
  refine ⟨by rw [ho]; exact setH_new hno', hc0, ?_⟩
  have hn : (gateB b e rate).n = b.n + 1 := rfl
  have hg : gateB b e rate = { b with o := setH e.ord [e.ord, e.acc, e.sym, e.side, e.qty, e.px] false b.o, n := b.n + 1 } := by
    unfold gateB
    rw [hd]
    unfold ordB
    rw [hq0]
  have hx : gateB (gateB b e rate) (backE e) rate = { doneB (gateB b e rate) (backE e) rate with n := (gateB b e rate).n + 1 } := rfl
  rw [hx, hn]
  unfold doneB
  rw [if_pos hbk]
  show ({ canB (gateB b e rate) (backE e) with n := b.n + 1 + 1 } : Bk) = _
  unfold canB
  rw [hg]
  show ({ h := b.h, s := b.s, o := setH e.ord [e.ord, 0, 0, 0, 0, 0] true (setH e.ord [e.ord, e.acc, e.sym, e.side, e.qty, e.px] false b.o), r := b.r, n := b.n + 1 + 1 } : Bk) = _
  rw [setH_back (id := e.ord) (x := [e.ord, e.acc, e.sym, e.side, e.qty, e.px]) rfl hno']
  have : b.n + 1 + 1 = b.n + 2 := by omega
  rw [this]
end Go.Proofs.YtjcdpmianmgiaaaGreatDoor
namespace Go.Proofs.YtjcdpmianmgiaaaGreatDoor
open Go Go.RowKit
set_option linter.unusedVariables false
set_option linter.unusedSimpArgs false
section
variable {P : Program}
theorem run_map_new {w : World} (mty kt et : TypeId) (r clock : Nat) (es : Array MapEntry) (k : Int) (val : Value) (hm : P.underlying mty = some (.map kt et)) (hk : P.underlying kt = some (.int .i64)) (hb : w.heap[r]? = some (.map es clock)) (hf : Instr.findNow (.int .i64) (.int .i64 k) es.toList 0 = some none) :
    (Instr.mapUpdate mty (.map (some r)) (.int .i64 k) val).run P w = .ok () { w with heap := w.heap.setIfInBounds r (.map (es.push { key := .int .i64 k, val := val, born := clock }) (clock + 1)) } := by
  have hc : (Instr.checkKey false 10000 kt (.int .i64 k)).run P w = .ok () w := MapKept.run_checkKey (k := .int .i64 k) hk (by simp [MapKept.IsKey]) false 9999
  simp [Instr.mapUpdate, run_underlying hm, MapKept.run_getObj_map hb, hc, MapKept.run_findKey hk hf, MapKept.run_setObj_map _ hb, Result.andThen]
theorem run_map_look {w : World} (mty kt et : TypeId) (r clock : Nat) (es : Array MapEntry) (k : Int) (val : Value) (i : Nat) (hm : P.underlying mty = some (.map kt et)) (hk : P.underlying kt = some (.int .i64)) (hb : w.heap[r]? = some (.map es clock)) (hf : Instr.findNow (.int .i64) (.int .i64 k) es.toList 0 = some (some (i, val))) :
    (Instr.lookup mty (.map (some r)) (.int .i64 k) false).run P w = .ok val w := by
  have hc : ∀ e, (Instr.checkKey e 10000 kt (.int .i64 k)).run P w = .ok () w := fun e => MapKept.run_checkKey (k := .int .i64 k) hk (by simp [MapKept.IsKey]) e 9999
  simp [Instr.lookup, run_underlying hm, MapKept.run_getObj_map hb, hc, MapKept.run_findKey hk hf, Result.andThen]
variable {ops : Array Oper} {rest : List Oper} {o : Oper} {a : Act} {Q : Exit → Act → World → Prop}
theorem wpList_insert_new {w : World} (hgd : o.guard = none) (m k v : Operand) (t : TypeId) (hop : o.op = Op.insert t m k v) {kt et : TypeId} (hm : P.underlying t = some (.map kt et)) (hk : P.underlying kt = some (.int .i64)) (r clock : Nat) (es : Array MapEntry) (kk : Int)
    (val : Value) (hem : a.eval m = .map (some r)) (hek : a.eval k = .int .i64 kk) (hev : a.eval v = val) (hb : w.heap[r]? = some (.map es clock)) (hf : Instr.findNow (.int .i64) (.int .i64 kk) es.toList 0 = some none)
    (h : ∀ w', w'.heap[r]? = some (.map (es.push { key := .int .i64 kk, val := val, born := clock }) (clock + 1)) → w.grownBy w' (some r) → wpList P ops Q rest (a.put o.dst undef) w') : wpList P ops Q (o :: rest) a w := by
  subst hev
  refine wpList_plain hgd fun K hK => ?_
  have hrun := run_map_new (P := P) t kt et r clock es kk (a.eval v) hm hk hb hf
  unfold Oper.wp
  simp [execOp, hop, hem, hek, hrun, Result.andThen]
  refine hK _ _ (h _ (MapKept.heap_set hb).1 ⟨rfl, rfl, rfl, by simp, fun k hk hne => (MapKept.heap_set hb).2 k (fun e => hne (by rw [e]))⟩)
end
theorem blk_mne {w : World} {p r clock : Nat} {cs : Array Value} {t : TypeId} {fr : Nat × Nat} {es : Array MapEntry} (h : w.heap[p]? = some (.cells cs t fr)) (h' : w.heap[r]? = some (.map es clock)) : p ≠ r := by
  intro e
  subst e
  rw [h] at h'
  injection h' with h'
  cases h'
theorem blk_grown {w w' : World} {p r : Nat} {x : Obj} (h : w.heap[p]? = some x) (hg : w.grownBy w' (some r)) (hne : p ≠ r) : w'.heap[p]? = some x :=
  (hg.block p (zL h) (fun e => hne (by injection e))).trans h
theorem below_grown {B r : Nat} {a w w' : World} (h : Below B a w) (hg : w.grownBy w' (some r)) (hr : B ≤ r) (hB : B ≤ w.heap.size) : Below B a w' :=
  h.grown hg hB (fun q hq => by injection hq with hq; omega)
end Go.Proofs.YtjcdpmianmgiaaaGreatDoor
