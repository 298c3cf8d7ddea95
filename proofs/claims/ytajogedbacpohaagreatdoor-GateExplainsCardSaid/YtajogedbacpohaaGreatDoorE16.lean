/- Part 17 of what the claim rests on. -/
import Derived.Test.YtajogedbacpohaaGreatDoorE00
import Derived.Test.YtajogedbacpohaaGreatDoorE05
import Derived.Test.YtajogedbacpohaaGreatDoorE06
import Derived.Test.YtajogedbacpohaaGreatDoorE13
import Derived.Test.YtajogedbacpohaaGreatDoorE14
import Derived.Test.YtajogedbacpohaaGreatDoorE15
import Derived.MapKept
set_option linter.unusedVariables false
set_option linter.unusedSimpArgs false
set_option maxRecDepth 1000000
set_option maxHeartbeats 32000000
namespace Go.Proofs.YtajogedbacpohaaGreatDoor
section
open Go Go.RowKit
theorem zt103 {p : Prop} (h : p := by
 obtain ⟨k, hk⟩ := List.getElem?_of_mem hm;rw [List.getElem?_take] at hk
 split at hk
 ·rename_i hkp; exact (hlt k r hk).2 hkp
 ·cases hk) : p := h
theorem zz5m (id : Int) (x : List Int) (out : Bool) {l : List (List Int)} (hr : riseH l) (hx : x.headD 0 = id) : riseH (setH id x out l) := by
 obtain ⟨p, hp, hlt, _⟩ := placeH id hr;have e := zz2t id x out hr hp hlt;obtain ⟨F, hF, e⟩ : ∃ F : Bool, (∀ r, l[p]? = some r → F = decide (r.headD 0 = id)) ∧ setH id x out l = l.take p ++ ((if out then [] else [x]) ++ l.drop (if F then p + 1 else p)) := ⟨_, fun r hr => by rw [hr], e⟩
 rw [e];have h1 : ∀ r ∈ l.take p, r.headD 0 < id := fun r hm => by
  exact zt103
 obtain ⟨q, hq⟩ : ∃ q, (if F then p + 1 else p) = q := ⟨_, rfl⟩
 have h2 : ∀ r ∈ l.drop q, id < r.headD 0 := fun r hm => by
  obtain ⟨k, hk⟩ := List.getElem?_of_mem hm;rw [List.getElem?_drop] at hk;have hkl := (List.getElem?_eq_some_iff.1 hk).1;have hqp : p ≤ q := by rw [← hq]; cases F <;> simp
  have hpl : p < l.length := by omega
  have hge : ¬ l[p].headD 0 < id := fun h => by have := (hlt p _ (List.getElem?_eq_getElem hpl)).1 h; omega
  by_cases he : q + k = p
  ·rw [he] at hk
   have hne : q = p := by omega
   have hFr := hF r hk;have hr' : l[p] = r := by rw [List.getElem?_eq_getElem hpl] at hk; injection hk
   rw [hr'] at hge;by_cases hid : r.headD 0 = id
   ·exfalso
    rw [decide_eq_true hid] at hFr;subst hFr;simp only [if_true] at hq;omega
   ·omega
  ·have h3 := (List.pairwise_iff_getElem.1 hr) p (q + k) hpl hkl zw
   have hr' : l[q + k] = r := by rw [List.getElem?_eq_getElem hkl] at hk; injection hk
   rw [hr'] at h3;omega
 rw [hq];unfold riseH at *;rw [List.pairwise_append];refine ⟨hr.sublist (List.take_sublist _ _), ?_, ?_⟩
 ·cases out with
  | true => exact hr.sublist (List.drop_sublist _ _)
  | false => exact List.pairwise_cons.2 ⟨fun r hm => by have := h2 r hm; omega, hr.sublist (List.drop_sublist _ _)⟩
 ·intro a ha b hb
  have ha' := h1 a ha;rcases List.mem_append.1 hb with hb | hb
  ·cases out with
   | true => simp at hb
   | false => simp at hb; subst hb; omega
  ·have := h2 b hb; omega
theorem setS_rise (kx ky : Int) (x : List Int) (out : Bool) {l : List (List Int)} (hr : riseS l) (hx : x.headD 0 = kx) (hy : x.tail.headD 0 = ky) : riseS (setS kx ky x out l) := by
 obtain ⟨p, hp, hlt, _⟩ := placeS kx ky hr;have e := zz6n kx ky x out hr hp hlt;obtain ⟨F, hF, e⟩ : ∃ F : Bool, (∀ r, l[p]? = some r → F = decide (r.headD 0 = kx ∧ r.tail.headD 0 = ky)) ∧ setS kx ky x out l = l.take p ++ ((if out then [] else [x]) ++ l.drop (if F then p + 1 else p)) := ⟨_, fun r hr => by rw [hr], e⟩
 rw [e];have h1 : ∀ r ∈ l.take p, stLt r kx ky := fun r hm => by
  exact zt103
 obtain ⟨q, hq⟩ : ∃ q, (if F then p + 1 else p) = q := ⟨_, rfl⟩
 have h2 : ∀ r ∈ l.drop q, kx < r.headD 0 ∨ kx = r.headD 0 ∧ ky < r.tail.headD 0 := fun r hm => by
  obtain ⟨k, hk⟩ := List.getElem?_of_mem hm;rw [List.getElem?_drop] at hk;have hkl := (List.getElem?_eq_some_iff.1 hk).1;have hqp : p ≤ q := by rw [← hq]; cases F <;> simp
  have hpl : p < l.length := by omega
  have hge : ¬ stLt l[p] kx ky := fun h => by have := (hlt p _ (List.getElem?_eq_getElem hpl)).1 h; omega
  by_cases he : q + k = p
  ·rw [he] at hk
   have hne : q = p := by omega
   have hFr := hF r hk;have hr' : l[p] = r := by rw [List.getElem?_eq_getElem hpl] at hk; injection hk
   rw [hr'] at hge;by_cases hid : r.headD 0 = kx ∧ r.tail.headD 0 = ky
   ·exfalso
    rw [decide_eq_true hid] at hFr;subst hFr;simp only [if_true] at hq;omega
   ·unfold stLt at hge; omega
  ·have h3 := (List.pairwise_iff_getElem.1 hr) p (q + k) hpl hkl zw
   have hr' : l[q + k] = r := by rw [List.getElem?_eq_getElem hkl] at hk; injection hk
   rw [hr'] at h3;unfold stLt at h3 hge;omega
 rw [hq];unfold riseS at *;rw [List.pairwise_append];refine ⟨hr.sublist (List.take_sublist _ _), ?_, ?_⟩
 ·cases out with
  | true => exact hr.sublist (List.drop_sublist _ _)
  | false => exact List.pairwise_cons.2 ⟨fun r hm => by have := h2 r hm; unfold stLt; omega, hr.sublist (List.drop_sublist _ _)⟩
 ·intro a ha b hb
  have ha' := h1 a ha;rcases List.mem_append.1 hb with hb | hb
  ·cases out with
   | true => simp at hb
   | false => simp only [Bool.false_eq_true, if_false, List.mem_singleton] at hb; subst hb; rw [hx, hy]; exact ha'
  ·have := h2 b hb; unfold stLt at ha' ⊢; omega
end
section
open Go Go.RowKit Mon
theorem zzaj {ge ne : List Int → Bool} {x : List Int} (p : List Int → Bool) : ∀ (d : Bool) (l : List (List Int)), (setK ge ne x d l).any p = ((!d && p x) || l.any (fun r => ne r && p r))
 | d, [] => by cases d <;> simp [setK]
 | d, r :: t => by
  have e1 : ∀ (c : Bool) (y : List Int), (if c then [y] else []).any p = (c && p y) := by intro c y; cases c <;> simp
  rw [setK, List.any_append, List.any_append, zzaj p (d || ge r) t, List.any_cons, e1, e1]
  generalize p x = X;generalize p r = Y;generalize t.any (fun r => ne r && p r) = Z
  generalize ge r = G;generalize ne r = N;cases d <;> cases G <;> cases N <;> cases X <;> cases Y <;> cases Z <;> rfl
theorem zz2i {ge ne : List Int → Bool} {x : List Int} : ∀ (d : Bool) (l : List (List Int)), (setK ge ne x d l).length = (if d then 0 else 1) + (l.filter ne).length
 | d, [] => by cases d <;> simp [setK]
 | d, r :: t => by
  rw [setK, List.length_append, List.length_append, zz2i (d || ge r) t, List.filter_cons]
  cases d <;> cases ge r <;> cases ne r <;> simp <;> omega
theorem zz43 {ge ne : List Int → Bool} {x : List Int} : ∀ (l : List (List Int)), setK ge ne x true l = l.filter ne
 | [] => rfl
 | r :: t => by
  rw [setK, show (true || ge r) = true from rfl, zz43 t, List.filter_cons]
  cases ne r <;> simp
theorem zz44 {ge ne : List Int → Bool} {x r : List Int} : ∀ {d : Bool} {l : List (List Int)}, r ∈ setK ge ne x d l → r = x ∨ r ∈ l
 | d, [], h => by cases d <;> simp [setK] at h; exact .inl h
 | d, a :: t, h => by
  rw [setK] at h;rcases List.mem_append.1 h with h | h
  ·split at h <;> simp at h
   exact .inl h
  rcases List.mem_append.1 h with h | h
  ·split at h <;> simp at h
   exact .inr (by simp [h])
  ·rcases zz44 h with h | h
   ·exact .inl h
   ·exact .inr (by simp [h])
def hasId (l : List (List Int)) (id : Int) : Bool := (l.find? (isId id)).isSome
theorem zz3y (l : List (List Int)) (id : Int) : hasId l id = l.any (isId id) := by
 unfold hasId;rw [List.isSome_find?]
theorem zzba {k : Int} {r : List Int} (h : r.headD 0 = k) : isId k r = true := decide_eq_true h
theorem zzbb {k : Int} {r : List Int} (h : ¬ r.headD 0 = k) : isId k r = false := decide_eq_false h
theorem isId_both {k id : Int} (hk : ¬ k = id) : (fun r => !isId id r && isId k r) = isId k := by
 funext r
 by_cases h : r.headD 0 = k
 ·rw [zzba h, zzbb (by rw [h]; exact hk)]; rfl
 ·rw [zzbb h]; simp
theorem zz5w {id : Int} {x : List Int} (hx : x.headD 0 = id) (l : List (List Int)) (k : Int) : hasId (setH id x false l) k = (decide (k = id) || hasId l k) := by
 rw [zz3y, zz3y, setH, zzaj];by_cases hk : k = id
 ·subst hk
  rw [zzba hx];simp
 ·rw [zzbb (show ¬ x.headD 0 = k from by rw [hx]; exact fun e => hk e.symm), isId_both hk]
  simp [hk]
theorem zz4i {p : List Int → Bool} {l : List (List Int)} (h : l.any p = false) : ∀ r ∈ l, p r = false := by
 intro r hr;have := List.any_eq_false.1 h r hr;simpa using this
theorem zz65 {p : List Int → Bool} {l : List (List Int)} (h : ∀ r ∈ l, p r = false) : l.any p = false := by
 rw [List.any_eq_false];intro r hr;simp [h r hr]
theorem zzbl {id : Int} {l : List (List Int)} (h : hasId l id = false) : l.filter (fun r => !isId id r) = l := by
 rw [zz3y] at h;rw [List.filter_eq_self];intro r hr;simp [zz4i h r hr]
theorem zz7k {id : Int} {x : List Int} {l : List (List Int)} (h : hasId l id = false) : (setH id x false l).length = l.length + 1 := by
 rw [setH, zz2i, zzbl h];simp; omega
theorem zz45 {id : Int} {x : List Int} {d : Bool} {l : List (List Int)} (h : hasId l id = true) : (setH id x d l).length ≤ l.length := by
 rw [setH, zz2i];rw [zz3y, List.any_eq_true] at h;obtain ⟨r, hr, hi⟩ := h;have : (l.filter (fun r => !isId id r)).length < l.length := by
  rw [← Nat.not_le];intro hle;have he := List.filter_eq_self.1 ((List.filter_sublist).eq_of_length_le hle) r hr;rw [hi] at he;simp at he
 split <;> omega
structure Bk.Fine (b : Bk) : Prop where
 lh : b.h.length ≤ 32
 lo : b.o.length ≤ 64
 lr : b.r.length ≤ 32
 rise : b.Rise
 n0 : 0 ≤ b.n
 n1 : b.n ≤ 1099511627776
 h : ∀ r ∈ b.h, badH r = false
 r : ∀ r ∈ b.r, badR r = false
 s : ∀ r ∈ b.s, badS b r = false
 o : ∀ r ∈ b.o, badO b r = false
theorem Bk.mayB_iff (b : Bk) : b.mayB = true ↔ b.Fine := by
 unfold Bk.mayB Bk.listsB Bk.countB;simp only [Bool.and_eq_true, Bool.not_eq_true', decide_eq_false_iff_not, Bk.riseB_iff];constructor
 ·rintro ⟨⟨h1, h2, h3, h4⟩, ⟨h5, h6⟩, h7, h8, h9, h10⟩
  exact ⟨by omega, by omega, by omega, h4, by omega, by omega, zz4i h7, zz4i h8, zz4i h9, zz4i h10⟩
 ·intro h
  exact ⟨⟨by have := h.lh; omega, by have := h.lo; omega, by have := h.lr; omega, h.rise⟩, ⟨by have := h.n0; omega, by have := h.n1; omega⟩, zz65 h.h, zz65 h.r, zz65 h.s, zz65 h.o⟩
theorem zz2h (b : Bk) (acc sym : Int) : thereB b acc sym = (hasId b.h acc && hasId b.r sym) := rfl
theorem zz92 {b c : Bk} (h : ∀ a s, thereB b a s = true → thereB c a s = true) {r : List Int} (hr : badS b r = false) : badS c r = false := by
 unfold badS at hr ⊢;simp only [Bool.or_eq_false_iff, Bool.not_eq_false'] at hr ⊢;exact ⟨hr.1, h _ _ hr.2⟩
theorem zz93 {b c : Bk} (h : ∀ a s, thereB b a s = true → thereB c a s = true) {r : List Int} (hr : badO b r = false) : badO c r = false := by
 unfold badO at hr ⊢;simp only [Bool.or_eq_false_iff, Bool.not_eq_false'] at hr ⊢;exact ⟨hr.1, hr.2.1, hr.2.2.1, hr.2.2.2.1, h _ _ hr.2.2.2.2⟩
theorem Fine.setHolder {b : Bk} (hb : b.Fine) {id x1 x2 x3 : Int} (h2 : 0 ≤ x2) (h3 : 0 ≤ x3) (hl : (setH id [id, x1, x2, x3] false b.h).length ≤ 32) : ({ b with h := setH id [id, x1, x2, x3] false b.h } : Bk).Fine := by
 have hm : ∀ a s, thereB b a s = true → thereB { b with h := setH id [id, x1, x2, x3] false b.h } a s = true := by
  intro a s h;rw [zz2h] at h ⊢;rw [Bool.and_eq_true] at h ⊢;refine ⟨?_, h.2⟩;show hasId (setH id [id, x1, x2, x3] false b.h) a = true;rw [zz5w (id := id) (x := [id, x1, x2, x3]) rfl, h.1];simp
 refine ⟨hl, hb.lo, hb.lr, ⟨zz5m _ _ _ hb.rise.1 rfl, hb.rise.2⟩, hb.n0, hb.n1, ?_, hb.r, fun r hr => zz92 hm (hb.s r hr), fun r hr => zz93 hm (hb.o r hr)⟩
 intro r hr;rcases zz44 hr with rfl | hr
 ·simp [badH]; omega
 ·exact hb.h r hr
theorem Fine.setRate {b : Bk} (hb : b.Fine) {id x1 : Int} (h1 : 1 ≤ x1) (hl : (setH id [id, x1] false b.r).length ≤ 32) : ({ b with r := setH id [id, x1] false b.r } : Bk).Fine := by
 have hm : ∀ a s, thereB b a s = true → thereB { b with r := setH id [id, x1] false b.r } a s = true := by
  intro a s h;rw [zz2h] at h ⊢;rw [Bool.and_eq_true] at h ⊢;refine ⟨h.1, ?_⟩;show hasId (setH id [id, x1] false b.r) s = true;rw [zz5w (id := id) (x := [id, x1]) rfl, h.2];simp
 refine ⟨hb.lh, hb.lo, hl, ⟨hb.rise.1, hb.rise.2.1, zz5m _ _ _ hb.rise.2.2.1 rfl, hb.rise.2.2.2⟩, hb.n0, hb.n1, hb.h, ?_, fun r hr => zz92 hm (hb.s r hr), fun r hr => zz93 hm (hb.o r hr)⟩
 intro r hr;rcases zz44 hr with rfl | hr
 ·simp [badR]; omega
 ·exact hb.r r hr
theorem Fine.setOpen {b : Bk} (hb : b.Fine) {id : Int} {x : List Int} {d : Bool} (hx : x.headD 0 = id) (h : d = false → badO b x = false) (hl : (setH id x d b.o).length ≤ 64) : ({ b with o := setH id x d b.o } : Bk).Fine := by
 refine ⟨hb.lh, hl, hb.lr, ⟨hb.rise.1, zz5m _ _ _ hb.rise.2.1 hx, hb.rise.2.2⟩, hb.n0, hb.n1, hb.h, hb.r, hb.s, ?_⟩;intro r hr;show badO b r = false;cases d with
 | false =>
  rcases zz44 hr with rfl | hr
  ·exact h rfl
  ·exact hb.o r hr
 | true =>
  have hr' : r ∈ setH id x true b.o := hr;rw [setH, zz43] at hr';exact hb.o r ((List.mem_filter.1 hr').1)
theorem Fine.setStake {b : Bk} (hb : b.Fine) {a s q : Int} (ht : thereB b a s = true) : ({ b with s := setS a s [a, s, q] (q == 0) b.s } : Bk).Fine := by
 refine ⟨hb.lh, hb.lo, hb.lr, ⟨hb.rise.1, hb.rise.2.1, hb.rise.2.2.1, setS_rise _ _ _ _ hb.rise.2.2.2 rfl rfl⟩, hb.n0, hb.n1, hb.h, hb.r, ?_, hb.o⟩;intro r hr;show badS b r = false;by_cases hq : q = 0
 ·have hr' : r ∈ setS a s [a, s, q] (q == 0) b.s := hr
  rw [show (q == 0) = true by simp [hq], setS, zz43] at hr'
  exact hb.s r ((List.mem_filter.1 hr').1)
 ·rcases zz44 hr with rfl | hr
  ·simp [badS, hq]; exact ht
  ·exact hb.s r hr
theorem hold1 {n a b : Int} (h : relS n = 1) : (sS n a b).holds = decide (a ≤ b) := by unfold Stp.holds sS; simp only []; rw [h]; rfl
theorem hold2 {n a b : Int} (h : relS n = 2) : (sS n a b).holds = decide (b ≤ a) := by unfold Stp.holds sS; simp only []; rw [h]; rfl
theorem hold3 {n a b : Int} (h : relS n = 3) : (sS n a b).holds = decide (a = b) := by
 unfold Stp.holds sS; simp only []; rw [h];show (!false && (a == b)) = _;simp
 rfl
theorem holdO {n a b : Int} {f : Bool} : (oS n a b f).holds = (f && (sS n a b).holds) := by cases f <;> rfl
theorem zz64 (b : Bool) : (bitI b = 1) ↔ b = true := by cases b <;> simp [bitI]
theorem zz90 (b : Bool) : (bitI b = 0) ↔ b = false := by cases b <;> simp [bitI]
theorem rels : relS 1 = 2 ∧ relS 2 = 1 ∧ relS 3 = 2 ∧ relS 4 = 1 ∧ relS 5 = 2 ∧ relS 6 = 2 ∧ relS 7 = 2 ∧ relS 8 = 2 ∧ relS 9 = 2 ∧ relS 10 = 3 ∧ relS 11 = 3 ∧ relS 12 = 3 ∧ relS 13 = 3 ∧ relS 14 = 3 ∧ relS 15 = 1 ∧ relS 16 = 1 ∧ relS 17 = 1 ∧ relS 18 = 1 ∧ relS 19 = 1 ∧ relS 20 = 1 ∧ relS 21 = 1 ∧ relS 22 = 3 ∧ relS 23 = 3 := by decide
theorem zz8t (e : Ev) : (headS e).all (·.holds) = true ↔ 1 ≤ e.kind ∧ e.kind ≤ 7 := by
 obtain ⟨r1, r2, _⟩ := rels;simp [headS, hold2 r1, hold1 r2]
theorem accS_iff (b : Bk) (e : Ev) : (accS b e).all (·.holds) = true ↔ 0 ≤ e.qty ∧ hasH b e.acc = false ∧ b.h.length ≤ 31 := by
 obtain ⟨_, _, _, _, _, _, r7, _, _, _, r11, _, _, _, r15, _⟩ := rels;simp [accS, hold2 r7, hold3 r11, hold1 r15, zz90];omega
theorem limS_iff (b : Bk) (e : Ev) : (limS b e).all (·.holds) = true ↔ hasH b e.acc = true ∧ 0 ≤ e.qty ∧ 0 ≤ e.px := by
 obtain ⟨_, _, _, _, _, _, _, r8, r9, r10, _⟩ := rels;simp [limS, hold2 r8, hold2 r9, hold3 r10, zz64]
theorem quoS_iff (b : Bk) (e : Ev) : (quoS b e).all (·.holds) = true ↔ 1 ≤ e.px ∧ (hasR b e.sym = false → b.r.length ≤ 31) := by
 obtain ⟨_, _, _, _, _, r6, _, _, _, _, _, _, _, _, _, _, r17, _⟩ := rels;unfold quoS;cases h : hasR b e.sym
 ·simp [hold2 r6, hold1 r17]; omega
 ·simp [hold2 r6]
theorem zzbv (b : Bk) (e : Ev) : (canS b e).all (·.holds) = true ↔ hasO b e.ord = true := by
 obtain ⟨_, _, _, _, _, _, _, _, _, _, _, _, r13, _⟩ := rels;simp [canS, hold3 r13, zz64]
theorem ordS_iff (b : Bk) (e : Ev) (rate : Int) : (ordS b e rate).all (·.holds) = true → 0 ≤ e.side ∧ e.side ≤ 1 ∧ 1 ≤ e.qty ∧ 1 ≤ e.px ∧ hasH b e.acc = true ∧ hasO b e.ord = false ∧ hasR b e.sym = true ∧ b.o.length ≤ 63 ∧ (needE b e rate).2 = true := by
 obtain ⟨_, _, r3, r4, r5, r6, _, _, _, r10, _, r12, _, r14, _, r16, _⟩ := rels;simp only [ordS, List.all_cons, List.all_nil, Bool.and_true, Bool.and_eq_true, hold2 r3, hold1 r4, hold2 r5, hold2 r6, hold3 r10, hold3 r12, hold3 r14, hold1 r16, zz64, zz90, decide_eq_true_eq, holdO];rintro ⟨h1, h2, h3, h4, h5, h6, h7, h8, _, _, ⟨h9, _⟩, _⟩;exact ⟨h1, h2, h3, h4, h5, h6, h7, by omega, h9⟩
theorem zz60 (b : Bk) (e : Ev) : (fillS b e).all (·.holds) = true → hasO b e.ord = true ∧ 1 ≤ e.qty ∧ 1 ≤ e.px ∧ e.qty ≤ (recO b e.ord).getD 4 0 := by
 obtain ⟨_, _, _, _, r5, r6, _, _, _, _, _, _, r13, _, _, _, _, _, _, _, r21, _⟩ := rels;simp only [fillS, List.all_cons, List.all_nil, Bool.and_true, Bool.and_eq_true, hold2 r5, hold2 r6, hold3 r13, hold1 r21, zz64, decide_eq_true_eq];rintro ⟨h1, h2, h3, h4, _⟩;exact ⟨h1, h2, h3, h4⟩
theorem zz7o {b : Bk} {ord : Int} (h : hasO b ord = true) : recO b ord ∈ b.o ∧ (recO b ord).headD 0 = ord := by
 unfold hasO at h;unfold recO;cases hf : b.o.find? (isId ord) with
 | none => rw [hf] at h; cases h
 | some r =>
  have h1 : isId ord r = true := List.find?_some hf;exact ⟨List.mem_of_find?_eq_some hf, of_decide_eq_true h1⟩
theorem zzas {b : Bk} {acc : Int} (h : hasH b acc = true) : recH b acc ∈ b.h ∧ (recH b acc).headD 0 = acc := by
 unfold hasH at h;unfold recH;cases hf : b.h.find? (isId acc) with
 | none => rw [hf] at h; cases h
 | some r =>
  have h1 : isId acc r = true := List.find?_some hf;exact ⟨List.mem_of_find?_eq_some hf, of_decide_eq_true h1⟩
theorem getD0 (r : List Int) : r.getD 0 0 = r.headD 0 := by cases r <;> rfl
theorem fill_fine {b : Bk} (hb : b.Fine) {o h : List Int} {c s qty : Int} (ho : o ∈ b.o) (hl6 : o.length = 6) (h1 : 1 ≤ qty) (h2 : qty ≤ o.getD 4 0) (hh : h ∈ b.h) (hk : h.headD 0 = o.getD 1 0) (hO : hasId b.o (o.getD 0 0) = true) : (fillX b o h c s qty).Fine := by
 have hbad := hb.o o ho;have hbh := hb.h h hh;unfold badO at hbad;simp only [Bool.or_eq_false_iff, Bool.not_eq_false', decide_eq_false_iff_not] at hbad;obtain ⟨_, p5, p3, p31, pt⟩ := hbad;unfold badH at hbh;simp only [Bool.or_eq_false_iff, decide_eq_false_iff_not] at hbh;have pt' := pt;rw [zz2h, Bool.and_eq_true] at pt';have f1 := Fine.setHolder hb (id := h.getD 0 0) (x1 := c) (x2 := h.getD 2 0) (x3 := h.getD 3 0) zw zw (Nat.le_trans (zz45 (by rw [getD0, hk]; exact pt'.1)) hb.lh)
 have t1 : thereB { b with h := setH (h.getD 0 0) [h.getD 0 0, c, h.getD 2 0, h.getD 3 0] false b.h } (o.getD 1 0) (o.getD 2 0) = true := by
  rw [zz2h, Bool.and_eq_true];refine ⟨?_, pt'.2⟩;show hasId (setH (h.getD 0 0) [h.getD 0 0, c, h.getD 2 0, h.getD 3 0] false b.h) (o.getD 1 0) = true;rw [zz5w (id := h.getD 0 0) (x := [h.getD 0 0, c, h.getD 2 0, h.getD 3 0]) rfl, pt'.1];simp
 have f2 := Fine.setStake f1 (q := s) t1;have f3 := Fine.setOpen f2 (id := o.getD 0 0) (x := [o.getD 0 0, o.getD 1 0, o.getD 2 0, o.getD 3 0, o.getD 4 0 - qty, o.getD 5 0]) (d := (o.getD 4 0 - qty == 0)) rfl
  (fun hd => by
   have hd' : o.getD 4 0 - qty ≠ 0 := by simpa using hd
   unfold badO;simp only [List.getD_cons_zero, List.getD_cons_succ, Bool.or_eq_false_iff, Bool.not_eq_false', decide_eq_false_iff_not];exact ⟨by omega, p5, p3, p31, t1⟩)
  (Nat.le_trans (zz45 hO) hb.lo)
 exact f3
theorem newB_fine {b : Bk} (hb : b.Fine) (h6 : ∀ r ∈ b.o, r.length = 6) (e : Ev) (rate : Int) (ha : (allS b e rate).all (·.holds) = true) : (newB b e).Fine := by
 unfold allS at ha;rw [List.all_append, Bool.and_eq_true] at ha;obtain ⟨_, hk⟩ := ha;unfold newB;unfold kindS at hk;by_cases h1 : e.kind = 1
 ·rw [if_pos h1] at hk ⊢
  obtain ⟨k1, k2, k3⟩ := (accS_iff b e).1 hk;exact Fine.setHolder hb (by unfold maxI; omega) (by unfold maxI; omega) (by rw [zz7k k2]; omega)
 rw [if_neg h1] at hk ⊢;by_cases h2 : e.kind = 2
 ·rw [if_pos h2] at hk ⊢
  obtain ⟨k1, k2, k3⟩ := (limS_iff b e).1 hk;have hid := (zzas k1).2;exact Fine.setHolder hb k2 k3 (Nat.le_trans (zz45 (by rw [getD0, hid]; exact k1)) hb.lh)
 rw [if_neg h2] at hk ⊢;by_cases h3 : e.kind = 3
 ·rw [if_pos h3] at hk ⊢
  obtain ⟨k1, k2⟩ := (quoS_iff b e).1 hk;refine Fine.setRate hb k1 ?_;cases hr : hasR b e.sym with
  | true => exact Nat.le_trans (zz45 hr) hb.lr
  | false => have := k2 hr; rw [zz7k hr]; omega
 rw [if_neg h3] at hk ⊢;by_cases h4 : e.kind = 4
 ·rw [if_pos h4] at hk ⊢
  obtain ⟨k1, k2, k3, k4, k5, k6, k7, k8, _⟩ := ordS_iff b e rate hk;have hq : (e.qty == 0) = false := by simp; omega
  unfold ordB;rw [hq];refine Fine.setOpen hb rfl (fun _ => ?_) (by rw [zz7k k6]; omega)
  unfold badO;simp only [List.getD_cons_zero, List.getD_cons_succ, Bool.or_eq_false_iff, Bool.not_eq_false', decide_eq_false_iff_not];exact ⟨by omega, by omega, by omega, by omega, by rw [zz2h, Bool.and_eq_true]; exact ⟨k5, k7⟩⟩
 rw [if_neg h4] at hk ⊢;by_cases h5 : e.kind = 5
 ·rw [if_pos h5] at hk ⊢
  obtain ⟨k1, k2, k3, k4⟩ := zz60 b e hk;obtain ⟨m1, m2⟩ := zz7o k1;have hbad := hb.o _ m1;unfold badO at hbad;simp only [Bool.or_eq_false_iff, Bool.not_eq_false', decide_eq_false_iff_not] at hbad;have ht := hbad.2.2.2.2;rw [zz2h, Bool.and_eq_true] at ht;obtain ⟨g1, g2⟩ := zzas (b := b) (acc := (recO b e.ord).getD 1 0) ht.1;exact fill_fine hb m1 (h6 _ m1) k2 k4 g1 g2 (by rw [getD0, m2]; exact k1)
 rw [if_neg h5] at hk ⊢;by_cases h6' : e.kind = 6
 ·rw [if_pos h6'] at hk ⊢
  have k1 := (zzbv b e).1 hk;exact Fine.setOpen hb rfl (fun h => by cases h) (Nat.le_trans (zz45 k1) hb.lo)
 rw [if_neg h6'];exact hb
end
section
open Go Go.RowKit Mon Bg
theorem zz31 (b : Bk) (acc sym side qty px : Int) : I64 (afterR b acc sym side qty px).1.1 ∧ I64 (afterR b acc sym side qty px).2.1 := by
 unfold afterR
 split
 ·unfold I64; simp
 ·exact ⟨zz1p _, zz1p _⟩
theorem zzah {ge ne : List Int → Bool} {x : List Int} (d : Bool) (l : List (List Int)) : (setK ge ne x d l).length ≤ l.length + 1 := by
 rw [zz2i];have := List.length_filter_le ne l
 split <;> omega
end
section
open Go Go.RowKit
theorem zzbh {b : Bk} {e : Ev} {rate : Int} (h : (headS e).all (·.holds) = false) : [] ++ cutL (headS e) = gateL b e rate := by
 unfold gateL allS;rw [zz88, h];simp
theorem gateL_on {b : Bk} {e : Ev} {rate : Int} (h : (headS e).all (·.holds) = true) : ([] ++ cutL (headS e)) ++ cutL (kindS b e rate) = gateL b e rate := by
 unfold gateL allS;rw [zz88, h];simp
theorem zzbp {b : Bk} {e : Ev} {rate : Int} (h : (headS e).all (·.holds) = false) : doneB b e rate = b := by
 unfold doneB allS;rw [List.all_append, h];simp
theorem doneB_on {b : Bk} {e : Ev} {rate : Int} (h : (headS e).all (·.holds) = true) : (if (kindS b e rate).all (·.holds) then newB b e else b) = doneB b e rate := by
 unfold doneB allS;rw [List.all_append, h];simp
theorem zz9w (b : Bk) (e : Ev) : (newB b e).n = b.n := by
 unfold newB
 repeat' split
 all_goals rfl
theorem zzbq (b : Bk) (e : Ev) (rate : Int) : (doneB b e rate).n = b.n := by
 unfold doneB
 split
 ·exact zz9w b e
 ·rfl
theorem newB_s (b : Bk) (e : Ev) : (newB b e).s.length ≤ b.s.length + 1 := by
 unfold newB
 repeat' split
 all_goals first
  | exact Nat.le_succ _
  | exact zzah _ _
theorem zz5e {b : Bk} (hb : b.mayB = true) (h6 : ∀ r ∈ b.o, r.length = 6) (hs : b.s.length ≤ 900000) (e : Ev) (rate : Int) : (doneB b e rate).Small := by
 have hf : (doneB b e rate).Fine ∧ (doneB b e rate).s.length ≤ b.s.length + 1 := by
  unfold doneB
  split
  ·exact ⟨newB_fine ((Bk.mayB_iff b).1 hb) h6 e rate ‹_›, newB_s b e⟩
  ·exact ⟨(Bk.mayB_iff b).1 hb, Nat.le_succ _⟩
 have h1 := hf.1.lh;have h2 := hf.1.lo;have h3 := hf.1.lr;have h4 := hf.2;unfold Bk.Small;omega
theorem zt82 {p : Prop} (h : p := by
 obtain ⟨c1, c2, c3, c4, hv, h1, h2, h3, h4⟩ := h;injection hv with hv
 simp only [Array.mk.injEq, List.cons.injEq, and_true] at hv;obtain ⟨rfl, rfl, rfl, rfl, _⟩ := hv;exact ⟨a1, a2, a3, a4, rfl, h1, h2, h3, h4⟩) : p := h
theorem BkOwn.count {w : World} {B : Nat} {a1 a2 a3 a4 x : Value} {b : Bk} (h : BkOwn w B (.agg #[a1, a2, a3, a4, x]) b) (m : Int) : BkOwn w B (.agg #[a1, a2, a3, a4, m]) { b with n := m } := by
 exact zt82
theorem BkEi.form {w w0 : World} {u v : Value} {b b' : Bk} (h : BkEi w u v b b') (hu : BkAt w0 u b) : ∃ A1 c1 A2 c2 A3 c3 A4 c4, v = .agg (BF A1 c1 A2 c2 A3 c3 A4 c4 b' b'.n) := by
 rcases h with ⟨rfl, rfl⟩ | h
 ·obtain ⟨a1, a2, a3, a4, rfl, ⟨A1, c1, rfl, _⟩, ⟨A2, c2, rfl, _⟩, ⟨A3, c3, rfl, _⟩, ⟨A4, c4, rfl, _⟩⟩ := hu
  exact ⟨A1, c1, A2, c2, A3, c3, A4, c4, rfl⟩
 ·obtain ⟨A1, c1, A2, c2, A3, c3, A4, c4, rfl⟩ := h.form
  exact ⟨A1, c1, A2, c2, A3, c3, A4, c4, rfl⟩
theorem BkEi.put {w : World} {u v : Value} {b b' : Bk} (h : BkEi w u v b b') {g : Nat} {cs : Array Value} {fr : Nat × Nat} (hg : w.heap[g]? = some (.cells cs 27 fr)) (o : Nat) (us : List Value) (hu : BkAt (putC w g o us) u b) : BkAt (putC w g o us) v b' := by
 rcases h with ⟨rfl, rfl⟩ | h
 ·exact hu
 ·exact (h.put hg o us).at
theorem zt67 {p : Prop} (h : p := by
 have hp' : tmps[p]?.getD undef = .pointer (some ⟨g, 0, none⟩) := by simpa using hp
 have hp2' : tmps[p2]?.getD undef = .pointer (some ⟨g2, 0, none⟩) := by simpa using hp2
 simp [results, h, hp', hp2', asAddr, run_loadVar_row w g t ty cs (0, 0) d hg hu hd hi, run_loadVar_row w g2 t2 ty2 cs2 (0, 0) d2 hg2 hu2 hd2 hi2]) : p := h
theorem zz7n {P : Program} {fn : Func} {p p2 : Tmp} {ty ty2 : TypeId} {s1 s2 : Tmp} (h : fn.results = #[.cell p ty, .cell p2 ty2, .tmp s1, .tmp s2]) (tmps : Array Value) (w : World) (g g2 : Nat) (t t2 : TypeId) (cs cs2 : Array Value) (d d2 : TypeDesc)
  (hp : tmps.getD p undef = .pointer (some ⟨g, 0, none⟩)) (hg : w.heap[g]? = some (.cells cs t (0, 0)))
  (hu : P.underlying ty = some d) (hd : (match d with | .struct _ | .array _ _ => true | _ => false) = true) (hi : (P.info? ty).map (·.size) = some cs.size)
  (hp2 : tmps.getD p2 undef = .pointer (some ⟨g2, 0, none⟩)) (hg2 : w.heap[g2]? = some (.cells cs2 t2 (0, 0)))
  (hu2 : P.underlying ty2 = some d2) (hd2 : (match d2 with | .struct _ | .array _ _ => true | _ => false) = true) (hi2 : (P.info? ty2).map (·.size) = some cs2.size)
  (x y : Value) (hx : tmps.getD s1 undef = x) (hy : tmps.getD s2 undef = y) : (results fn tmps).run P w = .ok (.tuple #[.agg cs, .agg cs2, x, y]) w := by
 subst hx hy;exact zt67
end
section
open Go Go.RowKit Mon

end
section
open Go Go.RowKit
section
variable {P : Program}
theorem zz9d {w : World} (mty kt et : TypeId) (r clock : Nat) (es : Array MapEntry) (k : Int) (val : Value) (hm : P.underlying mty = some (.map kt et)) (hk : P.underlying kt = some (.int .i64)) (hb : w.heap[r]? = some (.map es clock)) (hf : Instr.findNow (.int .i64) (.int .i64 k) es.toList 0 = some none) :
  (Instr.mapUpdate mty (.map (some r)) (.int .i64 k) val).run P w = .ok () { w with heap := w.heap.setIfInBounds r (.map (es.push { key := .int .i64 k, val := val, born := clock }) (clock + 1)) } := by
 have hc : (Instr.checkKey false 10000 kt (.int .i64 k)).run P w = .ok () w := MapKept.run_checkKey (k := .int .i64 k) hk (by simp [MapKept.IsKey]) false 9999
 simp [Instr.mapUpdate, run_underlying hm, MapKept.run_getObj_map hb, hc, MapKept.run_findKey hk hf, MapKept.run_setObj_map _ hb, Result.andThen]
theorem zz7m {w : World} (mty kt et : TypeId) (r clock : Nat) (es : Array MapEntry) (k : Int) (val : Value) (i : Nat) (hm : P.underlying mty = some (.map kt et)) (hk : P.underlying kt = some (.int .i64)) (hb : w.heap[r]? = some (.map es clock)) (hf : Instr.findNow (.int .i64) (.int .i64 k) es.toList 0 = some (some (i, val))) :
  (Instr.lookup mty (.map (some r)) (.int .i64 k) false).run P w = .ok val w := by
 have hc : ∀ e, (Instr.checkKey e 10000 kt (.int .i64 k)).run P w = .ok () w := fun e => MapKept.run_checkKey (k := .int .i64 k) hk (by simp [MapKept.IsKey]) e 9999
 simp [Instr.lookup, run_underlying hm, MapKept.run_getObj_map hb, hc, MapKept.run_findKey hk hf, Result.andThen]
variable {ops : Array Oper} {rest : List Oper} {o : Oper} {a : Act} {Q : Exit → Act → World → Prop}
theorem zz25 {w : World} (hgd : o.guard = none) (m k v : Operand) (t : TypeId) (hop : o.op = Op.insert t m k v) {kt et : TypeId} (hm : P.underlying t = some (.map kt et)) (hk : P.underlying kt = some (.int .i64)) (r clock : Nat) (es : Array MapEntry) (kk : Int)
  (val : Value) (hem : a.eval m = .map (some r)) (hek : a.eval k = .int .i64 kk) (hev : a.eval v = val) (hb : w.heap[r]? = some (.map es clock)) (hf : Instr.findNow (.int .i64) (.int .i64 kk) es.toList 0 = some none)
  (h : ∀ w', w'.heap[r]? = some (.map (es.push { key := .int .i64 kk, val := val, born := clock }) (clock + 1)) → w.grownBy w' (some r) → wpList P ops Q rest (a.put o.dst undef) w') : wpList P ops Q (o :: rest) a w := by
 subst hev;refine wpList_plain hgd fun K hK => ?_
 have hrun := zz9d (P := P) t kt et r clock es kk (a.eval v) hm hk hb hf;unfold Oper.wp;simp [execOp, hop, hem, hek, hrun, Result.andThen];refine hK _ _ (h _ (MapKept.heap_set hb).1 ⟨rfl, rfl, rfl, by simp, fun k hk hne => (MapKept.heap_set hb).2 k (fun e => hne (by rw [e]))⟩)
end
theorem zz79 {w : World} {p r clock : Nat} {cs : Array Value} {t : TypeId} {fr : Nat × Nat} {es : Array MapEntry} (h : w.heap[p]? = some (.cells cs t fr)) (h' : w.heap[r]? = some (.map es clock)) : p ≠ r := by
 intro e;subst e;rw [h] at h';injection h' with h'
 cases h'
theorem zz30 {w w' : World} {p r : Nat} {x : Obj} (h : w.heap[p]? = some x) (hg : w.grownBy w' (some r)) (hne : p ≠ r) : w'.heap[p]? = some x :=
 (hg.block p (zL h) (fun e => hne (by injection e))).trans h
theorem zza1 {B r : Nat} {a w w' : World} (h : Below B a w) (hg : w.grownBy w' (some r)) (hr : B ≤ r) (hB : B ≤ w.heap.size) : Below B a w' :=
 h.grown hg hB (fun q hq => by injection hq with hq; omega)
theorem zt13 {p : Prop} (h : p := by
 go_wp2_with fail;refine bodyPost_ret (v := .agg (BF Ah ch As cs Ao co Ar cr b b.n)) ?_ rfl ⟨_, rfl, by first | exact BkEi.same _ _ _ | (rw [if_neg (by simp)]; exact BkEi.same _ _ _), HI.out, HOF.out⟩
 exact zz38 rfl _ _ _ _ _ _ rfl KT.out Tryz.underlying27 rfl zk) : p := h
theorem zt17 {p : Prop} (h : p := by
 go_wp2_with fail;refine bodyPost_ret (v := .agg (BF U1 u1 U2 u2 U3 u3 U4 u4 nb nb.n)) ?_ rfl ⟨_, rfl, BkEi.own (HO.out.mono (Nat.zero_le _)), HI.out, HOF.out⟩;exact zz38 rfl _ _ _ _ _ _ rfl KT.out Tryz.underlying27 rfl zk) : p := h
theorem zt20 {p : Prop} (h : p := by
 intro a' K ha hk;simp only [opsAt, zA];rcases ha with rfl | ⟨p, rfl⟩
 ·refine zp ?_
  iterate 2 refine zp ?_
  unfold wpPure;exact hk
 ·refine zp ?_
  iterate 2 refine zp ?_
  unfold wpPure;exact hk) : p := h
theorem zt36 {p : Prop} (h : p := by
 exact zz3g 63 #[.agg (BF Ah ch As cs Ao co Ar cr b b.n), .int .i64 e.acc] ⟨_, _, _, rfl, rfl, rfl, rfl, by simp [Act.eval, Act.put], by simp⟩ (fun w => enters_of Tryz.func63 zk rfl _ w) (fun wz hz => (zz2e _ b e.acc h0 h1 h2 h3 (hasH b e.acc) wz (zH (B0.out.call (HI.out.below.trans (hz.mono HI.out.below.size)))) HL1.out.1 hR.out.1 HX1).mono fun x w' ⟨h1, h2⟩ => ⟨_, h1, rfl, h2⟩)) : p := h
theorem zt53 {p : Prop} (h : p := by
 exact zz2z _ rfl rfl rfl #[.int .i64 0, .int .i64 0, .int .i64 0, .int .i64 0] 78 (fun ev wz => by unfold execOp; go_simp) (fun wz hz => ⟨rfl, zz02 wz _⟩)) : p := h
theorem zza2 (w0 : World) (g : Nat) (vh vs vo vr : Value) (b : Bk) (e : Ev) (rate : Int) (hT : Hid (Law16 w0)) (B0 : Hid (BkAt w0 (.agg #[vh, vs, vo, vr, b.n]) b)) (hs : Hid b.Small) (hR : Hid b.Rise) (hE : Hid e.I64s) (l0 : List Stp) (hl0 : Hid (l0.length ≤ 50)) (w : World) (HI : Hid (Gt w0 g vh vs vo vr b e rate l0 w)) :
  Calls Tryz.prog 28 #[.pointer (some ⟨g, 0, none⟩)] w fun r w' => ∃ v, r = .returned v ∧ BkEi w' (.agg #[vh, vs, vo, vr, b.n]) v b (if (accS b e).all (·.holds) then accB b e else b) ∧ Gt w0 g vh vs vo vr b e rate (l0 ++ cutL (accS b e)) w' ∧ Off w w' := by
 obtain ⟨_, _, _, _, hv, r1, r2, r3, r4⟩ := B0.out;injection hv with hv
 simp only [Array.mk.injEq, List.cons.injEq, and_true] at hv;obtain ⟨rfl, rfl, rfl, rfl, _⟩ := hv;have LH : Hid (∀ r ∈ b.h, r.length = 4) := (by obtain ⟨_, _, _, h, _⟩ := r1; exact h)
 have LO : Hid (∀ r ∈ b.o, r.length = 6) := (by obtain ⟨_, _, _, h, _⟩ := r3; exact h)
 have LR : Hid (∀ r ∈ b.r, r.length = 2) := (by obtain ⟨_, _, _, h, _⟩ := r4; exact h)
 obtain ⟨Ah, ch, rfl, _⟩ := r1;obtain ⟨As, cs, rfl, _⟩ := r2;obtain ⟨Ao, co, rfl, _⟩ := r3;obtain ⟨Ar, cr, rfl, _⟩ := r4;have F1 : b.h.length ≤ 1000000 ∧ b.o.length ≤ 1000000 ∧ b.r.length ≤ 1000000 := by have := hs.out; unfold Bk.Small at this; omega
 have HL1 := zH F1;clear F1;have KG := zH (HI.out.blk.imp fun _ h => h.1)
 have HOF : Hid (Off w w) := Off.refl _;obtain ⟨rh, FH, hl1, hx1⟩ := zz16 LH.out (isId e.acc)
 match rh, hl1, hx1 with
 | [h0, h1, h2, h3], _, hx1 =>
 have hF : FH = hasH b e.acc := zz0q hx1;subst hF;have HX1 := zH hx1;clear hx1;obtain ⟨FA, hFA⟩ : ∃ FA, (accS b e).all (·.holds) = FA := ⟨_, rfl⟩;rw [hFA];replace hFA := zH hFA;obtain ⟨nb, hnb⟩ : ∃ nb : Bk, accB b e = nb := ⟨_, rfl⟩;have q5 : Hid (∀ wz : World, Hid (BkAt wz (.agg (BF Ah ch As cs Ao co Ar cr b b.n)) b) → Calls Tryz.prog 74 #[.agg (BF Ah ch As cs Ao co Ar cr b b.n), .agg #[e.acc, e.qty, .int .i64 9223372036854775807, .int .i64 9223372036854775807]] wz fun r w' => ∃ v', r = .returned v' ∧ BkOwn w' wz.heap.size v' nb ∧ Below wz.heap.size wz w') := (show _ from fun wz hv => by rw [← hnb]; exact zz2d _ b e.acc e.qty 9223372036854775807 9223372036854775807 wz hv hs hR.out.1)
 rw [hnb];clear hnb;obtain ⟨wb, hwb⟩ : ∃ wb : World, w.alloc (.cells BZ 27) = wb := ⟨_, rfl⟩;have hb := zM0 hwb;have KT : ZB wb w.heap.size BZ 27 := by rw [← hwb]; exact zz02 _ _
 have LT : Hid (w0.heap.size ≤ w.heap.size) := HI.out.below.size;have MT : Hid (w.heap.size ≤ w.heap.size) := Nat.le_refl _;replace KG := zKx KG hb;replace HI := zH (HI.out.kept hb);replace HOF := zX HOF hb;replace hwb := zH hwb;clear hb;go_in;go_wp2_with fail;rw [hwb.out];clear hwb;refine zz07 [] (fun wz : World => zG wz g Ah ch As cs Ao co Ar cr b e rate) 16 (zb 16 0) zk zk zk ?_
 obtain ⟨wd1, hwd1⟩ : ∃ wd1 : World, { wb with drawn := wb.drawn + 1 } = wd1 := ⟨_, rfl⟩
 rw [hwd1];have hbwd1 : Below wb.heap.size wb wd1 := by rw [← hwd1]; exact (Below.refl _ _).drew
 replace KG := zKx KG hbwd1;replace KT := zK KT hbwd1;replace HI := zH (HI.out.kept hbwd1);replace HOF := zX HOF hbwd1;clear hwd1 hbwd1;refine zM [0, 1, 2, 3, 4, 5, 6, 7, 8] 7 KG ?_;simp only [opsAt, zA]
 iterate 3 refine zp ?_
 refine zr (fun wz hC => hC.out) ?_
 iterate 4 refine zp ?_
 refine zr (fun wz hC => hC.out) ?_
 unfold wpPure;go_simp;have hzd := zH HI.out.below.size;have hzo := zH HOF.out.size;refine zz1x 9 13 [10, 11, 12] 15 3 2 (.tuple #[.agg #[h0, h1, h2, h3], .bool (hasH b e.acc)]) #[.int .i64 0, .int .i64 0, .int .i64 0, .int .i64 0] 78 [(5, .tuple #[.agg #[h0, h1, h2, h3], .bool (hasH b e.acc)]), (16, .agg #[h0, h1, h2, h3]), (17, .bool (hasH b e.acc))] [15, 3, 5, 16, 17] zk zk zk zk zk (L2 := (zb 16 16383)) zk zk zk ?_ ?_ ?_ ?_ ?_
 ·exact zt36
 ·exact zt53
 ·exact fun wz hz => (KG.out.imp fun _ h => zz06 h hz)
 ·exact zt20
 intro qwf2 wf2 m2 g2 hb;have Kh := zH g2;have Lh := zH (Nat.le_trans hzd.out m2);have Mh := zH (Nat.le_trans hzo.out m2);clear g2 m2 hzd hzo;simp only [putsV];go_simp;replace KG := zKx KG hb;replace KT := zK KT hb;replace HI := zH (HI.out.kept hb);replace HOF := zX HOF hb;clear hb;have c_h_0 := zC Kh.out;have fc_h_0 := zF Kh.out;refine zW 14 ?_;go_wp2_with fail;generalize hws3 : World.setCell _ _ _ = ws3;clear c_h_0 fc_h_0;obtain ⟨vs, zE, hvs⟩ := zV4 hws3;replace HI := zH (HI.out.put Kh.out zx zx Lh.out 0 vs);replace HOF := zH (Off.freshC Mh.out HOF.out 0 vs);replace KG := zH ((KG.out.imp fun _ h => zz03 (zz0a h Kh.out zx) (o := 0) (vs := vs) h ))
 replace KT := zH (zz03 (zz0a KT.out Kh.out zx) (o := 0) (vs := vs) KT.out );subst hvs;rw [zE] at HI HOF KG KT;replace Kh := zP zE Kh;clear zE;replace Kh : ZB ws3 qwf2 #[h0, h1, h2, h3] 78 := Kh.out;clear hws3;refine zQs (fun _ => KG) ?_
 refine zM [15] 0 KG ?_;simp only [opsAt, zA];refine zp ?_;unfold wpPure;go_simp;refine zQe ?_;obtain ⟨vX_g, hX_g⟩ := KG.out;have c_g_0 := zC hX_g;replace hX_g := zH hX_g;have c_h_0 := zC Kh.out;go_wp2_with fail;refine zz07 [] (fun wz : World => zG wz g Ah ch As cs Ao co Ar cr b e rate) 21 (zb 21 0) zk zk zk ?_
 obtain ⟨wd4, hwd4⟩ : ∃ wd4 : World, { ws3 with drawn := ws3.drawn + 1 } = wd4 := ⟨_, rfl⟩
 rw [hwd4];have hbwd4 : Below ws3.heap.size ws3 wd4 := by rw [← hwd4]; exact (Below.refl _ _).drew
 clear hX_g c_g_0 c_h_0;replace KG := zKx KG hbwd4;replace KT := zK KT hbwd4;replace Kh := zK Kh hbwd4;replace HI := zH (HI.out.kept hbwd4);replace HOF := zX HOF hbwd4;clear hwd4 hbwd4;refine zM [0, 1, 2, 3, 4, 5, 7, 8, 11, 12, 13, 14, 15, 16, 17] 6 KG ?_;simp only [opsAt, zA]
 iterate 5 refine zp ?_
 refine zr (fun wz hC => hC.out) ?_
 iterate 7 refine zp ?_
 refine zr (fun wz hC => hC.out) ?_
 refine zp ?_;unfold wpPure;go_simp;refine zW 6 ?_;go_wp2_with fail;(with_reducible refine (zz0i w0 g (.slice Ah b.h.length ch) (.slice As b.s.length cs) (.slice Ao b.o.length co) (.slice Ar b.r.length cr) b e rate hT 7 (e.qty) (0) (gfit _ _ _ zw hE.out.qty (zz0l zw)) _).mono ?_);rintro e wc5 ⟨f1, rfl, hl1, hb⟩;replace KG := zKx KG hb;replace KT := zK KT hb;replace Kh := zK Kh hb;replace HI := zH (HI.out.kept hb);replace HOF := zX HOF hb;clear hb;obtain ⟨J1, j1, rfl⟩ := hl1.form;have HK1 := zH hl1;clear hl1;go_wp2_with fail;refine zQs (fun _ => KG) ?_
 refine zW 9 ?_;go_wp2_with fail;(with_reducible refine (zz2r _ _).mono ?_);rintro r _ ⟨rfl, rfl⟩;go_wp2_with fail;refine zQs (fun _ => KG) ?_
 refine zW 10 ?_;go_wp2_with fail;(with_reducible refine (zz0i w0 g (.slice Ah b.h.length ch) (.slice As b.s.length cs) (.slice Ao b.o.length co) (.slice Ar b.r.length cr) b e rate hT 11 (bitI (hasH b e.acc)) (0) (gfit _ _ _ zw (zz1o _) (zz0l zw)) _).mono ?_);rintro e wc7 ⟨f2, rfl, hl2, hb⟩;replace KG := zKx KG hb;replace KT := zK KT hb;replace Kh := zK Kh hb;replace HI := zH (HI.out.kept hb);replace HOF := zX HOF hb;replace HK1 := zH (HK1.out.off (Off.of hb));clear hb;obtain ⟨J2, j2, rfl⟩ := hl2.form;have HK2 := zH hl2;clear hl2;go_wp2_with fail;refine zQs (fun _ => KG) ?_
 refine zW 18 ?_;go_wp2_with fail;(with_reducible refine (zz0i w0 g (.slice Ah b.h.length ch) (.slice As b.s.length cs) (.slice Ao b.o.length co) (.slice Ar b.r.length cr) b e rate hT 15 (b.h.length) (31) (gfit _ _ _ zw (zz5c HL1.out.1) (zz0l zw)) _).mono ?_);rintro e wc8 ⟨f3, rfl, hl3, hb⟩;replace KG := zKx KG hb;replace KT := zK KT hb;replace Kh := zK Kh hb;replace HI := zH (HI.out.kept hb);replace HOF := zX HOF hb;replace HK1 := zH (HK1.out.off (Off.of hb));replace HK2 := zH (HK2.out.off (Off.of hb));clear hb;obtain ⟨J3, j3, rfl⟩ := hl3.form;have HK3 := zH hl3;clear hl3;go_wp2_with fail;refine zQs (fun _ => KG) ?_
 refine zW 19 ?_;go_wp2_with fail;generalize hwa9 : World.alloc _ _ = wa9;have hbwa9 := zM0 hwa9;replace KG := zKx KG hbwa9;replace KT := zK KT hbwa9;replace Kh := zK Kh hbwa9;replace HI := zH (HI.out.kept hbwa9);replace HOF := zX HOF hbwa9;replace HK1 := zH (HK1.out.off (Off.of hbwa9));replace HK2 := zH (HK2.out.off (Off.of hbwa9));replace HK3 := zH (HK3.out.off (Off.of hbwa9));have Kfs : ZB wa9 wc8.heap.size #[.func (.func J1) #[] j1, .func (.func J2) #[] j2, .func (.func J3) #[] j3] 72 := by rw [← hwa9]; exact zz02 _ _
 clear hwa9 hbwa9;refine zQs (fun _ => KG) ?_
 refine zW 20 ?_;go_wp2_with fail;have qall := zH (zz5h (Gt w0 g (.slice Ah b.h.length ch) (.slice As b.s.length cs) (.slice Ao b.o.length co) (.slice Ar b.r.length cr) b e rate) (wc8.heap.size) 3 [(.func (.func J1) #[] j1, sS 7 (e.qty) (0)), (.func (.func J2) #[] j2, sS 11 (bitI (hasH b e.acc)) (0)), (.func (.func J3) #[] j3, sS 15 (b.h.length) (31))] #[.func (.func J1) #[] j1, .func (.func J2) #[] j2, .func (.func J3) #[] j3] l0 _ rfl rfl Kfs (zH (by intro x hx; simp only [List.mem_cons, List.not_mem_nil, or_false] at hx; rcases hx with rfl | rfl | rfl <;> first | exact HK1.out | exact HK2.out | exact HK3.out)) HI (by have := hl0.out; show _ ≤ _; omega))
 have qall2 : Hid (Calls Tryz.prog 35 #[.slice (some ⟨wc8.heap.size, 0, none⟩) 3 3] wa9 fun r w' => r = .returned (.bool FA) ∧ Gt w0 g (.slice Ah b.h.length ch) (.slice As b.s.length cs) (.slice Ao b.o.length co) (.slice Ar b.r.length cr) b e rate (l0 ++ cutL (accS b e)) w' ∧ Off wa9 w') := by rw [← hFA.out]; exact qall.out
 clear qall;(with_reducible refine qall2.out.mono ?_);rintro r wl10 ⟨rfl, hI2, ho⟩;clear qall2 HI HK1 HK2 HK3;replace KT := zD ho KT;replace Kh := zD ho Kh;replace HOF := zH (HOF.out.trans ho);clear Kfs KG ho;have HI := zH hI2;clear hI2;have KG := zH (HI.out.blk.imp fun _ h => h.1)
 go_wp2_with fail;refine zQs (fun _ => KG) ?_
 refine zQe ?_;cases FA with
 | false =>
  obtain ⟨vX_g, hX_g⟩ := KG.out;have c_g_0 := zC hX_g;replace hX_g := zH hX_g;have c_t_0 := zC KT.out;have fc_t_0 := zF KT.out;go_wp2_with fail;generalize hws11 : World.setCell _ _ _ = ws11;clear hX_g c_g_0 c_t_0 fc_t_0;obtain ⟨vs, zE, hvs⟩ := zV5 hws11;replace HI := zH (HI.out.put KT.out zx zx LT.out 0 vs);replace HOF := zH (Off.freshC MT.out HOF.out 0 vs);replace Kh := zH (zz03 (zz0a Kh.out KT.out zx) (o := 0) (vs := vs) Kh.out );replace KG := zH ((KG.out.imp fun _ h => zz03 (zz0a h KT.out zx) (o := 0) (vs := vs) h ))
  subst hvs;rw [zE] at HI HOF Kh KG;replace KT := zP zE KT;clear zE;replace KT : ZB ws11 w.heap.size (BF Ah ch As cs Ao co Ar cr b b.n) 27 := KT.out;clear hws11;exact zt13
 | true =>
  obtain ⟨vX_g, hX_g⟩ := KG.out;have c_g_0 := zC hX_g;replace hX_g := zH hX_g;go_wp2_with fail;clear hX_g c_g_0;refine zz07 [] (fun wz : World => zG wz g Ah ch As cs Ao co Ar cr b e rate) 17 (zb 17 0) zk zk zk ?_
  obtain ⟨wd12, hwd12⟩ : ∃ wd12 : World, { wl10 with drawn := wl10.drawn + 1 } = wd12 := ⟨_, rfl⟩
  rw [hwd12];have hbwd12 : Below wl10.heap.size wl10 wd12 := by rw [← hwd12]; exact (Below.refl _ _).drew
  replace KT := zK KT hbwd12;replace Kh := zK Kh hbwd12;replace KG := zKx KG hbwd12;replace HOF := zX HOF hbwd12;replace HI := zH (HI.out.kept hbwd12);clear hwd12 hbwd12;refine zM [0, 1, 2, 3, 4, 5, 6, 7, 8, 9, 10, 11, 12, 13, 14] 2 KG ?_;simp only [opsAt, zA]
  iterate 3 refine zp ?_
  refine zr (fun wz hC => hC.out) ?_
  iterate 4 refine zp ?_
  refine zr (fun wz hC => hC.out) ?_
  iterate 4 refine zp ?_
  refine zr (fun wz hC => hC.out) ?_
  refine zp ?_;unfold wpPure;go_simp;refine zW 15 ?_;go_wp2_with fail;(with_reducible refine (q5.out _ (zH (B0.out.call HI.out.below))).mono ?_);rintro r wc13 ⟨v5, rfl, hO, hb⟩;replace KT := zK KT hb;replace Kh := zK Kh hb;replace KG := zKx KG hb;replace HOF := zX HOF hb;replace HI := zH (HI.out.kept hb);clear hb;obtain ⟨U1, u1, U2, u2, U3, u3, U4, u4, rfl⟩ := hO.form;have HO := zH hO;clear hO;go_wp2_with fail;refine zQs (fun _ => KG) ?_
  have c_t_0 := zC KT.out;have fc_t_0 := zF KT.out;refine zW 16 ?_;go_wp2_with fail;generalize hws14 : World.setCell _ _ _ = ws14;clear c_t_0 fc_t_0;replace HO : Hid _ := zH (HO.out.put KT.out 0 (BF U1 u1 U2 u2 U3 u3 U4 u4 nb nb.n));replace HI := zH (HI.out.put KT.out zx zx LT.out 0 (BF U1 u1 U2 u2 U3 u3 U4 u4 nb nb.n));replace HOF := zH (Off.freshC MT.out HOF.out 0 (BF U1 u1 U2 u2 U3 u3 U4 u4 nb nb.n));replace Kh := zH (zz03 (zz0a Kh.out KT.out zx) (o := 0) (vs := (BF U1 u1 U2 u2 U3 u3 U4 u4 nb nb.n)) Kh.out );replace KG := zH ((KG.out.imp fun _ h => zz03 (zz0a h KT.out zx) (o := 0) (vs := (BF U1 u1 U2 u2 U3 u3 U4 u4 nb nb.n)) h ))
  replace KT := zH (zz17 (o := 0) (vs := (BF U1 u1 U2 u2 U3 u3 U4 u4 nb nb.n)) KT.out);rw [show putC wc13 (w.heap.size) 0 (BF U1 u1 U2 u2 U3 u3 U4 u4 nb nb.n) = ws14 from hws14] at HO
  rw [show putC wc13 (w.heap.size) 0 (BF U1 u1 U2 u2 U3 u3 U4 u4 nb nb.n) = ws14 from hws14] at HI HOF KT Kh KG
  replace KT : ZB ws14 w.heap.size (BF U1 u1 U2 u2 U3 u3 U4 u4 nb nb.n) 27 := KT.out;clear hws14;refine zQs (fun _ => KG) ?_
  refine zQe ?_;exact zt17
theorem limit_any (w0 : World) (g : Nat) (vh vs vo vr : Value) (b : Bk) (e : Ev) (rate : Int) (hT : Hid (Law16 w0)) (B0 : Hid (BkAt w0 (.agg #[vh, vs, vo, vr, b.n]) b)) (hs : Hid b.Small) (hR : Hid b.Rise) (hE : Hid e.I64s) (l0 : List Stp) (hl0 : Hid (l0.length ≤ 50)) (w : World) (HI : Hid (Gt w0 g vh vs vo vr b e rate l0 w)) :
  Calls Tryz.prog 29 #[.pointer (some ⟨g, 0, none⟩)] w fun r w' => ∃ v, r = .returned v ∧ BkEi w' (.agg #[vh, vs, vo, vr, b.n]) v b (if (limS b e).all (·.holds) then limB b e else b) ∧ Gt w0 g vh vs vo vr b e rate (l0 ++ cutL (limS b e)) w' ∧ Off w w' := by
 obtain ⟨_, _, _, _, hv, r1, r2, r3, r4⟩ := B0.out;injection hv with hv
 simp only [Array.mk.injEq, List.cons.injEq, and_true] at hv;obtain ⟨rfl, rfl, rfl, rfl, _⟩ := hv;have LH : Hid (∀ r ∈ b.h, r.length = 4) := (by obtain ⟨_, _, _, h, _⟩ := r1; exact h)
 have LO : Hid (∀ r ∈ b.o, r.length = 6) := (by obtain ⟨_, _, _, h, _⟩ := r3; exact h)
 have LR : Hid (∀ r ∈ b.r, r.length = 2) := (by obtain ⟨_, _, _, h, _⟩ := r4; exact h)
 obtain ⟨Ah, ch, rfl, _⟩ := r1;obtain ⟨As, cs, rfl, _⟩ := r2;obtain ⟨Ao, co, rfl, _⟩ := r3;obtain ⟨Ar, cr, rfl, _⟩ := r4;have F1 : b.h.length ≤ 1000000 ∧ b.o.length ≤ 1000000 ∧ b.r.length ≤ 1000000 := by have := hs.out; unfold Bk.Small at this; omega
 have HL1 := zH F1;clear F1;have KG := zH (HI.out.blk.imp fun _ h => h.1)
 have HOF : Hid (Off w w) := Off.refl _;obtain ⟨rh, FH, hl1, hx1⟩ := zz16 LH.out (isId e.acc)
 match rh, hl1, hx1 with
 | [h0, h1, h2, h3], _, hx1 =>
 have hF : FH = hasH b e.acc := zz0q hx1;subst hF;have HX1 := zH hx1;clear hx1;obtain ⟨FA, hFA⟩ : ∃ FA, (limS b e).all (·.holds) = FA := ⟨_, rfl⟩;rw [hFA];replace hFA := zH hFA;have hrec : recH b e.acc = [h0, h1, h2, h3] := by unfold recH; rw [HX1.out]
 have hlb : limB b e = { b with h := setH h0 [h0, h1, e.qty, e.px] false b.h } := by unfold limB; rw [hrec]; rfl
 rw [hlb];clear hlb hrec;obtain ⟨nb, hnb⟩ : ∃ nb : Bk, ({ b with h := setH h0 [h0, h1, e.qty, e.px] false b.h } : Bk) = nb := ⟨_, rfl⟩
 have q5 : Hid (∀ wz : World, Hid (BkAt wz (.agg (BF Ah ch As cs Ao co Ar cr b b.n)) b) → Calls Tryz.prog 74 #[.agg (BF Ah ch As cs Ao co Ar cr b b.n), .agg #[h0, h1, e.qty, e.px]] wz fun r w' => ∃ v', r = .returned v' ∧ BkOwn w' wz.heap.size v' nb ∧ Below wz.heap.size wz w') := (show _ from fun wz hv => by rw [← hnb]; exact zz2d _ b h0 h1 e.qty e.px wz hv hs hR.out.1)
 rw [hnb];clear hnb;obtain ⟨wb, hwb⟩ : ∃ wb : World, w.alloc (.cells BZ 27) = wb := ⟨_, rfl⟩;have hb := zM0 hwb;have KT : ZB wb w.heap.size BZ 27 := by rw [← hwb]; exact zz02 _ _
 have LT : Hid (w0.heap.size ≤ w.heap.size) := HI.out.below.size;have MT : Hid (w.heap.size ≤ w.heap.size) := Nat.le_refl _;replace KG := zKx KG hb;replace HI := zH (HI.out.kept hb);replace HOF := zX HOF hb;replace hwb := zH hwb;clear hb;go_in;go_wp2_with fail;rw [hwb.out];clear hwb;refine zz07 [] (fun wz : World => zG wz g Ah ch As cs Ao co Ar cr b e rate) 16 (zb 16 0) zk zk zk ?_
 obtain ⟨wd1, hwd1⟩ : ∃ wd1 : World, { wb with drawn := wb.drawn + 1 } = wd1 := ⟨_, rfl⟩
 rw [hwd1];have hbwd1 : Below wb.heap.size wb wd1 := by rw [← hwd1]; exact (Below.refl _ _).drew
 replace KG := zKx KG hbwd1;replace KT := zK KT hbwd1;replace HI := zH (HI.out.kept hbwd1);replace HOF := zX HOF hbwd1;clear hwd1 hbwd1;refine zM [0, 1, 2, 3, 4, 5, 6, 7, 8] 7 KG ?_;simp only [opsAt, zA]
 iterate 3 refine zp ?_
 refine zr (fun wz hC => hC.out) ?_
 iterate 4 refine zp ?_
 refine zr (fun wz hC => hC.out) ?_
 unfold wpPure;go_simp;have hzd := zH HI.out.below.size;have hzo := zH HOF.out.size;refine zz1x 9 13 [10, 11, 12] 15 3 2 (.tuple #[.agg #[h0, h1, h2, h3], .bool (hasH b e.acc)]) #[.int .i64 0, .int .i64 0, .int .i64 0, .int .i64 0] 78 [(5, .tuple #[.agg #[h0, h1, h2, h3], .bool (hasH b e.acc)]), (16, .agg #[h0, h1, h2, h3]), (17, .bool (hasH b e.acc))] [15, 3, 5, 16, 17] zk zk zk zk zk (L2 := (zb 16 16383)) zk zk zk ?_ ?_ ?_ ?_ ?_
 ·exact zt36
 ·exact zt53
 ·exact fun wz hz => (KG.out.imp fun _ h => zz06 h hz)
 ·exact zt20
 intro qwf2 wf2 m2 g2 hb;have Kh := zH g2;have Lh := zH (Nat.le_trans hzd.out m2);have Mh := zH (Nat.le_trans hzo.out m2);clear g2 m2 hzd hzo;simp only [putsV];go_simp;replace KG := zKx KG hb;replace KT := zK KT hb;replace HI := zH (HI.out.kept hb);replace HOF := zX HOF hb;clear hb;have c_h_0 := zC Kh.out;have fc_h_0 := zF Kh.out;refine zW 14 ?_;go_wp2_with fail;generalize hws3 : World.setCell _ _ _ = ws3;clear c_h_0 fc_h_0;obtain ⟨vs, zE, hvs⟩ := zV4 hws3;replace HI := zH (HI.out.put Kh.out zx zx Lh.out 0 vs);replace HOF := zH (Off.freshC Mh.out HOF.out 0 vs);replace KG := zH ((KG.out.imp fun _ h => zz03 (zz0a h Kh.out zx) (o := 0) (vs := vs) h ))
 replace KT := zH (zz03 (zz0a KT.out Kh.out zx) (o := 0) (vs := vs) KT.out );subst hvs;rw [zE] at HI HOF KG KT;replace Kh := zP zE Kh;clear zE;replace Kh : ZB ws3 qwf2 #[h0, h1, h2, h3] 78 := Kh.out;clear hws3;refine zQs (fun _ => KG) ?_
 refine zM [15] 0 KG ?_;simp only [opsAt, zA];refine zp ?_;unfold wpPure;go_simp;refine zQe ?_;obtain ⟨vX_g, hX_g⟩ := KG.out;have c_g_0 := zC hX_g;replace hX_g := zH hX_g;have c_h_0 := zC Kh.out;go_wp2_with fail;clear hX_g c_g_0 c_h_0;refine zz07 [] (fun wz : World => zG wz g Ah ch As cs Ao co Ar cr b e rate) 20 (zb 20 0) zk zk zk ?_
 obtain ⟨wd4, hwd4⟩ : ∃ wd4 : World, { ws3 with drawn := ws3.drawn + 1 } = wd4 := ⟨_, rfl⟩
 rw [hwd4];have hbwd4 : Below ws3.heap.size ws3 wd4 := by rw [← hwd4]; exact (Below.refl _ _).drew
 replace KG := zKx KG hbwd4;replace KT := zK KT hbwd4;replace Kh := zK Kh hbwd4;replace HI := zH (HI.out.kept hbwd4);replace HOF := zX HOF hbwd4;clear hwd4 hbwd4;refine zM [0, 1, 4, 5, 6, 7, 8, 9, 11, 12, 13, 14, 15, 16] 6 KG ?_;simp only [opsAt, zA]
 iterate 7 refine zp ?_
 refine zr (fun wz hC => hC.out) ?_
 iterate 5 refine zp ?_
 refine zr (fun wz hC => hC.out) ?_
 unfold wpPure;go_simp;refine zW 2 ?_;go_wp2_with fail;(with_reducible refine (zz2r _ _).mono ?_);rintro r _ ⟨rfl, rfl⟩;go_wp2_with fail;refine zQs (fun _ => KG) ?_
 refine zW 3 ?_;go_wp2_with fail;(with_reducible refine (zz0i w0 g (.slice Ah b.h.length ch) (.slice As b.s.length cs) (.slice Ao b.o.length co) (.slice Ar b.r.length cr) b e rate hT 10 (bitI (hasH b e.acc)) (1) (gfit _ _ _ zw (zz1o _) (zz0l zw)) _).mono ?_);rintro e wc6 ⟨f1, rfl, hl1, hb⟩;replace KG := zKx KG hb;replace KT := zK KT hb;replace Kh := zK Kh hb;replace HI := zH (HI.out.kept hb);replace HOF := zX HOF hb;clear hb;obtain ⟨J1, j1, rfl⟩ := hl1.form;have HK1 := zH hl1;clear hl1;go_wp2_with fail;refine zQs (fun _ => KG) ?_
 refine zW 10 ?_;go_wp2_with fail;(with_reducible refine (zz0i w0 g (.slice Ah b.h.length ch) (.slice As b.s.length cs) (.slice Ao b.o.length co) (.slice Ar b.r.length cr) b e rate hT 8 (e.qty) (0) (gfit _ _ _ zw hE.out.qty (zz0l zw)) _).mono ?_);rintro e wc7 ⟨f2, rfl, hl2, hb⟩;replace KG := zKx KG hb;replace KT := zK KT hb;replace Kh := zK Kh hb;replace HI := zH (HI.out.kept hb);replace HOF := zX HOF hb;replace HK1 := zH (HK1.out.off (Off.of hb));clear hb;obtain ⟨J2, j2, rfl⟩ := hl2.form;have HK2 := zH hl2;clear hl2;go_wp2_with fail;refine zQs (fun _ => KG) ?_
 refine zW 17 ?_;go_wp2_with fail;(with_reducible refine (zz0i w0 g (.slice Ah b.h.length ch) (.slice As b.s.length cs) (.slice Ao b.o.length co) (.slice Ar b.r.length cr) b e rate hT 9 (e.px) (0) (gfit _ _ _ zw hE.out.px (zz0l zw)) _).mono ?_);rintro e wc8 ⟨f3, rfl, hl3, hb⟩;replace KG := zKx KG hb;replace KT := zK KT hb;replace Kh := zK Kh hb;replace HI := zH (HI.out.kept hb);replace HOF := zX HOF hb;replace HK1 := zH (HK1.out.off (Off.of hb));replace HK2 := zH (HK2.out.off (Off.of hb));clear hb;obtain ⟨J3, j3, rfl⟩ := hl3.form;have HK3 := zH hl3;clear hl3;go_wp2_with fail;refine zQs (fun _ => KG) ?_
 refine zW 18 ?_;go_wp2_with fail;generalize hwa9 : World.alloc _ _ = wa9;have hbwa9 := zM0 hwa9;replace KG := zKx KG hbwa9;replace KT := zK KT hbwa9;replace Kh := zK Kh hbwa9;replace HI := zH (HI.out.kept hbwa9);replace HOF := zX HOF hbwa9;replace HK1 := zH (HK1.out.off (Off.of hbwa9));replace HK2 := zH (HK2.out.off (Off.of hbwa9));replace HK3 := zH (HK3.out.off (Off.of hbwa9));have Kfs : ZB wa9 wc8.heap.size #[.func (.func J1) #[] j1, .func (.func J2) #[] j2, .func (.func J3) #[] j3] 72 := by rw [← hwa9]; exact zz02 _ _
 clear hwa9 hbwa9;refine zQs (fun _ => KG) ?_
 refine zW 19 ?_;go_wp2_with fail;have qall := zH (zz5h (Gt w0 g (.slice Ah b.h.length ch) (.slice As b.s.length cs) (.slice Ao b.o.length co) (.slice Ar b.r.length cr) b e rate) (wc8.heap.size) 3 [(.func (.func J1) #[] j1, sS 10 (bitI (hasH b e.acc)) (1)), (.func (.func J2) #[] j2, sS 8 (e.qty) (0)), (.func (.func J3) #[] j3, sS 9 (e.px) (0))] #[.func (.func J1) #[] j1, .func (.func J2) #[] j2, .func (.func J3) #[] j3] l0 _ rfl rfl Kfs (zH (by intro x hx; simp only [List.mem_cons, List.not_mem_nil, or_false] at hx; rcases hx with rfl | rfl | rfl <;> first | exact HK1.out | exact HK2.out | exact HK3.out)) HI (by have := hl0.out; show _ ≤ _; omega))
 have qall2 : Hid (Calls Tryz.prog 35 #[.slice (some ⟨wc8.heap.size, 0, none⟩) 3 3] wa9 fun r w' => r = .returned (.bool FA) ∧ Gt w0 g (.slice Ah b.h.length ch) (.slice As b.s.length cs) (.slice Ao b.o.length co) (.slice Ar b.r.length cr) b e rate (l0 ++ cutL (limS b e)) w' ∧ Off wa9 w') := by rw [← hFA.out]; exact qall.out
 clear qall;(with_reducible refine qall2.out.mono ?_);rintro r wl10 ⟨rfl, hI2, ho⟩;clear qall2 HI HK1 HK2 HK3;replace KT := zD ho KT;replace Kh := zD ho Kh;replace HOF := zH (HOF.out.trans ho);clear Kfs KG ho;have HI := zH hI2;clear hI2;have KG := zH (HI.out.blk.imp fun _ h => h.1)
 go_wp2_with fail;refine zQs (fun _ => KG) ?_
 refine zQe ?_;cases FA with
 | false =>
  obtain ⟨vX_g, hX_g⟩ := KG.out;have c_g_0 := zC hX_g;replace hX_g := zH hX_g;have c_t_0 := zC KT.out;have fc_t_0 := zF KT.out;go_wp2_with fail;generalize hws11 : World.setCell _ _ _ = ws11;clear hX_g c_g_0 c_t_0 fc_t_0;obtain ⟨vs, zE, hvs⟩ := zV5 hws11;replace HI := zH (HI.out.put KT.out zx zx LT.out 0 vs);replace HOF := zH (Off.freshC MT.out HOF.out 0 vs);replace Kh := zH (zz03 (zz0a Kh.out KT.out zx) (o := 0) (vs := vs) Kh.out );replace KG := zH ((KG.out.imp fun _ h => zz03 (zz0a h KT.out zx) (o := 0) (vs := vs) h ))
  subst hvs;rw [zE] at HI HOF Kh KG;replace KT := zP zE KT;clear zE;replace KT : ZB ws11 w.heap.size (BF Ah ch As cs Ao co Ar cr b b.n) 27 := KT.out;clear hws11;exact zt13
 | true =>
  obtain ⟨vX_g, hX_g⟩ := KG.out;have c_g_0 := zC hX_g;replace hX_g := zH hX_g;have c_h_0 := zC Kh.out;have fc_h_0 := zF Kh.out;go_wp2_with fail;clear hX_g c_g_0 c_h_0 fc_h_0;refine zz07 [] (fun wz : World => zG wz g Ah ch As cs Ao co Ar cr b e rate) 14 (zb 14 0) zk zk zk ?_
  obtain ⟨wd12, hwd12⟩ : ∃ wd12 : World, { wl10 with drawn := wl10.drawn + 1 } = wd12 := ⟨_, rfl⟩
  rw [hwd12];have hbwd12 : Below wl10.heap.size wl10 wd12 := by rw [← hwd12]; exact (Below.refl _ _).drew
  replace KT := zK KT hbwd12;replace Kh := zK Kh hbwd12;replace KG := zKx KG hbwd12;replace HOF := zX HOF hbwd12;replace HI := zH (HI.out.kept hbwd12);clear hwd12 hbwd12;refine zM [0, 1, 2, 3, 4, 5, 6, 7, 8, 9, 10] 3 KG ?_;simp only [opsAt, zA]
  iterate 4 refine zp ?_
  refine zr (fun wz hC => hC.out) ?_
  iterate 4 refine zp ?_
  refine zr (fun wz hC => hC.out) ?_
  refine zp ?_;unfold wpPure;go_simp;have c_h_0 := zC Kh.out;have fc_h_0 := zF Kh.out;refine zW 11 ?_;go_wp2_with fail;generalize hws13 : World.setCell _ _ _ = ws13;clear c_h_0 fc_h_0;have zE : putC wd12 (qwf2) 2 [.int .i64 e.qty] = ws13 := hws13;replace HI := zH (HI.out.put Kh.out zx zx Lh.out 2 [.int .i64 e.qty]);replace HOF := zH (Off.freshC Mh.out HOF.out 2 [.int .i64 e.qty]);replace KT := zH (zz03 (zz0a KT.out Kh.out zx) (o := 2) (vs := [e.qty]) KT.out );replace KG := zH ((KG.out.imp fun _ h => zz03 (zz0a h Kh.out zx) (o := 2) (vs := [e.qty]) h ))
  rw [zE] at HI HOF KT KG;replace Kh := zP zE Kh;clear zE;replace Kh : ZB ws13 qwf2 #[h0, h1, e.qty, h3] 78 := Kh.out;clear hws13;refine zQs (fun _ => KG) ?_
  refine zW 12 ?_;go_wp2_with fail;refine zQs (fun _ => KG) ?_
  have c_h_0 := zC Kh.out;have fc_h_0 := zF Kh.out;refine zW 13 ?_;go_wp2_with fail;generalize hws14 : World.setCell _ _ _ = ws14;clear c_h_0 fc_h_0;have zE : putC ws13 (qwf2) 3 [.int .i64 e.px] = ws14 := hws14;replace HI := zH (HI.out.put Kh.out zx zx Lh.out 3 [.int .i64 e.px]);replace HOF := zH (Off.freshC Mh.out HOF.out 3 [.int .i64 e.px]);replace KT := zH (zz03 (zz0a KT.out Kh.out zx) (o := 3) (vs := [e.px]) KT.out );replace KG := zH ((KG.out.imp fun _ h => zz03 (zz0a h Kh.out zx) (o := 3) (vs := [e.px]) h ))
  rw [zE] at HI HOF KT KG;replace Kh := zP zE Kh;clear zE;replace Kh : ZB ws14 qwf2 #[h0, h1, e.qty, e.px] 78 := Kh.out;clear hws14;refine zQs (fun _ => KG) ?_
  refine zQe ?_;obtain ⟨vX_g, hX_g⟩ := KG.out;have c_g_0 := zC hX_g;replace hX_g := zH hX_g;have c_h_0 := zC Kh.out;go_wp2_with fail;clear hX_g c_g_0 c_h_0;refine zRD [] (fun wz : World => zG wz g Ah ch As cs Ao co Ar cr b e rate ∧ ZB wz qwf2 #[h0, h1, e.qty, e.px] 78) 7 ?_
  obtain ⟨wd15, hwd15⟩ : ∃ wd15 : World, { ws14 with drawn := ws14.drawn + 1 } = wd15 := ⟨_, rfl⟩
  rw [hwd15];have hbwd15 : Below ws14.heap.size ws14 wd15 := by rw [← hwd15]; exact (Below.refl _ _).drew
  replace KT := zK KT hbwd15;replace Kh := zK Kh hbwd15;replace KG := zKx KG hbwd15;replace HOF := zX HOF hbwd15;replace HI := zH (HI.out.kept hbwd15);clear hwd15 hbwd15;refine zM [0, 1, 2, 3, 4] 2 ⟨KG, Kh⟩ ?_;simp only [opsAt, zA]
  iterate 3 refine zp ?_
  refine zr (fun wz hC => hC.1.out) ?_
  refine zq (fun wz hC => zC hC.2.out) ?_
  unfold wpPure;go_simp;refine zW 5 ?_;go_wp2_with fail;(with_reducible refine (q5.out _ (zH (B0.out.call HI.out.below))).mono ?_);rintro r wc16 ⟨v5, rfl, hO, hb⟩;replace KT := zK KT hb;replace Kh := zK Kh hb;replace KG := zKx KG hb;replace HOF := zX HOF hb;replace HI := zH (HI.out.kept hb);clear hb;obtain ⟨U1, u1, U2, u2, U3, u3, U4, u4, rfl⟩ := hO.form;have HO := zH hO;clear hO;go_wp2_with fail;refine zQs (fun _ => ⟨KG, Kh⟩) ?_
  have c_t_0 := zC KT.out;have fc_t_0 := zF KT.out;refine zW 6 ?_;go_wp2_with fail;generalize hws17 : World.setCell _ _ _ = ws17;clear c_t_0 fc_t_0;replace HO : Hid _ := zH (HO.out.put KT.out 0 (BF U1 u1 U2 u2 U3 u3 U4 u4 nb nb.n));replace HI := zH (HI.out.put KT.out zx zx LT.out 0 (BF U1 u1 U2 u2 U3 u3 U4 u4 nb nb.n));replace HOF := zH (Off.freshC MT.out HOF.out 0 (BF U1 u1 U2 u2 U3 u3 U4 u4 nb nb.n));replace Kh := zH (zz03 (zz0a Kh.out KT.out zx) (o := 0) (vs := (BF U1 u1 U2 u2 U3 u3 U4 u4 nb nb.n)) Kh.out );replace KG := zH ((KG.out.imp fun _ h => zz03 (zz0a h KT.out zx) (o := 0) (vs := (BF U1 u1 U2 u2 U3 u3 U4 u4 nb nb.n)) h ))
  replace KT := zH (zz17 (o := 0) (vs := (BF U1 u1 U2 u2 U3 u3 U4 u4 nb nb.n)) KT.out);rw [show putC wc16 (w.heap.size) 0 (BF U1 u1 U2 u2 U3 u3 U4 u4 nb nb.n) = ws17 from hws17] at HO
  rw [show putC wc16 (w.heap.size) 0 (BF U1 u1 U2 u2 U3 u3 U4 u4 nb nb.n) = ws17 from hws17] at HI HOF KT Kh KG
  replace KT : ZB ws17 w.heap.size (BF U1 u1 U2 u2 U3 u3 U4 u4 nb nb.n) 27 := KT.out;clear hws17;refine zQs (fun _ => ⟨KG, Kh⟩) ?_
  refine zQe ?_;exact zt17
end
end Go.Proofs.YtajogedbacpohaaGreatDoor
