/- Part 14 of what the claim rests on. -/
import Derived.Test.YtajogedbacpohaaGreatDoorE00
import Derived.Test.YtajogedbacpohaaGreatDoorE04
import Derived.Test.YtajogedbacpohaaGreatDoorE05
import Derived.Test.YtajogedbacpohaaGreatDoorE12
import Derived.Deep.DeepHandedRow
import Derived.Deep.Fields
import Derived.Deep.Slices
import Derived.Deep.Strs
import Derived.LaidHandle
import Derived.LaidMore
import Derived.LaidOnce
import Derived.Lib.LaidTab
import Derived.OpenShut
import Derived.ProofKit
import Derived.ShutString
import Derived.Test.YtajogedbacpohaaGreatDoorCards
import Derived.Test.YtajogedbacpohaaGreatDoorTie
set_option linter.unusedVariables false
set_option linter.unusedSimpArgs false
set_option maxRecDepth 1000000
set_option maxHeartbeats 32000000
namespace Go.Proofs.YtajogedbacpohaaGreatDoor
section
open Go Go.RowKit Mon
structure Ev where
 kind : Int
 acc : Int
 ord : Int
 sym : Int
 side : Int
 qty : Int
 px : Int
def Ev.I64s (e : Ev) : Prop := I64 e.kind ∧ I64 e.acc ∧ I64 e.ord ∧ I64 e.sym ∧ I64 e.side ∧ I64 e.qty ∧ I64 e.px
def Ev.val (e : Ev) : Value := .agg #[e.kind, e.acc, e.ord, e.sym, e.side, e.qty, e.px]
def cutL : List Stp → List Stp
 | [] => []
 | s :: t => s :: (if s.holds then cutL t else [])
theorem zz3z (l : List Stp) (s : Stp) : cutL (l ++ [s]) = if l.all (·.holds) then cutL l ++ [s] else cutL l := by
 induction l with
 | nil => simp [cutL]
 | cons a t ih =>
  rw [List.cons_append, cutL, cutL, List.all_cons, ih];cases a.holds <;> simp
  split <;> rfl
theorem zzbs {l : List Stp} (h : l.all (·.holds) = true) : cutL l = l := by
 induction l with
 | nil => rfl
 | cons a t ih =>
  rw [List.all_cons, Bool.and_eq_true] at h;rw [cutL, if_pos h.1, ih h.2]
theorem zz88 (l m : List Stp) : cutL (l ++ m) = cutL l ++ (if l.all (·.holds) then cutL m else []) := by
 induction l with
 | nil => simp [cutL]
 | cons a t ih =>
  rw [List.cons_append, cutL, cutL, List.all_cons, ih];cases a.holds <;> simp
theorem zzbr (l : List Stp) : (cutL l).all (·.holds) = l.all (·.holds) := by
 induction l with
 | nil => rfl
 | cons a t ih =>
  rw [cutL, List.all_cons, List.all_cons];cases h : a.holds with
  | false => rfl
  | true => simpa using ih
theorem zz63 (l : List Stp) : (cutL l).length ≤ l.length := by
 induction l with
 | nil => simp [cutL]
 | cons a t ih =>
  rw [cutL]
  split <;> simp <;> omega
theorem cutL_pre (l : List Stp) : ∃ m, l = cutL l ++ m := by
 induction l with
 | nil => exact ⟨[], rfl⟩
 | cons a t ih =>
  rw [cutL]
  split
  ·obtain ⟨m, hm⟩ := ih
   exact ⟨m, by rw [List.cons_append, ← hm]⟩
  ·exact ⟨t, rfl⟩
theorem cutL_last {l : List Stp} {k : Nat} {s : Stp} (h : (cutL l)[k]? = some s) (hk : k + 1 < (cutL l).length) : s.holds = true := by
 induction l generalizing k with
 | nil => simp [cutL] at h
 | cons a t ih =>
  rw [cutL] at h hk;cases ha : a.holds with
  | false => rw [ha] at hk; simp at hk
  | true =>
   rw [ha] at h hk;simp only [if_true] at h hk;cases k with
   | zero => simp at h; rw [← h]; exact ha
   | succ k => exact ih (by simpa using h) (by simpa using hk)
def okL (l : List Stp) : Prop := (∀ s ∈ l, s.known = true ∧ s.bare = false) ∧ l.Pairwise (fun a b => a.rule ≠ b.rule)
theorem okL.pre {l m : List Stp} (h : okL (l ++ m)) : okL l := ⟨fun s hs => h.1 s (by simp [hs]), (List.pairwise_append.1 h.2).1⟩
theorem mayB_of {l : List Stp} (h : ∀ k s, l[k]? = some s → okB l k s = true) : ∀ n, mayB l n = true
 | 0 => rfl
 | n + 1 => by
  unfold mayB;rw [mayB_of h n];cases hl : l[n]? with
  | none => rfl
  | some s => simpa using h n s hl
theorem mayS_cut {l : List Stp} (h : okL l) : mayS (cutL l) = true := by
 have hc : okL (cutL l) := by
  obtain ⟨m, hm⟩ := cutL_pre l;rw [hm] at h;exact h.pre
 refine mayB_of (fun k s hs => ?_) _
 obtain ⟨h1, h2⟩ := hc.1 s (List.mem_of_getElem? hs);unfold okB;rw [h1, h2];have h3 : ((cutL l).take k).any (fun t => t.rule == s.rule) = false := by
  rw [List.any_eq_false];intro t ht;obtain ⟨j, hj, rfl⟩ := List.getElem_of_mem ht;have hp := hc.2;rw [List.pairwise_iff_getElem] at hp;obtain ⟨hk, hs'⟩ := List.getElem?_eq_some_iff.1 hs;rw [List.length_take] at hj;have := hp j k zw hk zw;rw [List.getElem_take];simp;rw [← hs'];exact this
 rw [h3];by_cases hk : k + 1 < (cutL l).length
 ·rw [cutL_last hs hk]; simp
 ·simp [hk]
def bitI (b : Bool) : Int := if b then 1 else 0
def sS (n a b : Int) : Stp := ⟨n, a, b, false⟩
def oS (n a b : Int) (f : Bool) : Stp := if f then ⟨n, a, b, false⟩ else ⟨n, 0, 0, true⟩
def hasH (b : Bk) (acc : Int) : Bool := (b.h.find? (isId acc)).isSome
def hasO (b : Bk) (ord : Int) : Bool := (b.o.find? (isId ord)).isSome
def hasR (b : Bk) (sym : Int) : Bool := (b.r.find? (isId sym)).isSome
def recH (b : Bk) (acc : Int) : List Int := (recOf 4 (b.h.find? (isId acc))).1
def recO (b : Bk) (ord : Int) : List Int := (recOf 6 (b.o.find? (isId ord))).1
def mulP (a b : Int) : Int × Bool := fitsP (a * b)
def eqR (b : Bk) (acc : Int) : Int × Bool := fitsP (cashOf b acc + sumQ (heldP b acc b.s))
def needE (b : Bk) (e : Ev) (rate : Int) : Int × Bool := needR (needX b e.acc e.qty e.px) rate
def afterE (b : Bk) (e : Ev) : (Int × Bool) × (Int × Bool) := afterR b ((recO b e.ord).getD 1 0) ((recO b e.ord).getD 2 0) ((recO b e.ord).getD 3 0) e.qty e.px
def ordS (b : Bk) (e : Ev) (rate : Int) : List Stp :=
 [sS 3 e.side 0, sS 4 e.side 1, sS 5 e.qty 1, sS 6 e.px 1, sS 10 (bitI (hasH b e.acc)) 1, sS 12 (bitI (hasO b e.ord)) 0, sS 14 (bitI (hasR b e.sym)) 1, sS 16 b.o.length 63,
  oS 18 (mulP e.qty e.px).1 ((recH b e.acc).getD 3 0) (mulP e.qty e.px).2, oS 19 (reachR b e.acc e.sym e.side e.qty).1 ((recH b e.acc).getD 2 0) (reachR b e.acc e.sym e.side e.qty).2,
  oS 20 (needE b e rate).1 (eqR b e.acc).1 ((needE b e rate).2 && (eqR b e.acc).2)]
def fillS (b : Bk) (e : Ev) : List Stp :=
 [sS 13 (bitI (hasO b e.ord)) 1, sS 5 e.qty 1, sS 6 e.px 1, sS 21 e.qty ((recO b e.ord).getD 4 0),
  oS 22 (afterE b e).1.1 (afterE b e).1.1 (afterE b e).1.2, oS 23 (afterE b e).2.1 (afterE b e).2.1 (afterE b e).2.2]
def accS (b : Bk) (e : Ev) : List Stp := [sS 7 e.qty 0, sS 11 (bitI (hasH b e.acc)) 0, sS 15 b.h.length 31]
def limS (b : Bk) (e : Ev) : List Stp := [sS 10 (bitI (hasH b e.acc)) 1, sS 8 e.qty 0, sS 9 e.px 0]
def quoS (b : Bk) (e : Ev) : List Stp := sS 6 e.px 1 :: (if hasR b e.sym then [] else [sS 17 b.r.length 31])
def canS (b : Bk) (e : Ev) : List Stp := [sS 13 (bitI (hasO b e.ord)) 1]
def kindS (b : Bk) (e : Ev) (rate : Int) : List Stp :=
 if e.kind = 1 then accS b e else if e.kind = 2 then limS b e else if e.kind = 3 then quoS b e else if e.kind = 4 then ordS b e rate
 else if e.kind = 5 then fillS b e else if e.kind = 6 then canS b e else []
def headS (e : Ev) : List Stp := [sS 1 e.kind 1, sS 2 e.kind 7]
def allS (b : Bk) (e : Ev) (rate : Int) : List Stp := headS e ++ kindS b e rate
def gateL (b : Bk) (e : Ev) (rate : Int) : List Stp := cutL (allS b e rate)
def gateV (b : Bk) (e : Ev) (rate : Int) : Int × Int := goW (gateL b e rate) 0
def maxI : Int := 9223372036854775807
def accB (b : Bk) (e : Ev) : Bk := { b with h := setH e.acc [e.acc, e.qty, maxI, maxI] false b.h }
def limB (b : Bk) (e : Ev) : Bk := { b with h := setH ((recH b e.acc).getD 0 0) [(recH b e.acc).getD 0 0, (recH b e.acc).getD 1 0, e.qty, e.px] false b.h }
def quoB (b : Bk) (e : Ev) : Bk := { b with r := setH e.sym [e.sym, e.px] false b.r }
def ordB (b : Bk) (e : Ev) : Bk := { b with o := setH e.ord [e.ord, e.acc, e.sym, e.side, e.qty, e.px] (e.qty == 0) b.o }
def canB (b : Bk) (e : Ev) : Bk := { b with o := setH e.ord [e.ord, 0, 0, 0, 0, 0] true b.o }
def fillX (b : Bk) (o h : List Int) (c s qty : Int) : Bk :=
 { b with h := setH (h.getD 0 0) [h.getD 0 0, c, h.getD 2 0, h.getD 3 0] false b.h, s := setS (o.getD 1 0) (o.getD 2 0) [o.getD 1 0, o.getD 2 0, s] (s == 0) b.s, o := setH (o.getD 0 0) [o.getD 0 0, o.getD 1 0, o.getD 2 0, o.getD 3 0, o.getD 4 0 - qty, o.getD 5 0] (o.getD 4 0 - qty == 0) b.o }
def fillB (b : Bk) (e : Ev) : Bk := fillX b (recO b e.ord) (recH b ((recO b e.ord).getD 1 0)) (afterE b e).1.1 (afterE b e).2.1 e.qty
def newB (b : Bk) (e : Ev) : Bk :=
 if e.kind = 1 then accB b e else if e.kind = 2 then limB b e else if e.kind = 3 then quoB b e else if e.kind = 4 then ordB b e
 else if e.kind = 5 then fillB b e else if e.kind = 6 then canB b e else b
def doneB (b : Bk) (e : Ev) (rate : Int) : Bk := if (allS b e rate).all (·.holds) then newB b e else b
def gateB (b : Bk) (e : Ev) (rate : Int) : Bk := { doneB b e rate with n := b.n + 1 }
theorem sS_ok (n a b : Int) (h : 0 < n ∧ n < 24) : (sS n a b).known = true ∧ (sS n a b).bare = false := ⟨decide_eq_true h, rfl⟩
theorem oS_ok (n a b : Int) (f : Bool) (h : 0 < n ∧ n < 24) : (oS n a b f).known = true ∧ (oS n a b f).bare = false := by
 cases f
 ·exact ⟨decide_eq_true h, rfl⟩
 ·exact ⟨decide_eq_true h, rfl⟩
theorem oS_rule (n a b : Int) (f : Bool) : (oS n a b f).rule = n := by cases f <;> rfl
theorem okL_of {l : List Stp} (h : ∀ s ∈ l, s.known = true ∧ s.bare = false) (hp : (l.map (·.rule)).Pairwise (· ≠ ·)) : okL l := ⟨h, List.pairwise_map.1 hp⟩
theorem allS_ok (b : Bk) (e : Ev) (rate : Int) : okL (allS b e rate) := by
 unfold allS headS kindS;refine okL_of ?_ ?_
 ·intro s hs
  rcases List.mem_append.1 hs with hs | hs
  ·simp only [List.mem_cons, List.not_mem_nil, or_false] at hs
   rcases hs with rfl | rfl <;> exact sS_ok _ _ _ zw
  ·split at hs
   ·simp only [accS, List.mem_cons, List.not_mem_nil, or_false] at hs
    rcases hs with rfl | rfl | rfl <;> exact sS_ok _ _ _ zw
   split at hs
   ·simp only [limS, List.mem_cons, List.not_mem_nil, or_false] at hs
    rcases hs with rfl | rfl | rfl <;> exact sS_ok _ _ _ zw
   split at hs
   ·unfold quoS at hs
    rcases List.mem_cons.1 hs with rfl | hs
    ·exact sS_ok _ _ _ zw
    ·split at hs
     ·simp at hs
     ·obtain rfl := List.mem_singleton.1 hs
      exact sS_ok _ _ _ zw
   split at hs
   ·simp only [ordS, List.mem_cons, List.not_mem_nil, or_false] at hs
    rcases hs with rfl | rfl | rfl | rfl | rfl | rfl | rfl | rfl | rfl | rfl | rfl <;> first | exact sS_ok _ _ _ zw | exact oS_ok _ _ _ _ zw
   split at hs
   ·simp only [fillS, List.mem_cons, List.not_mem_nil, or_false] at hs
    rcases hs with rfl | rfl | rfl | rfl | rfl | rfl <;> first | exact sS_ok _ _ _ zw | exact oS_ok _ _ _ _ zw
   split at hs
   ·simp only [canS, List.mem_cons, List.not_mem_nil, or_false] at hs
    subst hs;exact sS_ok _ _ _ zw
   ·simp at hs
 ·split
  ·simp [accS, sS]
  split
  ·simp [limS, sS]
  split
  ·unfold quoS; split <;> simp [sS]
  split
  ·simp [ordS, sS, oS_rule]
  split
  ·simp [fillS, sS, oS_rule]
  split
  ·simp [canS, sS]
  ·simp [sS]
theorem zz5y (b : Bk) (e : Ev) (rate : Int) : mayS (gateL b e rate) = true := mayS_cut (allS_ok b e rate)
theorem zz2w (b : Bk) (e : Ev) (rate : Int) : (gateL b e rate).length ≤ 13 := by
 refine Nat.le_trans (zz63 _) ?_;unfold allS headS kindS accS limS quoS ordS fillS canS
 repeat' split
 all_goals simp
theorem zz9z (b : Bk) (e : Ev) (rate : Int) : ∀ s, s ∈ gateL b e rate → s.known = true := zzb4 (zz5y b e rate)
theorem zzbg (b : Bk) (e : Ev) (rate : Int) : ((gateV b e rate).1 == 0) = (allS b e rate).all (·.holds) := by
 unfold gateV;rw [goW_all _ _ (zz9z b e rate)];exact zzbr _
end
section
open Go.ChangeShapes Go.WideShapes Go.ChangeAt Go.RowKit
section
variable {H : Type} {enc : TypeId × Value → H} {P : Program}
theorem zz7i (hl : laidOutB P = true) {W W' : World} (hb : Below W.heap.size W W') :
  ∀ (ts : List TypeId) (vs : List Value) (ds : List (DataW H)) (ps : List MemPlace), (ts.all fun t => P.readableRec t && decide (t < P.types.size)) = true →
   (∀ x ∈ ps, x.block < W.heap.size) → DataW.TrodAll enc P W 0 (fun _ => true) true ts vs ds ps → DataW.TrodAll enc P W' 0 (fun b => decide (b < W.heap.size)) true ts vs ds ps := by
 intro ts;induction ts with
 | nil =>
  intro vs ds ps _ _ h;obtain ⟨rfl, rfl, rfl⟩ := trodAll_nil h;exact trodAll_mk0
 | cons t ts ih =>
  intro vs ds ps hr hlt h;obtain ⟨v, vs', d, ds', p, q, rfl, rfl, rfl, h1, h2⟩ := trodAll_cons h;simp only [List.all_cons, Bool.and_eq_true, decide_eq_true_eq] at hr;refine trodAll_cons_mk (Below.trod hl hr.1.1 hr.1.2 h1 hb (fun x hx => hlt x (by simp [hx]))) (ih _ _ _ ?_ (fun x hx => hlt x (by simp [hx])) h2)
  simpa using hr.2
theorem law_post {f : Func} {s : ChangeSpec} {W W' : World} {args : Array Value} {ds gs : List (DataW H)} {before : List MemPlace} {b : TypeId}
  (hl : laidOutB P = true) (hr : (f.params.toList.all fun t => P.readableRec t && decide (t < P.types.size)) = true) (hb1 : f.resultTypes = #[b]) (hb2 : P.underlying b = some .bool)
  (hv : s.vars = []) (hs : s.fn H (ds ++ gs) = { results := [.lit (.bool true)], args := ds, vars := [] })
  (hW : DataW.Whole enc P f.params.toList s.vars false W args.toList ds gs before) (hb : Below W.heap.size W W') :
  s.post enc P f false true false false W args (.bool true) W' := by
 have hlt : ∀ x ∈ before, x.block < W.heap.size := fun x hx => hW.lt x hx
 have hW' := hW;obtain ⟨p, q, hA, hV, hpq, _, _⟩ := hW';rw [hv] at hV;obtain ⟨hg, hq⟩ := trodVars_none hV;refine ⟨ds, gs, before, [], p, [], hW, ?_, ?_, ?_, ?_, fun h => by cases h⟩
 ·rw [hs, hb1]
  exact trodAll_cons_mk (shut_bool hb2 true) trodAll_mk0
 ·rw [hs]
  exact zz7i hl hb _ _ _ _ hr (fun x hx => hlt x (by rw [hpq]; simp [hx])) hA
 ·rw [hs, hv]
  rfl
 ·exact hb.frame _
end
end
section
open Go.ChangeShapes Go.WideShapes Go.Deep
section
variable {H : Type} {enc : TypeId × Value → H} {P : Program} {w : World}
theorem spot_none {a : Addr} {v : Value} (h : w.cell? a = some v) : a.spot = none := by
 unfold World.cell? at h
 split at h
 ·split at h
  ·simp at h
  ·rename_i h1; simpa using h1
 ·simp at h
theorem addr_none {a : Addr} (h : a.spot = none) : a = ⟨a.block, a.off, none⟩ := by
 cases a; simp at h; subst h; rfl
theorem add_at (b o i : Nat) : (⟨b, o, none⟩ : Addr).add i = ⟨b, o + i, none⟩ := Addr.add_lit b o i
end
end
section
open Go.ChangeShapes Go.WideShapes Go.Deep Go.ChangeAt Go.RowKit
def leavesOf (P : Program) : Nat → TypeId → List (Nat × TypeId)
 | 0, _ => []
 | n + 1, t =>
  match P.underlying t with
  | some (.struct fs) => fs.toList.flatMap fun f => (leavesOf P n f.type).map fun x => (f.offset + x.1, x.2)
  | some (.array k e) => (List.range k).flatMap fun i => (leavesOf P n e).map fun x => (i * P.cellsOf e + x.1, x.2)
  | _ => [(0, t)]
section
variable {H : Type} {enc : TypeId × Value → H} {P : Program} {w : World} {base : Nat} {sp : Nat → Bool} {held : Bool}
theorem at_sub {cs : List Value} {a k o : Nat} {c : Value} (h : ((cs.drop a).take k)[o]? = some c) : cs[a + o]? = some c := by
 rw [List.getElem?_take] at h
 split at h
 ·rwa [List.getElem?_drop] at h
 ·cases h
theorem zz9y {fuel : Nat} {t : TypeId} {cs : List Value} {x : DataW H × List MemPlace} (h : DataW.trod enc P w base sp held fuel t cs = some x)
  (h1 : ∀ fs, P.underlying t ≠ some (.struct fs)) (h2 : ∀ k e, P.underlying t ≠ some (.array k e)) : ∃ c, cs = [c] := by
 cases fuel with
 | zero => simp [DataW.trod] at h
 | succ n =>
  unfold DataW.trod at h
  split at h
  all_goals first
   | exact ⟨_, rfl⟩
   | (exfalso; exact h1 _ (by assumption))
   | (exfalso; exact h2 _ _ (by assumption))
   | (exfalso; simp at h; done)
theorem trod_leaf : ∀ (n fuel : Nat) (t : TypeId) (cs : List Value) (x : DataW H × List MemPlace), DataW.trod enc P w base sp held fuel t cs = some x →
  ∀ o u, (o, u) ∈ leavesOf P n t → ∃ c m y, cs[o]? = some c ∧ DataW.trod enc P w base sp held m u [c] = some y := by
 intro n;induction n with
 | zero => intro _ _ _ _ _ o u hm; simp [leavesOf] at hm
 | succ n ih =>
  intro fuel t cs x h o u hm;unfold leavesOf at hm
  split at hm
  ·rename_i fs hu
   obtain ⟨xs, m, rfl, _, _, hl, hf⟩ := DataW.trod_struct hu h;simp only [List.mem_flatMap, List.mem_map, Prod.mk.injEq] at hm;obtain ⟨f, hfm, ⟨o', u'⟩, hm', rfl, rfl⟩ := hm;obtain ⟨i, hi, rfl⟩ := List.getElem_of_mem hfm;have hi' : i < fs.size := by simpa using hi
   have hfi : fs[i]? = some fs.toList[i] := by rw [Array.getElem?_eq_getElem hi']; simp
   have h1 := hf i _ hfi;rw [List.getElem?_eq_getElem zw] at h1;obtain ⟨c, m', y, hc, hy⟩ := ih _ _ _ _ h1 o' u' hm';exact ⟨c, m', y, at_sub hc, hy⟩
  ·rename_i k e hu
   cases fuel with
   | zero => simp [DataW.trod] at h
   | succ m =>
    unfold DataW.trod at h;rw [hu] at h;simp only [List.mem_flatMap, List.mem_map, Prod.mk.injEq, List.mem_range] at hm;obtain ⟨i, hi, ⟨o', u'⟩, hm', rfl, rfl⟩ := hm;simp only at h
    split at h
    ·obtain ⟨xs, hx, _⟩ := Option.map_eq_some_iff.1 h
     obtain ⟨b, hb, hff⟩ := Go.Lib.mapM_at hx i i (by simp [hi])
     obtain ⟨c, m', y, hc, hy⟩ := ih _ _ _ _ hff o' u' hm';exact ⟨c, m', y, at_sub hc, hy⟩
    ·cases h
  ·rename_i hn1 hn2
   simp only [List.mem_singleton, Prod.mk.injEq] at hm;obtain ⟨rfl, rfl⟩ := hm;obtain ⟨c, rfl⟩ := zz9y h (fun fs e => hn1 fs e) (fun k e e' => hn2 k e e')
   exact ⟨c, fuel, x, rfl, h⟩
theorem zzb0 {n : Nat} {t : TypeId} {fs : Array Field} {r : Reach} {b0 : Nat} {v : Value} {d : DataW H} {ps : List MemPlace} (hs : P.underlying t = some (.struct fs))
  (hv : Value.okWide P w r b0 t v) (h : DataW.Trod enc P w base sp held t v d ps) :
  ∃ cs : Array Value, v = .agg cs ∧ cs.size = P.cellsOf t ∧ ∀ o u, (o, u) ∈ leavesOf P n t → ∃ c m y, cs[o]? = some c ∧ DataW.trod enc P w base sp held m u [c] = some y := by
 obtain ⟨cs, rfl, hsz⟩ := okWide_struct hs hv;obtain ⟨fuel, hf⟩ := h;refine ⟨cs, rfl, hsz, fun o u hm => ?_⟩
 obtain ⟨c, m, y, hc, hy⟩ := trod_leaf n _ _ _ _ hf o u hm;exact ⟨c, m, y, by simpa [Value.cells] using hc, hy⟩
theorem zz22 {m : Nat} {u : TypeId} {k : IntKind} {c : Value} {y : DataW H × List MemPlace} (hu : P.underlying u = some (.int k)) (h : DataW.trod enc P w base sp held m u [c] = some y) :
  ∃ n, c = .int k n ∧ (Lit.int k n).wf = true := by
 cases m with
 | zero => simp [DataW.trod] at h
 | succ m =>
  unfold DataW.trod at h;rw [hu] at h
  split at h <;> simp_all
def isI64 : Option TypeDesc → Bool
 | some (.int .i64) => true
 | _ => false
theorem zzbc {u : Option TypeDesc} (h : isI64 u = true) : u = some (.int .i64) := by
 unfold isI64 at h
 split at h
 ·rfl
 ·cases h
end
end
section
open Go Go.Lib Go.ChangeShapes Go.WideShapes Go.ChangeAt Go.RowKit
theorem zz12 {α : Type} {l : List α} {i : Nat} {x : α} (h : (l.drop i).take 1 = [x]) : l[i]? = some x := by
 have := congrArg (·[0]?) h;simpa [List.getElem?_take, List.getElem?_drop] using this
theorem zz41 {α : Type} {l : List α} {i k j : Nat} {x : α} (h : ((l.drop i).take k)[j]? = some x) : l[i + j]? = some x := by
 rw [List.getElem?_take] at h
 split at h
 ·rwa [List.getElem?_drop] at h
 ·cases h
theorem gRules : Tryz.prog.globalNamed "engross/rules.table" = some 3 := by kernel_rfl
theorem gRulesType : (Tryz.prog.globals[3]?).map (·.type) = some 250 := by kernel_rfl
theorem gRels : Tryz.prog.globalNamed "engross/rules.relations" = some 1 := by kernel_rfl
theorem gRelsType : (Tryz.prog.globals[1]?).map (·.type) = some 157 := by kernel_rfl
theorem zz9e {H : Type} {enc : TypeId × Value → H} {W : World} {base : Nat} {sp : Nat → Bool} {held : Bool} {fuel : Nat} {cs : List Value} {p : List MemPlace}
  (h : DataW.trod enc Tryz.prog W base sp held fuel 250 cs = some (.agg (Rule.rows.map fun r => .agg [.lit (.string r.1), .lit (.int .i64 (r.2.1 : Nat)), .lit (.int .i64 (r.2.2 : Nat))]), p)) :
  ∀ n, n < 24 → cs[n * 3]? = some (.string ⟨(Rule.name n).toArray⟩) ∧ cs[n * 3 + 1]? = some (.int .i64 (Rule.rel n)) ∧ cs[n * 3 + 2]? = some (.int .i64 (Rule.code n)) := by
 obtain ⟨xs, m, _, hx, hl, hlen, hf⟩ := DataW.trod_array Tryz.underlying250 h;have hxs := congrArg Prod.fst hx;simp only [DataW.agg.injEq] at hxs;intro n hn;obtain ⟨y, hy⟩ : ∃ y, xs[n]? = some y := ⟨xs[n]'zw, List.getElem?_eq_getElem zw⟩;have hf := (hf n hn).trans hy;rw [show Tryz.prog.cellsOf 214 = 3 by kernel_rfl] at hf
 obtain ⟨y0, y1, y2, k, hyy, _, h0, h1, h2⟩ := Go.Deep.trod_struct3 Tryz.underlying214 hf;have h0 : DataW.trod enc Tryz.prog W base sp held k 9 ((((cs.drop (n * 3)).take 3).drop 0).take 1) = some y0 := h0;have h1 : DataW.trod enc Tryz.prog W base sp held k 3 ((((cs.drop (n * 3)).take 3).drop 1).take 1) = some y1 := h1;have h2 : DataW.trod enc Tryz.prog W base sp held k 3 ((((cs.drop (n * 3)).take 3).drop 2).take 1) = some y2 := h2;obtain ⟨s, c0, rfl, _⟩ := DataW.trod_string Tryz.underlying9 h0;obtain ⟨a, c1, rfl, _⟩ := DataW.trod_int Tryz.underlying3 h1;obtain ⟨b, c2, rfl, _⟩ := DataW.trod_int Tryz.underlying3 h2;have e0 := zz41 (zz12 c0);have e1 := zz41 (zz12 c1);have e2 := zz41 (zz12 c2);have hd := congrArg (·[n]?) hxs;simp only [List.getElem?_map, hy, Option.map_some] at hd;rw [hyy] at hd;have hrow : Rule.rows[n]? = some (Rule.rows.getD n ([], 0, 0)) := by
  rw [List.getD_eq_getElem?_getD, List.getElem?_eq_getElem (show n < Rule.rows.length from hn)]; rfl
 rw [hrow] at hd;simp only [Option.map_some, Option.some.injEq, DataW.agg.injEq, List.cons.injEq, DataW.lit.injEq, Lit.string.injEq, Lit.int.injEq, true_and, and_true] at hd;obtain ⟨d0, d1, d2⟩ := hd;rw [show n * 3 + 0 = n * 3 from rfl] at e0
 refine ⟨by rw [e0]; congr 2; apply ByteArray.ext; apply Array.toList_inj.1; exact d0.symm, by rw [e1, ← d1]; rfl, by rw [e2, ← d2]; rfl⟩
theorem zt66 {p : Prop} (h : p := by
 refine ⟨?_, e1⟩;refine e0.trans ?_
 congr 2; apply ByteArray.ext; apply Array.toList_inj.1; exact d0.symm) : p := h
theorem zzar {W : World} {base : Nat} {sp : Nat → Bool} {fuel : Nat} {cs : List Value} {p : List MemPlace}
  (h : DataW.trod (funcToken Tryz.prog) Tryz.prog W base sp true fuel 157 cs = some ((.agg [.agg [.lit (.string [63]), .held [101, 110, 103, 114, 111, 115, 115, 47, 114, 117, 108, 101, 115, 46, 114, 101, 108, 97, 116, 105, 111, 110, 115, 36, 49]], .agg [.lit (.string [60, 61]), .held [101, 110, 103, 114, 111, 115, 115, 47, 114, 117, 108, 101, 115, 46, 114, 101, 108, 97, 116, 105, 111, 110, 115, 36, 50]], .agg [.lit (.string [62, 61]), .held [101, 110, 103, 114, 111, 115, 115, 47, 114, 117, 108, 101, 115, 46, 114, 101, 108, 97, 116, 105, 111, 110, 115, 36, 51]], .agg [.lit (.string [61]), .held [101, 110, 103, 114, 111, 115, 115, 47, 114, 117, 108, 101, 115, 46, 114, 101, 108, 97, 116, 105, 111, 110, 115, 36, 52]]]), p)) :
  (cs[0]? = some (.string ⟨#[63]⟩) ∧ cs[1]? = some (.func (.func 236) #[] #[])) ∧ (cs[2]? = some (.string ⟨#[60, 61]⟩) ∧ cs[3]? = some (.func (.func 237) #[] #[])) ∧
  (cs[4]? = some (.string ⟨#[62, 61]⟩) ∧ cs[5]? = some (.func (.func 238) #[] #[])) ∧ (cs[6]? = some (.string ⟨#[61]⟩) ∧ cs[7]? = some (.func (.func 239) #[] #[])) := by
 obtain ⟨xs, m, _, hx, hl, hlen, hf⟩ := DataW.trod_array Tryz.underlying157 h;have hxs := congrArg Prod.fst hx;simp only [DataW.agg.injEq] at hxs;have r0 : cs[0 * 2]? = some (.string ⟨([63] : List UInt8).toArray⟩) ∧ cs[0 * 2 + 1]? = some (.func (.func 236) #[] #[]) := by
  obtain ⟨y, hy⟩ : ∃ y, xs[0]? = some y := ⟨xs[0]'zw, List.getElem?_eq_getElem zw⟩;have hf := (hf 0 zw).trans hy;rw [show Tryz.prog.cellsOf 156 = 2 by kernel_rfl] at hf
  obtain ⟨y0, y1, k, hyy, hln, h0, h1⟩ := trod_struct2 Tryz.underlying156 hf;have h0 : DataW.trod (funcToken Tryz.prog) Tryz.prog W base sp true k 9 ((((cs.drop (0 * 2)).take 2).drop 0).take 1) = some y0 := h0;have h1 : DataW.trod (funcToken Tryz.prog) Tryz.prog W base sp true k 114 ((((cs.drop (0 * 2)).take 2).drop 1).take 1) = some y1 := h1;obtain ⟨s, c0, rfl, _⟩ := DataW.trod_string Tryz.underlying9 h0;have e0 := zz41 (zz12 c0);have hln2 : ((cs.drop (0 * 2)).take 2).length = 2 := hln.trans zk;obtain ⟨v, hv⟩ : ∃ v, (((cs.drop (0 * 2)).take 2).drop 1).take 1 = [v] := by
   match hq : (cs.drop (0 * 2)).take 2, hln2 with
   | [a, b], _ => exact ⟨b, rfl⟩
  rw [hv] at h1;have e1 := zz41 (zz12 hv);have hd := congrArg (·[0]?) hxs;simp only [List.getElem?_map, hy, Option.map_some, List.getElem?_cons_zero, List.getElem?_cons_succ] at hd;rw [hyy] at hd;simp only [Option.some.injEq, DataW.agg.injEq, List.cons.injEq, DataW.lit.injEq, Lit.string.injEq, and_true] at hd;obtain ⟨d0, d1⟩ := hd;obtain ⟨z1, z2⟩ := y1;simp only [] at d1;subst d1;obtain rfl := func_of_trod (f0 := 236) Tryz.underlying114 zk h1;exact zt66
 have r1 : cs[1 * 2]? = some (.string ⟨([60, 61] : List UInt8).toArray⟩) ∧ cs[1 * 2 + 1]? = some (.func (.func 237) #[] #[]) := by
  obtain ⟨y, hy⟩ : ∃ y, xs[1]? = some y := ⟨xs[1]'zw, List.getElem?_eq_getElem zw⟩;have hf := (hf 1 zw).trans hy;rw [show Tryz.prog.cellsOf 156 = 2 by kernel_rfl] at hf
  obtain ⟨y0, y1, k, hyy, hln, h0, h1⟩ := trod_struct2 Tryz.underlying156 hf;have h0 : DataW.trod (funcToken Tryz.prog) Tryz.prog W base sp true k 9 ((((cs.drop (1 * 2)).take 2).drop 0).take 1) = some y0 := h0;have h1 : DataW.trod (funcToken Tryz.prog) Tryz.prog W base sp true k 114 ((((cs.drop (1 * 2)).take 2).drop 1).take 1) = some y1 := h1;obtain ⟨s, c0, rfl, _⟩ := DataW.trod_string Tryz.underlying9 h0;have e0 := zz41 (zz12 c0);have hln2 : ((cs.drop (1 * 2)).take 2).length = 2 := hln.trans zk;obtain ⟨v, hv⟩ : ∃ v, (((cs.drop (1 * 2)).take 2).drop 1).take 1 = [v] := by
   match hq : (cs.drop (1 * 2)).take 2, hln2 with
   | [a, b], _ => exact ⟨b, rfl⟩
  rw [hv] at h1;have e1 := zz41 (zz12 hv);have hd := congrArg (·[1]?) hxs;simp only [List.getElem?_map, hy, Option.map_some, List.getElem?_cons_zero, List.getElem?_cons_succ] at hd;rw [hyy] at hd;simp only [Option.some.injEq, DataW.agg.injEq, List.cons.injEq, DataW.lit.injEq, Lit.string.injEq, and_true] at hd;obtain ⟨d0, d1⟩ := hd;obtain ⟨z1, z2⟩ := y1;simp only [] at d1;subst d1;obtain rfl := func_of_trod (f0 := 237) Tryz.underlying114 zk h1;exact zt66
 have r2 : cs[2 * 2]? = some (.string ⟨([62, 61] : List UInt8).toArray⟩) ∧ cs[2 * 2 + 1]? = some (.func (.func 238) #[] #[]) := by
  obtain ⟨y, hy⟩ : ∃ y, xs[2]? = some y := ⟨xs[2]'zw, List.getElem?_eq_getElem zw⟩;have hf := (hf 2 zw).trans hy;rw [show Tryz.prog.cellsOf 156 = 2 by kernel_rfl] at hf
  obtain ⟨y0, y1, k, hyy, hln, h0, h1⟩ := trod_struct2 Tryz.underlying156 hf;have h0 : DataW.trod (funcToken Tryz.prog) Tryz.prog W base sp true k 9 ((((cs.drop (2 * 2)).take 2).drop 0).take 1) = some y0 := h0;have h1 : DataW.trod (funcToken Tryz.prog) Tryz.prog W base sp true k 114 ((((cs.drop (2 * 2)).take 2).drop 1).take 1) = some y1 := h1;obtain ⟨s, c0, rfl, _⟩ := DataW.trod_string Tryz.underlying9 h0;have e0 := zz41 (zz12 c0);have hln2 : ((cs.drop (2 * 2)).take 2).length = 2 := hln.trans zk;obtain ⟨v, hv⟩ : ∃ v, (((cs.drop (2 * 2)).take 2).drop 1).take 1 = [v] := by
   match hq : (cs.drop (2 * 2)).take 2, hln2 with
   | [a, b], _ => exact ⟨b, rfl⟩
  rw [hv] at h1;have e1 := zz41 (zz12 hv);have hd := congrArg (·[2]?) hxs;simp only [List.getElem?_map, hy, Option.map_some, List.getElem?_cons_zero, List.getElem?_cons_succ] at hd;rw [hyy] at hd;simp only [Option.some.injEq, DataW.agg.injEq, List.cons.injEq, DataW.lit.injEq, Lit.string.injEq, and_true] at hd;obtain ⟨d0, d1⟩ := hd;obtain ⟨z1, z2⟩ := y1;simp only [] at d1;subst d1;obtain rfl := func_of_trod (f0 := 238) Tryz.underlying114 zk h1;exact zt66
 have r3 : cs[3 * 2]? = some (.string ⟨([61] : List UInt8).toArray⟩) ∧ cs[3 * 2 + 1]? = some (.func (.func 239) #[] #[]) := by
  obtain ⟨y, hy⟩ : ∃ y, xs[3]? = some y := ⟨xs[3]'zw, List.getElem?_eq_getElem zw⟩;have hf := (hf 3 zw).trans hy;rw [show Tryz.prog.cellsOf 156 = 2 by kernel_rfl] at hf
  obtain ⟨y0, y1, k, hyy, hln, h0, h1⟩ := trod_struct2 Tryz.underlying156 hf;have h0 : DataW.trod (funcToken Tryz.prog) Tryz.prog W base sp true k 9 ((((cs.drop (3 * 2)).take 2).drop 0).take 1) = some y0 := h0;have h1 : DataW.trod (funcToken Tryz.prog) Tryz.prog W base sp true k 114 ((((cs.drop (3 * 2)).take 2).drop 1).take 1) = some y1 := h1;obtain ⟨s, c0, rfl, _⟩ := DataW.trod_string Tryz.underlying9 h0;have e0 := zz41 (zz12 c0);have hln2 : ((cs.drop (3 * 2)).take 2).length = 2 := hln.trans zk;obtain ⟨v, hv⟩ : ∃ v, (((cs.drop (3 * 2)).take 2).drop 1).take 1 = [v] := by
   match hq : (cs.drop (3 * 2)).take 2, hln2 with
   | [a, b], _ => exact ⟨b, rfl⟩
  rw [hv] at h1;have e1 := zz41 (zz12 hv);have hd := congrArg (·[3]?) hxs;simp only [List.getElem?_map, hy, Option.map_some, List.getElem?_cons_zero, List.getElem?_cons_succ] at hd;rw [hyy] at hd;simp only [Option.some.injEq, DataW.agg.injEq, List.cons.injEq, DataW.lit.injEq, Lit.string.injEq, and_true] at hd;obtain ⟨d0, d1⟩ := hd;obtain ⟨z1, z2⟩ := y1;simp only [] at d1;subst d1;obtain rfl := func_of_trod (f0 := 239) Tryz.underlying114 zk h1;exact zt66
 exact ⟨r0, r1, r2, r3⟩
theorem open_ev {H : Type} {enc : TypeId × Value → H} {w : World} {base : Nat} {sp : Nat → Bool} {held : Bool} {r : Reach} {b0 : Nat} {v : Value} {d : DataW H} {ps : List MemPlace}
  (hv : Value.okWide Tryz.prog w r b0 29 v) (h : DataW.Trod enc Tryz.prog w base sp held 29 v d ps) : ∃ e : Ev, v = e.val ∧ e.I64s := by
 obtain ⟨cs, rfl, hsz, hl⟩ := zzb0 (n := 2) Tryz.underlying29 hv h;have hlv : leavesOf Tryz.prog 2 29 = [(0, 3), (1, 2), (2, 2), (3, 2), (4, 3), (5, 2), (6, 2)] := by kernel_rfl
 rw [hlv] at hl;rw [show Tryz.prog.cellsOf 29 = 7 by kernel_rfl] at hsz
 obtain ⟨c0, m0, y0, e0, t0⟩ := hl 0 3 (by simp)
 obtain ⟨x0, rfl, w0⟩ := zz22 Tryz.underlying3 t0;obtain ⟨c1, m1, y1, e1, t1⟩ := hl 1 2 (by simp)
 obtain ⟨x1, rfl, w1⟩ := zz22 Tryz.underlying2 t1;obtain ⟨c2, m2, y2, e2, t2⟩ := hl 2 2 (by simp)
 obtain ⟨x2, rfl, w2⟩ := zz22 Tryz.underlying2 t2;obtain ⟨c3, m3, y3, e3, t3⟩ := hl 3 2 (by simp)
 obtain ⟨x3, rfl, w3⟩ := zz22 Tryz.underlying2 t3;obtain ⟨c4, m4, y4, e4, t4⟩ := hl 4 3 (by simp)
 obtain ⟨x4, rfl, w4⟩ := zz22 Tryz.underlying3 t4;obtain ⟨c5, m5, y5, e5, t5⟩ := hl 5 2 (by simp)
 obtain ⟨x5, rfl, w5⟩ := zz22 Tryz.underlying2 t5;obtain ⟨c6, m6, y6, e6, t6⟩ := hl 6 2 (by simp)
 obtain ⟨x6, rfl, w6⟩ := zz22 Tryz.underlying2 t6;refine ⟨⟨x0, x1, x2, x3, x4, x5, x6⟩, ?_, (zz4z w0).out, (zz4z w1).out, (zz4z w2).out, (zz4z w3).out, (zz4z w4).out, (zz4z w5).out, (zz4z w6).out⟩;show Value.agg cs = .agg #[_, _, _, _, _, _, _]
 congr 1
 apply Array.ext_getElem?;intro i
 match i with
 | 0 => rw [e0]; rfl
 | 1 => rw [e1]; rfl
 | 2 => rw [e2]; rfl
 | 3 => rw [e3]; rfl
 | 4 => rw [e4]; rfl
 | 5 => rw [e5]; rfl
 | 6 => rw [e6]; rfl
 | i + 7 => rw [Array.getElem?_eq_none zw]; rfl
def tabCells (cs : Array Value) : Obj → Obj
 | .cells _ t frozen => .cells cs t frozen
 | o => o
def ruleCells : List Value := Rule.rows.flatMap fun r => [.string ⟨r.1.toArray⟩, .int .i64 (r.2.1 : Nat), .int .i64 (r.2.2 : Nat)]
def relsCells : List Value := [.string ⟨#[63]⟩, .func (.func 236) #[] #[], .string ⟨#[60, 61]⟩, .func (.func 237) #[] #[], .string ⟨#[62, 61]⟩, .func (.func 238) #[] #[], .string ⟨#[61]⟩, .func (.func 239) #[] #[]]
noncomputable def gateWorld (os : Os) : World :=
 { World.holding Tryz.prog os ⟨#[], #[], []⟩ with heap := ((World.holding Tryz.prog os ⟨#[], #[], []⟩).heap.modify 3 (tabCells ruleCells.toArray)).modify 1 (tabCells relsCells.toArray) }
end
section
open Go Go.Lib
def strData {H : Type} (zs : List ByteArray) : DataW H := .agg (zs.map fun z => .lit (.string z.data.toList))
theorem zz75 {H : Type} {enc : TypeId × Value → H} {P : Program} {w : World} {base : Nat} {sp : Nat → Bool} {held : Bool} {fuel : Nat} {t e : TypeId} {n : Nat} {cs : List Value} {zs : List ByteArray} {p : List MemPlace}
  (ht : P.underlying t = some (.array n e)) (he : P.underlying e = some .string) (hce : P.cellsOf e = 1) (hct : P.cellsOf t = n)
  (h : DataW.trod enc P w base sp held fuel t cs = some (strData zs, p)) : cs = zs.map fun z => Value.string z := by
 cases fuel with
 | zero => simp [DataW.trod] at h
 | succ fuel =>
  simp only [DataW.trod, ht, hce, hct, Nat.mul_one] at h
  split at h
  ·rename_i hl
   obtain ⟨xs, hm, hx⟩ := Option.map_eq_some_iff.1 h;have hxs : xs.map (·.1) = zs.map fun z => (DataW.lit (.string z.data.toList) : DataW H) := by
    have := congrArg Prod.fst hx;simpa [strData] using this
   have hxl : xs.length = n := by simpa using mapM_length hm
   have hzl : zs.length = n := by
    have := congrArg List.length hxs;simp at this;omega
   apply List.ext_getElem?;intro i;by_cases hi : i < n
   ·obtain ⟨b, hb, hf⟩ := mapM_at hm i i (by simp [hi])
    obtain ⟨z, hc, rfl, _⟩ := DataW.trod_string he hf;have h1 : cs[i]? = some (.string z) := by
     have := congrArg (·[0]?) hc;simpa [List.getElem?_take, List.getElem?_drop] using this
    have h2 : (xs.map (·.1))[i]? = some (DataW.lit (.string z.data.toList) : DataW H) := by simp [hb]
    rw [hxs] at h2;simp only [List.getElem?_map, Option.map_eq_some_iff, DataW.lit.injEq, Lit.string.injEq] at h2;obtain ⟨z', hz', h3⟩ := h2;have h4 : z' = z := by apply ByteArray.ext; apply Array.toList_inj.1; exact h3
    subst h4;simp [h1, hz']
   ·rw [List.getElem?_eq_none zw, List.getElem?_eq_none (by simp; omega)]
  ·cases h
theorem zzb9 {P : Program} {W : World} {name : String} {zs : List ByteArray} {rest : List (String × DataW Unit)} {ps : List MemPlace} {g : Nat} {t e : TypeId} {n : Nat}
  (hg : P.globalNamed name = some g) (hty : (P.globals[g]?).map (·.type) = some t) (ht : P.underlying t = some (.array n e)) (he : P.underlying e = some .string) (hce : P.cellsOf e = 1) (hct : P.cellsOf t = n)
  (h : DataW.LaidVars P W ((name, strData zs) :: rest) ps) : (∀ i v, zs[i]? = some v → W.cell? ⟨g, i, none⟩ = some (.string v)) ∧ ∃ qs, DataW.LaidVars P W rest qs := by
 obtain ⟨g', t', cs, fuel, p, q, hg', ht', hvar, hd, hrest, _⟩ := h;obtain rfl := Option.some.inj (hg.symm.trans hg');obtain rfl := Option.some.inj (hty.symm.trans ht');have hc := zz75 ht he hce hct hd;refine ⟨fun i v hv => ?_, q, ?_⟩
 ·have := World.var?_cell hg hvar i
  rw [this, ← Array.getElem?_toList, hc];simp [hv]
 ·exact hrest
end
section
open Go Go.RowKit
def namesL : List ByteArray := [⟨#[]⟩, ⟨#[97, 99, 99, 111, 117, 110, 116]⟩, ⟨#[108, 105, 109, 105, 116]⟩, ⟨#[113, 117, 111, 116, 101]⟩, ⟨#[111, 114, 100, 101, 114]⟩, ⟨#[102, 105, 108, 108]⟩, ⟨#[99, 97, 110, 99, 101, 108]⟩, ⟨#[115, 110, 97, 112]⟩]
def reasonsL : List ByteArray := [⟨#[97, 99, 99, 101, 112, 116]⟩, ⟨#[107, 105, 110, 100]⟩, ⟨#[118, 97, 108, 117, 101]⟩, ⟨#[110, 111, 32, 97, 99, 99, 111, 117, 110, 116]⟩, ⟨#[97, 99, 99, 111, 117, 110, 116, 32, 116, 104, 101, 114, 101]⟩, ⟨#[111, 114, 100, 101, 114, 32, 116, 104, 101, 114, 101]⟩, ⟨#[110, 111, 32, 111, 114, 100, 101, 114]⟩, ⟨#[110, 111, 32, 112, 114, 105, 99, 101]⟩, ⟨#[102, 117, 108, 108]⟩, ⟨#[111, 114, 100, 101, 114, 32, 116, 111, 111, 32, 103, 114, 101, 97, 116]⟩, ⟨#[112, 111, 115, 105, 116, 105, 111, 110, 32, 116, 111, 111, 32, 103, 114, 101, 97, 116]⟩, ⟨#[109, 97, 114, 103, 105, 110]⟩, ⟨#[111, 118, 101, 114, 102, 108, 111, 119]⟩, ⟨#[117, 110, 97, 118, 97, 105, 108, 97, 98, 108, 101]⟩]
def nameOf (n : Int) : ByteArray := if n < 1 ∨ 8 ≤ n then ⟨#[63]⟩ else (namesL[n.toNat]?).getD ⟨#[63]⟩
def reasonOf (n : Int) : ByteArray := if n < 0 ∨ 14 ≤ n then ⟨#[63]⟩ else (reasonsL[n.toNat]?).getD ⟨#[63]⟩
structure Tabs (w : World) : Prop where
 names : ∀ i v, namesL[i]? = some v → w.cell? ⟨0, i, none⟩ = some (.string v)
 reasons : ∀ i v, reasonsL[i]? = some v → w.cell? ⟨2, i, none⟩ = some (.string v)
theorem Tabs.call {w w' : World} (h : Tabs w) (hb : Below w.heap.size w w') : Tabs w' :=
 ⟨fun i v hv => (hb.cell (p := ⟨0, i, none⟩) (World.block_lt_of_cell? w _ (h.names i v hv))).trans (h.names i v hv), fun i v hv => (hb.cell (p := ⟨2, i, none⟩) (World.block_lt_of_cell? w _ (h.reasons i v hv))).trans (h.reasons i v hv)⟩
theorem nameOf_at (m : Nat) (h1 : 1 ≤ m) (h8 : m < 8) : namesL[m]? = some (nameOf m) := by
 have : m = 1 ∨ m = 2 ∨ m = 3 ∨ m = 4 ∨ m = 5 ∨ m = 6 ∨ m = 7 := by omega
 rcases this with rfl | rfl | rfl | rfl | rfl | rfl | rfl <;> decide +kernel
theorem zz59 (m : Nat) (_ : 0 ≤ m) (h : m < 14) : reasonsL[m]? = some (reasonOf m) := by
 have : ¬ ((m : Int) < 0 ∨ 14 ≤ (m : Int)) := by omega
 unfold reasonOf;rw [if_neg this, Int.toNat_natCast];have h2 : m < reasonsL.length := h;rw [List.getElem?_eq_getElem h2]
 rfl
theorem zzbm (n : Int) (w : World) (hT : Hid (Tabs w)) : Calls Tryz.prog 52 #[.int .i64 n] w fun e w' => e = .returned (.string (nameOf n)) ∧ Below w.heap.size w w' := by
 by_cases h1 : n < 1
 ·have e0 : nameOf n = ⟨#[63]⟩ := if_pos (.inl h1)
  rw [e0];clear e0;go_in;go_wp2_with fail;go_ret;exact ⟨rfl, Below.refl _ _⟩
 by_cases h2 : 8 ≤ n
 ·have e0 : nameOf n = ⟨#[63]⟩ := if_pos (.inr h2)
  rw [e0];clear e0;go_in;go_wp2_with fail;go_ret;exact ⟨rfl, Below.refl _ _⟩
 obtain ⟨m, rfl⟩ : ∃ m : Nat, n = m := ⟨n.toNat, by omega⟩
 have hc := hT.out.names m _ (nameOf_at m zw zw);generalize nameOf m = s at *;have hm : m < 8 := by omega
 go_in;go_wp2_with fail;go_ret;exact ⟨rfl, Below.refl _ _⟩
theorem zz86 (n : Int) (w : World) (hT : Hid (Tabs w)) : Calls Tryz.prog 54 #[.int .i64 n] w fun e w' => e = .returned (.string (reasonOf n)) ∧ Below w.heap.size w w' := by
 by_cases h1 : n < 0
 ·have e0 : reasonOf n = ⟨#[63]⟩ := if_pos (.inl h1)
  rw [e0];clear e0;go_in;go_wp2_with fail;go_ret;exact ⟨rfl, Below.refl _ _⟩
 by_cases h2 : 14 ≤ n
 ·have e0 : reasonOf n = ⟨#[63]⟩ := if_pos (.inr h2)
  rw [e0];clear e0;go_in;go_wp2_with fail;go_ret;exact ⟨rfl, Below.refl _ _⟩
 obtain ⟨m, rfl⟩ : ∃ m : Nat, n = m := ⟨n.toNat, by omega⟩
 have hc := hT.out.reasons m _ (zz59 m zw zw);generalize reasonOf m = s at *;have hm : m < 14 := by omega
 go_in;go_wp2_with fail;go_ret;exact ⟨rfl, Below.refl _ _⟩
theorem zz9f (n : Int) (w : World) : Calls Tryz.prog 57 #[.int .i64 n] w fun e w' => e = .returned (.string (nameOf n)) ∧ Below w.heap.size w w' := by
 by_cases h1 : n < 1 ∨ 8 ≤ n
 ·have e0 : nameOf n = ⟨#[63]⟩ := if_pos h1
  rw [e0];clear e0;have f1 : (n == 1) = false := by simp; omega
  have f2 : (n == 2) = false := by simp; omega
  have f3 : (n == 3) = false := by simp; omega
  have f4 : (n == 4) = false := by simp; omega
  have f5 : (n == 5) = false := by simp; omega
  have f6 : (n == 6) = false := by simp; omega
  have f7 : (n == 7) = false := by simp; omega
  have g1 : decide (n = 1) = false := decide_eq_false zw;have g2 : decide (n = 2) = false := decide_eq_false zw;have g3 : decide (n = 3) = false := decide_eq_false zw;have g4 : decide (n = 4) = false := decide_eq_false zw;have g5 : decide (n = 5) = false := decide_eq_false zw;have g6 : decide (n = 6) = false := decide_eq_false zw;have g7 : decide (n = 7) = false := decide_eq_false zw;clear h1;go_in;go_wp2_with fail;go_ret;exact ⟨rfl, Below.refl _ _⟩
 have : n = 1 ∨ n = 2 ∨ n = 3 ∨ n = 4 ∨ n = 5 ∨ n = 6 ∨ n = 7 := by omega
 clear h1;rcases this with rfl | rfl | rfl | rfl | rfl | rfl | rfl
 all_goals
  go_in;go_wp2_with fail;go_ret;exact ⟨by kernel_rfl, Below.refl _ _⟩
theorem zz6r (n : Int) (w : World) : Calls Tryz.prog 59 #[.int .i64 n] w fun e w' => e = .returned (.string (reasonOf n)) ∧ Below w.heap.size w w' := by
 have hb : ∀ ob, Below w.heap.size w (w.alloc ob) := fun ob => zBa
 by_cases h1 : n < 0
 ·have e0 : reasonOf n = ⟨#[63]⟩ := if_pos (.inl h1)
  rw [e0];clear e0;go_in;go_wp2_with fail;go_ret;exact ⟨rfl, hb _⟩
 by_cases h2 : 13 < n
 ·have e0 : reasonOf n = ⟨#[63]⟩ := if_pos (.inr zw)
  rw [e0];clear e0;go_in;go_wp2_with fail;go_ret;exact ⟨rfl, hb _⟩
 obtain ⟨m, rfl⟩ : ∃ m : Nat, n = m := ⟨n.toNat, by omega⟩
 have hm : m < 14 := by omega
 have hc : (#[.string ⟨#[97, 99, 99, 101, 112, 116]⟩, .string ⟨#[107, 105, 110, 100]⟩, .string ⟨#[118, 97, 108, 117, 101]⟩, .string ⟨#[110, 111, 32, 97, 99, 99, 111, 117, 110, 116]⟩, .string ⟨#[97, 99, 99, 111, 117, 110, 116, 32, 116, 104, 101, 114, 101]⟩, .string ⟨#[111, 114, 100, 101, 114, 32, 116, 104, 101, 114, 101]⟩, .string ⟨#[110, 111, 32, 111, 114, 100, 101, 114]⟩, .string ⟨#[110, 111, 32, 112, 114, 105, 99, 101]⟩, .string ⟨#[102, 117, 108, 108]⟩, .string ⟨#[111, 114, 100, 101, 114, 32, 116, 111, 111, 32, 103, 114, 101, 97, 116]⟩, .string ⟨#[112, 111, 115, 105, 116, 105, 111, 110, 32, 116, 111, 111, 32, 103, 114, 101, 97, 116]⟩, .string ⟨#[109, 97, 114, 103, 105, 110]⟩, .string ⟨#[111, 118, 101, 114, 102, 108, 111, 119]⟩, .string ⟨#[117, 110, 97, 118, 97, 105, 108, 97, 98, 108, 101]⟩] : Array Value)[m]? = some (.string (reasonOf m)) := by
  have h := zz59 m (Nat.zero_le _) hm;have h2 : (reasonsL.map Value.string).toArray[m]? = some (.string (reasonOf m)) := by rw [List.getElem?_toArray, List.getElem?_map, h]; rfl
  exact h2
 generalize reasonOf m = s at *;have k := (zM1 (w := w) (cs := #[.string ⟨#[97, 99, 99, 101, 112, 116]⟩, .string ⟨#[107, 105, 110, 100]⟩, .string ⟨#[118, 97, 108, 117, 101]⟩, .string ⟨#[110, 111, 32, 97, 99, 99, 111, 117, 110, 116]⟩, .string ⟨#[97, 99, 99, 111, 117, 110, 116, 32, 116, 104, 101, 114, 101]⟩, .string ⟨#[111, 114, 100, 101, 114, 32, 116, 104, 101, 114, 101]⟩, .string ⟨#[110, 111, 32, 111, 114, 100, 101, 114]⟩, .string ⟨#[110, 111, 32, 112, 114, 105, 99, 101]⟩, .string ⟨#[102, 117, 108, 108]⟩, .string ⟨#[111, 114, 100, 101, 114, 32, 116, 111, 111, 32, 103, 114, 101, 97, 116]⟩, .string ⟨#[112, 111, 115, 105, 116, 105, 111, 110, 32, 116, 111, 111, 32, 103, 114, 101, 97, 116]⟩, .string ⟨#[109, 97, 114, 103, 105, 110]⟩, .string ⟨#[111, 118, 101, 114, 102, 108, 111, 119]⟩, .string ⟨#[117, 110, 97, 118, 97, 105, 108, 97, 98, 108, 101]⟩]) (t := 9) rfl).out;have c := zC k m;rw [hc] at c;have lt := zL k;clear hc k;go_in;go_wp2_with fail;go_ret;exact ⟨rfl, hb _⟩
end
section
open Go Go.Lib Go.ChangeShapes Go.WideShapes Go.ChangeAt Go.RowKit
theorem zz80 {P : Program} {W : World} {name : String} {k : IntKind} {zs : List Int} {rest : List (String × DataW Unit)} {ps : List MemPlace} {g : Nat} {t e : TypeId} {n : Nat}
  (hg : P.globalNamed name = some g) (hty : (P.globals[g]?).map (·.type) = some t) (ht : P.underlying t = some (.array n e)) (he : P.underlying e = some (.int k)) (hce : P.cellsOf e = 1) (hct : P.cellsOf t = n)
  (h : DataW.LaidVars P W ((name, tabData k zs) :: rest) ps) : TabIs P W name k zs ∧ ∃ qs, DataW.LaidVars P W rest qs := by
 obtain ⟨g', t', cs, fuel, p, q, hg', ht', hvar, hd, hrest, _⟩ := h;obtain rfl := Option.some.inj (hg.symm.trans hg');obtain rfl := Option.some.inj (hty.symm.trans ht');refine ⟨?_, q, hrest⟩;unfold TabIs;rw [hvar, ← cells_of_tab ht he hce hct hd]
def d32List : List Int := [0, 1, 28, 2, 29, 14, 24, 3, 30, 22, 20, 15, 25, 17, 4, 8, 31, 27, 13, 23, 21, 19, 16, 7, 26, 12, 18, 6, 11, 5, 10, 9]
theorem gD32 : Tryz.prog.globalNamed "math/bits.deBruijn32tab" = some 8 := by kernel_rfl
theorem gD32Type : (Tryz.prog.globals[8]?).map (·.type) = some 270 := by kernel_rfl
def d64List : List Int := [0, 1, 56, 2, 57, 49, 28, 3, 61, 58, 42, 50, 38, 29, 17, 4, 62, 47, 59, 36, 45, 43, 51, 22, 53, 39, 33, 30, 24, 18, 12, 5, 63, 55, 48, 27, 60, 41, 37, 16, 46, 35, 44, 21, 52, 32, 23, 11, 54, 26, 40, 15, 34, 20, 31, 10, 25, 14, 19, 9, 13, 8, 7, 6]
theorem gD64 : Tryz.prog.globalNamed "math/bits.deBruijn64tab" = some 9 := by kernel_rfl
theorem gD64Type : (Tryz.prog.globals[9]?).map (·.type) = some 271 := by kernel_rfl
def p10List : List Int := [1, 10, 100, 1000, 10000, 100000, 1000000, 10000000, 100000000, 1000000000, 10000000000, 100000000000, 1000000000000, 10000000000000, 100000000000000, 1000000000000000, 10000000000000000, 100000000000000000, 1000000000000000000, 10000000000000000000]
theorem gP10 : Tryz.prog.globalNamed "internal/strconv.uint64pow10" = some 4 := by kernel_rfl
theorem gP10Type : (Tryz.prog.globals[4]?).map (·.type) = some 252 := by kernel_rfl
theorem p10_eq : p10List = pow10Tab := by decide
theorem gNames : Tryz.prog.globalNamed "engross/event.names" = some 0 := by kernel_rfl
theorem gReasons : Tryz.prog.globalNamed "engross/event.reasons" = some 2 := by kernel_rfl
theorem gNamesType : (Tryz.prog.globals[0]?).map (·.type) = some 154 := by kernel_rfl
theorem gReasonsType : (Tryz.prog.globals[2]?).map (·.type) = some 158 := by kernel_rfl
theorem zz8q {W : World} (h : laidMetH Tryz.prog [("engross/event.names", Rows.laid_engross_event_names), ("engross/event.reasons", Rows.laid_engross_event_reasons), ("math/bits.deBruijn32tab", Rows.laid_math_bits_deBruijn32tab), ("math/bits.deBruijn64tab", Rows.laid_math_bits_deBruijn64tab), ("internal/strconv.uint64pow10", Rows.laid_internal_strconv_uint64pow10), ("engross/rules.table", Rows.laid_engross_rules_table), ("engross/rules.relations", Rows.laid_engross_rules_relations)] W) : Hid (Law16T W) ∧ Hid (Tabs W) := by
 have hrel := h.funcs (n := "engross/rules.relations") (d := .agg [.agg [.lit (.string [63]), .iface "func" (.lit (.string [101, 110, 103, 114, 111, 115, 115, 47, 114, 117, 108, 101, 115, 46, 114, 101, 108, 97, 116, 105, 111, 110, 115, 36, 49]))], .agg [.lit (.string [60, 61]), .iface "func" (.lit (.string [101, 110, 103, 114, 111, 115, 115, 47, 114, 117, 108, 101, 115, 46, 114, 101, 108, 97, 116, 105, 111, 110, 115, 36, 50]))], .agg [.lit (.string [62, 61]), .iface "func" (.lit (.string [101, 110, 103, 114, 111, 115, 115, 47, 114, 117, 108, 101, 115, 46, 114, 101, 108, 97, 116, 105, 111, 110, 115, 36, 51]))], .agg [.lit (.string [61]), .iface "func" (.lit (.string [101, 110, 103, 114, 111, 115, 115, 47, 114, 117, 108, 101, 115, 46, 114, 101, 108, 97, 116, 105, 111, 110, 115, 36, 52]))]]) (by simp [Rows.laid_engross_rules_relations])
 obtain ⟨g, t, cs, fuel, p, hg, ht, hv, hd⟩ := hrel;obtain rfl := Option.some.inj (gRels.symm.trans hg);obtain rfl := Option.some.inj (gRelsType.symm.trans ht);obtain ⟨⟨a0, a1⟩, ⟨b0, b1⟩, ⟨c0, c1⟩, ⟨d0, d1⟩⟩ := zzar hd;have hcell : ∀ i v, cs.toList[i]? = some v → W.cell? ⟨1, i, none⟩ = some v := fun i v hi => by
  rw [World.var?_cell hg hv i, ← Array.getElem?_toList]; exact hi
 have hltr : 1 < W.heap.size := World.block_lt_of_cell? _ _ (hcell 0 _ a0);have hp := (show laidMet Tryz.prog [("engross/event.names", Rows.laid_engross_event_names), ("engross/event.reasons", Rows.laid_engross_event_reasons), ("math/bits.deBruijn32tab", Rows.laid_math_bits_deBruijn32tab), ("math/bits.deBruijn64tab", Rows.laid_math_bits_deBruijn64tab), ("internal/strconv.uint64pow10", Rows.laid_internal_strconv_uint64pow10), ("engross/rules.table", Rows.laid_engross_rules_table)] W ∧ handlesMet Tryz.prog _ W from h).1
 obtain ⟨ps, hl, _⟩ := hp;have hl' : DataW.LaidVars Tryz.prog W [("engross/event.names", strData namesL), ("engross/event.reasons", strData reasonsL), ("math/bits.deBruijn32tab", tabData .u8 d32List), ("math/bits.deBruijn64tab", tabData .u8 d64List), ("internal/strconv.uint64pow10", tabData .u64 p10List), ("engross/rules.table", .agg (Rule.rows.map fun r => .agg [.lit (.string r.1), .lit (.int .i64 (r.2.1 : Nat)), .lit (.int .i64 (r.2.2 : Nat))]))] ps := hl
 obtain ⟨n1, _, ra⟩ := zzb9 gNames gNamesType Tryz.underlying154 Tryz.underlying9 zk zk hl';obtain ⟨n2, _, rb⟩ := zzb9 gReasons gReasonsType Tryz.underlying158 Tryz.underlying9 zk zk ra;obtain ⟨_, _, r0⟩ := zz80 gD32 gD32Type Tryz.underlying270 Tryz.underlying5 zk zk rb;obtain ⟨_, _, r1⟩ := zz80 gD64 gD64Type Tryz.underlying271 Tryz.underlying5 zk zk r0;obtain ⟨h2, _, r2⟩ := zz80 gP10 gP10Type Tryz.underlying252 Tryz.underlying193 zk zk r1;obtain ⟨g2, t2, cs2, fuel2, p2, q2, hg2, ht2, hv2, hd2, _⟩ := r2;obtain rfl := Option.some.inj (gRules.symm.trans hg2);obtain rfl := Option.some.inj (gRulesType.symm.trans ht2);have hcell2 : ∀ i v, cs2.toList[i]? = some v → W.cell? ⟨3, i, none⟩ = some v := fun i v hi => by
  rw [World.var?_cell hg2 hv2 i, ← Array.getElem?_toList]; exact hi
 have hrc := zz9e hd2;refine ⟨zH ⟨⟨⟨fun n hn => ⟨hcell2 _ _ (hrc n hn).1, hcell2 _ _ (hrc n hn).2.1, hcell2 _ _ (hrc n hn).2.2⟩, World.block_lt_of_cell? _ _ (hcell2 _ _ (hrc 0 zx).1)⟩, ⟨⟨hcell _ _ a0, hcell _ _ a1⟩, ⟨hcell _ _ b0, hcell _ _ b1⟩, ⟨hcell _ _ c0, hcell _ _ c1⟩, ⟨hcell _ _ d0, hcell _ _ d1⟩, hltr⟩⟩, ?_⟩, zH ⟨n1, n2⟩⟩
 show TabIs _ _ _ _ _;rw [← p10_eq];exact h2
noncomputable def exWorld (os : Os) : World :=
 { gateWorld os with heap := (((((gateWorld os).heap.modify 8 (tabCells (d32List.map (Value.int .u8)).toArray)).modify 9 (tabCells (d64List.map (Value.int .u8)).toArray)).modify 4 (tabCells (p10List.map (Value.int .u64)).toArray)).modify 0 (tabCells (namesL.map Value.string).toArray)).modify 2 (tabCells (reasonsL.map Value.string).toArray) }
end
section
open Go Go.ChangeShapes Go.WideShapes Go.Deep Go.ChangeAt Go.RowKit
section
variable {H : Type} {enc : TypeId × Value → H} {P : Program} {w : World}
theorem zz3t {t e : TypeId} {fs : Array Field} (ht : P.underlying t = some (.slice e)) (he : P.underlying e = some (.struct fs)) (hone : oneCellFields P fs = true) (hC : P.cellsOf e = fs.size) (hpos : 0 < fs.size)
  (hI : ∀ (j : Nat) (f : Field), fs[j]? = some f → P.underlying f.type = some (.int .i64)) {m : Nat} {c : Value} {y : DataW H × List MemPlace} (hf : DataW.trod enc P w 0 (fun _ => true) true m t [c] = some y) :
  ∃ l : List (List Int), RowAt w c fs.size l ∧ l.length ≤ maxLen ∧ ∀ r ∈ l, ∀ x ∈ r, I64 x := by
 rcases open_slice ht hf with ⟨hcs, _⟩ | ⟨a, len, cap, m', n, D, Pl, hcs, hb, hl, hm, hmm, _, hi⟩
 ·have hcs := List.cons.inj hcs |>.1
  subst hcs;exact ⟨[], ⟨none, 0, rfl, fun r hr => by simp at hr, .inl rfl⟩, Nat.zero_le _, fun r hr => by simp at hr⟩
 ·have hcs := List.cons.inj hcs |>.1
  subst hcs;simp only [if_true] at hmm;subst hmm;have hA : ∀ ij : Nat × Nat, ∃ x : Int, ij.1 < len → ij.2 < fs.size → ((∃ b o, a = ⟨b, o, none⟩ ∧ b < w.heap.size ∧ w.cell? ⟨b, o + ij.1 * fs.size + ij.2, none⟩ = some (.int .i64 x)) ∧ I64 x) := by
   rintro ⟨i, j⟩;by_cases hin : i < len
   ·by_cases hjn : j < fs.size
    ·obtain ⟨cs', hc, ht'⟩ := hi i zw
     rw [hC] at hc;obtain ⟨_, hcl, hat⟩ := World.cells?_some hc;obtain ⟨ys, n', _, _, _, hyl, hff⟩ := DataW.trod_struct he ht';have hfj : fs[j]? = some fs[j] := Array.getElem?_eq_getElem hjn;obtain ⟨ho, hk⟩ := hone_of hone j _ hfj;have hcell := hat j hjn;rw [List.getElem?_eq_getElem zw] at hcell;have h1 := hff j _ hfj;rw [ho, hk] at h1;have hone' : (cs'.drop j).take 1 = [cs'[j]'zw] := by
      rw [List.drop_eq_getElem_cons zw]
      rfl
     rw [hone', List.getElem?_eq_getElem zw] at h1;obtain ⟨x, hx, hwf⟩ := zz22 (hI j _ hfj) h1;rw [hx] at hcell;have hsp0 : a.spot = none := by
      obtain ⟨cs0, hc0, _⟩ := hi 0 zw;rw [hC] at hc0;obtain ⟨_, hcl0, hat0⟩ := World.cells?_some hc0;have h2 := hat0 0 hpos;rw [Nat.zero_mul] at h2;have e0 : (a.add 0).add 0 = a := by simp [Addr.add]
      rw [e0, List.getElem?_eq_getElem zw] at h2;exact spot_none h2
     have h0 := addr_none hsp0;generalize a.block = b at h0;generalize a.off = o at h0;subst h0;rw [add_at, add_at] at hcell;exact ⟨x, fun _ _ => ⟨⟨b, o, rfl, World.block_lt_of_cell? w _ hcell, hcell⟩, (zz4z hwf).out⟩⟩
    ·exact ⟨0, fun _ h => absurd h hjn⟩
   ·exact ⟨0, fun h => absurd h hin⟩
  obtain ⟨g, hg⟩ := Classical.axiomOfChoice hA;have hk : ∀ r ∈ (List.range len).map (fun i => (List.range fs.size).map fun j => g (i, j)), r.length = fs.size := fun r hr => by
   obtain ⟨i, _, rfl⟩ := List.mem_map.1 hr;simp
  have hlen : ((List.range len).map (fun i => (List.range fs.size).map fun j => g (i, j))).length = len := by simp
  refine ⟨(List.range len).map (fun i => (List.range fs.size).map fun j => g (i, j)), ⟨some a, m', by rw [hlen], hk, ?_⟩, by rw [hlen]; omega, fun r hr x hx => ?_⟩
  ·by_cases h0 : len = 0
   ·subst h0; exact .inl rfl
   ·obtain ⟨⟨b, o, rfl, hbl, _⟩, _⟩ := hg (0, 0) (by show 0 < len; omega) hpos
    refine .inr ⟨b, o, rfl, hbl, fun j x hj => ?_⟩
    have hjl := (List.getElem?_eq_some_iff.1 hj).1;rw [zz83 hk, hlen] at hjl;have hd : j / fs.size < len := (Nat.div_lt_iff_lt_mul hpos).2 hjl;have hmd : j % fs.size < fs.size := Nat.mod_lt _ hpos;have h1 := zz84 (l := (List.range len).map (fun i => (List.range fs.size).map fun j => g (i, j))) (i := j / fs.size) (j := j % fs.size) hk (by rw [List.getElem?_map, List.getElem?_range hd]; rfl) (x := g (j / fs.size, j % fs.size)) (by rw [List.getElem?_map, List.getElem?_range hmd]; rfl)
    have hj' : j / fs.size * fs.size + j % fs.size = j := by rw [Nat.mul_comm]; exact Nat.div_add_mod j fs.size
    rw [hj', hj] at h1;injection h1 with h1
    obtain ⟨⟨b', o', he', _, hcell⟩, _⟩ := hg (j / fs.size, j % fs.size) hd hmd;injection he' with hb' ho'
    subst hb' ho' h1;simp only at hcell;rw [Nat.add_assoc, hj'] at hcell;exact hcell
  ·obtain ⟨i, hi', rfl⟩ := List.mem_map.1 hr
   obtain ⟨j, hj', rfl⟩ := List.mem_map.1 hx;exact (hg (i, j) (by simpa using hi') (by simpa using hj')).2
end
def Bk.Ints (b : Bk) : Prop := (∀ r ∈ b.h, ∀ x ∈ r, I64 x) ∧ (∀ r ∈ b.s, ∀ x ∈ r, I64 x) ∧ (∀ r ∈ b.o, ∀ x ∈ r, I64 x) ∧ (∀ r ∈ b.r, ∀ x ∈ r, I64 x) ∧ I64 b.n
def intF (P : Program) (fs : Array Field) : Bool := (List.range fs.size).all fun j => match fs[j]? with | some f => isI64 (P.underlying f.type) | none => true
theorem zz3w {P : Program} {fs : Array Field} (h : intF P fs = true) (j : Nat) (f : Field) (hj : fs[j]? = some f) : P.underlying f.type = some (.int .i64) := by
 have h1 := List.all_eq_true.1 h j (List.mem_range.2 (zL hj));rw [hj] at h1;exact zzbc h1
theorem open_book {H : Type} {enc : TypeId × Value → H} {W : World} {r : Reach} {b0 : Nat} {v : Value} {d : DataW H} {ps : List MemPlace} (hv : Value.okWide Tryz.prog W r b0 27 v) (h : DataW.Trod enc Tryz.prog W 0 (fun _ => true) true 27 v d ps) :
  ∃ b : Bk, BkAt W v b ∧ b.Ints := by
 obtain ⟨cs, rfl, hsz, hc⟩ := zzb0 (n := 2) Tryz.underlying27 hv h;obtain ⟨v0, m0, y0, e0, t0⟩ := hc 0 22 (by decide +kernel)
 obtain ⟨v1, m1, y1, e1, t1⟩ := hc 1 23 (by decide +kernel)
 obtain ⟨v2, m2, y2, e2, t2⟩ := hc 2 24 (by decide +kernel)
 obtain ⟨v3, m3, y3, e3, t3⟩ := hc 3 25 (by decide +kernel)
 obtain ⟨v4, m4, y4, e4, t4⟩ := hc 4 2 (by decide +kernel)
 obtain ⟨lh, h1, _, i1⟩ := zz3t Tryz.underlying22 Tryz.underlying78 zk zk zx (fun j f hj => zz3w (P := Tryz.prog) zk j f hj) t0
 obtain ⟨ls, h2, _, i2⟩ := zz3t Tryz.underlying23 Tryz.underlying80 zk zk zx (fun j f hj => zz3w (P := Tryz.prog) zk j f hj) t1
 obtain ⟨lo, h3, _, i3⟩ := zz3t Tryz.underlying24 Tryz.underlying82 zk zk zx (fun j f hj => zz3w (P := Tryz.prog) zk j f hj) t2
 obtain ⟨lr, h4, _, i4⟩ := zz3t Tryz.underlying25 Tryz.underlying84 zk zk zx (fun j f hj => zz3w (P := Tryz.prog) zk j f hj) t3
 obtain ⟨n, hn, wn⟩ := zz22 Tryz.underlying2 t4;have hcs : cs = #[v0, v1, v2, v3, .int .i64 n] := by
  have hz : cs.size = 5 := hsz.trans zk;apply Array.ext_getElem?;intro i
  match i with
  | 0 => rw [e0]; rfl
  | 1 => rw [e1]; rfl
  | 2 => rw [e2]; rfl
  | 3 => rw [e3]; rfl
  | 4 => rw [e4, hn]; rfl
  | i + 5 => rw [Array.getElem?_eq_none zw, Array.getElem?_eq_none (by simp)]
 subst hcs;exact ⟨⟨lh, ls, lo, lr, n⟩, ⟨v0, v1, v2, v3, rfl, h1, h2, h3, h4⟩, i1, i2, i3, i4, (zz4z wn).out⟩
end
section
open Go Go.RowKit
section
variable {P : Program} {ops : Array Oper} {rest : List Oper} {o : Oper} {a : Act} {Q : Exit → Act → World → Prop}
theorem zt85 {p : Prop} (h : p := by
 intro u hu;rcases List.mem_append.1 hu with hu | hu
 ·exact hk u hu
 ·simp at hu; rw [hu]; exact hr) : p := h
theorem zt100 {p : Prop} (h : p := by
 intro j u hj;rw [Addr.add_lit, Nat.zero_add];exact zz00 (zz02 wr (.cells (r.map (Value.int .i64)).toArray e)) j u (by simpa using hj)) : p := h
theorem zz0h {wr W : World} {B : Nat} (s x : Operand) (t e : TypeId) (z : Value) (k bytes : Nat) (he : Elt P t e z k bytes) (r : List Int) (v : Value) (l : List (List Int))
  (hb : Below B W wr) (hown : Hid (RowOwn wr B e v k l)) (hB : B ≤ wr.heap.size) (hgd : o.guard = none) (ho : o.op = .call { callee := .builtin .append, args := #[s, x], argTypes := #[t, t] })
  (hs : a.eval s = v) (hx : a.eval x = .slice (some ⟨wr.heap.size, 0, none⟩) 1 1) (hr : r.length = k) (hn : l.length + 1 ≤ 4000000) (hby : bytes ≤ 64)
  (h : ∀ v' w', Hid (RowOwn w' B e v' k (l ++ [r])) → Hid (Below B W w') → B ≤ w'.heap.size → wpList P ops Q rest (a.put o.dst v') w') :
  wpList P ops Q (o :: rest) a (wr.alloc (.cells (r.map (Value.int .i64)).toArray e)) := by
 obtain ⟨i, hi, hz, hsz, hbs⟩ := he.info;obtain ⟨ho', hk⟩ := hown.out;refine wpList_append_own _ hgd s x t ho B e i z k bytes he.und hi hz hsz hbs he.zs he.pos v l.length (flatC l) hs (ho'.alloc _) ⟨wr.heap.size, 0, none⟩ 1 1 (r.map (Value.int .i64)) hx (by rw [List.length_map, hr, Nat.one_mul]) ?_ ?_ ?_ ?_ ?_ ?_
 ·exact zt100
 ·intro u hu; obtain ⟨y, _, rfl⟩ := List.mem_map.1 hu; rfl
 ·unfold maxLen; omega
 ·have h1 := Nat.mul_le_mul hn hby; omega
 ·simp; omega
 ·intro v' w' h1 h2 _
  refine h v' w' ⟨?_, ?_⟩ ((hb.alloc hB _).grown h2 (by simp; omega) (fun q hq => (ho'.lt q hq).1)) ?_
  ·rw [List.length_append, zz0j, show flatC [r] = r.map (Value.int .i64) by simp [flatC]]
   exact h1
  ·exact zt85
  ·have := h2.size; simp at this; omega
end
def set5R (w : World) (g : Nat) (a0 a1 a2 a3 a4 : Value) : World := ((((w.setCell ⟨g, 0, none⟩ a0).setCell ⟨g, 1, none⟩ a1).setCell ⟨g, 2, none⟩ a2).setCell ⟨g, 3, none⟩ a3).setCell ⟨g, 4, none⟩ a4
theorem zz9c {B : Nat} {a w : World} {g : Nat} (h : Below B a w) (hg : B ≤ g) (a0 a1 a2 a3 a4 : Value) : Below B a (set5R w g a0 a1 a2 a3 a4) :=
 ((((h.setCell (p := ⟨g, 0, none⟩) hg a0).setCell (p := ⟨g, 1, none⟩) hg a1).setCell (p := ⟨g, 2, none⟩) hg a2).setCell (p := ⟨g, 3, none⟩) hg a3).setCell (p := ⟨g, 4, none⟩) hg a4
theorem RowOwn.set5R {w : World} {B : Nat} {e : TypeId} {v : Value} {k : Nat} {l : List (List Int)} (h : RowOwn w B e v k l) {g : Nat} (hg : g < B) (a0 a1 a2 a3 a4 : Value) : RowOwn (set5R w g a0 a1 a2 a3 a4) B e v k l :=
 ((((h.setBelow (a := ⟨g, 0, none⟩) hg a0).setBelow (a := ⟨g, 1, none⟩) hg a1).setBelow (a := ⟨g, 2, none⟩) hg a2).setBelow (a := ⟨g, 3, none⟩) hg a3).setBelow (a := ⟨g, 4, none⟩) hg a4
theorem setK_step {ge ne : List Int → Bool} {x : List Int} {d : Bool} {l : List (List Int)} {i : Nat} {r : List Int} (h : l[i]? = some r) : setK ge ne x d (l.drop i) = (if !d && ge r then [x] else []) ++ ((if ne r then [r] else []) ++ setK ge ne x (d || ge r) (l.drop (i + 1))) := by
 obtain ⟨hi, rfl⟩ := List.getElem?_eq_some_iff.1 h;rw [List.drop_eq_getElem_cons hi, setK]
section
variable {P : Program} {ops : Array Oper} {rest : List Oper} {o : Oper} {a : Act} {Q : Exit → Act → World → Prop}
theorem zz1b {wr W : World} {B p : Nat} (s x : Operand) (t e : TypeId) (z : Value) (k bytes : Nat) (he : Elt P t e z k bytes) (r : List Int) (v : Value) (l : List (List Int))
  (hb : Below B W wr) (hown : Hid (RowOwn wr B e v k l)) (hB : B ≤ wr.heap.size) (hgd : o.guard = none) (ho : o.op = .call { callee := .builtin .append, args := #[s, x], argTypes := #[t, t] })
  (hs : a.eval s = v) (hx : a.eval x = .slice (some ⟨p, 0, none⟩) 1 1) (hp : p = wr.heap.size) (hr : r.length = k) (hn : l.length + 1 ≤ 4000000) (hby : bytes ≤ 64)
  (h : ∀ v' w', Hid (RowOwn w' B e v' k (l ++ [r])) → Hid (Below B W w') → B ≤ w'.heap.size → Hid (∀ (g : Nat) (ob : Obj), v.ownBlock ≠ some g → wr.heap[g]? = some ob → w'.heap[g]? = some ob) → wpList P ops Q rest (a.put o.dst v') w') :
  wpList P ops Q (o :: rest) a (wr.alloc (.cells (r.map (Value.int .i64)).toArray e)) := by
 subst hp;obtain ⟨i, hi, hz, hsz, hbs⟩ := he.info;obtain ⟨ho', hk⟩ := hown.out;refine wpList_append_own _ hgd s x t ho B e i z k bytes he.und hi hz hsz hbs he.zs he.pos v l.length (flatC l) hs (ho'.alloc _) ⟨wr.heap.size, 0, none⟩ 1 1 (r.map (Value.int .i64)) hx (by rw [List.length_map, hr, Nat.one_mul]) ?_ ?_ ?_ ?_ ?_ ?_
 ·exact zt100
 ·intro u hu; obtain ⟨y, _, rfl⟩ := List.mem_map.1 hu; rfl
 ·unfold maxLen; omega
 ·have h1 := Nat.mul_le_mul hn hby; omega
 ·simp; omega
 ·intro v' w' h1 h2 _
  refine h v' w' ⟨?_, ?_⟩ ((hb.alloc hB _).grown h2 (by simp; omega) (fun q hq => (ho'.lt q hq).1)) ?_ ?_
  ·rw [List.length_append, zz0j, show flatC [r] = r.map (Value.int .i64) by simp [flatC]]
   exact h1
  ·exact zt85
  ·have := h2.size; simp at this; omega
  ·intro g ob hne hg
   have hlt := zL hg;rw [h2.block g (by simp; omega) (fun e => hne e.symm)]
   exact zz04 hg _
end
end
end Go.Proofs.YtajogedbacpohaaGreatDoor
