/- Part 13 of what the claim rests on. -/
import Derived.Test.YtajogedbacpohaaGreatDoorB00
import Derived.Test.YtajogedbacpohaaGreatDoorB01
import Derived.Test.YtajogedbacpohaaGreatDoorB03
import Derived.Test.YtajogedbacpohaaGreatDoorB04
import Derived.Test.YtajogedbacpohaaGreatDoorB11
import Derived.Deep.DeepHandedRow
import Derived.Deep.Fields
import Derived.Deep.Slices
import Derived.Deep.Strs
import Derived.LaidHandle
import Derived.LaidMore
import Derived.LaidOnce
import Derived.Lib.LaidTab
import Derived.Maps.OwnOps
import Derived.Maps.Views
import Derived.OpenShut
import Derived.ProofKit
import Derived.ShutString
import Derived.Test.YtajogedbacpohaaGreatDoorCards
import Derived.Test.YtajogedbacpohaaGreatDoorTie
set_option linter.unusedVariables false
set_option linter.unusedSimpArgs false
set_option maxRecDepth 1000000
set_option maxHeartbeats 32000000
namespace Go.Proofs.YtajogedbacpohaaGreatDoor
section
open Go Go.RowKit Mon
structure Ev where
 kind : Int
 acc : Int
 ord : Int
 sym : Int
 side : Int
 qty : Int
 px : Int
def Ev.I64s (e : Ev) : Prop := I64 e.kind ∧ I64 e.acc ∧ I64 e.ord ∧ I64 e.sym ∧ I64 e.side ∧ I64 e.qty ∧ I64 e.px
def Ev.val (e : Ev) : Value := .agg #[e.kind, e.acc, e.ord, e.sym, e.side, e.qty, e.px]
def cutL : List Stp → List Stp
 | [] => []
 | s :: t => s :: (if s.holds then cutL t else [])
theorem zz42 (l : List Stp) (s : Stp) : cutL (l ++ [s]) = if l.all (·.holds) then cutL l ++ [s] else cutL l := by
 induction l with
 | nil => simp [cutL]
 | cons a t ih =>
  rw [List.cons_append, cutL, cutL, List.all_cons, ih];cases a.holds <;> simp
  split <;> rfl
theorem zzbr {l : List Stp} (h : l.all (·.holds) = true) : cutL l = l := by
 induction l with
 | nil => rfl
 | cons a t ih =>
  rw [List.all_cons, Bool.and_eq_true] at h;rw [cutL, if_pos h.1, ih h.2]
theorem zz8a (l m : List Stp) : cutL (l ++ m) = cutL l ++ (if l.all (·.holds) then cutL m else []) := by
 induction l with
 | nil => simp [cutL]
 | cons a t ih =>
  rw [List.cons_append, cutL, cutL, List.all_cons, ih];cases a.holds <;> simp
theorem zzbq (l : List Stp) : (cutL l).all (·.holds) = l.all (·.holds) := by
 induction l with
 | nil => rfl
 | cons a t ih =>
  rw [cutL, List.all_cons, List.all_cons];cases h : a.holds with
  | false => rfl
  | true => simpa using ih
theorem zz64 (l : List Stp) : (cutL l).length ≤ l.length := by
 induction l with
 | nil => simp [cutL]
 | cons a t ih =>
  rw [cutL]
  split <;> simp <;> omega
theorem cutL_pre (l : List Stp) : ∃ m, l = cutL l ++ m := by
 induction l with
 | nil => exact ⟨[], rfl⟩
 | cons a t ih =>
  rw [cutL]
  split
  ·obtain ⟨m, hm⟩ := ih
   exact ⟨m, by rw [List.cons_append, ← hm]⟩
  ·exact ⟨t, rfl⟩
theorem cutL_last {l : List Stp} {k : Nat} {s : Stp} (h : (cutL l)[k]? = some s) (hk : k + 1 < (cutL l).length) : s.holds = true := by
 induction l generalizing k with
 | nil => simp [cutL] at h
 | cons a t ih =>
  rw [cutL] at h hk;cases ha : a.holds with
  | false => rw [ha] at hk; simp at hk
  | true =>
   rw [ha] at h hk;simp only [if_true] at h hk;cases k with
   | zero => simp at h; rw [← h]; exact ha
   | succ k => exact ih (by simpa using h) (by simpa using hk)
def okL (l : List Stp) : Prop := (∀ s ∈ l, s.known = true ∧ s.bare = false) ∧ l.Pairwise (fun a b => a.rule ≠ b.rule)
theorem okL.pre {l m : List Stp} (h : okL (l ++ m)) : okL l := ⟨fun s hs => h.1 s (by simp [hs]), (List.pairwise_append.1 h.2).1⟩
theorem mayB_of {l : List Stp} (h : ∀ k s, l[k]? = some s → okB l k s = true) : ∀ n, mayB l n = true
 | 0 => rfl
 | n + 1 => by
  unfold mayB;rw [mayB_of h n];cases hl : l[n]? with
  | none => rfl
  | some s => simpa using h n s hl
theorem mayS_cut {l : List Stp} (h : okL l) : mayS (cutL l) = true := by
 have hc : okL (cutL l) := by
  obtain ⟨m, hm⟩ := cutL_pre l;rw [hm] at h;exact h.pre
 refine mayB_of (fun k s hs => ?_) _
 obtain ⟨h1, h2⟩ := hc.1 s (List.mem_of_getElem? hs);unfold okB;rw [h1, h2];have h3 : ((cutL l).take k).any (fun t => t.rule == s.rule) = false := by
  rw [List.any_eq_false];intro t ht;obtain ⟨j, hj, rfl⟩ := List.getElem_of_mem ht;have hp := hc.2;rw [List.pairwise_iff_getElem] at hp;obtain ⟨hk, hs'⟩ := List.getElem?_eq_some_iff.1 hs;rw [List.length_take] at hj;have := hp j k zw hk zw;rw [List.getElem_take];simp;rw [← hs'];exact this
 rw [h3];by_cases hk : k + 1 < (cutL l).length
 ·rw [cutL_last hs hk]; simp
 ·simp [hk]
def bitI (b : Bool) : Int := if b then 1 else 0
def sS (n a b : Int) : Stp := ⟨n, a, b, false⟩
def oS (n a b : Int) (f : Bool) : Stp := if f then ⟨n, a, b, false⟩ else ⟨n, 0, 0, true⟩
def hasH (b : Bk) (acc : Int) : Bool := (b.h.find? (isId acc)).isSome
def hasO (b : Bk) (ord : Int) : Bool := (b.o.find? (isId ord)).isSome
def hasR (b : Bk) (sym : Int) : Bool := (b.r.find? (isId sym)).isSome
def recH (b : Bk) (acc : Int) : List Int := (recOf 4 (b.h.find? (isId acc))).1
def recO (b : Bk) (ord : Int) : List Int := (recOf 6 (b.o.find? (isId ord))).1
def mulP (a b : Int) : Int × Bool := fitsP (a * b)
def eqR (b : Bk) (acc : Int) : Int × Bool := fitsP (cashOf b acc + sumQ (heldP b acc b.s))
def needE (b : Bk) (e : Ev) (rate : Int) : Int × Bool := needR (needX b e.acc e.qty e.px) rate
def afterE (b : Bk) (e : Ev) : (Int × Bool) × (Int × Bool) := afterR b ((recO b e.ord).getD 1 0) ((recO b e.ord).getD 2 0) ((recO b e.ord).getD 3 0) e.qty e.px
def ordS (b : Bk) (e : Ev) (rate : Int) : List Stp :=
 [sS 3 e.side 0, sS 4 e.side 1, sS 5 e.qty 1, sS 6 e.px 1, sS 10 (bitI (hasH b e.acc)) 1, sS 12 (bitI (hasO b e.ord)) 0, sS 14 (bitI (hasR b e.sym)) 1, sS 16 b.o.length 63,
  oS 18 (mulP e.qty e.px).1 ((recH b e.acc).getD 3 0) (mulP e.qty e.px).2, oS 19 (reachR b e.acc e.sym e.side e.qty).1 ((recH b e.acc).getD 2 0) (reachR b e.acc e.sym e.side e.qty).2,
  oS 20 (needE b e rate).1 (eqR b e.acc).1 ((needE b e rate).2 && (eqR b e.acc).2)]
def fillS (b : Bk) (e : Ev) : List Stp :=
 [sS 13 (bitI (hasO b e.ord)) 1, sS 5 e.qty 1, sS 6 e.px 1, sS 21 e.qty ((recO b e.ord).getD 4 0),
  oS 22 (afterE b e).1.1 (afterE b e).1.1 (afterE b e).1.2, oS 23 (afterE b e).2.1 (afterE b e).2.1 (afterE b e).2.2]
def accS (b : Bk) (e : Ev) : List Stp := [sS 7 e.qty 0, sS 11 (bitI (hasH b e.acc)) 0, sS 15 b.h.length 31]
def limS (b : Bk) (e : Ev) : List Stp := [sS 10 (bitI (hasH b e.acc)) 1, sS 8 e.qty 0, sS 9 e.px 0]
def quoS (b : Bk) (e : Ev) : List Stp := sS 6 e.px 1 :: (if hasR b e.sym then [] else [sS 17 b.r.length 31])
def canS (b : Bk) (e : Ev) : List Stp := [sS 13 (bitI (hasO b e.ord)) 1]
def kindS (b : Bk) (e : Ev) (rate : Int) : List Stp :=
 if e.kind = 1 then accS b e else if e.kind = 2 then limS b e else if e.kind = 3 then quoS b e else if e.kind = 4 then ordS b e rate
 else if e.kind = 5 then fillS b e else if e.kind = 6 then canS b e else []
def headS (e : Ev) : List Stp := [sS 1 e.kind 1, sS 2 e.kind 7]
def allS (b : Bk) (e : Ev) (rate : Int) : List Stp := headS e ++ kindS b e rate
def gateL (b : Bk) (e : Ev) (rate : Int) : List Stp := cutL (allS b e rate)
def gateV (b : Bk) (e : Ev) (rate : Int) : Int × Int := goW (gateL b e rate) 0
def maxI : Int := 9223372036854775807
def accB (b : Bk) (e : Ev) : Bk := { b with h := setH e.acc [e.acc, e.qty, maxI, maxI] false b.h }
def limB (b : Bk) (e : Ev) : Bk := { b with h := setH ((recH b e.acc).getD 0 0) [(recH b e.acc).getD 0 0, (recH b e.acc).getD 1 0, e.qty, e.px] false b.h }
def quoB (b : Bk) (e : Ev) : Bk := { b with r := setH e.sym [e.sym, e.px] false b.r }
def ordB (b : Bk) (e : Ev) : Bk := { b with o := setH e.ord [e.ord, e.acc, e.sym, e.side, e.qty, e.px] (e.qty == 0) b.o }
def canB (b : Bk) (e : Ev) : Bk := { b with o := setH e.ord [e.ord, 0, 0, 0, 0, 0] true b.o }
def fillX (b : Bk) (o h : List Int) (c s qty : Int) : Bk :=
 { b with h := setH (h.getD 0 0) [h.getD 0 0, c, h.getD 2 0, h.getD 3 0] false b.h, s := setS (o.getD 1 0) (o.getD 2 0) [o.getD 1 0, o.getD 2 0, s] (s == 0) b.s, o := setH (o.getD 0 0) [o.getD 0 0, o.getD 1 0, o.getD 2 0, o.getD 3 0, o.getD 4 0 - qty, o.getD 5 0] (o.getD 4 0 - qty == 0) b.o }
def fillB (b : Bk) (e : Ev) : Bk := fillX b (recO b e.ord) (recH b ((recO b e.ord).getD 1 0)) (afterE b e).1.1 (afterE b e).2.1 e.qty
def newB (b : Bk) (e : Ev) : Bk :=
 if e.kind = 1 then accB b e else if e.kind = 2 then limB b e else if e.kind = 3 then quoB b e else if e.kind = 4 then ordB b e
 else if e.kind = 5 then fillB b e else if e.kind = 6 then canB b e else b
def doneB (b : Bk) (e : Ev) (rate : Int) : Bk := if (allS b e rate).all (·.holds) then newB b e else b
def gateB (b : Bk) (e : Ev) (rate : Int) : Bk := { doneB b e rate with n := b.n + 1 }
theorem sS_ok (n a b : Int) (h : 0 < n ∧ n < 24) : (sS n a b).known = true ∧ (sS n a b).bare = false := ⟨decide_eq_true h, rfl⟩
theorem oS_ok (n a b : Int) (f : Bool) (h : 0 < n ∧ n < 24) : (oS n a b f).known = true ∧ (oS n a b f).bare = false := by
 cases f
 ·exact ⟨decide_eq_true h, rfl⟩
 ·exact ⟨decide_eq_true h, rfl⟩
theorem zzb1 (n a b : Int) (f : Bool) : (oS n a b f).rule = n := by cases f <;> rfl
theorem okL_of {l : List Stp} (h : ∀ s ∈ l, s.known = true ∧ s.bare = false) (hp : (l.map (·.rule)).Pairwise (· ≠ ·)) : okL l := ⟨h, List.pairwise_map.1 hp⟩
theorem allS_ok (b : Bk) (e : Ev) (rate : Int) : okL (allS b e rate) := by
 unfold allS headS kindS;refine okL_of ?_ ?_
 ·intro s hs
  rcases List.mem_append.1 hs with hs | hs
  ·simp only [List.mem_cons, List.not_mem_nil, or_false] at hs
   rcases hs with rfl | rfl <;> exact sS_ok _ _ _ zw
  ·split at hs
   ·simp only [accS, List.mem_cons, List.not_mem_nil, or_false] at hs
    rcases hs with rfl | rfl | rfl <;> exact sS_ok _ _ _ zw
   split at hs
   ·simp only [limS, List.mem_cons, List.not_mem_nil, or_false] at hs
    rcases hs with rfl | rfl | rfl <;> exact sS_ok _ _ _ zw
   split at hs
   ·unfold quoS at hs
    rcases List.mem_cons.1 hs with rfl | hs
    ·exact sS_ok _ _ _ zw
    ·split at hs
     ·simp at hs
     ·obtain rfl := List.mem_singleton.1 hs
      exact sS_ok _ _ _ zw
   split at hs
   ·simp only [ordS, List.mem_cons, List.not_mem_nil, or_false] at hs
    rcases hs with rfl | rfl | rfl | rfl | rfl | rfl | rfl | rfl | rfl | rfl | rfl <;> first | exact sS_ok _ _ _ zw | exact oS_ok _ _ _ _ zw
   split at hs
   ·simp only [fillS, List.mem_cons, List.not_mem_nil, or_false] at hs
    rcases hs with rfl | rfl | rfl | rfl | rfl | rfl <;> first | exact sS_ok _ _ _ zw | exact oS_ok _ _ _ _ zw
   split at hs
   ·simp only [canS, List.mem_cons, List.not_mem_nil, or_false] at hs
    subst hs;exact sS_ok _ _ _ zw
   ·simp at hs
 ·split
  ·simp [accS, sS]
  split
  ·simp [limS, sS]
  split
  ·unfold quoS; split <;> simp [sS]
  split
  ·simp [ordS, sS, zzb1]
  split
  ·simp [fillS, sS, zzb1]
  split
  ·simp [canS, sS]
  ·simp [sS]
theorem zz5x (b : Bk) (e : Ev) (rate : Int) : mayS (gateL b e rate) = true := mayS_cut (allS_ok b e rate)
theorem zz5y (b : Bk) (e : Ev) (rate : Int) : (gateL b e rate).length ≤ 13 := by
 refine Nat.le_trans (zz64 _) ?_;unfold allS headS kindS accS limS quoS ordS fillS canS
 repeat' split
 all_goals simp
theorem zza2 (b : Bk) (e : Ev) (rate : Int) : ∀ s, s ∈ gateL b e rate → s.known = true := zzb3 (zz5x b e rate)
theorem zzbe (b : Bk) (e : Ev) (rate : Int) : ((gateV b e rate).1 == 0) = (allS b e rate).all (·.holds) := by
 unfold gateV;rw [goW_all _ _ (zza2 b e rate)];exact zzbq _
end
section
open Go.ChangeShapes Go.WideShapes Go.ChangeAt Go.RowKit
section
variable {H : Type} {enc : TypeId × Value → H} {P : Program}
theorem zz7n (hl : laidOutB P = true) {W W' : World} (hb : Below W.heap.size W W') :
  ∀ (ts : List TypeId) (vs : List Value) (ds : List (DataW H)) (ps : List MemPlace), (ts.all fun t => P.readableRec t && decide (t < P.types.size)) = true →
   (∀ x ∈ ps, x.block < W.heap.size) → DataW.TrodAll enc P W 0 (fun _ => true) true ts vs ds ps → DataW.TrodAll enc P W' 0 (fun b => decide (b < W.heap.size)) true ts vs ds ps := by
 intro ts;induction ts with
 | nil =>
  intro vs ds ps _ _ h;obtain ⟨rfl, rfl, rfl⟩ := trodAll_nil h;exact trodAll_mk0
 | cons t ts ih =>
  intro vs ds ps hr hlt h;obtain ⟨v, vs', d, ds', p, q, rfl, rfl, rfl, h1, h2⟩ := trodAll_cons h;simp only [List.all_cons, Bool.and_eq_true, decide_eq_true_eq] at hr;refine trodAll_cons_mk (Below.trod hl hr.1.1 hr.1.2 h1 hb (fun x hx => hlt x (by simp [hx]))) (ih _ _ _ ?_ (fun x hx => hlt x (by simp [hx])) h2)
  simpa using hr.2
theorem law_post {f : Func} {s : ChangeSpec} {W W' : World} {args : Array Value} {ds gs : List (DataW H)} {before : List MemPlace} {b : TypeId}
  (hl : laidOutB P = true) (hr : (f.params.toList.all fun t => P.readableRec t && decide (t < P.types.size)) = true) (hb1 : f.resultTypes = #[b]) (hb2 : P.underlying b = some .bool)
  (hv : s.vars = []) (hs : s.fn H (ds ++ gs) = { results := [.lit (.bool true)], args := ds, vars := [] })
  (hW : DataW.Whole enc P f.params.toList s.vars false W args.toList ds gs before) (hb : Below W.heap.size W W') :
  s.post enc P f false true false false W args (.bool true) W' := by
 have hlt : ∀ x ∈ before, x.block < W.heap.size := fun x hx => hW.lt x hx
 have hW' := hW;obtain ⟨p, q, hA, hV, hpq, _, _⟩ := hW';rw [hv] at hV;obtain ⟨hg, hq⟩ := trodVars_none hV;refine ⟨ds, gs, before, [], p, [], hW, ?_, ?_, ?_, ?_, fun h => by cases h⟩
 ·rw [hs, hb1]
  exact trodAll_cons_mk (shut_bool hb2 true) trodAll_mk0
 ·rw [hs]
  exact zz7n hl hb _ _ _ _ hr (fun x hx => hlt x (by rw [hpq]; simp [hx])) hA
 ·rw [hs, hv]
  rfl
 ·exact hb.frame _
end
end
section
open Go.ChangeShapes Go.WideShapes Go.Deep
section
variable {H : Type} {enc : TypeId × Value → H} {P : Program} {w : World}
theorem spot_none {a : Addr} {v : Value} (h : w.cell? a = some v) : a.spot = none := by
 unfold World.cell? at h
 split at h
 ·split at h
  ·simp at h
  ·rename_i h1; simpa using h1
 ·simp at h
theorem addr_none {a : Addr} (h : a.spot = none) : a = ⟨a.block, a.off, none⟩ := by
 cases a; simp at h; subst h; rfl
theorem add_at (b o i : Nat) : (⟨b, o, none⟩ : Addr).add i = ⟨b, o + i, none⟩ := Addr.add_lit b o i
end
end
section
open Go.ChangeShapes Go.WideShapes Go.Deep Go.ChangeAt Go.RowKit
def leavesOf (P : Program) : Nat → TypeId → List (Nat × TypeId)
 | 0, _ => []
 | n + 1, t =>
  match P.underlying t with
  | some (.struct fs) => fs.toList.flatMap fun f => (leavesOf P n f.type).map fun x => (f.offset + x.1, x.2)
  | some (.array k e) => (List.range k).flatMap fun i => (leavesOf P n e).map fun x => (i * P.cellsOf e + x.1, x.2)
  | _ => [(0, t)]
section
variable {H : Type} {enc : TypeId × Value → H} {P : Program} {w : World} {base : Nat} {sp : Nat → Bool} {held : Bool}
theorem leaf_int {m : Nat} {u : TypeId} {k : IntKind} {c : Value} {y : DataW H × List MemPlace} (hu : P.underlying u = some (.int k)) (h : DataW.trod enc P w base sp held m u [c] = some y) :
  ∃ n, c = .int k n ∧ (Lit.int k n).wf = true := by
 cases m with
 | zero => simp [DataW.trod] at h
 | succ m =>
  unfold DataW.trod at h;rw [hu] at h
  split at h <;> simp_all
def isI64 : Option TypeDesc → Bool
 | some (.int .i64) => true
 | _ => false
theorem zzba {u : Option TypeDesc} (h : isI64 u = true) : u = some (.int .i64) := by
 unfold isI64 at h
 split at h
 ·rfl
 ·cases h
end
end
section
open Go Go.Lib Go.ChangeShapes Go.WideShapes Go.ChangeAt Go.RowKit
theorem zz0z {α : Type} {l : List α} {i : Nat} {x : α} (h : (l.drop i).take 1 = [x]) : l[i]? = some x := by
 have := congrArg (·[0]?) h;simpa [List.getElem?_take, List.getElem?_drop] using this
theorem zz45 {α : Type} {l : List α} {i k j : Nat} {x : α} (h : ((l.drop i).take k)[j]? = some x) : l[i + j]? = some x := by
 rw [List.getElem?_take] at h
 split at h
 ·rwa [List.getElem?_drop] at h
 ·cases h
theorem gRules : Tryz.prog.globalNamed "engross/rules.table" = some 3 := by kernel_rfl
theorem gRulesType : (Tryz.prog.globals[3]?).map (·.type) = some 250 := by kernel_rfl
theorem gRels : Tryz.prog.globalNamed "engross/rules.relations" = some 1 := by kernel_rfl
theorem gRelsType : (Tryz.prog.globals[1]?).map (·.type) = some 157 := by kernel_rfl
theorem zz9i {H : Type} {enc : TypeId × Value → H} {W : World} {base : Nat} {sp : Nat → Bool} {held : Bool} {fuel : Nat} {cs : List Value} {p : List MemPlace}
  (h : DataW.trod enc Tryz.prog W base sp held fuel 250 cs = some (.agg (Rule.rows.map fun r => .agg [.lit (.string r.1), .lit (.int .i64 (r.2.1 : Nat)), .lit (.int .i64 (r.2.2 : Nat))]), p)) :
  ∀ n, n < 24 → cs[n * 3]? = some (.string ⟨(Rule.name n).toArray⟩) ∧ cs[n * 3 + 1]? = some (.int .i64 (Rule.rel n)) ∧ cs[n * 3 + 2]? = some (.int .i64 (Rule.code n)) := by
 obtain ⟨xs, m, _, hx, hl, hlen, hf⟩ := DataW.trod_array Tryz.underlying250 h;have hxs := congrArg Prod.fst hx;simp only [DataW.agg.injEq] at hxs;intro n hn;obtain ⟨y, hy⟩ : ∃ y, xs[n]? = some y := ⟨xs[n]'zw, List.getElem?_eq_getElem zw⟩;have hf := (hf n hn).trans hy;rw [show Tryz.prog.cellsOf 214 = 3 by kernel_rfl] at hf
 obtain ⟨y0, y1, y2, k, hyy, _, h0, h1, h2⟩ := Go.Deep.trod_struct3 Tryz.underlying214 hf;have h0 : DataW.trod enc Tryz.prog W base sp held k 9 ((((cs.drop (n * 3)).take 3).drop 0).take 1) = some y0 := h0;have h1 : DataW.trod enc Tryz.prog W base sp held k 3 ((((cs.drop (n * 3)).take 3).drop 1).take 1) = some y1 := h1;have h2 : DataW.trod enc Tryz.prog W base sp held k 3 ((((cs.drop (n * 3)).take 3).drop 2).take 1) = some y2 := h2;obtain ⟨s, c0, rfl, _⟩ := DataW.trod_string Tryz.underlying9 h0;obtain ⟨a, c1, rfl, _⟩ := DataW.trod_int Tryz.underlying3 h1;obtain ⟨b, c2, rfl, _⟩ := DataW.trod_int Tryz.underlying3 h2;have e0 := zz45 (zz0z c0);have e1 := zz45 (zz0z c1);have e2 := zz45 (zz0z c2);have hd := congrArg (·[n]?) hxs;simp only [List.getElem?_map, hy, Option.map_some] at hd;rw [hyy] at hd;have hrow : Rule.rows[n]? = some (Rule.rows.getD n ([], 0, 0)) := by
  rw [List.getD_eq_getElem?_getD, List.getElem?_eq_getElem (show n < Rule.rows.length from hn)]; rfl
 rw [hrow] at hd;simp only [Option.map_some, Option.some.injEq, DataW.agg.injEq, List.cons.injEq, DataW.lit.injEq, Lit.string.injEq, Lit.int.injEq, true_and, and_true] at hd;obtain ⟨d0, d1, d2⟩ := hd;rw [show n * 3 + 0 = n * 3 from rfl] at e0
 refine ⟨by rw [e0]; congr 2; apply ByteArray.ext; apply Array.toList_inj.1; exact d0.symm, by rw [e1, ← d1]; rfl, by rw [e2, ← d2]; rfl⟩
theorem zt62 {p : Prop} (h : p := by
 refine ⟨?_, e1⟩;refine e0.trans ?_
 congr 2; apply ByteArray.ext; apply Array.toList_inj.1; exact d0.symm) : p := h
theorem zzat {W : World} {base : Nat} {sp : Nat → Bool} {fuel : Nat} {cs : List Value} {p : List MemPlace}
  (h : DataW.trod (funcToken Tryz.prog) Tryz.prog W base sp true fuel 157 cs = some ((.agg [.agg [.lit (.string [63]), .held [101, 110, 103, 114, 111, 115, 115, 47, 114, 117, 108, 101, 115, 46, 114, 101, 108, 97, 116, 105, 111, 110, 115, 36, 49]], .agg [.lit (.string [60, 61]), .held [101, 110, 103, 114, 111, 115, 115, 47, 114, 117, 108, 101, 115, 46, 114, 101, 108, 97, 116, 105, 111, 110, 115, 36, 50]], .agg [.lit (.string [62, 61]), .held [101, 110, 103, 114, 111, 115, 115, 47, 114, 117, 108, 101, 115, 46, 114, 101, 108, 97, 116, 105, 111, 110, 115, 36, 51]], .agg [.lit (.string [61]), .held [101, 110, 103, 114, 111, 115, 115, 47, 114, 117, 108, 101, 115, 46, 114, 101, 108, 97, 116, 105, 111, 110, 115, 36, 52]]]), p)) :
  (cs[0]? = some (.string ⟨#[63]⟩) ∧ cs[1]? = some (.func (.func 236) #[] #[])) ∧ (cs[2]? = some (.string ⟨#[60, 61]⟩) ∧ cs[3]? = some (.func (.func 237) #[] #[])) ∧
  (cs[4]? = some (.string ⟨#[62, 61]⟩) ∧ cs[5]? = some (.func (.func 238) #[] #[])) ∧ (cs[6]? = some (.string ⟨#[61]⟩) ∧ cs[7]? = some (.func (.func 239) #[] #[])) := by
 obtain ⟨xs, m, _, hx, hl, hlen, hf⟩ := DataW.trod_array Tryz.underlying157 h;have hxs := congrArg Prod.fst hx;simp only [DataW.agg.injEq] at hxs;have r0 : cs[0 * 2]? = some (.string ⟨([63] : List UInt8).toArray⟩) ∧ cs[0 * 2 + 1]? = some (.func (.func 236) #[] #[]) := by
  obtain ⟨y, hy⟩ : ∃ y, xs[0]? = some y := ⟨xs[0]'zw, List.getElem?_eq_getElem zw⟩;have hf := (hf 0 zw).trans hy;rw [show Tryz.prog.cellsOf 156 = 2 by kernel_rfl] at hf
  obtain ⟨y0, y1, k, hyy, hln, h0, h1⟩ := trod_struct2 Tryz.underlying156 hf;have h0 : DataW.trod (funcToken Tryz.prog) Tryz.prog W base sp true k 9 ((((cs.drop (0 * 2)).take 2).drop 0).take 1) = some y0 := h0;have h1 : DataW.trod (funcToken Tryz.prog) Tryz.prog W base sp true k 114 ((((cs.drop (0 * 2)).take 2).drop 1).take 1) = some y1 := h1;obtain ⟨s, c0, rfl, _⟩ := DataW.trod_string Tryz.underlying9 h0;have e0 := zz45 (zz0z c0);have hln2 : ((cs.drop (0 * 2)).take 2).length = 2 := hln.trans zk;obtain ⟨v, hv⟩ : ∃ v, (((cs.drop (0 * 2)).take 2).drop 1).take 1 = [v] := by
   match hq : (cs.drop (0 * 2)).take 2, hln2 with
   | [a, b], _ => exact ⟨b, rfl⟩
  rw [hv] at h1;have e1 := zz45 (zz0z hv);have hd := congrArg (·[0]?) hxs;simp only [List.getElem?_map, hy, Option.map_some, List.getElem?_cons_zero, List.getElem?_cons_succ] at hd;rw [hyy] at hd;simp only [Option.some.injEq, DataW.agg.injEq, List.cons.injEq, DataW.lit.injEq, Lit.string.injEq, and_true] at hd;obtain ⟨d0, d1⟩ := hd;obtain ⟨z1, z2⟩ := y1;simp only [] at d1;subst d1;obtain rfl := func_of_trod (f0 := 236) Tryz.underlying114 zk h1;exact zt62
 have r1 : cs[1 * 2]? = some (.string ⟨([60, 61] : List UInt8).toArray⟩) ∧ cs[1 * 2 + 1]? = some (.func (.func 237) #[] #[]) := by
  obtain ⟨y, hy⟩ : ∃ y, xs[1]? = some y := ⟨xs[1]'zw, List.getElem?_eq_getElem zw⟩;have hf := (hf 1 zw).trans hy;rw [show Tryz.prog.cellsOf 156 = 2 by kernel_rfl] at hf
  obtain ⟨y0, y1, k, hyy, hln, h0, h1⟩ := trod_struct2 Tryz.underlying156 hf;have h0 : DataW.trod (funcToken Tryz.prog) Tryz.prog W base sp true k 9 ((((cs.drop (1 * 2)).take 2).drop 0).take 1) = some y0 := h0;have h1 : DataW.trod (funcToken Tryz.prog) Tryz.prog W base sp true k 114 ((((cs.drop (1 * 2)).take 2).drop 1).take 1) = some y1 := h1;obtain ⟨s, c0, rfl, _⟩ := DataW.trod_string Tryz.underlying9 h0;have e0 := zz45 (zz0z c0);have hln2 : ((cs.drop (1 * 2)).take 2).length = 2 := hln.trans zk;obtain ⟨v, hv⟩ : ∃ v, (((cs.drop (1 * 2)).take 2).drop 1).take 1 = [v] := by
   match hq : (cs.drop (1 * 2)).take 2, hln2 with
   | [a, b], _ => exact ⟨b, rfl⟩
  rw [hv] at h1;have e1 := zz45 (zz0z hv);have hd := congrArg (·[1]?) hxs;simp only [List.getElem?_map, hy, Option.map_some, List.getElem?_cons_zero, List.getElem?_cons_succ] at hd;rw [hyy] at hd;simp only [Option.some.injEq, DataW.agg.injEq, List.cons.injEq, DataW.lit.injEq, Lit.string.injEq, and_true] at hd;obtain ⟨d0, d1⟩ := hd;obtain ⟨z1, z2⟩ := y1;simp only [] at d1;subst d1;obtain rfl := func_of_trod (f0 := 237) Tryz.underlying114 zk h1;exact zt62
 have r2 : cs[2 * 2]? = some (.string ⟨([62, 61] : List UInt8).toArray⟩) ∧ cs[2 * 2 + 1]? = some (.func (.func 238) #[] #[]) := by
  obtain ⟨y, hy⟩ : ∃ y, xs[2]? = some y := ⟨xs[2]'zw, List.getElem?_eq_getElem zw⟩;have hf := (hf 2 zw).trans hy;rw [show Tryz.prog.cellsOf 156 = 2 by kernel_rfl] at hf
  obtain ⟨y0, y1, k, hyy, hln, h0, h1⟩ := trod_struct2 Tryz.underlying156 hf;have h0 : DataW.trod (funcToken Tryz.prog) Tryz.prog W base sp true k 9 ((((cs.drop (2 * 2)).take 2).drop 0).take 1) = some y0 := h0;have h1 : DataW.trod (funcToken Tryz.prog) Tryz.prog W base sp true k 114 ((((cs.drop (2 * 2)).take 2).drop 1).take 1) = some y1 := h1;obtain ⟨s, c0, rfl, _⟩ := DataW.trod_string Tryz.underlying9 h0;have e0 := zz45 (zz0z c0);have hln2 : ((cs.drop (2 * 2)).take 2).length = 2 := hln.trans zk;obtain ⟨v, hv⟩ : ∃ v, (((cs.drop (2 * 2)).take 2).drop 1).take 1 = [v] := by
   match hq : (cs.drop (2 * 2)).take 2, hln2 with
   | [a, b], _ => exact ⟨b, rfl⟩
  rw [hv] at h1;have e1 := zz45 (zz0z hv);have hd := congrArg (·[2]?) hxs;simp only [List.getElem?_map, hy, Option.map_some, List.getElem?_cons_zero, List.getElem?_cons_succ] at hd;rw [hyy] at hd;simp only [Option.some.injEq, DataW.agg.injEq, List.cons.injEq, DataW.lit.injEq, Lit.string.injEq, and_true] at hd;obtain ⟨d0, d1⟩ := hd;obtain ⟨z1, z2⟩ := y1;simp only [] at d1;subst d1;obtain rfl := func_of_trod (f0 := 238) Tryz.underlying114 zk h1;exact zt62
 have r3 : cs[3 * 2]? = some (.string ⟨([61] : List UInt8).toArray⟩) ∧ cs[3 * 2 + 1]? = some (.func (.func 239) #[] #[]) := by
  obtain ⟨y, hy⟩ : ∃ y, xs[3]? = some y := ⟨xs[3]'zw, List.getElem?_eq_getElem zw⟩;have hf := (hf 3 zw).trans hy;rw [show Tryz.prog.cellsOf 156 = 2 by kernel_rfl] at hf
  obtain ⟨y0, y1, k, hyy, hln, h0, h1⟩ := trod_struct2 Tryz.underlying156 hf;have h0 : DataW.trod (funcToken Tryz.prog) Tryz.prog W base sp true k 9 ((((cs.drop (3 * 2)).take 2).drop 0).take 1) = some y0 := h0;have h1 : DataW.trod (funcToken Tryz.prog) Tryz.prog W base sp true k 114 ((((cs.drop (3 * 2)).take 2).drop 1).take 1) = some y1 := h1;obtain ⟨s, c0, rfl, _⟩ := DataW.trod_string Tryz.underlying9 h0;have e0 := zz45 (zz0z c0);have hln2 : ((cs.drop (3 * 2)).take 2).length = 2 := hln.trans zk;obtain ⟨v, hv⟩ : ∃ v, (((cs.drop (3 * 2)).take 2).drop 1).take 1 = [v] := by
   match hq : (cs.drop (3 * 2)).take 2, hln2 with
   | [a, b], _ => exact ⟨b, rfl⟩
  rw [hv] at h1;have e1 := zz45 (zz0z hv);have hd := congrArg (·[3]?) hxs;simp only [List.getElem?_map, hy, Option.map_some, List.getElem?_cons_zero, List.getElem?_cons_succ] at hd;rw [hyy] at hd;simp only [Option.some.injEq, DataW.agg.injEq, List.cons.injEq, DataW.lit.injEq, Lit.string.injEq, and_true] at hd;obtain ⟨d0, d1⟩ := hd;obtain ⟨z1, z2⟩ := y1;simp only [] at d1;subst d1;obtain rfl := func_of_trod (f0 := 239) Tryz.underlying114 zk h1;exact zt62
 exact ⟨r0, r1, r2, r3⟩
theorem law16_of {W : World} (h : laidMetH Tryz.prog [("engross/rules.table", Rows.laid_engross_rules_table), ("engross/rules.relations", Rows.laid_engross_rules_relations)] W) : Hid (Law16 W) := by
 have hrel := h.funcs (n := "engross/rules.relations") (d := .agg [.agg [.lit (.string [63]), .iface "func" (.lit (.string [101, 110, 103, 114, 111, 115, 115, 47, 114, 117, 108, 101, 115, 46, 114, 101, 108, 97, 116, 105, 111, 110, 115, 36, 49]))], .agg [.lit (.string [60, 61]), .iface "func" (.lit (.string [101, 110, 103, 114, 111, 115, 115, 47, 114, 117, 108, 101, 115, 46, 114, 101, 108, 97, 116, 105, 111, 110, 115, 36, 50]))], .agg [.lit (.string [62, 61]), .iface "func" (.lit (.string [101, 110, 103, 114, 111, 115, 115, 47, 114, 117, 108, 101, 115, 46, 114, 101, 108, 97, 116, 105, 111, 110, 115, 36, 51]))], .agg [.lit (.string [61]), .iface "func" (.lit (.string [101, 110, 103, 114, 111, 115, 115, 47, 114, 117, 108, 101, 115, 46, 114, 101, 108, 97, 116, 105, 111, 110, 115, 36, 52]))]]) (by simp [Rows.laid_engross_rules_relations])
 obtain ⟨g, t, cs, fuel, p, hg, ht, hv, hd⟩ := hrel;obtain rfl := Option.some.inj (gRels.symm.trans hg);obtain rfl := Option.some.inj (gRelsType.symm.trans ht);obtain ⟨⟨a0, a1⟩, ⟨b0, b1⟩, ⟨c0, c1⟩, ⟨d0, d1⟩⟩ := zzat hd;have hcell : ∀ i v, cs.toList[i]? = some v → W.cell? ⟨1, i, none⟩ = some v := fun i v hi => by
  rw [World.var?_cell hg hv i, ← Array.getElem?_toList]; exact hi
 have hltr : 1 < W.heap.size := World.block_lt_of_cell? _ _ (hcell 0 _ a0);have hp := (show laidMet Tryz.prog [("engross/rules.table", Rows.laid_engross_rules_table)] W ∧ handlesMet Tryz.prog _ W from h).1
 obtain ⟨ps, hl, _⟩ := hp;have hl' : DataW.LaidVars Tryz.prog W [("engross/rules.table", .agg (Rule.rows.map fun r => .agg [.lit (.string r.1), .lit (.int .i64 (r.2.1 : Nat)), .lit (.int .i64 (r.2.2 : Nat))]))] ps := hl
 obtain ⟨g2, t2, cs2, fuel2, p2, q2, hg2, ht2, hv2, hd2, _⟩ := hl';obtain rfl := Option.some.inj (gRules.symm.trans hg2);obtain rfl := Option.some.inj (gRulesType.symm.trans ht2);have hcell2 : ∀ i v, cs2.toList[i]? = some v → W.cell? ⟨3, i, none⟩ = some v := fun i v hi => by
  rw [World.var?_cell hg2 hv2 i, ← Array.getElem?_toList]; exact hi
 have hrc := zz9i hd2;refine zH ⟨⟨fun n hn => ⟨hcell2 _ _ (hrc n hn).1, hcell2 _ _ (hrc n hn).2.1, hcell2 _ _ (hrc n hn).2.2⟩, World.block_lt_of_cell? _ _ (hcell2 _ _ (hrc 0 zx).1)⟩, ⟨⟨hcell _ _ a0, hcell _ _ a1⟩, ⟨hcell _ _ b0, hcell _ _ b1⟩, ⟨hcell _ _ c0, hcell _ _ c1⟩, ⟨hcell _ _ d0, hcell _ _ d1⟩, hltr⟩⟩
def tabCells (cs : Array Value) : Obj → Obj
 | .cells _ t frozen => .cells cs t frozen
 | o => o
def ruleCells : List Value := Rule.rows.flatMap fun r => [.string ⟨r.1.toArray⟩, .int .i64 (r.2.1 : Nat), .int .i64 (r.2.2 : Nat)]
def relsCells : List Value := [.string ⟨#[63]⟩, .func (.func 236) #[] #[], .string ⟨#[60, 61]⟩, .func (.func 237) #[] #[], .string ⟨#[62, 61]⟩, .func (.func 238) #[] #[], .string ⟨#[61]⟩, .func (.func 239) #[] #[]]
noncomputable def gateWorld (os : Os) : World :=
 { World.holding Tryz.prog os ⟨#[], #[], []⟩ with heap := ((World.holding Tryz.prog os ⟨#[], #[], []⟩).heap.modify 3 (tabCells ruleCells.toArray)).modify 1 (tabCells relsCells.toArray) }
end
section
open Go Go.ChangeShapes Go.WideShapes Go.Deep Go.ChangeAt Go.RowKit
section
variable {H : Type} {enc : TypeId × Value → H} {P : Program} {w : World}
theorem open_recs {t e : TypeId} {fs : Array Field} (ht : P.underlying t = some (.slice e)) (he : P.underlying e = some (.struct fs)) (hone : oneCellFields P fs = true) (hC : P.cellsOf e = fs.size) (hpos : 0 < fs.size)
  (hI : ∀ (j : Nat) (f : Field), fs[j]? = some f → P.underlying f.type = some (.int .i64)) {m : Nat} {c : Value} {y : DataW H × List MemPlace} (hf : DataW.trod enc P w 0 (fun _ => true) true m t [c] = some y) :
  ∃ l : List (List Int), RowAt w c fs.size l ∧ l.length ≤ maxLen ∧ ∀ r ∈ l, ∀ x ∈ r, I64 x := by
 rcases open_slice ht hf with ⟨hcs, _⟩ | ⟨a, len, cap, m', n, D, Pl, hcs, hb, hl, hm, hmm, _, hi⟩
 ·have hcs := List.cons.inj hcs |>.1
  subst hcs;exact ⟨[], ⟨none, 0, rfl, fun r hr => by simp at hr, .inl rfl⟩, Nat.zero_le _, fun r hr => by simp at hr⟩
 ·have hcs := List.cons.inj hcs |>.1
  subst hcs;simp only [if_true] at hmm;subst hmm;have hA : ∀ ij : Nat × Nat, ∃ x : Int, ij.1 < len → ij.2 < fs.size → ((∃ b o, a = ⟨b, o, none⟩ ∧ b < w.heap.size ∧ w.cell? ⟨b, o + ij.1 * fs.size + ij.2, none⟩ = some (.int .i64 x)) ∧ I64 x) := by
   rintro ⟨i, j⟩;by_cases hin : i < len
   ·by_cases hjn : j < fs.size
    ·obtain ⟨cs', hc, ht'⟩ := hi i zw
     rw [hC] at hc;obtain ⟨_, hcl, hat⟩ := World.cells?_some hc;obtain ⟨ys, n', _, _, _, hyl, hff⟩ := DataW.trod_struct he ht';have hfj : fs[j]? = some fs[j] := Array.getElem?_eq_getElem hjn;obtain ⟨ho, hk⟩ := hone_of hone j _ hfj;have hcell := hat j hjn;rw [List.getElem?_eq_getElem zw] at hcell;have h1 := hff j _ hfj;rw [ho, hk] at h1;have hone' : (cs'.drop j).take 1 = [cs'[j]'zw] := by
      rw [List.drop_eq_getElem_cons zw]
      rfl
     rw [hone', List.getElem?_eq_getElem zw] at h1;obtain ⟨x, hx, hwf⟩ := leaf_int (hI j _ hfj) h1;rw [hx] at hcell;have hsp0 : a.spot = none := by
      obtain ⟨cs0, hc0, _⟩ := hi 0 zw;rw [hC] at hc0;obtain ⟨_, hcl0, hat0⟩ := World.cells?_some hc0;have h2 := hat0 0 hpos;rw [Nat.zero_mul] at h2;have e0 : (a.add 0).add 0 = a := by simp [Addr.add]
      rw [e0, List.getElem?_eq_getElem zw] at h2;exact spot_none h2
     have h0 := addr_none hsp0;generalize a.block = b at h0;generalize a.off = o at h0;subst h0;rw [add_at, add_at] at hcell;exact ⟨x, fun _ _ => ⟨⟨b, o, rfl, World.block_lt_of_cell? w _ hcell, hcell⟩, (wf_i64 hwf).out⟩⟩
    ·exact ⟨0, fun _ h => absurd h hjn⟩
   ·exact ⟨0, fun h => absurd h hin⟩
  obtain ⟨g, hg⟩ := Classical.axiomOfChoice hA;have hk : ∀ r ∈ (List.range len).map (fun i => (List.range fs.size).map fun j => g (i, j)), r.length = fs.size := fun r hr => by
   obtain ⟨i, _, rfl⟩ := List.mem_map.1 hr;simp
  have hlen : ((List.range len).map (fun i => (List.range fs.size).map fun j => g (i, j))).length = len := by simp
  refine ⟨(List.range len).map (fun i => (List.range fs.size).map fun j => g (i, j)), ⟨some a, m', by rw [hlen], hk, ?_⟩, by rw [hlen]; omega, fun r hr x hx => ?_⟩
  ·by_cases h0 : len = 0
   ·subst h0; exact .inl rfl
   ·obtain ⟨⟨b, o, rfl, hbl, _⟩, _⟩ := hg (0, 0) (by show 0 < len; omega) hpos
    refine .inr ⟨b, o, rfl, hbl, fun j x hj => ?_⟩
    have hjl := (List.getElem?_eq_some_iff.1 hj).1;rw [zz85 hk, hlen] at hjl;have hd : j / fs.size < len := (Nat.div_lt_iff_lt_mul hpos).2 hjl;have hmd : j % fs.size < fs.size := Nat.mod_lt _ hpos;have h1 := zz86 (l := (List.range len).map (fun i => (List.range fs.size).map fun j => g (i, j))) (i := j / fs.size) (j := j % fs.size) hk (by rw [List.getElem?_map, List.getElem?_range hd]; rfl) (x := g (j / fs.size, j % fs.size)) (by rw [List.getElem?_map, List.getElem?_range hmd]; rfl)
    have hj' : j / fs.size * fs.size + j % fs.size = j := by rw [Nat.mul_comm]; exact Nat.div_add_mod j fs.size
    rw [hj', hj] at h1;injection h1 with h1
    obtain ⟨⟨b', o', he', _, hcell⟩, _⟩ := hg (j / fs.size, j % fs.size) hd hmd;injection he' with hb' ho'
    subst hb' ho' h1;simp only at hcell;rw [Nat.add_assoc, hj'] at hcell;exact hcell
  ·obtain ⟨i, hi', rfl⟩ := List.mem_map.1 hr
   obtain ⟨j, hj', rfl⟩ := List.mem_map.1 hx;exact (hg (i, j) (by simpa using hi') (by simpa using hj')).2
end
def intF (P : Program) (fs : Array Field) : Bool := (List.range fs.size).all fun j => match fs[j]? with | some f => isI64 (P.underlying f.type) | none => true
theorem intF_spec {P : Program} {fs : Array Field} (h : intF P fs = true) (j : Nat) (f : Field) (hj : fs[j]? = some f) : P.underlying f.type = some (.int .i64) := by
 have h1 := List.all_eq_true.1 h j (List.mem_range.2 (zL hj));rw [hj] at h1;exact zzba h1
end
section
open Go Go.RowKit
section
variable {P : Program} {ops : Array Oper} {rest : List Oper} {o : Oper} {a : Act} {Q : Exit → Act → World → Prop}
theorem zt68 {p : Prop} (h : p := by
 intro u hu;rcases List.mem_append.1 hu with hu | hu
 ·exact hk u hu
 ·simp at hu; rw [hu]; exact hr) : p := h
theorem zt70 {p : Prop} (h : p := by
 intro j u hj;rw [Addr.add_lit, Nat.zero_add];exact zz00 (zz02 wr (.cells (r.map (Value.int .i64)).toArray e)) j u (by simpa using hj)) : p := h
theorem zt83 {p : Prop} (h : p := by
 rw [List.length_append, zz0i, show flatC [r] = r.map (Value.int .i64) by simp [flatC]]
 exact h1) : p := h
theorem zz0g {wr W : World} {B : Nat} (s x : Operand) (t e : TypeId) (z : Value) (k bytes : Nat) (he : Elt P t e z k bytes) (r : List Int) (v : Value) (l : List (List Int))
  (hb : Below B W wr) (hown : Hid (RowOwn wr B e v k l)) (hB : B ≤ wr.heap.size) (hgd : o.guard = none) (ho : o.op = .call { callee := .builtin .append, args := #[s, x], argTypes := #[t, t] })
  (hs : a.eval s = v) (hx : a.eval x = .slice (some ⟨wr.heap.size, 0, none⟩) 1 1) (hr : r.length = k) (hn : l.length + 1 ≤ 4000000) (hby : bytes ≤ 64)
  (h : ∀ v' w', Hid (RowOwn w' B e v' k (l ++ [r])) → Hid (Below B W w') → B ≤ w'.heap.size → wpList P ops Q rest (a.put o.dst v') w') :
  wpList P ops Q (o :: rest) a (wr.alloc (.cells (r.map (Value.int .i64)).toArray e)) := by
 obtain ⟨i, hi, hz, hsz, hbs⟩ := he.info;obtain ⟨ho', hk⟩ := hown.out;refine wpList_append_own _ hgd s x t ho B e i z k bytes he.und hi hz hsz hbs he.zs he.pos v l.length (flatC l) hs (ho'.alloc _) ⟨wr.heap.size, 0, none⟩ 1 1 (r.map (Value.int .i64)) hx (by rw [List.length_map, hr, Nat.one_mul]) ?_ ?_ ?_ ?_ ?_ ?_
 ·exact zt70
 ·intro u hu; obtain ⟨y, _, rfl⟩ := List.mem_map.1 hu; rfl
 ·unfold maxLen; omega
 ·have h1 := Nat.mul_le_mul hn hby; omega
 ·simp; omega
 ·intro v' w' h1 h2 _
  refine h v' w' ⟨?_, ?_⟩ ((hb.alloc hB _).grown h2 (by simp; omega) (fun q hq => (ho'.lt q hq).1)) ?_
  ·exact zt83
  ·exact zt68
  ·have := h2.size; simp at this; omega
end
def set5R (w : World) (g : Nat) (a0 a1 a2 a3 a4 : Value) : World := ((((w.setCell ⟨g, 0, none⟩ a0).setCell ⟨g, 1, none⟩ a1).setCell ⟨g, 2, none⟩ a2).setCell ⟨g, 3, none⟩ a3).setCell ⟨g, 4, none⟩ a4
theorem zz9g {B : Nat} {a w : World} {g : Nat} (h : Below B a w) (hg : B ≤ g) (a0 a1 a2 a3 a4 : Value) : Below B a (set5R w g a0 a1 a2 a3 a4) :=
 ((((h.setCell (p := ⟨g, 0, none⟩) hg a0).setCell (p := ⟨g, 1, none⟩) hg a1).setCell (p := ⟨g, 2, none⟩) hg a2).setCell (p := ⟨g, 3, none⟩) hg a3).setCell (p := ⟨g, 4, none⟩) hg a4
theorem RowOwn.set5R {w : World} {B : Nat} {e : TypeId} {v : Value} {k : Nat} {l : List (List Int)} (h : RowOwn w B e v k l) {g : Nat} (hg : g < B) (a0 a1 a2 a3 a4 : Value) : RowOwn (set5R w g a0 a1 a2 a3 a4) B e v k l :=
 ((((h.setBelow (a := ⟨g, 0, none⟩) hg a0).setBelow (a := ⟨g, 1, none⟩) hg a1).setBelow (a := ⟨g, 2, none⟩) hg a2).setBelow (a := ⟨g, 3, none⟩) hg a3).setBelow (a := ⟨g, 4, none⟩) hg a4
theorem setK_step {ge ne : List Int → Bool} {x : List Int} {d : Bool} {l : List (List Int)} {i : Nat} {r : List Int} (h : l[i]? = some r) : setK ge ne x d (l.drop i) = (if !d && ge r then [x] else []) ++ ((if ne r then [r] else []) ++ setK ge ne x (d || ge r) (l.drop (i + 1))) := by
 obtain ⟨hi, rfl⟩ := List.getElem?_eq_some_iff.1 h;rw [List.drop_eq_getElem_cons hi, setK]
section
variable {P : Program} {ops : Array Oper} {rest : List Oper} {o : Oper} {a : Act} {Q : Exit → Act → World → Prop}
theorem zz18 {wr W : World} {B p : Nat} (s x : Operand) (t e : TypeId) (z : Value) (k bytes : Nat) (he : Elt P t e z k bytes) (r : List Int) (v : Value) (l : List (List Int))
  (hb : Below B W wr) (hown : Hid (RowOwn wr B e v k l)) (hB : B ≤ wr.heap.size) (hgd : o.guard = none) (ho : o.op = .call { callee := .builtin .append, args := #[s, x], argTypes := #[t, t] })
  (hs : a.eval s = v) (hx : a.eval x = .slice (some ⟨p, 0, none⟩) 1 1) (hp : p = wr.heap.size) (hr : r.length = k) (hn : l.length + 1 ≤ 4000000) (hby : bytes ≤ 64)
  (h : ∀ v' w', Hid (RowOwn w' B e v' k (l ++ [r])) → Hid (Below B W w') → B ≤ w'.heap.size → Hid (∀ (g : Nat) (ob : Obj), v.ownBlock ≠ some g → wr.heap[g]? = some ob → w'.heap[g]? = some ob) → wpList P ops Q rest (a.put o.dst v') w') :
  wpList P ops Q (o :: rest) a (wr.alloc (.cells (r.map (Value.int .i64)).toArray e)) := by
 subst hp;obtain ⟨i, hi, hz, hsz, hbs⟩ := he.info;obtain ⟨ho', hk⟩ := hown.out;refine wpList_append_own _ hgd s x t ho B e i z k bytes he.und hi hz hsz hbs he.zs he.pos v l.length (flatC l) hs (ho'.alloc _) ⟨wr.heap.size, 0, none⟩ 1 1 (r.map (Value.int .i64)) hx (by rw [List.length_map, hr, Nat.one_mul]) ?_ ?_ ?_ ?_ ?_ ?_
 ·exact zt70
 ·intro u hu; obtain ⟨y, _, rfl⟩ := List.mem_map.1 hu; rfl
 ·unfold maxLen; omega
 ·have h1 := Nat.mul_le_mul hn hby; omega
 ·simp; omega
 ·intro v' w' h1 h2 _
  refine h v' w' ⟨?_, ?_⟩ ((hb.alloc hB _).grown h2 (by simp; omega) (fun q hq => (ho'.lt q hq).1)) ?_ ?_
  ·exact zt83
  ·exact zt68
  ·have := h2.size; simp at this; omega
  ·intro g ob hne hg
   have hlt := zL hg;rw [h2.block g (by simp; omega) (fun e => hne e.symm)]
   exact zz05 hg _
end
theorem zzc7 (r a b : Int) (w : World) : Calls Tryz.prog 91 #[.agg #[r, a, b, .bool true]] w fun e w' => e = .returned (.bool false) ∧ Below w.heap.size w w' := by
 have hb := (Below.refl w.heap.size w).alloc (Nat.le_refl _) (.cells #[r, a, b, .bool true] 65);have HB := zH hb;clear hb;go_in;go_wp2_with fail;go_region;go_wp2_with fail;go_ret;exact ⟨rfl, HB.out.drew⟩
theorem zt18 {p : Prop} (h : p := by
 unfold wpPure;go_simp;refine zW 14 ?_;go_wp2_with fail;(with_reducible refine (qf.out _).mono ?_);rintro e w3 ⟨rfl, rfl⟩;go_wp2_with fail;refine zQs (fun _ => HC) ?_
 refine zM [15] 1 HC ?_;simp only [opsAt, zA];refine zp ?_;unfold wpPure;go_simp;refine zW 16 ?_;go_wp2_with fail;refine zQs (fun _ => HC) ?_
 refine zQe ?_;go_wp2_with fail;go_ret;exact ⟨rfl, by rw [HG.out]; exact HB.out.trans (HC.out.mono (Nat.le_of_lt C0.out.2.2.2.2))⟩) : p := h
theorem zt66 {p : Prop} (h : p := by
 have h1 := zz8c r hr w1.drew (zH (hT1.out.call (Below.refl _ _).drew).rules);rw [h] at h1;exact h1) : p := h
theorem zzc6 (r a b : Int) (hr : I64 r) (h : relS r = 0) (w : World) (hT : Hid (Law16 w)) : Calls Tryz.prog 91 #[.agg #[r, a, b, .bool false]] w fun e w' => e = .returned (.bool (false)) ∧ Below w.heap.size w w' := by
 have hb := (Below.refl w.heap.size w).alloc (Nat.le_refl _) (.cells #[r, a, b, .bool false] 65);have HB := zH hb;have hT1 := zH (hT.out.call hb);have hk : (w.alloc (.cells #[r, a, b, .bool false] 65)).heap[w.heap.size]? = some (.cells #[r, a, b, .bool false] 65) := zz02 _ _;have c0 := zz00 hk 0 _ rfl;have c1 := zz00 hk 1 _ rfl;have c2 := zz00 hk 2 _ rfl;have c3 := zz00 hk 3 _ rfl;have lt : w.heap.size < (w.alloc (.cells #[r, a, b, .bool false] 65)).heap.size := zL hk;clear hk hb;have C0 := zH (And.intro c0 (And.intro c1 (And.intro c2 (And.intro c3 lt))));clear c0 c1 c2 c3 lt;have qf := zH (fun w => rel1_any a b w)
 go_in;go_wp2_with fail;generalize hG : w.heap.size = G at *;have HG := zH hG;clear hG;generalize w.alloc (.cells #[r, a, b, .bool false] 65) = w1 at *;have q : Hid (Calls Tryz.prog 117 #[.int .i64 r] w1.drew fun e w' => e = .returned (.int .i64 0) ∧ Below w1.drew.heap.size w1.drew w') := by
  exact zt66
 clear h;have HC : Hid (Below w1.heap.size w1 w1.drew) := (Below.refl _ _).drew;refine zz07 [] (fun wz => Hid (Below w1.heap.size w1 wz)) 17 (zb 17 0) zk zk zk ?_
 refine zM [0, 1, 2] 14 HC ?_;simp only [opsAt, zA];refine zp ?_;refine zz08 (.bool false) rfl (fun wz hC => by have h0 := ((Hid.out hC).cell (p := ⟨G, 3, none⟩) C0.out.2.2.2.2).trans C0.out.2.2.2.1; unfold execOp; go_simp) ?_
 refine zp ?_;unfold wpPure;go_simp;refine zM [3] 13 HC ?_;simp only [opsAt, zA];refine zp ?_;unfold wpPure;go_simp;refine zM [4, 5] 11 HC ?_;simp only [opsAt, zA];refine zp ?_;refine zz08 (.int .i64 r) rfl (fun wz hC => by have h0 := ((Hid.out hC).cell (p := ⟨G, 0, none⟩) C0.out.2.2.2.2).trans C0.out.1; unfold execOp; go_simp) ?_
 unfold wpPure;go_simp;refine zM [10, 11] 9 HC ?_;simp only [opsAt, zA];refine zp ?_;refine zz08 (.int .i64 a) rfl (fun wz hC => by have h0 := ((Hid.out hC).cell (p := ⟨G, 1, none⟩) C0.out.2.2.2.2).trans C0.out.2.1; unfold execOp; go_simp) ?_
 unfold wpPure;go_simp;refine zM [12, 13] 7 HC ?_;simp only [opsAt, zA];refine zp ?_;refine zz08 (.int .i64 b) rfl (fun wz hC => by have h0 := ((Hid.out hC).cell (p := ⟨G, 2, none⟩) C0.out.2.2.2.2).trans C0.out.2.2.1; unfold execOp; go_simp) ?_
 unfold wpPure;go_simp;refine zW 6 ?_;go_wp2_with fail;(with_reducible refine q.out.mono ?_);rintro e w2 ⟨rfl, hb⟩;replace HC : Hid (Below w1.heap.size w1 w2) := HC.out.trans hb;clear hb;go_wp2_with fail;refine zQs (fun _ => HC) ?_
 have hR := hT1.out.rels;have g0 := hR.c0.2;have g1 := hR.lt;have G1 := zH (And.intro g0 g1);clear g0 g1 hR;refine zM [7, 8, 9] 3 HC ?_;simp only [opsAt, zA]
 iterate 2 refine zp ?_
 refine zz08 (.func (.func 236) #[] #[]) rfl (fun wz hC => by have h0 := ((Hid.out hC).cell (p := ⟨1, 1, none⟩) G1.out.2).trans G1.out.1; unfold execOp; go_simp) ?_
 exact zt18
theorem zzc5 (r a b : Int) (hr : I64 r) (h : relS r = 1) (w : World) (hT : Hid (Law16 w)) : Calls Tryz.prog 91 #[.agg #[r, a, b, .bool false]] w fun e w' => e = .returned (.bool (decide (a ≤ b))) ∧ Below w.heap.size w w' := by
 have hb := (Below.refl w.heap.size w).alloc (Nat.le_refl _) (.cells #[r, a, b, .bool false] 65);have HB := zH hb;have hT1 := zH (hT.out.call hb);have hk : (w.alloc (.cells #[r, a, b, .bool false] 65)).heap[w.heap.size]? = some (.cells #[r, a, b, .bool false] 65) := zz02 _ _;have c0 := zz00 hk 0 _ rfl;have c1 := zz00 hk 1 _ rfl;have c2 := zz00 hk 2 _ rfl;have c3 := zz00 hk 3 _ rfl;have lt : w.heap.size < (w.alloc (.cells #[r, a, b, .bool false] 65)).heap.size := zL hk;clear hk hb;have C0 := zH (And.intro c0 (And.intro c1 (And.intro c2 (And.intro c3 lt))));clear c0 c1 c2 c3 lt;have qf := zH (fun w => rel2_any a b w)
 obtain ⟨z, hz⟩ : ∃ z, (decide (a ≤ b)) = z := ⟨_, rfl⟩;rw [hz] at qf ⊢;clear hz;go_in;go_wp2_with fail;generalize hG : w.heap.size = G at *;have HG := zH hG;clear hG;generalize w.alloc (.cells #[r, a, b, .bool false] 65) = w1 at *;have q : Hid (Calls Tryz.prog 117 #[.int .i64 r] w1.drew fun e w' => e = .returned (.int .i64 1) ∧ Below w1.drew.heap.size w1.drew w') := by
  exact zt66
 clear h;have HC : Hid (Below w1.heap.size w1 w1.drew) := (Below.refl _ _).drew;refine zz07 [] (fun wz => Hid (Below w1.heap.size w1 wz)) 17 (zb 17 0) zk zk zk ?_
 refine zM [0, 1, 2] 14 HC ?_;simp only [opsAt, zA];refine zp ?_;refine zz08 (.bool false) rfl (fun wz hC => by have h0 := ((Hid.out hC).cell (p := ⟨G, 3, none⟩) C0.out.2.2.2.2).trans C0.out.2.2.2.1; unfold execOp; go_simp) ?_
 refine zp ?_;unfold wpPure;go_simp;refine zM [3] 13 HC ?_;simp only [opsAt, zA];refine zp ?_;unfold wpPure;go_simp;refine zM [4, 5] 11 HC ?_;simp only [opsAt, zA];refine zp ?_;refine zz08 (.int .i64 r) rfl (fun wz hC => by have h0 := ((Hid.out hC).cell (p := ⟨G, 0, none⟩) C0.out.2.2.2.2).trans C0.out.1; unfold execOp; go_simp) ?_
 unfold wpPure;go_simp;refine zM [10, 11] 9 HC ?_;simp only [opsAt, zA];refine zp ?_;refine zz08 (.int .i64 a) rfl (fun wz hC => by have h0 := ((Hid.out hC).cell (p := ⟨G, 1, none⟩) C0.out.2.2.2.2).trans C0.out.2.1; unfold execOp; go_simp) ?_
 unfold wpPure;go_simp;refine zM [12, 13] 7 HC ?_;simp only [opsAt, zA];refine zp ?_;refine zz08 (.int .i64 b) rfl (fun wz hC => by have h0 := ((Hid.out hC).cell (p := ⟨G, 2, none⟩) C0.out.2.2.2.2).trans C0.out.2.2.1; unfold execOp; go_simp) ?_
 unfold wpPure;go_simp;refine zW 6 ?_;go_wp2_with fail;(with_reducible refine q.out.mono ?_);rintro e w2 ⟨rfl, hb⟩;replace HC : Hid (Below w1.heap.size w1 w2) := HC.out.trans hb;clear hb;go_wp2_with fail;refine zQs (fun _ => HC) ?_
 have hR := hT1.out.rels;have g0 := hR.c1.2;have g1 := hR.lt;have G1 := zH (And.intro g0 g1);clear g0 g1 hR;refine zM [7, 8, 9] 3 HC ?_;simp only [opsAt, zA]
 iterate 2 refine zp ?_
 refine zz08 (.func (.func 237) #[] #[]) rfl (fun wz hC => by have h0 := ((Hid.out hC).cell (p := ⟨1, 3, none⟩) G1.out.2).trans G1.out.1; unfold execOp; go_simp) ?_
 exact zt18
theorem zzc4 (r a b : Int) (hr : I64 r) (h : relS r = 2) (w : World) (hT : Hid (Law16 w)) : Calls Tryz.prog 91 #[.agg #[r, a, b, .bool false]] w fun e w' => e = .returned (.bool (decide (b ≤ a))) ∧ Below w.heap.size w w' := by
 have hb := (Below.refl w.heap.size w).alloc (Nat.le_refl _) (.cells #[r, a, b, .bool false] 65);have HB := zH hb;have hT1 := zH (hT.out.call hb);have hk : (w.alloc (.cells #[r, a, b, .bool false] 65)).heap[w.heap.size]? = some (.cells #[r, a, b, .bool false] 65) := zz02 _ _;have c0 := zz00 hk 0 _ rfl;have c1 := zz00 hk 1 _ rfl;have c2 := zz00 hk 2 _ rfl;have c3 := zz00 hk 3 _ rfl;have lt : w.heap.size < (w.alloc (.cells #[r, a, b, .bool false] 65)).heap.size := zL hk;clear hk hb;have C0 := zH (And.intro c0 (And.intro c1 (And.intro c2 (And.intro c3 lt))));clear c0 c1 c2 c3 lt;have qf := zH (fun w => rel3_any a b w)
 obtain ⟨z, hz⟩ : ∃ z, (decide (b ≤ a)) = z := ⟨_, rfl⟩;rw [hz] at qf ⊢;clear hz;go_in;go_wp2_with fail;generalize hG : w.heap.size = G at *;have HG := zH hG;clear hG;generalize w.alloc (.cells #[r, a, b, .bool false] 65) = w1 at *;have q : Hid (Calls Tryz.prog 117 #[.int .i64 r] w1.drew fun e w' => e = .returned (.int .i64 2) ∧ Below w1.drew.heap.size w1.drew w') := by
  exact zt66
 clear h;have HC : Hid (Below w1.heap.size w1 w1.drew) := (Below.refl _ _).drew;refine zz07 [] (fun wz => Hid (Below w1.heap.size w1 wz)) 17 (zb 17 0) zk zk zk ?_
 refine zM [0, 1, 2] 14 HC ?_;simp only [opsAt, zA];refine zp ?_;refine zz08 (.bool false) rfl (fun wz hC => by have h0 := ((Hid.out hC).cell (p := ⟨G, 3, none⟩) C0.out.2.2.2.2).trans C0.out.2.2.2.1; unfold execOp; go_simp) ?_
 refine zp ?_;unfold wpPure;go_simp;refine zM [3] 13 HC ?_;simp only [opsAt, zA];refine zp ?_;unfold wpPure;go_simp;refine zM [4, 5] 11 HC ?_;simp only [opsAt, zA];refine zp ?_;refine zz08 (.int .i64 r) rfl (fun wz hC => by have h0 := ((Hid.out hC).cell (p := ⟨G, 0, none⟩) C0.out.2.2.2.2).trans C0.out.1; unfold execOp; go_simp) ?_
 unfold wpPure;go_simp;refine zM [10, 11] 9 HC ?_;simp only [opsAt, zA];refine zp ?_;refine zz08 (.int .i64 a) rfl (fun wz hC => by have h0 := ((Hid.out hC).cell (p := ⟨G, 1, none⟩) C0.out.2.2.2.2).trans C0.out.2.1; unfold execOp; go_simp) ?_
 unfold wpPure;go_simp;refine zM [12, 13] 7 HC ?_;simp only [opsAt, zA];refine zp ?_;refine zz08 (.int .i64 b) rfl (fun wz hC => by have h0 := ((Hid.out hC).cell (p := ⟨G, 2, none⟩) C0.out.2.2.2.2).trans C0.out.2.2.1; unfold execOp; go_simp) ?_
 unfold wpPure;go_simp;refine zW 6 ?_;go_wp2_with fail;(with_reducible refine q.out.mono ?_);rintro e w2 ⟨rfl, hb⟩;replace HC : Hid (Below w1.heap.size w1 w2) := HC.out.trans hb;clear hb;go_wp2_with fail;refine zQs (fun _ => HC) ?_
 have hR := hT1.out.rels;have g0 := hR.c2.2;have g1 := hR.lt;have G1 := zH (And.intro g0 g1);clear g0 g1 hR;refine zM [7, 8, 9] 3 HC ?_;simp only [opsAt, zA]
 iterate 2 refine zp ?_
 refine zz08 (.func (.func 238) #[] #[]) rfl (fun wz hC => by have h0 := ((Hid.out hC).cell (p := ⟨1, 5, none⟩) G1.out.2).trans G1.out.1; unfold execOp; go_simp) ?_
 exact zt18
theorem zzc3 (r a b : Int) (hr : I64 r) (h : relS r = 3) (w : World) (hT : Hid (Law16 w)) : Calls Tryz.prog 91 #[.agg #[r, a, b, .bool false]] w fun e w' => e = .returned (.bool (a == b)) ∧ Below w.heap.size w w' := by
 have hb := (Below.refl w.heap.size w).alloc (Nat.le_refl _) (.cells #[r, a, b, .bool false] 65);have HB := zH hb;have hT1 := zH (hT.out.call hb);have hk : (w.alloc (.cells #[r, a, b, .bool false] 65)).heap[w.heap.size]? = some (.cells #[r, a, b, .bool false] 65) := zz02 _ _;have c0 := zz00 hk 0 _ rfl;have c1 := zz00 hk 1 _ rfl;have c2 := zz00 hk 2 _ rfl;have c3 := zz00 hk 3 _ rfl;have lt : w.heap.size < (w.alloc (.cells #[r, a, b, .bool false] 65)).heap.size := zL hk;clear hk hb;have C0 := zH (And.intro c0 (And.intro c1 (And.intro c2 (And.intro c3 lt))));clear c0 c1 c2 c3 lt;have qf := zH (fun w => rel4_any a b w)
 obtain ⟨z, hz⟩ : ∃ z, (a == b) = z := ⟨_, rfl⟩;rw [hz] at qf ⊢;clear hz;go_in;go_wp2_with fail;generalize hG : w.heap.size = G at *;have HG := zH hG;clear hG;generalize w.alloc (.cells #[r, a, b, .bool false] 65) = w1 at *;have q : Hid (Calls Tryz.prog 117 #[.int .i64 r] w1.drew fun e w' => e = .returned (.int .i64 3) ∧ Below w1.drew.heap.size w1.drew w') := by
  exact zt66
 clear h;have HC : Hid (Below w1.heap.size w1 w1.drew) := (Below.refl _ _).drew;refine zz07 [] (fun wz => Hid (Below w1.heap.size w1 wz)) 17 (zb 17 0) zk zk zk ?_
 refine zM [0, 1, 2] 14 HC ?_;simp only [opsAt, zA];refine zp ?_;refine zz08 (.bool false) rfl (fun wz hC => by have h0 := ((Hid.out hC).cell (p := ⟨G, 3, none⟩) C0.out.2.2.2.2).trans C0.out.2.2.2.1; unfold execOp; go_simp) ?_
 refine zp ?_;unfold wpPure;go_simp;refine zM [3] 13 HC ?_;simp only [opsAt, zA];refine zp ?_;unfold wpPure;go_simp;refine zM [4, 5] 11 HC ?_;simp only [opsAt, zA];refine zp ?_;refine zz08 (.int .i64 r) rfl (fun wz hC => by have h0 := ((Hid.out hC).cell (p := ⟨G, 0, none⟩) C0.out.2.2.2.2).trans C0.out.1; unfold execOp; go_simp) ?_
 unfold wpPure;go_simp;refine zM [10, 11] 9 HC ?_;simp only [opsAt, zA];refine zp ?_;refine zz08 (.int .i64 a) rfl (fun wz hC => by have h0 := ((Hid.out hC).cell (p := ⟨G, 1, none⟩) C0.out.2.2.2.2).trans C0.out.2.1; unfold execOp; go_simp) ?_
 unfold wpPure;go_simp;refine zM [12, 13] 7 HC ?_;simp only [opsAt, zA];refine zp ?_;refine zz08 (.int .i64 b) rfl (fun wz hC => by have h0 := ((Hid.out hC).cell (p := ⟨G, 2, none⟩) C0.out.2.2.2.2).trans C0.out.2.2.1; unfold execOp; go_simp) ?_
 unfold wpPure;go_simp;refine zW 6 ?_;go_wp2_with fail;(with_reducible refine q.out.mono ?_);rintro e w2 ⟨rfl, hb⟩;replace HC : Hid (Below w1.heap.size w1 w2) := HC.out.trans hb;clear hb;go_wp2_with fail;refine zQs (fun _ => HC) ?_
 have hR := hT1.out.rels;have g0 := hR.c3.2;have g1 := hR.lt;have G1 := zH (And.intro g0 g1);clear g0 g1 hR;refine zM [7, 8, 9] 3 HC ?_;simp only [opsAt, zA]
 iterate 2 refine zp ?_
 refine zz08 (.func (.func 239) #[] #[]) rfl (fun wz hC => by have h0 := ((Hid.out hC).cell (p := ⟨1, 7, none⟩) G1.out.2).trans G1.out.1; unfold execOp; go_simp) ?_
 exact zt18
theorem zz6b (s : Stp) (hs : s.fit) (w : World) (hT : Hid (Law16 w)) : Calls Tryz.prog 91 #[s.val] w fun e w' => e = .returned (.bool s.holds) ∧ Below w.heap.size w w' := by
 obtain ⟨r, a, b, o⟩ := s;cases o with
 | true => exact zzc7 r a b w
 | false =>
  have hl := relS_lt r;have h4 : relS r = 0 ∨ relS r = 1 ∨ relS r = 2 ∨ relS r = 3 := by omega
  unfold Stp.holds;rcases h4 with h | h | h | h
  ·have := zzc6 r a b hs.1 h w hT
   rw [show (!(Stp.mk r a b false).over && Rule.is (relS (Stp.mk r a b false).rule) (Stp.mk r a b false).left (Stp.mk r a b false).right) = false by show (true && Rule.is (relS r) a b) = _; rw [h]; rfl]
   exact this
  ·have := zzc5 r a b hs.1 h w hT
   rw [show (!(Stp.mk r a b false).over && Rule.is (relS (Stp.mk r a b false).rule) (Stp.mk r a b false).left (Stp.mk r a b false).right) = decide (a ≤ b) by show (true && Rule.is (relS r) a b) = _; rw [h]; rfl]
   exact this
  ·have := zzc4 r a b hs.1 h w hT
   rw [show (!(Stp.mk r a b false).over && Rule.is (relS (Stp.mk r a b false).rule) (Stp.mk r a b false).left (Stp.mk r a b false).right) = decide (b ≤ a) by show (true && Rule.is (relS r) a b) = _; rw [h]; rfl]
   exact this
  ·have := zzc3 r a b hs.1 h w hT
   rw [show (!(Stp.mk r a b false).over && Rule.is (relS (Stp.mk r a b false).rule) (Stp.mk r a b false).left (Stp.mk r a b false).right) = (a == b) by show (true && Rule.is (relS r) a b) = _; rw [h]; rfl]
   exact this
end
section
open Go Go.RowKit Go.Maps Go.WideMaps Go.MapKept
theorem keyR : Keyed Tryz.prog 3 := int_keyed Tryz.underlying3
theorem i64_wfR {x : Int} (h : I64 x) : (Lit.int .i64 x).wf = true := by
 unfold I64 at h;simp [Lit.wf, IntKind.min, IntKind.max, IntKind.signed, IntKind.bits];omega
theorem zzaa (w : World) : (zeroValue 4).run Tryz.prog w = .ok (.bool false) w := by kernel_rfl
theorem grownR {w w' : World} (h : Below w.heap.size w w') : w.grownBy w' none := ⟨h.os, h.tape, h.output, h.size, fun k hk _ => h.block k hk⟩
theorem zz4v {w w' : World} {B b : Nat} (h : w.grownBy w' (some b)) (hb : B ≤ b) (hl : b < w.heap.size) : Below B w w' :=
 ⟨h.os, h.tape, h.output, h.size, fun k hk => h.block k zw (fun e => by cases e; omega)⟩
theorem key_litR (κ : Int) : WideAt.IsKeyLit (.int .i64 κ) := by first | trivial | exact ⟨_, _, rfl⟩ | simp [WideAt.IsKeyLit]
def SeenAt (w : World) (b n : Nat) (L : List Int) : Prop :=
 ∃ D : DataW Unit, w.ownsMap Tryz.prog 3 (plainElem Tryz.prog 4) b n D ∧ ∀ x, D.atKey (.int .i64 x) (.lit (.bool false)) = .lit (.bool (L.any fun y => y == x))
theorem SeenAt.made (w : World) : SeenAt (w.alloc (.map #[] 0)) w.heap.size 0 [] := ⟨.map [], World.ownsMap_made _ _ _ _, fun x => rfl⟩
theorem SeenAt.lt {w : World} {b n : Nat} {L : List Int} (h : SeenAt w b n L) : b < w.heap.size := by
 obtain ⟨D, h1, _⟩ := h;exact h1.lt
theorem SeenAt.call {w w' : World} {b n : Nat} {L : List Int} (h : SeenAt w b n L) (hb : Below w.heap.size w w') : SeenAt w' b n L := by
 obtain ⟨D, h1, h2⟩ := h;exact ⟨D, h1.kept (grownR hb) (by simp), h2⟩
theorem SeenAt.look {w : World} {b n : Nat} {L : List Int} (h : SeenAt w b n L) {r : Int} (hr : I64 r) {z : Bool} (hz : (L.any fun y => y == r) = z) : (Instr.lookup 211 (.map (some b)) (.int .i64 r) false).run Tryz.prog w = .ok (.bool z) w := by
 obtain ⟨D, h1, h2⟩ := h;obtain ⟨v, ps, hrun, hv⟩ := h1.lookup keyR Tryz.underlying211 (zzaa w) (plainElem_bool Tryz.underlying4 false) (keyOf_int_mk Tryz.underlying3 (i64_wfR hr));rw [h2 r, hz] at hv;have hvz : v = .bool z := by
  unfold plainElem at hv;rw [Tryz.underlying4] at hv;cases v <;> simp at hv
  obtain ⟨h1, _⟩ := hv;rw [h1]
 subst hvz;exact hrun
section
variable {ops : Array Oper} {rest : List Oper} {o : Oper} {a : Act} {Q : Exit → Act → World → Prop}
theorem any_snoc (L : List Int) (r x : Int) : ((L ++ [r]).any fun y => y == x) = ((L.any fun y => y == x) || (r == x)) := by simp
theorem zz1t (w : World) (hgd : o.guard = none) (m x v : Operand) (hop : o.op = Op.mapUpdate 211 m x v) {b n : Nat} {L : List Int} (h : Hid (SeenAt w b n L)) (hn : n ≤ 1000) (r : Int) (hr : I64 r)
  (hm : a.eval m = .map (some b)) (hx : a.eval x = .int .i64 r) (hv : a.eval v = .bool true) (hK : ∀ w', Hid (SeenAt w' b (n + 1) (L ++ [r])) → Hid (w.grownBy w' (some b)) → wpList Tryz.prog ops Q rest (a.put o.dst undef) w') : wpList Tryz.prog ops Q (o :: rest) a w := by
 obtain ⟨D, h1, h2⟩ := h.out;refine wpList_mapUpdate_own _ hgd _ _ _ 211 hop 3 4 keyR Tryz.underlying211 _ b n D hm h1 (by unfold maxLen; omega) _ _ (.int .i64 r) hx hv (keyOf_int_mk Tryz.underlying3 (i64_wfR hr)) (.lit (.bool true)) [] (plainElem_bool Tryz.underlying4 true) ?_
 intro w' h3 h4;refine hK w' ⟨_, h3, fun y => ?_⟩ h4
 rw [any_snoc];by_cases hy : y = r
 ·subst hy
  rw [atKey_put_same h1.isMap (key_litR _)];simp
 ·rw [atKey_put_other (by intro e; cases e; exact hy rfl), h2 y]
  have : (r == y) = false := beq_eq_false_iff_ne.2 (Ne.symm hy);rw [this, Bool.or_false]
end
def StepsAt (w : World) (v : Value) (l : List Stp) : Prop :=
 ∃ A c, v = .slice A l.length c ∧ ∀ (i : Nat) (s : Stp), l[i]? = some s → s.fit ∧ ∃ b o, A = some ⟨b, o, none⟩ ∧ b < w.heap.size ∧ w.cell? ⟨b, o + i * 4, none⟩ = some (.int .i64 s.rule) ∧ w.cell? ⟨b, o + i * 4 + 1, none⟩ = some (.int .i64 s.left) ∧ w.cell? ⟨b, o + i * 4 + 2, none⟩ = some (.int .i64 s.right) ∧ w.cell? ⟨b, o + i * 4 + 3, none⟩ = some (.bool s.over)
theorem StepsAt.call {w w' : World} {v : Value} {l : List Stp} (h : StepsAt w v l) (hb : Below w.heap.size w w') : StepsAt w' v l := by
 obtain ⟨A, c, hv, hi⟩ := h;refine ⟨A, c, hv, fun i s hs => ?_⟩
 obtain ⟨hf, b, o, ha, hlt, h1, h2, h3, h4⟩ := hi i s hs;exact ⟨hf, b, o, ha, Nat.lt_of_lt_of_le hlt hb.size, (hb.cell (p := ⟨b, o + i * 4, none⟩) hlt).trans h1, (hb.cell (p := ⟨b, o + i * 4 + 1, none⟩) hlt).trans h2, (hb.cell (p := ⟨b, o + i * 4 + 2, none⟩) hlt).trans h3, (hb.cell (p := ⟨b, o + i * 4 + 3, none⟩) hlt).trans h4⟩
end
end Go.Proofs.YtajogedbacpohaaGreatDoor
