/- Part 16 of what the claim rests on. -/
import Derived.Test.YtajogedbacpohaaGreatDoorB00
import Derived.Test.YtajogedbacpohaaGreatDoorB13
import Derived.Test.YtajogedbacpohaaGreatDoorB14
import Derived.MapKept
import Derived.RangeFuncBound
import Derived.RangeFuncBox
import Derived.RangeFuncCalls
import Derived.RangeFuncLeaves
import Derived.RangeFuncNested
set_option linter.unusedVariables false
set_option linter.unusedSimpArgs false
set_option maxRecDepth 1000000
set_option maxHeartbeats 32000000
namespace Go.Proofs.YtajogedbacpohaaGreatDoor
section
open Go Go.RowKit Mon
theorem kindS_no20 {b : Bk} {e : Ev} {rate : Int} (h4 : e.kind ≠ 4) : ∀ s ∈ kindS b e rate, s.rule ≠ 20 := by
 intro s hs;unfold kindS at hs
 split at hs
 ·simp only [accS, List.mem_cons, List.not_mem_nil, or_false] at hs
  rcases hs with rfl | rfl | rfl <;> simp [sS]
 split at hs
 ·simp only [limS, List.mem_cons, List.not_mem_nil, or_false] at hs
  rcases hs with rfl | rfl | rfl <;> simp [sS]
 split at hs
 ·unfold quoS at hs
  rcases List.mem_cons.1 hs with rfl | hs
  ·simp [sS]
  ·split at hs
   ·simp at hs
   ·obtain rfl := List.mem_singleton.1 hs
    simp [sS]
 split at hs
 ·simp only [fillS, List.mem_cons, List.not_mem_nil, or_false] at hs
  rcases hs with rfl | rfl | rfl | rfl | rfl | rfl
  all_goals first | (simp [sS]; done) | (rw [zzb1]; decide)
 split at hs
 ·simp only [canS, List.mem_cons, List.not_mem_nil, or_false] at hs
  subst hs;simp [sS]
 ·simp at hs
theorem zz1o {ge ne : List Int → Bool} {x : List Int} {d : Bool} {l : List (List Int)} (hx : ∀ y ∈ x, I64 y) (hl : ∀ r ∈ l, ∀ y ∈ r, I64 y) : ∀ r ∈ setK ge ne x d l, ∀ y ∈ r, I64 y := by
 intro r hr;rcases zz2t hr with rfl | hr
 ·exact hx
 ·exact hl r hr
theorem zz2m {r : List Int} (h : ∀ y ∈ r, I64 y) (k : Nat) : I64 (r.getD k 0) := by
 rw [List.getD_eq_getElem?_getD];cases hk : r[k]? with
 | none => simp [I64]
 | some y => exact h y (List.mem_of_getElem? hk)
theorem recH_ints {b : Bk} (hi : b.I64s) (acc : Int) : ∀ y ∈ recH b acc, I64 y := by
 unfold recH;cases hf : b.h.find? (isId acc) with
 | none => intro y hy; have : y = 0 := (List.mem_replicate.1 hy).2; subst this; simp [I64]
 | some r => exact hi.1 r (List.mem_of_find?_eq_some hf)
theorem recO_ints {b : Bk} (hi : b.I64s) (ord : Int) : ∀ y ∈ recO b ord, I64 y := by
 unfold recO;cases hf : b.o.find? (isId ord) with
 | none => intro y hy; have : y = 0 := (List.mem_replicate.1 hy).2; subst this; simp [I64]
 | some r => exact hi.2.2.1 r (List.mem_of_find?_eq_some hf)
theorem zzbh {b : Bk} (hm : b.mayB = true) (hi : b.I64s) (h6 : ∀ r ∈ b.o, r.length = 6) (e : Ev) (rate : Int) (hE : e.I64s) : Hid (gateB b e rate).I64s := by
 show (gateB b e rate).I64s;have hz : I64 0 := by unfold I64; simp
 have hmx : I64 maxI := by unfold I64 maxI; omega
 have key : (doneB b e rate).I64s := by
  unfold doneB
  split
  ·rename_i ha
   unfold allS at ha;rw [List.all_append, Bool.and_eq_true] at ha;have hk := ha.2;unfold newB;unfold kindS at hk;obtain ⟨i1, i2, i3, i4⟩ := hi;have rh := recH_ints (b := b) ⟨i1, i2, i3, i4⟩;have ro := recO_ints (b := b) ⟨i1, i2, i3, i4⟩;by_cases h1 : e.kind = 1
   ·rw [if_pos h1]
    refine ⟨zz1o ?_ i1, i2, i3, i4⟩;simp only [List.mem_cons, List.not_mem_nil, or_false];rintro y (rfl | rfl | rfl | rfl)
    ·exact hE.acc
    ·exact hE.qty
    ·exact hmx
    ·exact hmx
   rw [if_neg h1] at hk ⊢;by_cases h2 : e.kind = 2
   ·rw [if_pos h2]
    refine ⟨zz1o ?_ i1, i2, i3, i4⟩;simp only [List.mem_cons, List.not_mem_nil, or_false];rintro y (rfl | rfl | rfl | rfl)
    ·exact zz2m (rh _) _
    ·exact zz2m (rh _) _
    ·exact hE.qty
    ·exact hE.px
   rw [if_neg h2] at hk ⊢;by_cases h3 : e.kind = 3
   ·rw [if_pos h3]
    refine ⟨i1, i2, i3, zz1o ?_ i4⟩;simp only [List.mem_cons, List.not_mem_nil, or_false];rintro y (rfl | rfl)
    ·exact hE.sym
    ·exact hE.px
   rw [if_neg h3] at hk ⊢;by_cases h4 : e.kind = 4
   ·rw [if_pos h4]
    refine ⟨i1, i2, zz1o ?_ i3, i4⟩;simp only [List.mem_cons, List.not_mem_nil, or_false];rintro y (rfl | rfl | rfl | rfl | rfl | rfl)
    ·exact hE.ord
    ·exact hE.acc
    ·exact hE.sym
    ·exact hE.side
    ·exact hE.qty
    ·exact hE.px
   rw [if_neg h4] at hk ⊢;by_cases h5 : e.kind = 5
   ·rw [if_pos h5] at hk ⊢
    obtain ⟨_, k2, _, k4⟩ := zz41 b e hk;have ha1 : I64 (afterE b e).1.1 := by
     unfold afterE afterR
     split
     all_goals first | exact zz1d _ | exact hz
    have ha2 : I64 (afterE b e).2.1 := by
     unfold afterE afterR
     split
     all_goals first | exact zz1d _ | exact hz
    have ho := fun k => zz2m (ro e.ord) k
    refine ⟨zz1o ?_ i1, zz1o ?_ i2, zz1o ?_ i3, i4⟩
    ·simp only [List.mem_cons, List.not_mem_nil, or_false]
     rintro y (rfl | rfl | rfl | rfl)
     ·exact zz2m (rh _) _
     ·exact ha1
     ·exact zz2m (rh _) _
     ·exact zz2m (rh _) _
    ·simp only [List.mem_cons, List.not_mem_nil, or_false]
     rintro y (rfl | rfl | rfl)
     ·exact ho _
     ·exact ho _
     ·exact ha2
    ·simp only [List.mem_cons, List.not_mem_nil, or_false]
     rintro y (rfl | rfl | rfl | rfl | rfl | rfl)
     ·exact ho _
     ·exact ho _
     ·exact ho _
     ·exact ho _
     ·have := ho 4
      unfold I64 at this ⊢;omega
     ·exact ho _
   rw [if_neg h5] at hk ⊢;by_cases h6' : e.kind = 6
   ·rw [if_pos h6']
    refine ⟨i1, i2, zz1o ?_ i3, i4⟩;simp only [List.mem_cons, List.not_mem_nil, or_false];rintro y (rfl | rfl | rfl | rfl | rfl | rfl)
    ·exact hE.ord
    all_goals exact hz
   rw [if_neg h6'];exact ⟨i1, i2, i3, i4⟩
  ·exact hi
 exact key
theorem zz83 (b : Bk) (e : Ev) (rate : Int) : (gateB b e rate).s.length ≤ b.s.length + 1 := by
 show (doneB b e rate).s.length ≤ _;unfold doneB
 split
 ·exact newB_s b e
 ·exact Nat.le_succ _
def Bk.Lens (b : Bk) : Prop := (∀ r ∈ b.h, r.length = 4) ∧ (∀ r ∈ b.s, r.length = 3) ∧ (∀ r ∈ b.o, r.length = 6) ∧ (∀ r ∈ b.r, r.length = 2)
theorem zz1n {ge ne : List Int → Bool} {x : List Int} {d : Bool} {l : List (List Int)} {k : Nat} (hx : x.length = k) (hl : ∀ r ∈ l, r.length = k) : ∀ r ∈ setK ge ne x d l, r.length = k := by
 intro r hr;rcases zz2t hr with rfl | hr
 ·exact hx
 ·exact hl r hr
theorem zzbg {b : Bk} (h : b.Lens) (e : Ev) (rate : Int) : (gateB b e rate).Lens := by
 obtain ⟨h1, h2, h3, h4⟩ := h;show (doneB b e rate).Lens;unfold doneB
 split
 ·unfold newB
  repeat' split
  ·exact ⟨zz1n rfl h1, h2, h3, h4⟩
  ·exact ⟨zz1n rfl h1, h2, h3, h4⟩
  ·exact ⟨h1, h2, h3, zz1n rfl h4⟩
  ·exact ⟨h1, h2, zz1n rfl h3, h4⟩
  ·exact ⟨zz1n rfl h1, zz1n rfl h2, zz1n rfl h3, h4⟩
  ·exact ⟨h1, h2, zz1n rfl h3, h4⟩
  ·exact ⟨h1, h2, h3, h4⟩
 ·exact ⟨h1, h2, h3, h4⟩
structure Bk.Good (b : Bk) : Prop where
 may : b.mayB = true
 ints : b.I64s
 lens : b.Lens
theorem Bk.Good.next {b : Bk} (h : b.Good) (hn : b.n ≠ 1099511627776) (e : Ev) (hE : e.I64s) (rate : Int) : (gateB b e rate).Good :=
 ⟨gateB_may h.may h.lens.2.2.1 hn e rate, (zzbh h.may h.ints h.lens.2.2.1 e rate hE).out, zzbg h.lens e rate⟩
theorem Bk.Good.n {b : Bk} (h : b.Good) : 0 ≤ b.n ∧ b.n ≤ 1099511627776 := by
 have := (Bk.mayB_iff b).1 h.may;exact ⟨this.n0, this.n1⟩
theorem Bk.Good.small {b : Bk} (h : b.Good) (hs : b.s.length ≤ 900000) : b.Small := by
 have := (Bk.mayB_iff b).1 h.may;have h1 := this.lh;have h2 := this.lo;have h3 := this.lr;unfold Bk.Small;omega
theorem Bk.Good.price {b : Bk} (h : b.Good) : ∀ sym, 0 ≤ priceOf b sym := fun sym => zz4k h.may h.lens.2.2.2 sym
def Ev.cells (e : Ev) : List Int := [e.kind, e.acc, e.ord, e.sym, e.side, e.qty, e.px]
def pairC (e : Ev) (v : Int × Int) : List Int := [e.kind, e.acc, e.ord, e.sym, e.side, e.qty, e.px, v.1, v.2]
def foldB (b : Bk) (rate : Int) : List Ev → Bk
 | [] => b
 | e :: l => foldB (gateB b e rate) rate l
def foldK (b : Bk) (rate : Int) : List Ev → List Bk
 | [] => [b]
 | e :: l => b :: foldK (gateB b e rate) rate l
def foldP (b : Bk) (rate : Int) : List Ev → List (List Int)
 | [] => []
 | e :: l => pairC e (gateV b e rate) :: foldP (gateB b e rate) rate l
theorem zz8z (rate : Int) : ∀ (l m : List Ev) (b : Bk), foldB b rate (l ++ m) = foldB (foldB b rate l) rate m
 | [], _, _ => rfl
 | e :: l, m, b => by rw [List.cons_append, foldB, foldB, zz8z rate l m]
theorem zz8y (rate : Int) : ∀ (l m : List Ev) (b : Bk), foldP b rate (l ++ m) = foldP b rate l ++ foldP (foldB b rate l) rate m
 | [], _, _ => rfl
 | e :: l, m, b => by rw [List.cons_append, foldP, foldP, foldB, zz8y rate l m, List.cons_append]
theorem zz2z (rate : Int) : ∀ (l : List Ev) (b : Bk), (foldP b rate l).length = l.length
 | [], _ => rfl
 | e :: l, b => by rw [foldP, List.length_cons, zz2z rate l, List.length_cons]
theorem zz1l (rate : Int) : ∀ (l : List Ev) (b : Bk), (foldK b rate l).length = l.length + 1
 | [], _ => rfl
 | e :: l, b => by rw [foldK, List.length_cons, zz1l rate l, List.length_cons]
theorem zz60 (rate : Int) : ∀ (l : List Ev) (e : Ev) (b : Bk), foldK b rate (l ++ [e]) = foldK b rate l ++ [gateB (foldB b rate l) e rate]
 | [], _, _ => rfl
 | a :: l, e, b => by rw [List.cons_append, foldK, foldK, foldB, zz60 rate l e, List.cons_append]
theorem zz5z (rate : Int) : ∀ (l : List Ev) (b : Bk) (i : Nat), i ≤ l.length → (foldK b rate l)[i]? = some (foldB b rate (l.take i))
 | [], b, i, h => by
  obtain rfl : i = 0 := by simpa using h
  rfl
 | e :: l, b, 0, _ => rfl
 | e :: l, b, i + 1, h => by
  rw [foldK, List.getElem?_cons_succ, List.take_succ_cons, foldB];exact zz5z rate l _ i (by simpa using h)
theorem zz5k {α : Type} {l : List α} {i : Nat} {e : α} (h : l[i]? = some e) : l.take (i + 1) = l.take i ++ [e] := by
 rw [List.take_add_one, h]; rfl
theorem zzbj (rate : Int) : ∀ (l : List Ev) (b : Bk), (foldB b rate l).n = b.n + l.length
 | [], b => by simp [foldB]
 | e :: l, b => by
  rw [foldB, zzbj rate l, List.length_cons];show b.n + 1 + (l.length : Int) = _
  push_cast
  omega
theorem zz22 (rate : Int) : ∀ (l : List Ev) (b : Bk), (foldB b rate l).s.length ≤ b.s.length + l.length
 | [], b => Nat.le_refl _
 | e :: l, b => by
  rw [foldB, List.length_cons];have h1 := zz22 rate l (gateB b e rate);have h2 := zz83 b e rate;omega
theorem zz38 (rate : Int) : ∀ (l : List Ev) (b : Bk), b.Good → b.n + l.length ≤ 1099511627776 → (∀ e ∈ l, e.I64s) → (foldB b rate l).Good
 | [], b, h, _, _ => h
 | e :: l, b, h, hn, hE => by
  rw [foldB];rw [List.length_cons] at hn
  push_cast at hn
  refine zz38 rate l _ (h.next zw e (hE e (by simp)) rate) ?_ fun x hx => hE x (by simp [hx])
  show b.n + 1 + (l.length : Int) ≤ _;omega
end
section
open Go.RowKit
def AbideS {α : Type} (Bs N : Nat) (I : α → World → Prop) : Prop :=
 ∀ pre A B row, I pre A → A.grownBy B row → (∀ r, row = some r → r = Bs ∨ (N ≤ r ∧ ∃ o : Obj, A.heap[r]? = some o ∧ o.isCells = false)) → I pre B
theorem AbideS.put {α : Type} {Bs N : Nat} {I : α → World → Prop} (h : AbideS Bs N I) {pre : α} {W : World} {l : Nat} {o : Obj} (o' : Obj) (hs : I pre W) (hB : N ≤ l) (hl : W.heap[l]? = some o) (ho : o.isCells = false) : I pre (W.putObj l o') :=
 h pre W _ (some l) hs (grownBy_putObj' W l o') (fun r e => by cases e; exact .inr ⟨hB, o, hl, ho⟩)
def IterS {α : Type} (F : Fence) (n : Nat) (P : Program) (gf : Nat) (lb : Array Value) (Bs : Nat) (w : World) (En : List α → α → Array Value → Nat → World → Prop) (Kp : Nat → World → World → Prop) (xs : List α) : Prop :=
 ∀ (l : Nat) (J Jx : List α → World → Prop) (W : World), Below w.heap.size w W → (∀ pre A B, J pre A → A.grownBy B (some Bs) → J pre B) → (∀ pre A B, Jx pre A → A.grownBy B (some Bs) → Jx pre B) →
  (∀ pre x args W0 W1, J pre W0 → W0.grownBy W1 (some Bs) → En pre x args W0.heap.size W1 → pre ++ [x] <+: xs → YieldAt F (n - 1) P l args W1 fun e W' => (e = .returned (.bool true) ∧ J (pre ++ [x]) W' ∧ Kp W0.heap.size W1 W') ∨ (e = .returned (.bool false) ∧ Jx (pre ++ [x]) W')) →
  J [] W →
  CallsIn F n P gf (#[.func (.yield l) #[] #[]] ++ lb) W fun e W' => (∃ v, e = .returned v) ∧ (J xs W' ∨ ∃ pre, pre <+: xs ∧ Jx pre W')
theorem zz4c {F : Fence} {n : Nat} {P : Program} {α : Type} {g : Operand} {ps : Array Tmp} {assign body : Code} {Q : Exit → Act → World → Prop} {a : Act} {w : World}
  (hro : F.round = none) (h1 : 1 ≤ n) {gf : Nat} {lb : Array Value} (hg : a.eval g = .func (.func gf) #[] lb) (hFg : F.fn gf) (eg : ∀ args w, (callFunc gf args).run P w = .ok (.enter gf args) w)
  (En : List α → α → Array Value → Nat → World → Prop) (Kp : Nat → World → World → Prop) (xs : List α) (Bs : Nat)
  (hps : ∀ pre x args M W, En pre x args M W → args.size = ps.size)
  (hKt : ∀ {M : Nat} {A B C : World}, Kp M A B → Kp M B C → Kp M A C) (hKb : ∀ (M : Nat) (W : World) (l : Nat) (o o' : Obj), w.heap.size ≤ l → W.heap[l]? = some o → o.isCells = false → Kp M W (W.putObj l o'))
  (hseq : IterS F (n - 1) P gf lb Bs w En Kp xs)
  (hBs : Bs < w.heap.size)
  (I : List α → Nat → World → Prop) (Ix : Code → List α → World → Prop) (hI : ∀ M, AbideS Bs w.heap.size (fun pre W => I pre M W)) (hnew : ∀ pre M W, I pre M W → I pre W.heap.size W) (hIx : ∀ c, AbideS Bs w.heap.size (Ix c)) (h0 : I [] w.heap.size w)
  (Ax : List α → α → Nat → Act → World → Prop) (hAx : ∀ pre x M a' W l o o', Ax pre x M a' W → w.heap.size ≤ l → W.heap[l]? = some o → o.isCells = false → Ax pre x M a' (W.putObj l o'))
  (hassign : ∀ (l : Nat) (pre : List α) (x : α) (args : Array Value) (M : Nat) (W : World) (K : Act → World → Prop), w.heap.size ≤ M → M ≤ W.heap.size → I pre M W → En pre x args M W → pre ++ [x] <+: xs → (∀ a' W', KeepsFrom w.heap.size W W' → Kp M W W' → I pre M W' → Ax pre x M a' W' → K a' W') →
   assign.wpIn (F.inRound l) (n - 1 - 1) P (Exit.then K (fun _ _ _ => False)) { tmps := (ps.zip args).foldl (fun t (p, v) => t.setIfInBounds p v) a.tmps, defers := [] } W)
  (hbody : ∀ (l : Nat) (pre : List α) (x : α) (M : Nat) (a' : Act) (W : World), w.heap.size ≤ M → M ≤ W.heap.size → I pre M W → Ax pre x M a' W → pre ++ [x] <+: xs → body.wpIn (F.inRound l) (n - 1 - 1) P (ownPostG w.heap.size (Kp M) (fun pre W => I pre W.heap.size W) Ix (pre ++ [x]) W) a' W)
  (hdone : ∀ (D : Nat) (M : Nat) (W : World), w.heap.size ≤ D → I xs M W → W.heap[D]? = some (.deferred (some [])) → Q .normal { a with defers := { target := .collected D, args := #[] } :: a.defers } W)
  (hstop : ∀ (D : Nat) (c : Code) (pre : List α) (W : World), w.heap.size ≤ D → pre <+: xs → Ix c pre W → W.heap[D]? = some (.deferred (some [])) → c.wpIn F n P Q { a with defers := { target := .collected D, args := #[] } :: a.defers } W) :
  (Code.rangeFunc g ps assign body).wpIn F n P Q a w := by
 refine wpIn_rangeFunc ?_;intro fn hfn;rw [hro];obtain ⟨rec, hrec⟩ : ∃ rec : LoopState → Option Code → Loop, rec = fun st pe => { state := st, pending := pe, fn, tmps := a.tmps, params := ps, assign, body, defers := w.heap.size } := ⟨_, rfl⟩
 obtain ⟨W1, hW1⟩ : ∃ W1, (w.alloc (.deferred (some []))).alloc (.loop (rec .ready none)) = W1 := ⟨_, rfl⟩;have hL1 : W1.heap[w.heap.size + 1]? = some (.loop (rec .ready none)) := by
  rw [← hW1]; have := World.alloc_heap_new (w.alloc (.deferred (some []))) (.loop (rec .ready none)); rwa [World.size_alloc] at this
 have hK1 : W1.heap[w.heap.size]? = some (.deferred (some [])) := by
  rw [← hW1]; exact (Below.heap_alloc _ _ _ (by simp)).trans (World.alloc_heap_new w _)
 have hI1 : I [] w.heap.size W1 := by
  rw [← hW1];exact hI _ _ _ _ none (hI _ _ _ _ none h0 (World.grownBy_alloc w _ none) (fun r e => by cases e)) (World.grownBy_alloc _ _ none) (fun r e => by cases e)
 have hb1 : Below w.heap.size w W1 := by
  rw [← hW1]; exact ((Below.refl _ w).alloc (Nat.le_refl _) _).alloc (by simp) _
 refine ⟨w.heap.size + 1, [{ target := .collected w.heap.size, args := #[] }], W1, { target := .fn (.func gf) lb, args := #[.func (.yield (w.heap.size + 1)) #[] #[]] }, W1, gf,
  #[.func (.yield (w.heap.size + 1)) #[] #[]] ++ lb, W1, ?_, ?_, ?_, ?_, fun _ => h1, ?_⟩
 ·rw [← hW1, hrec]; exact run_enterLoop_outer _ _ _ _ _
 ·simp only [resolve, hg]
  simp [go_sem]
 ·intro f' hf'; simp [Target.leads] at hf'; subst hf'; exact hFg
 ·simp [invoke, go_sem, eg]
 ·refine (hseq (w.heap.size + 1)
   (fun pre W => (∃ M, I pre M W) ∧ W.heap[w.heap.size + 1]? = some (.loop (rec .ready none)) ∧ W.heap[w.heap.size]? = some (.deferred (some [])))
   (fun pre W => ∃ c, Ix c pre W ∧ W.heap[w.heap.size + 1]? = some (.loop (rec .done (some c))) ∧ W.heap[w.heap.size]? = some (.deferred (some [])))
   W1 hb1
   (fun pre A B hs hg' => ⟨hs.1.imp fun M h => hI M _ _ _ _ h hg' (fun r e => by cases e; exact .inl rfl),
    (hg'.block _ (zL hs.2.1) (by simp; omega)).trans hs.2.1, (hg'.block _ (zL hs.2.2) (by simp; omega)).trans hs.2.2⟩)
   (fun pre A B hs hg' => by
    obtain ⟨c, hc, hl, hk⟩ := hs;exact ⟨c, hIx c _ _ _ _ hc hg' (fun r e => by cases e; exact .inl rfl),
     (hg'.block _ (zL hl) (by simp; omega)).trans hl, (hg'.block _ (zL hk) (by simp; omega)).trans hk⟩)
   ?_ ⟨⟨_, hI1⟩, hL1, hK1⟩).mono ?_
  ·-- ONE ROUND
   rintro pre x args W0 W ⟨⟨M0, hi0⟩, hl0, hk0⟩ hgw hen hlen;have hl : W.heap[w.heap.size + 1]? = some (.loop (rec .ready none)) := (hgw.block _ (zL hl0) (by simp; omega)).trans hl0
   have hk : W.heap[w.heap.size]? = some (.deferred (some [])) := (hgw.block _ (zL hk0) (by simp; omega)).trans hk0
   have hMw : w.heap.size ≤ W0.heap.size := Nat.le_of_lt (zL hk0);have hMW : W0.heap.size ≤ W.heap.size := hgw.size;have hi : I pre W0.heap.size W := hI _ _ _ _ _ (hnew _ _ _ hi0) hgw (fun r e => by cases e; exact .inl rfl)
   clear hi0 hl0 hk0 hgw;generalize W0.heap.size = M at *;have hlt : w.heap.size + 1 < W.heap.size := zL hl;have hy := run_yield (P := P) (args := args) hl (by rw [hrec]; exact hps _ _ _ _ _ hen)
   rw [hrec] at hy;refine ⟨fn, _, assign, body, hy, roundIn_of_wpIn hfn (hassign _ pre x args M W _ hMw hMW hi hen hlen ?_)⟩;clear hy;intro a' Wa hkfa hkpa hia hax;replace hl := hkfa.same _ _ zw hl rfl;replace hk := hkfa.same _ _ (Nat.le_refl _) hk rfl;replace hlt : w.heap.size + 1 < Wa.heap.size := zL hl;replace hi := hia;replace hMW : M ≤ Wa.heap.size := Nat.le_trans hMW hkfa.size;clear hia hen
   revert hkpa hkfa
   generalize W = Wb;intro hkfa hkpa;obtain ⟨W, rfl⟩ : ∃ W, W = Wa := ⟨_, rfl⟩;refine ⟨_, run_beginRound hl (by rw [hrec]), ?_⟩
   have hl2 : (W.putObj (w.heap.size + 1) (.loop { rec .ready none with state := .busy })).heap[w.heap.size + 1]? = some (.loop { rec .ready none with state := .busy }) := World.putObj_heap_same hlt
   have hk2 : (W.putObj (w.heap.size + 1) (.loop { rec .ready none with state := .busy })).heap[w.heap.size]? = some (.deferred (some [])) := (World.putObj_heap_other zw).trans hk
   have hw2 : Kp M W (W.putObj (w.heap.size + 1) (.loop { rec .ready none with state := .busy })) := hKb _ _ _ _ _ zw hl rfl
   refine wpIn_mono (hbody _ pre x M a' _ hMw (by simpa using hMW) ((hI M).put _ hi zw hl rfl) (hAx _ _ _ _ _ _ _ _ hax zw hl rfl) hlen) ?_
   have fin : ∀ (jump : Option Code) (W3 : World), KeepsFrom w.heap.size (W.putObj (w.heap.size + 1) (.loop { rec .ready none with state := .busy })) W3 →
     (Instr.endRound (w.heap.size + 1) jump).run P W3 = .ok (.bool jump.isNone) (W3.putObj (w.heap.size + 1) (.loop (rec (if jump.isNone then .ready else .done) jump))) ∧
     W3.heap[w.heap.size + 1]? = some (.loop { rec .ready none with state := .busy }) ∧
     (W3.putObj (w.heap.size + 1) (.loop (rec (if jump.isNone then .ready else .done) jump))).heap[w.heap.size + 1]? = some (.loop (rec (if jump.isNone then .ready else .done) jump)) ∧
     (W3.putObj (w.heap.size + 1) (.loop (rec (if jump.isNone then .ready else .done) jump))).heap[w.heap.size]? = some (.deferred (some [])) := fun jump W3 hk3 => by
    have hl3 := hk3.same _ _ zw hl2 rfl;have := run_endRound (P := P) jump hl3;rw [hrec] at this ⊢;exact ⟨this, by rw [hrec] at hl3; exact hl3, World.putObj_heap_same (zL hl3), (World.putObj_heap_other zw).trans (hk3.same _ _ (Nat.le_refl _) hk2 rfl)⟩
   rintro e a3 W3 hp;cases e with
   | normal =>
    obtain ⟨hk3, hkp3, hi3⟩ := hp;obtain ⟨hr, hl3, hl4, hk4⟩ := fin none W3 hk3;exact ⟨_, _, hr, .inl ⟨rfl, ⟨⟨_, (hI _).put _ hi3 zw hl3 rfl⟩, hl4, hk4⟩, hKt hkpa (hKt (hKt hw2 hkp3) (hKb _ _ _ _ _ zw hl3 rfl))⟩⟩
   | ret =>
    obtain ⟨hk3, hi3⟩ := hp;obtain ⟨hr, hl3, hl4, hk4⟩ := fin (some .ret) W3 hk3;exact ⟨_, _, hr, .inr ⟨rfl, .ret, (hIx _).put _ hi3 zw hl3 rfl, hl4, hk4⟩⟩
   | exit id =>
    obtain ⟨hk3, hi3⟩ := hp;obtain ⟨hr, hl3, hl4, hk4⟩ := fin (some (.exit id)) W3 hk3;exact ⟨_, _, hr, .inr ⟨rfl, .exit id, (hIx _).put _ hi3 zw hl3 rfl, hl4, hk4⟩⟩
   | goto t =>
    obtain ⟨hk3, hi3⟩ := hp;obtain ⟨hr, hl3, hl4, hk4⟩ := fin (some (.goto t)) W3 hk3;exact ⟨_, _, hr, .inr ⟨rfl, .goto t, (hIx _).put _ hi3 zw hl3 rfl, hl4, hk4⟩⟩
   | panic ch => exact hp.elim
   | outgrown => exact hp.elim
  ·-- BEHIND THE ITERATOR
   rintro e W2 ⟨⟨v, rfl⟩, (⟨⟨M, hi⟩, hl, hk⟩ | ⟨pre, hpre, c, hi, hl, hk⟩)⟩
   ·exact ⟨none, _, by have := run_endLoop (P := P) hl (by rw [hrec]; simp); rw [hrec] at this; exact this, hdone _ M _ (Nat.le_refl _) ((hI M).put _ hi zw hl rfl) ((World.putObj_heap_other zw).trans hk)⟩
   ·exact ⟨some c, _, by have := run_endLoop (P := P) hl (by rw [hrec]; simp); rw [hrec] at this; exact this, hstop _ c pre _ (Nat.le_refl _) hpre ((hIx c).put _ hi zw hl rfl) ((World.putObj_heap_other zw).trans hk)⟩
end
section
open Go Go.RowKit
section
variable {P : Program}
theorem zz9h {w : World} (mty kt et : TypeId) (r clock : Nat) (es : Array MapEntry) (k : Int) (val : Value) (hm : P.underlying mty = some (.map kt et)) (hk : P.underlying kt = some (.int .i64)) (hb : w.heap[r]? = some (.map es clock)) (hf : Instr.findNow (.int .i64) (.int .i64 k) es.toList 0 = some none) :
  (Instr.mapUpdate mty (.map (some r)) (.int .i64 k) val).run P w = .ok () { w with heap := w.heap.setIfInBounds r (.map (es.push { key := .int .i64 k, val := val, born := clock }) (clock + 1)) } := by
 have hc : (Instr.checkKey false 10000 kt (.int .i64 k)).run P w = .ok () w := MapKept.run_checkKey (k := .int .i64 k) hk (by simp [MapKept.IsKey]) false 9999
 simp [Instr.mapUpdate, run_underlying hm, MapKept.run_getObj_map hb, hc, MapKept.run_findKey hk hf, MapKept.run_setObj_map _ hb, Result.andThen]
theorem zz7r {w : World} (mty kt et : TypeId) (r clock : Nat) (es : Array MapEntry) (k : Int) (val : Value) (i : Nat) (hm : P.underlying mty = some (.map kt et)) (hk : P.underlying kt = some (.int .i64)) (hb : w.heap[r]? = some (.map es clock)) (hf : Instr.findNow (.int .i64) (.int .i64 k) es.toList 0 = some (some (i, val))) :
  (Instr.lookup mty (.map (some r)) (.int .i64 k) false).run P w = .ok val w := by
 have hc : ∀ e, (Instr.checkKey e 10000 kt (.int .i64 k)).run P w = .ok () w := fun e => MapKept.run_checkKey (k := .int .i64 k) hk (by simp [MapKept.IsKey]) e 9999
 simp [Instr.lookup, run_underlying hm, MapKept.run_getObj_map hb, hc, MapKept.run_findKey hk hf, Result.andThen]
variable {ops : Array Oper} {rest : List Oper} {o : Oper} {a : Act} {Q : Exit → Act → World → Prop}
theorem zz25 {w : World} (hgd : o.guard = none) (m k v : Operand) (t : TypeId) (hop : o.op = Op.insert t m k v) {kt et : TypeId} (hm : P.underlying t = some (.map kt et)) (hk : P.underlying kt = some (.int .i64)) (r clock : Nat) (es : Array MapEntry) (kk : Int)
  (val : Value) (hem : a.eval m = .map (some r)) (hek : a.eval k = .int .i64 kk) (hev : a.eval v = val) (hb : w.heap[r]? = some (.map es clock)) (hf : Instr.findNow (.int .i64) (.int .i64 kk) es.toList 0 = some none)
  (h : ∀ w', w'.heap[r]? = some (.map (es.push { key := .int .i64 kk, val := val, born := clock }) (clock + 1)) → w.grownBy w' (some r) → wpList P ops Q rest (a.put o.dst undef) w') : wpList P ops Q (o :: rest) a w := by
 subst hev;refine wpList_plain hgd fun K hK => ?_
 have hrun := zz9h (P := P) t kt et r clock es kk (a.eval v) hm hk hb hf;unfold Oper.wp;simp [execOp, hop, hem, hek, hrun, Result.andThen];refine hK _ _ (h _ (MapKept.heap_set hb).1 ⟨rfl, rfl, rfl, by simp, fun k hk hne => (MapKept.heap_set hb).2 k (fun e => hne (by rw [e]))⟩)
end
theorem zz7d {w : World} {p r clock : Nat} {cs : Array Value} {t : TypeId} {fr : Nat × Nat} {es : Array MapEntry} (h : w.heap[p]? = some (.cells cs t fr)) (h' : w.heap[r]? = some (.map es clock)) : p ≠ r := by
 intro e;subst e;rw [h] at h';injection h' with h'
 cases h'
theorem zz3b {w w' : World} {p r : Nat} {x : Obj} (h : w.heap[p]? = some x) (hg : w.grownBy w' (some r)) (hne : p ≠ r) : w'.heap[p]? = some x :=
 (hg.block p (zL h) (fun e => hne (by injection e))).trans h
theorem zza3 {B r : Nat} {a w w' : World} (h : Below B a w) (hg : w.grownBy w' (some r)) (hr : B ≤ r) (hB : B ≤ w.heap.size) : Below B a w' :=
 h.grown hg hB (fun q hq => by injection hq with hq; omega)
theorem zt13 {p : Prop} (h : p := by
 go_wp2_with fail;refine bodyPost_ret (v := .agg (BF Ah ch As cs Ao co Ar cr b b.n)) ?_ rfl ⟨_, rfl, by first | exact BkEi.same _ _ _ | (rw [if_neg (by simp)]; exact BkEi.same _ _ _), HI.out, HOF.out⟩
 exact zz3l rfl _ _ _ _ _ _ rfl KT.out Tryz.underlying27 rfl zk) : p := h
theorem zt17 {p : Prop} (h : p := by
 go_wp2_with fail;refine bodyPost_ret (v := .agg (BF U1 u1 U2 u2 U3 u3 U4 u4 nb nb.n)) ?_ rfl ⟨_, rfl, BkEi.own (HO.out.mono (Nat.zero_le _)), HI.out, HOF.out⟩;exact zz3l rfl _ _ _ _ _ _ rfl KT.out Tryz.underlying27 rfl zk) : p := h
theorem zt21 {p : Prop} (h : p := by
 intro a' K ha hk;simp only [opsAt, zA];rcases ha with rfl | ⟨p, rfl⟩
 ·refine zp ?_
  iterate 2 refine zp ?_
  unfold wpPure;exact hk
 ·refine zp ?_
  iterate 2 refine zp ?_
  unfold wpPure;exact hk) : p := h
theorem zt37 {p : Prop} (h : p := by
 exact zz30 63 #[.agg (BF Ah ch As cs Ao co Ar cr b b.n), .int .i64 e.acc] ⟨_, _, _, rfl, rfl, rfl, rfl, by simp [Act.eval, Act.put], by simp⟩ (fun w => enters_of Tryz.func63 zk rfl _ w) (fun wz hz => (zz2g _ b e.acc h0 h1 h2 h3 (hasH b e.acc) wz (zH (B0.out.call (HI.out.below.trans (hz.mono HI.out.below.size)))) HL1.out.1 hR.out.1 HX1).mono fun x w' ⟨h1, h2⟩ => ⟨_, h1, rfl, h2⟩)) : p := h
theorem zt50 {p : Prop} (h : p := by
 exact zz24 _ rfl rfl rfl #[.int .i64 0, .int .i64 0, .int .i64 0, .int .i64 0] 78 (fun ev wz => by unfold execOp; go_simp) (fun wz hz => ⟨rfl, zz02 wz _⟩)) : p := h
theorem zza4 (w0 : World) (g : Nat) (vh vs vo vr : Value) (b : Bk) (e : Ev) (rate : Int) (hT : Hid (Law16 w0)) (B0 : Hid (BkAt w0 (.agg #[vh, vs, vo, vr, b.n]) b)) (hs : Hid b.Small) (hR : Hid b.Rise) (hE : Hid e.I64s) (l0 : List Stp) (hl0 : Hid (l0.length ≤ 50)) (w : World) (HI : Hid (Gt w0 g vh vs vo vr b e rate l0 w)) :
  Calls Tryz.prog 28 #[.pointer (some ⟨g, 0, none⟩)] w fun r w' => ∃ v, r = .returned v ∧ BkEi w' (.agg #[vh, vs, vo, vr, b.n]) v b (if (accS b e).all (·.holds) then accB b e else b) ∧ Gt w0 g vh vs vo vr b e rate (l0 ++ cutL (accS b e)) w' ∧ Off w w' := by
 obtain ⟨_, _, _, _, hv, r1, r2, r3, r4⟩ := B0.out;injection hv with hv
 simp only [Array.mk.injEq, List.cons.injEq, and_true] at hv;obtain ⟨rfl, rfl, rfl, rfl, _⟩ := hv;have LH : Hid (∀ r ∈ b.h, r.length = 4) := (by obtain ⟨_, _, _, h, _⟩ := r1; exact h)
 have LO : Hid (∀ r ∈ b.o, r.length = 6) := (by obtain ⟨_, _, _, h, _⟩ := r3; exact h)
 have LR : Hid (∀ r ∈ b.r, r.length = 2) := (by obtain ⟨_, _, _, h, _⟩ := r4; exact h)
 obtain ⟨Ah, ch, rfl, _⟩ := r1;obtain ⟨As, cs, rfl, _⟩ := r2;obtain ⟨Ao, co, rfl, _⟩ := r3;obtain ⟨Ar, cr, rfl, _⟩ := r4;have F1 : b.h.length ≤ 1000000 ∧ b.o.length ≤ 1000000 ∧ b.r.length ≤ 1000000 := by have := hs.out; unfold Bk.Small at this; omega
 have HL1 := zH F1;clear F1;have KG := zH (HI.out.blk.imp fun _ h => h.1)
 have HOF : Hid (Off w w) := Off.refl _;obtain ⟨rh, FH, hl1, hx1⟩ := zz16 LH.out (isId e.acc)
 match rh, hl1, hx1 with
 | [h0, h1, h2, h3], _, hx1 =>
 have hF : FH = hasH b e.acc := zz0q hx1;subst hF;have HX1 := zH hx1;clear hx1;obtain ⟨FA, hFA⟩ : ∃ FA, (accS b e).all (·.holds) = FA := ⟨_, rfl⟩;rw [hFA];replace hFA := zH hFA;obtain ⟨nb, hnb⟩ : ∃ nb : Bk, accB b e = nb := ⟨_, rfl⟩;have q5 : Hid (∀ wz : World, Hid (BkAt wz (.agg (BF Ah ch As cs Ao co Ar cr b b.n)) b) → Calls Tryz.prog 74 #[.agg (BF Ah ch As cs Ao co Ar cr b b.n), .agg #[e.acc, e.qty, .int .i64 9223372036854775807, .int .i64 9223372036854775807]] wz fun r w' => ∃ v', r = .returned v' ∧ BkOwn w' wz.heap.size v' nb ∧ Below wz.heap.size wz w') := (show _ from fun wz hv => by rw [← hnb]; exact zz2f _ b e.acc e.qty 9223372036854775807 9223372036854775807 wz hv hs hR.out.1)
 rw [hnb];clear hnb;obtain ⟨wb, hwb⟩ : ∃ wb : World, w.alloc (.cells BZ 27) = wb := ⟨_, rfl⟩;have hb := zM0 hwb;have KT : ZB wb w.heap.size BZ 27 := by rw [← hwb]; exact zz02 _ _
 have LT : Hid (w0.heap.size ≤ w.heap.size) := HI.out.below.size;have MT : Hid (w.heap.size ≤ w.heap.size) := Nat.le_refl _;replace KG := zKx KG hb;replace HI := zH (HI.out.kept hb);replace HOF := zX HOF hb;replace hwb := zH hwb;clear hb;go_in;go_wp2_with fail;rw [hwb.out];clear hwb;refine zz07 [] (fun wz : World => zG wz g Ah ch As cs Ao co Ar cr b e rate) 16 (zb 16 0) zk zk zk ?_
 obtain ⟨wd1, hwd1⟩ : ∃ wd1 : World, { wb with drawn := wb.drawn + 1 } = wd1 := ⟨_, rfl⟩
 rw [hwd1];have hbwd1 : Below wb.heap.size wb wd1 := by rw [← hwd1]; exact (Below.refl _ _).drew
 replace KG := zKx KG hbwd1;replace KT := zK KT hbwd1;replace HI := zH (HI.out.kept hbwd1);replace HOF := zX HOF hbwd1;clear hwd1 hbwd1;refine zM [0, 1, 2, 3, 4, 5, 6, 7, 8] 7 KG ?_;simp only [opsAt, zA]
 iterate 3 refine zp ?_
 refine zr (fun wz hC => hC.out) ?_
 iterate 4 refine zp ?_
 refine zr (fun wz hC => hC.out) ?_
 unfold wpPure;go_simp;have hzd := zH HI.out.below.size;have hzo := zH HOF.out.size;refine zz1w 9 13 [10, 11, 12] 15 3 2 (.tuple #[.agg #[h0, h1, h2, h3], .bool (hasH b e.acc)]) #[.int .i64 0, .int .i64 0, .int .i64 0, .int .i64 0] 78 [(5, .tuple #[.agg #[h0, h1, h2, h3], .bool (hasH b e.acc)]), (16, .agg #[h0, h1, h2, h3]), (17, .bool (hasH b e.acc))] [15, 3, 5, 16, 17] zk zk zk zk zk (L2 := (zb 16 16383)) zk zk zk ?_ ?_ ?_ ?_ ?_
 ·exact zt37
 ·exact zt50
 ·exact fun wz hz => (KG.out.imp fun _ h => zz06 h hz)
 ·exact zt21
 intro qwf2 wf2 m2 g2 hb;have Kh := zH g2;have Lh := zH (Nat.le_trans hzd.out m2);have Mh := zH (Nat.le_trans hzo.out m2);clear g2 m2 hzd hzo;simp only [putsV];go_simp;replace KG := zKx KG hb;replace KT := zK KT hb;replace HI := zH (HI.out.kept hb);replace HOF := zX HOF hb;clear hb;have c_h_0 := zC Kh.out;have fc_h_0 := zF Kh.out;refine zW 14 ?_;go_wp2_with fail;generalize hws3 : World.setCell _ _ _ = ws3;clear c_h_0 fc_h_0;obtain ⟨vs, zE, hvs⟩ := zV4 hws3;replace HI := zH (HI.out.put Kh.out zx zx Lh.out 0 vs);replace HOF := zH (Off.freshC Mh.out HOF.out 0 vs);replace KG := zH ((KG.out.imp fun _ h => zz03 (zz0a h Kh.out zx) (o := 0) (vs := vs) h ))
 replace KT := zH (zz03 (zz0a KT.out Kh.out zx) (o := 0) (vs := vs) KT.out );subst hvs;rw [zE] at HI HOF KG KT;replace Kh := zP zE Kh;clear zE;replace Kh : ZB ws3 qwf2 #[h0, h1, h2, h3] 78 := Kh.out;clear hws3;refine zQs (fun _ => KG) ?_
 refine zM [15] 0 KG ?_;simp only [opsAt, zA];refine zp ?_;unfold wpPure;go_simp;refine zQe ?_;obtain ⟨vX_g, hX_g⟩ := KG.out;have c_g_0 := zC hX_g;replace hX_g := zH hX_g;have c_h_0 := zC Kh.out;go_wp2_with fail;refine zz07 [] (fun wz : World => zG wz g Ah ch As cs Ao co Ar cr b e rate) 21 (zb 21 0) zk zk zk ?_
 obtain ⟨wd4, hwd4⟩ : ∃ wd4 : World, { ws3 with drawn := ws3.drawn + 1 } = wd4 := ⟨_, rfl⟩
 rw [hwd4];have hbwd4 : Below ws3.heap.size ws3 wd4 := by rw [← hwd4]; exact (Below.refl _ _).drew
 clear hX_g c_g_0 c_h_0;replace KG := zKx KG hbwd4;replace KT := zK KT hbwd4;replace Kh := zK Kh hbwd4;replace HI := zH (HI.out.kept hbwd4);replace HOF := zX HOF hbwd4;clear hwd4 hbwd4;refine zM [0, 1, 2, 3, 4, 5, 7, 8, 11, 12, 13, 14, 15, 16, 17] 6 KG ?_;simp only [opsAt, zA]
 iterate 5 refine zp ?_
 refine zr (fun wz hC => hC.out) ?_
 iterate 7 refine zp ?_
 refine zr (fun wz hC => hC.out) ?_
 refine zp ?_;unfold wpPure;go_simp;refine zW 6 ?_;go_wp2_with fail;(with_reducible refine (zz0h w0 g (.slice Ah b.h.length ch) (.slice As b.s.length cs) (.slice Ao b.o.length co) (.slice Ar b.r.length cr) b e rate hT 7 (e.qty) (0) (gfit _ _ _ zw hE.out.qty (zz0k zw)) _).mono ?_);rintro e wc5 ⟨f1, rfl, hl1, hb⟩;replace KG := zKx KG hb;replace KT := zK KT hb;replace Kh := zK Kh hb;replace HI := zH (HI.out.kept hb);replace HOF := zX HOF hb;clear hb;obtain ⟨J1, j1, rfl⟩ := hl1.form;have HK1 := zH hl1;clear hl1;go_wp2_with fail;refine zQs (fun _ => KG) ?_
 refine zW 9 ?_;go_wp2_with fail;(with_reducible refine (zz2y _ _).mono ?_);rintro r _ ⟨rfl, rfl⟩;go_wp2_with fail;refine zQs (fun _ => KG) ?_
 refine zW 10 ?_;go_wp2_with fail;(with_reducible refine (zz0h w0 g (.slice Ah b.h.length ch) (.slice As b.s.length cs) (.slice Ao b.o.length co) (.slice Ar b.r.length cr) b e rate hT 11 (bitI (hasH b e.acc)) (0) (gfit _ _ _ zw (zz1p _) (zz0k zw)) _).mono ?_);rintro e wc7 ⟨f2, rfl, hl2, hb⟩;replace KG := zKx KG hb;replace KT := zK KT hb;replace Kh := zK Kh hb;replace HI := zH (HI.out.kept hb);replace HOF := zX HOF hb;replace HK1 := zH (HK1.out.off (Off.of hb));clear hb;obtain ⟨J2, j2, rfl⟩ := hl2.form;have HK2 := zH hl2;clear hl2;go_wp2_with fail;refine zQs (fun _ => KG) ?_
 refine zW 18 ?_;go_wp2_with fail;(with_reducible refine (zz0h w0 g (.slice Ah b.h.length ch) (.slice As b.s.length cs) (.slice Ao b.o.length co) (.slice Ar b.r.length cr) b e rate hT 15 (b.h.length) (31) (gfit _ _ _ zw (zz5d HL1.out.1) (zz0k zw)) _).mono ?_);rintro e wc8 ⟨f3, rfl, hl3, hb⟩;replace KG := zKx KG hb;replace KT := zK KT hb;replace Kh := zK Kh hb;replace HI := zH (HI.out.kept hb);replace HOF := zX HOF hb;replace HK1 := zH (HK1.out.off (Off.of hb));replace HK2 := zH (HK2.out.off (Off.of hb));clear hb;obtain ⟨J3, j3, rfl⟩ := hl3.form;have HK3 := zH hl3;clear hl3;go_wp2_with fail;refine zQs (fun _ => KG) ?_
 refine zW 19 ?_;go_wp2_with fail;generalize hwa9 : World.alloc _ _ = wa9;have hbwa9 := zM0 hwa9;replace KG := zKx KG hbwa9;replace KT := zK KT hbwa9;replace Kh := zK Kh hbwa9;replace HI := zH (HI.out.kept hbwa9);replace HOF := zX HOF hbwa9;replace HK1 := zH (HK1.out.off (Off.of hbwa9));replace HK2 := zH (HK2.out.off (Off.of hbwa9));replace HK3 := zH (HK3.out.off (Off.of hbwa9));have Kfs : ZB wa9 wc8.heap.size #[.func (.func J1) #[] j1, .func (.func J2) #[] j2, .func (.func J3) #[] j3] 72 := by rw [← hwa9]; exact zz02 _ _
 clear hwa9 hbwa9;refine zQs (fun _ => KG) ?_
 refine zW 20 ?_;go_wp2_with fail;have qall := zH (zz5h (Gt w0 g (.slice Ah b.h.length ch) (.slice As b.s.length cs) (.slice Ao b.o.length co) (.slice Ar b.r.length cr) b e rate) (wc8.heap.size) 3 [(.func (.func J1) #[] j1, sS 7 (e.qty) (0)), (.func (.func J2) #[] j2, sS 11 (bitI (hasH b e.acc)) (0)), (.func (.func J3) #[] j3, sS 15 (b.h.length) (31))] #[.func (.func J1) #[] j1, .func (.func J2) #[] j2, .func (.func J3) #[] j3] l0 _ rfl rfl Kfs (zH (by intro x hx; simp only [List.mem_cons, List.not_mem_nil, or_false] at hx; rcases hx with rfl | rfl | rfl <;> first | exact HK1.out | exact HK2.out | exact HK3.out)) HI (by have := hl0.out; show _ ≤ _; omega))
 have qall2 : Hid (Calls Tryz.prog 35 #[.slice (some ⟨wc8.heap.size, 0, none⟩) 3 3] wa9 fun r w' => r = .returned (.bool FA) ∧ Gt w0 g (.slice Ah b.h.length ch) (.slice As b.s.length cs) (.slice Ao b.o.length co) (.slice Ar b.r.length cr) b e rate (l0 ++ cutL (accS b e)) w' ∧ Off wa9 w') := by rw [← hFA.out]; exact qall.out
 clear qall;(with_reducible refine qall2.out.mono ?_);rintro r wl10 ⟨rfl, hI2, ho⟩;clear qall2 HI HK1 HK2 HK3;replace KT := zD ho KT;replace Kh := zD ho Kh;replace HOF := zH (HOF.out.trans ho);clear Kfs KG ho;have HI := zH hI2;clear hI2;have KG := zH (HI.out.blk.imp fun _ h => h.1)
 go_wp2_with fail;refine zQs (fun _ => KG) ?_
 refine zQe ?_;cases FA with
 | false =>
  obtain ⟨vX_g, hX_g⟩ := KG.out;have c_g_0 := zC hX_g;replace hX_g := zH hX_g;have c_t_0 := zC KT.out;have fc_t_0 := zF KT.out;go_wp2_with fail;generalize hws11 : World.setCell _ _ _ = ws11;clear hX_g c_g_0 c_t_0 fc_t_0;obtain ⟨vs, zE, hvs⟩ := zV5 hws11;replace HI := zH (HI.out.put KT.out zx zx LT.out 0 vs);replace HOF := zH (Off.freshC MT.out HOF.out 0 vs);replace Kh := zH (zz03 (zz0a Kh.out KT.out zx) (o := 0) (vs := vs) Kh.out );replace KG := zH ((KG.out.imp fun _ h => zz03 (zz0a h KT.out zx) (o := 0) (vs := vs) h ))
  subst hvs;rw [zE] at HI HOF Kh KG;replace KT := zP zE KT;clear zE;replace KT : ZB ws11 w.heap.size (BF Ah ch As cs Ao co Ar cr b b.n) 27 := KT.out;clear hws11;exact zt13
 | true =>
  obtain ⟨vX_g, hX_g⟩ := KG.out;have c_g_0 := zC hX_g;replace hX_g := zH hX_g;go_wp2_with fail;clear hX_g c_g_0;refine zz07 [] (fun wz : World => zG wz g Ah ch As cs Ao co Ar cr b e rate) 17 (zb 17 0) zk zk zk ?_
  obtain ⟨wd12, hwd12⟩ : ∃ wd12 : World, { wl10 with drawn := wl10.drawn + 1 } = wd12 := ⟨_, rfl⟩
  rw [hwd12];have hbwd12 : Below wl10.heap.size wl10 wd12 := by rw [← hwd12]; exact (Below.refl _ _).drew
  replace KT := zK KT hbwd12;replace Kh := zK Kh hbwd12;replace KG := zKx KG hbwd12;replace HOF := zX HOF hbwd12;replace HI := zH (HI.out.kept hbwd12);clear hwd12 hbwd12;refine zM [0, 1, 2, 3, 4, 5, 6, 7, 8, 9, 10, 11, 12, 13, 14] 2 KG ?_;simp only [opsAt, zA]
  iterate 3 refine zp ?_
  refine zr (fun wz hC => hC.out) ?_
  iterate 4 refine zp ?_
  refine zr (fun wz hC => hC.out) ?_
  iterate 4 refine zp ?_
  refine zr (fun wz hC => hC.out) ?_
  refine zp ?_;unfold wpPure;go_simp;refine zW 15 ?_;go_wp2_with fail;(with_reducible refine (q5.out _ (zH (B0.out.call HI.out.below))).mono ?_);rintro r wc13 ⟨v5, rfl, hO, hb⟩;replace KT := zK KT hb;replace Kh := zK Kh hb;replace KG := zKx KG hb;replace HOF := zX HOF hb;replace HI := zH (HI.out.kept hb);clear hb;obtain ⟨U1, u1, U2, u2, U3, u3, U4, u4, rfl⟩ := hO.form;have HO := zH hO;clear hO;go_wp2_with fail;refine zQs (fun _ => KG) ?_
  have c_t_0 := zC KT.out;have fc_t_0 := zF KT.out;refine zW 16 ?_;go_wp2_with fail;generalize hws14 : World.setCell _ _ _ = ws14;clear c_t_0 fc_t_0;replace HO : Hid _ := zH (HO.out.put KT.out 0 (BF U1 u1 U2 u2 U3 u3 U4 u4 nb nb.n));replace HI := zH (HI.out.put KT.out zx zx LT.out 0 (BF U1 u1 U2 u2 U3 u3 U4 u4 nb nb.n));replace HOF := zH (Off.freshC MT.out HOF.out 0 (BF U1 u1 U2 u2 U3 u3 U4 u4 nb nb.n));replace Kh := zH (zz03 (zz0a Kh.out KT.out zx) (o := 0) (vs := (BF U1 u1 U2 u2 U3 u3 U4 u4 nb nb.n)) Kh.out );replace KG := zH ((KG.out.imp fun _ h => zz03 (zz0a h KT.out zx) (o := 0) (vs := (BF U1 u1 U2 u2 U3 u3 U4 u4 nb nb.n)) h ))
  replace KT := zH (zz0v (o := 0) (vs := (BF U1 u1 U2 u2 U3 u3 U4 u4 nb nb.n)) KT.out);rw [show putC wc13 (w.heap.size) 0 (BF U1 u1 U2 u2 U3 u3 U4 u4 nb nb.n) = ws14 from hws14] at HO
  rw [show putC wc13 (w.heap.size) 0 (BF U1 u1 U2 u2 U3 u3 U4 u4 nb nb.n) = ws14 from hws14] at HI HOF KT Kh KG
  replace KT : ZB ws14 w.heap.size (BF U1 u1 U2 u2 U3 u3 U4 u4 nb nb.n) 27 := KT.out;clear hws14;refine zQs (fun _ => KG) ?_
  refine zQe ?_;exact zt17
theorem limit_any (w0 : World) (g : Nat) (vh vs vo vr : Value) (b : Bk) (e : Ev) (rate : Int) (hT : Hid (Law16 w0)) (B0 : Hid (BkAt w0 (.agg #[vh, vs, vo, vr, b.n]) b)) (hs : Hid b.Small) (hR : Hid b.Rise) (hE : Hid e.I64s) (l0 : List Stp) (hl0 : Hid (l0.length ≤ 50)) (w : World) (HI : Hid (Gt w0 g vh vs vo vr b e rate l0 w)) :
  Calls Tryz.prog 29 #[.pointer (some ⟨g, 0, none⟩)] w fun r w' => ∃ v, r = .returned v ∧ BkEi w' (.agg #[vh, vs, vo, vr, b.n]) v b (if (limS b e).all (·.holds) then limB b e else b) ∧ Gt w0 g vh vs vo vr b e rate (l0 ++ cutL (limS b e)) w' ∧ Off w w' := by
 obtain ⟨_, _, _, _, hv, r1, r2, r3, r4⟩ := B0.out;injection hv with hv
 simp only [Array.mk.injEq, List.cons.injEq, and_true] at hv;obtain ⟨rfl, rfl, rfl, rfl, _⟩ := hv;have LH : Hid (∀ r ∈ b.h, r.length = 4) := (by obtain ⟨_, _, _, h, _⟩ := r1; exact h)
 have LO : Hid (∀ r ∈ b.o, r.length = 6) := (by obtain ⟨_, _, _, h, _⟩ := r3; exact h)
 have LR : Hid (∀ r ∈ b.r, r.length = 2) := (by obtain ⟨_, _, _, h, _⟩ := r4; exact h)
 obtain ⟨Ah, ch, rfl, _⟩ := r1;obtain ⟨As, cs, rfl, _⟩ := r2;obtain ⟨Ao, co, rfl, _⟩ := r3;obtain ⟨Ar, cr, rfl, _⟩ := r4;have F1 : b.h.length ≤ 1000000 ∧ b.o.length ≤ 1000000 ∧ b.r.length ≤ 1000000 := by have := hs.out; unfold Bk.Small at this; omega
 have HL1 := zH F1;clear F1;have KG := zH (HI.out.blk.imp fun _ h => h.1)
 have HOF : Hid (Off w w) := Off.refl _;obtain ⟨rh, FH, hl1, hx1⟩ := zz16 LH.out (isId e.acc)
 match rh, hl1, hx1 with
 | [h0, h1, h2, h3], _, hx1 =>
 have hF : FH = hasH b e.acc := zz0q hx1;subst hF;have HX1 := zH hx1;clear hx1;obtain ⟨FA, hFA⟩ : ∃ FA, (limS b e).all (·.holds) = FA := ⟨_, rfl⟩;rw [hFA];replace hFA := zH hFA;have hrec : recH b e.acc = [h0, h1, h2, h3] := by unfold recH; rw [HX1.out]
 have hlb : limB b e = { b with h := setH h0 [h0, h1, e.qty, e.px] false b.h } := by unfold limB; rw [hrec]; rfl
 rw [hlb];clear hlb hrec;obtain ⟨nb, hnb⟩ : ∃ nb : Bk, ({ b with h := setH h0 [h0, h1, e.qty, e.px] false b.h } : Bk) = nb := ⟨_, rfl⟩
 have q5 : Hid (∀ wz : World, Hid (BkAt wz (.agg (BF Ah ch As cs Ao co Ar cr b b.n)) b) → Calls Tryz.prog 74 #[.agg (BF Ah ch As cs Ao co Ar cr b b.n), .agg #[h0, h1, e.qty, e.px]] wz fun r w' => ∃ v', r = .returned v' ∧ BkOwn w' wz.heap.size v' nb ∧ Below wz.heap.size wz w') := (show _ from fun wz hv => by rw [← hnb]; exact zz2f _ b h0 h1 e.qty e.px wz hv hs hR.out.1)
 rw [hnb];clear hnb;obtain ⟨wb, hwb⟩ : ∃ wb : World, w.alloc (.cells BZ 27) = wb := ⟨_, rfl⟩;have hb := zM0 hwb;have KT : ZB wb w.heap.size BZ 27 := by rw [← hwb]; exact zz02 _ _
 have LT : Hid (w0.heap.size ≤ w.heap.size) := HI.out.below.size;have MT : Hid (w.heap.size ≤ w.heap.size) := Nat.le_refl _;replace KG := zKx KG hb;replace HI := zH (HI.out.kept hb);replace HOF := zX HOF hb;replace hwb := zH hwb;clear hb;go_in;go_wp2_with fail;rw [hwb.out];clear hwb;refine zz07 [] (fun wz : World => zG wz g Ah ch As cs Ao co Ar cr b e rate) 16 (zb 16 0) zk zk zk ?_
 obtain ⟨wd1, hwd1⟩ : ∃ wd1 : World, { wb with drawn := wb.drawn + 1 } = wd1 := ⟨_, rfl⟩
 rw [hwd1];have hbwd1 : Below wb.heap.size wb wd1 := by rw [← hwd1]; exact (Below.refl _ _).drew
 replace KG := zKx KG hbwd1;replace KT := zK KT hbwd1;replace HI := zH (HI.out.kept hbwd1);replace HOF := zX HOF hbwd1;clear hwd1 hbwd1;refine zM [0, 1, 2, 3, 4, 5, 6, 7, 8] 7 KG ?_;simp only [opsAt, zA]
 iterate 3 refine zp ?_
 refine zr (fun wz hC => hC.out) ?_
 iterate 4 refine zp ?_
 refine zr (fun wz hC => hC.out) ?_
 unfold wpPure;go_simp;have hzd := zH HI.out.below.size;have hzo := zH HOF.out.size;refine zz1w 9 13 [10, 11, 12] 15 3 2 (.tuple #[.agg #[h0, h1, h2, h3], .bool (hasH b e.acc)]) #[.int .i64 0, .int .i64 0, .int .i64 0, .int .i64 0] 78 [(5, .tuple #[.agg #[h0, h1, h2, h3], .bool (hasH b e.acc)]), (16, .agg #[h0, h1, h2, h3]), (17, .bool (hasH b e.acc))] [15, 3, 5, 16, 17] zk zk zk zk zk (L2 := (zb 16 16383)) zk zk zk ?_ ?_ ?_ ?_ ?_
 ·exact zt37
 ·exact zt50
 ·exact fun wz hz => (KG.out.imp fun _ h => zz06 h hz)
 ·exact zt21
 intro qwf2 wf2 m2 g2 hb;have Kh := zH g2;have Lh := zH (Nat.le_trans hzd.out m2);have Mh := zH (Nat.le_trans hzo.out m2);clear g2 m2 hzd hzo;simp only [putsV];go_simp;replace KG := zKx KG hb;replace KT := zK KT hb;replace HI := zH (HI.out.kept hb);replace HOF := zX HOF hb;clear hb;have c_h_0 := zC Kh.out;have fc_h_0 := zF Kh.out;refine zW 14 ?_;go_wp2_with fail;generalize hws3 : World.setCell _ _ _ = ws3;clear c_h_0 fc_h_0;obtain ⟨vs, zE, hvs⟩ := zV4 hws3;replace HI := zH (HI.out.put Kh.out zx zx Lh.out 0 vs);replace HOF := zH (Off.freshC Mh.out HOF.out 0 vs);replace KG := zH ((KG.out.imp fun _ h => zz03 (zz0a h Kh.out zx) (o := 0) (vs := vs) h ))
 replace KT := zH (zz03 (zz0a KT.out Kh.out zx) (o := 0) (vs := vs) KT.out );subst hvs;rw [zE] at HI HOF KG KT;replace Kh := zP zE Kh;clear zE;replace Kh : ZB ws3 qwf2 #[h0, h1, h2, h3] 78 := Kh.out;clear hws3;refine zQs (fun _ => KG) ?_
 refine zM [15] 0 KG ?_;simp only [opsAt, zA];refine zp ?_;unfold wpPure;go_simp;refine zQe ?_;obtain ⟨vX_g, hX_g⟩ := KG.out;have c_g_0 := zC hX_g;replace hX_g := zH hX_g;have c_h_0 := zC Kh.out;go_wp2_with fail;clear hX_g c_g_0 c_h_0;refine zz07 [] (fun wz : World => zG wz g Ah ch As cs Ao co Ar cr b e rate) 20 (zb 20 0) zk zk zk ?_
 obtain ⟨wd4, hwd4⟩ : ∃ wd4 : World, { ws3 with drawn := ws3.drawn + 1 } = wd4 := ⟨_, rfl⟩
 rw [hwd4];have hbwd4 : Below ws3.heap.size ws3 wd4 := by rw [← hwd4]; exact (Below.refl _ _).drew
 replace KG := zKx KG hbwd4;replace KT := zK KT hbwd4;replace Kh := zK Kh hbwd4;replace HI := zH (HI.out.kept hbwd4);replace HOF := zX HOF hbwd4;clear hwd4 hbwd4;refine zM [0, 1, 4, 5, 6, 7, 8, 9, 11, 12, 13, 14, 15, 16] 6 KG ?_;simp only [opsAt, zA]
 iterate 7 refine zp ?_
 refine zr (fun wz hC => hC.out) ?_
 iterate 5 refine zp ?_
 refine zr (fun wz hC => hC.out) ?_
 unfold wpPure;go_simp;refine zW 2 ?_;go_wp2_with fail;(with_reducible refine (zz2y _ _).mono ?_);rintro r _ ⟨rfl, rfl⟩;go_wp2_with fail;refine zQs (fun _ => KG) ?_
 refine zW 3 ?_;go_wp2_with fail;(with_reducible refine (zz0h w0 g (.slice Ah b.h.length ch) (.slice As b.s.length cs) (.slice Ao b.o.length co) (.slice Ar b.r.length cr) b e rate hT 10 (bitI (hasH b e.acc)) (1) (gfit _ _ _ zw (zz1p _) (zz0k zw)) _).mono ?_);rintro e wc6 ⟨f1, rfl, hl1, hb⟩;replace KG := zKx KG hb;replace KT := zK KT hb;replace Kh := zK Kh hb;replace HI := zH (HI.out.kept hb);replace HOF := zX HOF hb;clear hb;obtain ⟨J1, j1, rfl⟩ := hl1.form;have HK1 := zH hl1;clear hl1;go_wp2_with fail;refine zQs (fun _ => KG) ?_
 refine zW 10 ?_;go_wp2_with fail;(with_reducible refine (zz0h w0 g (.slice Ah b.h.length ch) (.slice As b.s.length cs) (.slice Ao b.o.length co) (.slice Ar b.r.length cr) b e rate hT 8 (e.qty) (0) (gfit _ _ _ zw hE.out.qty (zz0k zw)) _).mono ?_);rintro e wc7 ⟨f2, rfl, hl2, hb⟩;replace KG := zKx KG hb;replace KT := zK KT hb;replace Kh := zK Kh hb;replace HI := zH (HI.out.kept hb);replace HOF := zX HOF hb;replace HK1 := zH (HK1.out.off (Off.of hb));clear hb;obtain ⟨J2, j2, rfl⟩ := hl2.form;have HK2 := zH hl2;clear hl2;go_wp2_with fail;refine zQs (fun _ => KG) ?_
 refine zW 17 ?_;go_wp2_with fail;(with_reducible refine (zz0h w0 g (.slice Ah b.h.length ch) (.slice As b.s.length cs) (.slice Ao b.o.length co) (.slice Ar b.r.length cr) b e rate hT 9 (e.px) (0) (gfit _ _ _ zw hE.out.px (zz0k zw)) _).mono ?_);rintro e wc8 ⟨f3, rfl, hl3, hb⟩;replace KG := zKx KG hb;replace KT := zK KT hb;replace Kh := zK Kh hb;replace HI := zH (HI.out.kept hb);replace HOF := zX HOF hb;replace HK1 := zH (HK1.out.off (Off.of hb));replace HK2 := zH (HK2.out.off (Off.of hb));clear hb;obtain ⟨J3, j3, rfl⟩ := hl3.form;have HK3 := zH hl3;clear hl3;go_wp2_with fail;refine zQs (fun _ => KG) ?_
 refine zW 18 ?_;go_wp2_with fail;generalize hwa9 : World.alloc _ _ = wa9;have hbwa9 := zM0 hwa9;replace KG := zKx KG hbwa9;replace KT := zK KT hbwa9;replace Kh := zK Kh hbwa9;replace HI := zH (HI.out.kept hbwa9);replace HOF := zX HOF hbwa9;replace HK1 := zH (HK1.out.off (Off.of hbwa9));replace HK2 := zH (HK2.out.off (Off.of hbwa9));replace HK3 := zH (HK3.out.off (Off.of hbwa9));have Kfs : ZB wa9 wc8.heap.size #[.func (.func J1) #[] j1, .func (.func J2) #[] j2, .func (.func J3) #[] j3] 72 := by rw [← hwa9]; exact zz02 _ _
 clear hwa9 hbwa9;refine zQs (fun _ => KG) ?_
 refine zW 19 ?_;go_wp2_with fail;have qall := zH (zz5h (Gt w0 g (.slice Ah b.h.length ch) (.slice As b.s.length cs) (.slice Ao b.o.length co) (.slice Ar b.r.length cr) b e rate) (wc8.heap.size) 3 [(.func (.func J1) #[] j1, sS 10 (bitI (hasH b e.acc)) (1)), (.func (.func J2) #[] j2, sS 8 (e.qty) (0)), (.func (.func J3) #[] j3, sS 9 (e.px) (0))] #[.func (.func J1) #[] j1, .func (.func J2) #[] j2, .func (.func J3) #[] j3] l0 _ rfl rfl Kfs (zH (by intro x hx; simp only [List.mem_cons, List.not_mem_nil, or_false] at hx; rcases hx with rfl | rfl | rfl <;> first | exact HK1.out | exact HK2.out | exact HK3.out)) HI (by have := hl0.out; show _ ≤ _; omega))
 have qall2 : Hid (Calls Tryz.prog 35 #[.slice (some ⟨wc8.heap.size, 0, none⟩) 3 3] wa9 fun r w' => r = .returned (.bool FA) ∧ Gt w0 g (.slice Ah b.h.length ch) (.slice As b.s.length cs) (.slice Ao b.o.length co) (.slice Ar b.r.length cr) b e rate (l0 ++ cutL (limS b e)) w' ∧ Off wa9 w') := by rw [← hFA.out]; exact qall.out
 clear qall;(with_reducible refine qall2.out.mono ?_);rintro r wl10 ⟨rfl, hI2, ho⟩;clear qall2 HI HK1 HK2 HK3;replace KT := zD ho KT;replace Kh := zD ho Kh;replace HOF := zH (HOF.out.trans ho);clear Kfs KG ho;have HI := zH hI2;clear hI2;have KG := zH (HI.out.blk.imp fun _ h => h.1)
 go_wp2_with fail;refine zQs (fun _ => KG) ?_
 refine zQe ?_;cases FA with
 | false =>
  obtain ⟨vX_g, hX_g⟩ := KG.out;have c_g_0 := zC hX_g;replace hX_g := zH hX_g;have c_t_0 := zC KT.out;have fc_t_0 := zF KT.out;go_wp2_with fail;generalize hws11 : World.setCell _ _ _ = ws11;clear hX_g c_g_0 c_t_0 fc_t_0;obtain ⟨vs, zE, hvs⟩ := zV5 hws11;replace HI := zH (HI.out.put KT.out zx zx LT.out 0 vs);replace HOF := zH (Off.freshC MT.out HOF.out 0 vs);replace Kh := zH (zz03 (zz0a Kh.out KT.out zx) (o := 0) (vs := vs) Kh.out );replace KG := zH ((KG.out.imp fun _ h => zz03 (zz0a h KT.out zx) (o := 0) (vs := vs) h ))
  subst hvs;rw [zE] at HI HOF Kh KG;replace KT := zP zE KT;clear zE;replace KT : ZB ws11 w.heap.size (BF Ah ch As cs Ao co Ar cr b b.n) 27 := KT.out;clear hws11;exact zt13
 | true =>
  obtain ⟨vX_g, hX_g⟩ := KG.out;have c_g_0 := zC hX_g;replace hX_g := zH hX_g;have c_h_0 := zC Kh.out;have fc_h_0 := zF Kh.out;go_wp2_with fail;clear hX_g c_g_0 c_h_0 fc_h_0;refine zz07 [] (fun wz : World => zG wz g Ah ch As cs Ao co Ar cr b e rate) 14 (zb 14 0) zk zk zk ?_
  obtain ⟨wd12, hwd12⟩ : ∃ wd12 : World, { wl10 with drawn := wl10.drawn + 1 } = wd12 := ⟨_, rfl⟩
  rw [hwd12];have hbwd12 : Below wl10.heap.size wl10 wd12 := by rw [← hwd12]; exact (Below.refl _ _).drew
  replace KT := zK KT hbwd12;replace Kh := zK Kh hbwd12;replace KG := zKx KG hbwd12;replace HOF := zX HOF hbwd12;replace HI := zH (HI.out.kept hbwd12);clear hwd12 hbwd12;refine zM [0, 1, 2, 3, 4, 5, 6, 7, 8, 9, 10] 3 KG ?_;simp only [opsAt, zA]
  iterate 4 refine zp ?_
  refine zr (fun wz hC => hC.out) ?_
  iterate 4 refine zp ?_
  refine zr (fun wz hC => hC.out) ?_
  refine zp ?_;unfold wpPure;go_simp;have c_h_0 := zC Kh.out;have fc_h_0 := zF Kh.out;refine zW 11 ?_;go_wp2_with fail;generalize hws13 : World.setCell _ _ _ = ws13;clear c_h_0 fc_h_0;have zE : putC wd12 (qwf2) 2 [.int .i64 e.qty] = ws13 := hws13;replace HI := zH (HI.out.put Kh.out zx zx Lh.out 2 [.int .i64 e.qty]);replace HOF := zH (Off.freshC Mh.out HOF.out 2 [.int .i64 e.qty]);replace KT := zH (zz03 (zz0a KT.out Kh.out zx) (o := 2) (vs := [e.qty]) KT.out );replace KG := zH ((KG.out.imp fun _ h => zz03 (zz0a h Kh.out zx) (o := 2) (vs := [e.qty]) h ))
  rw [zE] at HI HOF KT KG;replace Kh := zP zE Kh;clear zE;replace Kh : ZB ws13 qwf2 #[h0, h1, e.qty, h3] 78 := Kh.out;clear hws13;refine zQs (fun _ => KG) ?_
  refine zW 12 ?_;go_wp2_with fail;refine zQs (fun _ => KG) ?_
  have c_h_0 := zC Kh.out;have fc_h_0 := zF Kh.out;refine zW 13 ?_;go_wp2_with fail;generalize hws14 : World.setCell _ _ _ = ws14;clear c_h_0 fc_h_0;have zE : putC ws13 (qwf2) 3 [.int .i64 e.px] = ws14 := hws14;replace HI := zH (HI.out.put Kh.out zx zx Lh.out 3 [.int .i64 e.px]);replace HOF := zH (Off.freshC Mh.out HOF.out 3 [.int .i64 e.px]);replace KT := zH (zz03 (zz0a KT.out Kh.out zx) (o := 3) (vs := [e.px]) KT.out );replace KG := zH ((KG.out.imp fun _ h => zz03 (zz0a h Kh.out zx) (o := 3) (vs := [e.px]) h ))
  rw [zE] at HI HOF KT KG;replace Kh := zP zE Kh;clear zE;replace Kh : ZB ws14 qwf2 #[h0, h1, e.qty, e.px] 78 := Kh.out;clear hws14;refine zQs (fun _ => KG) ?_
  refine zQe ?_;obtain ⟨vX_g, hX_g⟩ := KG.out;have c_g_0 := zC hX_g;replace hX_g := zH hX_g;have c_h_0 := zC Kh.out;go_wp2_with fail;clear hX_g c_g_0 c_h_0;refine zRD [] (fun wz : World => zG wz g Ah ch As cs Ao co Ar cr b e rate ∧ ZB wz qwf2 #[h0, h1, e.qty, e.px] 78) 7 ?_
  obtain ⟨wd15, hwd15⟩ : ∃ wd15 : World, { ws14 with drawn := ws14.drawn + 1 } = wd15 := ⟨_, rfl⟩
  rw [hwd15];have hbwd15 : Below ws14.heap.size ws14 wd15 := by rw [← hwd15]; exact (Below.refl _ _).drew
  replace KT := zK KT hbwd15;replace Kh := zK Kh hbwd15;replace KG := zKx KG hbwd15;replace HOF := zX HOF hbwd15;replace HI := zH (HI.out.kept hbwd15);clear hwd15 hbwd15;refine zM [0, 1, 2, 3, 4] 2 ⟨KG, Kh⟩ ?_;simp only [opsAt, zA]
  iterate 3 refine zp ?_
  refine zr (fun wz hC => hC.1.out) ?_
  refine zq (fun wz hC => zC hC.2.out) ?_
  unfold wpPure;go_simp;refine zW 5 ?_;go_wp2_with fail;(with_reducible refine (q5.out _ (zH (B0.out.call HI.out.below))).mono ?_);rintro r wc16 ⟨v5, rfl, hO, hb⟩;replace KT := zK KT hb;replace Kh := zK Kh hb;replace KG := zKx KG hb;replace HOF := zX HOF hb;replace HI := zH (HI.out.kept hb);clear hb;obtain ⟨U1, u1, U2, u2, U3, u3, U4, u4, rfl⟩ := hO.form;have HO := zH hO;clear hO;go_wp2_with fail;refine zQs (fun _ => ⟨KG, Kh⟩) ?_
  have c_t_0 := zC KT.out;have fc_t_0 := zF KT.out;refine zW 6 ?_;go_wp2_with fail;generalize hws17 : World.setCell _ _ _ = ws17;clear c_t_0 fc_t_0;replace HO : Hid _ := zH (HO.out.put KT.out 0 (BF U1 u1 U2 u2 U3 u3 U4 u4 nb nb.n));replace HI := zH (HI.out.put KT.out zx zx LT.out 0 (BF U1 u1 U2 u2 U3 u3 U4 u4 nb nb.n));replace HOF := zH (Off.freshC MT.out HOF.out 0 (BF U1 u1 U2 u2 U3 u3 U4 u4 nb nb.n));replace Kh := zH (zz03 (zz0a Kh.out KT.out zx) (o := 0) (vs := (BF U1 u1 U2 u2 U3 u3 U4 u4 nb nb.n)) Kh.out );replace KG := zH ((KG.out.imp fun _ h => zz03 (zz0a h KT.out zx) (o := 0) (vs := (BF U1 u1 U2 u2 U3 u3 U4 u4 nb nb.n)) h ))
  replace KT := zH (zz0v (o := 0) (vs := (BF U1 u1 U2 u2 U3 u3 U4 u4 nb nb.n)) KT.out);rw [show putC wc16 (w.heap.size) 0 (BF U1 u1 U2 u2 U3 u3 U4 u4 nb nb.n) = ws17 from hws17] at HO
  rw [show putC wc16 (w.heap.size) 0 (BF U1 u1 U2 u2 U3 u3 U4 u4 nb nb.n) = ws17 from hws17] at HI HOF KT Kh KG
  replace KT : ZB ws17 w.heap.size (BF U1 u1 U2 u2 U3 u3 U4 u4 nb nb.n) 27 := KT.out;clear hws17;refine zQs (fun _ => ⟨KG, Kh⟩) ?_
  refine zQe ?_;exact zt17
theorem zt36 {p : Prop} (h : p := by
 exact zz30 76 #[.agg (BF Ah ch As cs Ao co Ar cr b b.n), .int .i64 e.ord] ⟨_, _, _, rfl, rfl, rfl, rfl, by simp [Act.eval, Act.put], by simp⟩ (fun w => enters_of Tryz.func76 zk rfl _ w) (fun wz hz => (Open_any _ b e.ord o0 o1 o2 o3 o4 o5 (hasO b e.ord) wz (zH (B0.out.call (HI.out.below.trans (hz.mono HI.out.below.size)))) HL1.out.2.1 hR.out.2.1 HX2).mono fun x w' ⟨h1, h2⟩ => ⟨_, h1, rfl, h2⟩)) : p := h
theorem zt57 {p : Prop} (h : p := by
 exact zz24 _ rfl rfl rfl #[.int .i64 0, .int .i64 0, .int .i64 0, .int .i64 0, .int .i64 0, .int .i64 0] 82 (fun ev wz => by unfold execOp; go_simp) (fun wz hz => ⟨rfl, zz02 wz _⟩)) : p := h
theorem zzbt (w0 : World) (g : Nat) (vh vs vo vr : Value) (b : Bk) (e : Ev) (rate : Int) (hT : Hid (Law16 w0)) (B0 : Hid (BkAt w0 (.agg #[vh, vs, vo, vr, b.n]) b)) (hs : Hid b.Small) (hR : Hid b.Rise) (hE : Hid e.I64s) (l0 : List Stp) (hl0 : Hid (l0.length ≤ 50)) (w : World) (HI : Hid (Gt w0 g vh vs vo vr b e rate l0 w)) :
  Calls Tryz.prog 33 #[.pointer (some ⟨g, 0, none⟩)] w fun r w' => ∃ v, r = .returned v ∧ BkEi w' (.agg #[vh, vs, vo, vr, b.n]) v b (if (canS b e).all (·.holds) then canB b e else b) ∧ Gt w0 g vh vs vo vr b e rate (l0 ++ cutL (canS b e)) w' ∧ Off w w' := by
 obtain ⟨_, _, _, _, hv, r1, r2, r3, r4⟩ := B0.out;injection hv with hv
 simp only [Array.mk.injEq, List.cons.injEq, and_true] at hv;obtain ⟨rfl, rfl, rfl, rfl, _⟩ := hv;have LH : Hid (∀ r ∈ b.h, r.length = 4) := (by obtain ⟨_, _, _, h, _⟩ := r1; exact h)
 have LO : Hid (∀ r ∈ b.o, r.length = 6) := (by obtain ⟨_, _, _, h, _⟩ := r3; exact h)
 have LR : Hid (∀ r ∈ b.r, r.length = 2) := (by obtain ⟨_, _, _, h, _⟩ := r4; exact h)
 obtain ⟨Ah, ch, rfl, _⟩ := r1;obtain ⟨As, cs, rfl, _⟩ := r2;obtain ⟨Ao, co, rfl, _⟩ := r3;obtain ⟨Ar, cr, rfl, _⟩ := r4;have F1 : b.h.length ≤ 1000000 ∧ b.o.length ≤ 1000000 ∧ b.r.length ≤ 1000000 := by have := hs.out; unfold Bk.Small at this; omega
 have HL1 := zH F1;clear F1;have KG := zH (HI.out.blk.imp fun _ h => h.1)
 have HOF : Hid (Off w w) := Off.refl _;obtain ⟨ro, FO, hl2, hx2⟩ := zz16 LO.out (isId e.ord)
 match ro, hl2, hx2 with
 | [o0, o1, o2, o3, o4, o5], _, hx2 =>
 have hFo : FO = hasO b e.ord := zz0q hx2;subst hFo;have HX2 := zH hx2;clear hx2;obtain ⟨FA, hFA⟩ : ∃ FA, (canS b e).all (·.holds) = FA := ⟨_, rfl⟩;rw [hFA];replace hFA := zH hFA;obtain ⟨nb, hnb⟩ : ∃ nb : Bk, canB b e = nb := ⟨_, rfl⟩;have q5 : Hid (∀ wz : World, Hid (BkAt wz (.agg (BF Ah ch As cs Ao co Ar cr b b.n)) b) → Calls Tryz.prog 85 #[.agg (BF Ah ch As cs Ao co Ar cr b b.n), .agg #[e.ord, .int .i64 0, .int .i64 0, .int .i64 0, .int .i64 0, .int .i64 0]] wz fun r w' => ∃ v', r = .returned v' ∧ BkOwn w' wz.heap.size v' nb ∧ Below wz.heap.size wz w') := (show _ from fun wz hv => by rw [← hnb]; exact zz3o _ b e.ord 0 0 0 0 0 wz hv hs hR.out.2.1)
 rw [hnb];clear hnb;obtain ⟨wb, hwb⟩ : ∃ wb : World, w.alloc (.cells BZ 27) = wb := ⟨_, rfl⟩;have hb := zM0 hwb;have KT : ZB wb w.heap.size BZ 27 := by rw [← hwb]; exact zz02 _ _
 have LT : Hid (w0.heap.size ≤ w.heap.size) := HI.out.below.size;have MT : Hid (w.heap.size ≤ w.heap.size) := Nat.le_refl _;replace KG := zKx KG hb;replace HI := zH (HI.out.kept hb);replace HOF := zX HOF hb;replace hwb := zH hwb;clear hb;go_in;go_wp2_with fail;rw [hwb.out];clear hwb;refine zz07 [] (fun wz : World => zG wz g Ah ch As cs Ao co Ar cr b e rate) 16 (zb 16 0) zk zk zk ?_
 obtain ⟨wd1, hwd1⟩ : ∃ wd1 : World, { wb with drawn := wb.drawn + 1 } = wd1 := ⟨_, rfl⟩
 rw [hwd1];have hbwd1 : Below wb.heap.size wb wd1 := by rw [← hwd1]; exact (Below.refl _ _).drew
 replace KG := zKx KG hbwd1;replace KT := zK KT hbwd1;replace HI := zH (HI.out.kept hbwd1);replace HOF := zX HOF hbwd1;clear hwd1 hbwd1;refine zM [0, 1, 2, 3, 4, 5, 6, 7, 8] 7 KG ?_;simp only [opsAt, zA]
 iterate 3 refine zp ?_
 refine zr (fun wz hC => hC.out) ?_
 iterate 4 refine zp ?_
 refine zr (fun wz hC => hC.out) ?_
 unfold wpPure;go_simp;have hzd := zH HI.out.below.size;have hzo := zH HOF.out.size;refine zz1w 9 13 [10, 11, 12] 15 3 2 (.tuple #[.agg #[o0, o1, o2, o3, o4, o5], .bool (hasO b e.ord)]) #[.int .i64 0, .int .i64 0, .int .i64 0, .int .i64 0, .int .i64 0, .int .i64 0] 82 [(5, .tuple #[.agg #[o0, o1, o2, o3, o4, o5], .bool (hasO b e.ord)]), (16, .agg #[o0, o1, o2, o3, o4, o5]), (17, .bool (hasO b e.ord))] [15, 3, 5, 16, 17] zk zk zk zk zk (L2 := (zb 16 16383)) zk zk zk ?_ ?_ ?_ ?_ ?_
 ·exact zt36
 ·exact zt57
 ·exact fun wz hz => (KG.out.imp fun _ h => zz06 h hz)
 ·exact zt21
 intro qwf2 wf2 m2 g2 hb;have Ko := zH g2;have Lo := zH (Nat.le_trans hzd.out m2);have Mo := zH (Nat.le_trans hzo.out m2);clear g2 m2 hzd hzo;simp only [putsV];go_simp;replace KG := zKx KG hb;replace KT := zK KT hb;replace HI := zH (HI.out.kept hb);replace HOF := zX HOF hb;clear hb;have c_o_0 := zC Ko.out;have fc_o_0 := zF Ko.out;refine zW 14 ?_;go_wp2_with fail;generalize hws3 : World.setCell _ _ _ = ws3;clear c_o_0 fc_o_0;obtain ⟨vs, zE, hvs⟩ := zV6 hws3;replace HI := zH (HI.out.put Ko.out zx zx Lo.out 0 vs);replace HOF := zH (Off.freshC Mo.out HOF.out 0 vs);replace KG := zH ((KG.out.imp fun _ h => zz03 (zz0a h Ko.out zx) (o := 0) (vs := vs) h ))
 replace KT := zH (zz03 (zz0a KT.out Ko.out zx) (o := 0) (vs := vs) KT.out );subst hvs;rw [zE] at HI HOF KG KT;replace Ko := zP zE Ko;clear zE;replace Ko : ZB ws3 qwf2 #[o0, o1, o2, o3, o4, o5] 82 := Ko.out;clear hws3;refine zQs (fun _ => KG) ?_
 refine zM [15] 0 KG ?_;simp only [opsAt, zA];refine zp ?_;unfold wpPure;go_simp;refine zQe ?_;obtain ⟨vX_g, hX_g⟩ := KG.out;have c_g_0 := zC hX_g;replace hX_g := zH hX_g;have c_o_0 := zC Ko.out;go_wp2_with fail;(with_reducible refine (zz2y _ _).mono ?_);rintro r _ ⟨rfl, rfl⟩;go_wp2_with fail;(with_reducible refine (zz0h w0 g (.slice Ah b.h.length ch) (.slice As b.s.length cs) (.slice Ao b.o.length co) (.slice Ar b.r.length cr) b e rate hT 13 (bitI (hasO b e.ord)) 1 (gfit _ _ _ zw (zz1p _) (zz0k zw)) _).mono ?_);rintro r wc4 ⟨f1, rfl, hl1, hb⟩;clear hX_g c_g_0 c_o_0;replace KG := zKx KG hb;replace KT := zK KT hb;replace Ko := zK Ko hb;replace HI := zH (HI.out.kept hb);replace HOF := zX HOF hb;clear hb;obtain ⟨J1, j1, rfl⟩ := hl1.form;have HK1 := zH hl1;clear hl1;go_wp2_with fail;generalize hwa5 : World.alloc _ _ = wa5;have hbwa5 := zM0 hwa5;replace KG := zKx KG hbwa5;replace KT := zK KT hbwa5;replace Ko := zK Ko hbwa5;replace HI := zH (HI.out.kept hbwa5);replace HOF := zX HOF hbwa5;replace HK1 := zH (HK1.out.off (Off.of hbwa5));have Kfs : ZB wa5 wc4.heap.size #[.func (.func J1) #[] j1] 72 := by rw [← hwa5]; exact zz02 _ _
 clear hwa5 hbwa5;have qall := zH (zz5h (Gt w0 g (.slice Ah b.h.length ch) (.slice As b.s.length cs) (.slice Ao b.o.length co) (.slice Ar b.r.length cr) b e rate) (wc4.heap.size) 1 [(.func (.func J1) #[] j1, sS 13 (bitI (hasO b e.ord)) (1))] #[.func (.func J1) #[] j1] l0 _ rfl rfl Kfs (zH (by intro x hx; simp only [List.mem_cons, List.not_mem_nil, or_false] at hx; subst hx; exact HK1.out)) HI (by have := hl0.out; show _ ≤ _; omega))
 have qall2 : Hid (Calls Tryz.prog 35 #[.slice (some ⟨wc4.heap.size, 0, none⟩) 1 1] wa5 fun r w' => r = .returned (.bool FA) ∧ Gt w0 g (.slice Ah b.h.length ch) (.slice As b.s.length cs) (.slice Ao b.o.length co) (.slice Ar b.r.length cr) b e rate (l0 ++ cutL (canS b e)) w' ∧ Off wa5 w') := by rw [← hFA.out]; exact qall.out
 clear qall;(with_reducible refine qall2.out.mono ?_);rintro r wl6 ⟨rfl, hI2, ho⟩;clear qall2 HI HK1;replace KT := zD ho KT;replace Ko := zD ho Ko;replace HOF := zH (HOF.out.trans ho);clear Kfs KG ho;have HI := zH hI2;clear hI2;have KG := zH (HI.out.blk.imp fun _ h => h.1)
 cases FA with
 | false =>
  obtain ⟨vX_g, hX_g⟩ := KG.out;have c_g_0 := zC hX_g;replace hX_g := zH hX_g;have c_t_0 := zC KT.out;have fc_t_0 := zF KT.out;go_wp2_with fail;generalize hws7 : World.setCell _ _ _ = ws7;clear hX_g c_g_0 c_t_0 fc_t_0;obtain ⟨vs, zE, hvs⟩ := zV5 hws7;replace HI := zH (HI.out.put KT.out zx zx LT.out 0 vs);replace HOF := zH (Off.freshC MT.out HOF.out 0 vs);replace Ko := zH (zz03 (zz0a Ko.out KT.out zx) (o := 0) (vs := vs) Ko.out );replace KG := zH ((KG.out.imp fun _ h => zz03 (zz0a h KT.out zx) (o := 0) (vs := vs) h ))
  subst hvs;rw [zE] at HI HOF Ko KG;replace KT := zP zE KT;clear zE;replace KT : ZB ws7 w.heap.size (BF Ah ch As cs Ao co Ar cr b b.n) 27 := KT.out;clear hws7;exact zt13
 | true =>
  obtain ⟨vX_g, hX_g⟩ := KG.out;have c_g_0 := zC hX_g;replace hX_g := zH hX_g;go_wp2_with fail;clear hX_g c_g_0;refine zz07 [] (fun wz : World => zG wz g Ah ch As cs Ao co Ar cr b e rate) 12 (zb 12 0) zk zk zk ?_
  obtain ⟨wd8, hwd8⟩ : ∃ wd8 : World, { wl6 with drawn := wl6.drawn + 1 } = wd8 := ⟨_, rfl⟩
  rw [hwd8];have hbwd8 : Below wl6.heap.size wl6 wd8 := by rw [← hwd8]; exact (Below.refl _ _).drew
  replace KT := zK KT hbwd8;replace Ko := zK Ko hbwd8;replace KG := zKx KG hbwd8;replace HOF := zX HOF hbwd8;replace HI := zH (HI.out.kept hbwd8);clear hwd8 hbwd8;refine zM [0, 1, 2, 3, 4, 5, 6, 7, 8, 9] 2 KG ?_;simp only [opsAt, zA]
  iterate 3 refine zp ?_
  refine zr (fun wz hC => hC.out) ?_
  iterate 4 refine zp ?_
  refine zr (fun wz hC => hC.out) ?_
  refine zp ?_;unfold wpPure;go_simp;refine zW 10 ?_;go_wp2_with fail;(with_reducible refine (q5.out _ (zH (B0.out.call HI.out.below))).mono ?_);rintro r wc9 ⟨v5, rfl, hO, hb⟩;replace KT := zK KT hb;replace Ko := zK Ko hb;replace KG := zKx KG hb;replace HOF := zX HOF hb;replace HI := zH (HI.out.kept hb);clear hb;obtain ⟨U1, u1, U2, u2, U3, u3, U4, u4, rfl⟩ := hO.form;have HO := zH hO;clear hO;go_wp2_with fail;refine zQs (fun _ => KG) ?_
  have c_t_0 := zC KT.out;have fc_t_0 := zF KT.out;refine zW 11 ?_;go_wp2_with fail;generalize hws10 : World.setCell _ _ _ = ws10;clear c_t_0 fc_t_0;replace HO : Hid _ := zH (HO.out.put KT.out 0 (BF U1 u1 U2 u2 U3 u3 U4 u4 nb nb.n));replace HI := zH (HI.out.put KT.out zx zx LT.out 0 (BF U1 u1 U2 u2 U3 u3 U4 u4 nb nb.n));replace HOF := zH (Off.freshC MT.out HOF.out 0 (BF U1 u1 U2 u2 U3 u3 U4 u4 nb nb.n));replace Ko := zH (zz03 (zz0a Ko.out KT.out zx) (o := 0) (vs := (BF U1 u1 U2 u2 U3 u3 U4 u4 nb nb.n)) Ko.out );replace KG := zH ((KG.out.imp fun _ h => zz03 (zz0a h KT.out zx) (o := 0) (vs := (BF U1 u1 U2 u2 U3 u3 U4 u4 nb nb.n)) h ))
  replace KT := zH (zz0v (o := 0) (vs := (BF U1 u1 U2 u2 U3 u3 U4 u4 nb nb.n)) KT.out);rw [show putC wc9 (w.heap.size) 0 (BF U1 u1 U2 u2 U3 u3 U4 u4 nb nb.n) = ws10 from hws10] at HO
  rw [show putC wc9 (w.heap.size) 0 (BF U1 u1 U2 u2 U3 u3 U4 u4 nb nb.n) = ws10 from hws10] at HI HOF KT Ko KG
  replace KT : ZB ws10 w.heap.size (BF U1 u1 U2 u2 U3 u3 U4 u4 nb nb.n) 27 := KT.out;clear hws10;refine zQs (fun _ => KG) ?_
  refine zQe ?_;exact zt17
end
end Go.Proofs.YtajogedbacpohaaGreatDoor
