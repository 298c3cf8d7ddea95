/- What a round does; Scan, Sizes. -/
import Derived.Test.YtjcdpmianmgiaaaFrameC
import Derived.Laws.EntriesVeiled
namespace Go.Proofs.Ytjcdpmianmgiaaa
open Go.RowKit Go.Shelf
attribute [local go_sem] Oper.semAt_some

section
variable {P : Program} {ops : Array Oper} {rest : List Oper} {o : Oper} {a : Act} {Q : Exit → Act → World → Prop}
theorem wpList_append_grow {wr : World} {B : Nat} (s x : Operand) (t e : TypeId) (z : Value) (bytes : Nat) (he : Elt P t e z 1 bytes) (u : Value) (v : Value) (n : Nat) (xs : List Value)
    (hown : Hid (wr.ownsRow B e 1 v n xs)) (hB : B ≤ wr.heap.size)
    (hgd : o.guard = none) (ho : o.op = .call { callee := .builtin .append, args := #[s, x], argTypes := #[t, t] })
    (hs : a.eval s = v) (hx : a.eval x = .slice (some ⟨wr.heap.size, 0, none⟩) 1 1) (hu : u.oneCell' = true) (hn : n + 1 ≤ 1099511627776) (hby : bytes ≤ 64)
    (h : ∀ v' w', Hid (w'.ownsRow B e 1 v' (n + 1) (xs ++ [u])) → Hid ((wr.alloc (.cells #[u] e)).grownBy w' v.ownBlock) → wpList P ops Q rest (a.put o.dst v') w') :
    wpList P ops Q (o :: rest) a (wr.alloc (.cells #[u] e)) := by
  obtain ⟨i, hi, hz, hsz, hbs⟩ := he.info
  have hown := hown.out
  refine wpList_append_own _ hgd s x t ho B e i z 1 bytes he.und hi hz hsz hbs he.zs he.pos v n xs hs (hown.alloc _) ⟨wr.heap.size, 0, none⟩ 1 1 [u] hx rfl ?_ ?_ ?_ ?_ ?_ ?_
  · intro j w' hj
    match j with
    | 0 => simp at hj; subst hj; rw [Addr.add_lit]; exact World.cell?_alloc_at _ _ _ _ rfl
    | j+1 => simp at hj
  · intro u' hu'; simp at hu'; subst hu'; exact hu
  · unfold maxLen; omega
  · have h1 := Nat.mul_le_mul (show n + 1 ≤ 1099511627776 from hn) hby; omega
  · simp; omega
  · intro v' w' h1 h2 _
    exact h v' w' h1 h2
end

section
variable {P : Program} {ops : Array Oper} {rest : List Oper} {o : Oper} {a : Act} {Q : Exit → Act → World → Prop} {F : Fence} {m : Nat}
theorem wpListIn_append_grow {wr : World} {B : Nat} (s x : Operand) (t e : TypeId) (z : Value) (bytes : Nat) (he : Elt P t e z 1 bytes) (u : Value) (v : Value) (n : Nat) (xs : List Value)
    (hown : Hid (wr.ownsRow B e 1 v n xs)) (hB : B ≤ wr.heap.size)
    (hgd : o.guard = none) (ho : o.op = .call { callee := .builtin .append, args := #[s, x], argTypes := #[t, t] })
    (hs : a.eval s = v) (hx : a.eval x = .slice (some ⟨wr.heap.size, 0, none⟩) 1 1) (hu : u.oneCell' = true) (hn : n + 1 ≤ 1099511627776) (hby : bytes ≤ 64)
    (h : ∀ v' w', Hid (w'.ownsRow B e 1 v' (n + 1) (xs ++ [u])) → Hid ((wr.alloc (.cells #[u] e)).grownBy w' v.ownBlock) → wpListIn F m P ops Q rest (a.put o.dst v') w') :
    wpListIn F m P ops Q (o :: rest) a (wr.alloc (.cells #[u] e)) := by
  obtain ⟨i, hi, hz, hsz, hbs⟩ := he.info
  have hown := hown.out
  refine wpListIn_append_own _ hgd s x t ho B e i z 1 bytes he.und hi hz hsz hbs he.zs he.pos v n xs hs (hown.alloc _) ⟨wr.heap.size, 0, none⟩ 1 1 [u] hx rfl ?_ ?_ ?_ ?_ ?_ ?_
  · intro j w' hj
    match j with
    | 0 => simp at hj; subst hj; rw [Addr.add_lit]; exact World.cell?_alloc_at _ _ _ _ rfl
    | j+1 => simp at hj
  · intro u' hu'; simp at hu'; subst hu'; exact hu
  · unfold maxLen; omega
  · have h1 := Nat.mul_le_mul (show n + 1 ≤ 1099511627776 from hn) hby; omega
  · simp; omega
  · intro v' w' h1 h2 _
    exact h v' w' h1 h2
end

theorem own_ge {W : World} {n₀ : Nat} {e : TypeId} {size k : Nat} {v : Value} {xs : List Value} (h : W.ownsRow n₀ e size v k xs) : ∀ g, v.ownBlock = some g → n₀ ≤ g ∧ ∃ o : Obj, W.heap[g]? = some o ∧ o.isCells = true := by
  intro g hg
  rcases h.2 with ⟨rfl, _⟩ | ⟨g', cap, cur, rfl, hb, hgb, _⟩
  · simp [Value.ownBlock] at hg
  · obtain rfl : g' = g := by simpa [Value.ownBlock] using hg
    exact ⟨hb, _, hgb, rfl⟩
theorem app_keeps {W w1 : World} {n₀ : Nat} {e : TypeId} {size k : Nat} {v : Value} {xs : List Value} {tmp : Obj} (hrow : W.ownsRow n₀ e size v k xs) (hn : n₀ ≤ W.heap.size) (hg : (W.alloc tmp).grownBy w1 v.ownBlock) :
    KeepsOthers W w1 ∧ Below n₀ W w1 := by
  refine ⟨(KeepsOthers.alloc W tmp).trans (KeepsOthers.of_grownBy hg fun j o ej hj => ?_), ((Below.refl n₀ W).alloc hn tmp).grown hg (by simp; omega) fun j ej => (own_ge hrow j ej).1⟩
  obtain ⟨_, o', ho', hc⟩ := own_ge (hrow.alloc tmp) j ej
  rw [hj] at ho'; cases ho'; exact hc
theorem own_base {W : World} {n₀ m : Nat} {e : TypeId} {size k : Nat} {v : Value} {xs : List Value} (h : W.ownsRow n₀ e size v k xs) (hm : m ≤ n₀) : W.ownsRow m e size v k xs := by
  refine ⟨h.1, ?_⟩
  rcases h.2 with h' | ⟨g, cap, cur, e1, e2, e3⟩
  · exact .inl h'
  · exact .inr ⟨g, cap, cur, e1, by omega, e3⟩
theorem own_drewN {W : World} {n₀ : Nat} {e : TypeId} {size k : Nat} {v : Value} {xs : List Value} (h : W.ownsRow n₀ e size v k xs) (n : Nat) : (W.drewN n).ownsRow n₀ e size v k xs := h
theorem own_kept {A B : World} {base Bs N : Nat} {e : TypeId} {size k : Nat} {v : Value} {xs : List Value} {row : Option Nat} (h : A.ownsRow base e size v k xs) (hg : A.grownBy B row)
    (hr : ∀ r, row = some r → r = Bs ∨ (N ≤ r ∧ ∃ o : Obj, A.heap[r]? = some o ∧ o.isCells = false)) (hb : Bs < base) : B.ownsRow base e size v k xs := by
  refine h.kept hg ?_
  cases hv : v.ownBlock with
  | none =>
    rcases h.2 with ⟨rfl, _⟩ | ⟨g, cap, cur, rfl, _, _⟩
    · exact .inl rfl
    · simp [Value.ownBlock] at hv
  | some g =>
    refine .inr fun e' => ?_
    obtain ⟨hge, o, ho, hc⟩ := own_ge h g hv
    rcases hr g (by rw [← e']) with h' | ⟨_, o', ho', hc'⟩
    · omega
    · rw [ho] at ho'; cases ho'; rw [hc] at hc'; cases hc'
theorem own_set {W : World} {n₀ : Nat} {e : TypeId} {size k : Nat} {v : Value} {xs : List Value} (h : W.ownsRow n₀ e size v k xs) (b : Nat) (hb : b < n₀) (u : Value) : (W.setCell ⟨b, 0, none⟩ u).ownsRow n₀ e size v k xs :=
  h.kept (grownBy_setCell' W b u) (.inr fun e' => by have := (own_ge h b e').1; omega)
theorem boxed_low {W w1 : World} {n B : Nat} {t : TypeId} {v : Value} (h : Boxed W B t v) (hb : Below n W w1) (hB : B < n) : Boxed w1 B t v := (hb.block B hB).trans h
theorem boxed_else {W : World} {B b : Nat} {t : TypeId} {v : Value} (h : Boxed W B t v) (u : Value) (hB : B ≠ b) : Boxed (W.setCell ⟨b, 0, none⟩ u) B t v := h.kept (grownBy_setCell' W b u) (by simpa using hB)

theorem el_str : Elt Try.prog 22 9 (.string ⟨#[]⟩) 1 16 := Elt.mk' Try.underlying22 (by kernel_rfl) rfl (by decide)
set_option maxRecDepth 100000 in
theorem Add_any (b0 b1 base n0 k a n : Nat) (v : Value) (xs : List Value) (row : ByteArray) (w : World) (h0 : Hid (Boxed w b0 22 v)) (hrow : Hid (w.ownsRow base 9 1 v k xs)) (h1 : Hid (Boxed w b1 3 (.int .i64 a)))
    (hlt : Hid (b0 < base ∧ b1 < base ∧ b0 ≠ b1 ∧ base ≤ w.heap.size ∧ n0 ≤ b0 ∧ n0 ≤ b1)) (hk : k + 1 ≤ 1099511627776) (han : a + n ≤ 1099511627776) :
    Calls Try.prog 10 #[.string row, .int .i64 n, .pointer (some ⟨b0, 0, none⟩), .pointer (some ⟨b1, 0, none⟩)] w fun e w' => e = .returned (.tuple #[]) ∧
      ∃ v', Boxed w' b0 22 v' ∧ w'.ownsRow base 9 1 v' (k + 1) (xs ++ [.string row]) ∧ Boxed w' b1 3 (.int .i64 ((a + n : Nat) : Int)) ∧ KeepsOthers w w' ∧ Below n0 w w' ∧ base ≤ w'.heap.size ∧ ∀ i, i < base → i ≠ b0 → i ≠ b1 → w'.heap[i]? = w.heap[i]? := by
  obtain ⟨l0, l1, hne, hbw, ln0, ln1⟩ := hlt.out
  have c0 := h0.out.cell
  have f0 := h0.out.frozen
  have hz : wrap64 ((a : Int) + n) = ((a + n : Nat) : Int) := by simp only [wrap64]; omega
  have K1 := Lib.hid hne; have K2 := Lib.hid l0; have K3 := Lib.hid l1; have K4 := Lib.hid hbw
  clear hne l0 l1
  go_enter Try.func10, Try.ntmps10
  go_wp2_with (at_builtin; refine wpList_append_grow _ _ _ _ _ _ el_str _ _ _ _ hrow hbw rfl rfl rfl rfl rfl hk (by decide) ?_; intro v1 w1 hown1 hg1
               obtain ⟨g', cap', rfl⟩ := ownsRow_succ hown1.out
               obtain ⟨hko, hbl⟩ := app_keeps hrow.out hbw hg1.out
               have HKO := Lib.hid hko; have HBL := Lib.hid hbl; clear hko hbl
               have H0 := Lib.hid (boxed_low h0.out HBL.out K2.out); have H1 := Lib.hid (boxed_low h1.out HBL.out K3.out)
               have c01 := H0.out.cell
               have f01 := H0.out.frozen
               have c11 := (boxed_else H1.out (.slice (some ⟨g', 0, none⟩) (k + 1) cap') (Ne.symm K1.out)).cell
               have f11 := (boxed_else H1.out (.slice (some ⟨g', 0, none⟩) (k + 1) cap') (Ne.symm K1.out)).frozen)
  go_end0
  have s1 := (H0.out.set (.slice (some ⟨g', 0, none⟩) (k + 1) cap'))
  have s2 := own_set hown1.out b0 K2.out (.slice (some ⟨g', 0, none⟩) (k + 1) cap')
  have s3 := (boxed_else H1.out (.slice (some ⟨g', 0, none⟩) (k + 1) cap') (Ne.symm K1.out)).set (.int .i64 ((a + n : Nat) : Int))
  rw [show ((a : Int) + n) = ((a + n : Nat) : Int) by omega]
  refine ⟨rfl, _, boxed_else s1 _ K1.out, own_set s2 b1 K3.out _, s3, (HKO.out.trans (KeepsOthers.setCell _ _ _)).trans (KeepsOthers.setCell _ _ _), ?_, ?_, ?_⟩
  · have K2' := K2.out
    exact ((HBL.out.mono (show n0 ≤ base by omega)).setCell (p := ⟨b0, 0, none⟩) ln0 _).setCell (p := ⟨b1, 0, none⟩) ln1 _
  · have := HBL.out.size; have := K4.out; simp only [World.size_setCell]; omega
  · intro i hi hi0 hi1
    rw [Below.heap_setCell _ _ _ i hi1, Below.heap_setCell _ _ _ i hi0]
    exact HBL.out.block i hi

theorem sumOf_snoc (l : List (ByteArray × Nat)) (x : ByteArray × Nat) : sumOf (l ++ [x]) = sumOf l + x.2 := by unfold sumOf; simp
theorem pre_bounds {s : ByteArray} {pre : List (ByteArray × Nat)} {x : ByteArray × Nat} (h : pre ++ [x] <+: framesOf s) : pre.length + 1 ≤ s.size ∧ sumOf pre + x.2 ≤ s.size := by
  obtain ⟨r, hr⟩ := h
  have h1 := sumOf_le (s.size + 1) s (by omega)
  rw [← hr] at h1
  unfold sumOf at h1 ⊢
  simp at h1 ⊢
  omega

/-- Between two rounds of Scan. -/
structure ScanAt (n0 base b0 b1 b2 : Nat) (w0 : World) (fn : Value) (pre : List (ByteArray × Nat)) (W : World) (v : Value) : Prop where
  rows : Boxed W b0 22 v
  own : W.ownsRow base 9 1 v pre.length (pre.map (fun x => Value.string x.1))
  all : Boxed W b1 3 (.int .i64 (sumOf pre))
  add : Boxed W b2 35 fn
  below : Below n0 w0 W
  size : base ≤ W.heap.size
theorem ScanAt.kept {n0 base b0 b1 b2 Bs N : Nat} {w0 : World} {fn : Value} {pre : List (ByteArray × Nat)} {A B : World} {v : Value} {row : Option Nat} (h : ScanAt n0 base b0 b1 b2 w0 fn pre A v) (hg : A.grownBy B row)
    (hr : ∀ r, row = some r → r = Bs ∨ (N ≤ r ∧ ∃ o : Obj, A.heap[r]? = some o ∧ o.isCells = false)) (hN : N = base) (hb : b0 < Bs ∧ b1 < Bs ∧ b2 < Bs ∧ Bs < base ∧ n0 ≤ Bs ∧ n0 ≤ w0.heap.size) : ScanAt n0 base b0 b1 b2 w0 fn pre B v := by
  subst hN
  have low : ∀ b, b < Bs → some b ≠ row := fun b hb' e => by rcases hr b e.symm with h | ⟨h, _⟩ <;> omega
  refine ⟨h.rows.kept hg (low _ hb.1), h.own.kept hg ?_, h.all.kept hg (low _ hb.2.1), h.add.kept hg (low _ hb.2.2.1), h.below.grown hg (Nat.le_trans hb.2.2.2.2.2 h.below.size) (fun k e => ?_), Nat.le_trans h.size hg.size⟩
  · cases hv : v.ownBlock with
    | none =>
      rcases h.own.2 with ⟨rfl, _⟩ | ⟨g, cap, cur, rfl, _, _⟩
      · exact .inl rfl
      · simp [Value.ownBlock] at hv
    | some g =>
      refine .inr fun e' => ?_
      obtain ⟨hge, o, ho, hc⟩ := own_ge h.own g hv
      rcases hr g (by rw [← e']) with h' | ⟨_, o', ho', hc'⟩
      · omega
      · rw [ho] at ho'; cases ho'; rw [hc] at hc'; cases hc'
  · rcases hr k e with h' | ⟨h', _⟩ <;> omega

theorem frames_any (s : ByteArray) (w : World) :
    Calls Try.prog 11 #[.string s] w fun e w' => e = .returned (.func (.func 14) #[] #[.pointer (some ⟨w.heap.size, 0, none⟩)]) ∧ w' = w.alloc (.cells #[.string s] 9) := by
  go_enter Try.func11, Try.ntmps11
  go_wp2_with fail
  go_ret
  exact ⟨rfl, rfl⟩

set_option maxRecDepth 100000 in
set_option maxHeartbeats 1000000 in
theorem Scan_any (s : ByteArray) (w : World) (hs : Hid (s.size ≤ 1099511627775)) :
    Calls Try.prog 7 #[.string s] w fun e w' => ∃ v, e = .returned (.tuple #[v, .int .i64 (sumOf (framesOf s))]) ∧ w'.ownsRow w.heap.size 9 1 v (framesOf s).length ((framesOf s).map (fun x => Value.string x.1)) ∧ Below w.heap.size w w' := by
  refine (callsIn_wide (n := 3)).1 ?_
  have h1 : 1 ≤ 3 := by omega
  have hs2 : Hid (s.size ≤ 1099511627776) := by have := hs.out; show _ ≤ _; omega
  have hro : Fence.wide.round = none := rfl
  refine callsIn_of_wp_marks Try.func7 rfl trivial ?_ hro
  simp only [Try.ntmps7, List.size_toArray, List.length_cons, List.length_nil, Nat.reduceAdd, Nat.reduceSub, Array.replicate_succ, Array.replicate_zero, List.push_toArray, List.append_toArray, List.nil_append, List.cons_append]
  gi_wp2_with (fail)
  refine ⟨trivial, callsIn_wide.2 ((frames_any _ _).mono ?_)⟩
  rintro e w1 ⟨rfl, rfl⟩
  gi_wp2_with (fail)
  obtain ⟨w0, hw0⟩ : ∃ w0, ((((w.alloc (.cells #[.slice none 0 0] 22)).alloc (.cells #[.int .i64 0] 3)).alloc (.cells #[.func (.func 10) #[] #[.pointer (some ⟨w.heap.size, 0, none⟩), .pointer (some ⟨w.heap.size + 1, 0, none⟩)]] 35)).alloc (.cells #[.string s] 9)) = w0 := ⟨_, rfl⟩
  have hsz : w0.heap.size = w.heap.size + 1 + 1 + 1 + 1 := by rw [← hw0]; simp
  have z0 : Boxed w0 w.heap.size 22 (.slice none 0 0) := by
    rw [← hw0]; exact (((Boxed.new _ _ _).alloc _).alloc _).alloc _
  have z1 : Boxed w0 (w.heap.size + 1) 3 (.int .i64 0) := by
    have h := ((Boxed.new (w.alloc (.cells #[.slice none 0 0] 22)) 3 (.int .i64 0)).alloc (.cells #[.func (.func 10) #[] #[.pointer (some ⟨w.heap.size, 0, none⟩), .pointer (some ⟨w.heap.size + 1, 0, none⟩)]] 35)).alloc (.cells #[.string s] 9)
    rw [World.size_alloc, hw0] at h; exact h
  have z2 : Boxed w0 (w.heap.size + 1 + 1) 35 (.func (.func 10) #[] #[.pointer (some ⟨w.heap.size, 0, none⟩), .pointer (some ⟨w.heap.size + 1, 0, none⟩)]) := by
    have h := (Boxed.new ((w.alloc (.cells #[.slice none 0 0] 22)).alloc (.cells #[.int .i64 0] 3)) 35 (.func (.func 10) #[] #[.pointer (some ⟨w.heap.size, 0, none⟩), .pointer (some ⟨w.heap.size + 1, 0, none⟩)])).alloc (.cells #[.string s] 9)
    rw [World.size_alloc, World.size_alloc, hw0] at h; exact h
  have z3 : Boxed w0 (w.heap.size + 1 + 1 + 1) 9 (.string s) := by
    have h := Boxed.new (((w.alloc (.cells #[.slice none 0 0] 22)).alloc (.cells #[.int .i64 0] 3)).alloc (.cells #[.func (.func 10) #[] #[.pointer (some ⟨w.heap.size, 0, none⟩), .pointer (some ⟨w.heap.size + 1, 0, none⟩)]] 35)) 9 (.string s)
    rw [World.size_alloc, World.size_alloc, World.size_alloc, hw0] at h; exact h
  have zb : Below w.heap.size w w0 := by
    rw [← hw0]; exact ((((Below.refl _ w).alloc (Nat.le_refl _) _).alloc (by simp) _).alloc (by simp; omega) _).alloc (by simp; omega) _
  rw [hw0]
  clear hw0
  have Z0 := Lib.hid z0; have Z1 := Lib.hid z1; have Z2 := Lib.hid z2; have Z3 := Lib.hid z3; have ZB := Lib.hid zb
  clear z0 z1 z2 z3 zb
  refine rangeFunc_run hro h1 (gf := 14) (lb := #[.pointer (some ⟨w.heap.size + 1 + 1 + 1, 0, none⟩)]) rfl trivial (enters_of Try.func14 (by kernel_rfl) rfl)
    (encs := fun x : ByteArray × Nat => #[.string x.1, .int .i64 (x.2 : Int)]) (fun _ => rfl) (framesOf s) (w.heap.size + 1 + 1 + 1) (by omega)
    (fun pre W => ∃ v, Hid (ScanAt w.heap.size (w.heap.size + 1 + 1 + 1 + 1) w.heap.size (w.heap.size + 1) (w.heap.size + 1 + 1) w (.func (.func 10) #[] #[.pointer (some ⟨w.heap.size, 0, none⟩), .pointer (some ⟨w.heap.size + 1, 0, none⟩)]) pre W v))
    (fun pre A B row ⟨v, hA⟩ hg hr => ⟨v, hA.out.kept hg hr hsz (by omega)⟩)
    ⟨_, Z0.out, World.ownsRow_nil _ _ _ _, Z1.out, Z2.out, ZB.out, by omega⟩
    (fun l J W hW hJ hY h0 => frames1_in l _ s hs2 J W hJ hY (boxed_low Z3.out hW (by omega)) h0)
    (fun x => { tmps := #[.string s, undef, .slice none 0 0, .int .i64 0, .pointer (some ⟨w.heap.size, 0, none⟩), .pointer (some ⟨w.heap.size + 1, 0, none⟩), .pointer (some ⟨w.heap.size + 1 + 1, 0, none⟩), .string x.1, .int .i64 x.2, .func (.func 10) #[] #[.pointer (some ⟨w.heap.size, 0, none⟩), .pointer (some ⟨w.heap.size + 1, 0, none⟩)], .string s, .func (.func 14) #[] #[.pointer (some ⟨w.heap.size + 1 + 1 + 1, 0, none⟩)], .string x.1, .int .i64 x.2, undef, undef, undef, undef, undef, undef], defers := [] }) ?assign ?body ?done
  case assign =>
    intro l x W K hK
    gi_wp2
    exact hK
  case body =>
    rintro l pre ⟨row, n⟩ W ⟨v, hA⟩ hp
    have hb1 := pre_bounds hp
    have ca := hA.out.add.cell
    have hs3 := hs.out
    simp only [] at hb1
    gi_wp2_with (fail)
    have hlt : Hid (w.heap.size < w.heap.size + 1 + 1 + 1 + 1 ∧ w.heap.size + 1 < w.heap.size + 1 + 1 + 1 + 1 ∧ w.heap.size ≠ w.heap.size + 1 ∧ w.heap.size + 1 + 1 + 1 + 1 ≤ W.heap.size ∧ w.heap.size ≤ w.heap.size ∧ w.heap.size ≤ w.heap.size + 1) := by have := hA.out.size; show _ ∧ _; omega
    refine ⟨trivial, CallsIn.inRound l (callsIn_wide.2 ((Add_any _ _ _ w.heap.size _ _ _ _ _ _ _ (Lib.hid hA.out.rows) (Lib.hid hA.out.own) (Lib.hid hA.out.all) hlt (by omega) (by omega)).mono ?_))⟩
    rintro e w1 ⟨rfl, v', k0, kr, k1, kk, kb, ks, ko⟩
    have hN := Lib.hid (show KeepsOthers W w1 ∧ w1.heap[w.heap.size + 1 + 1 + 1]? = W.heap[w.heap.size + 1 + 1 + 1]? ∧ ∃ v, Hid (ScanAt w.heap.size (w.heap.size + 1 + 1 + 1 + 1) w.heap.size (w.heap.size + 1) (w.heap.size + 1 + 1) w (.func (.func 10) #[] #[.pointer (some ⟨w.heap.size, 0, none⟩), .pointer (some ⟨w.heap.size + 1, 0, none⟩)]) (pre ++ [(row, n)]) w1 v) from
      ⟨kk, ko _ (by omega) (by omega) (by omega), v', k0, by simpa using kr, by rw [sumOf_snoc]; exact k1, (ko _ (by omega) (by omega) (by omega)).trans hA.out.add, hA.out.below.trans kb, ks⟩)
    clear k0 kr k1 kk kb ks ko
    gi_wp2_with (fail)
    exact hN.out
  case done =>
    rintro D W hD ⟨v, hA⟩ hK
    have c0 := hA.out.rows.cell
    have c1 := hA.out.all.cell
    have HK := Lib.hid hK; clear hK
    gi_wp2_with (fail)
    refine wpIn_wide.2 ?_
    go_quiet (fail)
    gi_wp2_with (fail)
    have hK' : (W.drewN nq).heap[D]? = some (.deferred (some [])) := HK.out
    have hDw : w.heap.size ≤ D := by omega
    refine ⟨by simp, .inl ⟨_, _, rfl, run_takeDeferred hK', ?_⟩⟩
    exact ⟨_, results_tmp2 rfl _ _ _, v, rfl, own_base (ownsRow_putObj (W := W.drewN nq) (own_drewN hA.out.own nq) _ hK' rfl) (by omega), (below_drewN hA.out.below nq).trans (belowK_b (w := w) (Nat.le_refl _) (W.drewN nq) D _ _ hDw hK' rfl rfl)⟩

end Go.Proofs.Ytjcdpmianmgiaaa
