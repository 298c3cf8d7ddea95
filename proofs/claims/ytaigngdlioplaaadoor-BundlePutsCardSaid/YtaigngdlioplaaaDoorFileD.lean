/- The bytes of files: bundle.Put, the reference's Put. -/
import Derived.Test.YtaigngdlioplaaaDoorFileC
import Derived.Test.YtaigngdlioplaaaDoorOwnZ
import Derived.Test.YtaigngdlioplaaaDoorRegT
import Derived.Test.YtaigngdlioplaaaDoorNumsI
import Derived.Test.YtaigngdlioplaaaDoorNumsLaws
namespace Go.Proofs.YtaigngdlioplaaaDoor
open Go Go.RowKit
set_option linter.unusedVariables false

section
variable {P : Program} (w : World)
/-- 'append(b, s...)', b a slice out of '[]byte(..)' that the call owns, s a string. -/
theorem run_append_zs (base : Nat) (t u ty e : TypeId) (i : TypeInfo) (ht : P.underlying t = some (.slice e)) (hu : P.underlying u = some .string) (hi : P.info? e = some i) (hz : i.zero = some (.int .u8 0))
    (hsize : i.size = 1) (hby : i.bytes = 1) (v : Value) (n : Nat) (xs : List Value) (hown : OwnZ w base e v n xs) (s : ByteArray)
    (hbytes : n + s.size ≤ 140737488355328) (hbase : base ≤ w.heap.size) :
    ∃ v' w', (Builtin.append_ #[t, u] ty #[v, .string s]).run P w = .ok v' w' ∧ OwnZ w' base e v' (n + s.size) (xs ++ Lib.strCells s) ∧ w.grownBy w' v.ownBlock := by
  have hb := byteCells_length s
  have hbc : byteCells s = Lib.strCells s := rfl
  rcases hown.2 with ⟨rfl, rfl⟩ | ⟨g, off, cap, cur, fz, rfl, hbg, hg, hfz, hnc, hcs, htake⟩
  · have hx : xs = [] := List.eq_nil_of_length_eq_zero hown.1
    subst hx
    obtain ⟨v', w', hr, h1, h2, _⟩ := Lib.run_append_own_string (P := P) w base t u ty e i ht hu hi hz hsize hby (.slice none 0 0) 0 [] (World.ownsRow_nil w base e 1) s (by unfold maxLen; omega) (by omega) hbase
    exact ⟨v', w', hr, OwnZ.of_at (OwnAt.of_row h1), h2⟩
  · have hsrc := Src.ofString (P := P) w hu s
    rw [← hsize] at hsrc
    by_cases hroom : n + s.size ≤ cap
    · have hr := run_append_room_src (P := P) w t u ty e i ht hi g off n cap (.string s) s.size (byteCells s) hsrc hroom
        (fun j hj => by
          rw [hsize, Nat.mul_one]
          have hlt : off + n + j < cur.size := by omega
          rw [cell_of_row w g _ cur e fz hg, Array.getElem?_eq_getElem hlt]; rfl)
        (fun j hj => by
          rw [hsize, Nat.mul_one]
          have hlt : off + n + j < cur.size := by omega
          simp only [World.frozen?, hg]
          rcases hfz with h | h
          · simp [h]
          · simp; omega)
      rw [hsize, Nat.mul_one] at hr
      have hheap : (w.setCells g (off + n) (byteCells s)).heap[g]? = some (.cells (putL cur (off + n) (byteCells s)) e fz) := by
        have : ∀ (vs : List Value) (w : World) (o : Nat) (cur : Array Value), w.heap[g]? = some (.cells cur e fz) → (w.setCells g o vs).heap[g]? = some (.cells (putL cur o vs) e fz) := by
          intro vs
          induction vs with
          | nil => intro w o cur h; exact h
          | cons v r ih => intro w o cur h; exact ih _ _ _ (set_blk h o v)
        exact this (byteCells s) w (off + n) cur hg
      refine ⟨_, _, hr, ⟨by rw [List.length_append, hown.1, ← hbc, hb], .inr ⟨g, off, cap, _, fz, rfl, hbg, hheap, by rw [putL_size]; exact hfz, hroom, by rw [putL_size]; exact hcs, ?_⟩⟩, setCells_grown _ w g _⟩
      apply List.ext_getElem?
      intro j
      by_cases h1 : j < n
      · rw [List.getElem?_take, if_pos (by omega), List.getElem?_drop, Array.getElem?_toList, putL_out _ _ _ _ (by omega), List.getElem?_append_left (by rw [hown.1]; exact h1), ← htake, List.getElem?_take, if_pos h1, List.getElem?_drop, Array.getElem?_toList]
      · by_cases h2 : j < n + s.size
        · rw [List.getElem?_take, if_pos h2, List.getElem?_drop, Array.getElem?_toList, List.getElem?_append_right (by rw [hown.1]; omega), hown.1, show off + j = (off + n) + (j - n) by omega, putL_in _ _ _ _ (by omega) (by omega), hbc]
        · rw [List.getElem?_eq_none (by rw [List.length_take]; omega), List.getElem?_eq_none (by rw [List.length_append, hown.1, ← hbc, hb]; omega)]
    · have holds : (Builtin.firstCells i.size n (.slice (some ⟨g, off, none⟩) n cap)).run P w.drew = .ok xs.toArray w.drew :=
        run_firstCells_some w.drew i.size n ⟨g, off, none⟩ n cap xs (by rw [hown.1, hsize, Nat.mul_one]) (fun j u hj => by
          have hjl : j < n := by have := (List.getElem?_eq_some_iff.1 hj).1; rw [hown.1] at this; exact this
          rw [Addr.add_lit]
          show w.cell? _ = _
          rw [cell_of_row w g (off + j) cur e fz hg, ← hj, ← htake, List.getElem?_take, if_pos hjl, List.getElem?_drop, Array.getElem?_toList])
      have hr := run_append_grow_src (P := P) w t u ty e i (.int .u8 0) ht hi hz (some ⟨g, off, none⟩) n cap xs holds (.string s) s.size (byteCells s) hsrc (by omega) (by omega) (by rw [hby]; exact growslice_fits (by omega) (by omega))
      have hge := grownCap_ge w (n + s.size) cap e
      refine ⟨_, _, hr, ⟨by rw [List.length_append, hown.1, ← hbc, hb], .inr ⟨w.heap.size, 0, _, _, _, rfl, hbase, heap_alloc_new w.drew _, .inl rfl, hge, ?_, ?_⟩⟩, ⟨rfl, rfl, rfl, by simp, fun k hk _ => Below.heap_alloc w.drew _ k hk⟩⟩
      · have hz1 : (Value.int IntKind.u8 0).cells.size = 1 := rfl
        simp only [Array.size_append, List.size_toArray, List.length_append, size_zeroCells, hz1, hown.1, hb]
        omega
      · rw [List.drop_zero, Array.toList_append, ← hbc]
        simp only []
        have hl : (xs ++ byteCells s).length = n + s.size := by rw [List.length_append, hown.1, hb]
        rw [← hl]
        exact List.take_left
theorem wpList_append_zs {ops : Array Oper} {rest : List Oper} {o : Oper} {a : Act} {Q : Exit → Act → World → Prop} (hgd : o.guard = none) (sl x : Operand) (t u : TypeId)
    (ho : o.op = .call { callee := .builtin .append, args := #[sl, x], argTypes := #[t, u] })
    (base : Nat) (e : TypeId) (he : Elt P t e (.int .u8 0) 1 1) (hu : P.underlying u = some .string)
    (v : Value) (n : Nat) (xs : List Value) (hs : a.eval sl = v) (hown : Hid (OwnZ w base e v n xs)) (s : ByteArray) (hx : a.eval x = .string s)
    (hbytes : n + s.size ≤ 1099511627776) (hbase : base ≤ w.heap.size)
    (h : ∀ v' w', Hid (OwnZ w' base e v' (n + s.size) (xs ++ Lib.strCells s)) → Hid (w.grownBy w' v.ownBlock) → wpList P ops Q rest (a.put o.dst v') w') : wpList P ops Q (o :: rest) a w := by
  obtain ⟨i, hi, hz, hsize, hby⟩ := he.info
  refine wpList_plain hgd fun K hK => ?_
  obtain ⟨v', w', hr, h2, h3⟩ := run_append_zs (P := P) w base t u o.type e i he.und hu hi hz hsize hby v n xs hown.out s (by omega) hbase
  unfold Oper.wp execOp
  simp only [ho, resolve, invoke, builtin, Sem.run_bind, Sem.run_pure, Result.andThen_ok, List.map_toArray, List.map_cons, List.map_nil, hs, hx, hr]
  exact hK _ _ (h v' w' h2 h3)
/-- 'string(b)', b such a slice. -/
theorem run_string_z {B n : Nat} {v : Value} (s : ByteArray) (t e dst : TypeId) (ht : P.underlying t = some (.slice e)) (he : P.underlying e = some (.int .u8)) (hd : P.underlying dst = some .string)
    (hown : OwnZ w B e v n (Lib.strCells s)) : (convert t dst v).run P w = .ok (.string s) w := by
  have hl := hown.1
  rw [Lib.strCells_length] at hl
  have hs : strOfNums (s.data.toList.map fun b => (b.toNat : Int)) = s := by
    apply ByteArray.ext
    apply Array.toList_inj.1
    rw [strOfNums_list, List.map_map]
    conv => rhs; rw [← List.map_id s.data.toList]
    apply List.map_congr_left
    intro b _
    exact byteOf_small b
  by_cases hn : 0 < n
  · obtain ⟨g, off, cap, rfl, _, _, _, hc⟩ := hown.cells hn
    have h := run_convert_bytes_arg (P := P) w t e ht he g off n cap (s.data.toList.map fun b => (b.toNat : Int)) (by simpa using hl) (fun i hi => by
      have hi2 : i < s.data.toList.length := by simpa using (by omega : i < s.size)
      refine hc i _ ?_
      unfold Lib.strCells
      rw [List.getElem?_map, List.getElem?_eq_getElem hi2]
      have hi3 : i < s.data.size := by simpa using hi2
      simp [List.getD, Array.getElem?_eq_getElem hi3]) dst hd
    rw [hs] at h
    exact h
  · have h0 : n = 0 := by omega
    subst h0
    have hs0 : s = ⟨#[]⟩ := ByteArray.ext (Array.toList_inj.1 (List.length_eq_zero_iff.1 (by simpa using hl)))
    subst hs0
    rcases hown.2 with ⟨rfl, _⟩ | ⟨g, off, cap, cur, fz, rfl, _⟩
    · exact run_convert_bytes_nil (P := P) w t e ht he 0 0 dst hd
    · have h := run_convert_bytes_arg (P := P) w t e ht he g off 0 cap [] rfl (fun i hi => by omega) dst hd
      exact h
theorem wpList_string_z {B n : Nat} {ops : Array Oper} {rest : List Oper} {o : Oper} {a : Act} {Q : Exit → Act → World → Prop} (x : Operand) (v : Value) (s : ByteArray) (t e dst : TypeId) (hd : P.underlying dst = some .string)
    (ht : P.underlying t = some (.slice e)) (he8 : P.underlying e = some (.int .u8)) (hown : Hid (OwnZ w B e v n (Lib.strCells s)))
    (hgd : o.guard = none) (ho : o.op = .convert t dst x) (hx : a.eval x = v)
    (h : wpList P ops Q rest (a.put o.dst (.string s)) w) : wpList P ops Q (o :: rest) a w := by
  refine wpList_plain hgd fun K hK => ?_
  have hr := run_string_z (P := P) w s t e dst ht he8 hd hown.out
  unfold Oper.wp
  simp [execOp, ho, hx, hr, Result.andThen]
  exact hK _ _ h
end

theorem strCells_app (a b : ByteArray) : Lib.strCells a ++ Lib.strCells b = Lib.strCells (a ++ b) := by
  unfold Lib.strCells; simp [ByteArray.data_append]
/-- The variable that is written to, and what it holds. -/
structure OutB (w : World) (B p : Nat) (s : ByteArray) : Prop where
  blk : ∃ v, w.heap[p]? = some (.cells #[v] 115 (0, 0)) ∧ OwnZ w B 5 v s.size (Lib.strCells s)
  le : B ≤ p
theorem OutB.call {w w' : World} {B p : Nat} {s : ByteArray} (h : OutB w B p s) (hb : Below w.heap.size w w') : OutB w' B p s := by
  obtain ⟨⟨v, h1, h2⟩, h3⟩ := h
  exact ⟨⟨v, blk_call h1 hb, h2.call hb⟩, h3⟩
theorem own_part {w : World} {B p : Nat} {v u : Value} {n : Nat} {xs : List Value} (h : OwnZ w B 5 v n xs) (hp : w.heap[p]? = some (.cells #[u] 115 (0, 0))) : v.ownBlock ≠ some p := by
  intro hv
  rcases h.2 with ⟨rfl, _⟩ | ⟨g, off, cap, cur, fz, rfl, _, hg, _⟩
  · simp [Value.ownBlock] at hv
  · simp [Value.ownBlock] at hv
    subst hv
    rw [hp] at hg
    cases hg
theorem el_u8z : Elt Tryd.prog 115 5 (.int .u8 0) 1 1 := Elt.mk' Tryd.underlying115 (by kernel_rfl) rfl (by decide)

set_option maxRecDepth 100000 in
set_option maxHeartbeats 1000000 in
theorem PutC_any (B p : Nat) (s r : ByteArray) (w : World) (hO : Hid (OutB w B p s)) (hs : s.size ≤ 1000000000) (hr : r.size ≤ 1000000000) :
    Calls Tryd.prog 94 #[.string r, .pointer (some ⟨p, 0, none⟩)] w fun e w' => e = .returned (.tuple #[]) ∧ OutB w' B p (s ++ rowStr r) ∧ Below B w w' ∧ (∀ k cs T fz, w.heap[k]? = some (.cells cs T fz) → T ≠ 5 → k ≠ p → w'.heap[k]? = w.heap[k]?) := by
  have q := Lib.hid (fun w => Row_any r w (by show _ ≤ _; omega))
  have z1 := rowStr_size r
  generalize rowStr r = R at *
  have z2 : R.size ≤ 1000000010 := by omega
  obtain ⟨⟨v, hb, hw⟩, hle⟩ := hO.out
  have HB := Lib.hid hb
  have HW := Lib.hid hw
  have c0 := cells_of_blk hb 0 _ rfl
  have l0 := (Array.getElem?_eq_some_iff.1 hb).1
  clear hb hw z1 hO
  go_enter Tryd.func94, Tryd.ntmps94
  go_wp2_with fail
  refine wp_region_ext_tail 3 (by kernel_rfl) (by kernel_rfl) ?_
  simp only [List.take_succ_cons, List.take_zero, List.drop_succ_cons, List.drop_zero]
  repeat (go_big_quiet_step (with_reducible exact ext_call (q.out _)))
  refine wpQuiet_nil ?_
  rintro w' ⟨y, rfl⟩
  have HB1 := Lib.hid (blk_call HB.out y.below)
  have HW1 := Lib.hid (HW.out.call y.below)
  have HBl := Lib.hid (y.below.mono (show B ≤ w.heap.size by omega))
  have HOLD : Hid (∀ k, k < w.heap.size → y.w.heap[k]? = w.heap[k]?) := fun k hk => y.below.block k hk
  have HSZ : Hid (w.heap.size ≤ y.w.heap.size) := y.below.size
  have l1 := Nat.lt_of_lt_of_le l0 y.below.size
  generalize y.w = w1 at *
  clear y c0
  go_wp2_with (at_builtin; refine wpList_append_zs _ rfl _ _ _ _ rfl B 5 el_u8z Tryd.underlying9 _ _ _ rfl HW1 R rfl (by omega) (by omega) ?_; intro v2 w2 hown2 hg2; obtain ⟨a2, cap2, rfl⟩ := hown2.out.form; refine Hid.out ?_)
  refine Lib.hid ?_
  have hg2 : Hid (w1.grownBy w2 v.ownBlock) := hg2
  have hp2 : w2.heap[p]? = some (.cells #[v] 115 (0, 0)) := (hg2.out.block p l1 (fun e => own_part HW1.out HB1.out e.symm)).trans HB1.out
  have HP2 := Lib.hid hp2
  have c1 := cells_of_blk hp2 0 _ rfl
  have f1 := free_of_blk hp2 0
  have HBl2 : Hid (Below B w w2) := HBl.out.grown hg2.out (by omega) (fun k hk => (HW1.out.lt k hk).1)
  have HF : Hid (OutB (w2.setCell ⟨p, 0, none⟩ (.slice a2 (s.size + R.size) cap2)) B p (s ++ R)) := by
    have hne := own_part hown2.out hp2
    refine ⟨⟨_, set_blk hp2 0 _, ?_⟩, hle⟩
    rw [ByteArray.size_append, ← strCells_app]
    exact hown2.out.keep fun k hk => set_oth rfl 0 _ (fun e => hne (by rw [hk, e]))
  have HKP : Hid (∀ k cs T fz, w.heap[k]? = some (.cells cs T fz) → T ≠ 5 → k ≠ p → (w2.setCell ⟨p, 0, none⟩ (.slice a2 (s.size + R.size) cap2)).heap[k]? = w.heap[k]?) := fun k cs T fz hk hT hkp => by
    have hlt := (Array.getElem?_eq_some_iff.1 hk).1
    have h1 := HOLD.out k hlt
    have hown : v.ownBlock ≠ some k := by
      intro hv
      rcases HW1.out.2 with ⟨rfl, _⟩ | ⟨g, off, cap, cur, fz', rfl, _, hg, _⟩
      · simp [Value.ownBlock] at hv
      · simp [Value.ownBlock] at hv
        subst hv
        rw [h1, hk] at hg
        cases hg
        exact hT rfl
    rw [set_oth rfl 0 _ hkp, hg2.out.block k (by have := HSZ.out; omega) (fun e => hown e.symm), h1]
  clear hp2
  go_wp2_with fail
  go_end0
  exact ⟨rfl, HF.out, HBl2.out.setCell hle _, HKP.out⟩

/-- What files are put as, behind what is there. -/
def putFrom (s0 : ByteArray) (l : List Fil) : ByteArray := l.foldl (fun s f => (s ++ rowStr f.1) ++ rowStr f.2) s0
def putF (l : List Fil) : ByteArray := putFrom (numStr l.length) l
theorem putFrom_step (s0 : ByteArray) {l : List Fil} {k : Nat} {f : Fil} (h : l[k]? = some f) : putFrom s0 (l.take (k + 1)) = (putFrom s0 (l.take k) ++ rowStr f.1) ++ rowStr f.2 := by
  obtain ⟨hk, rfl⟩ := List.getElem?_eq_some_iff.1 h
  unfold putFrom
  rw [List.take_succ_eq_append_getElem hk, List.foldl_append]
  rfl
/-- Names that are short. -/
def Short (l : List Fil) : Prop := ∀ (i : Nat) (f : Fil), l[i]? = some f → f.1.size ≤ 16
theorem putFrom_le (s0 : ByteArray) (l : List Fil) (hs : Short l) : ∀ k, k ≤ l.length → (putFrom s0 (l.take k)).size ≤ s0.size + 36 * k + usedF (l.take k)
  | 0, _ => by simp [putFrom, usedF]
  | k + 1, hk => by
    have hge : l[k]? = some l[k] := List.getElem?_eq_getElem (by omega)
    have h1 := hs k _ hge
    have h2 := rowStr_size (l[k]).1
    have h3 := rowStr_size (l[k]).2
    have ih := putFrom_le s0 l hs k (by omega)
    rw [putFrom_step s0 hge, usedF_step hge, ByteArray.size_append, ByteArray.size_append]
    omega
theorem mayK_okF {l : List Fil} : ∀ {n : Nat}, mayK l n = true → ∀ k f, k < n → l[k]? = some f → okF l k f = true
  | 0, _, k, f, hk, _ => absurd hk (by omega)
  | n + 1, h, k, f, hk, hs => by
    unfold mayK at h
    rw [Bool.and_eq_true] at h
    by_cases he : k = n
    · subst he; rw [hs] at h; exact h.2
    · exact mayK_okF h.1 k f (by omega) hs
theorem mayF_short {l : List Fil} (h : mayF l = true) : Short l ∧ l.length ≤ 4096 := by
  unfold mayF at h
  rw [Bool.and_eq_true] at h
  refine ⟨fun i f hf => ?_, of_decide_eq_true h.1⟩
  have ho := mayK_okF h.2 i f (List.getElem?_eq_some_iff.1 hf).1 hf
  unfold okF at ho
  simp only [Bool.and_eq_true] at ho
  have hn := ho.1.1
  unfold namedS at hn
  rw [Bool.and_eq_true] at hn
  exact (of_decide_eq_true hn.1).2

set_option maxRecDepth 100000 in
set_option maxHeartbeats 1000000 in
theorem rPutF_any (v : Value) (l : List Fil) (w : World) (hv : Hid (FilesAt w v l)) (hl : l.length ≤ 4096) (hsh : Hid (Short l)) (hu : usedF l ≤ 1000000000) :
    Calls Tryd.prog 53 #[v] w fun e w' => e = .returned (.string (putF l)) ∧ Below w.heap.size w w' := by
  have q0 := Lib.hid (fun w => refNum_any l.length w (by show U64 _; unfold U64; omega))
  rw [Int.toNat_natCast] at q0
  have z0 := numStr_size l.length
  have hdef : Hid (putF l = putFrom (numStr l.length) l) := rfl
  have hle := Lib.hid (putFrom_le (numStr l.length) l hsh.out)
  have hst := Lib.hid (fun (k : Nat) (f : Fil) (h : l[k]? = some f) => putFrom_step (numStr l.length) h)
  generalize putF l = PF at *
  generalize numStr l.length = s0 at *
  obtain ⟨A, c, rfl, _⟩ := hv.out
  go_enter Tryd.func53, Tryd.ntmps53
  go_wp2_with fail
  refine (q0.out _).mono ?_
  rintro e w1 ⟨rfl, hb⟩
  have HB1 := Lib.hid hb
  clear hb q0
  go_wp2_with fail
  go_loopw [3, 4] (fun s3 s4 wr => ∃ k : Nat, s3 = .string (putFrom s0 (l.take k)) ∧ s4 = .int .i64 k ∧ Hid (k ≤ l.length) ∧ Hid (Below w.heap.size w wr)) (fun _ s4 _ => l.length - (intOf s4).toNat)
  case atStart => exact ⟨0, rfl, rfl, Nat.zero_le _, HB1.out⟩
  case round =>
    obtain ⟨k, rfl, rfl, hk, hB⟩ := hrel
    by_cases hkl : k < l.length
    · obtain ⟨A', c', hA', hci⟩ := (hv.out.call hB.out)
      cases hA'
      have hge : l[k]? = some l[k] := List.getElem?_eq_getElem hkl
      obtain ⟨b, o, rfl, hbl, h0, h1⟩ := hci k _ hge
      have hS := Lib.hid (hst.out k _ hge)
      have z1 := hsh.out k _ hge
      have z2 := hle.out k (by omega)
      have z3 := usedF_step hge
      have z4 := usedF_take_le l (k + 1)
      rw [z3] at z4
      clear hci hge z3
      generalize l[k] = f at *
      obtain ⟨s, t⟩ := f
      simp only [] at z1 z4 h0 h1 hS
      have q1 := Lib.hid (fun w => refRow_any s w (by show _ ≤ _; omega))
      have q2 := Lib.hid (fun w => refRow_any t w (by show _ ≤ _; omega))
      have y1 := rowStr_size s
      have y2 := rowStr_size t
      generalize rowStr s = rs at *
      generalize rowStr t = rt at *
      generalize putFrom s0 (l.take k) = C at *
      have y3 : rs.size ≤ 26 := by omega
      have y4 : rt.size ≤ 1000000010 := by omega
      have y5 : C.size ≤ 2000000000 := by omega
      clear y1 y2 z1 z2 z4
      go_wp2_with fail
      refine wp_region_ext (by kernel_rfl) (by kernel_rfl) ?_
      repeat (go_big_quiet_step (first | (with_reducible exact ext_call (q1.out _)) | (with_reducible exact ext_call (q2.out _))))
      refine wpQuiet_nil ?_
      rintro w' ⟨y, rfl⟩
      have HB2 := Lib.hid (hB.out.trans (y.below.mono hB.out.size))
      go_wp2_with fail
      go_roundw
      case rel => exact ⟨k + 1, by rw [hS.out], by go_num, by show _ ≤ _; omega, HB2.out⟩
      case measure => simp [intOf]; omega
    · have hkk : k = l.length := by have := hk.out; omega
      subst hkk
      rw [List.take_length] at *
      have hE : Hid (PF = putFrom s0 l) := hdef.out
      go_wp2_with fail
      go_ret
      exact ⟨by rw [hE.out]; rfl, hB.out⟩

/-- What Put answers. -/
def putE (l : List Fil) : Int := if mayF l then (if usedF l ≤ 1048576 then 0 else 4) else 1
def putV (l : List Fil) : ByteArray := if putE l = 0 then putF l else ⟨#[]⟩
set_option maxRecDepth 100000 in
set_option maxHeartbeats 1000000 in
theorem PutF_any (v : Value) (l : List Fil) (w : World) (hv : Hid (FilesAt w v l)) (hl : l.length ≤ 1000000) (hz : Hid (∀ (i : Nat) (f : Fil), l[i]? = some f → f.1.size ≤ 9223372036854775807)) (hu : usedF l ≤ 1000000000) :
    Calls Tryd.prog 49 #[v] w fun e w' => e = .returned (.tuple #[.string (putV l), .int .i64 (putE l)]) ∧ Below w.heap.size w w' := by
  have qM := Lib.hid (fun w hv => MayF_any v l w hv hl hz)
  have qU := Lib.hid (fun w hv => used_any v l w hv hl (by omega))
  by_cases hm : mayF l = true
  · rw [hm] at qM
    obtain ⟨hsh, hl4⟩ := mayF_short hm
    by_cases hus : usedF l ≤ 1048576
    · have hE : putE l = 0 := by unfold putE; rw [hm, if_pos rfl, if_pos hus]
      rw [show putV l = putF l by unfold putV; rw [if_pos hE], hE]
      have q0 := Lib.hid (fun w => Num_any (l.length : Int) w (by show U64 _; unfold U64; omega))
      rw [Int.toNat_natCast] at q0
      have e1 : IntKind.u64.wrap (l.length : Int) = (l.length : Int) := by rw [IntKind.wrap_u64]; omega
      have z0 := numStr_size l.length
      have hdef : Hid (putF l = putFrom (numStr l.length) l) := rfl
      have hle := Lib.hid (putFrom_le (numStr l.length) l hsh)
      have hst := Lib.hid (fun (k : Nat) (f : Fil) (h : l[k]? = some f) => putFrom_step (numStr l.length) h)
      have t1 : decide ((1048576 : Int) < (usedF l : Int)) = false := decide_eq_false (by omega)
      have hsh := Lib.hid hsh
      have hut := Lib.hid (usedF_take_le l)
      have hus2 := Lib.hid (fun (k : Nat) (f : Fil) (h : l[k]? = some f) => usedF_step h)
      generalize usedF l = U at *
      generalize putF l = PF at *
      generalize numStr l.length = s0 at *
      obtain ⟨A, c, rfl, _⟩ := hv.out
      clear hm hE
      go_enter Tryd.func49, Tryd.ntmps49
      go_wp2_with fail
      with_reducible refine (qM.out _ hv).mono ?_
      rintro e w1 ⟨rfl, hb⟩
      have HB1 := Lib.hid hb
      have hv1 := Lib.hid (hv.out.call hb)
      clear hb
      go_wp2_with fail
      with_reducible refine (qU.out _ hv1).mono ?_
      rintro e w2 ⟨rfl, hb⟩
      have HB2 := Lib.hid (HB1.out.trans (hb.mono HB1.out.size))
      have hv2 := Lib.hid (hv1.out.call hb)
      clear hb
      go_wp2_with fail
      try rw [e1]
      refine (q0.out _).mono ?_
      rintro e w3 ⟨rfl, hb⟩
      have HB3 := Lib.hid (HB2.out.trans (hb.mono HB2.out.size))
      have hv3 := Lib.hid (hv2.out.call hb)
      clear hb e1
      go_wp2_with (refine wpList_bytes_of _ 9 115 5 (.tmp 17) rfl rfl s0 rfl Tryd.underlying9 Tryd.underlying115 Tryd.underlying5 ?_; intro v4 w4 hown4 hb4; obtain ⟨a4, cap4, rfl⟩ := hown4.out.form; have HB4 := Lib.hid (hb4 w.heap.size w HB3.out HB3.out.size); have HB34 := Lib.hid (hb4 w3.heap.size w3 (Below.refl _ _) (Nat.le_refl _)); clear hb4)
      have hv4 := Lib.hid (hv3.out.call HB34.out)
      have hO : Hid (OutB (w4.alloc (.cells #[.slice a4 s0.size cap4] 115)) w3.heap.size w4.heap.size s0) := ⟨⟨_, heap_new _ _, hown4.out.call (below_alloc (Below.refl _ _) (Nat.le_refl _) _)⟩, HB34.out.size⟩
      have hv5 := Lib.hid (hv4.out.call (below_alloc (Below.refl _ _) (Nat.le_refl _) (.cells #[.slice a4 s0.size cap4] 115)))
      have HB5 := Lib.hid (below_alloc HB4.out HB4.out.size (.cells #[.slice a4 s0.size cap4] 115))
      have hGB : w.heap.size ≤ w3.heap.size := HB3.out.size
      have hvG : Hid (∀ wz, Below w3.heap.size w3 wz → FilesAt wz (.slice A l.length c) l) := fun wz h => hv3.out.call h
      have HB35 : Hid (Below w3.heap.size w3 (w4.alloc (.cells #[.slice a4 s0.size cap4] 115))) := below_alloc HB34.out HB34.out.size _
      generalize w4.heap.size = p at *
      generalize w4.alloc (.cells #[.slice a4 s0.size cap4] 115) = w5 at *
      clear hown4 HB1 HB2 HB4 HB34 hv1 hv2 hv3 hv4 hv5 qM qU q0 hv
      go_wp2_with fail
      go_loopw [22] (fun s22 wr => ∃ k : Nat, s22 = .int .i64 k ∧ Hid (k ≤ l.length) ∧ Hid (OutB wr w3.heap.size p (putFrom s0 (l.take k))) ∧ Hid (Below w3.heap.size w3 wr)) (fun s22 _ => l.length - (intOf s22).toNat)
      case atStart => exact ⟨0, rfl, Nat.zero_le _, hO.out, HB35.out⟩
      case round =>
        obtain ⟨k, rfl, hk, hOr, hB⟩ := hrel
        by_cases hkl : k < l.length
        · obtain ⟨A', c', hA', hci⟩ := hvG.out wr hB.out
          cases hA'
          have hge : l[k]? = some l[k] := List.getElem?_eq_getElem hkl
          obtain ⟨b, o, rfl, hbl, h0, h1⟩ := hci k _ hge
          have hS := Lib.hid (hst.out k _ hge)
          have z1 := hsh.out k _ hge
          have z2 := hle.out k (by omega)
          have z3 := hus2.out k _ hge
          have z4 := hut.out (k + 1)
          rw [z3] at z4
          clear hci hge z3
          generalize l[k] = f at *
          obtain ⟨s, t⟩ := f
          simp only [] at z1 z4 h0 h1 hS
          obtain ⟨w6, hw6⟩ : ∃ w6, wr.alloc (.cells #[.string s, .string t] 113) = w6 := ⟨_, rfl⟩
          have HW6 := Lib.hid hw6
          have HL : Hid (Below wr.heap.size wr w6) := by rw [← hw6]; exact below_alloc (Below.refl _ _) (Nat.le_refl _) _
          have HD : Hid (w6.heap[wr.heap.size]? = some (.cells #[.string s, .string t] 113 (0, 0))) := by rw [← hw6]; exact heap_new _ _
          have hO6 := Lib.hid (hOr.out.call HL.out)
          have hB6 := Lib.hid (hB.out.trans (HL.out.mono hB.out.size))
          have hpl : Hid (p < wr.heap.size) := by obtain ⟨⟨_, h, _⟩, _⟩ := hOr.out; exact (Array.getElem?_eq_some_iff.1 h).1
          have g0 := cells_of_blk HD.out 0 _ rfl
          have y1 := rowStr_size s
          have q1 := Lib.hid (fun w hO => PutC_any w3.heap.size p (putFrom s0 (l.take k)) s w hO (by omega) (by omega))
          have q2 := Lib.hid (fun w hO => PutC_any w3.heap.size p (putFrom s0 (l.take k) ++ rowStr s) t w hO (by rw [ByteArray.size_append]; omega) (by omega))
          clear hw6 hOr hB HL z1 z2 z4 y1
          go_wp2_with fail
          rw [HW6.out]
          with_reducible refine (q1.out _ hO6).mono ?_
          rintro e w7 ⟨rfl, hO7, hb, hkp⟩
          have hO7 := Lib.hid hO7
          have hB7 := Lib.hid (hB6.out.trans hb)
          have hD7 := (hkp _ _ _ _ HD.out (by decide) (by have := hpl.out; omega)).trans HD.out
          clear hb hkp g0
          have g1 := cells_of_blk hD7 1 _ rfl
          clear hD7
          go_wp2_with fail
          with_reducible refine (q2.out _ hO7).mono ?_
          rintro e w8 ⟨rfl, hO8, hb, _⟩
          have hO8 := Lib.hid hO8
          have hB8 := Lib.hid (hB7.out.trans hb)
          clear hb g1
          go_wp2_with fail
          go_roundw
          case rel => exact ⟨k + 1, by go_num, by show _ ≤ _; omega, by rw [hS.out]; exact hO8.out, hB8.out⟩
          case measure => simp [intOf]; omega
        · have hkk : k = l.length := by have := hk.out; omega
          subst hkk
          rw [List.take_length, ← hdef.out] at hOr
          obtain ⟨⟨vv, hb, hw⟩, _⟩ := hOr.out
          obtain ⟨av, capv, rfl⟩ := hw.form
          have HW := Lib.hid hw
          have c0 := cells_of_blk hb 0 _ rfl
          have HBF := Lib.hid (HB3.out.trans (hB.out.mono hGB))
          clear hb hw hOr
          go_wp2_with (refine wpList_string_z _ _ _ PF 115 5 9 Tryd.underlying9 Tryd.underlying115 Tryd.underlying5 HW rfl rfl rfl ?_)
          go_ret2
          exact ⟨rfl, HBF.out⟩
    · have hE : putE l = 4 := by unfold putE; rw [hm, if_pos rfl, if_neg hus]
      rw [show putV l = ⟨#[]⟩ by unfold putV; rw [if_neg (by rw [hE]; decide)], hE]
      have t1 : decide ((1048576 : Int) < (usedF l : Int)) = true := decide_eq_true (by omega)
      generalize usedF l = U at *
      obtain ⟨A, c, rfl, _⟩ := hv.out
      clear hm hE hsh
      go_enter Tryd.func49, Tryd.ntmps49
      go_wp2_with fail
      with_reducible refine (qM.out _ hv).mono ?_
      rintro e w1 ⟨rfl, hb⟩
      have HB1 := Lib.hid hb
      have hv1 := Lib.hid (hv.out.call hb)
      clear hb
      go_wp2_with fail
      with_reducible refine (qU.out _ hv1).mono ?_
      rintro e w2 ⟨rfl, hb⟩
      have HB2 := Lib.hid (HB1.out.trans (hb.mono HB1.out.size))
      clear hb
      go_wp2_with fail
      go_ret2
      exact ⟨rfl, HB2.out⟩
  · have hm : mayF l = false := by simpa using hm
    have hE : putE l = 1 := by unfold putE; rw [hm]; rfl
    rw [show putV l = ⟨#[]⟩ by unfold putV; rw [if_neg (by rw [hE]; decide)], hE]
    rw [hm] at qM
    obtain ⟨A, c, rfl, _⟩ := hv.out
    clear hm hE
    go_enter Tryd.func49, Tryd.ntmps49
    go_wp2_with fail
    with_reducible refine (qM.out _ hv).mono ?_
    rintro e w1 ⟨rfl, hb⟩
    have HB1 := Lib.hid hb
    clear hb
    go_wp2_with fail
    go_ret2
    exact ⟨rfl, HB1.out⟩
end Go.Proofs.YtaigngdlioplaaaDoor
