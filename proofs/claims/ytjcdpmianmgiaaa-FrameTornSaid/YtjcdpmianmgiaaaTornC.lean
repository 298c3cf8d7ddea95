/- FrameTorn: rows of texts, what is kept, a piece in memory. PRINTED BY mkTornC.py. -/
import Derived.Test.YtjcdpmianmgiaaaTornB
import Derived.Laws.IdiomStrings
namespace Go.Proofs.Ytjcdpmianmgiaaa
open Go Go.RowKit
set_option linter.unusedVariables false

def StrsAt (w : World) (v : Value) (l : List ByteArray) : Prop :=
  ∃ A c, v = .slice A l.length c ∧ l.length ≤ c ∧ ∀ (i : Nat) (s : ByteArray), l[i]? = some s → ∃ b o, A = some ⟨b, o, none⟩ ∧ b < w.heap.size ∧ w.cell? ⟨b, o + i, none⟩ = some (.string s)
theorem StrsAt.call {w w' : World} {v : Value} {l : List ByteArray} (h : StrsAt w v l) (hb : Below w.heap.size w w') : StrsAt w' v l := by
  obtain ⟨A, c, hv, hc, hi⟩ := h
  refine ⟨A, c, hv, hc, fun i s hs => ?_⟩
  obtain ⟨b, o, ha, hlt, hcell⟩ := hi i s hs
  exact ⟨b, o, ha, Nat.lt_of_lt_of_le hlt hb.size, (hb.cell (p := ⟨b, o + i, none⟩) hlt).trans hcell⟩
set_option maxRecDepth 100000 in
set_option maxHeartbeats 1000000 in
theorem Great_any (v : Value) (l : List ByteArray) (w : World) (h1 : Hid (StrsAt w v l)) (hn : l.length ≤ 9223372036854775807) (hz : Hid (∀ (i : Nat) (s : ByteArray), l[i]? = some s → s.size ≤ 9223372036854775807)) :
    Calls Try.prog 5 #[v] w fun e w' => (∃ g, e = .returned (.bool g) ∧ (g = false → l.length ≤ 40 ∧ ∀ (i : Nat) (s : ByteArray), l[i]? = some s → s.size ≤ 200)) ∧ w = w' := by
  obtain ⟨A, c, rfl, _, hi⟩ := h1.out
  have H1 := Lib.hid hi
  have hg1 : Hid (∀ i : Nat, i < l.length → ∃ s, l[i]? = some s) := fun i hi => ⟨_, List.getElem?_eq_getElem hi⟩
  clear hi h1
  by_cases h40 : 40 < l.length
  · generalize l.length = n at *
    go_enter Try.func5, Try.ntmps5
    go_wp2_with fail
    go_ret
    exact ⟨⟨_, rfl, fun h => by cases h⟩, rfl⟩
  · have hfin : Hid ((∀ (i : Nat) (s : ByteArray), i < l.length → l[i]? = some s → s.size ≤ 200) → l.length ≤ 40 ∧ ∀ (i : Nat) (s : ByteArray), l[i]? = some s → s.size ≤ 200) := fun hh => ⟨by omega, fun i s hs => hh i s (List.getElem?_eq_some_iff.1 hs).1 hs⟩
    obtain ⟨n, hN⟩ : ∃ n, l.length = n := ⟨_, rfl⟩
    have HN := Lib.hid hN
    rw [hN] at hg1 hn h40 ⊢
    clear hN
    go_enter Try.func5, Try.ntmps5
    go_wp2_with fail
    go_loopw [3] (fun iv wr => ∃ i : Nat, iv = .int .i64 i ∧ Hid (i ≤ n) ∧ Hid (∀ (j : Nat) (s : ByteArray), j < i → l[j]? = some s → s.size ≤ 200) ∧ w = wr) (fun iv _ => n - (intOf iv).toNat)
    case atStart => exact ⟨0, rfl, Nat.zero_le _, fun j s hj => by omega, rfl⟩
    case round =>
      obtain ⟨i, rfl, hi, hj, rfl⟩ := hrel
      have hi2 := hi.out
      by_cases hlt : i < n
      · obtain ⟨s, hs⟩ := hg1.out i hlt
        obtain ⟨b1, o1, rfl, hb1, k1⟩ := H1.out i s hs
        have hzz := hz.out i s hs
        have HS := Lib.hid hs
        clear hs hi
        by_cases h200 : 200 < s.size
        · clear hj
          go_wp2_with fail
          go_ret
          exact ⟨⟨_, rfl, fun h => by cases h⟩, rfl⟩
        · have hjn : Hid (∀ (j : Nat) (s : ByteArray), j < i + 1 → l[j]? = some s → s.size ≤ 200) := fun j t hj2 ht => by
            by_cases hji : j < i
            · exact hj.out j t hji ht
            · obtain rfl : j = i := by omega
              rw [HS.out] at ht
              cases ht
              omega
          clear hj
          go_wp2_with fail
          go_roundw
          case rel => exact ⟨i + 1, by go_num, by show _ ≤ _; omega, hjn, trivial⟩
          case measure => simp [intOf]; omega
      · have hin : i = n := by omega
        subst hin
        have hF := Lib.hid (hfin.out (by rw [HN.out]; exact hj.out))
        clear hj hi
        go_wp2_with fail
        go_ret
        exact ⟨⟨_, rfl, fun _ => by have := hF.out; rw [HN.out] at this; exact this⟩, rfl⟩

/-- What is kept of each. -/
def KeptAt (w : World) (v : Value) (l : List Nat) : Prop := ∃ A c, v = .slice A l.length c ∧ ∀ (i : Nat) (k : Nat), l[i]? = some k → ∃ b o, A = some ⟨b, o, none⟩ ∧ b < w.heap.size ∧ w.cell? ⟨b, o + i, none⟩ = some (.int .u16 (k : Int))
theorem KeptAt.call {w w' : World} {v : Value} {l : List Nat} (h : KeptAt w v l) (hb : Below w.heap.size w w') : KeptAt w' v l := by
  obtain ⟨A, c, hv, hi⟩ := h
  refine ⟨A, c, hv, fun i s hs => ?_⟩
  obtain ⟨b, o, ha, hl, hc⟩ := hi i s hs
  exact ⟨b, o, ha, Nat.lt_of_lt_of_le hl hb.size, (hb.cell (p := ⟨b, o + i, none⟩) hl).trans hc⟩
/-- A piece in block g: the bytes of f, of which those from k on, ahead of j, are noughts. -/
def PieceAt (w : World) (g : Nat) (f : ByteArray) (k j : Nat) : Prop := ∃ cs fr, w.heap[g]? = some (.cells cs 5 fr) ∧ f.size ≤ fr.1 ∧ ∀ t (h : t < f.data.size), cs[t]? = some (.int .u8 (if k ≤ t ∧ t < j then 0 else (f.data[t].toNat : Int)))
theorem PieceAt.cell {w : World} {g : Nat} {f : ByteArray} {k j : Nat} (h : PieceAt w g f k j) {t : Nat} (ht : t < f.size) : (∃ y, w.cell? ⟨g, t, none⟩ = some (.int .u8 y)) ∧ w.frozen? ⟨g, t, none⟩ = false ∧ g < w.heap.size := by
  obtain ⟨cs, fr, hg, hf, hc⟩ := h
  refine ⟨⟨_, (cell_of_row w g t cs _ fr hg).trans (hc t ht)⟩, ?_, (Array.getElem?_eq_some_iff.1 hg).1⟩
  unfold World.frozen?
  rw [hg]
  simp
  intro h1
  omega
theorem PieceAt.step {w : World} {g : Nat} {f : ByteArray} {k j : Nat} (h : PieceAt w g f k j) (hk : k ≤ j) (hj : j < f.size) : PieceAt (w.setCell ⟨g, j, none⟩ (.int .u8 0)) g f k (j + 1) := by
  obtain ⟨cs, fr, hg, hf, hc⟩ := h
  refine ⟨_, fr, set_blk hg j _, hf, fun t ht => ?_⟩
  have h1 := hc t ht
  have hlt := (Array.getElem?_eq_some_iff.1 h1).1
  rw [Array.getElem?_setIfInBounds]
  by_cases htj : j = t
  · subst htj
    rw [if_pos rfl, if_pos hlt, if_pos ⟨hk, by omega⟩]
  · rw [if_neg htj, h1]
    congr 3
    exact propext ⟨fun h => ⟨h.1, by omega⟩, fun h => ⟨h.1, by omega⟩⟩
theorem pieceL_get (s : ByteArray) (k : Nat) (hk : k ≤ (frameStr s).size) (j : Nat) (hj : j < (frameStr s).data.size) : (pieceL s k)[j]? = some (if k ≤ j then 0 else (frameStr s).data[j]) := by
  have hd : (frameStr s).data.toList.length = (frameStr s).size := by simp
  have hj2 : j < (frameStr s).size := hj
  unfold pieceL zerosL
  by_cases hkj : k ≤ j
  · rw [if_pos hkj, List.getElem?_append_right (by rw [List.length_take]; omega), List.getElem?_replicate, if_pos (by rw [List.length_take]; omega)]
  · rw [if_neg hkj, List.getElem?_append_left (by rw [List.length_take]; omega), List.getElem?_take, if_pos (by omega), Array.getElem?_toList, Array.getElem?_eq_getElem hj]
theorem PieceAt.back {w : World} {g : Nat} {s : ByteArray} {k : Nat} (h : PieceAt w g (frameStr s) k (frameStr s).size) (hk : k ≤ (frameStr s).size) (cap : Nat) :
    (convert 28 9 (.slice (some ⟨g, 0, none⟩) (frameStr s).size cap)).run Try.prog w = .ok (.string ⟨(pieceL s k).toArray⟩) w := by
  obtain ⟨cs, fr, hg, hf, hc⟩ := h
  have hl : (pieceL s k).length = (frameStr s).size := by unfold pieceL zerosL; simp; omega
  rw [← hl]
  refine run_convert_bytes_back w _ _ 5 ⟨g, 0, none⟩ cap (pieceL s k) Try.underlying28 Try.underlying5 Try.underlying9 fun j hj => ?_
  rw [Addr.add_lit, Nat.zero_add, cell_of_row w g j cs _ fr hg, hc j (by rw [hl] at hj; exact hj)]
  rw [hl] at hj
  have h1 := pieceL_get s k hk j hj
  rw [List.getElem?_eq_getElem (by rw [hl]; exact hj)] at h1
  rw [Option.some.inj h1]
  congr 2
  by_cases hkj : k ≤ j
  · rw [if_pos ⟨hkj, hj⟩, if_pos hkj]; rfl
  · rw [if_neg (fun h => hkj h.1), if_neg hkj]
theorem bytes_conv (s : ByteArray) (k : Nat) (w : World) : ∃ C cap, (convert 9 28 (.string s)).run Try.prog w = .ok (.slice (some ⟨w.heap.size, 0, none⟩) s.size cap) (w.drew.alloc (.cells C 5 (C.size, C.size + 1))) ∧
    ∀ d : Nat, PieceAt ((w.drewN d).alloc (.cells C 5 (C.size, C.size + 1))) w.heap.size s k k := by
  refine ⟨_, _, run_bytes_of_string w _ _ 5 s Try.underlying9 Try.underlying28 Try.underlying5, fun d => ⟨_, _, heap_alloc_new (w.drewN d) _, ?_, fun t ht => ?_⟩⟩
  · show s.size ≤ (bytesRow s _).size
    unfold bytesRow
    simp
  · rw [bytesRow_at s _ t ht, if_neg (by omega)]

theorem tornL_snoc (l : List (ByteArray × Nat)) (i : Nat) (p : ByteArray × Nat) (h : l[i]? = some p) : tornL (l.take (i + 1)) = tornL (l.take i) ++ pieceL p.1 p.2 := by
  rw [take_succ_get h, tornL_app]
  simp [tornL]
theorem pieceL_length (s : ByteArray) (k : Nat) (hk : k ≤ (frameStr s).size) : (pieceL s k).length = (frameStr s).size := by
  unfold pieceL zerosL; simp; omega
theorem tornL_len (l : List (ByteArray × Nat)) (hk : ∀ p ∈ l, p.2 ≤ (frameStr p.1).size) : ∀ i, (tornL (l.take i)).length = preL l i
  | 0 => by simp [tornL, preL]
  | i + 1 => by
    cases h : l[i]? with
    | none =>
      have h1 := tornL_len l hk i
      unfold preL at h1 ⊢
      rw [List.take_add_one, h]
      simpa using h1
    | some p => rw [tornL_snoc l i p h, List.length_append, tornL_len l hk i, preL_succ h, pieceL_length _ _ (hk p (List.mem_of_getElem? h))]
theorem preL_le (l : List (ByteArray × Nat)) (hs : ∀ p ∈ l, p.1.size ≤ 200) : ∀ i, preL l i ≤ 211 * i
  | 0 => by simp [preL]
  | i + 1 => by
    have h1 := preL_le l hs i
    cases h : l[i]? with
    | none =>
      unfold preL at h1 ⊢
      rw [List.take_add_one, h]
      simp at h1 ⊢
      omega
    | some p =>
      rw [preL_succ h]
      have := hs p (List.mem_of_getElem? h)
      have := frameStr_size p.1
      omega
end Go.Proofs.Ytjcdpmianmgiaaa
