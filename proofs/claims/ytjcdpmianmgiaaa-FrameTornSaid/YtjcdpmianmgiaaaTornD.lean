/- The walk of FrameTorn. -/
import Derived.Test.YtjcdpmianmgiaaaTornC
namespace Go.Proofs.Ytjcdpmianmgiaaa
open Go Go.RowKit
set_option linter.unusedVariables false

theorem below_set {n : Nat} {a w : World} {g : Nat} (h : Below n a w) (hg : n ≤ g) (o : Nat) (v : Value) : Below n a (w.setCell ⟨g, o, none⟩ v) := h.setCell hg v
theorem own_texts {W : World} {n₀ : Nat} {e : TypeId} {k : Nat} {v : Value} (l : List ByteArray) (h : W.ownsRow n₀ e 1 v k (l.map Value.string)) : ∃ A c, v = .slice A k c ∧ ∀ (i : Nat) (s : ByteArray), l[i]? = some s → ∃ b o, A = some ⟨b, o, none⟩ ∧ b < W.heap.size ∧ W.cell? ⟨b, o + i, none⟩ = some (.string s) := by
  have hk : k = l.length := by have := h.1; simpa using this.symm
  rcases h.2 with ⟨rfl, h0⟩ | ⟨g, cap, cur, rfl, _, hgb, _⟩
  · refine ⟨none, 0, by rw [h0], fun i s hs => ?_⟩
    have := (List.getElem?_eq_some_iff.1 hs).1
    omega
  · refine ⟨_, _, rfl, fun i s hs => ⟨g, 0, rfl, (Array.getElem?_eq_some_iff.1 hgb).1, ?_⟩⟩
    have := h.cells (g := g) rfl i (.string s) (by rw [List.getElem?_map, hs]; rfl)
    rw [Addr.add_lit] at this
    exact this
theorem sum_told (rows : List ByteArray) (kept : List Nat) (c : Nat) : sumOf ((rows.take c).map fun s => (s, (frameStr s).size)) = preL (pairsOf kept 0 rows) c := by
  have hmap : (pairsOf kept 0 rows).map (·.1) = rows := by
    apply List.ext_getElem?
    intro j
    rw [List.getElem?_map, pairsOf_get]
    cases rows[j]? <;> rfl
  unfold sumOf preL
  rw [List.map_map]
  conv => lhs; rw [← hmap, ← List.map_take, List.map_map]
  rfl
theorem strs_some {s : ByteArray} (h : ¬ s = ⟨#[]⟩) : s.toList.isEmpty = false := by
  rw [ByteArray.toList_eq]
  cases hd : s.data.toList with
  | nil => exact absurd (ByteArray.ext (Array.toList_inj.1 (hd.trans rfl))) h
  | cons a l => rfl
set_option maxRecDepth 100000 in
set_option maxHeartbeats 4000000 in
theorem FrameTorn_walk (v : Value) (rows : List ByteArray) (u : Value) (kept : List Nat) (cut : Int) (w0 : World) (hR : Hid (StrsAt w0 v rows)) (hK : Hid (KeptAt w0 u kept)) (hn : rows.length ≤ 9223372036854775807) (hz : Hid (∀ (i : Nat) (s : ByteArray), rows[i]? = some s → s.size ≤ 9223372036854775807)) (hkn : kept.length ≤ 9223372036854775807) (hku : Hid (∀ k ∈ kept, k ≤ 65535)) (hcut : 0 ≤ cut ∧ cut ≤ 65535) :
    Calls Try.prog 3 #[v, u, .int .u16 cut] w0 fun e w' => e = .returned (.bool true) ∧ Below w0.heap.size w0 w' := by
  obtain ⟨Av, cv, rfl, hcv, hiv⟩ := hR.out
  obtain ⟨Ak, ck, rfl, hik⟩ := hK.out
  have hlv := hR
  clear hiv hik
  go_enter Try.func3, Try.ntmps3
  go_wp2_with fail
  refine (alive07 _).mono ?_
  rintro e w1 ⟨rfl, hb⟩
  have HB := Lib.hid hb
  replace hR := Lib.hid (hR.out.call hb)
  replace hK := Lib.hid (hK.out.call hb)
  clear hb
  go_wp2_with fail
  refine (Great_any _ rows _ hR hn hz).mono ?_
  rintro e w1' ⟨⟨g, rfl, hg⟩, rfl⟩
  cases g with
  | true =>
    clear hg
    go_wp2_with fail
    go_ret
    exact ⟨rfl, HB.out⟩
  | false =>
  obtain ⟨h40, h200⟩ := hg rfl
  have HZ := Lib.hid h200
  clear hg h200 hlv
  by_cases h60 : 60 < kept.length
  · have t1 : (60 : Int) < (kept.length : Int) := by omega
    go_wp2_with fail
    go_ret
    exact ⟨rfl, HB.out⟩
  have t1 : ¬ (60 : Int) < (kept.length : Int) := by omega
  obtain ⟨L, hL⟩ : ∃ L, pairsOf kept 0 rows = L := ⟨_, rfl⟩
  have hlen : L.length = rows.length := by rw [← hL, pairsOf_length]
  have hget : Hid (∀ (j : Nat) (s : ByteArray), rows[j]? = some s → L[j]? = some (s, kOf kept j s)) := (show ∀ _ _, _ → _ from fun j s hs => by rw [← hL, pairsOf_get, hs]; simp)
  have hle : Hid (∀ p ∈ L, p.2 ≤ (frameStr p.1).size ∧ p.1.size ≤ 200) := (show ∀ p ∈ L, _ from fun p hp => by
    obtain ⟨j, hj, rfl⟩ := List.getElem_of_mem hp
    have h1 : j < rows.length := by omega
    have h2 := hget.out j _ (List.getElem?_eq_getElem h1)
    rw [List.getElem?_eq_getElem hj] at h2
    rw [Option.some.inj h2]
    exact ⟨kOf_le _ _ _, HZ.out j _ (List.getElem?_eq_getElem h1)⟩)
  have HL := Lib.hid hL
  clear hL
  obtain ⟨n, hnn⟩ : ∃ n, rows.length = n := ⟨_, rfl⟩
  rw [hnn] at hlen hn h40 hR ⊢
  have HN := Lib.hid hnn
  have HLEN := Lib.hid hlen
  clear hnn hlen
  obtain ⟨nk, hnk⟩ : ∃ nk, kept.length = nk := ⟨_, rfl⟩
  rw [hnk] at h60 t1 hkn hK ⊢
  have HNK := Lib.hid hnk
  clear hnk
  have hg1 : Hid (∀ i : Nat, i < n → ∃ s, rows[i]? = some s) := (show ∀ i : Nat, _ → _ from fun i hi => ⟨_, List.getElem?_eq_getElem (by rw [HN.out]; exact hi)⟩)
  go_wp2_with fail
  go_loopw [7, 8, 9, 10] (fun av sv bv iv wr => ∃ (i : Nat) (x : ByteArray), iv = .int .i64 i ∧ av = .string x ∧ sv = .int .i64 (wantN L i : Nat) ∧ bv = .bool (wholeB L i) ∧ Hid (i ≤ n) ∧ Hid (x.data.toList = tornL (L.take i)) ∧ Hid (Below w0.heap.size w0 wr) ∧ Hid (StrsAt wr (.slice Av n cv) rows) ∧ Hid (KeptAt wr (.slice Ak nk ck) kept) ∧ Hid (∀ (j : Nat) (s : ByteArray), j < i → rows[j]? = some s → 1 ≤ s.size)) (fun _ _ _ iv _ => n - (intOf iv).toNat)
  case atStart => exact ⟨0, ⟨#[]⟩, rfl, rfl, rfl, rfl, Nat.zero_le _, rfl, HB, hR, hK, fun j s hj => absurd hj (Nat.not_lt_zero _)⟩
  case round =>
    obtain ⟨i, x, rfl, rfl, rfl, rfl, hi, hx, HB, hR, hK, HNE⟩ := hrel
    have hi2 := hi.out
    by_cases hlt : i < n
    · obtain ⟨s, hs⟩ := hg1.out i hlt
      obtain ⟨_, _, hA, _, hir⟩ := hR.out
      injection hA with hA hnn hcc
      subst hA hcc
      clear hnn
      obtain ⟨b1, o1, rfl, hb1, k1⟩ := hir i s hs
      have hLi := Lib.hid (hget.out i s hs)
      have hs200 := HZ.out i s hs
      have HS := Lib.hid hs
      clear hs hir
      by_cases he : s = ⟨#[]⟩
      · subst he
        go_wp2_with fail
        go_ret
        exact ⟨rfl, HB.out⟩
      have hne : s.toList.isEmpty = false := strs_some he
      have HNE2 : Hid (∀ (j : Nat) (s : ByteArray), j < i + 1 → rows[j]? = some s → 1 ≤ s.size) := (show ∀ _ _, _ → _ from fun j t hj ht => by
        by_cases hji : j < i
        · exact HNE.out j t hji ht
        · obtain rfl : j = i := by omega
          rw [HS.out] at ht
          cases ht
          by_cases h0 : s.size = 0
          · exact absurd (ByteArray.ext (Array.toList_inj.1 (List.eq_nil_of_length_eq_zero (by simpa using h0)))) he
          · omega)
      obtain ⟨f, hf⟩ : ∃ f, frameStr s = f := ⟨_, rfl⟩
      have hfs : f.size ≤ 211 := by rw [← hf]; have := frameStr_size s; omega
      have q1 : Hid (∀ w, Calls Try.prog 6 #[.string s] w fun e w' => e = .returned (.string f) ∧ Below w.heap.size w w') := (show _ from fun w => by have h := refWrap_any s w (Lib.hid (by omega)); rw [hf] at h; exact h)
      have HF := Lib.hid hf
      clear hf
      have HXS : Hid (x.size ≤ 8440) := (show _ ≤ _ by
        have h1 := congrArg List.length hx.out
        rw [tornL_len L (fun p hp => (hle.out p hp).1) i] at h1
        have h2 := preL_le L (fun p hp => (hle.out p hp).2) i
        have h3 : x.data.toList.length = x.size := by simp
        omega)
      go_wp2_with fail
      refine (q1.out _).mono ?_
      rintro e wc ⟨rfl, hb⟩
      have HBc := Lib.hid (Nat.le_trans HB.out.size hb.size)
      replace HB := Lib.hid (HB.out.trans (hb.mono HB.out.size))
      replace hR := Lib.hid (hR.out.call hb)
      replace hK := Lib.hid (hK.out.call hb)
      clear hb k1 hb1 q1
      obtain ⟨k, hk⟩ : ∃ k, kOf kept i s = k := ⟨_, rfl⟩
      obtain ⟨C, cap, hconv, hP⟩ := bytes_conv f k wc
      by_cases hik : i < nk
      · obtain ⟨_, _, hA, hir⟩ := hK.out
        injection hA with hA hnn hcc
        subst hA
        clear hnn hcc
        obtain ⟨kk, hkk⟩ : ∃ kk, kept[i]? = some kk := ⟨_, List.getElem?_eq_getElem (by rw [HNK.out]; exact hik)⟩
        obtain ⟨b2, o2, rfl, hb2, k2⟩ := hir i kk hkk
        have hk65 := hku.out kk (List.mem_of_getElem? hkk)
        have hkv : k = min f.size kk := by rw [← hk]; unfold kOf; rw [hkk, HF.out]
        have HKO := Lib.hid hk
        clear hir hkk hk
        by_cases hmin : kk < f.size
        · obtain rfl : kk = k := by omega
          have hle1 : kk ≤ f.size := by omega
          clear hkv
          go_wp2_with fail
          obtain ⟨wd, hwd⟩ : ∃ wd : World, (wc.alloc (.cells C 5 (C.size, C.size + 1))).drew = wd := ⟨_, rfl⟩
          have hP0 : Hid (PieceAt wd wc.heap.size f (kk) (kk)) := (show _ from by rw [← hwd]; exact hP 0)
          have hbd : Below wc.heap.size wc wd := by rw [← hwd]; exact (below_alloc (Below.refl _ _) (Nat.le_refl _) _).drew
          rw [hwd]
          replace hbd := Lib.hid hbd
          clear hwd hP hconv
          go_loopw [14] (fun jv wr => ∃ j : Nat, jv = .int .i64 j ∧ Hid (kk ≤ j ∧ j ≤ f.size) ∧ Hid (PieceAt wr wc.heap.size f (kk) j) ∧ Hid (Below wc.heap.size wd wr)) (fun jv _ => f.size - (intOf jv).toNat)
          case atStart => exact ⟨kk, rfl, ⟨Nat.le_refl _, hle1⟩, hP0, Lib.hid (Below.refl _ _)⟩
          case round =>
            obtain ⟨j, rfl, hj, hPj, hBj⟩ := hrel
            have hj1 := hj.out.1
            have hj2 := hj.out.2
            by_cases hjl : j < f.size
            · obtain ⟨⟨y, hy⟩, hfz, hgl⟩ := hPj.out.cell hjl
              go_wp2_with fail
              go_roundw
              case rel => exact ⟨j + 1, by go_num, ⟨by omega, by omega⟩, Lib.hid (hPj.out.step hj1 hjl), Lib.hid (hBj.out.trans (below_set (Below.refl _ _) (Nat.le_refl _) _ _))⟩
              case measure => simp [intOf]; omega
            · obtain rfl : j = f.size := by omega
              have hb3 := hbd.out.trans hBj.out
              have hback := (HF.out ▸ hPj.out : PieceAt wr wc.heap.size (frameStr s) (kk) (frameStr s).size).back (by rw [HF.out]; exact hle1) cap
              rw [HF.out] at hback
              have hps := pieceL_length s (kk) (by rw [HF.out]; exact hle1)
              rw [HF.out] at hps
              have hsz : (⟨(pieceL s (kk)).toArray⟩ : ByteArray).size = f.size := (by show (pieceL s (kk)).toArray.size = _; rw [List.size_toArray]; exact hps)
              have hx2 : Hid ((x ++ ⟨(pieceL s (kk)).toArray⟩).data.toList = tornL (L.take (i + 1))) := (show _ = _ by
                rw [tornL_snoc L i _ hLi.out, HKO.out, ← hx.out]; simp [ByteArray.data_append])
              have hwb := wholeB_succ hLi.out
              have hfb : fullB (s, kOf kept i s) = decide ((kk) = f.size) := (by unfold fullB; rw [HKO.out, HF.out]; first | rfl | simp [Nat.beq_eq_decide_eq])
              rw [hfb] at hwb
              have hwn : wantN L (i + 1) = if wholeB L (i + 1) then wantN L i + 1 else wantN L i := rfl
              rw [hwb] at hwn
              have hwi := (wantN_spec L i (by rw [HLEN.out]; omega)).1
              replace HB := Lib.hid (HB.out.trans (hb3.mono HBc.out))
              replace hR := Lib.hid (hR.out.call hb3)
              replace hK := Lib.hid (hK.out.call hb3)
              have hxs : x.size ≤ 8440 := HXS.out
              clear hb3 hBj hbd hPj hP0 hfb hps
              obtain ⟨p, hp⟩ : ∃ p : ByteArray, ⟨(pieceL s (kk)).toArray⟩ = p := ⟨_, rfl⟩
              rw [hp] at hback hsz hx2
              clear hp
              replace hwb := Lib.hid hwb
              replace hwn := Lib.hid hwn
              replace hx2 := Lib.hid hx2
              cases hW : wholeB L i with
              | false =>
                rw [hW] at hwb hwn
                go_wp2_with fail
                go_roundw
                case rel => exact ⟨i + 1, x ++ p, by go_num, rfl, by rw [hwn.out]; rfl, by rw [hwb.out]; first | rfl | (simp; done) | (simp; omega), by show _ ≤ _; omega, hx2, HB, hR, hK, HNE2⟩
                case measure => simp [intOf]; omega
              | true =>
                rw [hW] at hwb hwn
                have t3 : ¬ (kk : Int) = (f.size : Int) := by omega
                have t2 : decide (kk = f.size) = false := decide_eq_false (by omega)
                rw [t2] at hwb hwn
                go_wp2_with fail
                go_roundw
                case rel => exact ⟨i + 1, x ++ p, by go_num, rfl, by rw [hwn.out]; rfl, by rw [hwb.out]; first | rfl | (simp; done) | (simp; omega), by show _ ≤ _; omega, hx2, HB, hR, hK, HNE2⟩
                case measure => simp [intOf]; omega
        · obtain rfl : f.size = k := by omega
          have hle1 : f.size ≤ f.size := by omega
          clear hkv
          go_wp2_with fail
          obtain ⟨wd, hwd⟩ : ∃ wd : World, (wc.alloc (.cells C 5 (C.size, C.size + 1))).drew = wd := ⟨_, rfl⟩
          have hP0 : Hid (PieceAt wd wc.heap.size f (f.size) (f.size)) := (show _ from by rw [← hwd]; exact hP 0)
          have hbd : Below wc.heap.size wc wd := by rw [← hwd]; exact (below_alloc (Below.refl _ _) (Nat.le_refl _) _).drew
          rw [hwd]
          replace hbd := Lib.hid hbd
          clear hwd hP hconv
          go_loopw [14] (fun jv wr => ∃ j : Nat, jv = .int .i64 j ∧ Hid (f.size ≤ j ∧ j ≤ f.size) ∧ Hid (PieceAt wr wc.heap.size f (f.size) j) ∧ Hid (Below wc.heap.size wd wr)) (fun jv _ => f.size - (intOf jv).toNat)
          case atStart => exact ⟨f.size, rfl, ⟨Nat.le_refl _, hle1⟩, hP0, Lib.hid (Below.refl _ _)⟩
          case round =>
            obtain ⟨j, rfl, hj, hPj, hBj⟩ := hrel
            have hj1 := hj.out.1
            have hj2 := hj.out.2
            by_cases hjl : j < f.size
            · omega
            · obtain rfl : j = f.size := by omega
              have hb3 := hbd.out.trans hBj.out
              have hback := (HF.out ▸ hPj.out : PieceAt wr wc.heap.size (frameStr s) (f.size) (frameStr s).size).back (by rw [HF.out]; exact hle1) cap
              rw [HF.out] at hback
              have hps := pieceL_length s (f.size) (by rw [HF.out]; exact hle1)
              rw [HF.out] at hps
              have hsz : (⟨(pieceL s (f.size)).toArray⟩ : ByteArray).size = f.size := (by show (pieceL s (f.size)).toArray.size = _; rw [List.size_toArray]; exact hps)
              have hx2 : Hid ((x ++ ⟨(pieceL s (f.size)).toArray⟩).data.toList = tornL (L.take (i + 1))) := (show _ = _ by
                rw [tornL_snoc L i _ hLi.out, HKO.out, ← hx.out]; simp [ByteArray.data_append])
              have hwb := wholeB_succ hLi.out
              have hfb : fullB (s, kOf kept i s) = decide ((f.size) = f.size) := (by unfold fullB; rw [HKO.out, HF.out]; first | rfl | simp [Nat.beq_eq_decide_eq])
              rw [hfb] at hwb
              have hwn : wantN L (i + 1) = if wholeB L (i + 1) then wantN L i + 1 else wantN L i := rfl
              rw [hwb] at hwn
              have hwi := (wantN_spec L i (by rw [HLEN.out]; omega)).1
              replace HB := Lib.hid (HB.out.trans (hb3.mono HBc.out))
              replace hR := Lib.hid (hR.out.call hb3)
              replace hK := Lib.hid (hK.out.call hb3)
              have hxs : x.size ≤ 8440 := HXS.out
              clear hb3 hBj hbd hPj hP0 hfb hps
              obtain ⟨p, hp⟩ : ∃ p : ByteArray, ⟨(pieceL s (f.size)).toArray⟩ = p := ⟨_, rfl⟩
              rw [hp] at hback hsz hx2
              clear hp
              replace hwb := Lib.hid hwb
              replace hwn := Lib.hid hwn
              replace hx2 := Lib.hid hx2
              cases hW : wholeB L i with
              | false =>
                rw [hW] at hwb hwn
                go_wp2_with fail
                go_roundw
                case rel => exact ⟨i + 1, x ++ p, by go_num, rfl, by rw [hwn.out]; rfl, by rw [hwb.out]; first | rfl | (simp; done) | (simp; omega), by show _ ≤ _; omega, hx2, HB, hR, hK, HNE2⟩
                case measure => simp [intOf]; omega
              | true =>
                rw [hW] at hwb hwn
                have t2 : decide (f.size = f.size) = true := by simp
                rw [t2] at hwb hwn
                go_wp2_with fail
                go_roundw
                case rel => exact ⟨i + 1, x ++ p, by go_num, rfl, by rw [hwn.out]; first | rfl | go_num, by rw [hwb.out]; first | rfl | (simp; done) | (simp; omega), by show _ ≤ _; omega, hx2, HB, hR, hK, HNE2⟩
                case measure => simp [intOf]; omega
      · have hkv : k = f.size := by
          rw [← hk]; unfold kOf; rw [List.getElem?_eq_none (by rw [HNK.out]; omega), HF.out]
        have HKO := Lib.hid hk
        clear hk
        obtain rfl : f.size = k := by omega
        have hle1 : f.size ≤ f.size := by omega
        clear hkv
        go_wp2_with fail
        obtain ⟨wd, hwd⟩ : ∃ wd : World, (wc.alloc (.cells C 5 (C.size, C.size + 1))).drew = wd := ⟨_, rfl⟩
        have hP0 : Hid (PieceAt wd wc.heap.size f (f.size) (f.size)) := (show _ from by rw [← hwd]; exact hP 0)
        have hbd : Below wc.heap.size wc wd := by rw [← hwd]; exact (below_alloc (Below.refl _ _) (Nat.le_refl _) _).drew
        rw [hwd]
        replace hbd := Lib.hid hbd
        clear hwd hP hconv
        go_loopw [14] (fun jv wr => ∃ j : Nat, jv = .int .i64 j ∧ Hid (f.size ≤ j ∧ j ≤ f.size) ∧ Hid (PieceAt wr wc.heap.size f (f.size) j) ∧ Hid (Below wc.heap.size wd wr)) (fun jv _ => f.size - (intOf jv).toNat)
        case atStart => exact ⟨f.size, rfl, ⟨Nat.le_refl _, hle1⟩, hP0, Lib.hid (Below.refl _ _)⟩
        case round =>
          obtain ⟨j, rfl, hj, hPj, hBj⟩ := hrel
          have hj1 := hj.out.1
          have hj2 := hj.out.2
          by_cases hjl : j < f.size
          · omega
          · obtain rfl : j = f.size := by omega
            have hb3 := hbd.out.trans hBj.out
            have hback := (HF.out ▸ hPj.out : PieceAt wr wc.heap.size (frameStr s) (f.size) (frameStr s).size).back (by rw [HF.out]; exact hle1) cap
            rw [HF.out] at hback
            have hps := pieceL_length s (f.size) (by rw [HF.out]; exact hle1)
            rw [HF.out] at hps
            have hsz : (⟨(pieceL s (f.size)).toArray⟩ : ByteArray).size = f.size := (by show (pieceL s (f.size)).toArray.size = _; rw [List.size_toArray]; exact hps)
            have hx2 : Hid ((x ++ ⟨(pieceL s (f.size)).toArray⟩).data.toList = tornL (L.take (i + 1))) := (show _ = _ by
              rw [tornL_snoc L i _ hLi.out, HKO.out, ← hx.out]; simp [ByteArray.data_append])
            have hwb := wholeB_succ hLi.out
            have hfb : fullB (s, kOf kept i s) = decide ((f.size) = f.size) := (by unfold fullB; rw [HKO.out, HF.out]; first | rfl | simp [Nat.beq_eq_decide_eq])
            rw [hfb] at hwb
            have hwn : wantN L (i + 1) = if wholeB L (i + 1) then wantN L i + 1 else wantN L i := rfl
            rw [hwb] at hwn
            have hwi := (wantN_spec L i (by rw [HLEN.out]; omega)).1
            replace HB := Lib.hid (HB.out.trans (hb3.mono HBc.out))
            replace hR := Lib.hid (hR.out.call hb3)
            replace hK := Lib.hid (hK.out.call hb3)
            have hxs : x.size ≤ 8440 := HXS.out
            clear hb3 hBj hbd hPj hP0 hfb hps
            obtain ⟨p, hp⟩ : ∃ p : ByteArray, ⟨(pieceL s (f.size)).toArray⟩ = p := ⟨_, rfl⟩
            rw [hp] at hback hsz hx2
            clear hp
            replace hwb := Lib.hid hwb
            replace hwn := Lib.hid hwn
            replace hx2 := Lib.hid hx2
            cases hW : wholeB L i with
            | false =>
              rw [hW] at hwb hwn
              go_wp2_with fail
              go_roundw
              case rel => exact ⟨i + 1, x ++ p, by go_num, rfl, by rw [hwn.out]; rfl, by rw [hwb.out]; first | rfl | (simp; done) | (simp; omega), by show _ ≤ _; omega, hx2, HB, hR, hK, HNE2⟩
              case measure => simp [intOf]; omega
            | true =>
              rw [hW] at hwb hwn
              have t2 : decide (f.size = f.size) = true := by simp
              rw [t2] at hwb hwn
              go_wp2_with fail
              go_roundw
              case rel => exact ⟨i + 1, x ++ p, by go_num, rfl, by rw [hwn.out]; first | rfl | go_num, by rw [hwb.out]; first | rfl | (simp; done) | (simp; omega), by show _ ≤ _; omega, hx2, HB, hR, hK, HNE2⟩
              case measure => simp [intOf]; omega
    · obtain rfl : i = n := by omega
      have hxn : Hid (x.size = preL L i ∧ x.size ≤ 8440) := (show _ ∧ _ by
        have h1 := congrArg List.length hx.out
        rw [tornL_len L (fun p hp => (hle.out p hp).1) i] at h1
        have h2 := preL_le L (fun p hp => (hle.out p hp).2) i
        have h3 : x.data.toList.length = x.size := by simp
        omega)
      have hx2 := hxn.out.2
      have hw1 : wrap64 ((x.size : Int) + 1) = (x.size : Int) + 1 := by simp only [wrap64]; omega
      have hw0 : ¬ (x.size : Int) + 1 = 0 := by omega
      obtain ⟨m, hm, hmx⟩ : ∃ m : Nat, wrap64 ((x.size : Int) - cut % ((x.size : Int) + 1)) = (m : Int) ∧ m ≤ x.size := by
        have h1 := Int.emod_nonneg cut hw0
        have h2 := Int.emod_lt_of_pos cut (show (0 : Int) < (x.size : Int) + 1 by omega)
        exact ⟨((x.size : Int) - cut % ((x.size : Int) + 1)).toNat, by simp only [wrap64]; omega, by omega⟩
      go_wp2_with fail
      rw [hm]
      obtain ⟨wn, hwn⟩ : ∃ wn, wantN L i = wn := ⟨_, rfl⟩
      have hwi := (wantN_spec L i (by rw [HLEN.out]; omega)).1
      rw [hwn] at hwi ⊢
      have HWN := Lib.hid hwn
      have HPL : Hid (∀ j, j ≤ i → preL L j ≤ 8440) := (show ∀ j, _ → _ from fun j hj => by have := preL_le L (fun p hp => (hle.out p hp).2) j; omega)
      clear hwn hm hw1 hw0
      go_loopw [16, 17, 18] (fun av nv iv wr => ∃ j : Nat, iv = .int .i64 j ∧ av = .int .i64 (preL L j : Nat) ∧ nv = .int .i64 (cntN L m j : Nat) ∧ Hid (j ≤ wn) ∧ Hid (Below w0.heap.size w0 wr) ∧ Hid (StrsAt wr (.slice Av i cv) rows)) (fun _ _ iv _ => wn - (intOf iv).toNat)
      case atStart => exact ⟨0, rfl, rfl, rfl, Nat.zero_le _, HB, hR⟩
      case round =>
        obtain ⟨j, rfl, rfl, rfl, hj, HB, hR⟩ := hrel
        have hj2 := hj.out
        by_cases hjl : j < wn
        · obtain ⟨s, hs⟩ := hg1.out j (by omega)
          obtain ⟨_, _, hA, _, hir⟩ := hR.out
          injection hA with hA hnn hcc
          subst hA hcc
          clear hnn
          obtain ⟨b1, o1, rfl, hb1, k1⟩ := hir j s hs
          have hLi := hget.out j s hs
          have hs200 := HZ.out j s hs
          clear hs hir
          obtain ⟨f, hf⟩ : ∃ f, frameStr s = f := ⟨_, rfl⟩
          have q1 : Hid (∀ w, Calls Try.prog 6 #[.string s] w fun e w' => e = .returned (.string f) ∧ Below w.heap.size w w') := (show _ from fun w => by have h := refWrap_any s w (Lib.hid (by omega)); rw [hf] at h; exact h)
          have hps := preL_succ hLi
          have hp1 := HPL.out (j + 1) (by omega)
          have hcs : cntN L m (j + 1) = if preL L (j + 1) ≤ m then cntN L m j + 1 else cntN L m j := rfl
          have hci := (cntN_spec L m j).1
          rw [hps] at hp1 hcs
          simp only [] at hp1 hcs hps
          rw [hf] at hps hp1 hcs
          obtain ⟨a, ha⟩ : ∃ a, preL L j = a := ⟨_, rfl⟩
          obtain ⟨c, hc⟩ : ∃ c, cntN L m j = c := ⟨_, rfl⟩
          rw [ha] at hps hp1 hcs ⊢
          rw [hc] at hcs hci ⊢
          replace hps := Lib.hid hps
          clear hf hLi ha hc
          go_wp2_with fail
          refine (q1.out _).mono ?_
          rintro e wc ⟨rfl, hb⟩
          replace HB := Lib.hid (HB.out.trans (hb.mono HB.out.size))
          replace hR := Lib.hid (hR.out.call hb)
          clear hb k1 hb1 q1
          by_cases hpm : a + f.size ≤ m
          · rw [if_pos hpm] at hcs
            replace hcs := Lib.hid hcs
            have t1 : (a : Int) + (f.size : Int) ≤ (m : Int) := by omega
            go_wp2_with fail
            go_roundw
            case rel => exact ⟨j + 1, by go_num, by rw [hps.out]; go_num, by rw [hcs.out]; go_num, by show _ ≤ _; omega, HB, hR⟩
            case measure => simp [intOf]; omega
          · rw [if_neg hpm] at hcs
            replace hcs := Lib.hid hcs
            have t1 : ¬ (a : Int) + (f.size : Int) ≤ (m : Int) := by omega
            go_wp2_with fail
            go_roundw
            case rel => exact ⟨j + 1, by go_num, by rw [hps.out]; go_num, by rw [hcs.out], by show _ ≤ _; omega, HB, hR⟩
            case measure => simp [intOf]; omega
        · obtain rfl : j = wn := by omega
          have hxm : (x.extract 0 m).data.toList = (tornL L).take m := by
            have h1 := hx.out
            rw [List.take_of_length_le (Nat.le_of_eq HLEN.out)] at h1
            rw [Lib.extract_data, h1]
            simp
          have htold := torn_told rows kept m (x.extract 0 m) (fun s hs => by
            obtain ⟨q, hq, rfl⟩ := List.getElem_of_mem hs
            have h1 := hle.out _ (List.mem_of_getElem? (hget.out q _ (List.getElem?_eq_getElem hq)))
            exact ⟨HNE.out q _ (by rw [← HN.out]; exact hq) (List.getElem?_eq_getElem hq), h1.2⟩) (by rw [HL.out]; exact hxm)
          rw [HL.out, HN.out, HWN.out] at htold
          obtain ⟨c, hc⟩ : ∃ c, cntN L m j = c := ⟨_, rfl⟩
          have hcj := (cntN_spec L m j).1
          rw [hc] at htold hcj ⊢
          have hxe : (x.extract 0 m).size ≤ 8440 := by rw [ByteArray.size_extract]; omega
          clear hxm hc
          obtain ⟨y, hy⟩ : ∃ y, x.extract 0 m = y := ⟨_, rfl⟩
          rw [hy] at htold hxe
          go_wp2_with fail
          clear hy
          refine (Scan_any y _ (Lib.hid (by omega))).mono ?_
          rintro e w2 ⟨v2, rfl, hown, hb⟩
          have hsum : sumOf (framesOf y) = preL L c := by
            rw [htold, ← HL.out]
            exact sum_told rows kept c
          have hrow : (framesOf y).map (fun x => Value.string x.1) = (rows.take c).map Value.string := by
            rw [htold, List.map_map]; rfl
          have hflen : (framesOf y).length = c := by rw [htold, List.length_map, List.length_take, HN.out]; omega
          rw [hrow, hflen] at hown
          rw [hsum, hflen] at *
          obtain ⟨A2, c2, rfl, hrw⟩ := own_texts (rows.take c) hown
          replace HB := Lib.hid (HB.out.trans (hb.mono HB.out.size))
          replace hR := Lib.hid (hR.out.call hb)
          have H2 : Hid (∀ (k : Nat) (s : ByteArray), rows[k]? = some s → k < c → ∃ b o, A2 = some ⟨b, o, none⟩ ∧ b < w2.heap.size ∧ w2.cell? ⟨b, o + k, none⟩ = some (.string s)) := (show ∀ _ _, _ → _ → _ from fun k s hs hk => hrw k s (by rw [List.getElem?_take, if_pos hk]; exact hs))
          have HMO : Hid (∀ k, k ≤ c → preL L k ≤ preL L c) := (show ∀ k, _ → _ from fun k hk => preL_mono L k c hk)
          have hpc := HPL.out c (by omega)
          clear hrw hown hrow hsum hflen htold hb hxe
          have HBa := HB
          go_wp2_with fail
          go_loopw [20, 21] (fun sv iv wr => ∃ k : Nat, iv = .int .i64 k ∧ sv = .int .i64 ((preL L c - preL L k : Nat) : Int) ∧ Hid (k ≤ c) ∧ Hid (Below w2.heap.size w2 wr)) (fun _ iv _ => c - (intOf iv).toNat)
          case atStart => exact ⟨0, rfl, rfl, Nat.zero_le _, Lib.hid (Below.refl _ _)⟩
          case round =>
            obtain ⟨k, rfl, rfl, hk, hB2⟩ := hrel
            have hk2 := hk.out
            by_cases hkl : k < c
            · obtain ⟨s, hs⟩ := hg1.out k (by omega)
              obtain ⟨_, _, hA, _, hir⟩ := hR.out
              injection hA with hA hnn hcc
              subst hA hcc
              clear hnn
              obtain ⟨b1, o1, rfl, hb1, k1⟩ := hir k s hs
              obtain ⟨b2, o2, rfl, hb2, k2⟩ := H2.out k s hs hkl
              replace k1 := (hB2.out.cell (p := ⟨b1, o1 + k, none⟩) hb1).trans k1
              replace k2 := (hB2.out.cell (p := ⟨b2, o2 + k, none⟩) hb2).trans k2
              have hLi := hget.out k s hs
              have hs200 := HZ.out k s hs
              clear hs hir
              obtain ⟨f, hf⟩ : ∃ f, frameStr s = f := ⟨_, rfl⟩
              have q1 : Hid (∀ w, Calls Try.prog 6 #[.string s] w fun e w' => e = .returned (.string f) ∧ Below w.heap.size w w') := (show _ from fun w => by have h := refWrap_any s w (Lib.hid (by omega)); rw [hf] at h; exact h)
              have hps := preL_succ hLi
              simp only [] at hps
              rw [hf] at hps
              have hmo := HMO.out (k + 1) (by omega)
              rw [hps] at hmo
              have hq : preL L c - preL L (k + 1) = preL L c - preL L k - f.size := by omega
              have hq2 : f.size ≤ preL L c - preL L k := by omega
              have hq3 : preL L c - preL L k ≤ 8440 := by omega
              obtain ⟨a, ha⟩ : ∃ a, preL L c - preL L k = a := ⟨_, rfl⟩
              rw [ha] at hq hq2 hq3 ⊢
              replace hq := Lib.hid hq
              clear hf hLi ha hps hmo
              have hbq : (s.toList == s.toList) = true := by simp
              go_wp2_with fail
              go_quiet (fail)
              go_wp2_with fail
              refine (q1.out _).mono ?_
              rintro e wc ⟨rfl, hb⟩
              have hB3 : Hid (Below w2.heap.size w2 wc) := Lib.hid (Below.trans (below_drewN hB2.out _) (hb.mono hB2.out.size))
              clear hb k1 k2 q1
              go_wp2_with fail
              go_roundw
              case rel => exact ⟨k + 1, by go_num, by rw [hq.out]; go_num, by show _ ≤ _; omega, hB3⟩
              case measure => simp [intOf]; omega
            · obtain rfl : k = c := by omega
              rw [Nat.sub_self]
              go_wp2_with fail
              go_ret
              exact ⟨rfl, HB.out.trans (hB2.out.mono HB.out.size)⟩
end Go.Proofs.Ytjcdpmianmgiaaa
