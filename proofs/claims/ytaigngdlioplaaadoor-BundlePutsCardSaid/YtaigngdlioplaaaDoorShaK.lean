/- The reference's Digest. -/
import Derived.Test.YtaigngdlioplaaaDoorShaJ
import Derived.Test.YtaigngdlioplaaaDoorOwnZ
namespace Go.Proofs.YtaigngdlioplaaaDoor
open Go Go.RowKit

theorem beL_at (n : Int) (k i : Nat) (h : i < k) : (beL n k).take i ++ [n / 256 ^ (k - 1 - i) % 256] = (beL n k).take (i + 1) := by
  have := beL_take n k (k - 1 - i) (by omega)
  rwa [show k - (k - 1 - i + 1) = i by omega, show k - (k - 1 - i) = i + 1 by omega] at this

theorem zeros64 : (#[.int .u32 0, .int .u32 0, .int .u32 0, .int .u32 0, .int .u32 0, .int .u32 0, .int .u32 0, .int .u32 0, .int .u32 0, .int .u32 0, .int .u32 0, .int .u32 0, .int .u32 0, .int .u32 0, .int .u32 0, .int .u32 0, .int .u32 0, .int .u32 0, .int .u32 0, .int .u32 0, .int .u32 0, .int .u32 0, .int .u32 0, .int .u32 0, .int .u32 0, .int .u32 0, .int .u32 0, .int .u32 0, .int .u32 0, .int .u32 0, .int .u32 0, .int .u32 0, .int .u32 0, .int .u32 0, .int .u32 0, .int .u32 0, .int .u32 0, .int .u32 0, .int .u32 0, .int .u32 0, .int .u32 0, .int .u32 0, .int .u32 0, .int .u32 0, .int .u32 0, .int .u32 0, .int .u32 0, .int .u32 0, .int .u32 0, .int .u32 0, .int .u32 0, .int .u32 0, .int .u32 0, .int .u32 0, .int .u32 0, .int .u32 0, .int .u32 0, .int .u32 0, .int .u32 0, .int .u32 0, .int .u32 0, .int .u32 0, .int .u32 0, .int .u32 0] : Array Value) = Array.replicate 64 (.int .u32 0) := rfl
/-- The words of a block, so far. -/
structure WordAt (wo wr : World) (f : Nat → Int) (i : Nat) : Prop where
  low : Below wo.heap.size wo wr
  b : wr.heap[wo.heap.size]? = some (.cells (tabA f i) 34 (0, 0))
theorem WordAt.drewN {wo wr : World} {f : Nat → Int} {i : Nat} (h : WordAt wo wr f i) (n : Nat) : WordAt wo (wr.drewN n) f i := ⟨below_drewN h.low n, h.b⟩
theorem WordAt.ext {wo wr wx : World} {f : Nat → Int} {i : Nat} (h : WordAt wo wr f i) (hb : Below wr.heap.size wr wx) : WordAt wo wx f i :=
  ⟨h.low.trans (hb.mono h.low.size), blk_call h.b hb⟩
theorem WordAt.set {wo wr : World} {f : Nat → Int} {i : Nat} (h : WordAt wo wr f i) (hi : i < 64) : WordAt wo (wr.setCell ⟨wo.heap.size, i, none⟩ (.int .u32 (f i))) f (i + 1) :=
  ⟨Below.setCell h.low (Nat.le_refl _) _, by rw [← tab_set f i hi]; exact set_blk h.b _ _⟩
theorem ad3 (a b c d : Int) : (a + b + c + d) % 4294967296 = ad (ad (ad a b) c) d := by unfold ad; omega
def partW (x : Nat → Int) (q : Nat) : Nat → Int
  | 0 => 0
  | j + 1 => partW x q j * 256 + x (q + j)
theorem partW_four (x : Nat → Int) (q : Nat) : partW x q 4 = wordAt x q := by
  unfold wordAt
  simp only [partW, Nat.add_zero]
  omega
theorem partW_small (x : Nat → Int) (q j : Nat) (hj : j < 4) (h : ∀ i, 0 ≤ x i ∧ x i ≤ 255) : 0 ≤ partW x q j ∧ partW x q j < 16777216 := by
  have h0 := h (q + 0)
  have h1 := h (q + 1)
  have h2 := h (q + 2)
  match j, hj with
  | 0, _ => simp [partW]
  | 1, _ => simp only [partW]; omega
  | 2, _ => simp only [partW]; omega
  | 3, _ => simp only [partW]; omega
theorem rT_eq2 (k w : Int) (s : St) : ((s.h + k + w + bits .xor .u32 (bits .xor .u32 (rr 6 s.e) (rr 11 s.e)) (rr 25 s.e)) % 4294967296 + bits .or .u32 (bits .and .u32 s.e s.f) (bits .and .u32 (4294967295 - s.e) s.g)) % 4294967296 = rT k w s := by
  unfold rT ad bg1 chO
  omega
theorem hSt_ok : hSt.Ok := by
  refine ⟨?_, ?_, ?_, ?_, ?_, ?_, ?_, ?_⟩ <;> (unfold U32 hSt; decide)

set_option maxRecDepth 1000000 in
set_option maxHeartbeats 8000000 in
theorem Digest_any (s : ByteArray) (w : World) (hs : Hid (s.size ≤ 1099511000000)) :
    Calls Tryd.prog 69 #[.agg key72, .string s] w fun e w' => e = .returned (.string (sumS (nth kList) hSt (bytesL s))) ∧ Below w.heap.size w w' := by
  have hs2 := hs.out
  have hk1 := Lib.hid key72_k
  have hk2 := Lib.hid key72_h
  have HOK := Lib.hid hSt_ok
  generalize key72 = A at *
  generalize nth kList = K at *
  generalize hSt = H0 at *
  obtain ⟨w1, hw1⟩ : ∃ w1, w.alloc (.cells A 37) = w1 := ⟨_, rfl⟩
  have HW1 := Lib.hid hw1
  have HA1 : Hid (w1.heap[w.heap.size]? = some (.cells A 37 (0, 0))) := by rw [← hw1]; exact blk_new _ _ _ rfl
  have HL1 : Hid (Below w.heap.size w w1) := by rw [← hw1]; exact below_alloc (Below.refl _ _) (Nat.le_refl _) _
  have hn1 : s.size + 1 ≤ 1099511627776 := by omega
  clear hw1
  go_enter Tryd.func69, Tryd.ntmps69
  go_wp2_with (first
    | (rw [HW1.out]; refine wpList_bytes_of _ 9 115 5 (.tmp 30) rfl rfl s rfl Tryd.underlying9 Tryd.underlying115 Tryd.underlying5 ?_; intro v2 w2 hown2 hb2; have HO2 := Lib.hid hown2; have HL2 := Lib.hid (hb2 w1.heap.size w1 (Below.refl _ _) (Nat.le_refl _)); have hsz2 := HL2.out.size; clear hb2)
    | (at_builtin; refine wpList_append_z _ _ _ _ _ _ el_u8 #[.int .u8 128] v2 s.size _ HL2 HO2.out hsz2 rfl rfl rfl rfl rfl (by decide) hn1 (by decide) ?_; intro v3 w3 hown3 hb3; have hsz3 := hb3.out.size; clear hsz2))
  have HO3 : Hid (OwnZ w3 w1.heap.size 5 v3 (s.size + 1 + 0) ((bytesL s ++ [128] ++ List.replicate 0 0).map (Value.int .u8))) := by
    have := hown3.out
    rw [strCells_bytes] at this
    rw [List.replicate_zero, List.append_nil, List.map_append]
    exact this
  clear hown3 HO2 HL2
  go_loopw [5] (fun v5 wr => ∃ j : Nat, Hid (j ≤ zpad s.size) ∧ Hid (OwnZ wr w1.heap.size 5 v5 (s.size + 1 + j) ((bytesL s ++ [128] ++ List.replicate j 0).map (Value.int .u8))) ∧ Hid (Below w1.heap.size w1 wr)) (fun v5 _ => s.size + 200 - lenV v5)
  case atStart => exact ⟨0, Nat.zero_le _, HO3, hb3⟩
  case round =>
    clear HO3 hb3 hsz3
    obtain ⟨j, hj, Hrow, HL⟩ := hrel
    obtain ⟨a3, c3, hv3⟩ := Hrow.out.form
    subst hv3
    have hj2 := hj.out
    have hzp : zpad s.size = (119 - s.size % 64) % 64 := rfl
    have hB := HL.out.size
    obtain ⟨n, hn⟩ : ∃ n, s.size + 1 + j = n := ⟨_, rfl⟩
    rw [hn] at Hrow ⊢
    by_cases hm : n % 64 = 56
    · have hjz : j = zpad s.size := by omega
      have hm2 : (n : Int) % 64 = 56 := by omega
      have HZ := Lib.hid hjz
      have hN : n ≤ 1099511100000 := by omega
      have HNN := Lib.hid hn
      clear hn hzp hj2 hjz
      go_wp2_with fail
      obtain ⟨D, hD⟩ : ∃ D, bytesL s ++ [128] ++ List.replicate j 0 = D := ⟨_, rfl⟩
      rw [hD] at Hrow
      have HD := Lib.hid hD
      obtain ⟨N, hN8⟩ : ∃ N : Int, (s.size : Int) * 8 = N := ⟨_, rfl⟩
      have hNlo : 0 ≤ N ∧ N < 18446744073709551616 := by omega
      have HN8 := Lib.hid hN8
      rw [hN8]
      clear hD hN8 hj hm hm2
      go_loopw [5, 7] (fun v5 iv wr => ∃ i : Nat, iv = .int .i64 i ∧ Hid (i ≤ 8) ∧ Hid (OwnZ wr w1.heap.size 5 v5 (n + i) ((D ++ (beL N 8).take i).map (Value.int .u8))) ∧ Hid (Below w1.heap.size w1 wr)) (fun _ iv _ => 8 - (intOf iv).toNat)
      case atStart => exact ⟨0, rfl, Nat.zero_le _, by rw [List.take_zero, List.append_nil, Nat.add_zero]; exact Hrow, HL⟩
      case round =>
        clear Hrow HL hB
        obtain ⟨i, rfl, hi, Hrow, HL⟩ := hrel
        obtain ⟨a4, c4, hv4⟩ := Hrow.out.form
        subst hv4
        have hi2 := hi.out
        have hB := HL.out.size
        by_cases hlt : i < 8
        · have hBE := Lib.hid (beL_at N 8 i hlt)
          obtain ⟨wo, rfl⟩ : ∃ wo : World, wo = wr := ⟨_, rfl⟩
          go_wp2_with fail
          go_loopw [8, 9] (fun dv jv wr => ∃ (k : Nat) (d : Int), jv = .int .i64 k ∧ dv = .int .u64 d ∧ Hid (d = N / 256 ^ (k - i)) ∧ Hid (i ≤ k ∧ k ≤ 7) ∧ wo = wr) (fun _ jv _ => 8 - (intOf jv).toNat)
          case atStart => exact ⟨i, N, rfl, rfl, by rw [Nat.sub_self]; show _ = _; simp, by show _ ∧ _; omega, rfl⟩
          case round =>
            obtain ⟨k, d, rfl, rfl, hd, hk, rfl⟩ := hrel
            obtain ⟨hk1, hk2⟩ := hk.out
            have hd1 : 0 ≤ d ∧ d < 18446744073709551616 := by
              rw [hd.out]
              refine ⟨Int.ediv_nonneg hNlo.1 (Int.le_of_lt (Int.pow_pos (by decide))), Int.lt_of_le_of_lt (Int.ediv_le_self _ hNlo.1) hNlo.2⟩
            obtain ⟨hd2, hd3⟩ := hd1
            by_cases hlt7 : k < 7
            · have hnext : Hid (d / 256 = N / 256 ^ (k + 1 - i)) := by
                show _ = _
                rw [hd.out, show k + 1 - i = (k - i) + 1 by omega, Int.pow_succ, Int.ediv_ediv_of_nonneg (Int.le_of_lt (Int.pow_pos (by decide)))]
              go_wp2_with fail
              go_roundw
              case rel => exact ⟨k + 1, d / 256, by go_num, rfl, hnext, by show _ ∧ _; omega, trivial⟩
              case measure => simp [intOf]; omega
            · have hk7 : k = 7 := by omega
              have hdd : Hid (d % 256 = N / 256 ^ (8 - 1 - i) % 256) := by
                show _ = _
                rw [hd.out, hk7]
              have hni : n + i + 1 ≤ 1099511627776 := by omega
              clear hk7
              go_wp2_with (at_builtin; refine wpList_append_z _ _ _ _ _ _ el_u8 #[.int .u8 (d % 256)] _ _ _ HL Hrow hB rfl rfl rfl rfl rfl (Nat.succ_pos 0) hni (by decide) ?_; intro v4 w4 hown4 hb4)
              go_roundw
              case rel =>
                refine ⟨i + 1, by go_num, by show _ ≤ _; omega, ?_, hb4⟩
                have e := hown4.out
                rw [show n + (i + 1) = n + i + 1 by omega, ← hBE.out, ← List.append_assoc, List.map_append, ← hdd.out]
                exact e
              case measure => simp [intOf]; omega
        · have hi8 : i = 8 := by omega
          obtain ⟨M, hM⟩ : ∃ M, n + i = M := ⟨_, rfl⟩
          rw [hM] at Hrow ⊢
          rw [hi8, List.take_of_length_le (by rw [beL_len]; omega)] at Hrow
          obtain ⟨T, hT⟩ : ∃ T, D ++ beL N 8 = T := ⟨_, rfl⟩
          rw [hT] at Hrow
          have hM8 : n + 8 = M := by omega
          have hMp : 0 < M := by omega
          have hTl : T.length = M := by have := Hrow.out.1; rw [List.length_map] at this; exact this
          have hMb : M ≤ 1099511100010 := by omega
          have HM64 : Hid (M % 64 = 0) := by
            have h1 := HNN.out
            have h2 := HZ.out
            have h3 : zpad s.size = (119 - s.size % 64) % 64 := rfl
            show _ = _
            omega
          obtain ⟨gT, oT, cT, hv, hgT, hgT2, hMc, hcT⟩ := Hrow.out.cells hMp
          obtain ⟨rfl, rfl⟩ : a4 = some ⟨gT, oT, none⟩ ∧ c4 = cT := by simpa using hv
          have HCT : Hid (∀ i, i < M → wr.cell? ⟨gT, oT + i, none⟩ = some (.int .u8 (nth T i))) := fun i hi => hcT i _ (by
            rw [List.getElem?_map]
            unfold nth
            rw [List.getElem?_eq_getElem (by omega)]
            rfl)
          have HX : Hid (∀ i, 0 ≤ nth T i ∧ nth T i ≤ 255) := by
            have hall : ∀ x ∈ T, 0 ≤ x ∧ x ≤ 255 := by
              intro x hx
              rw [← hT] at hx
              rcases List.mem_append.1 hx with hx | hx
              · rw [← HD.out] at hx
                rcases List.mem_append.1 hx with hx | hx
                · rcases List.mem_append.1 hx with hx | hx
                  · obtain ⟨b, _, rfl⟩ := List.mem_map.1 hx
                    have := b.toNat_lt
                    omega
                  · rw [List.mem_singleton.1 hx]; decide
                · rw [(List.mem_replicate.1 hx).2]; decide
              · exact beL_range _ _ x hx
            intro i
            unfold nth
            cases h : T[i]? with
            | none => decide
            | some x => exact hall x (List.mem_of_getElem? h)
          have HT := Lib.hid hT
          have HTL := Lib.hid hTl
          have HM8 := Lib.hid hM8
          have hA := Lib.hid ((HL.out.block w.heap.size (by have := (Array.getElem?_eq_some_iff.1 HA1.out).1; exact this)).trans HA1.out)
          have HAK : Hid (∀ i, i < 64 → wr.cell? ⟨w.heap.size, i, none⟩ = some (.int .u32 (K i))) := fun i hi => cells_of_blk hA.out i _ (hk1.out i hi)
          have hkb : w.heap.size < wr.heap.size := (Array.getElem?_eq_some_iff.1 hA.out).1
          have hc : ∀ i, i < 8 → wr.cell? ⟨w.heap.size, 64 + i, none⟩ = some (.int .u32 (sv H0 i)) := fun i hi => cells_of_blk hA.out (64 + i) _ (hk2.out i hi)
          have h0 : wr.cell? ⟨w.heap.size, 64, none⟩ = some (.int .u32 H0.a) := hc 0 (by omega)
          have h1 : wr.cell? ⟨w.heap.size, 65, none⟩ = some (.int .u32 H0.b) := hc 1 (by omega)
          have h2 : wr.cell? ⟨w.heap.size, 66, none⟩ = some (.int .u32 H0.c) := hc 2 (by omega)
          have h3 : wr.cell? ⟨w.heap.size, 67, none⟩ = some (.int .u32 H0.d) := hc 3 (by omega)
          have h4 : wr.cell? ⟨w.heap.size, 68, none⟩ = some (.int .u32 H0.e) := hc 4 (by omega)
          have h5 : wr.cell? ⟨w.heap.size, 69, none⟩ = some (.int .u32 H0.f) := hc 5 (by omega)
          have h6 : wr.cell? ⟨w.heap.size, 70, none⟩ = some (.int .u32 H0.g) := hc 6 (by omega)
          have h7 : wr.cell? ⟨w.heap.size, 71, none⟩ = some (.int .u32 H0.h) := hc 7 (by omega)
          clear hi8 hc hi hM hM8 hT hv hTl hcT Hrow hi2
          go_wp2_with fail
          obtain ⟨wx, rfl⟩ : ∃ wx : World, wx = wr := ⟨_, rfl⟩
          obtain ⟨gs, hgs⟩ : ∃ gs, wx.heap.size = gs := ⟨_, rfl⟩
          have S0 : Hid (SumAt wx (wx.alloc (.cells (stA H0) 35)) gs (foldB K H0 (nth T) 0)) :=
            ⟨by rw [← hgs]; exact below_alloc (Below.refl _ _) (Nat.le_refl _) _, by rw [← hgs]; exact blk_new _ _ _ rfl⟩
          have hB1 : w1.heap.size ≤ gs := by rw [← hgs]; exact hB
          rw [hgs] at hgT2 hkb ⊢
          obtain ⟨w6, hw6⟩ : ∃ w6, wx.alloc (.cells (stA H0) 35) = w6 := ⟨_, rfl⟩
          rw [hw6] at S0
          unfold stA at hw6
          rw [hw6]
          have HGS := Lib.hid hgs
          clear hw6 hgs h0 h1 h2 h3 h4 h5 h6 h7 hB hlt
          go_loopw [11] (fun v11 wr => ∃ p k : Nat, v11 = .int .i64 p ∧ Hid (p = 64 * k) ∧ Hid (k ≤ M / 64) ∧ Hid (SumAt wx wr gs (foldB K H0 (nth T) k))) (fun v11 _ => M - (intOf v11).toNat)
          case atStart => exact ⟨0, 0, rfl, rfl, Nat.zero_le _, S0⟩
          case round =>
            clear S0
            obtain ⟨p, k, rfl, hp, hk, HS⟩ := hrel
            have hp2 := hp.out
            have hk2 := hk.out
            have hgl := (Array.getElem?_eq_some_iff.1 HS.out.bs).1
            by_cases hlt : p < M
            · have hp64 : p + 64 ≤ M := by have := HM64.out; omega
              clear hp2 hk2
              obtain ⟨wo, rfl⟩ : ∃ wo : World, wo = wr := ⟨_, rfl⟩
              go_wp2_with fail
              obtain ⟨x, hx⟩ : ∃ x, nth T = x := ⟨_, rfl⟩
              obtain ⟨f, hf⟩ : ∃ f, wAt (fun j => wordAt x (p + 4 * j)) = f := ⟨_, rfl⟩
              obtain ⟨w7, hw7⟩ : ∃ w7, wo.alloc (.cells (Array.replicate 64 (.int .u32 0)) 34) = w7 := ⟨_, rfl⟩
              have HW7 : Hid (WordAt wo w7 f 0) := by
                rw [← hw7]
                exact ⟨below_alloc (Below.refl _ _) (Nat.le_refl _) _, by rw [tab_zero]; exact blk_new _ _ _ rfl⟩
              rw [zeros64, hw7]
              rw [hx] at HCT HX
              have HXT := Lib.hid hx
              have HF := Lib.hid hf
              have hgo : gs < wo.heap.size := hgl
              have LO := HS.out.low
              have hgto : gT < wo.heap.size := by omega
              have HLO := Lib.hid LO
              obtain ⟨gw, hgw⟩ : ∃ gw, wo.heap.size = gw := ⟨_, rfl⟩
              have HGW := Lib.hid hgw
              rw [hgw] at hgo hgto ⊢
              clear hw7 hx hf LO hgl hgw
              go_loopw [13] (fun iv wr => ∃ i : Nat, iv = .int .i64 i ∧ Hid (i ≤ 64) ∧ Hid (WordAt wo wr f i)) (fun iv _ => 64 - (intOf iv).toNat)
              case atStart => exact ⟨0, rfl, Nat.zero_le _, HW7⟩
              case round =>
                clear HW7
                obtain ⟨i, rfl, hi, HW⟩ := hrel
                have hi2 := hi.out
                have hgl := (Array.getElem?_eq_some_iff.1 HW.out.b).1
                rw [HGW.out] at hgl
                by_cases hi16 : i < 16
                · go_wp2_with fail
                  clear hi
                  have hfi := wAt_lo (fun j => wordAt x (p + 4 * j)) i hi16
                  rw [HF.out] at hfi
                  have HFI := Lib.hid hfi
                  clear hfi
                  go_loopw [14] (fun jv wr => ∃ (j : Nat) (v : Int), jv = .int .i64 j ∧ Hid (j ≤ 4) ∧ Hid (v = partW x (p + 4 * i) j) ∧ Hid (Below gw wo wr) ∧ Hid (wr.heap[gw]? = some (.cells ((tabA f i).setIfInBounds i (.int .u32 v)) 34 (0, 0)))) (fun jv _ => 4 - (intOf jv).toNat)
                  case atStart =>
                    have e : (tabA f i).setIfInBounds i (.int .u32 0) = tabA f i := by
                      apply Array.ext_getElem?
                      intro k
                      rw [Array.getElem?_setIfInBounds]
                      by_cases e : i = k
                      · subst e
                        have hs : (tabA f i).size = 64 := by unfold tabA; simp
                        rw [if_pos rfl, if_pos (by omega), tab_get f i i (by omega), if_neg (by omega)]
                      · rw [if_neg e]
                    refine ⟨0, 0, rfl, Nat.zero_le _, rfl, ?_, ?_⟩
                    · rw [← HGW.out]; exact HW.out.low
                    · rw [e, ← HGW.out]; exact HW.out.b
                  case round =>
                    clear HW
                    obtain ⟨j, v, rfl, hj, hv, HL5, HB5⟩ := hrel
                    have hj2 := hj.out
                    by_cases hj4 : j < 4
                    · have hbx : Hid (∀ i, 0 ≤ x i ∧ x i ≤ 255) := HX
                      have hvr : 0 ≤ v ∧ v < 16777216 := by rw [hv.out]; exact partW_small x _ j hj4 hbx.out
                      have hxr := hbx.out (p + 4 * i + j)
                      obtain ⟨hvr1, hvr2⟩ := hvr
                      obtain ⟨hxr1, hxr2⟩ := hxr
                      have hnx : Hid (partW x (p + 4 * i) (j + 1) = v * 256 + x (p + 4 * i + j)) := by show _ = _; rw [hv.out]; rfl
                      have cT : wr.cell? ⟨gT, oT + (p + 4 * i + j), none⟩ = some (.int .u8 (x (p + 4 * i + j))) := by
                        rw [HL5.out.cell (p := ⟨gT, oT + (p + 4 * i + j), none⟩) hgto, HLO.out.cell (p := ⟨gT, oT + (p + 4 * i + j), none⟩) hgT2]
                        exact HCT.out _ (by omega)
                      have cW : wr.cell? ⟨gw, i, none⟩ = some (.int .u32 v) := cells_of_blk HB5.out i _ (by
                        have hs : (tabA f i).size = 64 := by unfold tabA; simp
                        rw [Array.getElem?_setIfInBounds, if_pos rfl, if_pos (by omega)])
                      have lt1 := (Array.getElem?_eq_some_iff.1 HB5.out).1
                      have lt2 : gT < wr.heap.size := by omega
                      generalize x (p + 4 * i + j) = xb at *
                      go_wp2_with fail
                      refine wp_region_ext_tail 17 (by kernel_rfl) (by kernel_rfl) ?_
                      simp only [List.take_succ_cons, List.take_zero, List.drop_succ_cons, List.drop_zero]
                      repeat (go_big_quiet_step (fail))
                      refine wpQuiet_nil ?_
                      rintro w' ⟨y, rfl⟩
                      have L6 := Lib.hid (HL5.out.trans (y.below.mono (Nat.le_of_lt lt1)))
                      have hb6 := blk_call HB5.out y.below
                      have cb := cells_of_blk hb6 i _ (show ((tabA f i).setIfInBounds i (.int .u32 v))[i]? = some (.int .u32 v) by
                        have hs : (tabA f i).size = 64 := by unfold tabA; simp
                        rw [Array.getElem?_setIfInBounds, if_pos rfl, if_pos (by omega)])
                      have fb := free_of_blk hb6 i
                      have HB6 := Lib.hid hb6
                      generalize y.w = w8 at *
                      clear y cT cW lt1 lt2 hb6 HB5 HL5
                      go_wp2_with fail
                      go_roundw
                      case rel =>
                        refine ⟨j + 1, v * 256 + xb, by go_num, by show _ ≤ _; omega, hnx.out.symm, Below.setCell L6.out (Nat.le_refl _) _, ?_⟩
                        have e := set_blk HB6.out i (.int .u32 ((v * 256 + xb) % 4294967296))
                        have hs : (tabA f i).size = 64 := by unfold tabA; simp
                        rw [Array.setIfInBounds_setIfInBounds] at e
                        rw [show (v * 256 + xb) % 4294967296 = v * 256 + xb by omega] at e
                        exact e
                      case measure => simp [intOf]; omega
                    · have hj4' : j = 4 := by omega
                      have hvx : v = f i := by rw [hv.out, hj4', partW_four, HFI.out]
                      have HN : Hid (WordAt wo wr f (i + 1)) := by
                        rw [hvx, tab_set f i (by omega)] at HB5
                        exact ⟨by rw [HGW.out]; exact HL5.out, by rw [HGW.out]; exact HB5.out⟩
                      clear hj4' hvx
                      go_wp2_with fail
                      go_roundw
                      case rel => exact ⟨i + 1, by go_num, by show _ ≤ _; omega, HN⟩
                      case measure => simp [intOf]; omega
                · by_cases hi64 : i < 64
                  · obtain ⟨j, rfl⟩ : ∃ j, i = j + 16 := ⟨i - 16, by omega⟩
                    have ej : ((j + 16 : Nat) : Int) = (j : Int) + 16 := by simp
                    rw [ej]
                    have e1 := wAt_hi (fun j => wordAt x (p + 4 * j)) (j + 16) (by omega)
                    rw [HF.out, show j + 16 - 16 = j by omega, show j + 16 - 7 = j + 9 by omega, show j + 16 - 15 = j + 1 by omega, show j + 16 - 2 = j + 14 by omega] at e1
                    have E1 := Lib.hid e1; clear e1
                    have hbw : wr.heap[gw]? = some (.cells (tabA f (j + 16)) 34 (0, 0)) := by rw [← HGW.out]; exact HW.out.b
                    have c2 := cells_of_blk hbw (j + 1) _ (tab_lo f (j + 16) (j + 1) (by omega) (by omega))
                    have c3 := cells_of_blk hbw (j + 14) _ (tab_lo f (j + 16) (j + 14) (by omega) (by omega))
                    have q1 := Lib.hid (show ∀ w, Calls Tryd.prog 108 #[.int .u32 (f (j + 1)), .int .i64 7] w fun e w' => e = .returned (.int .u32 (rr 7 (f (j + 1)))) ∧ w = w' from fun w => rturn_any _ 7 w (by omega) (by omega))
                    have q2 := Lib.hid (show ∀ w, Calls Tryd.prog 108 #[.int .u32 (f (j + 1)), .int .i64 18] w fun e w' => e = .returned (.int .u32 (rr 18 (f (j + 1)))) ∧ w = w' from fun w => rturn_any _ 18 w (by omega) (by omega))
                    have q3 := Lib.hid (show ∀ w, Calls Tryd.prog 109 #[.int .u32 (f (j + 1)), .int .i64 3] w fun e w' => e = .returned (.int .u32 (f (j + 1) / 8)) ∧ w = w' from fun w => rmove_any _ 3 w (by omega))
                    have q4 := Lib.hid (show ∀ w, Calls Tryd.prog 108 #[.int .u32 (f (j + 14)), .int .i64 17] w fun e w' => e = .returned (.int .u32 (rr 17 (f (j + 14)))) ∧ w = w' from fun w => rturn_any _ 17 w (by omega) (by omega))
                    have q5 := Lib.hid (show ∀ w, Calls Tryd.prog 108 #[.int .u32 (f (j + 14)), .int .i64 19] w fun e w' => e = .returned (.int .u32 (rr 19 (f (j + 14)))) ∧ w = w' from fun w => rturn_any _ 19 w (by omega) (by omega))
                    have q6 := Lib.hid (show ∀ w, Calls Tryd.prog 109 #[.int .u32 (f (j + 14)), .int .i64 10] w fun e w' => e = .returned (.int .u32 (f (j + 14) / 1024)) ∧ w = w' from fun w => rmove_any _ 10 w (by omega))
                    clear hi
                    go_wp2_with fail
                    go_quiet (fail)
                    have HWq := Lib.hid (HW.out.drewN nq)
                    obtain ⟨wq, hwq⟩ : ∃ wq, wr.drewN nq = wq := ⟨_, rfl⟩
                    rw [hwq] at HWq ⊢
                    clear hwq c2 c3 hbw HW
                    have hbw : wq.heap[gw]? = some (.cells (tabA f (j + 16)) 34 (0, 0)) := by rw [← HGW.out]; exact HWq.out.b
                    have c0 := cells_of_blk hbw j _ (tab_lo f (j + 16) j (by omega) (by omega))
                    have c1 := cells_of_blk hbw (j + 9) _ (tab_lo f (j + 16) (j + 9) (by omega) (by omega))
                    have lt2 := (Array.getElem?_eq_some_iff.1 hbw).1
                    clear hbw
                    go_wp2_with fail
                    refine wp_region_ext_tail 29 (by kernel_rfl) (by kernel_rfl) ?_
                    simp only [List.take_succ_cons, List.take_zero, List.drop_succ_cons, List.drop_zero]
                    repeat (go_big_quiet_step (first | (with_reducible exact ext_call_same (q1.out _)) | (with_reducible exact ext_call_same (q2.out _)) | (with_reducible exact ext_call_same (q3.out _)) | (with_reducible exact ext_call_same (q4.out _)) | (with_reducible exact ext_call_same (q5.out _)) | (with_reducible exact ext_call_same (q6.out _))))
                    refine wpQuiet_nil ?_
                    rintro w' ⟨y, rfl⟩
                    have HY := Lib.hid (HWq.out.ext y.below)
                    have hbw : y.w.heap[gw]? = some (.cells (tabA f (j + 16)) 34 (0, 0)) := by rw [← HGW.out]; exact HY.out.b
                    have cb := cells_of_blk hbw (j + 16) _ (tab_get f (j + 16) (j + 16) (by omega))
                    have fb := free_of_blk hbw (j + 16)
                    generalize y.w = w4 at *
                    clear y c0 c1 lt2 hbw
                    go_wp2_with fail
                    go_roundw
                    case rel =>
                      have e := HY.out.set (by omega)
                      rw [HGW.out, E1.out] at e
                      unfold sg0 sg1 at e
                      rw [← ad3] at e
                      refine ⟨j + 16 + 1, by go_num, by show _ ≤ _; omega, ?_⟩
                      exact e
                    case measure => simp [intOf]; omega
                  · have hie : i = 64 := by omega
                    rw [hie] at HW
                    clear hie hi
                    have HSx := Lib.hid (HS.out.ext HW.out.low)
                    obtain ⟨st, hst⟩ : ∃ st, foldB K H0 (nth T) k = st := ⟨_, rfl⟩
                    rw [hst] at HSx HS
                    have HST := Lib.hid hst
                    have HSTO : Hid st.Ok := by rw [← hst]; exact foldB_ok K H0 HOK.out _ _
                    have hb := HSx.out.bs
                    have c0 : wr.cell? ⟨gs, 0, none⟩ = some (.int .u32 st.a) := cells_of_blk hb 0 _ rfl
                    have c1 : wr.cell? ⟨gs, 1, none⟩ = some (.int .u32 st.b) := cells_of_blk hb 1 _ rfl
                    have c2 : wr.cell? ⟨gs, 2, none⟩ = some (.int .u32 st.c) := cells_of_blk hb 2 _ rfl
                    have c3 : wr.cell? ⟨gs, 3, none⟩ = some (.int .u32 st.d) := cells_of_blk hb 3 _ rfl
                    have c4x : wr.cell? ⟨gs, 4, none⟩ = some (.int .u32 st.e) := cells_of_blk hb 4 _ rfl
                    have c5 : wr.cell? ⟨gs, 5, none⟩ = some (.int .u32 st.f) := cells_of_blk hb 5 _ rfl
                    have c6 : wr.cell? ⟨gs, 6, none⟩ = some (.int .u32 st.g) := cells_of_blk hb 6 _ rfl
                    have c7 : wr.cell? ⟨gs, 7, none⟩ = some (.int .u32 st.h) := cells_of_blk hb 7 _ rfl
                    clear hst hb HSx hi16
                    go_wp2_with fail
                    go_quiet (fail)
                    have HWq := Lib.hid (HW.out.drewN nq)
                    obtain ⟨wq, hwq⟩ : ∃ wq, wr.drewN nq = wq := ⟨_, rfl⟩
                    rw [hwq] at HWq ⊢
                    clear hwq c0 c1 c2 c3 c4x c5 c6 c7 HW
                    go_wp2_with fail
                    go_loopw [17, 18, 19, 20, 21, 22, 23, 24, 25] (fun v17 v18 v19 v20 v21 v22 v23 v24 rv wr => ∃ (r : Nat) (t : St), v17 = .int .u32 t.a ∧ v18 = .int .u32 t.b ∧ v19 = .int .u32 t.c ∧ v20 = .int .u32 t.d ∧ v21 = .int .u32 t.e ∧ v22 = .int .u32 t.f ∧ v23 = .int .u32 t.g ∧ v24 = .int .u32 t.h ∧ rv = .int .i64 r ∧ Hid (t = runS K f st r) ∧ Hid (r ≤ 64) ∧ Hid (WordAt wo wr f 64)) (fun _ _ _ _ _ _ _ _ rv _ => 64 - (intOf rv).toNat)
                    case atStart => exact ⟨0, st, rfl, rfl, rfl, rfl, rfl, rfl, rfl, rfl, rfl, rfl, Nat.zero_le _, HWq⟩
                    case round =>
                      clear HWq
                      obtain ⟨r, t, rfl, rfl, rfl, rfl, rfl, rfl, rfl, rfl, rfl, ht, hr, HW⟩ := hrel
                      have hr2 := hr.out
                      have tok : t.Ok := by rw [ht.out]; exact runS_ok K f st HSTO.out r
                      by_cases hr64 : r < 64
                      · have hbw : wr.heap[gw]? = some (.cells (tabA f 64) 34 (0, 0)) := by rw [← HGW.out]; exact HW.out.b
                        have cW := cells_of_blk hbw r _ (tab_lo f 64 r (by omega) (by omega))
                        have lt1 := (Array.getElem?_eq_some_iff.1 hbw).1
                        have lt2 : w.heap.size < wr.heap.size := by omega
                        have cK : wr.cell? ⟨w.heap.size, r, none⟩ = some (.int .u32 (K r)) := by
                          rw [HW.out.low.cell (p := ⟨w.heap.size, r, none⟩) (by rw [HGW.out]; show w.heap.size < gw; omega), HLO.out.cell (p := ⟨w.heap.size, r, none⟩) hkb]
                          exact HAK.out r hr64
                        have ue1 : 0 ≤ t.e := tok.e.1
                        have ue2 : t.e < 4294967296 := tok.e.2
                        have q1 := Lib.hid (show ∀ w, Calls Tryd.prog 108 #[.int .u32 t.e, .int .i64 6] w fun e w' => e = .returned (.int .u32 (rr 6 t.e)) ∧ w = w' from fun w => rturn_any _ 6 w (by omega) (by omega))
                        have q2 := Lib.hid (show ∀ w, Calls Tryd.prog 108 #[.int .u32 t.e, .int .i64 11] w fun e w' => e = .returned (.int .u32 (rr 11 t.e)) ∧ w = w' from fun w => rturn_any _ 11 w (by omega) (by omega))
                        have q3 := Lib.hid (show ∀ w, Calls Tryd.prog 108 #[.int .u32 t.e, .int .i64 25] w fun e w' => e = .returned (.int .u32 (rr 25 t.e)) ∧ w = w' from fun w => rturn_any _ 25 w (by omega) (by omega))
                        have q4 := Lib.hid (show ∀ w, Calls Tryd.prog 108 #[.int .u32 t.a, .int .i64 2] w fun e w' => e = .returned (.int .u32 (rr 2 t.a)) ∧ w = w' from fun w => rturn_any _ 2 w (by omega) (by omega))
                        have q5 := Lib.hid (show ∀ w, Calls Tryd.prog 108 #[.int .u32 t.a, .int .i64 13] w fun e w' => e = .returned (.int .u32 (rr 13 t.a)) ∧ w = w' from fun w => rturn_any _ 13 w (by omega) (by omega))
                        have q6 := Lib.hid (show ∀ w, Calls Tryd.prog 108 #[.int .u32 t.a, .int .i64 22] w fun e w' => e = .returned (.int .u32 (rr 22 t.a)) ∧ w = w' from fun w => rturn_any _ 22 w (by omega) (by omega))
                        clear hr hbw hi64
                        go_wp2_with fail
                        refine wp_region_ext (by kernel_rfl) (by kernel_rfl) ?_
                        repeat (go_big_quiet_step (first | (with_reducible exact ext_call_same (q1.out _)) | (with_reducible exact ext_call_same (q2.out _)) | (with_reducible exact ext_call_same (q3.out _))))
                        refine wpQuiet_nil ?_
                        rintro w' ⟨y, rfl⟩
                        have HY := Lib.hid (HW.out.ext y.below)
                        generalize y.w = w4 at *
                        clear y cW cK lt1 lt2 HW
                        rw [rT_eq2]
                        obtain ⟨TT, hTT⟩ : ∃ TT, rT (K r) (f r) t = TT := ⟨_, rfl⟩
                        rw [hTT]
                        have HTT := Lib.hid hTT
                        clear hTT
                        go_wp2_with fail
                        refine (q4.out _).mono ?_
                        rintro e w5 ⟨rfl, rfl⟩
                        go_wp2_with fail
                        refine (q5.out _).mono ?_
                        rintro e w5 ⟨rfl, rfl⟩
                        go_wp2_with fail
                        refine (q6.out _).mono ?_
                        rintro e w5 ⟨rfl, rfl⟩
                        go_wp2_with fail
                        go_roundw
                        case rel =>
                          refine ⟨r + 1, stepS (K r) (f r) t, ?_, rfl, rfl, rfl, ?_, rfl, rfl, rfl, by go_num, ?_, by show _ ≤ _; omega, HY⟩
                          · show _ = Value.int .u32 (ad (rT (K r) (f r) t) (rU t))
                            rw [HTT.out]; rfl
                          · show _ = Value.int .u32 (ad t.d (rT (K r) (f r) t))
                            rw [HTT.out]; rfl
                          · show _ = _
                            rw [ht.out]; rfl
                        case measure => simp [intOf]; omega
                      · have hr4 : r = 64 := by omega
                        rw [hr4] at ht
                        have HSx := Lib.hid (HS.out.ext HW.out.low)
                        have hb := HSx.out.bs
                        have HS8 := Lib.hid (HSx.out.set (addS st t))
                        have c0 : wr.cell? ⟨gs, 0, none⟩ = some (.int .u32 st.a) := cells_of_blk hb 0 _ rfl
                        have c1 : wr.cell? ⟨gs, 1, none⟩ = some (.int .u32 st.b) := cells_of_blk hb 1 _ rfl
                        have c2 : wr.cell? ⟨gs, 2, none⟩ = some (.int .u32 st.c) := cells_of_blk hb 2 _ rfl
                        have c3 : wr.cell? ⟨gs, 3, none⟩ = some (.int .u32 st.d) := cells_of_blk hb 3 _ rfl
                        have c4x : wr.cell? ⟨gs, 4, none⟩ = some (.int .u32 st.e) := cells_of_blk hb 4 _ rfl
                        have c5 : wr.cell? ⟨gs, 5, none⟩ = some (.int .u32 st.f) := cells_of_blk hb 5 _ rfl
                        have c6 : wr.cell? ⟨gs, 6, none⟩ = some (.int .u32 st.g) := cells_of_blk hb 6 _ rfl
                        have c7 : wr.cell? ⟨gs, 7, none⟩ = some (.int .u32 st.h) := cells_of_blk hb 7 _ rfl
                        have f0 := free_of_blk hb 0
                        have f1 := free_of_blk hb 1
                        have f2 := free_of_blk hb 2
                        have f3 := free_of_blk hb 3
                        have f4 := free_of_blk hb 4
                        have f5 := free_of_blk hb 5
                        have f6 := free_of_blk hb 6
                        have f7 := free_of_blk hb 7
                        have HNX : Hid (foldB K H0 (nth T) (k + 1) = addS st t) := by
                          show addS (foldB K H0 (nth T) k) (runS K (wAt fun i => wordAt (nth T) (64 * k + 4 * i)) (foldB K H0 (nth T) k) 64) = _
                          rw [HST.out, HXT.out, ← hp.out, HF.out, ← ht.out]
                        clear hr4 hr hb HSx HW
                        go_wp2_with fail
                        go_roundw
                        case rel =>
                          refine ⟨p + 64, k + 1, by go_num, by show _ = _; have := hp.out; omega, by show _ ≤ _; have := hp.out; omega, ?_⟩
                          rw [HNX.out]
                          exact HS8
                        case measure => simp [intOf]; omega
            · have hkM : k = M / 64 := by omega
              have HKM := Lib.hid hkM
              have HSTO : Hid (foldB K H0 (nth T) k).Ok := foldB_ok K H0 HOK.out _ _
              obtain ⟨st, hst⟩ : ∃ st, foldB K H0 (nth T) k = st := ⟨_, rfl⟩
              rw [hst] at HS HSTO
              have HST := Lib.hid hst
              clear hkM hst hp2 hk2 hp hk
              go_wp2_with fail
              obtain ⟨wo, rfl⟩ : ∃ wo : World, wo = wr := ⟨_, rfl⟩
              have hfin : strOfNums ((List.range 8).flatMap fun i => beL (sv st i) 4) = sumS K H0 (bytesL s) := by
                have h1 : (List.range 8).flatMap (fun i => beL (sv st i) 4) = outL st := by
                  unfold outL
                  simp only [List.append_assoc]
                  rfl
                have hdig : digL (bytesL s) = T := by
                  unfold digL padL
                  rw [bytesL_len, ← HT.out, ← HD.out, ← HN8.out, HZ.out, Int.mul_comm 8]
                  simp only [List.append_assoc, List.cons_append, List.nil_append]
                unfold sumS
                rw [h1, ← HST.out, HKM.out, hdig, HTL.out]
              have HFIN := Lib.hid hfin
              clear hfin
              go_loopw [28, 29] (fun ov iv wr => ∃ i : Nat, iv = .int .i64 i ∧ Hid (i ≤ 8) ∧ Hid (wr.ownsRow wo.heap.size 5 1 ov (4 * i) (((List.range i).flatMap fun i => beL (sv st i) 4).map (Value.int .u8))) ∧ Hid (Below wo.heap.size wo wr)) (fun _ iv _ => 8 - (intOf iv).toNat)
              case atStart => exact ⟨0, rfl, Nat.zero_le _, World.ownsRow_nil _ _ _ _, Below.refl _ _⟩
              case round =>
                obtain ⟨i, rfl, hi, Hrow, HLo⟩ := hrel
                have hi2 := hi.out
                by_cases hi8 : i < 8
                · have hsv := sv_range st HSTO.out i hi8
                  have hcs : wr.cell? ⟨gs, i, none⟩ = some (.int .u32 (sv st i)) := by
                    rw [HLo.out.cell (p := ⟨gs, i, none⟩) hgl]
                    exact cells_of_blk HS.out.bs i _ (stA_get st i hi8)
                  have hta : ((List.range i).flatMap fun i => beL (sv st i) 4) ++ beL (sv st i) 4 = (List.range (i + 1)).flatMap fun i => beL (sv st i) 4 := by
                    rw [List.range_succ, List.flatMap_append]
                    simp
                  have HTA := Lib.hid hta
                  obtain ⟨xx, hxx⟩ : ∃ xx, sv st i = xx := ⟨_, rfl⟩
                  rw [hxx] at hsv hcs HTA
                  obtain ⟨hx0, hx1⟩ := hsv
                  have hn1 : 4 * i + 4 ≤ 1099511627776 := by omega
                  have lt1 : gs < wr.heap.size := Nat.lt_of_lt_of_le hgl HLo.out.size
                  clear hta hxx hi
                  go_wp2_with fail
                  refine wp_region_ext_hoist 22 (by kernel_rfl) (by kernel_rfl) rfl (fun _ => rfl) ?_
                  simp only [List.take_succ_cons, List.take_zero, List.drop_succ_cons, List.drop_zero]
                  repeat (go_big_quiet_step (fail))
                  refine wpQuiet_nil ?_
                  rintro w' ⟨y, rfl⟩
                  have HRy : Hid (y.w.ownsRow wo.heap.size 5 1 u28 (4 * i) (((List.range i).flatMap fun i => beL (sv st i) 4).map (Value.int .u8))) := Hrow.out.call y.below
                  have HLy := Lib.hid (HLo.out.trans (y.below.mono HLo.out.size))
                  generalize y.w = w4 at *
                  clear y Hrow hcs lt1
                  have hBy := HLy.out.size
                  go_wp2_with (at_builtin; (refine wpList_append_cells _ _ _ _ _ _ el_u8 #[.int .u8 (xx / 16777216), .int .u8 (xx / 65536 % 256), .int .u8 (xx / 256 % 256), .int .u8 (xx % 256)] _ _ _ HRy hBy rfl rfl rfl rfl rfl hn1 (by decide) ?_; intro v5 w5 hown5 hg5))
                  rw [OnlyN_normal]
                  have HL5 : Hid (Below wo.heap.size wo w5) := (below_alloc HLy.out hBy _).grown hg5.out (by simp; omega) (fun b hb => (HRy.out.lt b hb).1)
                  go_wp2_with fail
                  go_roundw
                  case rel =>
                    refine ⟨i + 1, by go_num, by show _ ≤ _; omega, ?_, HL5⟩
                    have e := hown5.out
                    rw [← HTA.out, List.map_append]
                    have e4 : (beL xx 4).map (Value.int .u8) = [.int .u8 (xx / 16777216), .int .u8 (xx / 65536 % 256), .int .u8 (xx / 256 % 256), .int .u8 (xx % 256)] := by
                      rw [show xx / 16777216 = xx / 16777216 % 256 by omega]
                      simp [beL]
                    rw [e4]
                    exact e
                  case measure => simp [intOf]; omega
                · have hie : i = 8 := by omega
                  rw [hie] at Hrow
                  clear hie hi
                  obtain ⟨O, hO⟩ : ∃ O, (List.range 8).flatMap (fun i => beL (sv st i) 4) = O := ⟨_, rfl⟩
                  rw [hO] at HFIN Hrow
                  clear hO
                  have HEND : Hid (Below w.heap.size w wr) := HL1.out.trans ((HL.out.trans ((HS.out.low.trans (HLo.out.mono (Nat.le_of_lt hgl))).mono hB1)).mono HL1.out.size)
                  go_wp2_with (refine wpList_string_own _ _ O _ _ _ Tryd.underlying9 _ _ el_u8 Tryd.underlying5 Hrow.out rfl rfl rfl ?_)
                  go_ret
                  exact ⟨by rw [HFIN.out]; rfl, HEND.out⟩
    · have hjz : j < zpad s.size := by omega
      have hm2 : ((n : Int) % 64 != 56) = true := by
        have : ¬ (n : Int) % 64 = 56 := by omega
        simpa using this
      have hn1 : n + 1 ≤ 1099511627776 := by omega
      have hnj := Lib.hid hn
      have hNB : Hid (n ≤ s.size + 127) := by show _ ≤ _; omega
      have hjz2 := Lib.hid hjz
      clear hn hzp hm hj2 hjz
      go_wp2_with (at_builtin; refine wpList_append_z _ _ _ _ _ _ el_u8 #[.int .u8 0] _ _ _ HL Hrow hB rfl rfl rfl rfl rfl (by decide) hn1 (by decide) ?_; intro v4 w4 hown4 hb4)
      go_roundw
      case rel =>
        refine ⟨j + 1, hjz2.out, ?_, hb4⟩
        have e := hown4.out
        rw [show s.size + 1 + (j + 1) = n + 1 by have := hnj.out; omega, List.replicate_succ', ← List.append_assoc, List.map_append]
        exact e
      case measure =>
        obtain ⟨a5, c5, hv5⟩ := hown4.out.form
        rw [hv5]
        show s.size + 200 - (n + 1) < s.size + 200 - n
        have := hNB.out
        omega
end Go.Proofs.YtaigngdlioplaaaDoor
