/- event: get; the reference's numbers. -/
import Derived.Test.YtgjehokkmdbknaaDoorEventC
import Derived.Test.YtgjehokkmdbknaaDoorNumsReadsA
import Derived.Test.YtgjehokkmdbknaaDoorRowz
namespace Go.Proofs.YtgjehokkmdbknaaDoor
open Go.RowKit

theorem el_i64 : Elt Tryd.prog 82 2 (.int .i64 0) 1 8 := Elt.mk' Tryd.underlying82 (by kernel_rfl) rfl (by decide)

/-- The reader's place and fault behind so many numbers; each number; the fault at last. -/
def getC (s : ByteArray) : Nat → Nat × Int
  | 0 => (0, 0)
  | i + 1 => ((rInt s (getC s i).1 (getC s i).2).2.1, (rInt s (getC s i).1 (getC s i).2).2.2)
def getV (s : ByteArray) (i : Nat) : Int := (rInt s (getC s i).1 (getC s i).2).1
def getE (s : ByteArray) (n : Nat) : Int := if (getC s n).1 < s.size then rFail (getC s n).2 3 else (getC s n).2
theorem getC_p (s : ByteArray) (i : Nat) : (getC s i).1 ≤ s.size := by
  induction i with
  | zero => exact Nat.zero_le _
  | succ i ih => exact rInt_p s _ _ ih

/-- So many numbers written, one behind the other. -/
def wrote (w : World) (adr : Nat → Nat × Nat) (v : Nat → Int) : Nat → World
  | 0 => w
  | i + 1 => (wrote w adr v i).setCell ⟨(adr i).1, (adr i).2, none⟩ (.int .i64 (v i))
theorem wrote_size (w : World) (adr : Nat → Nat × Nat) (v : Nat → Int) (i : Nat) : (wrote w adr v i).heap.size = w.heap.size := by
  induction i with
  | zero => rfl
  | succ i ih => unfold wrote; rw [World.size_setCell]; exact ih
theorem wrote_other (w : World) (adr : Nat → Nat × Nat) (v : Nat → Int) (b : Nat) (i : Nat) (h : ∀ j, j < i → (adr j).1 ≠ b) : (wrote w adr v i).heap[b]? = w.heap[b]? := by
  induction i with
  | zero => rfl
  | succ i ih => unfold wrote; rw [Below.heap_setCell _ _ _ b (Ne.symm (h i (by omega)))]; exact ih (fun j hj => h j (by omega))
theorem below_set {B : Nat} {a b : World} (h : Below B a b) (p : Addr) (v : Value) : Below B (a.setCell p v) (b.setCell p v) := by
  refine ⟨h.os, h.tape, h.output, by simp only [World.size_setCell]; exact h.size, fun k hk => ?_⟩
  by_cases e : k = p.block
  · subst e
    have := h.block _ hk
    show (b.heap.modify p.block _)[p.block]? = (a.heap.modify p.block _)[p.block]?
    rw [Array.getElem?_modify, Array.getElem?_modify, this]
  · rw [Below.heap_setCell _ _ _ k e, Below.heap_setCell _ _ _ k e]; exact h.block k hk
/-- A cell that is there, and may be written. -/
def There (w : World) (b o : Nat) : Prop := ∃ u, w.cell? ⟨b, o, none⟩ = some u ∧ w.frozen? ⟨b, o, none⟩ = false
theorem There.set {w : World} {b o : Nat} (h : There w b o) (b2 o2 : Nat) (v : Value) : There (w.setCell ⟨b2, o2, none⟩ v) b o := by
  obtain ⟨u, hc, hf⟩ := h
  by_cases e : b2 = b ∧ o2 = o
  · obtain ⟨rfl, rfl⟩ := e
    exact ⟨v, World.cell?_setCell_same' _ _ _ (by rw [hc]; rfl), by rw [World.frozen?_setCell]; exact hf⟩
  · refine ⟨u, ?_, by rw [World.frozen?_setCell]; exact hf⟩
    rw [World.cell?_setCell_other _ _ _ _ (by intro h; injection h with h1 h2; exact e ⟨h1, h2⟩)]
    exact hc
theorem There.wrote {w : World} {b o : Nat} (h : There w b o) (adr : Nat → Nat × Nat) (v : Nat → Int) (i : Nat) : There (wrote w adr v i) b o := by
  induction i with
  | zero => exact h
  | succ i ih => exact ih.set _ _ _
theorem There.lt {w : World} {b o : Nat} (h : There w b o) : b < w.heap.size := by
  obtain ⟨u, hc, _⟩ := h
  exact World.block_lt_of_cell? w _ hc

set_option maxRecDepth 100000 in
set_option maxHeartbeats 1000000 in
theorem get_any (s : ByteArray) (bl ol n c : Nat) (adr : Nat → Nat × Nat) (w : World) (hs : Hid (s.size ≤ 1099511627776)) (hn : Hid (n ≤ 20)) (hbl : Hid (bl < w.heap.size))
    (hl : Hid (∀ i, i < n → w.cell? ⟨bl, ol + i, none⟩ = some (.pointer (some ⟨(adr i).1, (adr i).2, none⟩)) ∧ There w (adr i).1 (adr i).2 ∧ (adr i).1 ≠ bl)) :
    Calls Tryd.prog 46 #[.string s, .slice (some ⟨bl, ol, none⟩) n c] w fun e w' => e = .returned (.int .i64 (getE s n)) ∧ Below w.heap.size (wrote w adr (getV s) n) w' := by
  have hn2 := hn.out
  go_enter Tryd.func46, Tryd.ntmps46
  go_wp2_with fail
  refine (Read_any _ _).mono ?_
  rintro e w1 ⟨rfl, hR, hb, hsz⟩
  have HR1 := Lib.hid hR; have HB1 := Lib.hid hb; clear hR hb hsz
  have hg : Hid (w.heap.size ≤ w.heap.size) := Nat.le_refl _
  generalize hgg : w.heap.size = g at HR1 hg ⊢
  have HG := Lib.hid hgg.symm; clear hgg
  go_wp2_with fail
  go_loopw [12] (fun iv wr => ∃ i : Nat, iv = .int .i64 i ∧ Hid (i ≤ n) ∧ Hid (Rdr wr g s (getC s i).1 (getC s i).2) ∧ Hid (Below w.heap.size (wrote w adr (getV s) i) wr)) (fun iv _ => n - (intOf iv).toNat)
  case atStart => exact ⟨0, rfl, Nat.zero_le _, HR1.out, HB1.out⟩
  case round =>
    obtain ⟨i, rfl, hi, HR, HB⟩ := hrel
    have hi2 := hi.out
    have hp := Lib.hid (getC_p s i)
    by_cases hlt : i < n
    · obtain ⟨hc, ht, hne⟩ := hl.out i hlt
      have hcw : (wrote w adr (getV s) i).heap[bl]? = w.heap[bl]? := wrote_other _ _ _ _ _ (fun j hj => (hl.out j (by omega)).2.2)
      have cl : wr.cell? ⟨bl, ol + i, none⟩ = some (.pointer (some ⟨(adr i).1, (adr i).2, none⟩)) :=
        (World.cell?_of_block (a := ⟨bl, ol + i, none⟩) ((HB.out.block bl hbl.out).trans hcw)).trans hc
      have hlt2 := ht.lt
      have ht2 := ht.wrote adr (getV s) i
      have hw : wrap64 ((i : Int) + 1) = ((i + 1 : Nat) : Int) := by simp only [wrap64]; omega
      have e1 : (rInt s (getC s i).1 (getC s i).2).1 = getV s i := rfl
      have e2 : ((rInt s (getC s i).1 (getC s i).2).2.1, (rInt s (getC s i).1 (getC s i).2).2.2) = getC s (i + 1) := rfl
      have e3 : wrote w adr (getV s) (i + 1) = (wrote w adr (getV s) i).setCell ⟨(adr i).1, (adr i).2, none⟩ (.int .i64 (getV s i)) := rfl
      have hC := Lib.hid (show ∀ wr, Hid (Rdr wr g s (getC s i).1 (getC s i).2) → Calls Tryd.prog _ #[.pointer (some ⟨g, 0, none⟩)] wr _ from fun wr hr => RInt_any g s _ _ wr hr hs hp)
      rw [e1] at hC
      generalize hr : rInt s (getC s i).1 (getC s i).2 = r at *
      obtain ⟨rv, rp, rf⟩ := r
      simp only [] at hC e2
      rw [show rp = (getC s (i + 1)).1 by rw [← e2], show rf = (getC s (i + 1)).2 by rw [← e2]] at hC
      have HW := Lib.hid hw; have HE3 := Lib.hid e3; have HT2 := Lib.hid ht2
      clear hw e1 e2 e3 hr hc hcw hne ht2
      generalize getV s i = vi at *
      generalize (adr i).1 = ab at *
      generalize (adr i).2 = ao at *
      go_wp2_with fail
      refine (hC.out _ HR).mono ?_
      rintro e w2 ⟨rfl, hR, hG⟩
      have HR2 := Lib.hid hR
      have HB2 : Hid (Below w.heap.size (wrote w adr (getV s) i) w2) := HB.out.grown hG (by rw [← wrote_size w adr (getV s) i]; exact HB.out.size) (fun k hk => by injection hk with hk; have := HG.out; omega)
      clear hR hG
      obtain ⟨u, hcu, hfu⟩ := HT2.out
      have cu : w2.cell? ⟨ab, ao, none⟩ = some u := (World.cell?_of_block (a := ⟨ab, ao, none⟩) (HB2.out.block ab hlt2)).trans hcu
      have fu : w2.frozen? ⟨ab, ao, none⟩ = false := (World.frozen?_of_block (a := ⟨ab, ao, none⟩) (HB2.out.block ab hlt2)).trans hfu
      clear hcu hfu
      go_wp2_with fail
      have HB3 := Lib.hid (below_set HB2.out ⟨ab, ao, none⟩ (.int .i64 vi))
      rw [← HE3.out] at HB3
      have HR3 : Hid (Rdr (w2.setCell ⟨ab, ao, none⟩ (.int .i64 vi)) g s (getC s (i + 1)).1 (getC s (i + 1)).2) := (Below.heap_setCell _ _ _ g (by have := HG.out; simp only []; omega)).trans HR2.out
      go_roundw
      case rel => exact ⟨i + 1, by first | rfl | (rw [← HW.out]; rfl), by show _ ≤ _; omega, HR3, HB3⟩
      case measure => simp [intOf]; omega
    · obtain rfl : i = n := by omega
      have hs2 := hs.out
      by_cases hlf : (getC s i).1 < s.size
      · have hE : getE s i = rFail (getC s i).2 3 := if_pos hlf
        have HE := Lib.hid hE; clear hE
        have hl0 : (0 : Int) < (s.size : Int) - ((getC s i).1 : Int) := by omega
        go_wp2_with fail
        refine (RLeft_any _ _ _ _ _ HR hs hp).mono ?_
        rintro e w3 ⟨rfl, nd, rfl⟩
        have HR3 := Lib.hid (HR.out.drewN nd)
        have HB3 := Lib.hid (below_drewN HB.out nd)
        go_wp2_with fail
        refine (RFail_any _ _ _ _ _ _ HR3).mono ?_
        rintro e w4 ⟨rfl, hR, hG⟩
        have HR4 := Lib.hid hR
        have HB4 : Hid (Below w.heap.size (wrote w adr (getV s) i) w4) := HB3.out.grown hG (by rw [← wrote_size w adr (getV s) i]; exact HB3.out.size) (fun k hk => by injection hk with hk; have := HG.out; omega)
        clear hR hG
        go_wp2_with fail
        refine (RFault_any _ _ _ _ _ HR4).mono ?_
        rintro e w' ⟨rfl, rfl⟩
        go_wp2_with fail
        go_ret
        exact ⟨by rw [HE.out]; rfl, HB4.out⟩
      · have hE : getE s i = (getC s i).2 := if_neg hlf
        have HE := Lib.hid hE; clear hE
        have hl0 : ¬ (0 : Int) < (s.size : Int) - ((getC s i).1 : Int) := by omega
        go_wp2_with fail
        refine (RLeft_any _ _ _ _ _ HR hs hp).mono ?_
        rintro e w3 ⟨rfl, nd, rfl⟩
        have HR3 := Lib.hid (HR.out.drewN nd)
        have HB3 := Lib.hid (below_drewN HB.out nd)
        go_wp2_with fail
        refine (RFault_any _ _ _ _ _ HR3).mono ?_
        rintro e w' ⟨rfl, rfl⟩
        go_wp2_with fail
        go_ret
        exact ⟨by rw [HE.out]; rfl, HB3.out⟩

theorem own_past {W X : World} {n₀ g : Nat} {e : TypeId} {size k : Nat} {v : Value} {xs : List Value} (h : W.ownsRow n₀ e size v k xs) (hg : W.grownBy X (some g)) (hlt : g < n₀) : X.ownsRow n₀ e size v k xs := by
  refine h.kept hg ?_
  cases hv : v.ownBlock with
  | none =>
    rcases h.2 with ⟨rfl, _⟩ | ⟨g', cap, cur, rfl, _, _⟩
    · exact .inl rfl
    · simp [Value.ownBlock] at hv
  | some g' => exact .inr (by have h1 := (own_ge h g' hv).1; intro h3; injection h3 with h3; omega)

set_option maxRecDepth 100000 in
set_option maxHeartbeats 1000000 in
theorem numbers_any (s : ByteArray) (n : Nat) (w : World) (hs : Hid (s.size ≤ 1099511627776)) (hn : Hid (n ≤ 20)) :
    Calls Tryd.prog 48 #[.string s, .int .i64 n] w fun e w' => ∃ v, e = .returned (.tuple #[v, .int .i64 (getE s n)]) ∧
      w'.ownsRow w.heap.size 2 1 v n ((List.range n).map (fun i => Value.int .i64 (getV s i))) ∧ Below w.heap.size w w' := by
  have hn2 := hn.out
  go_enter Tryd.func48, Tryd.ntmps48
  go_wp2_with fail
  refine (Of_any _ _).mono ?_
  rintro e w1 ⟨rfl, hR, hb, hsz⟩
  have HR1 := Lib.hid hR; have HB1 := Lib.hid hb; clear hR hb hsz
  generalize hgg : w.heap.size = g at HR1 ⊢
  have HG := Lib.hid hgg.symm; clear hgg
  go_wp2_with fail
  go_loopw [7, 8] (fun vv iv wr => ∃ i : Nat, iv = .int .i64 i ∧ Hid (i ≤ n) ∧ Hid (Ref wr g s (getC s i).1 (getC s i).2) ∧ Hid (wr.ownsRow (w.heap.size + 1) 2 1 vv i ((List.range i).map (fun i => Value.int .i64 (getV s i)))) ∧ Hid (Below w.heap.size w wr) ∧ Hid (w.heap.size + 1 ≤ wr.heap.size)) (fun _ iv _ => n - (intOf iv).toNat)
  case atStart => exact ⟨0, rfl, Nat.zero_le _, HR1.out, World.ownsRow_nil _ _ _ _, HB1.out, by have := HR1.out.lt; have := HG.out; show _ ≤ _; omega⟩
  case round =>
    obtain ⟨i, rfl, hi, HR, Hrow, HB, Hsz⟩ := hrel
    have hi2 := hi.out
    have hp := Lib.hid (getC_p s i)
    have hs2 := hs.out
    by_cases hlt : i < n
    · have hw : wrap64 ((i : Int) + 1) = ((i + 1 : Nat) : Int) := by simp only [wrap64]; omega
      have e1 : (rInt s (getC s i).1 (getC s i).2).1 = getV s i := rfl
      have e2 : ((rInt s (getC s i).1 (getC s i).2).2.1, (rInt s (getC s i).1 (getC s i).2).2.2) = getC s (i + 1) := rfl
      have hC := Lib.hid (show ∀ wr, Hid (Ref wr g s (getC s i).1 (getC s i).2) → Calls Tryd.prog _ #[.pointer (some ⟨g, 0, none⟩)] wr _ from fun wr hr => FInt_any g s _ _ wr hr hs hp)
      rw [e1] at hC
      generalize hr : rInt s (getC s i).1 (getC s i).2 = r at *
      obtain ⟨rv, rp, rf⟩ := r
      simp only [] at hC e2
      rw [show rp = (getC s (i + 1)).1 by rw [← e2], show rf = (getC s (i + 1)).2 by rw [← e2]] at hC
      have hrange : ((List.range i).map (fun i => Value.int .i64 (getV s i))) ++ [Value.int .i64 (getV s i)] = (List.range (i + 1)).map (fun i => Value.int .i64 (getV s i)) := by rw [List.range_succ, List.map_append]; rfl
      have HW := Lib.hid hw; have HRG := Lib.hid hrange
      clear hw e1 e2 hr hrange
      generalize getV s i = vi at *
      have hk : i + 1 ≤ 1099511627776 := by omega
      go_wp2_with fail
      refine (hC.out _ HR).mono ?_
      rintro e w2 ⟨rfl, hR, hG⟩
      have HR2 := Lib.hid hR
      have HB2 : Hid (Below w.heap.size w w2) := HB.out.grown hG HB.out.size (fun k hk => by injection hk with hk; have := HG.out; omega)
      have Hrow2 := Lib.hid (own_past Hrow.out hG (by have := HG.out; omega))
      have hbw2 : w.heap.size + 1 ≤ w2.heap.size := Nat.le_trans Hsz.out hG.size
      clear hR hG
      go_wp2_with (at_builtin; refine wpList_append_grow _ _ _ _ _ _ el_i64 _ _ _ _ Hrow2 hbw2 rfl rfl rfl rfl rfl hk (by decide) ?_; intro v3 w3 hown3 hg3
                   have HB3 := Lib.hid (HB2.out.trans ((app_keeps Hrow2.out hbw2 hg3.out).2.mono (Nat.le_succ _)))
                   have HR3 : Hid (Ref w3 g s (getC s (i + 1)).1 (getC s (i + 1)).2) := ((app_keeps Hrow2.out hbw2 hg3.out).2.block g (by have := HG.out; omega)).trans HR2.out
                   have HS3 := Lib.hid (Nat.le_trans hbw2 ((app_keeps Hrow2.out hbw2 hg3.out).2.size)))
      go_roundw
      case rel => exact ⟨i + 1, by first | rfl | (rw [← HW.out]; rfl), by show _ ≤ _; omega, HR3, Lib.hid (by have := hown3.out; rw [HRG.out] at this; exact this), HB3, HS3⟩
      case measure => simp [intOf]; omega
    · obtain rfl : i = n := by omega
      by_cases hlf : (getC s i).1 < s.size
      · have hE : getE s i = rFail (getC s i).2 3 := if_pos hlf
        have HE := Lib.hid hE; clear hE
        have hl0 : (0 : Int) < (s.size : Int) - ((getC s i).1 : Int) := by omega
        go_wp2_with fail
        refine (FLeft_any _ _ _ _ _ HR hs hp).mono ?_
        rintro e w3 ⟨rfl, nd, rfl⟩
        have HR3 := Lib.hid (HR.out.drewN nd)
        have HB3 := Lib.hid (below_drewN HB.out nd)
        have Hrow3 := Lib.hid (own_drewN Hrow.out nd)
        go_wp2_with fail
        refine (FFail_any _ _ _ _ _ _ HR3).mono ?_
        rintro e w4 ⟨rfl, hR, hG⟩
        have HR4 := Lib.hid hR
        have HB4 : Hid (Below w.heap.size w w4) := HB3.out.grown hG HB3.out.size (fun k hk => by injection hk with hk; have := HG.out; omega)
        have Hrow4 := Lib.hid (own_past Hrow3.out hG (by have := HG.out; omega))
        clear hR hG
        have cf := HR4.out.f
        go_wp2_with fail
        go_quiet (fail)
        go_wp2_with fail
        go_ret2
        exact ⟨_, by rw [HE.out]; rfl, own_base (own_drewN Hrow4.out _) (by omega), below_drewN HB4.out _⟩
      · have hE : getE s i = (getC s i).2 := if_neg hlf
        have HE := Lib.hid hE; clear hE
        have hl0 : ¬ (0 : Int) < (s.size : Int) - ((getC s i).1 : Int) := by omega
        go_wp2_with fail
        refine (FLeft_any _ _ _ _ _ HR hs hp).mono ?_
        rintro e w3 ⟨rfl, nd, rfl⟩
        have HR3 := Lib.hid (HR.out.drewN nd)
        have HB3 := Lib.hid (below_drewN HB.out nd)
        have Hrow3 := Lib.hid (own_drewN Hrow.out nd)
        have cf := HR.out.f
        go_wp2_with fail
        go_quiet (fail)
        go_wp2_with fail
        go_ret2
        exact ⟨_, by rw [HE.out]; rfl, own_base (own_drewN Hrow3.out _) (by omega), below_drewN HB3.out _⟩
end Go.Proofs.YtgjehokkmdbknaaDoor
