/- event: names and reasons; the walk of EventNames. -/
import Derived.Test.YtgjehokkmdbknaaDoorEventA
namespace Go.Proofs.YtgjehokkmdbknaaDoor
open Go.RowKit

def namesL : List ByteArray := [⟨#[]⟩, ⟨#[97, 99, 99, 111, 117, 110, 116]⟩, ⟨#[108, 105, 109, 105, 116]⟩, ⟨#[113, 117, 111, 116, 101]⟩, ⟨#[111, 114, 100, 101, 114]⟩, ⟨#[102, 105, 108, 108]⟩, ⟨#[99, 97, 110, 99, 101, 108]⟩, ⟨#[115, 110, 97, 112]⟩]
def reasonsL : List ByteArray := [⟨#[97, 99, 99, 101, 112, 116]⟩, ⟨#[107, 105, 110, 100]⟩, ⟨#[118, 97, 108, 117, 101]⟩, ⟨#[110, 111, 32, 97, 99, 99, 111, 117, 110, 116]⟩, ⟨#[97, 99, 99, 111, 117, 110, 116, 32, 116, 104, 101, 114, 101]⟩, ⟨#[111, 114, 100, 101, 114, 32, 116, 104, 101, 114, 101]⟩, ⟨#[110, 111, 32, 111, 114, 100, 101, 114]⟩, ⟨#[110, 111, 32, 112, 114, 105, 99, 101]⟩, ⟨#[102, 117, 108, 108]⟩, ⟨#[111, 114, 100, 101, 114, 32, 116, 111, 111, 32, 103, 114, 101, 97, 116]⟩, ⟨#[112, 111, 115, 105, 116, 105, 111, 110, 32, 116, 111, 111, 32, 103, 114, 101, 97, 116]⟩, ⟨#[109, 97, 114, 103, 105, 110]⟩, ⟨#[111, 118, 101, 114, 102, 108, 111, 119]⟩, ⟨#[117, 110, 97, 118, 97, 105, 108, 97, 98, 108, 101]⟩]
def nameOf (n : Int) : ByteArray := if n < 1 ∨ 8 ≤ n then ⟨#[63]⟩ else (namesL[n.toNat]?).getD ⟨#[63]⟩
def reasonOf (n : Int) : ByteArray := if n < 0 ∨ 14 ≤ n then ⟨#[63]⟩ else (reasonsL[n.toNat]?).getD ⟨#[63]⟩
/-- The two tables. -/
structure Tabs (w : World) : Prop where
  names : ∀ i v, namesL[i]? = some v → w.cell? ⟨0, i, none⟩ = some (.string v)
  reasons : ∀ i v, reasonsL[i]? = some v → w.cell? ⟨1, i, none⟩ = some (.string v)
theorem Tabs.below {w w' : World} (h : Tabs w) (hb : Below w.heap.size w w') : Tabs w' :=
  ⟨fun i v hv => (hb.cell (p := ⟨0, i, none⟩) (World.block_lt_of_cell? w _ (h.names i v hv))).trans (h.names i v hv), fun i v hv => (hb.cell (p := ⟨1, i, none⟩) (World.block_lt_of_cell? w _ (h.reasons i v hv))).trans (h.reasons i v hv)⟩

set_option maxRecDepth 100000 in
set_option maxHeartbeats 1000000 in
theorem Name_any (n : Int) (w : World) (hT : Hid (Tabs w)) :
    Calls Tryd.prog 11 #[.int .i64 n] w fun e w' => e = .returned (.string (nameOf n)) ∧ Below w.heap.size w w' := by
  have hn : n < 1 ∨ 7 < n ∨ n = 1 ∨ n = 2 ∨ n = 3 ∨ n = 4 ∨ n = 5 ∨ n = 6 ∨ n = 7 := by omega
  rcases hn with hn | hn | hn | hn | hn | hn | hn | hn | hn
  · have e0 : nameOf n = ⟨#[63]⟩ := by unfold nameOf; rw [if_pos (by omega)]
    rw [e0]
    go_enter Tryd.func11, Tryd.ntmps11
    go_wp2_with fail
    go_ret
    exact ⟨rfl, Below.refl _ _⟩
  · have e0 : nameOf n = ⟨#[63]⟩ := by unfold nameOf; rw [if_pos (by omega)]
    rw [e0]
    have hn2 : ¬ n < 1 := by omega
    have hn3 : 8 ≤ n := by omega
    go_enter Tryd.func11, Tryd.ntmps11
    go_wp2_with fail
    go_ret
    exact ⟨rfl, Below.refl _ _⟩
  · subst hn
    rw [show nameOf 1 = ⟨#[97, 99, 99, 111, 117, 110, 116]⟩ by decide +kernel]
    have hc := hT.out.names 1 ⟨#[97, 99, 99, 111, 117, 110, 116]⟩ rfl
    go_enter Tryd.func11, Tryd.ntmps11
    go_wp2_with fail
    go_ret
    exact ⟨rfl, Below.refl _ _⟩
  · subst hn
    rw [show nameOf 2 = ⟨#[108, 105, 109, 105, 116]⟩ by decide +kernel]
    have hc := hT.out.names 2 ⟨#[108, 105, 109, 105, 116]⟩ rfl
    go_enter Tryd.func11, Tryd.ntmps11
    go_wp2_with fail
    go_ret
    exact ⟨rfl, Below.refl _ _⟩
  · subst hn
    rw [show nameOf 3 = ⟨#[113, 117, 111, 116, 101]⟩ by decide +kernel]
    have hc := hT.out.names 3 ⟨#[113, 117, 111, 116, 101]⟩ rfl
    go_enter Tryd.func11, Tryd.ntmps11
    go_wp2_with fail
    go_ret
    exact ⟨rfl, Below.refl _ _⟩
  · subst hn
    rw [show nameOf 4 = ⟨#[111, 114, 100, 101, 114]⟩ by decide +kernel]
    have hc := hT.out.names 4 ⟨#[111, 114, 100, 101, 114]⟩ rfl
    go_enter Tryd.func11, Tryd.ntmps11
    go_wp2_with fail
    go_ret
    exact ⟨rfl, Below.refl _ _⟩
  · subst hn
    rw [show nameOf 5 = ⟨#[102, 105, 108, 108]⟩ by decide +kernel]
    have hc := hT.out.names 5 ⟨#[102, 105, 108, 108]⟩ rfl
    go_enter Tryd.func11, Tryd.ntmps11
    go_wp2_with fail
    go_ret
    exact ⟨rfl, Below.refl _ _⟩
  · subst hn
    rw [show nameOf 6 = ⟨#[99, 97, 110, 99, 101, 108]⟩ by decide +kernel]
    have hc := hT.out.names 6 ⟨#[99, 97, 110, 99, 101, 108]⟩ rfl
    go_enter Tryd.func11, Tryd.ntmps11
    go_wp2_with fail
    go_ret
    exact ⟨rfl, Below.refl _ _⟩
  · subst hn
    rw [show nameOf 7 = ⟨#[115, 110, 97, 112]⟩ by decide +kernel]
    have hc := hT.out.names 7 ⟨#[115, 110, 97, 112]⟩ rfl
    go_enter Tryd.func11, Tryd.ntmps11
    go_wp2_with fail
    go_ret
    exact ⟨rfl, Below.refl _ _⟩
set_option maxRecDepth 100000 in
set_option maxHeartbeats 1000000 in
theorem refName_any (n : Int) (w : World) :
    Calls Tryd.prog 12 #[.int .i64 n] w fun e w' => e = .returned (.string (nameOf n)) ∧ Below w.heap.size w w' := by
  have hn : n < 1 ∨ 7 < n ∨ n = 1 ∨ n = 2 ∨ n = 3 ∨ n = 4 ∨ n = 5 ∨ n = 6 ∨ n = 7 := by omega
  rcases hn with hn | hn | hn | hn | hn | hn | hn | hn | hn
  · have e0 : nameOf n = ⟨#[63]⟩ := by unfold nameOf; rw [if_pos (by omega)]
    rw [e0]
    have k1 : ¬ n = 1 := by omega
    have k2 : ¬ n = 2 := by omega
    have k3 : ¬ n = 3 := by omega
    have k4 : ¬ n = 4 := by omega
    have k5 : ¬ n = 5 := by omega
    have k6 : ¬ n = 6 := by omega
    have k7 : ¬ n = 7 := by omega
    go_enter Tryd.func12, Tryd.ntmps12
    go_wp2_with fail
    go_ret
    exact ⟨rfl, Below.refl _ _⟩
  · have e0 : nameOf n = ⟨#[63]⟩ := by unfold nameOf; rw [if_pos (by omega)]
    rw [e0]
    have hn2 : ¬ n < 1 := by omega
    have hn3 : 8 ≤ n := by omega
    have k1 : ¬ n = 1 := by omega
    have k2 : ¬ n = 2 := by omega
    have k3 : ¬ n = 3 := by omega
    have k4 : ¬ n = 4 := by omega
    have k5 : ¬ n = 5 := by omega
    have k6 : ¬ n = 6 := by omega
    have k7 : ¬ n = 7 := by omega
    go_enter Tryd.func12, Tryd.ntmps12
    go_wp2_with fail
    go_ret
    exact ⟨rfl, Below.refl _ _⟩
  · subst hn
    rw [show nameOf 1 = ⟨#[97, 99, 99, 111, 117, 110, 116]⟩ by decide +kernel]
    go_enter Tryd.func12, Tryd.ntmps12
    go_wp2_with fail
    go_ret
    exact ⟨rfl, Below.refl _ _⟩
  · subst hn
    rw [show nameOf 2 = ⟨#[108, 105, 109, 105, 116]⟩ by decide +kernel]
    go_enter Tryd.func12, Tryd.ntmps12
    go_wp2_with fail
    go_ret
    exact ⟨rfl, Below.refl _ _⟩
  · subst hn
    rw [show nameOf 3 = ⟨#[113, 117, 111, 116, 101]⟩ by decide +kernel]
    go_enter Tryd.func12, Tryd.ntmps12
    go_wp2_with fail
    go_ret
    exact ⟨rfl, Below.refl _ _⟩
  · subst hn
    rw [show nameOf 4 = ⟨#[111, 114, 100, 101, 114]⟩ by decide +kernel]
    go_enter Tryd.func12, Tryd.ntmps12
    go_wp2_with fail
    go_ret
    exact ⟨rfl, Below.refl _ _⟩
  · subst hn
    rw [show nameOf 5 = ⟨#[102, 105, 108, 108]⟩ by decide +kernel]
    go_enter Tryd.func12, Tryd.ntmps12
    go_wp2_with fail
    go_ret
    exact ⟨rfl, Below.refl _ _⟩
  · subst hn
    rw [show nameOf 6 = ⟨#[99, 97, 110, 99, 101, 108]⟩ by decide +kernel]
    go_enter Tryd.func12, Tryd.ntmps12
    go_wp2_with fail
    go_ret
    exact ⟨rfl, Below.refl _ _⟩
  · subst hn
    rw [show nameOf 7 = ⟨#[115, 110, 97, 112]⟩ by decide +kernel]
    go_enter Tryd.func12, Tryd.ntmps12
    go_wp2_with fail
    go_ret
    exact ⟨rfl, Below.refl _ _⟩
set_option maxRecDepth 100000 in
set_option maxHeartbeats 1000000 in
theorem Reason_any (n : Int) (w : World) (hT : Hid (Tabs w)) :
    Calls Tryd.prog 13 #[.int .i64 n] w fun e w' => e = .returned (.string (reasonOf n)) ∧ Below w.heap.size w w' := by
  have hn : n < 0 ∨ 13 < n ∨ n = 0 ∨ n = 1 ∨ n = 2 ∨ n = 3 ∨ n = 4 ∨ n = 5 ∨ n = 6 ∨ n = 7 ∨ n = 8 ∨ n = 9 ∨ n = 10 ∨ n = 11 ∨ n = 12 ∨ n = 13 := by omega
  rcases hn with hn | hn | hn | hn | hn | hn | hn | hn | hn | hn | hn | hn | hn | hn | hn | hn
  · have e0 : reasonOf n = ⟨#[63]⟩ := by unfold reasonOf; rw [if_pos (by omega)]
    rw [e0]
    go_enter Tryd.func13, Tryd.ntmps13
    go_wp2_with fail
    go_ret
    exact ⟨rfl, Below.refl _ _⟩
  · have e0 : reasonOf n = ⟨#[63]⟩ := by unfold reasonOf; rw [if_pos (by omega)]
    rw [e0]
    have hn2 : ¬ n < 0 := by omega
    have hn3 : 14 ≤ n := by omega
    go_enter Tryd.func13, Tryd.ntmps13
    go_wp2_with fail
    go_ret
    exact ⟨rfl, Below.refl _ _⟩
  · subst hn
    rw [show reasonOf 0 = ⟨#[97, 99, 99, 101, 112, 116]⟩ by decide +kernel]
    have hc := hT.out.reasons 0 ⟨#[97, 99, 99, 101, 112, 116]⟩ rfl
    go_enter Tryd.func13, Tryd.ntmps13
    go_wp2_with fail
    go_ret
    exact ⟨rfl, Below.refl _ _⟩
  · subst hn
    rw [show reasonOf 1 = ⟨#[107, 105, 110, 100]⟩ by decide +kernel]
    have hc := hT.out.reasons 1 ⟨#[107, 105, 110, 100]⟩ rfl
    go_enter Tryd.func13, Tryd.ntmps13
    go_wp2_with fail
    go_ret
    exact ⟨rfl, Below.refl _ _⟩
  · subst hn
    rw [show reasonOf 2 = ⟨#[118, 97, 108, 117, 101]⟩ by decide +kernel]
    have hc := hT.out.reasons 2 ⟨#[118, 97, 108, 117, 101]⟩ rfl
    go_enter Tryd.func13, Tryd.ntmps13
    go_wp2_with fail
    go_ret
    exact ⟨rfl, Below.refl _ _⟩
  · subst hn
    rw [show reasonOf 3 = ⟨#[110, 111, 32, 97, 99, 99, 111, 117, 110, 116]⟩ by decide +kernel]
    have hc := hT.out.reasons 3 ⟨#[110, 111, 32, 97, 99, 99, 111, 117, 110, 116]⟩ rfl
    go_enter Tryd.func13, Tryd.ntmps13
    go_wp2_with fail
    go_ret
    exact ⟨rfl, Below.refl _ _⟩
  · subst hn
    rw [show reasonOf 4 = ⟨#[97, 99, 99, 111, 117, 110, 116, 32, 116, 104, 101, 114, 101]⟩ by decide +kernel]
    have hc := hT.out.reasons 4 ⟨#[97, 99, 99, 111, 117, 110, 116, 32, 116, 104, 101, 114, 101]⟩ rfl
    go_enter Tryd.func13, Tryd.ntmps13
    go_wp2_with fail
    go_ret
    exact ⟨rfl, Below.refl _ _⟩
  · subst hn
    rw [show reasonOf 5 = ⟨#[111, 114, 100, 101, 114, 32, 116, 104, 101, 114, 101]⟩ by decide +kernel]
    have hc := hT.out.reasons 5 ⟨#[111, 114, 100, 101, 114, 32, 116, 104, 101, 114, 101]⟩ rfl
    go_enter Tryd.func13, Tryd.ntmps13
    go_wp2_with fail
    go_ret
    exact ⟨rfl, Below.refl _ _⟩
  · subst hn
    rw [show reasonOf 6 = ⟨#[110, 111, 32, 111, 114, 100, 101, 114]⟩ by decide +kernel]
    have hc := hT.out.reasons 6 ⟨#[110, 111, 32, 111, 114, 100, 101, 114]⟩ rfl
    go_enter Tryd.func13, Tryd.ntmps13
    go_wp2_with fail
    go_ret
    exact ⟨rfl, Below.refl _ _⟩
  · subst hn
    rw [show reasonOf 7 = ⟨#[110, 111, 32, 112, 114, 105, 99, 101]⟩ by decide +kernel]
    have hc := hT.out.reasons 7 ⟨#[110, 111, 32, 112, 114, 105, 99, 101]⟩ rfl
    go_enter Tryd.func13, Tryd.ntmps13
    go_wp2_with fail
    go_ret
    exact ⟨rfl, Below.refl _ _⟩
  · subst hn
    rw [show reasonOf 8 = ⟨#[102, 117, 108, 108]⟩ by decide +kernel]
    have hc := hT.out.reasons 8 ⟨#[102, 117, 108, 108]⟩ rfl
    go_enter Tryd.func13, Tryd.ntmps13
    go_wp2_with fail
    go_ret
    exact ⟨rfl, Below.refl _ _⟩
  · subst hn
    rw [show reasonOf 9 = ⟨#[111, 114, 100, 101, 114, 32, 116, 111, 111, 32, 103, 114, 101, 97, 116]⟩ by decide +kernel]
    have hc := hT.out.reasons 9 ⟨#[111, 114, 100, 101, 114, 32, 116, 111, 111, 32, 103, 114, 101, 97, 116]⟩ rfl
    go_enter Tryd.func13, Tryd.ntmps13
    go_wp2_with fail
    go_ret
    exact ⟨rfl, Below.refl _ _⟩
  · subst hn
    rw [show reasonOf 10 = ⟨#[112, 111, 115, 105, 116, 105, 111, 110, 32, 116, 111, 111, 32, 103, 114, 101, 97, 116]⟩ by decide +kernel]
    have hc := hT.out.reasons 10 ⟨#[112, 111, 115, 105, 116, 105, 111, 110, 32, 116, 111, 111, 32, 103, 114, 101, 97, 116]⟩ rfl
    go_enter Tryd.func13, Tryd.ntmps13
    go_wp2_with fail
    go_ret
    exact ⟨rfl, Below.refl _ _⟩
  · subst hn
    rw [show reasonOf 11 = ⟨#[109, 97, 114, 103, 105, 110]⟩ by decide +kernel]
    have hc := hT.out.reasons 11 ⟨#[109, 97, 114, 103, 105, 110]⟩ rfl
    go_enter Tryd.func13, Tryd.ntmps13
    go_wp2_with fail
    go_ret
    exact ⟨rfl, Below.refl _ _⟩
  · subst hn
    rw [show reasonOf 12 = ⟨#[111, 118, 101, 114, 102, 108, 111, 119]⟩ by decide +kernel]
    have hc := hT.out.reasons 12 ⟨#[111, 118, 101, 114, 102, 108, 111, 119]⟩ rfl
    go_enter Tryd.func13, Tryd.ntmps13
    go_wp2_with fail
    go_ret
    exact ⟨rfl, Below.refl _ _⟩
  · subst hn
    rw [show reasonOf 13 = ⟨#[117, 110, 97, 118, 97, 105, 108, 97, 98, 108, 101]⟩ by decide +kernel]
    have hc := hT.out.reasons 13 ⟨#[117, 110, 97, 118, 97, 105, 108, 97, 98, 108, 101]⟩ rfl
    go_enter Tryd.func13, Tryd.ntmps13
    go_wp2_with fail
    go_ret
    exact ⟨rfl, Below.refl _ _⟩
set_option maxRecDepth 100000 in
set_option maxHeartbeats 1000000 in
theorem refReason_any (n : Int) (w : World) :
    Calls Tryd.prog 14 #[.int .i64 n] w fun e w' => e = .returned (.string (reasonOf n)) ∧ Below w.heap.size w w' := by
  have hn : n < 0 ∨ 13 < n ∨ n = 0 ∨ n = 1 ∨ n = 2 ∨ n = 3 ∨ n = 4 ∨ n = 5 ∨ n = 6 ∨ n = 7 ∨ n = 8 ∨ n = 9 ∨ n = 10 ∨ n = 11 ∨ n = 12 ∨ n = 13 := by omega
  rcases hn with hn | hn | hn | hn | hn | hn | hn | hn | hn | hn | hn | hn | hn | hn | hn | hn
  · have e0 : reasonOf n = ⟨#[63]⟩ := by unfold reasonOf; rw [if_pos (by omega)]
    rw [e0]
    have k0 : ¬ n = 0 := by omega
    have k1 : ¬ n = 1 := by omega
    have k2 : ¬ n = 2 := by omega
    have k3 : ¬ n = 3 := by omega
    have k4 : ¬ n = 4 := by omega
    have k5 : ¬ n = 5 := by omega
    have k6 : ¬ n = 6 := by omega
    have k7 : ¬ n = 7 := by omega
    have k8 : ¬ n = 8 := by omega
    have k9 : ¬ n = 9 := by omega
    have k10 : ¬ n = 10 := by omega
    have k11 : ¬ n = 11 := by omega
    have k12 : ¬ n = 12 := by omega
    have k13 : ¬ n = 13 := by omega
    go_enter Tryd.func14, Tryd.ntmps14
    go_wp2_with fail
    go_ret
    exact ⟨rfl, (Below.refl _ _).alloc (Nat.le_refl _) _⟩
  · have e0 : reasonOf n = ⟨#[63]⟩ := by unfold reasonOf; rw [if_pos (by omega)]
    rw [e0]
    have hn2 : ¬ n < 0 := by omega
    have hn3 : 14 ≤ n := by omega
    have k0 : ¬ n = 0 := by omega
    have k1 : ¬ n = 1 := by omega
    have k2 : ¬ n = 2 := by omega
    have k3 : ¬ n = 3 := by omega
    have k4 : ¬ n = 4 := by omega
    have k5 : ¬ n = 5 := by omega
    have k6 : ¬ n = 6 := by omega
    have k7 : ¬ n = 7 := by omega
    have k8 : ¬ n = 8 := by omega
    have k9 : ¬ n = 9 := by omega
    have k10 : ¬ n = 10 := by omega
    have k11 : ¬ n = 11 := by omega
    have k12 : ¬ n = 12 := by omega
    have k13 : ¬ n = 13 := by omega
    go_enter Tryd.func14, Tryd.ntmps14
    go_wp2_with fail
    go_ret
    exact ⟨rfl, (Below.refl _ _).alloc (Nat.le_refl _) _⟩
  · subst hn
    rw [show reasonOf 0 = ⟨#[97, 99, 99, 101, 112, 116]⟩ by decide +kernel]
    go_enter Tryd.func14, Tryd.ntmps14
    go_wp2_with fail
    go_ret
    exact ⟨rfl, (Below.refl _ _).alloc (Nat.le_refl _) _⟩
  · subst hn
    rw [show reasonOf 1 = ⟨#[107, 105, 110, 100]⟩ by decide +kernel]
    go_enter Tryd.func14, Tryd.ntmps14
    go_wp2_with fail
    go_ret
    exact ⟨rfl, (Below.refl _ _).alloc (Nat.le_refl _) _⟩
  · subst hn
    rw [show reasonOf 2 = ⟨#[118, 97, 108, 117, 101]⟩ by decide +kernel]
    go_enter Tryd.func14, Tryd.ntmps14
    go_wp2_with fail
    go_ret
    exact ⟨rfl, (Below.refl _ _).alloc (Nat.le_refl _) _⟩
  · subst hn
    rw [show reasonOf 3 = ⟨#[110, 111, 32, 97, 99, 99, 111, 117, 110, 116]⟩ by decide +kernel]
    go_enter Tryd.func14, Tryd.ntmps14
    go_wp2_with fail
    go_ret
    exact ⟨rfl, (Below.refl _ _).alloc (Nat.le_refl _) _⟩
  · subst hn
    rw [show reasonOf 4 = ⟨#[97, 99, 99, 111, 117, 110, 116, 32, 116, 104, 101, 114, 101]⟩ by decide +kernel]
    go_enter Tryd.func14, Tryd.ntmps14
    go_wp2_with fail
    go_ret
    exact ⟨rfl, (Below.refl _ _).alloc (Nat.le_refl _) _⟩
  · subst hn
    rw [show reasonOf 5 = ⟨#[111, 114, 100, 101, 114, 32, 116, 104, 101, 114, 101]⟩ by decide +kernel]
    go_enter Tryd.func14, Tryd.ntmps14
    go_wp2_with fail
    go_ret
    exact ⟨rfl, (Below.refl _ _).alloc (Nat.le_refl _) _⟩
  · subst hn
    rw [show reasonOf 6 = ⟨#[110, 111, 32, 111, 114, 100, 101, 114]⟩ by decide +kernel]
    go_enter Tryd.func14, Tryd.ntmps14
    go_wp2_with fail
    go_ret
    exact ⟨rfl, (Below.refl _ _).alloc (Nat.le_refl _) _⟩
  · subst hn
    rw [show reasonOf 7 = ⟨#[110, 111, 32, 112, 114, 105, 99, 101]⟩ by decide +kernel]
    go_enter Tryd.func14, Tryd.ntmps14
    go_wp2_with fail
    go_ret
    exact ⟨rfl, (Below.refl _ _).alloc (Nat.le_refl _) _⟩
  · subst hn
    rw [show reasonOf 8 = ⟨#[102, 117, 108, 108]⟩ by decide +kernel]
    go_enter Tryd.func14, Tryd.ntmps14
    go_wp2_with fail
    go_ret
    exact ⟨rfl, (Below.refl _ _).alloc (Nat.le_refl _) _⟩
  · subst hn
    rw [show reasonOf 9 = ⟨#[111, 114, 100, 101, 114, 32, 116, 111, 111, 32, 103, 114, 101, 97, 116]⟩ by decide +kernel]
    go_enter Tryd.func14, Tryd.ntmps14
    go_wp2_with fail
    go_ret
    exact ⟨rfl, (Below.refl _ _).alloc (Nat.le_refl _) _⟩
  · subst hn
    rw [show reasonOf 10 = ⟨#[112, 111, 115, 105, 116, 105, 111, 110, 32, 116, 111, 111, 32, 103, 114, 101, 97, 116]⟩ by decide +kernel]
    go_enter Tryd.func14, Tryd.ntmps14
    go_wp2_with fail
    go_ret
    exact ⟨rfl, (Below.refl _ _).alloc (Nat.le_refl _) _⟩
  · subst hn
    rw [show reasonOf 11 = ⟨#[109, 97, 114, 103, 105, 110]⟩ by decide +kernel]
    go_enter Tryd.func14, Tryd.ntmps14
    go_wp2_with fail
    go_ret
    exact ⟨rfl, (Below.refl _ _).alloc (Nat.le_refl _) _⟩
  · subst hn
    rw [show reasonOf 12 = ⟨#[111, 118, 101, 114, 102, 108, 111, 119]⟩ by decide +kernel]
    go_enter Tryd.func14, Tryd.ntmps14
    go_wp2_with fail
    go_ret
    exact ⟨rfl, (Below.refl _ _).alloc (Nat.le_refl _) _⟩
  · subst hn
    rw [show reasonOf 13 = ⟨#[117, 110, 97, 118, 97, 105, 108, 97, 98, 108, 101]⟩ by decide +kernel]
    go_enter Tryd.func14, Tryd.ntmps14
    go_wp2_with fail
    go_ret
    exact ⟨rfl, (Below.refl _ _).alloc (Nat.le_refl _) _⟩

set_option maxRecDepth 100000 in
set_option maxHeartbeats 1000000 in
theorem alive06 (w : World) (hT : Hid (Tabs w)) : Calls Tryd.prog 10 #[] w fun e w' => e = .returned (.bool true) ∧ Below w.heap.size w w' := by
  have hP := Lib.hid (show ∀ w, Calls Tryd.prog 25 #[.agg #[.int .i64 0, .int .i64 0, .int .i64 0, .int .i64 0, .int .i64 0, .int .i64 0, .int .i64 0]] w _ from fun w => Put_any (fun _ => 0) w (by intro i _; unfold I64; omega))
  rw [show putStr (fun _ => 0) 7 = ⟨#[0, 0, 0, 0, 0, 0, 0]⟩ by decide +kernel] at hP
  go_enter Tryd.func10, Tryd.ntmps10
  go_wp2_with fail
  refine (hP.out _).mono ?_
  rintro e w1 ⟨rfl, hb⟩
  have HT1 := Lib.hid (hT.out.below hb); have HB1 := Lib.hid hb; clear hb
  go_wp2_with fail
  refine (Name_any _ _ HT1).mono ?_
  rintro e w2 ⟨rfl, hb⟩
  have HT2 := Lib.hid (HT1.out.below hb); have HB2 := Lib.hid (below_to HB1.out hb); clear hb
  rw [show nameOf 4 = ⟨#[111, 114, 100, 101, 114]⟩ by decide +kernel]
  go_wp2_with fail
  refine (Reason_any _ _ HT2).mono ?_
  rintro e w3 ⟨rfl, hb⟩
  have HB3 := Lib.hid (below_to HB2.out hb); clear hb
  rw [show reasonOf 11 = ⟨#[109, 97, 114, 103, 105, 110]⟩ by decide +kernel]
  go_wp2_with fail
  go_ret
  exact ⟨rfl, HB3.out⟩

set_option maxRecDepth 100000 in
set_option maxHeartbeats 1000000 in
theorem EventNames_walk (n : Int) (w : World) (hT : Tabs w) : Calls Tryd.prog 3 #[.int .i64 n] w fun e w' => e = .returned (.bool true) ∧ Below w.heap.size w w' := by
  have HT := Lib.hid hT; clear hT
  have b1 : ((nameOf n).toList == (nameOf n).toList) = true := by simp
  have b2 : ((reasonOf n).toList == (reasonOf n).toList) = true := by simp
  go_enter Tryd.func3, Tryd.ntmps3
  go_wp2_with fail
  refine (alive06 _ HT).mono ?_
  rintro e w1 ⟨rfl, hb⟩
  have HT1 := Lib.hid (HT.out.below hb); have HB1 := Lib.hid hb; clear hb
  go_wp2_with fail
  refine (Name_any _ _ HT1).mono ?_
  rintro e w2 ⟨rfl, hb⟩
  have HT2 := Lib.hid (HT1.out.below hb); have HB2 := Lib.hid (below_to HB1.out hb); clear hb
  go_wp2_with fail
  refine (refName_any _ _).mono ?_
  rintro e w3 ⟨rfl, hb⟩
  have HT3 := Lib.hid (HT2.out.below hb); have HB3 := Lib.hid (below_to HB2.out hb); clear hb
  go_wp2_with fail
  refine (Reason_any _ _ HT3).mono ?_
  rintro e w4 ⟨rfl, hb⟩
  have HB4 := Lib.hid (below_to HB3.out hb); clear hb
  go_wp2_with fail
  refine (refReason_any _ _).mono ?_
  rintro e w5 ⟨rfl, hb⟩
  have HB5 := Lib.hid (below_to HB4.out hb); clear hb
  go_wp2_with fail
  go_ret
  exact ⟨rfl, HB5.out⟩
end Go.Proofs.YtgjehokkmdbknaaDoor
