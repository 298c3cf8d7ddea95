/- The clash, plain; clash's hashed, link, chain, right, down. -/
import Derived.Test.YtaigngdlioplaaaDoorTreeF
import Derived.Test.YtaigngdlioplaaaDoorNumsLaws
import Derived.Test.YtaigngdlioplaaaDoorTreeH
namespace Go.Proofs.YtaigngdlioplaaaDoor
section
open Go Go.RowKit
set_option linter.unusedVariables false

theorem app_inj {a b c d : ByteArray} (h : a ++ b = c ++ d) (hs : a.size = c.size) : a = c ∧ b = d := by
  have hl : a.data.toList ++ b.data.toList = c.data.toList ++ d.data.toList := by
    have := congrArg (fun x : ByteArray => x.data.toList) h
    simpa [ByteArray.data_append] using this
  obtain ⟨h1, h2⟩ := List.append_inj hl (by simpa using hs)
  exact ⟨ByteArray.ext (Array.toList_inj.1 h1), ByteArray.ext (Array.toList_inj.1 h2)⟩
theorem cutM_size (K : Nat → Int) (H : St) (s : ByteArray) (m : Nat) (h : 1 ≤ m ∧ m ≤ 32) : (cutS K H s m).size = m := by
  rw [cut_in K H s m h, ByteArray.size_extract, sumS_size]; omega
theorem rootM_size (K : Nat → Int) (H : St) (m : Nat) (h : 1 ≤ m ∧ m ≤ 32) (l : List ByteArray) : (rootS K H m l).size = m := by
  rw [rootS]
  split
  · exact cutM_size K H _ m h
  · split
    · exact cutM_size K H _ m h
    · exact cutM_size K H _ m h

/-- What is hashed for a root. -/
def hashedS (K : Nat → Int) (H : St) (n : Int) (l : List ByteArray) : ByteArray :=
  if h0 : l.length = 0 then ⟨#[]⟩ else if h1 : l.length = 1 then ⟨#[0]⟩ ++ (l[0]'(by omega)) else (⟨#[1]⟩ ++ rootS K H n (l.take (splitN l.length))) ++ rootS K H n (l.drop (splitN l.length))
section
variable (K : Nat → Int) (H : St) (n : Int)
theorem hashedS_nil (l : List ByteArray) (h : l.length = 0) : hashedS K H n l = ⟨#[]⟩ := by unfold hashedS; rw [dif_pos h]
theorem hashedS_one (l : List ByteArray) (h : l.length = 1) : hashedS K H n l = ⟨#[0]⟩ ++ (l[0]'(by omega)) := by unfold hashedS; rw [dif_neg (by omega), dif_pos h]
theorem hashedS_two (l : List ByteArray) (h : 2 ≤ l.length) : hashedS K H n l = (⟨#[1]⟩ ++ rootS K H n (l.take (splitN l.length))) ++ rootS K H n (l.drop (splitN l.length)) := by unfold hashedS; rw [dif_neg (by omega), dif_neg (by omega)]
theorem root_hashed (l : List ByteArray) : rootS K H n l = cutS K H (hashedS K H n l) n := by
  by_cases h0 : l.length = 0
  · rw [rootS_nil K H n l h0, hashedS_nil K H n l h0]
  · by_cases h1 : l.length = 1
    · rw [rootS_one K H n l h1, hashedS_one K H n l h1]; rfl
    · rw [rootS_two K H n l (by omega), hashedS_two K H n l (by omega)]; rfl
theorem hashedS_le (l : List ByteArray) (hF : Fine l) : (hashedS K H n l).size ≤ 500 := by
  by_cases h0 : l.length = 0
  · rw [hashedS_nil K H n l h0]; decide
  · by_cases h1 : l.length = 1
    · rw [hashedS_one K H n l h1, mark_size]
      have := hF 0 _ (List.getElem?_eq_getElem (by omega))
      omega
    · rw [hashedS_two K H n l (by omega), ByteArray.size_append, mark_size]
      have := rootS_le K H n (l.take (splitN l.length))
      have := rootS_le K H n (l.drop (splitN l.length))
      omega
theorem hashed_two {a b : List ByteArray} (hl : a.length = b.length) (hne : ¬ a = b) (he : hashedS K H n a = hashedS K H n b) : 2 ≤ a.length := by
  refine Classical.byContradiction fun h2 => hne ?_
  by_cases h0 : a.length = 0
  · have hb0 : b.length = 0 := by omega
    rw [List.length_eq_zero_iff.1 h0, List.length_eq_zero_iff.1 hb0]
  · have h1 : a.length = 1 := by omega
    rw [hashedS_one K H n a h1, hashedS_one K H n b (by omega)] at he
    have := (app_inj he rfl).2
    match a, b, h1, hl with
    | [x], [y], _, _ => simpa using this

/-- The clash of two rows that have one root. -/
def downS (a b : List ByteArray) : ByteArray × ByteArray :=
  if h : hashedS K H n a = hashedS K H n b ∧ 2 ≤ a.length then
    (if a.take (splitN a.length) = b.take (splitN a.length) then downS (a.drop (splitN a.length)) (b.drop (splitN a.length)) else downS (a.take (splitN a.length)) (b.take (splitN a.length)))
  else (hashedS K H n a, hashedS K H n b)
termination_by a.length
decreasing_by
  · have := splitN_lt a.length h.2
    rw [List.length_drop]; omega
  · have := splitN_lt a.length h.2
    rw [List.length_take]; omega
theorem downS_stop {a b : List ByteArray} (h : ¬ hashedS K H n a = hashedS K H n b) : downS K H n a b = (hashedS K H n a, hashedS K H n b) := by
  rw [downS, dif_neg (fun x => h x.1)]
theorem downS_left {a b : List ByteArray} (h : hashedS K H n a = hashedS K H n b) (h2 : 2 ≤ a.length) (ht : ¬ a.take (splitN a.length) = b.take (splitN a.length)) : downS K H n a b = downS K H n (a.take (splitN a.length)) (b.take (splitN a.length)) := by
  rw [downS, dif_pos ⟨h, h2⟩, if_neg ht]
theorem downS_right {a b : List ByteArray} (h : hashedS K H n a = hashedS K H n b) (h2 : 2 ≤ a.length) (ht : a.take (splitN a.length) = b.take (splitN a.length)) : downS K H n a b = downS K H n (a.drop (splitN a.length)) (b.drop (splitN a.length)) := by
  rw [downS, dif_pos ⟨h, h2⟩, if_pos ht]
theorem drop_ne {a b : List ByteArray} {k : Nat} (hne : ¬ a = b) (ht : a.take k = b.take k) : ¬ a.drop k = b.drop k := fun hd => hne (by rw [← List.take_append_drop k a, ← List.take_append_drop k b, ht, hd])
theorem downS_le : ∀ (k : Nat) (a b : List ByteArray), a.length = k → Fine a → Fine b → (downS K H n a b).1.size ≤ 500 ∧ (downS K H n a b).2.size ≤ 500 := by
  intro k
  induction k using Nat.strongRecOn with
  | _ k ih =>
    intro a b hk ha hb
    by_cases h : hashedS K H n a = hashedS K H n b ∧ 2 ≤ a.length
    · have hs := splitN_lt a.length h.2
      by_cases ht : a.take (splitN a.length) = b.take (splitN a.length)
      · rw [downS_right K H n h.1 h.2 ht]
        exact ih (a.length - splitN a.length) (by omega) _ _ (by rw [List.length_drop]) (ha.drop _) (hb.drop _)
      · rw [downS_left K H n h.1 h.2 ht]
        exact ih (splitN a.length) (by omega) _ _ (by rw [List.length_take]; omega) (ha.take _) (hb.take _)
    · rw [downS, dif_neg h]
      exact ⟨hashedS_le K H n a ha, hashedS_le K H n b hb⟩
end
theorem downS_true (K : Nat → Int) (H : St) (m : Nat) (hm : 1 ≤ m ∧ m ≤ 32) : ∀ (k : Nat) (a b : List ByteArray), a.length = k → a.length = b.length → ¬ a = b → rootS K H m a = rootS K H m b →
    ¬ (downS K H m a b).1 = (downS K H m a b).2 ∧ cutS K H (downS K H m a b).1 m = cutS K H (downS K H m a b).2 m := by
  intro k
  induction k using Nat.strongRecOn with
  | _ k ih =>
    intro a b hk hl hne hr
    by_cases h : hashedS K H m a = hashedS K H m b
    · have h2 := hashed_two K H m hl hne h
      have hs := splitN_lt a.length h2
      have hx := h
      rw [hashedS_two K H m a h2, hashedS_two K H m b (by omega)] at hx
      obtain ⟨e1, e2⟩ := app_inj hx (by rw [mark_size, mark_size, rootM_size K H m hm, rootM_size K H m hm])
      have e1 := (app_inj e1 rfl).2
      rw [← hl] at e1 e2
      by_cases ht : a.take (splitN a.length) = b.take (splitN a.length)
      · rw [downS_right K H m h h2 ht]
        exact ih (a.length - splitN a.length) (by omega) _ _ (by rw [List.length_drop]) (by rw [List.length_drop, List.length_drop, hl]) (drop_ne hne ht) e2
      · rw [downS_left K H m h h2 ht]
        exact ih (splitN a.length) (by omega) _ _ (by rw [List.length_take]; omega) (by rw [List.length_take, List.length_take, hl]) ht e1
    · rw [downS_stop K H m h]
      refine ⟨h, ?_⟩
      rw [← root_hashed, ← root_hashed]
      exact hr

/-- A chain's hash, and a text, as they are hashed. -/
def linkS (h s : ByteArray) : ByteArray := rowStr h ++ rowStr s
theorem linkS_le (h s : ByteArray) : (linkS h s).size ≤ 20 + h.size + s.size := by
  unfold linkS
  rw [ByteArray.size_append]
  have := rowStr_size h
  have := rowStr_size s
  omega
theorem row_list (h : ByteArray) : (rowStr h).data.toList = (numStr h.size).data.toList ++ h.data.toList := by
  unfold rowStr; simp [ByteArray.data_append]
theorem row_inj {h h' : ByteArray} {r r' : List UInt8} (hs : h.size < 18446744073709551616) (hs' : h'.size < 18446744073709551616) (he : (rowStr h).data.toList ++ r = (rowStr h').data.toList ++ r') : h = h' ∧ r = r' := by
  rw [row_list, row_list, List.append_assoc, List.append_assoc] at he
  have d1 := dig_numStr h.size hs (h.data.toList ++ r)
  have d2 := dig_numStr h'.size hs' (h'.data.toList ++ r')
  rw [he, d2] at d1
  simp only [Prod.mk.injEq, true_and] at d1
  have hz := d1.1
  rw [hz] at he
  have he2 := List.append_cancel_left he
  obtain ⟨h1, h2⟩ := List.append_inj he2 (by simpa using hz.symm)
  exact ⟨ByteArray.ext (Array.toList_inj.1 h1), h2⟩
theorem linkS_inj {h s h' s' : ByteArray} (h1 : h.size < 18446744073709551616) (h2 : h'.size < 18446744073709551616) (h3 : s.size < 18446744073709551616) (h4 : s'.size < 18446744073709551616) (he : linkS h s = linkS h' s') : h = h' ∧ s = s' := by
  have hl : (rowStr h).data.toList ++ (rowStr s).data.toList = (rowStr h').data.toList ++ (rowStr s').data.toList := by
    have := congrArg (fun x : ByteArray => x.data.toList) he
    simpa [linkS, ByteArray.data_append] using this
  obtain ⟨e1, e2⟩ := row_inj h1 h2 hl
  have e3 := row_inj (r := []) (r' := []) h3 h4 (by simpa using e2)
  exact ⟨e1, e3.1⟩
section
variable (K : Nat → Int) (H : St) (n : Int)
/-- A chain's hash. -/
def chainS (l : List ByteArray) : ByteArray := l.foldl (fun h s => cutS K H (linkS h s) n) (cutS K H ⟨#[]⟩ n)
theorem chainS_nil : chainS K H n [] = cutS K H ⟨#[]⟩ n := rfl
theorem chainS_snoc (l : List ByteArray) (s : ByteArray) : chainS K H n (l ++ [s]) = cutS K H (linkS (chainS K H n l) s) n := by simp [chainS]
theorem chainS_le (l : List ByteArray) : (chainS K H n l).size ≤ 32 := by
  rcases snoc_cases l with rfl | ⟨q, o, rfl⟩
  · exact cutS_le K H _ n
  · rw [chainS_snoc]; exact cutS_le K H _ n
/-- What is hashed behind k texts. -/
def linkAt (l : List ByteArray) (k : Nat) : ByteArray := linkS (chainS K H n (l.take k)) (l.getD k ⟨#[]⟩)
theorem linkAt_get {l : List ByteArray} {k : Nat} {s : ByteArray} (h : l[k]? = some s) : linkAt K H n l k = linkS (chainS K H n (l.take k)) s := by
  unfold linkAt; rw [List.getD_eq_getElem?_getD, h]; rfl
theorem chainS_at {l : List ByteArray} {k : Nat} (h : k < l.length) : chainS K H n (l.take (k + 1)) = cutS K H (linkAt K H n l k) n := by
  rw [List.take_succ_eq_append_getElem h, chainS_snoc, linkAt_get K H n (List.getElem?_eq_getElem h)]
theorem linkAt_take {l : List ByteArray} {j k : Nat} (h : k < j) : linkAt K H n (l.take j) k = linkAt K H n l k := by
  unfold linkAt
  rw [List.take_take, Nat.min_eq_left (by omega), List.getD_eq_getElem?_getD, List.getD_eq_getElem?_getD, List.getElem?_take, if_pos h]
theorem linkAt_le {l : List ByteArray} (hF : Fine l) {k : Nat} : (linkAt K H n l k).size ≤ 500 := by
  unfold linkAt
  have h1 := linkS_le (chainS K H n (l.take k)) (l.getD k ⟨#[]⟩)
  have h2 := chainS_le K H n (l.take k)
  have h3 : (l.getD k ⟨#[]⟩).size ≤ 400 := by
    rw [List.getD_eq_getElem?_getD]
    cases hq : l[k]? with
    | none => decide
    | some s => exact hF k s hq
  omega
/-- The clash of two chains that have one hash. -/
def clashC (a b : List ByteArray) : Nat → ByteArray × ByteArray
  | 0 => (⟨#[]⟩, ⟨#[]⟩)
  | k + 1 => if linkAt K H n a k = linkAt K H n b k then clashC a b k else (linkAt K H n a k, linkAt K H n b k)
theorem clashC_go {a b : List ByteArray} {k : Nat} (h : linkAt K H n a k = linkAt K H n b k) : clashC K H n a b (k + 1) = clashC K H n a b k := by rw [clashC, if_pos h]
theorem clashC_stop {a b : List ByteArray} {k : Nat} (h : ¬ linkAt K H n a k = linkAt K H n b k) : clashC K H n a b (k + 1) = (linkAt K H n a k, linkAt K H n b k) := by rw [clashC, if_neg h]
theorem clashC_take (a b : List ByteArray) (j : Nat) : ∀ k, k ≤ j → clashC K H n (a.take j) (b.take j) k = clashC K H n a b k
  | 0, _ => rfl
  | k + 1, h => by
    rw [clashC, clashC, linkAt_take K H n (by omega), linkAt_take K H n (by omega), clashC_take a b j k (by omega)]
theorem clashC_le {a b : List ByteArray} (ha : Fine a) (hb : Fine b) : ∀ k, (clashC K H n a b k).1.size ≤ 500 ∧ (clashC K H n a b k).2.size ≤ 500
  | 0 => ⟨Nat.zero_le _, Nat.zero_le _⟩
  | k + 1 => by
    rw [clashC]
    split
    · exact clashC_le ha hb k
    · exact ⟨linkAt_le K H n ha, linkAt_le K H n hb⟩
theorem link_step {a b : List ByteArray} (ha : Fine a) (hb : Fine b) {k : Nat} (hka : k < a.length) (hkb : k < b.length) (he : linkAt K H n a k = linkAt K H n b k) (hne : ¬ a.take (k + 1) = b.take (k + 1)) :
    ¬ a.take k = b.take k ∧ chainS K H n (a.take k) = chainS K H n (b.take k) := by
  have g1 := List.getElem?_eq_getElem hka
  have g2 := List.getElem?_eq_getElem hkb
  rw [linkAt_get K H n g1, linkAt_get K H n g2] at he
  have s1 := ha k _ g1
  have s2 := hb k _ g2
  have c1 := chainS_le K H n (a.take k)
  have c2 := chainS_le K H n (b.take k)
  obtain ⟨e1, e2⟩ := linkS_inj (by omega) (by omega) (by omega) (by omega) he
  refine ⟨fun h => hne ?_, e1⟩
  rw [List.take_succ_eq_append_getElem hka, List.take_succ_eq_append_getElem hkb, h, e2]
theorem clashC_true {a b : List ByteArray} (ha : Fine a) (hb : Fine b) (hl : a.length = b.length) : ∀ k, k ≤ a.length → ¬ a.take k = b.take k → chainS K H n (a.take k) = chainS K H n (b.take k) →
    ¬ (clashC K H n a b k).1 = (clashC K H n a b k).2 ∧ cutS K H (clashC K H n a b k).1 n = cutS K H (clashC K H n a b k).2 n
  | 0, _, h, _ => absurd rfl h
  | k + 1, hk, hne, hc => by
    by_cases he : linkAt K H n a k = linkAt K H n b k
    · rw [clashC_go K H n he]
      obtain ⟨h1, h2⟩ := link_step K H n ha hb (by omega) (by omega) he hne
      exact clashC_true ha hb hl k (by omega) h1 h2
    · rw [clashC_stop K H n he]
      refine ⟨he, ?_⟩
      rw [chainS_at K H n (by omega), chainS_at K H n (by omega)] at hc
      exact hc
end
end

section
open Go Go.RowKit
set_option linter.unusedVariables false

set_option maxRecDepth 100000 in
set_option maxHeartbeats 1000000 in
theorem Eq_any (v1 v2 : Value) (l1 l2 : List ByteArray) (w : World) (h1 : Hid (StrsAt w v1 l1)) (h2 : Hid (StrsAt w v2 l2)) (hn1 : l1.length ≤ 9223372036854775807) :
    Calls Tryd.prog 112 #[v1, v2] w fun e w' => e = .returned (.bool (decide (l1 = l2))) ∧ Below w.heap.size w w' := by
  obtain ⟨A1, c1, rfl, _, hi1⟩ := h1.out
  obtain ⟨A2, c2, rfl, _, hi2⟩ := h2.out
  by_cases hl : l1.length = l2.length
  · have H1 := Lib.hid hi1
    have H2 := Lib.hid hi2
    have hext : Hid ((∀ j : Nat, j < l1.length → l1[j]? = l2[j]?) → l1 = l2) := fun hh => by
      apply List.ext_getElem?
      intro i
      by_cases hi : i < l1.length
      · exact hh i hi
      · rw [List.getElem?_eq_none (by omega), List.getElem?_eq_none (by omega)]
    have hne : Hid (∀ (i : Nat) (s t : ByteArray), l1[i]? = some s → l2[i]? = some t → ¬ s = t → ¬ l1 = l2) := fun i s t hs ht hst he => by
      rw [he, ht] at hs
      exact hst (Option.some.inj hs).symm
    have hg1 : Hid (∀ i : Nat, i < l1.length → ∃ s, l1[i]? = some s) := fun i hi => ⟨_, List.getElem?_eq_getElem hi⟩
    have hg2 : Hid (∀ i : Nat, i < l1.length → ∃ s, l2[i]? = some s) := fun i hi => ⟨_, List.getElem?_eq_getElem (by omega)⟩
    rw [← hl]
    clear hi1 hi2 h1 h2
    obtain ⟨n, hn⟩ : ∃ n, l1.length = n := ⟨_, rfl⟩
    rw [hn] at hext hg1 hg2 hn1 ⊢
    obtain ⟨D, hD⟩ : ∃ D, decide (l1 = l2) = D := ⟨_, rfl⟩
    rw [hD]
    have HD := Lib.hid hD
    clear hl hn hD
    go_enter Tryd.func112, Tryd.ntmps112
    go_wp2_with fail
    go_loopw [13] (fun iv wr => ∃ i : Nat, iv = .int .i64 i ∧ Hid (i ≤ n) ∧ Hid (∀ j, j < i → l1[j]? = l2[j]?) ∧ Hid (∃ d, wr = w.drewN d)) (fun iv _ => n - (intOf iv).toNat)
    case atStart => exact ⟨0, rfl, Nat.zero_le _, fun j hj => by omega, ⟨0, rfl⟩⟩
    case round =>
      obtain ⟨i, rfl, hi, hj, hd⟩ := hrel
      obtain ⟨d, rfl⟩ := hd.out
      have hi2 := hi.out
      by_cases hlt : i < n
      · obtain ⟨s, hs⟩ := hg1.out i hlt
        obtain ⟨t, ht⟩ := hg2.out i hlt
        obtain ⟨b1, o1, rfl, hb1, k1⟩ := H1.out i s hs
        obtain ⟨b2, o2, rfl, hb2, k2⟩ := H2.out i t ht
        have HS := Lib.hid hs
        have HT := Lib.hid ht
        clear hs ht hi
        by_cases hst : s = t
        · have hbq : (s.toList == t.toList) = true := by rw [hst]; simp
          have hbn : (s.toList != t.toList) = false := by rw [hst]; simp
          have hjn : Hid (∀ j, j < i + 1 → l1[j]? = l2[j]?) := fun j hj2 => by
            by_cases hji : j < i
            · exact hj.out j hji
            · obtain rfl : j = i := by omega
              rw [HS.out, HT.out, hst]
          clear hst hj
          go_wp2_with fail
          go_quiet (fail)
          go_wp2_with fail
          go_roundw
          case rel => exact ⟨i + 1, by go_num, by show _ ≤ _; omega, hjn, ⟨_, rfl⟩⟩
          case measure => simp [intOf]; omega
        · have hbq : (s.toList == t.toList) = false := strs_ne hst
          have hbn : (s.toList != t.toList) = true := by rw [bne, hbq]; rfl
          have hDf : D = false := by rw [← HD.out]; exact decide_eq_false (hne.out i s t HS.out HT.out hst)
          subst hDf
          clear hj
          go_wp2_with fail
          go_quiet (fail)
          go_wp2_with fail
          go_ret
          exact ⟨rfl, below_drewN (below_drewN (Below.refl _ _) _) _⟩
      · have hin : i = n := by omega
        subst hin
        have hDt : D = true := by rw [← HD.out]; exact decide_eq_true (hext.out hj.out)
        subst hDt
        clear hj hi
        go_wp2_with fail
        go_ret
        exact ⟨rfl, below_drewN (Below.refl _ _) _⟩
  · rw [decide_eq_false (show ¬ l1 = l2 from fun h => hl (by rw [h]))]
    have t1 : ((l1.length : Int) != (l2.length : Int)) = true := by simp; omega
    clear hi1 hi2 h1 h2 hl
    generalize l1.length = n1 at *
    generalize l2.length = n2 at *
    go_enter Tryd.func112, Tryd.ntmps112
    go_wp2_with fail
    go_ret
    exact ⟨rfl, Below.refl _ _⟩

theorem Root_in (K : Nat → Int) (H : St) (m : Nat) (hm : Hid (1 ≤ m ∧ m ≤ 32)) (l : List ByteArray) (v : Value) (w : World) (hT : Hid (ShaT w K H)) (hv : Hid (StrsAt w v l)) (hF : Hid (Fine l)) (hl : l.length ≤ 4096) :
    Calls Tryd.prog 34 #[v, .int .i64 m] w fun e w' => e = .returned (.tuple #[.string (rootS K H m l), .int .i64 0]) ∧ Below w.heap.size w w' := by
  have hm2 := hm.out
  have h := Root_any K H m l v w (by show I64 _; unfold I64; omega) hT hv (fun _ => hF) (by omega)
  have e1 : rightE l.length m = 0 := by unfold rightE; rw [if_neg (by omega), if_neg (by omega)]
  unfold rootV at h
  rw [e1, if_pos rfl] at h
  exact h

set_option maxRecDepth 100000 in
set_option maxHeartbeats 1000000 in
theorem hashed_any (K : Nat → Int) (H : St) (m : Nat) (hm : Hid (1 ≤ m ∧ m ≤ 32)) (l : List ByteArray) (v : Value) (w : World) (hT : Hid (ShaT w K H)) (hv : Hid (StrsAt w v l)) (hF : Hid (Fine l)) (hl4 : l.length ≤ 4096) :
    Calls Tryd.prog 114 #[v, .int .i64 m] w fun e w' => e = .returned (.string (hashedS K H m l)) ∧ Below w.heap.size w w' := by
  by_cases h0 : l.length = 0
  · rw [hashedS_nil K H m l h0]
    obtain ⟨A, c, rfl, hc, hi⟩ := hv.out
    rw [h0]
    clear hi hv hF
    go_enter Tryd.func114, Tryd.ntmps114
    go_wp2_with fail
    go_ret
    exact ⟨rfl, Below.refl _ _⟩
  by_cases h1 : l.length = 1
  · rw [hashedS_one K H m l h1]
    obtain ⟨A, c, rfl, hc, hi⟩ := hv.out
    have e0 : l[0]? = some (l[0]'(by omega)) := List.getElem?_eq_getElem _
    obtain ⟨b, o, rfl, hb, hcell⟩ := hi 0 _ e0
    have hz := hF.out 0 _ e0
    rw [Nat.add_zero] at hcell
    generalize l[0]'(by omega) = s at *
    rw [h1]
    clear hi hv hF e0 h0
    go_enter Tryd.func114, Tryd.ntmps114
    go_wp2_with fail
    go_ret
    exact ⟨rfl, Below.refl _ _⟩
  have h2 : 2 ≤ l.length := by omega
  have hs := splitN_lt l.length h2
  rw [hashedS_two K H m l h2]
  have q1 := Lib.hid (fun w => Split_any (l.length : Nat) w (by show _ ∧ _; omega))
  rw [show splitI (l.length : Nat) = (splitN l.length : Nat) by unfold splitI; rw [if_neg (by omega), Int.toNat_natCast]] at q1
  have t0 : ((l.length : Int) == 0) = false := by rw [beq_eq_false_iff_ne]; omega
  have t1 : ((l.length : Int) == 1) = false := by rw [beq_eq_false_iff_ne]; omega
  generalize hK : splitN l.length = d at *
  obtain ⟨A, c, rfl, hc, hi⟩ := hv.out
  obtain ⟨s0, hs0⟩ : ∃ s0, l[0]? = some s0 := ⟨l[0], List.getElem?_eq_getElem (by omega)⟩
  obtain ⟨b, o, rfl, _, _⟩ := hi 0 s0 hs0
  have z1 := rootS_le K H m (l.take d)
  have z2 := rootS_le K H m (l.drop d)
  obtain ⟨hd1, hd2⟩ := hs
  have q2 := Lib.hid (fun w hT hv => Root_in K H m hm (l.take d) (.slice (some ⟨b, o, none⟩) d c) w hT hv (Lib.hid (hF.out.take d)) (by rw [List.length_take]; omega))
  have q3 := Lib.hid (fun w hT hv => Root_in K H m hm (l.drop d) (.slice (some ⟨b, o + d, none⟩) (l.length - d) (c - d)) w hT hv (Lib.hid (hF.out.drop d)) (by rw [List.length_drop]; omega))
  have hv1 : Hid (StrsAt w (.slice (some ⟨b, o, none⟩) d c) (l.take d)) := hv.out.head d (by omega)
  have hv2 : Hid (StrsAt w (.slice (some ⟨b, o + d, none⟩) (l.length - d) (c - d)) (l.drop d)) := hv.out.drop d (by omega)
  clear hi hv hF hK hs0 h2 h0 h1
  generalize rootS K H m (l.take d) = S1 at *
  generalize rootS K H m (l.drop d) = S2 at *
  generalize l.length = n at *
  go_enter Tryd.func114, Tryd.ntmps114
  go_wp2_with fail
  refine (q1.out _).mono ?_
  rintro e w2 ⟨rfl, rfl⟩
  go_wp2_with fail
  with_reducible refine (q2.out _ hT hv1).mono ?_
  rintro e w3 ⟨rfl, hb⟩
  have HB3 := Lib.hid hb
  have hT3 := Lib.hid (hT.out.call hb)
  have hv3 := Lib.hid (hv2.out.call hb)
  clear hb
  go_wp2_with fail
  with_reducible refine (q3.out _ hT3 hv3).mono ?_
  rintro e w4 ⟨rfl, hb⟩
  have HB4 := Lib.hid (HB3.out.trans (hb.mono HB3.out.size))
  clear hb
  go_wp2_with fail
  go_ret
  exact ⟨rfl, HB4.out⟩

set_option maxRecDepth 100000 in
theorem link_any (h s : ByteArray) (w : World) (h1 : Hid (h.size ≤ 1000000)) (h2 : Hid (s.size ≤ 1000000)) :
    Calls Tryd.prog 90 #[.string h, .string s] w fun e w' => e = .returned (.string (linkS h s)) ∧ Below w.heap.size w w' := by
  have q1 := Lib.hid (fun w => Row_any h w (by have := h1.out; show _ ≤ _; omega))
  have q2 := Lib.hid (fun w => Row_any s w (by have := h2.out; show _ ≤ _; omega))
  have z1 := rowStr_size h
  have z2 := rowStr_size s
  have z3 : h.size ≤ 1000000 := h1.out
  have z4 : s.size ≤ 1000000 := h2.out
  have e1 : Hid (rowStr h ++ rowStr s = linkS h s) := rfl
  have z5 : (rowStr h).size ≤ 1000010 := by omega
  have z6 : (rowStr s).size ≤ 1000010 := by omega
  generalize linkS h s = L at *
  generalize rowStr h = a at *
  generalize rowStr s = b at *
  clear z1 z2
  go_enter Tryd.func90, Tryd.ntmps90
  go_wp2_with fail
  refine (q1.out _).mono ?_
  rintro e w1 ⟨rfl, hb⟩
  have HB1 := Lib.hid hb
  clear hb
  go_wp2_with fail
  refine (q2.out _).mono ?_
  rintro e w2 ⟨rfl, hb⟩
  have HB2 := Lib.hid (HB1.out.trans (hb.mono HB1.out.size))
  clear hb
  go_wp2_with fail
  go_ret
  exact ⟨by rw [← e1.out]; rfl, HB2.out⟩
end

section
open Go Go.RowKit
set_option linter.unusedVariables false

theorem Cut_m (K : Nat → Int) (H : St) (s : ByteArray) (m : Nat) (w : World) (hT : Hid (ShaT w K H)) (hs : Hid (s.size ≤ 1000000)) (hm : Hid (1 ≤ m ∧ m ≤ 32)) :
    Calls Tryd.prog 67 #[.string s, .int .i64 m] w fun e w' => e = .returned (.tuple #[.string (cutS K H s m), .int .i64 0]) ∧ Below w.heap.size w w' := by
  have hm2 := hm.out
  have h := Cut_any K H s m w hT (by have := hs.out; show _ ≤ _; omega) (by show I64 _; unfold I64; omega)
  rw [if_neg (by omega)] at h
  exact h

set_option maxRecDepth 100000 in
set_option maxHeartbeats 1000000 in
theorem chain_any (K : Nat → Int) (H : St) (m : Nat) (hm : Hid (1 ≤ m ∧ m ≤ 32)) (l : List ByteArray) (v : Value) (w : World) (hT : Hid (ShaT w K H)) (hv : Hid (StrsAt w v l)) (hF : Hid (Fine l)) (hl4 : l.length ≤ 4096) :
    Calls Tryd.prog 88 #[v, .int .i64 m] w fun e w' => e = .returned (.string (chainS K H m l)) ∧ Below w.heap.size w w' := by
  have q0 := Lib.hid (fun w hT => Cut_m K H ⟨#[]⟩ m w hT (by show _ ≤ _; decide) hm)
  have qc := Lib.hid (fun s w hT hs => Cut_m K H s m w hT hs hm)
  have ql := Lib.hid (fun h s w h1 h2 => link_any h s w h1 h2)
  have e0 : Hid (chainS K H m (l.take 0) = cutS K H ⟨#[]⟩ m) := rfl
  obtain ⟨A, c, rfl, hc, _⟩ := hv.out
  go_enter Tryd.func88, Tryd.ntmps88
  go_wp2_with fail
  refine (q0.out _ hT).mono ?_
  rintro e w1 ⟨rfl, hb⟩
  have HB1 := Lib.hid hb
  have hT1 := Lib.hid (hT.out.call hb)
  have hv1 := Lib.hid (hv.out.call hb)
  clear hb
  rw [← e0.out]
  clear q0 e0
  go_wp2_with fail
  go_loopw [5, 16] (fun s5 s16 wr => ∃ k : Nat, s5 = .string (chainS K H m (l.take k)) ∧ s16 = .int .i64 k ∧ Hid (k ≤ l.length) ∧ Hid (ShaT wr K H) ∧ Hid (StrsAt wr (.slice A l.length c) l) ∧ Hid (Below w.heap.size w wr)) (fun _ s16 _ => l.length - (intOf s16).toNat)
  case atStart => exact ⟨0, rfl, rfl, Nat.zero_le _, hT1.out, hv1.out, HB1.out⟩
  case round =>
    obtain ⟨k, rfl, rfl, hk, hTr, hvr, hB⟩ := hrel
    by_cases hkl : k < l.length
    · obtain ⟨A', c', hA', _, hci⟩ := hvr.out
      cases hA'
      have hge : l[k]? = some l[k] := List.getElem?_eq_getElem hkl
      obtain ⟨b, o, rfl, hbl, hck⟩ := hci k _ hge
      have hz := hF.out k _ hge
      have hst : Hid (chainS K H m (l.take (k + 1)) = cutS K H (linkS (chainS K H m (l.take k)) l[k]) m) := by
        show _ = _
        rw [List.take_succ_eq_append_getElem hkl, chainS_snoc]
      have zc := chainS_le K H m (l.take k)
      clear hci hge
      generalize l[k] = s at *
      generalize chainS K H m (l.take k) = C at *
      have zl := linkS_le C s
      have q1 := Lib.hid (fun w => ql.out C s w (by show _ ≤ _; omega) (by show _ ≤ _; omega))
      have q2 := Lib.hid (fun w hT => qc.out (linkS C s) w hT (by show _ ≤ _; omega))
      clear zl
      generalize linkS C s = L at *
      go_wp2_with fail
      refine (q1.out _).mono ?_
      rintro e w2 ⟨rfl, hb⟩
      have HB2 := Lib.hid (hB.out.trans (hb.mono hB.out.size))
      have hT2 := Lib.hid (hTr.out.call hb)
      have hv2 := Lib.hid (hvr.out.call hb)
      clear hb hck hTr hvr
      go_wp2_with fail
      refine (q2.out _ hT2).mono ?_
      rintro e w3 ⟨rfl, hb⟩
      have HB3 := Lib.hid (HB2.out.trans (hb.mono HB2.out.size))
      have hT3 := Lib.hid (hT2.out.call hb)
      have hv3 := Lib.hid (hv2.out.call hb)
      clear hb hT2 hv2
      go_wp2_with fail
      go_roundw
      case rel => exact ⟨k + 1, by rw [hst.out], by go_num, by show _ ≤ _; omega, hT3.out, hv3.out, HB3.out⟩
      case measure => simp [intOf]; omega
    · have hkk : k = l.length := by have := hk.out; omega
      subst hkk
      rw [List.take_length]
      go_wp2_with fail
      go_ret
      exact ⟨rfl, hB.out⟩

def rightC (n : Int) (k1 k2 : Nat) : Int := if n < 1 ∨ 32 < n then 1 else if 4096 < k1 ∨ 4096 < k2 then 4 else 0
set_option maxRecDepth 100000 in
set_option maxHeartbeats 1000000 in
theorem cright_any (n : Int) (A1 A2 : Option Addr) (k1 c1 k2 c2 g : Nat) (w : World) (h1 : w.cell? ⟨g, 0, none⟩ = some (.slice A1 k1 c1)) (h2 : w.cell? ⟨g, 1, none⟩ = some (.slice A2 k2 c2)) (hk1 : k1 ≤ 9223372036854775807) (hk2 : k2 ≤ 9223372036854775807) :
    Calls Tryd.prog 111 #[.int .i64 n, .int .i64 4096, .slice (some ⟨g, 0, none⟩) 2 2] w fun e w' => e = .returned (.int .i64 (rightC n k1 k2)) ∧ w = w' := by
  by_cases h3 : n < 1
  · rw [show rightC n k1 k2 = 1 by unfold rightC; rw [if_pos (Or.inl h3)]]
    go_enter Tryd.func111, Tryd.ntmps111
    go_wp2_with fail
    go_ret
    exact ⟨rfl, rfl⟩
  by_cases h4 : 32 < n
  · rw [show rightC n k1 k2 = 1 by unfold rightC; rw [if_pos (Or.inr h4)]]
    go_enter Tryd.func111, Tryd.ntmps111
    go_wp2_with fail
    go_ret
    exact ⟨rfl, rfl⟩
  have hr : Hid (rightC n k1 k2 = if 4096 < k1 ∨ 4096 < k2 then 4 else 0) := by show _ = _; unfold rightC; rw [if_neg (by omega)]
  generalize rightC n k1 k2 = R at *
  go_enter Tryd.func111, Tryd.ntmps111
  go_wp2_with fail
  go_loopw [17] (fun s17 wr => ∃ i : Nat, s17 = .int .i64 i ∧ Hid (i ≤ 2) ∧ Hid (1 ≤ i → ¬ 4096 < k1) ∧ Hid (2 ≤ i → ¬ 4096 < k2) ∧ w = wr) (fun s17 _ => 2 - (intOf s17).toNat)
  case atStart => exact ⟨0, rfl, by show _ ≤ _; omega, fun h => by omega, fun h => by omega, rfl⟩
  case round =>
    obtain ⟨i, rfl, hi, ha, hb, rfl⟩ := hrel
    have hi3 : i = 0 ∨ i = 1 ∨ i = 2 := by have := hi.out; omega
    rcases hi3 with rfl | rfl | rfl
    · by_cases h5 : 4096 < k1
      · have hR : Hid (R = 4) := hr.out.trans (if_pos (Or.inl h5))
        have t1 : decide ((4096 : Int) < (k1 : Int)) = true := decide_eq_true (by omega)
        clear hr h5 ha hb hi
        go_wp2_with fail
        go_ret
        exact ⟨by rw [hR.out]; rfl, rfl⟩
      · have t1 : decide ((4096 : Int) < (k1 : Int)) = false := decide_eq_false (by omega)
        have h5 := Lib.hid h5
        clear ha hb hi
        go_wp2_with fail
        go_roundw
        case rel => exact ⟨1, rfl, by show _ ≤ _; omega, fun _ => h5.out, fun h => by omega, trivial⟩
        case measure => simp [intOf]
    · by_cases h5 : 4096 < k2
      · have hR : Hid (R = 4) := hr.out.trans (if_pos (Or.inr h5))
        have t1 : decide ((4096 : Int) < (k2 : Int)) = true := decide_eq_true (by omega)
        clear hr h5 ha hb hi
        go_wp2_with fail
        go_ret
        exact ⟨by rw [hR.out]; rfl, rfl⟩
      · have t1 : decide ((4096 : Int) < (k2 : Int)) = false := decide_eq_false (by omega)
        have h5 := Lib.hid h5
        have h6 := Lib.hid (ha.out (Nat.le_refl _))
        clear ha hb hi
        go_wp2_with fail
        go_roundw
        case rel => exact ⟨2, rfl, by show _ ≤ _; omega, fun _ => h6.out, fun _ => h5.out, trivial⟩
        case measure => simp [intOf]
    · have hR : Hid (R = 0) := hr.out.trans (if_neg (by have := ha.out (by omega); have := hb.out (by omega); omega))
      clear hr ha hb hi
      go_wp2_with fail
      go_ret
      exact ⟨by rw [hR.out]; rfl, rfl⟩

def FnCell (w : World) (pn pg m : Nat) : Prop := w.cell? ⟨pn, 0, none⟩ = some (.int .i64 m) ∧ w.cell? ⟨pg, 0, none⟩ = some (.func (.func 113) #[] #[.pointer (some ⟨pn, 0, none⟩), .pointer (some ⟨pg, 0, none⟩)]) ∧ pn < w.heap.size ∧ pg < w.heap.size
theorem FnCell.call {w w' : World} {pn pg m : Nat} (h : FnCell w pn pg m) (hb : Below w.heap.size w w') : FnCell w' pn pg m :=
  ⟨(hb.cell (p := ⟨pn, 0, none⟩) h.2.2.1).trans h.1, (hb.cell (p := ⟨pg, 0, none⟩) h.2.2.2).trans h.2.1, Nat.lt_of_lt_of_le h.2.2.1 hb.size, Nat.lt_of_lt_of_le h.2.2.2 hb.size⟩

set_option maxRecDepth 100000 in
set_option maxHeartbeats 2000000 in
theorem down1_any (K : Nat → Int) (H : St) (m : Nat) (hm : Hid (1 ≤ m ∧ m ≤ 32)) (pn pg : Nat) : ∀ (k : Nat) (a b : List ByteArray) (va vb : Value) (w : World), a.length = k → a.length = b.length → ¬ a = b → Hid (ShaT w K H) → Hid (StrsAt w va a) → Hid (StrsAt w vb b) → Hid (Fine a) → Hid (Fine b) → k ≤ 4096 → Hid (FnCell w pn pg m) →
    Calls Tryd.prog 113 #[va, vb, .pointer (some ⟨pn, 0, none⟩), .pointer (some ⟨pg, 0, none⟩)] w fun e w' => e = .returned (.tuple #[.string (downS K H m a b).1, .string (downS K H m a b).2]) ∧ Below w.heap.size w w' := by
  intro k
  induction k using Nat.strongRecOn with
  | _ k ih =>
    intro a b va vb w hk hl hne hT ha hb hFa hFb h4 hC
    have q1 := Lib.hid (fun (x : ExtOf w) => hashed_any K H m hm a va x.w (Lib.hid (hT.out.call x.below)) (Lib.hid (ha.out.call x.below)) hFa (by omega))
    have q2 := Lib.hid (fun (x : ExtOf w) => hashed_any K H m hm b vb x.w (Lib.hid (hT.out.call x.below)) (Lib.hid (hb.out.call x.below)) hFb (by omega))
    have g0 := hC.out.1
    have g1 := hC.out.2.2.1
    by_cases he : hashedS K H m a = hashedS K H m b
    · have h2 := hashed_two K H m hl hne he
      have hs := splitN_lt a.length h2
      have q3 := Lib.hid (fun w => Split_any (a.length : Nat) w (by show _ ∧ _; omega))
      rw [show splitI (a.length : Nat) = (splitN a.length : Nat) by unfold splitI; rw [if_neg (by omega), Int.toNat_natCast]] at q3
      have dl := downS_left K H m he h2
      have dr := downS_right K H m he h2
      rw [← he] at q2
      have hbn : ((hashedS K H m a).toList != (hashedS K H m a).toList) = false := by simp
      generalize hashedS K H m a = X at *
      generalize splitN a.length = d at *
      obtain ⟨hd1, hd2⟩ := hs
      obtain ⟨A, c, rfl, hc, hi⟩ := ha.out
      obtain ⟨A2, c2, rfl, hc2, hi2⟩ := hb.out
      obtain ⟨s0, hs0⟩ : ∃ s0, a[0]? = some s0 := ⟨a[0], List.getElem?_eq_getElem (by omega)⟩
      obtain ⟨b1, o1, rfl, _, _⟩ := hi 0 s0 hs0
      obtain ⟨s1, hs1⟩ : ∃ s1, b[0]? = some s1 := ⟨b[0]'(by omega), List.getElem?_eq_getElem (by omega)⟩
      obtain ⟨b2, o2, rfl, _, _⟩ := hi2 0 s1 hs1
      have l1 : (a.take d).length = d := by rw [List.length_take]; omega
      have l2 : (b.take d).length = d := by rw [List.length_take]; omega
      have l3 : (a.drop d).length = k - d := by rw [List.length_drop]; omega
      have l4 : (b.drop d).length = k - d := by rw [List.length_drop]; omega
      have q4 := Lib.hid (fun (w : World) (h1 : Hid (StrsAt w (.slice (some ⟨b1, o1, none⟩) d c) (a.take d))) (h2 : Hid (StrsAt w (.slice (some ⟨b2, o2, none⟩) d c2) (b.take d))) => Eq_any _ _ (a.take d) (b.take d) w h1 h2 (by omega))
      have HA1 : Hid (StrsAt w (.slice (some ⟨b1, o1, none⟩) d c) (a.take d)) := ha.out.head d (by omega)
      have HA2 : Hid (StrsAt w (.slice (some ⟨b2, o2, none⟩) d c2) (b.take d)) := hb.out.head d (by omega)
      have HA3 : Hid (StrsAt w (.slice (some ⟨b1, o1 + d, none⟩) (k - d) (c - d)) (a.drop d)) := by have := ha.out.drop d (by omega); rwa [hk] at this
      have HA4 : Hid (StrsAt w (.slice (some ⟨b2, o2 + d, none⟩) (k - d) (c2 - d)) (b.drop d)) := by have := hb.out.drop d (by omega); rwa [← hl, hk] at this
      have q5 := Lib.hid (fun (ht : ¬ a.take d = b.take d) w hT h1 h2 hC => ih d (by omega) (a.take d) (b.take d) (.slice (some ⟨b1, o1, none⟩) d c) (.slice (some ⟨b2, o2, none⟩) d c2) w l1 (by omega) ht hT h1 h2 (Lib.hid (hFa.out.take d)) (Lib.hid (hFb.out.take d)) (by omega) hC)
      have q6 := Lib.hid (fun (ht : a.take d = b.take d) w hT h1 h2 hC => ih (k - d) (by omega) (a.drop d) (b.drop d) (.slice (some ⟨b1, o1 + d, none⟩) (k - d) (c - d)) (.slice (some ⟨b2, o2 + d, none⟩) (k - d) (c2 - d)) w l3 (by omega) (drop_ne hne ht) hT h1 h2 (Lib.hid (hFa.out.drop d)) (Lib.hid (hFb.out.drop d)) (by omega) hC)
      rw [← hl] at hc2 q2 ⊢
      rw [hk] at hc hc2 q1 q2 q3 ⊢
      have hd3 : d < k := by omega
      obtain ⟨R, hR⟩ : ∃ R, downS K H m a b = R := ⟨_, rfl⟩
      rw [hR] at dl dr ⊢
      have DL := Lib.hid dl
      have DR := Lib.hid dr
      obtain ⟨R1, R2⟩ := R
      simp only []
      clear ih hi hi2 hs0 hs1 l1 l2 l3 l4 ha hb hFa hFb hd2 he h2 dl dr hR
      go_enter Tryd.func113, Tryd.ntmps113
      go_wp2_with fail
      refine wp_region_ext (by kernel_rfl) (by kernel_rfl) ?_
      repeat (go_big_quiet_step (first | (with_reducible exact ext_call (q1.out _)) | (with_reducible exact ext_call (q2.out _))))
      refine wpQuiet_nil ?_
      rintro w' ⟨y, rfl⟩
      have HB1 := Lib.hid y.below
      have hT1 := Lib.hid (hT.out.call y.below)
      have hC1 := Lib.hid (hC.out.call y.below)
      have HA1 := Lib.hid (HA1.out.call y.below)
      have HA2 := Lib.hid (HA2.out.call y.below)
      have HA3 := Lib.hid (HA3.out.call y.below)
      have HA4 := Lib.hid (HA4.out.call y.below)
      generalize y.w = w1 at *
      clear q1 q2 g0 g1 y hT hC
      go_wp2_with fail
      refine (q3.out _).mono ?_
      rintro e w2 ⟨rfl, rfl⟩
      go_wp2_with fail
      have qE4 := Lib.hid (fun (x : ExtOf w1) => q4.out x.w (Lib.hid (HA1.out.call x.below)) (Lib.hid (HA2.out.call x.below)))
      by_cases ht : a.take d = b.take d
      · rw [decide_eq_true ht] at qE4
        have q6 := Lib.hid (q6.out ht)
        rw [← DR.out ht] at q6
        simp only [] at q6
        clear DL DR q5 q4
        refine wp_region_ext (by kernel_rfl) (by kernel_rfl) ?_
        repeat (go_big_quiet_step (with_reducible exact ext_call (qE4.out _)))
        refine wpQuiet_nil ?_
        rintro w' ⟨y, rfl⟩
        have HB2 := Lib.hid (HB1.out.trans (y.below.mono HB1.out.size))
        have hT2 := Lib.hid (hT1.out.call y.below)
        have hC2 := Lib.hid (hC1.out.call y.below)
        have HA3 := Lib.hid (HA3.out.call y.below)
        have HA4 := Lib.hid (HA4.out.call y.below)
        generalize y.w = w3 at *
        clear y qE4
        have g0 := hC2.out.2.1
        have g1 := hC2.out.2.2.2
        have qE6 := Lib.hid (fun (x : ExtOf w3) => q6.out x.w (Lib.hid (hT2.out.call x.below)) (Lib.hid (HA3.out.call x.below)) (Lib.hid (HA4.out.call x.below)) (Lib.hid (hC2.out.call x.below)))
        clear q6
        go_wp2_with fail
        refine wp_region_ext (by kernel_rfl) (by kernel_rfl) ?_
        repeat (go_big_quiet_step (with_reducible exact ext_call (qE6.out _)))
        refine wpQuiet_nil ?_
        rintro w' ⟨y, rfl⟩
        have HB3 := Lib.hid (HB2.out.trans (y.below.mono HB2.out.size))
        go_wp2_with fail
        go_ret2
        exact ⟨rfl, HB3.out⟩
      · rw [decide_eq_false ht] at qE4
        have q6 := Lib.hid (q5.out ht)
        rw [← DL.out ht] at q6
        simp only [] at q6
        clear DL DR q5 q4
        refine wp_region_ext (by kernel_rfl) (by kernel_rfl) ?_
        repeat (go_big_quiet_step (with_reducible exact ext_call (qE4.out _)))
        refine wpQuiet_nil ?_
        rintro w' ⟨y, rfl⟩
        have HB2 := Lib.hid (HB1.out.trans (y.below.mono HB1.out.size))
        have hT2 := Lib.hid (hT1.out.call y.below)
        have hC2 := Lib.hid (hC1.out.call y.below)
        have HA3 := Lib.hid (HA1.out.call y.below)
        have HA4 := Lib.hid (HA2.out.call y.below)
        generalize y.w = w3 at *
        clear y qE4
        have g0 := hC2.out.2.1
        have g1 := hC2.out.2.2.2
        have qE6 := Lib.hid (fun (x : ExtOf w3) => q6.out x.w (Lib.hid (hT2.out.call x.below)) (Lib.hid (HA3.out.call x.below)) (Lib.hid (HA4.out.call x.below)) (Lib.hid (hC2.out.call x.below)))
        clear q6
        go_wp2_with fail
        refine wp_region_ext (by kernel_rfl) (by kernel_rfl) ?_
        repeat (go_big_quiet_step (with_reducible exact ext_call (qE6.out _)))
        refine wpQuiet_nil ?_
        rintro w' ⟨y, rfl⟩
        have HB3 := Lib.hid (HB2.out.trans (y.below.mono HB2.out.size))
        go_wp2_with fail
        go_ret2
        exact ⟨rfl, HB3.out⟩
    · rw [downS_stop K H m he]
      simp only []
      have hbn : ((hashedS K H m a).toList == (hashedS K H m b).toList) = false := strs_ne he
      generalize hashedS K H m a = X at *
      generalize hashedS K H m b = Y at *
      clear ih he
      go_enter Tryd.func113, Tryd.ntmps113
      go_wp2_with fail
      refine wp_region_ext (by kernel_rfl) (by kernel_rfl) ?_
      repeat (go_big_quiet_step (first | (with_reducible exact ext_call (q1.out _)) | (with_reducible exact ext_call (q2.out _))))
      refine wpQuiet_nil ?_
      rintro w' ⟨y, rfl⟩
      have HB1 := Lib.hid y.below
      go_wp2_with fail
      go_ret2
      exact ⟨rfl, HB1.out⟩

set_option maxRecDepth 100000 in
set_option maxHeartbeats 1000000 in
theorem down_any (K : Nat → Int) (H : St) (m : Nat) (hm : Hid (1 ≤ m ∧ m ≤ 32)) (a b : List ByteArray) (va vb : Value) (w : World) (hl : a.length = b.length) (hne : ¬ a = b) (hT : Hid (ShaT w K H)) (ha : Hid (StrsAt w va a)) (hb : Hid (StrsAt w vb b)) (hFa : Hid (Fine a)) (hFb : Hid (Fine b)) (h4 : a.length ≤ 4096) :
    Calls Tryd.prog 85 #[va, vb, .int .i64 m] w fun e w' => e = .returned (.tuple #[.string (downS K H m a b).1, .string (downS K H m a b).2]) ∧ Below w.heap.size w w' := by
  obtain ⟨w2, hw2⟩ : ∃ w2, ((w.alloc (.cells #[.int .i64 m] 3)).alloc (.cells #[.func (.func 113) #[] #[.pointer (some ⟨w.heap.size, 0, none⟩), .pointer (some ⟨w.heap.size + 1, 0, none⟩)]] 138)) = w2 := ⟨_, rfl⟩
  have HB : Hid (Below w.heap.size w w2) := by rw [← hw2]; exact below_alloc (below_alloc (Below.refl _ _) (Nat.le_refl _) _) (by rw [World.size_alloc]; omega) _
  have hC : Hid (FnCell w2 w.heap.size (w.heap.size + 1) m) := by
    rw [← hw2]
    have k1 := heap_new w (.cells #[.int .i64 m] 3)
    have k2 := blk_old k1 (.cells #[.func (.func 113) #[] #[.pointer (some ⟨w.heap.size, 0, none⟩), .pointer (some ⟨w.heap.size + 1, 0, none⟩)]] 138)
    have k3 := heap_new (w.alloc (.cells #[.int .i64 m] 3)) (.cells #[.func (.func 113) #[] #[.pointer (some ⟨w.heap.size, 0, none⟩), .pointer (some ⟨w.heap.size + 1, 0, none⟩)]] 138)
    rw [World.size_alloc] at k3
    exact ⟨cells_of_blk k2 0 _ rfl, cells_of_blk k3 0 _ rfl, (Array.getElem?_eq_some_iff.1 k2).1, (Array.getElem?_eq_some_iff.1 k3).1⟩
  have q := Lib.hid (down1_any K H m hm w.heap.size (w.heap.size + 1) a.length a b va vb w2 rfl hl hne (Lib.hid (hT.out.call HB.out)) (Lib.hid (ha.out.call HB.out)) (Lib.hid (hb.out.call HB.out)) hFa hFb h4 hC)
  have HW := Lib.hid hw2
  generalize (downS K H m a b).1 = R1 at *
  generalize (downS K H m a b).2 = R2 at *
  clear hw2 hl hne ha hb hT
  have hsf := fun (a : Addr) (c : Array Value) (w : World) => run_store Tryd.prog w a (.func (.func 113) #[] c) .plain rfl
  go_enter Tryd.func85, Tryd.ntmps85
  go_wp2_with fail
  rw [HW.out]
  refine q.out.mono ?_
  rintro e w3 ⟨rfl, hb⟩
  have HB3 := Lib.hid (HB.out.trans (hb.mono HB.out.size))
  clear hb
  go_wp2_with fail
  go_ret2
  exact ⟨rfl, HB3.out⟩
end

end Go.Proofs.YtaigngdlioplaaaDoor
