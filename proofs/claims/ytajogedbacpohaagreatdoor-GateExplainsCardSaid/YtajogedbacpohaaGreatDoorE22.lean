/- Part 23 of what the claim rests on. -/
import Derived.Test.YtajogedbacpohaaGreatDoorE00
import Derived.Test.YtajogedbacpohaaGreatDoorE13
import Derived.Test.YtajogedbacpohaaGreatDoorE15
import Derived.Test.YtajogedbacpohaaGreatDoorE19
import Derived.Test.YtajogedbacpohaaGreatDoorE21
import Derived.BigQuiet
import Derived.Deep.QuietTactic
import Derived.Maps.AppendAt
set_option linter.unusedVariables false
set_option linter.unusedSimpArgs false
set_option maxRecDepth 1000000
set_option maxHeartbeats 32000000
namespace Go.Proofs.YtajogedbacpohaaGreatDoor
section
open Go Go.RowKit Mon Shelf
section
variable {P : Program} {ops : Array Oper} {rest : List Oper} {o : Oper} {a : Act} {Q : Exit → Act → World → Prop}
theorem zz1a {wr : World} {B : Nat} (s x : Operand) (t e : TypeId) (z : Value) (he : Elt P t e z 1 16) {cs : List Value} (ys : List ByteArray) (v : Value) (xs : List ByteArray)
  (hown : Hid (wr.ownsRow B e 1 v xs.length (xs.map Value.string))) (hB : B ≤ wr.heap.size) (hgd : o.guard = none) (ho : o.op = .call { callee := .builtin .append, args := #[s, x], argTypes := #[t, t] })
  (hs : a.eval s = v) (hx : a.eval x = .slice (some ⟨wr.heap.size, 0, none⟩) ys.length ys.length) (hn : xs.length + ys.length ≤ 4000000) (hcs : ys.map Value.string = cs)
  (h : ∀ v' w', Hid (w'.ownsRow B e 1 v' (xs ++ ys).length ((xs ++ ys).map Value.string)) → Hid ((wr.alloc (.cells cs.toArray e)).grownBy w' v.ownBlock) → wpList P ops Q rest (a.put o.dst v') w') :
  wpList P ops Q (o :: rest) a (wr.alloc (.cells cs.toArray e)) := by
 subst hcs;obtain ⟨i, hi, hz, hsz, hbs⟩ := he.info;refine wpList_append_own_at _ hgd s x t ho B e i z 1 16 he.und hi hz hsz hbs he.zs he.pos v xs.length (xs.map Value.string) hs (hown.out.alloc _) ⟨wr.heap.size, 0, none⟩ ys.length ys.length (ys.map Value.string) hx (by simp) ?_ ?_ ?_ ?_ ?_ ?_
 ·intro j u hj
  rw [Addr.add_lit, Nat.zero_add];exact zz00 (zz02 wr (.cells (ys.map Value.string).toArray e)) j u (by simpa using hj)
 ·intro u hu; obtain ⟨y, _, rfl⟩ := List.mem_map.1 hu; rfl
 ·unfold maxLen; omega
 ·omega
 ·simp; omega
 ·intro v' w' h1 h2 _ _
  exact h v' w' (by rw [List.length_append, List.map_append]; exact h1) h2
end
theorem zzbn : Elt Tryz.prog 107 9 (.string ⟨#[]⟩) 1 16 := Elt.mk' Tryz.underlying107 zk rfl zx
theorem zz5l (s : Stp) (hs : s.fit) : (textS s).length ≤ 70 := by
 have h1 := zz3u s.rule;have h2 := zz8d (relS s.rule);have h3 := zz0o (x := s.left) (by have := hs.2.1; unfold I64 at this; omega) (by have := hs.2.1; unfold I64 at this; omega)
 have h4 := zz0o (x := s.right) (by have := hs.2.2; unfold I64 at this; omega) (by have := hs.2.2; unfold I64 at this; omega)
 unfold textS
 split <;> simp <;> omega
def nmL (k : Int) : List UInt8 := (nameOf k).data.toList
def rsL (k : Int) : List UInt8 := (reasonOf k).data.toList
theorem nmL_len (k : Int) : (nmL k).length ≤ 10 := by
 unfold nmL nameOf
 split
 ·decide
 ·have key : ∀ m : Nat, ((namesL[m]?).getD ⟨#[63]⟩).data.toList.length ≤ 10 := fun m => by
   rcases Nat.lt_or_ge m 8 with h | h
   ·have : m = 0 ∨ m = 1 ∨ m = 2 ∨ m = 3 ∨ m = 4 ∨ m = 5 ∨ m = 6 ∨ m = 7 := by omega
    rcases this with rfl | rfl | rfl | rfl | rfl | rfl | rfl | rfl <;> decide
   ·rw [List.getElem?_eq_none (show namesL.length ≤ m from h)]; decide
  exact key _
theorem zzak (k : Int) : (rsL k).length ≤ 30 := by
 unfold rsL reasonOf
 split
 ·decide
 ·have key : ∀ m : Nat, ((reasonsL[m]?).getD ⟨#[63]⟩).data.toList.length ≤ 30 := fun m => by
   rcases Nat.lt_or_ge m 14 with h | h
   ·have : m = 0 ∨ m = 1 ∨ m = 2 ∨ m = 3 ∨ m = 4 ∨ m = 5 ∨ m = 6 ∨ m = 7 ∨ m = 8 ∨ m = 9 ∨ m = 10 ∨ m = 11 ∨ m = 12 ∨ m = 13 := by omega
    rcases this with rfl | rfl | rfl | rfl | rfl | rfl | rfl | rfl | rfl | rfl | rfl | rfl | rfl | rfl <;> decide
   ·rw [List.getElem?_eq_none (show reasonsL.length ≤ m from h)]; decide
  exact key _
theorem nm_eq (k : Int) : nameOf k = ⟨(nmL k).toArray⟩ := by unfold nmL; simp
theorem rs_eq (k : Int) : reasonOf k = ⟨(rsL k).toArray⟩ := by unfold rsL; simp
def lastL (c n : Int) : List UInt8 := rsL c ++ (if n = 0 then [] else 32 :: Lib.itoa n)
def midL (l : List Stp) : List UInt8 := (l.map fun s => 32 :: 32 :: (textS s ++ [10])).flatten
def exT (k : Int) (l : List Stp) (c n : Int) : List UInt8 := nmL k ++ 10 :: (midL l ++ (lastL c n ++ [10]))
theorem join_ex (k : Int) (l : List Stp) (z : List UInt8) : Lib.join (nmL k :: (l.map (fun s => 32 :: 32 :: textS s) ++ [z, []])) [10] = nmL k ++ 10 :: (midL l ++ (z ++ [10])) := by
 rw [Lib.join_cons]
 congr 1
 induction l with
 | nil => simp [Lib.joinTail, midL]
 | cons s l ih =>
  simp only [List.map_cons, List.cons_append, Lib.joinTail, List.flatten_cons, midL] at ih ⊢;rw [ih];simp
def linesL (k : Int) (l : List Stp) : List ByteArray := ⟨(nmL k).toArray⟩ :: l.map fun s => ⟨(32 :: 32 :: textS s).toArray⟩
theorem zz9x (k : Int) (l : List Stp) (s : Stp) : linesL k (l ++ [s]) = linesL k l ++ [⟨(32 :: 32 :: textS s).toArray⟩] := by simp [linesL]
theorem zz8o (k : Int) (l : List Stp) (z : List UInt8) : (linesL k l ++ [(⟨z.toArray⟩ : ByteArray), ⟨#[]⟩]).map (·.data.toList) = nmL k :: (l.map (fun s => 32 :: 32 :: textS s) ++ [z, []]) := by simp [linesL]
theorem zz7y : ∀ {l : List Stp}, (∀ s ∈ l, s.fit) → (midL l).length ≤ 73 * l.length
 | [], _ => by simp [midL]
 | s :: l, h => by
  have h1 := zz7y (l := l) fun x hx => h x (.tail _ hx)
  have h2 := zz5l s (h s (.head _));unfold midL at h1 ⊢;simp at h1 ⊢;omega
theorem lastL_len {c n : Int} (hn : I64 n) : (lastL c n).length ≤ 60 := by
 have h1 := zzak c;have h2 := zz0o (x := n) (by unfold I64 at hn; omega) (by unfold I64 at hn; omega)
 unfold lastL
 split <;> simp <;> omega
theorem exT_len {k c n : Int} {l : List Stp} (hn : I64 n) (hl : l.length ≤ 13) (hf : ∀ s ∈ l, s.fit) : (exT k l c n).length ≤ 2000 := by
 have h1 := nmL_len k;have h2 := zz7y hf;have h3 := lastL_len (c := c) hn;unfold exT;simp;omega
theorem zz8v : ∀ {l : List Stp} {n : Int}, (∀ s ∈ l, s.fit) → I64 n → I64 (goW l n).2
 | [], _, _, h => h
 | s :: r, n, hf, h => by
  unfold goW
  split
  ·exact ⟨by decide, by decide⟩
  ·split
   ·split
    ·exact zz8v (fun x hx => hf x (.tail _ hx)) (hf s (.head _)).2.1
    ·exact zz8v (fun x hx => hf x (.tail _ hx)) h
   ·exact ⟨(by decide : (-9223372036854775808 : Int) ≤ 0), (by decide : (0 : Int) < 9223372036854775808)⟩
theorem zz5t {w w1 : World} {B : Nat} {e : TypeId} {k n : Nat} {v : Value} {xs : List Value} (h : w.ownsRow B e k v n xs) (hb : Below w.heap.size w w1) : w1.ownsRow B e k v n xs := by
 refine h.kept (row := none) ⟨hb.os, hb.tape, hb.output, hb.size, fun j hj _ => hb.block j hj⟩ ?_
 cases hv : v.ownBlock with
 | none => exact .inl rfl
 | some b => exact .inr (by simp)
theorem zt86 {p : Prop} (h : p := by
 clear hO hg HR HB fin;go_wp2_with fail;refine hq.out.mono ?_;rintro r wj ⟨rfl, hb⟩;go_wp2_with fail;go_ret2;exact ⟨rfl, HX.out.trans ((hb2.out.trans (hb.mono hb2.out.size)).mono HX.out.size)⟩) : p := h
theorem zza0 (vh vs vo vr : Value) (b : Bk) (e : Ev) (rate : Int) (w : World) (hT : Hid (Law16T w)) (hTb : Hid (Tabs w)) (B0 : Hid (BkAt w (.agg #[vh, vs, vo, vr, b.n]) b)) (hs : Hid b.Small) (hi : Hid b.I64s) (hm : Hid (b.mayB = true)) (hE : Hid e.I64s) (hsS : Hid (b.s.length ≤ 900000)) (hr0 : 0 ≤ rate ∧ rate ≤ 1000) (hn : ¬ b.n = 1099511627776) :
  Calls Tryz.prog 25 #[.agg #[vh, vs, vo, vr, b.n], e.val, .int .i64 rate] w fun r w' => r = .returned (.tuple #[.string ⟨(exT e.kind (gateL b e rate) (gateV b e rate).1 (gateV b e rate).2).toArray⟩, .int .i64 0]) ∧ Below w.heap.size w w' := by
 obtain ⟨Ah, ch, As, cs, Ao, co, Ar, cr, hv⟩ := B0.out.forms;simp only [Value.agg.injEq, Array.mk.injEq, List.cons.injEq, and_true] at hv;obtain ⟨rfl, rfl, rfl, rfl⟩ := hv;have q1 := zH (fun wz hz hv => zzbi (.slice Ah b.h.length ch) (.slice As b.s.length cs) (.slice Ao b.o.length co) (.slice Ar b.r.length cr) b e rate wz hz hv hs hi hm hE hsS hr0 hn)
 unfold Ev.val at q1 ⊢;have hLl := zz2w b e rate;have hW := zH (show goW (gateL b e rate) 0 = gateV b e rate from rfl)
 obtain ⟨nb, hnb⟩ : ∃ nb, gateB b e rate = nb := ⟨_, rfl⟩;obtain ⟨⟨V1, V2⟩, hVe⟩ : ∃ V, gateV b e rate = V := ⟨_, rfl⟩;obtain ⟨L, hL⟩ : ∃ L, gateL b e rate = L := ⟨_, rfl⟩;rw [hnb, hVe, hL] at q1;rw [hVe, hL] at hW;rw [hVe];rw [hL] at hLl ⊢;have HLl := zH hLl;clear hnb hVe hL hLl hr0 hn;have qn := zH (fun wz hz => zzbm e.kind wz hz)
 have qr := zH (fun wz hz => zz86 V1 wz hz)
 rw [nm_eq] at qn;rw [rs_eq] at qr;have K := zEa2 (c := BF Ah ch As cs Ao co Ar cr b b.n) (t := 27) (c2 := #[.int .i64 e.kind, .int .i64 e.acc, .int .i64 e.ord, .int .i64 e.sym, .int .i64 e.side, .int .i64 e.qty, .int .i64 e.px]) (t2 := 29) rfl (zE0 w);have c := zEc K;go_in;go_wp2_with fail;generalize hw : World.alloc _ _ = wb;rw [hw] at K;clear c hw;(with_reducible refine (q1.out _ (zH (hT.out.call (zEb K)).law) (zH (B0.out.call (zEb K)))).mono ?_);rintro r wc ⟨v5, vS, rfl, hO, hS, hb⟩;obtain ⟨U1, u1, U2, u2, U3, u3, U4, u4, rfl⟩ := hO.at.forms;obtain ⟨AS, cS, rfl⟩ := hS.formS;have HS := zH hS;replace K := zEk K hb;clear hO hS hb q1;have c := zEc K;go_wp2_with fail;generalize hw : World.alloc _ _ = wa;have hba : Below wc.heap.size wc wa := hw ▸ zz01 zBa (by simp) _
 replace HS := zH (HS.out.call hba);have KV : ZB wa (wc.heap.size + 1) #[V1, V2] 33 := zH (hw ▸ zz0e _ _ _ (by simp))
 replace K := zEk K hba;clear c hw hba;(with_reducible refine (qn.out _ (zH (hTb.out.call (zEb K)))).mono ?_);rintro r wx ⟨rfl, hb⟩;replace K := zEk K hb;replace HS := zH (HS.out.call hb);replace KV := zK KV hb;clear hb qn;have HX := zH (zEb K);have HF : Hid (∀ s ∈ L, s.fit) := zH fun s hs => by
  obtain ⟨A', c', _, hg⟩ := HS.out;obtain ⟨i, hi⟩ := List.getElem?_of_mem hs;exact (hg i s hi).1
 have hV : Hid (I64 V2) := zH (by have := zz8v (n := 0) HF.out ⟨by decide, by decide⟩; rw [hW.out] at this; exact this)
 clear hW;go_wp2_with fail;generalize hw : World.alloc _ _ = wl;have hb0 := zM0 hw;have row0 : wl.ownsRow wx.heap.size 9 1 (.slice (some ⟨wx.heap.size, 0, none⟩) 1 1) 1 [.string ⟨(nmL e.kind).toArray⟩] := ⟨rfl, .inr ⟨wx.heap.size, 1, _, rfl, Nat.le_refl _, zM1 hw, Nat.le_refl _, by unfold maxLen; omega, rfl, rfl⟩⟩
 have R0 := zH row0;have B1 := zH hb0;have hg1 : Hid (∀ i : Nat, i < L.length → ∃ r, L[i]? = some r) := zH fun i hi => ⟨_, List.getElem?_eq_getElem hi⟩
 clear hw hb0 row0;go_loopw [12, 14, 34] (fun s12 s14 s34 wr => ∃ i : Nat, s34 = .int .i64 i ∧ Hid (i ≤ L.length) ∧ Hid (Below wx.heap.size wx wr) ∧ Hid (wr.ownsRow wx.heap.size 9 1 s12 (linesL e.kind (L.take i)).length ((linesL e.kind (L.take i)).map Value.string))) (fun _ _ s34 _ => L.length - (intOf s34).toNat)
 case atStart => exact ⟨0, rfl, Nat.zero_le _, B1.out, R0.out⟩
 case round =>
  clear B1 R0;obtain ⟨i, rfl, hi, HB, HR⟩ := hrel;by_cases hin : i < L.length
  ·have tn : decide ((i : Int) < (L.length : Int)) = true := decide_eq_true zw
   obtain ⟨s, he⟩ := hg1.out i hin;have hli : (linesL e.kind (L.take i)).length + 1 ≤ 4000000 := by simp [linesL]; have := HLl.out; omega
   have HN := zH hli;have HT : Hid (linesL e.kind (L.take (i + 1)) = linesL e.kind (L.take i) ++ [⟨(32 :: 32 :: textS s).toArray⟩]) := zH (by rw [List.take_add_one, he, ← zz9x]; rfl)
   obtain ⟨A', c', hA, hg⟩ := HS.out.call HB.out;injection hA with hA _ hA2
   subst hA hA2;obtain ⟨hf, bb, oo, rfl, hlt, c0, c1, c2, c3⟩ := hg i s he;have ht := zz5l s hf;have qt := zH (fun wz hz => Text_any s hf wz hz)
   obtain ⟨r, a1, b1, ov⟩ := s;unfold Stp.val at qt;generalize textS ⟨r, a1, b1, ov⟩ = tx at *;simp only at c0 c1 c2 c3;have hLn := HLl.out;clear hg hf he hli;go_wp2_with fail;generalize hw : World.alloc _ _ = ws;have HBs := zB HB (zM0 hw);have HRs := zH (zz5t HR.out (zM0 hw));clear hw c0 c1 c2 c3 hlt HB HR;(with_reducible refine (qt.out _ (zH (hT.out.call (HX.out.trans (HBs.out.mono HX.out.size))))).mono ?_);rintro r wt ⟨rfl, hb⟩;replace HRs := zH (zz5t HRs.out hb);replace HBs := zB HBs hb;clear hb qt;go_wp2_with (at_builtin; refine zz1a _ _ 107 9 _ zzbn [⟨#[32, 32]⟩ ++ ⟨tx.toArray⟩] _ (linesL e.kind (L.take i)) HRs HBs.out.size rfl rfl rfl rfl HN.out rfl ?_);intro v' w' hO hg;have hb2 : Hid (Below wx.heap.size wx w') := zH ((zz01 HBs.out HBs.out.size _).grown hg.out (by simp; have := HBs.out.size; omega) (fun q hq => (HRs.out.lt q hq).1))
   have hO2 : Hid (w'.ownsRow wx.heap.size 9 1 v' (linesL e.kind (L.take (i + 1))).length ((linesL e.kind (L.take (i + 1))).map Value.string)) := zH (by
    have h := hO.out;rw [show ((⟨#[32, 32]⟩ : ByteArray) ++ ⟨tx.toArray⟩) = ⟨(32 :: 32 :: tx).toArray⟩ from zz0c [32, 32] tx] at h
    rw [HT.out, List.length_append, List.map_append];exact h)
   clear hg HRs HBs HT HN hO;go_wp2_with fail;go_roundw
   case rel => exact ⟨i + 1, by go_num, hin, hb2.out, hO2.out⟩
   case measure => simp [intOf]; omega
  ·obtain rfl : i = L.length := by have := hi.out; omega
   have tn : decide ((L.length : Int) < (L.length : Int)) = false := decide_eq_false zw;rw [List.take_length] at HR;replace KV := zK KV HB.out;have HBw := zH (HX.out.trans (HB.out.mono HX.out.size));have c := zC KV.out;have lv := zL KV.out;go_wp2_with fail;clear c lv;(with_reducible refine (qr.out _ (zH (hTb.out.call HBw.out))).mono ?_);rintro r wy ⟨rfl, hb⟩;replace KV := zK KV hb;replace HBw := zB HBw hb;replace HB := zB HB hb;replace HR := zH (zz5t HR.out hb);clear hb qr;have hrl := zzak V1;have fin : Hid (∀ (z : List UInt8) (wz : World), lastL V1 V2 = z → Hid (Below wx.heap.size wx wz) → ∀ vv, Hid (wz.ownsRow wx.heap.size 9 1 vv (linesL e.kind L ++ [(⟨z.toArray⟩ : ByteArray), ⟨#[]⟩]).length ((linesL e.kind L ++ [(⟨z.toArray⟩ : ByteArray), ⟨#[]⟩]).map Value.string)) → Calls Tryz.prog 56 #[vv, .string ⟨#[10]⟩] wz fun e' w' => e' = .returned (.string ⟨(exT e.kind L V1 V2).toArray⟩) ∧ Below wz.heap.size wz w') := zH fun z wz hz hB vv hO => by
    have hx : exT e.kind L V1 V2 = nmL e.kind ++ 10 :: (midL L ++ (z ++ [10])) := by unfold exT; rw [hz]
    clear hz;rcases hO.out.2 with ⟨_, h0⟩ | ⟨g, cap, cur, rfl, h1, h3, h4, _⟩
    ·simp at h0
    ·have hj := Tryz.strings_Join g 0 cap (linesL e.kind L ++ [(⟨z.toArray⟩ : ByteArray), ⟨#[]⟩]) ⟨#[10]⟩ wz (fun j x hj => by
      have := hO.out.cells (g := g) rfl j (.string x) (by rw [List.getElem?_map, hj]; rfl)
      rwa [Addr.add_lit] at this) (zL h3) (by simp [linesL]; have := HLl.out; omega) h4 (by
      rw [zz8o, join_ex, ← hx];have := exT_len (k := e.kind) (c := V1) hV.out HLl.out HF.out;omega)
     rw [zz8o, join_ex, ← hx] at hj;exact hj
   by_cases hv0 : V2 = 0
   ·subst hv0
    have HZ : Hid (lastL V1 0 = rsL V1) := zH (by unfold lastL; rw [if_pos rfl, List.append_nil])
    have c := zC KV.out;have lv := zL KV.out;go_wp2_with (at_builtin; refine zz1a _ _ 107 9 _ zzbn [⟨(rsL V1).toArray⟩, ⟨#[]⟩] _ (linesL e.kind L) HR HB.out.size rfl rfl rfl rfl (by simp [linesL]; have := HLl.out; omega) rfl ?_)
    intro v' w' hO hg;have hb2 : Hid (Below wx.heap.size wx w') := zH ((zz01 HB.out HB.out.size _).grown hg.out (by simp; have := HB.out.size; omega) (fun q hq => (HR.out.lt q hq).1))
    have hq := zH (fin.out (rsL V1) w' HZ.out hb2 v' (zH (by rw [List.length_append, List.map_append]; have h := hO.out; exact h)))
    exact zt86
   ·have HZ : Hid (lastL V1 V2 = rsL V1 ++ 32 :: Lib.itoa V2) := zH (by unfold lastL; rw [if_neg hv0])
    have t1 : (V2 == 0) = false := by simpa using hv0
    have t2 : decide (V2 = 0) = false := decide_eq_false hv0;have h2 := zz0o (x := V2) (by have := hV.out; unfold I64 at this; omega) (by have := hV.out; unfold I64 at this; omega)
    have qf : Hid (∀ wz : World, Hid (Law16T wz) → Calls Tryz.prog 55 #[.int .i64 V2, .int .i64 10] wz fun e w' => e = .returned (.string ⟨(Lib.itoa V2).toArray⟩) ∧ Below wz.heap.size wz w') := zH fun wz hz => (Tryz.strconv_FormatInt_10 V2 (by have := hV.out; unfold I64 at this; omega) (by have := hV.out; unfold I64 at this; omega) wz hz.out.tab).mono fun e w' ⟨he, k, os, hw⟩ => ⟨he, by rw [hw]; exact Lib.below_grow _ wz (Nat.le_refl _) k os⟩
    generalize Lib.itoa V2 = iv at *;have c := zC KV.out;have lv := zL KV.out;clear hv0;go_wp2_with fail;(with_reducible refine (qf.out _ (zH (hT.out.call HBw.out))).mono ?_);rintro r wf ⟨rfl, hb⟩;replace HB := zB HB hb;replace HR := zH (zz5t HR.out hb);clear hb qf c lv;go_wp2_with (at_builtin; refine zz1a _ _ 107 9 _ zzbn [⟨(rsL V1).toArray⟩ ++ (⟨#[32]⟩ ++ ⟨iv.toArray⟩), ⟨#[]⟩] _ (linesL e.kind L) HR HB.out.size rfl rfl rfl rfl (by simp [linesL]; have := HLl.out; omega) rfl ?_)
    intro v' w' hO hg;have hb2 : Hid (Below wx.heap.size wx w') := zH ((zz01 HB.out HB.out.size _).grown hg.out (by simp; have := HB.out.size; omega) (fun q hq => (HR.out.lt q hq).1))
    have hq := zH (fin.out (rsL V1 ++ 32 :: iv) w' HZ.out hb2 v' (zH (by rw [List.length_append, List.map_append]; have h := hO.out; rw [show ((⟨(rsL V1).toArray⟩ : ByteArray) ++ (⟨#[32]⟩ ++ ⟨iv.toArray⟩)) = ⟨(rsL V1 ++ 32 :: iv).toArray⟩ from by rw [show ((⟨#[32]⟩ : ByteArray) ++ ⟨iv.toArray⟩) = ⟨(32 :: iv).toArray⟩ from zz0c [32] iv, zz0c]] at h; exact h)))
    exact zt86
end
section
open Go Go.RowKit Shelf
theorem rdec_nat (n : Nat) (hn : n ≤ 9223372036854775807) (w : World) :
  Calls Tryz.prog 122 #[.int .i64 n] w fun e w' => e = .returned (.string ⟨(Lib.decDigits n).toArray⟩) ∧ w' = w := by
 induction n using Nat.strongRecOn with
 | _ n ih =>
  have t0 : decide ((n : Int) < 0) = false := decide_eq_false zw;by_cases h : n < 10
  ·have hd : Hid (Lib.decDigits n = [UInt8.ofNat (48 + n)]) := by show _ = _; rw [Lib.decDigits, dif_pos h]
   have t1 : decide ((n : Int) < 10) = true := decide_eq_true zw;clear ih;go_in;go_wp2_with fail;go_ret;refine ⟨?_, rfl⟩;rw [hd.out];clear hd t1 hn t0;obtain rfl | rfl | rfl | rfl | rfl | rfl | rfl | rfl | rfl | rfl : n = 0 ∨ n = 1 ∨ n = 2 ∨ n = 3 ∨ n = 4 ∨ n = 5 ∨ n = 6 ∨ n = 7 ∨ n = 8 ∨ n = 9 := by omega
   all_goals rfl
  ·have t1 : decide ((n : Int) < 10) = false := decide_eq_false zw
   have e1 : (n : Int).tdiv 10 = ((n / 10 : Nat) : Int) := by rw [Int.tdiv_eq_ediv_of_nonneg zw]; omega
   have e2 : (n : Int).tmod 10 = ((n % 10 : Nat) : Int) := by rw [Int.tmod_eq_emod_of_nonneg zw]; omega
   have q1 := zH (ih (n / 10) zw zw);have hl1 := zz5f (show n / 10 ≤ 9223372036854775808 by omega)
   have hl2 := zz5f (show n % 10 ≤ 9223372036854775808 by omega)
   have q2 := zH (ih (n % 10) zw zw);have hd : Hid (Lib.decDigits n = Lib.decDigits (n / 10) ++ Lib.decDigits (n % 10)) := by
    show _ = _;rw [Lib.decDigits, dif_neg h, show Lib.decDigits (n % 10) = [UInt8.ofNat (48 + n % 10)] by rw [Lib.decDigits, dif_pos zw]]
   obtain ⟨a, ha⟩ : ∃ a, n / 10 = a := ⟨_, rfl⟩;obtain ⟨b, hb⟩ : ∃ b, n % 10 = b := ⟨_, rfl⟩;rw [ha] at e1 q1 hd hl1;rw [hb] at e2 q2 hd hl2;have hab : a ≤ 9223372036854775807 := by omega
   have hbb : b < 10 := by omega
   clear ih h ha hb;go_in;go_wp2_with fail;refine q1.out.mono ?_;rintro e w' ⟨rfl, rfl⟩;go_wp2_with fail;refine q2.out.mono ?_;rintro e w' ⟨rfl, rfl⟩;go_wp2_with fail;go_ret;exact ⟨by rw [hd.out, ← zz0c]; rfl, rfl⟩
theorem dig_ext {d : Nat} (h : d < 10) (s : List UInt8) : (⟨#[48, 49, 50, 51, 52, 53, 54, 55, 56, 57]⟩ : ByteArray).extract d (d + 1) ++ ⟨s.toArray⟩ = ⟨(UInt8.ofNat (48 + d) :: s).toArray⟩ := by
 rw [← zz76]
 congr 1
 obtain rfl | rfl | rfl | rfl | rfl | rfl | rfl | rfl | rfl | rfl : d = 0 ∨ d = 1 ∨ d = 2 ∨ d = 3 ∨ d = 4 ∨ d = 5 ∨ d = 6 ∨ d = 7 ∨ d = 8 ∨ d = 9 := by omega
 all_goals rfl
theorem rdec_neg (n : Nat) (h0 : 0 < n) (hn : n ≤ 9223372036854775808) (w : World) :
  Calls Tryz.prog 122 #[.int .i64 (-(n : Int))] w fun e w' => e = .returned (.string ⟨(45 :: Lib.decDigits n).toArray⟩) ∧ w' = w := by
 have t0 : decide (-(n : Int) < 0) = true := decide_eq_true zw;have H0 := zH (zz9g h0);go_in;go_wp2_with fail;go_loopw [0, 3] (fun s0 s3 wr => ∃ (m : Nat) (s : List UInt8), s0 = .int .i64 (-(m : Int)) ∧ s3 = .string ⟨s.toArray⟩ ∧ Hid (m ≤ n) ∧ Hid (restD m s = Lib.decDigits n) ∧ wr = w) (fun s0 _ _ => (intOf s0).natAbs)
 case atStart => exact ⟨n, [], rfl, rfl, Nat.le_refl _, H0.out, rfl⟩
 case round =>
  obtain ⟨m, s, rfl, rfl, hm, hR, rfl⟩ := hrel;have hls := restD_len hR.out hn;clear t0 H0;by_cases hm0 : m = 0
  ·subst hm0
   have hs : Hid (s = Lib.decDigits n) := hR.out;have hls2 : (Lib.decDigits n).length ≤ 19 := zz5f hn;go_wp2_with fail;go_ret;exact ⟨by rw [← hs.out, ← zz76]; rfl, rfl⟩
  ·have t1 : (-(m : Int) != 0) = true := by simp; omega
   have hmn : m ≤ 9223372036854775808 := by have := hm.out; omega
   have e1 : (-(m : Int)).tdiv 10 = -((m / 10 : Nat) : Int) := by rw [Int.neg_tdiv, Int.tdiv_eq_ediv_of_nonneg zw]; omega
   have e2 : (-(m : Int)).tmod 10 = -((m % 10 : Nat) : Int) := by rw [Int.neg_tmod, Int.tmod_eq_emod_of_nonneg zw]; omega
   have hst := zH (zzaq (show 0 < m by omega) s)
   have hml : m / 10 ≤ m := Nat.div_le_self _ _;have hmd : Hid (m / 10 < m) := Nat.div_lt_self zw zx;obtain ⟨d, hd⟩ : ∃ d, m % 10 = d := ⟨_, rfl⟩;rw [hd] at e2 hst;have hd10 : d < 10 := by omega
   obtain ⟨m', hm'⟩ : ∃ m', m / 10 = m' := ⟨_, rfl⟩;rw [hm'] at e1 hst hml hmd;clear hd hm' hm0;go_wp2_with fail;go_roundw
   case rel => exact ⟨m', UInt8.ofNat (48 + d) :: s, rfl, by rw [dig_ext hd10], Nat.le_trans hml hm.out, hst.out.trans hR.out, trivial⟩
   case measure => simp [intOf]; exact hmd.out
theorem zz11 (x : Int) (hx : I64 x) (w : World) : Calls Tryz.prog 122 #[.int .i64 x] w fun e w' => e = .returned (.string ⟨(Lib.itoa x).toArray⟩) ∧ w' = w := by
 unfold I64 at hx;by_cases h : x < 0
 ·obtain ⟨m, rfl⟩ : ∃ m : Nat, x = -(m : Int) := ⟨x.natAbs, by omega⟩
  rw [itoa_neg h, show (-(m : Int)).natAbs = m by omega]
  exact rdec_neg m zw zw w
 ·obtain ⟨m, rfl⟩ : ∃ m : Nat, x = m := ⟨x.toNat, by omega⟩
  rw [itoa_of];exact rdec_nat m zw w
theorem zz0g {P : Program} {f : FuncId} {args : Array Value} {w : World} {n : Nat} {v : Value}
  (h : Calls P f args (w.drewN n) fun e w' => e = .returned v ∧ w' = w.drewN n) : Calls P f args (w.drewN n) fun e w'' => e = .returned v ∧ ∃ m, w'' = w.drewN m :=
 h.mono fun _ _ ⟨he, hb⟩ => ⟨he, n, hb⟩
theorem zzb2 {r : Int} (h : 0 < r ∧ r < 24) : ∃ c cs, nameS r = c :: cs ∧ Rule.name (numR r) = c :: cs := by
 have key : ∀ n, n < 24 → 0 < n → (Rule.name n).isEmpty = false := by decide
 have h1 : nameS r = Rule.name (numR r) := if_pos h;have h2 := key (numR r) (numR_lt r) (by unfold numR; rw [if_pos h]; omega)
 cases hN : Rule.name (numR r) with
 | nil => rw [hN] at h2; cases h2
 | cons c cs => exact ⟨c, cs, h1.trans hN, rfl⟩
theorem zz7x {r : Int} (h : ¬ (0 < r ∧ r < 24)) : nameS r = [63] ∧ Rule.name (numR r) = [] := by
 refine ⟨if_neg h, ?_⟩;unfold numR; rw [if_neg h]; rfl
theorem zz49 (r a b : Int) (c : UInt8) (cs : List UInt8) (hN : Hid (Rule.name (numR r) = (c :: cs))) (hL : Hid ((c :: cs).length ≤ 20)) (w : World) : Calls Tryz.prog 58 #[.agg #[r, a, b, .bool true]] w fun e w' => e = .returned (.string ⟨((c :: cs) ++ [32, 111, 118, 101, 114]).toArray⟩) ∧ Below w.heap.size w w' := by
 have hb := (Below.refl w.heap.size w).alloc (Nat.le_refl _) (.cells #[r, a, b, .bool true] 65);have HB := zH hb;have hk : Hid ((w.alloc (.cells #[r, a, b, .bool true] 65)).heap[w.heap.size]? = some (.cells #[r, a, b, .bool true] 65)) := zz02 _ _;have q : Hid (∀ w, Calls Tryz.prog 109 #[.int .i64 r] w fun e w' => e = .returned (.agg #[.string ⟨(c :: cs).toArray⟩, .int .i64 (relS r), .int .i64 (codeS r)]) ∧ Below w.heap.size w w') := fun w => by
  have := zz0w r w;rw [hN.out] at this;exact this
 clear hN;generalize ((relS r : Nat) : Int) = rl at *;generalize ((codeS r : Nat) : Int) = cd at *;go_in;go_wp2_with fail;(with_reducible refine (q.out _).mono ?_);rintro e w1 ⟨rfl, hb1⟩;have HB1 := zB HB hb1;have c3 := zz00 (zz04 (zz06 hk.out hb1) (.cells #[.string ⟨(c :: cs).toArray⟩, rl, cd] 148)) 3 _ rfl;have hl := hL.out;simp only [List.length_cons] at hl;clear hb1;go_wp2_with fail;go_ret;refine ⟨?_, zz01 HB1.out HB1.out.size _⟩;show Ending.returned (.string (⟨(c :: cs).toArray⟩ ++ ⟨[32, 111, 118, 101, 114].toArray⟩)) = _;rw [zz0c]
 rfl
theorem zz4d (r a b : Int) (ha : I64 a) (hb' : I64 b) (c : UInt8) (cs : List UInt8) (hN : Hid (Rule.name (numR r) = (c :: cs))) (hR : Hid (relS r = 0)) (hL : Hid ((c :: cs).length ≤ 20)) (w : World) : Calls Tryz.prog 58 #[.agg #[r, a, b, .bool false]] w fun e w' => e = .returned (.string ⟨((c :: cs) ++ ([32] ++ (Lib.itoa a ++ ([32] ++ (([63] : List UInt8) ++ ([32] ++ Lib.itoa b)))))).toArray⟩) ∧ Below w.heap.size w w' := by
 have hb := (Below.refl w.heap.size w).alloc (Nat.le_refl _) (.cells #[r, a, b, .bool false] 65);have HB := zH hb;have hk : Hid ((w.alloc (.cells #[r, a, b, .bool false] 65)).heap[w.heap.size]? = some (.cells #[r, a, b, .bool false] 65)) := zz02 _ _;have q : Hid (∀ w, Calls Tryz.prog 109 #[.int .i64 r] w fun e w' => e = .returned (.agg #[.string ⟨(c :: cs).toArray⟩, .int .i64 0, .int .i64 (codeS r)]) ∧ Below w.heap.size w w') := fun w => by
  have := zz0w r w;rw [hN.out, hR.out] at this;exact this
 have qa := zH (fun w => zz11 a ha w)
 have qb := zH (fun w => zz11 b hb' w)
 have la := zz0o (x := a) (by unfold I64 at ha; omega) (by unfold I64 at ha; omega)
 have lb := zz0o (x := b) (by unfold I64 at hb'; omega) (by unfold I64 at hb'; omega)
 clear hN hR ha hb' hb;generalize ((codeS r : Nat) : Int) = cd at *;generalize Lib.itoa a = da at *;generalize Lib.itoa b = db at *;go_in;go_wp2_with fail;(with_reducible refine (q.out _).mono ?_);rintro e w1 ⟨rfl, hb1⟩;have HB1 := zB HB hb1;have hk2 := zH (zz04 (zz06 hk.out hb1) (.cells #[.string ⟨(c :: cs).toArray⟩, .int .i64 0, cd] 148));have c3 := zz00 hk2.out 3 _ rfl;have hk3 := zz04 hk2.out (.cells #[.string ⟨#[63]⟩, .string ⟨#[60, 61]⟩, .string ⟨#[62, 61]⟩, .string ⟨#[61]⟩] 9);have c1 := zC hk3;have hr3 := zz04 (zz02 w1 (.cells #[.string ⟨(c :: cs).toArray⟩, .int .i64 0, cd] 148)) (.cells #[.string ⟨#[63]⟩, .string ⟨#[60, 61]⟩, .string ⟨#[62, 61]⟩, .string ⟨#[61]⟩] 9);have d1 := zz00 hr3 1 _ rfl;clear hk3 hr3;have hl := hL.out;simp only [List.length_cons] at hl;clear hb1 hk q HB;go_wp2_with fail;go_quiet ((go_at_call 122; first | (with_reducible exact zz0g (qa.out _)) | (with_reducible exact zz0g (qb.out _))))
 go_wp2_with fail;go_ret;refine ⟨?_, zz0b (zz01 (zz01 HB1.out HB1.out.size _) (by have := HB1.out.size; simp; omega) _) _⟩
 show Ending.returned (.string (((((⟨(c :: cs).toArray⟩ ++ ⟨[32].toArray⟩) ++ ⟨da.toArray⟩) ++ ⟨[32].toArray⟩) ++ ⟨([63] : List UInt8).toArray⟩) ++ ⟨[32].toArray⟩ ++ ⟨db.toArray⟩)) = _;simp only [zz0c, List.append_assoc]
 all_goals rfl
theorem zz4c (r a b : Int) (ha : I64 a) (hb' : I64 b) (c : UInt8) (cs : List UInt8) (hN : Hid (Rule.name (numR r) = (c :: cs))) (hR : Hid (relS r = 1)) (hL : Hid ((c :: cs).length ≤ 20)) (w : World) : Calls Tryz.prog 58 #[.agg #[r, a, b, .bool false]] w fun e w' => e = .returned (.string ⟨((c :: cs) ++ ([32] ++ (Lib.itoa a ++ ([32] ++ (([60, 61] : List UInt8) ++ ([32] ++ Lib.itoa b)))))).toArray⟩) ∧ Below w.heap.size w w' := by
 have hb := (Below.refl w.heap.size w).alloc (Nat.le_refl _) (.cells #[r, a, b, .bool false] 65);have HB := zH hb;have hk : Hid ((w.alloc (.cells #[r, a, b, .bool false] 65)).heap[w.heap.size]? = some (.cells #[r, a, b, .bool false] 65)) := zz02 _ _;have q : Hid (∀ w, Calls Tryz.prog 109 #[.int .i64 r] w fun e w' => e = .returned (.agg #[.string ⟨(c :: cs).toArray⟩, .int .i64 1, .int .i64 (codeS r)]) ∧ Below w.heap.size w w') := fun w => by
  have := zz0w r w;rw [hN.out, hR.out] at this;exact this
 have qa := zH (fun w => zz11 a ha w)
 have qb := zH (fun w => zz11 b hb' w)
 have la := zz0o (x := a) (by unfold I64 at ha; omega) (by unfold I64 at ha; omega)
 have lb := zz0o (x := b) (by unfold I64 at hb'; omega) (by unfold I64 at hb'; omega)
 clear hN hR ha hb' hb;generalize ((codeS r : Nat) : Int) = cd at *;generalize Lib.itoa a = da at *;generalize Lib.itoa b = db at *;go_in;go_wp2_with fail;(with_reducible refine (q.out _).mono ?_);rintro e w1 ⟨rfl, hb1⟩;have HB1 := zB HB hb1;have hk2 := zH (zz04 (zz06 hk.out hb1) (.cells #[.string ⟨(c :: cs).toArray⟩, .int .i64 1, cd] 148));have c3 := zz00 hk2.out 3 _ rfl;have hk3 := zz04 hk2.out (.cells #[.string ⟨#[63]⟩, .string ⟨#[60, 61]⟩, .string ⟨#[62, 61]⟩, .string ⟨#[61]⟩] 9);have c1 := zC hk3;have hr3 := zz04 (zz02 w1 (.cells #[.string ⟨(c :: cs).toArray⟩, .int .i64 1, cd] 148)) (.cells #[.string ⟨#[63]⟩, .string ⟨#[60, 61]⟩, .string ⟨#[62, 61]⟩, .string ⟨#[61]⟩] 9);have d1 := zz00 hr3 1 _ rfl;clear hk3 hr3;have hl := hL.out;simp only [List.length_cons] at hl;clear hb1 hk q HB;go_wp2_with fail;go_quiet ((go_at_call 122; first | (with_reducible exact zz0g (qa.out _)) | (with_reducible exact zz0g (qb.out _))))
 go_wp2_with fail;go_ret;refine ⟨?_, zz0b (zz01 (zz01 HB1.out HB1.out.size _) (by have := HB1.out.size; simp; omega) _) _⟩
 show Ending.returned (.string (((((⟨(c :: cs).toArray⟩ ++ ⟨[32].toArray⟩) ++ ⟨da.toArray⟩) ++ ⟨[32].toArray⟩) ++ ⟨([60, 61] : List UInt8).toArray⟩) ++ ⟨[32].toArray⟩ ++ ⟨db.toArray⟩)) = _;simp only [zz0c, List.append_assoc]
 all_goals rfl
theorem zz4b (r a b : Int) (ha : I64 a) (hb' : I64 b) (c : UInt8) (cs : List UInt8) (hN : Hid (Rule.name (numR r) = (c :: cs))) (hR : Hid (relS r = 2)) (hL : Hid ((c :: cs).length ≤ 20)) (w : World) : Calls Tryz.prog 58 #[.agg #[r, a, b, .bool false]] w fun e w' => e = .returned (.string ⟨((c :: cs) ++ ([32] ++ (Lib.itoa a ++ ([32] ++ (([62, 61] : List UInt8) ++ ([32] ++ Lib.itoa b)))))).toArray⟩) ∧ Below w.heap.size w w' := by
 have hb := (Below.refl w.heap.size w).alloc (Nat.le_refl _) (.cells #[r, a, b, .bool false] 65);have HB := zH hb;have hk : Hid ((w.alloc (.cells #[r, a, b, .bool false] 65)).heap[w.heap.size]? = some (.cells #[r, a, b, .bool false] 65)) := zz02 _ _;have q : Hid (∀ w, Calls Tryz.prog 109 #[.int .i64 r] w fun e w' => e = .returned (.agg #[.string ⟨(c :: cs).toArray⟩, .int .i64 2, .int .i64 (codeS r)]) ∧ Below w.heap.size w w') := fun w => by
  have := zz0w r w;rw [hN.out, hR.out] at this;exact this
 have qa := zH (fun w => zz11 a ha w)
 have qb := zH (fun w => zz11 b hb' w)
 have la := zz0o (x := a) (by unfold I64 at ha; omega) (by unfold I64 at ha; omega)
 have lb := zz0o (x := b) (by unfold I64 at hb'; omega) (by unfold I64 at hb'; omega)
 clear hN hR ha hb' hb;generalize ((codeS r : Nat) : Int) = cd at *;generalize Lib.itoa a = da at *;generalize Lib.itoa b = db at *;go_in;go_wp2_with fail;(with_reducible refine (q.out _).mono ?_);rintro e w1 ⟨rfl, hb1⟩;have HB1 := zB HB hb1;have hk2 := zH (zz04 (zz06 hk.out hb1) (.cells #[.string ⟨(c :: cs).toArray⟩, .int .i64 2, cd] 148));have c3 := zz00 hk2.out 3 _ rfl;have hk3 := zz04 hk2.out (.cells #[.string ⟨#[63]⟩, .string ⟨#[60, 61]⟩, .string ⟨#[62, 61]⟩, .string ⟨#[61]⟩] 9);have c1 := zC hk3;have hr3 := zz04 (zz02 w1 (.cells #[.string ⟨(c :: cs).toArray⟩, .int .i64 2, cd] 148)) (.cells #[.string ⟨#[63]⟩, .string ⟨#[60, 61]⟩, .string ⟨#[62, 61]⟩, .string ⟨#[61]⟩] 9);have d1 := zz00 hr3 1 _ rfl;clear hk3 hr3;have hl := hL.out;simp only [List.length_cons] at hl;clear hb1 hk q HB;go_wp2_with fail;go_quiet ((go_at_call 122; first | (with_reducible exact zz0g (qa.out _)) | (with_reducible exact zz0g (qb.out _))))
 go_wp2_with fail;go_ret;refine ⟨?_, zz0b (zz01 (zz01 HB1.out HB1.out.size _) (by have := HB1.out.size; simp; omega) _) _⟩
 show Ending.returned (.string (((((⟨(c :: cs).toArray⟩ ++ ⟨[32].toArray⟩) ++ ⟨da.toArray⟩) ++ ⟨[32].toArray⟩) ++ ⟨([62, 61] : List UInt8).toArray⟩) ++ ⟨[32].toArray⟩ ++ ⟨db.toArray⟩)) = _;simp only [zz0c, List.append_assoc]
 all_goals rfl
theorem zz4a (r a b : Int) (ha : I64 a) (hb' : I64 b) (c : UInt8) (cs : List UInt8) (hN : Hid (Rule.name (numR r) = (c :: cs))) (hR : Hid (relS r = 3)) (hL : Hid ((c :: cs).length ≤ 20)) (w : World) : Calls Tryz.prog 58 #[.agg #[r, a, b, .bool false]] w fun e w' => e = .returned (.string ⟨((c :: cs) ++ ([32] ++ (Lib.itoa a ++ ([32] ++ (([61] : List UInt8) ++ ([32] ++ Lib.itoa b)))))).toArray⟩) ∧ Below w.heap.size w w' := by
 have hb := (Below.refl w.heap.size w).alloc (Nat.le_refl _) (.cells #[r, a, b, .bool false] 65);have HB := zH hb;have hk : Hid ((w.alloc (.cells #[r, a, b, .bool false] 65)).heap[w.heap.size]? = some (.cells #[r, a, b, .bool false] 65)) := zz02 _ _;have q : Hid (∀ w, Calls Tryz.prog 109 #[.int .i64 r] w fun e w' => e = .returned (.agg #[.string ⟨(c :: cs).toArray⟩, .int .i64 3, .int .i64 (codeS r)]) ∧ Below w.heap.size w w') := fun w => by
  have := zz0w r w;rw [hN.out, hR.out] at this;exact this
 have qa := zH (fun w => zz11 a ha w)
 have qb := zH (fun w => zz11 b hb' w)
 have la := zz0o (x := a) (by unfold I64 at ha; omega) (by unfold I64 at ha; omega)
 have lb := zz0o (x := b) (by unfold I64 at hb'; omega) (by unfold I64 at hb'; omega)
 clear hN hR ha hb' hb;generalize ((codeS r : Nat) : Int) = cd at *;generalize Lib.itoa a = da at *;generalize Lib.itoa b = db at *;go_in;go_wp2_with fail;(with_reducible refine (q.out _).mono ?_);rintro e w1 ⟨rfl, hb1⟩;have HB1 := zB HB hb1;have hk2 := zH (zz04 (zz06 hk.out hb1) (.cells #[.string ⟨(c :: cs).toArray⟩, .int .i64 3, cd] 148));have c3 := zz00 hk2.out 3 _ rfl;have hk3 := zz04 hk2.out (.cells #[.string ⟨#[63]⟩, .string ⟨#[60, 61]⟩, .string ⟨#[62, 61]⟩, .string ⟨#[61]⟩] 9);have c1 := zC hk3;have hr3 := zz04 (zz02 w1 (.cells #[.string ⟨(c :: cs).toArray⟩, .int .i64 3, cd] 148)) (.cells #[.string ⟨#[63]⟩, .string ⟨#[60, 61]⟩, .string ⟨#[62, 61]⟩, .string ⟨#[61]⟩] 9);have d1 := zz00 hr3 1 _ rfl;clear hk3 hr3;have hl := hL.out;simp only [List.length_cons] at hl;clear hb1 hk q HB;go_wp2_with fail;go_quiet ((go_at_call 122; first | (with_reducible exact zz0g (qa.out _)) | (with_reducible exact zz0g (qb.out _))))
 go_wp2_with fail;go_ret;refine ⟨?_, zz0b (zz01 (zz01 HB1.out HB1.out.size _) (by have := HB1.out.size; simp; omega) _) _⟩
 show Ending.returned (.string (((((⟨(c :: cs).toArray⟩ ++ ⟨[32].toArray⟩) ++ ⟨da.toArray⟩) ++ ⟨[32].toArray⟩) ++ ⟨([61] : List UInt8).toArray⟩) ++ ⟨[32].toArray⟩ ++ ⟨db.toArray⟩)) = _;simp only [zz0c, List.append_assoc]
 all_goals rfl
theorem zz3d (r a b : Int) (c : UInt8) (cs : List UInt8) (hN : Hid (Rule.name (numR r) = (([] : List UInt8)))) (hL : Hid ((c :: cs).length ≤ 20)) (w : World) : Calls Tryz.prog 58 #[.agg #[r, a, b, .bool true]] w fun e w' => e = .returned (.string ⟨((([63] : List UInt8)) ++ [32, 111, 118, 101, 114]).toArray⟩) ∧ Below w.heap.size w w' := by
 have hb := (Below.refl w.heap.size w).alloc (Nat.le_refl _) (.cells #[r, a, b, .bool true] 65);have HB := zH hb;have hk : Hid ((w.alloc (.cells #[r, a, b, .bool true] 65)).heap[w.heap.size]? = some (.cells #[r, a, b, .bool true] 65)) := zz02 _ _;have q : Hid (∀ w, Calls Tryz.prog 109 #[.int .i64 r] w fun e w' => e = .returned (.agg #[.string ⟨(([] : List UInt8)).toArray⟩, .int .i64 (relS r), .int .i64 (codeS r)]) ∧ Below w.heap.size w w') := fun w => by
  have := zz0w r w;rw [hN.out] at this;exact this
 clear hN;generalize ((relS r : Nat) : Int) = rl at *;generalize ((codeS r : Nat) : Int) = cd at *;go_in;go_wp2_with fail;(with_reducible refine (q.out _).mono ?_);rintro e w1 ⟨rfl, hb1⟩;have HB1 := zB HB hb1;have c3 := zz00 (zz04 (zz06 hk.out hb1) (.cells #[.string ⟨(([] : List UInt8)).toArray⟩, .int .i64 rl, .int .i64 cd] 148)) 3 _ rfl;have hl := hL.out;simp only [List.length_cons] at hl;clear hb1;go_wp2_with fail;go_ret;refine ⟨?_, zz01 HB1.out HB1.out.size _⟩;show Ending.returned (.string (⟨(([63] : List UInt8)).toArray⟩ ++ ⟨[32, 111, 118, 101, 114].toArray⟩)) = _;rw [zz0c]
 rfl
theorem zz3c (r a b : Int) (ha : I64 a) (hb' : I64 b) (c : UInt8) (cs : List UInt8) (hN : Hid (Rule.name (numR r) = (([] : List UInt8)))) (hR : Hid (relS r = 0)) (hL : Hid ((c :: cs).length ≤ 20)) (w : World) : Calls Tryz.prog 58 #[.agg #[r, a, b, .bool false]] w fun e w' => e = .returned (.string ⟨((([63] : List UInt8)) ++ ([32] ++ (Lib.itoa a ++ ([32] ++ (([63] : List UInt8) ++ ([32] ++ Lib.itoa b)))))).toArray⟩) ∧ Below w.heap.size w w' := by
 have hb := (Below.refl w.heap.size w).alloc (Nat.le_refl _) (.cells #[r, a, b, .bool false] 65);have HB := zH hb;have hk : Hid ((w.alloc (.cells #[r, a, b, .bool false] 65)).heap[w.heap.size]? = some (.cells #[r, a, b, .bool false] 65)) := zz02 _ _;have q : Hid (∀ w, Calls Tryz.prog 109 #[.int .i64 r] w fun e w' => e = .returned (.agg #[.string ⟨(([] : List UInt8)).toArray⟩, .int .i64 0, .int .i64 (codeS r)]) ∧ Below w.heap.size w w') := fun w => by
  have := zz0w r w;rw [hN.out, hR.out] at this;exact this
 have qa := zH (fun w => zz11 a ha w)
 have qb := zH (fun w => zz11 b hb' w)
 have la := zz0o (x := a) (by unfold I64 at ha; omega) (by unfold I64 at ha; omega)
 have lb := zz0o (x := b) (by unfold I64 at hb'; omega) (by unfold I64 at hb'; omega)
 clear hN hR ha hb' hb;generalize ((codeS r : Nat) : Int) = cd at *;generalize Lib.itoa a = da at *;generalize Lib.itoa b = db at *;go_in;go_wp2_with fail;(with_reducible refine (q.out _).mono ?_);rintro e w1 ⟨rfl, hb1⟩;have HB1 := zB HB hb1;have hk2 := zH (zz04 (zz06 hk.out hb1) (.cells #[.string ⟨(([] : List UInt8)).toArray⟩, .int .i64 0, .int .i64 cd] 148));have c3 := zz00 hk2.out 3 _ rfl;have hk3 := zz04 hk2.out (.cells #[.string ⟨#[63]⟩, .string ⟨#[60, 61]⟩, .string ⟨#[62, 61]⟩, .string ⟨#[61]⟩] 9);have c1 := zC hk3;have hr3 := zz04 (zz02 w1 (.cells #[.string ⟨(([] : List UInt8)).toArray⟩, .int .i64 0, .int .i64 cd] 148)) (.cells #[.string ⟨#[63]⟩, .string ⟨#[60, 61]⟩, .string ⟨#[62, 61]⟩, .string ⟨#[61]⟩] 9);have d1 := zz00 hr3 1 _ rfl;clear hk3 hr3;have hl := hL.out;simp only [List.length_cons] at hl;clear hb1 hk q HB;go_wp2_with fail;go_quiet ((go_at_call 122; first | (with_reducible exact zz0g (qa.out _)) | (with_reducible exact zz0g (qb.out _))))
 go_wp2_with fail;go_ret;refine ⟨?_, zz0b (zz01 (zz01 HB1.out HB1.out.size _) (by have := HB1.out.size; simp; omega) _) _⟩
 show Ending.returned (.string (((((⟨(([63] : List UInt8)).toArray⟩ ++ ⟨[32].toArray⟩) ++ ⟨da.toArray⟩) ++ ⟨[32].toArray⟩) ++ ⟨([63] : List UInt8).toArray⟩) ++ ⟨[32].toArray⟩ ++ ⟨db.toArray⟩)) = _;simp only [zz0c, List.append_assoc]
 all_goals rfl
theorem zz3b (r a b : Int) (ha : I64 a) (hb' : I64 b) (c : UInt8) (cs : List UInt8) (hN : Hid (Rule.name (numR r) = (([] : List UInt8)))) (hR : Hid (relS r = 1)) (hL : Hid ((c :: cs).length ≤ 20)) (w : World) : Calls Tryz.prog 58 #[.agg #[r, a, b, .bool false]] w fun e w' => e = .returned (.string ⟨((([63] : List UInt8)) ++ ([32] ++ (Lib.itoa a ++ ([32] ++ (([60, 61] : List UInt8) ++ ([32] ++ Lib.itoa b)))))).toArray⟩) ∧ Below w.heap.size w w' := by
 have hb := (Below.refl w.heap.size w).alloc (Nat.le_refl _) (.cells #[r, a, b, .bool false] 65);have HB := zH hb;have hk : Hid ((w.alloc (.cells #[r, a, b, .bool false] 65)).heap[w.heap.size]? = some (.cells #[r, a, b, .bool false] 65)) := zz02 _ _;have q : Hid (∀ w, Calls Tryz.prog 109 #[.int .i64 r] w fun e w' => e = .returned (.agg #[.string ⟨(([] : List UInt8)).toArray⟩, .int .i64 1, .int .i64 (codeS r)]) ∧ Below w.heap.size w w') := fun w => by
  have := zz0w r w;rw [hN.out, hR.out] at this;exact this
 have qa := zH (fun w => zz11 a ha w)
 have qb := zH (fun w => zz11 b hb' w)
 have la := zz0o (x := a) (by unfold I64 at ha; omega) (by unfold I64 at ha; omega)
 have lb := zz0o (x := b) (by unfold I64 at hb'; omega) (by unfold I64 at hb'; omega)
 clear hN hR ha hb' hb;generalize ((codeS r : Nat) : Int) = cd at *;generalize Lib.itoa a = da at *;generalize Lib.itoa b = db at *;go_in;go_wp2_with fail;(with_reducible refine (q.out _).mono ?_);rintro e w1 ⟨rfl, hb1⟩;have HB1 := zB HB hb1;have hk2 := zH (zz04 (zz06 hk.out hb1) (.cells #[.string ⟨(([] : List UInt8)).toArray⟩, .int .i64 1, .int .i64 cd] 148));have c3 := zz00 hk2.out 3 _ rfl;have hk3 := zz04 hk2.out (.cells #[.string ⟨#[63]⟩, .string ⟨#[60, 61]⟩, .string ⟨#[62, 61]⟩, .string ⟨#[61]⟩] 9);have c1 := zC hk3;have hr3 := zz04 (zz02 w1 (.cells #[.string ⟨(([] : List UInt8)).toArray⟩, .int .i64 1, .int .i64 cd] 148)) (.cells #[.string ⟨#[63]⟩, .string ⟨#[60, 61]⟩, .string ⟨#[62, 61]⟩, .string ⟨#[61]⟩] 9);have d1 := zz00 hr3 1 _ rfl;clear hk3 hr3;have hl := hL.out;simp only [List.length_cons] at hl;clear hb1 hk q HB;go_wp2_with fail;go_quiet ((go_at_call 122; first | (with_reducible exact zz0g (qa.out _)) | (with_reducible exact zz0g (qb.out _))))
 go_wp2_with fail;go_ret;refine ⟨?_, zz0b (zz01 (zz01 HB1.out HB1.out.size _) (by have := HB1.out.size; simp; omega) _) _⟩
 show Ending.returned (.string (((((⟨(([63] : List UInt8)).toArray⟩ ++ ⟨[32].toArray⟩) ++ ⟨da.toArray⟩) ++ ⟨[32].toArray⟩) ++ ⟨([60, 61] : List UInt8).toArray⟩) ++ ⟨[32].toArray⟩ ++ ⟨db.toArray⟩)) = _;simp only [zz0c, List.append_assoc]
 all_goals rfl
theorem zz3a (r a b : Int) (ha : I64 a) (hb' : I64 b) (c : UInt8) (cs : List UInt8) (hN : Hid (Rule.name (numR r) = (([] : List UInt8)))) (hR : Hid (relS r = 2)) (hL : Hid ((c :: cs).length ≤ 20)) (w : World) : Calls Tryz.prog 58 #[.agg #[r, a, b, .bool false]] w fun e w' => e = .returned (.string ⟨((([63] : List UInt8)) ++ ([32] ++ (Lib.itoa a ++ ([32] ++ (([62, 61] : List UInt8) ++ ([32] ++ Lib.itoa b)))))).toArray⟩) ∧ Below w.heap.size w w' := by
 have hb := (Below.refl w.heap.size w).alloc (Nat.le_refl _) (.cells #[r, a, b, .bool false] 65);have HB := zH hb;have hk : Hid ((w.alloc (.cells #[r, a, b, .bool false] 65)).heap[w.heap.size]? = some (.cells #[r, a, b, .bool false] 65)) := zz02 _ _;have q : Hid (∀ w, Calls Tryz.prog 109 #[.int .i64 r] w fun e w' => e = .returned (.agg #[.string ⟨(([] : List UInt8)).toArray⟩, .int .i64 2, .int .i64 (codeS r)]) ∧ Below w.heap.size w w') := fun w => by
  have := zz0w r w;rw [hN.out, hR.out] at this;exact this
 have qa := zH (fun w => zz11 a ha w)
 have qb := zH (fun w => zz11 b hb' w)
 have la := zz0o (x := a) (by unfold I64 at ha; omega) (by unfold I64 at ha; omega)
 have lb := zz0o (x := b) (by unfold I64 at hb'; omega) (by unfold I64 at hb'; omega)
 clear hN hR ha hb' hb;generalize ((codeS r : Nat) : Int) = cd at *;generalize Lib.itoa a = da at *;generalize Lib.itoa b = db at *;go_in;go_wp2_with fail;(with_reducible refine (q.out _).mono ?_);rintro e w1 ⟨rfl, hb1⟩;have HB1 := zB HB hb1;have hk2 := zH (zz04 (zz06 hk.out hb1) (.cells #[.string ⟨(([] : List UInt8)).toArray⟩, .int .i64 2, .int .i64 cd] 148));have c3 := zz00 hk2.out 3 _ rfl;have hk3 := zz04 hk2.out (.cells #[.string ⟨#[63]⟩, .string ⟨#[60, 61]⟩, .string ⟨#[62, 61]⟩, .string ⟨#[61]⟩] 9);have c1 := zC hk3;have hr3 := zz04 (zz02 w1 (.cells #[.string ⟨(([] : List UInt8)).toArray⟩, .int .i64 2, .int .i64 cd] 148)) (.cells #[.string ⟨#[63]⟩, .string ⟨#[60, 61]⟩, .string ⟨#[62, 61]⟩, .string ⟨#[61]⟩] 9);have d1 := zz00 hr3 1 _ rfl;clear hk3 hr3;have hl := hL.out;simp only [List.length_cons] at hl;clear hb1 hk q HB;go_wp2_with fail;go_quiet ((go_at_call 122; first | (with_reducible exact zz0g (qa.out _)) | (with_reducible exact zz0g (qb.out _))))
 go_wp2_with fail;go_ret;refine ⟨?_, zz0b (zz01 (zz01 HB1.out HB1.out.size _) (by have := HB1.out.size; simp; omega) _) _⟩
 show Ending.returned (.string (((((⟨(([63] : List UInt8)).toArray⟩ ++ ⟨[32].toArray⟩) ++ ⟨da.toArray⟩) ++ ⟨[32].toArray⟩) ++ ⟨([62, 61] : List UInt8).toArray⟩) ++ ⟨[32].toArray⟩ ++ ⟨db.toArray⟩)) = _;simp only [zz0c, List.append_assoc]
 all_goals rfl
theorem zz39 (r a b : Int) (ha : I64 a) (hb' : I64 b) (c : UInt8) (cs : List UInt8) (hN : Hid (Rule.name (numR r) = (([] : List UInt8)))) (hR : Hid (relS r = 3)) (hL : Hid ((c :: cs).length ≤ 20)) (w : World) : Calls Tryz.prog 58 #[.agg #[r, a, b, .bool false]] w fun e w' => e = .returned (.string ⟨((([63] : List UInt8)) ++ ([32] ++ (Lib.itoa a ++ ([32] ++ (([61] : List UInt8) ++ ([32] ++ Lib.itoa b)))))).toArray⟩) ∧ Below w.heap.size w w' := by
 have hb := (Below.refl w.heap.size w).alloc (Nat.le_refl _) (.cells #[r, a, b, .bool false] 65);have HB := zH hb;have hk : Hid ((w.alloc (.cells #[r, a, b, .bool false] 65)).heap[w.heap.size]? = some (.cells #[r, a, b, .bool false] 65)) := zz02 _ _;have q : Hid (∀ w, Calls Tryz.prog 109 #[.int .i64 r] w fun e w' => e = .returned (.agg #[.string ⟨(([] : List UInt8)).toArray⟩, .int .i64 3, .int .i64 (codeS r)]) ∧ Below w.heap.size w w') := fun w => by
  have := zz0w r w;rw [hN.out, hR.out] at this;exact this
 have qa := zH (fun w => zz11 a ha w)
 have qb := zH (fun w => zz11 b hb' w)
 have la := zz0o (x := a) (by unfold I64 at ha; omega) (by unfold I64 at ha; omega)
 have lb := zz0o (x := b) (by unfold I64 at hb'; omega) (by unfold I64 at hb'; omega)
 clear hN hR ha hb' hb;generalize ((codeS r : Nat) : Int) = cd at *;generalize Lib.itoa a = da at *;generalize Lib.itoa b = db at *;go_in;go_wp2_with fail;(with_reducible refine (q.out _).mono ?_);rintro e w1 ⟨rfl, hb1⟩;have HB1 := zB HB hb1;have hk2 := zH (zz04 (zz06 hk.out hb1) (.cells #[.string ⟨(([] : List UInt8)).toArray⟩, .int .i64 3, .int .i64 cd] 148));have c3 := zz00 hk2.out 3 _ rfl;have hk3 := zz04 hk2.out (.cells #[.string ⟨#[63]⟩, .string ⟨#[60, 61]⟩, .string ⟨#[62, 61]⟩, .string ⟨#[61]⟩] 9);have c1 := zC hk3;have hr3 := zz04 (zz02 w1 (.cells #[.string ⟨(([] : List UInt8)).toArray⟩, .int .i64 3, .int .i64 cd] 148)) (.cells #[.string ⟨#[63]⟩, .string ⟨#[60, 61]⟩, .string ⟨#[62, 61]⟩, .string ⟨#[61]⟩] 9);have d1 := zz00 hr3 1 _ rfl;clear hk3 hr3;have hl := hL.out;simp only [List.length_cons] at hl;clear hb1 hk q HB;go_wp2_with fail;go_quiet ((go_at_call 122; first | (with_reducible exact zz0g (qa.out _)) | (with_reducible exact zz0g (qb.out _))))
 go_wp2_with fail;go_ret;refine ⟨?_, zz0b (zz01 (zz01 HB1.out HB1.out.size _) (by have := HB1.out.size; simp; omega) _) _⟩
 show Ending.returned (.string (((((⟨(([63] : List UInt8)).toArray⟩ ++ ⟨[32].toArray⟩) ++ ⟨da.toArray⟩) ++ ⟨[32].toArray⟩) ++ ⟨([61] : List UInt8).toArray⟩) ++ ⟨[32].toArray⟩ ++ ⟨db.toArray⟩)) = _;simp only [zz0c, List.append_assoc]
 all_goals rfl
theorem zt23 {p : Prop} (h : p := by
 rw [show textS (Stp.mk r a b false) = nameS r ++ ([32] ++ (Lib.itoa a ++ ([32] ++ (signS (relS r) ++ ([32] ++ Lib.itoa b))))) from rfl, h, h1]
 exact this) : p := h
theorem rText_any (s : Stp) (hs : s.fit) (w : World) : Calls Tryz.prog 58 #[s.val] w fun e w' => e = .returned (.string ⟨(textS s).toArray⟩) ∧ Below w.heap.size w w' := by
 obtain ⟨r, a, b, o⟩ := s;obtain ⟨hr, ha, hb⟩ := hs;have hl := zz3u r;have h4 : relS r = 0 ∨ relS r = 1 ∨ relS r = 2 ∨ relS r = 3 := by have := zz8h r; omega
 by_cases hk : 0 < r ∧ r < 24
 ·obtain ⟨c, cs, h1, h2⟩ := zzb2 hk
  rw [h1] at hl;cases o with
  | true =>
   have := zz49 r a b c cs (zH h2) (zH hl) w;rw [← h1] at this;exact this
  | false =>
   rcases h4 with h | h | h | h
   ·have := zz4d r a b ha hb c cs (zH h2) (zH h) (zH hl) w
    exact zt23
   ·have := zz4c r a b ha hb c cs (zH h2) (zH h) (zH hl) w
    exact zt23
   ·have := zz4b r a b ha hb c cs (zH h2) (zH h) (zH hl) w
    exact zt23
   ·have := zz4a r a b ha hb c cs (zH h2) (zH h) (zH hl) w
    exact zt23
 ·obtain ⟨h1, h2⟩ := zz7x hk
  cases o with
  | true =>
   have := zz3d r a b 0 [] (zH h2) (by show _ ≤ _; simp) w
   rw [← h1] at this;exact this
  | false =>
   rcases h4 with h | h | h | h
   ·have := zz3c r a b ha hb 0 [] (zH h2) (zH h) (by show _ ≤ _; simp) w
    exact zt23
   ·have := zz3b r a b ha hb 0 [] (zH h2) (zH h) (by show _ ≤ _; simp) w
    exact zt23
   ·have := zz3a r a b ha hb 0 [] (zH h2) (zH h) (by show _ ≤ _; simp) w
    exact zt23
   ·have := zz39 r a b ha hb 0 [] (zH h2) (zH h) (by show _ ≤ _; simp) w
    exact zt23
end
section
open Go Go.RowKit Mon Shelf
theorem rDec_any (x : Int) (hx : I64 x) (w : World) : Calls Tryz.prog 60 #[.int .i64 x] w fun e w' => e = .returned (.string ⟨(Lib.itoa x).toArray⟩) ∧ Below w.heap.size w w' := by
 have q := zH (fun wz => zz11 x hx wz)
 generalize Lib.itoa x = d at *;go_in;go_wp2_with fail;(with_reducible refine (q.out _).mono ?_);rintro e w1 ⟨rfl, rfl⟩;go_wp2_with fail;go_ret;exact ⟨rfl, Below.refl _ _⟩
theorem midL_snoc (l : List Stp) (s : Stp) : midL (l ++ [s]) = midL l ++ 32 :: 32 :: (textS s ++ [10]) := by simp [midL]
theorem zz7q (vh vs vo vr : Value) (b : Bk) (e : Ev) (rate : Int) (w : World) (B0 : Hid (BkAt w (.agg #[vh, vs, vo, vr, b.n]) b)) (hs : Hid b.Small) (hi : Hid b.I64s) (hm : Hid (b.mayB = true)) (hE : Hid e.I64s) (hrt : Hid (I64 rate)) (hpr : Hid (∀ sym, 0 ≤ priceOf b sym)) (hN : Hid (0 ≤ b.n ∧ b.n ≤ 1099511627776)) :
  Calls Tryz.prog 26 #[.agg #[vh, vs, vo, vr, b.n], e.val, .int .i64 rate] w fun r w' => r = .returned (.string ⟨(exT e.kind (gateL b e rate) (gateV b e rate).1 (gateV b e rate).2).toArray⟩) ∧ Below w.heap.size w w' := by
 obtain ⟨Ah, ch, As, cs, Ao, co, Ar, cr, hv⟩ := B0.out.forms;simp only [Value.agg.injEq, Array.mk.injEq, List.cons.injEq, and_true] at hv;obtain ⟨rfl, rfl, rfl, rfl⟩ := hv;have q1 := zH (fun wz hv => rStep_any (.slice Ah b.h.length ch) (.slice As b.s.length cs) (.slice Ao b.o.length co) (.slice Ar b.r.length cr) b e rate wz hv hs hi hm hE hrt hpr hN)
 unfold Ev.val at q1 ⊢;have hLl := zz2w b e rate;have hW := zH (show goW (gateL b e rate) 0 = gateV b e rate from rfl)
 obtain ⟨nb, hnb⟩ : ∃ nb, gateB b e rate = nb := ⟨_, rfl⟩;obtain ⟨⟨V1, V2⟩, hVe⟩ : ∃ V, gateV b e rate = V := ⟨_, rfl⟩;obtain ⟨L, hL⟩ : ∃ L, gateL b e rate = L := ⟨_, rfl⟩;rw [hnb, hVe, hL] at q1;rw [hVe, hL] at hW;rw [hVe];rw [hL] at hLl ⊢;have HLl := zH hLl;clear hnb hVe hL hLl hN;have qn := zH (fun wz => zz9f e.kind wz)
 have qr := zH (fun wz => zz6r V1 wz)
 rw [nm_eq] at qn;rw [rs_eq] at qr;have K := zEa2 (c := BF Ah ch As cs Ao co Ar cr b b.n) (t := 27) (c2 := #[.int .i64 e.kind, .int .i64 e.acc, .int .i64 e.ord, .int .i64 e.sym, .int .i64 e.side, .int .i64 e.qty, .int .i64 e.px]) (t2 := 29) rfl (zE0 w);have c := zEc K;go_in;go_wp2_with fail;generalize hw : World.alloc _ _ = wb;rw [hw] at K;clear c hw;(with_reducible refine (q1.out _ (zH (B0.out.call (zEb K)))).mono ?_);rintro r wc ⟨v5, vS, rfl, hO, hS, hb⟩;obtain ⟨U1, u1, U2, u2, U3, u3, U4, u4, rfl⟩ := hO.forms;obtain ⟨AS, cS, rfl⟩ := hS.formS;have HS := zH hS;replace K := zEk K hb;clear hO hS hb q1;have c := zEc K;go_wp2_with fail;generalize hw : World.alloc _ _ = wa;have hba : Below wc.heap.size wc wa := hw ▸ zz01 zBa (by simp) _
 replace HS := zH (HS.out.call hba);have KV : ZB wa (wc.heap.size + 1) #[V1, V2] 33 := zH (hw ▸ zz0e _ _ _ (by simp))
 replace K := zEk K hba;clear c hw hba;(with_reducible refine (qn.out _).mono ?_);rintro r wx ⟨rfl, hb⟩;replace K := zEk K hb;replace HS := zH (HS.out.call hb);replace KV := zK KV hb;clear hb qn;have HX := zH (zEb K);have HF : Hid (∀ s ∈ L, s.fit) := zH fun s hs => by
  obtain ⟨A', c', _, hg⟩ := HS.out;obtain ⟨i, hi⟩ := List.getElem?_of_mem hs;exact (hg i s hi).1
 have hV : Hid (I64 V2) := zH (by have := zz8v (n := 0) HF.out ⟨by decide, by decide⟩; rw [hW.out] at this; exact this)
 clear hW;have hnl := nmL_len e.kind;have hrl := zzak V1;have hLlo := HLl.out;go_wp2_with fail;have hg1 : Hid (∀ i : Nat, i < L.length → ∃ r, L[i]? = some r) := zH fun i hi => ⟨_, List.getElem?_eq_getElem hi⟩
 have HM : Hid (∀ i : Nat, i ≤ L.length → (midL (L.take i)).length ≤ 73 * 13) := zH fun i hi => by
  have h := zz7y (l := L.take i) fun s hs => HF.out s (List.mem_of_mem_take hs)
  rw [List.length_take] at h;omega
 have B1 := zH (Below.refl wx.heap.size wx);go_loopw [10, 11] (fun s10 s11 wr => ∃ (i : Nat) (x : List UInt8), s11 = .int .i64 i ∧ s10 = .string ⟨x.toArray⟩ ∧ Hid (x = nmL e.kind ++ 10 :: midL (L.take i)) ∧ Hid (i ≤ L.length) ∧ Hid (Below wx.heap.size wx wr)) (fun _ s11 _ => L.length - (intOf s11).toNat)
 case atStart => exact ⟨0, nmL e.kind ++ [10], rfl, (by rw [show (10 : UInt8) :: [] = [10] from rfl] <;> exact congrArg Value.string (zz0c _ [10])), (by show _ = _; simp [midL]), Nat.zero_le _, B1.out⟩
 case round =>
  clear B1;obtain ⟨i, x, rfl, rfl, hx, hi, HB⟩ := hrel;have hxl : x.length ≤ 1200 := by rw [hx.out]; have := HM.out i hi.out; simp; omega
  by_cases hin : i < L.length
  ·have tn : decide ((i : Int) < (L.length : Int)) = true := decide_eq_true zw
   obtain ⟨s, he⟩ := hg1.out i hin;have HT : Hid (midL (L.take (i + 1)) = midL (L.take i) ++ 32 :: 32 :: (textS s ++ [10])) := zH (by rw [List.take_add_one, he, ← midL_snoc]; rfl)
   obtain ⟨A', c', hA, hg⟩ := HS.out.call HB.out;injection hA with hA _ hA2
   subst hA hA2;obtain ⟨hf, bb, oo, rfl, hlt, c0, c1, c2, c3⟩ := hg i s he;have ht := zz5l s hf;have qt := zH (fun wz => rText_any s hf wz)
   obtain ⟨r, a1, b1, ov⟩ := s;unfold Stp.val at qt;generalize textS ⟨r, a1, b1, ov⟩ = tx at *;simp only at c0 c1 c2 c3;clear hg hf he;go_wp2_with fail;(with_reducible refine (qt.out _).mono ?_);rintro r wt ⟨rfl, hb⟩;replace HB := zB HB hb;clear hb qt c0 c1 c2 c3 hlt;go_wp2_with fail;go_roundw
   case rel => exact ⟨i + 1, x ++ 32 :: 32 :: (tx ++ [10]), by go_num, (by rw [zz0c, zz0c, zz0c] <;> simp), (by show _ = _; rw [HT.out, hx.out]; simp), hin, HB.out⟩
   case measure => simp [intOf]; omega
  ·obtain rfl : i = L.length := by have := hi.out; omega
   have tn : decide ((L.length : Int) < (L.length : Int)) = false := decide_eq_false zw;rw [List.take_length] at hx;replace KV := zK KV HB.out;have HBw := zH (HX.out.trans (HB.out.mono HX.out.size));have c := zC KV.out;have lv := zL KV.out;go_wp2_with fail;clear c lv;(with_reducible refine (qr.out _).mono ?_);rintro r wy ⟨rfl, hb⟩;replace KV := zK KV hb;replace HBw := zB HBw hb;clear hb qr;have c := zC KV.out;have lv := zL KV.out;by_cases hv0 : V2 = 0
   ·subst hv0
    have HZ : Hid (exT e.kind L V1 0 = x ++ rsL V1 ++ [10]) := zH (by unfold exT lastL; rw [if_pos rfl, hx.out]; simp)
    go_wp2_with fail;go_ret;exact ⟨by show Ending.returned (.string (⟨x.toArray⟩ ++ ⟨(rsL V1).toArray⟩ ++ ⟨[10].toArray⟩)) = _; rw [HZ.out, zz0c, zz0c], HBw.out⟩
   ·have HZ : Hid (exT e.kind L V1 V2 = x ++ rsL V1 ++ [32] ++ Lib.itoa V2 ++ [10]) := zH (by unfold exT lastL; rw [if_neg hv0, hx.out]; simp)
    have t1 : (V2 == 0) = false := by simpa using hv0
    have t2 : decide (V2 = 0) = false := decide_eq_false hv0;have h2 := zz0o (x := V2) (by have := hV.out; unfold I64 at this; omega) (by have := hV.out; unfold I64 at this; omega)
    have qf := zH (fun wz => rDec_any V2 hV.out wz)
    generalize Lib.itoa V2 = iv at *;clear hv0;go_wp2_with fail;(with_reducible refine (qf.out _).mono ?_);rintro r wf ⟨rfl, hb⟩;replace HBw := zB HBw hb;clear hb qf;go_wp2_with fail;go_ret;exact ⟨by show Ending.returned (.string (⟨x.toArray⟩ ++ ⟨(rsL V1).toArray⟩ ++ ⟨[32].toArray⟩ ++ ⟨iv.toArray⟩ ++ ⟨[10].toArray⟩)) = _; rw [HZ.out, zz0c, zz0c, zz0c, zz0c], HBw.out⟩
theorem zt43 {p : Prop} (h : p := by
 unfold Ev.val at q1 ⊢;clear hbad hs;have K := zEa2 (c := BF Ah ch As cs Ao co Ar cr b b.n) (t := 27) (c2 := #[.int .i64 e.kind, .int .i64 e.acc, .int .i64 e.ord, .int .i64 e.sym, .int .i64 e.side, .int .i64 e.qty, .int .i64 e.px]) (t2 := 29) rfl (zE0 w);have c := zEc K;go_in;go_wp2_with fail;generalize hw : World.alloc _ _ = wb;rw [hw] at K;clear c hw;(with_reducible refine (q1.out _ (zH (B0.out.call (zEb K)))).mono ?_);rintro r wc ⟨rfl, hb⟩;replace K := zEk K hb;clear hb q1;go_wp2_with fail;generalize hw : World.alloc _ _ = wa;have hba : Below wc.heap.size wc wa := hw ▸ zz01 zBa (by simp) _
 have K2 := zEk K hba;go_ret2;exact ⟨rfl, zEb K2⟩) : p := h
theorem zz82 (vh vs vo vr : Value) (b : Bk) (e : Ev) (rate : Int) (w : World) (B0 : Hid (BkAt w (.agg #[vh, vs, vo, vr, b.n]) b)) (hs : Hid b.Small) (hbad : (b.mayB = false ∨ decide (rate < 0) = true ∨ decide (1000 < rate) = true ∧ (b.n == 1099511627776) = (b.n == 1099511627776))) :
  Calls Tryz.prog 25 #[.agg #[vh, vs, vo, vr, b.n], e.val, .int .i64 rate] w fun r w' => r = .returned (.tuple #[.string ⟨#[]⟩, .int .i64 1]) ∧ Below w.heap.size w w' := by
 obtain ⟨Ah, ch, As, cs, Ao, co, Ar, cr, hv⟩ := B0.out.forms;simp only [Value.agg.injEq, Array.mk.injEq, List.cons.injEq, and_true] at hv;obtain ⟨rfl, rfl, rfl, rfl⟩ := hv;have q1 := zH (fun wz hv => gStep_arg (.slice Ah b.h.length ch) (.slice As b.s.length cs) (.slice Ao b.o.length co) (.slice Ar b.r.length cr) b e rate wz hv hs hbad)
 exact zt43
theorem zz74 (vh vs vo vr : Value) (b : Bk) (e : Ev) (rate : Int) (w : World) (B0 : Hid (BkAt w (.agg #[vh, vs, vo, vr, b.n]) b)) (hs : Hid b.Small) (hbad : (b.mayB = true ∧ decide (rate < 0) = false ∧ decide (1000 < rate) = false ∧ (b.n == 1099511627776) = true)) :
  Calls Tryz.prog 25 #[.agg #[vh, vs, vo, vr, b.n], e.val, .int .i64 rate] w fun r w' => r = .returned (.tuple #[.string ⟨#[]⟩, .int .i64 11]) ∧ Below w.heap.size w w' := by
 obtain ⟨Ah, ch, As, cs, Ao, co, Ar, cr, hv⟩ := B0.out.forms;simp only [Value.agg.injEq, Array.mk.injEq, List.cons.injEq, and_true] at hv;obtain ⟨rfl, rfl, rfl, rfl⟩ := hv;have q1 := zH (fun wz hv => zzbj (.slice Ah b.h.length ch) (.slice As b.s.length cs) (.slice Ao b.o.length co) (.slice Ar b.r.length cr) b e rate wz hv hs hbad)
 exact zt43
theorem zz3p (v : Value) (b : Bk) (e : Ev) (rate : Int) (w0 : World) (hT : Hid (Law16T w0)) (hTb : Hid (Tabs w0)) (B0 : Hid (BkAt w0 v b)) (hi : Hid b.I64s) (hE : Hid e.I64s) (hrt : Hid (I64 rate)) :
  Calls Tryz.prog 7 #[v, e.val, .int .i64 rate] w0 fun r w' => r = .returned (.bool true) ∧ Below w0.heap.size w0 w' := by
 unfold Ev.val;obtain ⟨vh, vs, vo, vr, rfl, r1, r2, r3, r4⟩ := B0.out;have h2r : Hid (∀ r ∈ b.r, r.length = 2) := (by obtain ⟨_, _, _, h, _⟩ := r4; exact h)
 obtain ⟨Ah, ch, rfl, _⟩ := r1;obtain ⟨As, cs, rfl, _⟩ := r2;obtain ⟨Ao, co, rfl, _⟩ := r3;obtain ⟨Ar, cr, rfl, _⟩ := r4;have K := zEa2 (c := BF Ah ch As cs Ao co Ar cr b b.n) (t := 27) (c2 := #[.int .i64 e.kind, .int .i64 e.acc, .int .i64 e.ord, .int .i64 e.sym, .int .i64 e.side, .int .i64 e.qty, .int .i64 e.px]) (t2 := 29) rfl (zE0 w0);go_in;go_wp2_with fail;generalize hw : World.alloc _ _ = wb;rw [hw] at K;clear hw;(with_reducible refine (alive17 _ (zH (hT.out.law.call (zEb K)))).mono ?_);rintro r wc1 ⟨rfl, hb⟩;replace K := zEk K hb;clear hb;have c := zEc K;go_wp2_with fail;clear c;(with_reducible refine (Great_any _ b _ (zH (B0.out.call (zEb K)))).mono ?_);rintro r wc2 ⟨g, rfl, hg, hb⟩;replace K := zEk K hb;clear hb;cases g with
 | true =>
  clear hg;go_wp2_with fail;go_ret;exact ⟨rfl, zEb K⟩
 | false =>
 have HFit := zH (hg rfl);clear hg;have hs := zH HFit.out.small;have hsS : Hid (b.s.length ≤ 900000) := (show b.s.length ≤ 900000 by have := HFit.out; unfold Bk.Fit at this; omega)
 have t0 : ∀ x : Int, (x == x) = true := fun x => by simp
 obtain ⟨M, hM⟩ : ∃ M, (b.mayB && (decide (0 ≤ rate) && decide (rate ≤ 1000))) = M := ⟨_, rfl⟩;have qm : Hid (∀ (u : Value) (wz : World), Hid (BkAt wz u b) → Calls Tryz.prog 11 #[u, .int .i64 rate] wz fun r w' => r = .returned (.bool M) ∧ Below wz.heap.size wz w') := (show _ from fun u wz hu => by rw [← hM]; exact may17_any u b rate wz hu hs)
 cases M with
 | false =>
  have hbad : b.mayB = false ∨ decide (rate < 0) = true ∨ decide (1000 < rate) = true ∧ (b.n == 1099511627776) = (b.n == 1099511627776) := may_bad hM;have qa := zH (fun wz hv => zz82 (.slice Ah b.h.length ch) (.slice As b.s.length cs) (.slice Ao b.o.length co) (.slice Ar b.r.length cr) b e rate wz hv hs hbad)
  unfold Ev.val at qa;clear hbad hM;have c := zEc K;go_wp2_with fail;clear c;(with_reducible refine (qa.out _ (zH (B0.out.call (zEb K)))).mono ?_);rintro r wc3 ⟨rfl, hb⟩;replace K := zEk K hb;clear hb;have c := zEc K;go_wp2_with fail;clear c;(with_reducible refine (qm.out _ _ (zH (B0.out.call (zEb K)))).mono ?_);rintro r wc4 ⟨rfl, hb⟩;replace K := zEk K hb;clear hb;go_wp2_with fail;go_ret;exact ⟨rfl, zEb K⟩
 | true =>
  have hmr := may_good hM;clear hM;by_cases hn : b.n = 1099511627776
  ·have hbad : b.mayB = true ∧ decide (rate < 0) = false ∧ decide (1000 < rate) = false ∧ (b.n == 1099511627776) = true := ⟨hmr.1, decide_eq_false zw, decide_eq_false zw, by simp [hn]⟩
   have hn2 : (b.n == 1099511627776) = true := by simp [hn]
   have qa := zH (fun wz hv => zz74 (.slice Ah b.h.length ch) (.slice As b.s.length cs) (.slice Ao b.o.length co) (.slice Ar b.r.length cr) b e rate wz hv hs hbad)
   unfold Ev.val at qa;clear hbad hmr hn;have c := zEc K;go_wp2_with fail;clear c;(with_reducible refine (qa.out _ (zH (B0.out.call (zEb K)))).mono ?_);rintro r wc3 ⟨rfl, hb⟩;replace K := zEk K hb;clear hb;have c := zEc K;go_wp2_with fail;clear c;(with_reducible refine (qm.out _ _ (zH (B0.out.call (zEb K)))).mono ?_);rintro r wc4 ⟨rfl, hb⟩;replace K := zEk K hb;clear hb;have c := zEc K;go_wp2_with fail;go_ret;exact ⟨rfl, zEb K⟩
  ·have hm : Hid (b.mayB = true) := hmr.1
   have hr0 : 0 ≤ rate ∧ rate ≤ 1000 := hmr.2;have hpr : Hid (∀ sym, 0 ≤ priceOf b sym) := (show ∀ sym, 0 ≤ priceOf b sym from fun sym => zz4j hmr.1 h2r.out sym)
   have hfine := (Bk.mayB_iff b).1 hmr.1;have hN : Hid (0 ≤ b.n ∧ b.n ≤ 1099511627776) := ⟨hfine.n0, hfine.n1⟩;clear hfine;have q1 := zH (fun wz hz hy hv => zza0 (.slice Ah b.h.length ch) (.slice As b.s.length cs) (.slice Ao b.o.length co) (.slice Ar b.r.length cr) b e rate wz hz hy hv hs hi hm hE hsS hr0 hn)
   have q2 := zH (fun wz hv => zz7q (.slice Ah b.h.length ch) (.slice As b.s.length cs) (.slice Ao b.o.length co) (.slice Ar b.r.length cr) b e rate wz hv hs hi hm hE hrt hpr hN)
   unfold Ev.val at q1 q2;have hn2 : (b.n == 1099511627776) = false := beq_eq_false_iff_ne.2 hn;generalize exT e.kind (gateL b e rate) (gateV b e rate).1 (gateV b e rate).2 = tx at q1 q2;clear hmr hn;have c := zEc K;go_wp2_with fail;clear c;(with_reducible refine (q1.out _ (zH (hT.out.call (zEb K))) (zH (hTb.out.call (zEb K))) (zH (B0.out.call (zEb K)))).mono ?_);rintro r wc3 ⟨rfl, hb⟩;replace K := zEk K hb;clear hb;have c := zEc K;go_wp2_with fail;clear c;(with_reducible refine (qm.out _ _ (zH (B0.out.call (zEb K)))).mono ?_);rintro r wc4 ⟨rfl, hb⟩;replace K := zEk K hb;clear hb;have c := zEc K;go_wp2_with fail;clear c;(with_reducible refine (q2.out _ (zH (B0.out.call (zEb K)))).mono ?_);rintro r wc5 ⟨rfl, hb⟩;replace K := zEk K hb;clear hb;have ts : (tx == tx) = true := by simp
   go_wp2_with fail;go_ret;exact ⟨rfl, zEb K⟩
end
end Go.Proofs.YtajogedbacpohaaGreatDoor
