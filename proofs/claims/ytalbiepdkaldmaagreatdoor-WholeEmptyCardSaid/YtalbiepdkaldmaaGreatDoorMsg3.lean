/- message.Read, over any asking. -/
import Derived.Test.YtalbiepdkaldmaaGreatDoorProg
import Derived.Test.YtalbiepdkaldmaaGreatDoorMsg2
import Derived.Deep.QuietTactic
import Derived.BigQuiet
import Derived.Deep.LoopGhost
import Derived.Laws.EntriesVeiled
set_option linter.unusedVariables false
set_option linter.unusedSimpArgs false
namespace Go.Proofs.YtalbiepdkaldmaaGreatDoor
open Go.RowKit
/-- A message out of bytes, or where there is none, and why. -/
def msgRead (ask : Nat → Val → Nat → Bytes → Option (Nat × Nat)) (l : Bytes) (p : Nat) : Except (Nat × Nat) (Nat × Val) :=
  if l.length < 4 then .error (p + l.length, 4) else
  match Form.message (num (l.take 1)) with
  | none => .error (p, 18)
  | some f => if l.length < 4 + num ((l.drop 1).take 3) then .error (p + l.length, 4)
    else if 4 + num ((l.drop 1).take 3) < l.length then .error (p + 4 + num ((l.drop 1).take 3), 6)
    else match readAll f (l.drop 4) (p + 4) false with
      | .error e => .error e
      | .ok (v, _) => match ask (num (l.take 1)) v (p + 4) (l.drop 4) with
        | some e => .error e
        | none => .ok (num (l.take 1), v)
abbrev msgZ : Value := .agg #[.int .i64 0, .int .u64 0, .slice none 0 0, .slice none 0 0]
def MsgPost (l : Bytes) (p : Nat) (R : Except (Nat × Nat) (Nat × Val)) (w : World) (e : Ending) (w' : World) : Prop := (match R with
  | .error (a, c) => e = .returned (.tuple #[msgZ, .int .i64 a, .int .i64 c]) ∧ 0 < c
  | .ok (t, v) => ∃ x : Nat, ∃ A n c A' n' c', e = .returned (.tuple #[.agg #[.int .i64 t, .int .u64 x, .slice A n c, .slice A' n' c'], .int .i64 (p + l.length : Nat), .int .i64 0]) ∧
      Rd.val.K w' (fun b => w.heap.size ≤ b) v [.int .u64 x, .slice A n c, .slice A' n' c']) ∧ Ext w w'
/-- What is owed for asking. -/
def AskSpec (ask : Nat → Val → Nat → Bytes → Option (Nat × Nat)) (k : Nat) : Prop := ∀ (v : Val) (x : Nat) (A : Option Addr) (n c : Nat) (A' : Option Addr) (n' c' : Nat) (p : Nat) (B : Option Addr) (m cb : Nat) (l : Bytes) (w : World), Laid w →
  Rd.val.K w Any v [.int .u64 x, .slice A n c, .slice A' n' c'] → SlC Rd.u8 w Any B m cb l → (∃ f q, Form.message k = some f ∧ readAll f l p false = .ok (v, q)) → l.length ≤ 1099511627776 → p + l.length ≤ 4611686018427387904 →
  Calls Tryz.prog 32 #[.int .i64 k, .agg #[.int .u64 x, .slice A n c, .slice A' n' c'], .int .i64 p, .slice B m cb] w (AskPost (ask k v p l) w)
theorem shape_Message_any (k : Nat) (w : World) : Calls Tryz.prog 27 #[.int .i64 k] w fun e w' => ∃ A n c f b, e = .returned (.tuple #[formV A n c f, .bool b]) ∧ Ext w w' := by
  refine (shape_Message k w).mono ?_
  intro e w' h
  unfold MsgRet at h
  cases hk : Form.message k with
  | none => simp only [hk] at h; obtain ⟨A, n, c, rfl, hx⟩ := h; exact ⟨A, n, c, _, _, rfl, hx⟩
  | some f => simp only [hk] at h; obtain ⟨A, n, c, rfl, _, hx⟩ := h; exact ⟨A, n, c, _, _, rfl, hx⟩
theorem num_take1 (l : Bytes) : num (l.take 1) < 256 := num_take_lt l 1 1 (Nat.le_refl _)
theorem num_take3 (l : Bytes) : num (l.take 3) < 16777216 := num_take_lt l 3 3 (Nat.le_refl _)
section
variable (B : Option Addr) (m cb : Nat) (l : Bytes) (p : Nat) (ok : Nat → Prop) (w : World)
set_option maxRecDepth 8000 in
set_option maxHeartbeats 4000000 in
theorem message_short (ask : Nat → Val → Nat → Bytes → Option (Nat × Nat)) (hb : SlC Rd.u8 w ok B m cb l) (hok : ∀ b, ok b → b < w.heap.size) (hp : p + l.length ≤ 4611686018427387904) (hl : l.length < 4) :
    Calls Tryz.prog 9 #[.slice B m cb, .int .i64 p] w (MsgPost l p (msgRead ask l p) w) := by
  have hR : msgRead ask l p = .error (p + l.length, 4) := by unfold msgRead; rw [if_pos hl]
  rw [hR]
  clear hR
  have HN := Lib.hid (fun w h hok => cursor_New B m cb l p ok w h hok (by omega) (by omega))
  have HB := Lib.hid hb
  have HO := Lib.hid hok
  clear hb hok
  have HS := Lib.hid (shape_Message_any 0)
  by_cases h0 : l.length = 0
  · go_enter Tryz.func9, Tryz.ntmps9
    go_wp2_with (first | ((go_at_call 25; refine (HN.out _ (HB.out.ext ((by repeat (first | with_reducible assumption | with_reducible exact Fr.refl _ _ | (with_reducible refine Fr.alloc ?_ _) | (with_reducible refine Fr.drew ?_) | (with_reducible refine Fr.drewN ?_ _) | (with_reducible refine Fr.setNew ?_ _ _ _ (by first | with_reducible exact Nat.le_refl _ | omega | (simp; omega))))))) (fun b hb => by have := HO.out b hb; simp; omega)).mono ?_; rintro e w1 ⟨g, rfl, hg, hcur, hx1⟩; have hc1 := Ext.cells hx1; have hf1 := Ext.frozens hx1; have hz1 := Fr.size hx1; try simp [go_sem] at hz1; try (have hzl := Nat.lt_of_succ_le hz1; try (have hzm := Nat.lt_of_succ_lt hzl)))))
    have HCU := Lib.hid hcur
    clear hcur
    (go_at_call 26; refine (cursor_Number_short g l p ok 1 w1 HCU.out (by omega) (by omega) (by omega)).mono ?_; rintro e w' ⟨rfl, rfl⟩)
    go_wp2_with (first | ((go_at_call 30; refine (HS.out _).mono ?_; rintro e w' ⟨rfl, rfl⟩)))
    (go_at_call 26; refine (cursor_Number_short g l p ok 3 w1 HCU.out (by omega) (by omega) (by omega)).mono ?_; rintro e w' ⟨rfl, rfl⟩)
    go_wp2_with (first | ((go_at_call 27; refine (HS.out _).mono ?_; rintro e w2 ⟨A2, n2, c2, f2, b2, rfl, hx2⟩; have hc2 := Ext.cells hx2; have hf2 := Ext.frozens hx2; have hz2 := Fr.size hx2; try simp [go_sem] at hz2; try (have hzl := Nat.lt_of_succ_le hz2; try (have hzm := Nat.lt_of_succ_lt hzl)))))
    have hqa : w.heap.size < w2.heap.size := by omega
    have hqb : w.heap.size < w2.heap.size + 1 := by omega
    (go_at_call 28; refine (cursor_End g l p ok _ (HCU.out.ext (Fr.trans hx2 ((by repeat (first | with_reducible assumption | with_reducible exact Fr.refl _ _ | (with_reducible refine Fr.alloc ?_ _) | (with_reducible refine Fr.drew ?_) | (with_reducible refine Fr.drewN ?_ _) | (with_reducible refine Fr.setNew ?_ _ _ _ (by first | with_reducible exact Nat.le_refl _ | omega | (simp; omega))))))))).mono ?_; rintro e w' ⟨rfl, rfl⟩)
    go_wp2
    refine bodyPost_ret (v := .tuple #[msgZ, .int .i64 (p + l.length : Nat), .int .i64 4]) (by simp only [results, Tryz.results9]; go_simp) rfl ?_
    have hx9 : Ext w w2 := Fr.trans (Fr.trans ((by repeat (first | with_reducible assumption | with_reducible exact Fr.refl _ _ | (with_reducible refine Fr.alloc ?_ _) | (with_reducible refine Fr.drew ?_) | (with_reducible refine Fr.drewN ?_ _) | (with_reducible refine Fr.setNew ?_ _ _ _ (by first | with_reducible exact Nat.le_refl _ | omega | (simp; omega)))))) hx1) hx2
    exact ⟨⟨rfl, by decide⟩, (by repeat (first | with_reducible assumption | with_reducible exact Fr.refl _ _ | (with_reducible refine Fr.alloc ?_ _) | (with_reducible refine Fr.drew ?_) | (with_reducible refine Fr.drewN ?_ _) | (with_reducible refine Fr.setNew ?_ _ _ _ (by first | with_reducible exact Nat.le_refl _ | omega | (simp; omega)))))⟩
  · have hk1 : IntKind.i64.wrap ((num (l.take 1) : Nat) : Int) = ((num (l.take 1) : Nat) : Int) := IntWalk.i64_in _ (by have := num_take1 l; omega)
    have HS := Lib.hid (shape_Message_any (num (l.take 1)))
    have HLN := Lib.hid hl
    go_enter Tryz.func9, Tryz.ntmps9
    go_wp2_with (first | ((go_at_call 25; refine (HN.out _ (HB.out.ext ((by repeat (first | with_reducible assumption | with_reducible exact Fr.refl _ _ | (with_reducible refine Fr.alloc ?_ _) | (with_reducible refine Fr.drew ?_) | (with_reducible refine Fr.drewN ?_ _) | (with_reducible refine Fr.setNew ?_ _ _ _ (by first | with_reducible exact Nat.le_refl _ | omega | (simp; omega))))))) (fun b hb => by have := HO.out b hb; simp; omega)).mono ?_; rintro e w1 ⟨g, rfl, hg, hcur, hx1⟩; have hc1 := Ext.cells hx1; have hf1 := Ext.frozens hx1; have hz1 := Fr.size hx1; try simp [go_sem] at hz1; try (have hzl := Nat.lt_of_succ_le hz1; try (have hzm := Nat.lt_of_succ_lt hzl)))))
    have hgw : w.heap.size + 1 ≤ g := by have := hg; simp at this; omega
    have hne : ¬ w.heap.size = g := by omega
    have HCU := Lib.hid hcur
    clear hcur hg
    (go_at_call 26; refine (cursor_Number g l p ok 1 w1 HCU.out (by omega) (by omega) (by omega)).mono ?_; rintro e w2 ⟨rfl, hcu2, hx2⟩; have hc2 := Fr.cells hx2; have hf2 := Fr.frozens hx2; have hz2 := Fr.size hx2; simp only [One, Two, not_or, and_imp] at hc2 hf2; try simp [go_sem] at hz2; try (have hzl := Nat.lt_of_succ_le hz2; try (have hzm := Nat.lt_of_succ_lt hzl)))
    have HC2 := Lib.hid hcu2
    clear hcu2
    have hqa : w.heap.size < w2.heap.size := by omega
    go_wp2_with (first | ((go_at_call 30; refine (HS.out _).mono ?_; rintro e w' ⟨rfl, rfl⟩)))
    (go_at_call 26; refine (cursor_Number_short g (l.drop 1) (p + 1) ok 3 w2 HC2.out (by rw [List.length_drop]; omega) (by omega) (by omega)).mono ?_; rintro e w' ⟨rfl, rfl⟩)
    go_wp2_with (first | ((go_at_call 27; refine (HS.out _).mono ?_; rintro e w4 ⟨A4, n4, c4, f4, b4, rfl, hx4⟩; have hc4 := Ext.cells hx4; have hf4 := Ext.frozens hx4; have hz4 := Fr.size hx4; try simp [go_sem] at hz4; try (have hzl := Nat.lt_of_succ_le hz4; try (have hzm := Nat.lt_of_succ_lt hzl)))))
    have hqd : w.heap.size < w4.heap.size := by omega
    have hqe : w.heap.size < w4.heap.size + 1 := by omega
    have hel : ((p : Int) + 1) + ((l.drop 1).length : Int) = ((p + l.length : Nat) : Int) := by rw [List.length_drop]; omega
    (go_at_call 28; refine (cursor_End g (l.drop 1) (p + 1) ok _ (HC2.out.ext (Fr.trans hx4 ((by repeat (first | with_reducible assumption | with_reducible exact Fr.refl _ _ | (with_reducible refine Fr.alloc ?_ _) | (with_reducible refine Fr.drew ?_) | (with_reducible refine Fr.drewN ?_ _) | (with_reducible refine Fr.setNew ?_ _ _ _ (by first | with_reducible exact Nat.le_refl _ | omega | (simp; omega))))))))).mono ?_; rintro e w' ⟨rfl, rfl⟩)
    rw [hel]
    go_wp2
    refine bodyPost_ret (v := .tuple #[msgZ, .int .i64 (p + l.length : Nat), .int .i64 4]) (by simp only [results, Tryz.results9]; go_simp) rfl ?_
    have hx9 : Ext w w2 := Fr.trans' (Fr.trans ((by repeat (first | with_reducible assumption | with_reducible exact Fr.refl _ _ | (with_reducible refine Fr.alloc ?_ _) | (with_reducible refine Fr.drew ?_) | (with_reducible refine Fr.drewN ?_ _) | (with_reducible refine Fr.setNew ?_ _ _ _ (by first | with_reducible exact Nat.le_refl _ | omega | (simp; omega)))))) hx1) hx2 (fun b hb e => by have e : b = g := e; omega)
    have hx8 : Ext w w4 := Fr.trans hx9 hx4
    exact ⟨⟨rfl, by decide⟩, (by repeat (first | with_reducible assumption | with_reducible exact Fr.refl _ _ | (with_reducible refine Fr.alloc ?_ _) | (with_reducible refine Fr.drew ?_) | (with_reducible refine Fr.drewN ?_ _) | (with_reducible refine Fr.setNew ?_ _ _ _ (by first | with_reducible exact Nat.le_refl _ | omega | (simp; omega)))))⟩
/-- A message's head: its type, how many bytes stand behind, and what stands there. -/
structure Head (l : Bytes) (p k n : Nat) (l1 l4 : Bytes) (ok : Nat → Prop) : Prop where
  hk : num (l.take 1) = k
  hn : num ((l.drop 1).take 3) = n
  h4 : l.drop 4 = l4
  len : l.length = l4.length + 4
  kl : k < 256
  nl : n < 16777216
  N1 : ∀ g w, IsCur w ok g l p → Calls Tryz.prog 26 #[.pointer (some ⟨g, 0, none⟩), .int .i64 1] w fun e w' => e = .returned (.tuple #[.int .u64 k, .int .i64 0]) ∧ IsCur w' ok g l1 (p + 1 : Nat) ∧ Fr (One g) w w'
  N3 : ∀ g w, IsCur w ok g l1 (p + 1 : Nat) → Calls Tryz.prog 26 #[.pointer (some ⟨g, 0, none⟩), .int .i64 3] w fun e w' => e = .returned (.tuple #[.int .u64 n, .int .i64 0]) ∧ IsCur w' ok g l4 (p + 4 : Nat) ∧ Fr (One g) w w'
theorem head_of (l : Bytes) (p : Nat) (ok : Nat → Prop) (hl : 4 ≤ l.length) : ∃ k n l1 l4, Head l p k n l1 l4 ok := by
  have e4 : (l.drop 1).drop 3 = l.drop 4 := by rw [List.drop_drop]
  refine ⟨_, _, l.drop 1, l.drop 4, rfl, rfl, rfl, by rw [List.length_drop]; omega, num_take1 l, num_take3 _, fun g w h => ?_, fun g w h => ?_⟩
  · exact cursor_Number g l p ok 1 w h (by omega) (by omega) (by omega)
  · have := cursor_Number g (l.drop 1) (p + 1 : Nat) ok 3 w h (by rw [List.length_drop]; omega) (by omega) (by omega)
    rw [show NumPost ok g (l.drop 1) ((p + 1 : Nat) : Int) 3 w = fun e w' => e = .returned (.tuple #[.int .u64 (num ((l.drop 1).take 3)), .int .i64 0]) ∧ IsCur w' ok g (l.drop 4) ((p + 4 : Nat) : Int) ∧ Fr (One g) w w' from by
      funext e w'
      unfold NumPost
      rw [e4]
      congr 1] at this
    exact this
theorem msgRead_head {ask : Nat → Val → Nat → Bytes → Option (Nat × Nat)} {l : Bytes} {p k n : Nat} {l1 l4 : Bytes} {ok : Nat → Prop} (h : Head l p k n l1 l4 ok) : msgRead ask l p = match Form.message k with
  | none => .error (p, 18)
  | some f => if l4.length < n then .error (p + l.length, 4) else if n < l4.length then .error (p + 4 + n, 6) else match readAll f l4 (p + 4) false with
      | .error e => .error e
      | .ok (v, _) => match ask k v (p + 4) l4 with
        | some e => .error e
        | none => .ok (k, v) := by
  have hlen := h.len
  unfold msgRead
  rw [if_neg (by omega), h.hk, h.hn, h.h4]
  cases Form.message k with
  | none => rfl
  | some f =>
    simp only
    by_cases h1 : l4.length < n
    · rw [if_pos h1, if_pos (by omega)]
    · rw [if_neg h1, if_neg (by omega)]
      by_cases h2 : n < l4.length
      · rw [if_pos h2, if_pos (by omega)]
      · rw [if_neg h2, if_neg (by omega)]
end
section
variable (B : Option Addr) (m cb : Nat) (l : Bytes) (p : Nat) (ok : Nat → Prop) (w : World)
set_option maxRecDepth 8000 in
set_option maxHeartbeats 4000000 in
theorem message_none' {k n : Nat} {l1 l4 : Bytes} (hh : Head l p k n l1 l4 ok) (hb : SlC Rd.u8 w ok B m cb l) (hok : ∀ b, ok b → b < w.heap.size) (hp : p + l.length ≤ 4611686018427387904) (hf : Form.message k = none) :
    Calls Tryz.prog 9 #[.slice B m cb, .int .i64 p] w (MsgPost l p (.error (p, 18)) w) := by
  have hs := fun w => shape_Message k w
  unfold MsgRet at hs
  simp only [hf] at hs
  have HS := Lib.hid hs
  clear hf hs
  have HN := Lib.hid (fun w h hok => cursor_New B m cb l p ok w h hok (by omega) (by omega))
  have HB := Lib.hid hb
  have HO := Lib.hid hok
  have HN1 := Lib.hid hh.N1
  have HN3 := Lib.hid hh.N3
  have hk1 : IntKind.i64.wrap ((k : Nat) : Int) = ((k : Nat) : Int) := IntWalk.i64_in _ (by have := hh.kl; omega)
  have hk3 : IntKind.i64.wrap ((n : Nat) : Int) = ((n : Nat) : Int) := IntWalk.i64_in _ (by have := hh.nl; omega)
  have hlen := hh.len
  have hnl := hh.nl
  have hp4 : p + 4 + l4.length ≤ 4611686018427387904 := by omega
  clear hb hok hh hp
  go_enter Tryz.func9, Tryz.ntmps9
  go_wp2_with (first | ((go_at_call 25; refine (HN.out _ (HB.out.ext ((by repeat (first | with_reducible assumption | with_reducible exact Fr.refl _ _ | (with_reducible refine Fr.alloc ?_ _) | (with_reducible refine Fr.drew ?_) | (with_reducible refine Fr.drewN ?_ _) | (with_reducible refine Fr.setNew ?_ _ _ _ (by first | with_reducible exact Nat.le_refl _ | omega | (simp; omega))))))) (fun b hb => by have := HO.out b hb; simp; omega)).mono ?_; rintro e w1 ⟨g, rfl, hg, hcur, hx1⟩; have hc1 := Ext.cells hx1; have hf1 := Ext.frozens hx1; have hz1 := Fr.size hx1; try simp [go_sem] at hz1; try (have hzl := Nat.lt_of_succ_le hz1; try (have hzm := Nat.lt_of_succ_lt hzl)))))
  have hgw : w.heap.size + 1 ≤ g := by have := hg; simp at this; omega
  have hne : ¬ w.heap.size = g := by omega
  have HCU := Lib.hid hcur
  clear hcur hg
  (go_at_call 26; refine (HN1.out g w1 HCU.out).mono ?_; rintro e w2 ⟨rfl, hcu2, hx2⟩; have hc2 := Fr.cells hx2; have hf2 := Fr.frozens hx2; have hz2 := Fr.size hx2; simp only [One, Two, not_or, and_imp] at hc2 hf2; try simp [go_sem] at hz2; try (have hzl := Nat.lt_of_succ_le hz2; try (have hzm := Nat.lt_of_succ_lt hzl)))
  have HC2 := Lib.hid hcu2
  clear hcu2
  have hqa : w.heap.size < w2.heap.size := by omega
  go_wp2_with (first | ((go_at_call 30; refine (HS.out _).mono ?_; rintro e w' ⟨rfl, rfl⟩)))
  (go_at_call 26; refine (HN3.out g w2 HC2.out).mono ?_; rintro e w3 ⟨rfl, hcu3, hx3⟩; have hc3 := Fr.cells hx3; have hf3 := Fr.frozens hx3; have hz3 := Fr.size hx3; simp only [One, Two, not_or, and_imp] at hc3 hf3; try simp [go_sem] at hz3; try (have hzl := Nat.lt_of_succ_le hz3; try (have hzm := Nat.lt_of_succ_lt hzl)))
  have HC3 := Lib.hid hcu3
  clear hcu3
  have hqb : w.heap.size < w3.heap.size := by omega
  go_wp2_with (first | ((go_at_call 27; refine (HS.out _).mono ?_; rintro e w4 ⟨A4, n4, c4, rfl, hx4⟩; have hc4 := Ext.cells hx4; have hf4 := Ext.frozens hx4; have hz4 := Fr.size hx4; try simp [go_sem] at hz4; try (have hzl := Nat.lt_of_succ_le hz4; try (have hzm := Nat.lt_of_succ_lt hzl))); have hqd : w.heap.size < w4.heap.size := (by omega); have hqe : w.heap.size < w4.heap.size + 1 := (by omega)))
  refine bodyPost_ret (v := .tuple #[msgZ, .int .i64 p, .int .i64 18]) (by simp only [results, Tryz.results9]; go_simp) rfl ?_
  have hx9 : Ext w w3 := Fr.trans' (Fr.trans ((by repeat (first | with_reducible assumption | with_reducible exact Fr.refl _ _ | (with_reducible refine Fr.alloc ?_ _) | (with_reducible refine Fr.drew ?_) | (with_reducible refine Fr.drewN ?_ _) | (with_reducible refine Fr.setNew ?_ _ _ _ (by first | with_reducible exact Nat.le_refl _ | omega | (simp; omega)))))) hx1) (hx2.trans hx3) (fun b hb e => by have e : b = g := e; omega)
  have hx8 : Ext w w4 := Fr.trans hx9 hx4
  exact ⟨⟨rfl, by decide⟩, (by repeat (first | with_reducible assumption | with_reducible exact Fr.refl _ _ | (with_reducible refine Fr.alloc ?_ _) | (with_reducible refine Fr.drew ?_) | (with_reducible refine Fr.drewN ?_ _) | (with_reducible refine Fr.setNew ?_ _ _ _ (by first | with_reducible exact Nat.le_refl _ | omega | (simp; omega)))))⟩
set_option maxRecDepth 8000 in
set_option maxHeartbeats 4000000 in
theorem message_fewer {k n : Nat} {l1 l4 : Bytes} (hh : Head l p k n l1 l4 ok) (f : Form) (hb : SlC Rd.u8 w ok B m cb l) (hok : ∀ b, ok b → b < w.heap.size) (hp : p + l.length ≤ 4611686018427387904) (hf : Form.message k = some f) (hn : l4.length < n) :
    Calls Tryz.prog 9 #[.slice B m cb, .int .i64 p] w (MsgPost l p (.error (p + l.length, 4)) w) := by
  have hs := fun w => shape_Message k w
  unfold MsgRet at hs
  simp only [hf] at hs
  have HS := Lib.hid hs
  clear hf hs
  have HN := Lib.hid (fun w h hok => cursor_New B m cb l p ok w h hok (by omega) (by omega))
  have HB := Lib.hid hb
  have HO := Lib.hid hok
  have HN1 := Lib.hid hh.N1
  have HN3 := Lib.hid hh.N3
  have hk1 : IntKind.i64.wrap ((k : Nat) : Int) = ((k : Nat) : Int) := IntWalk.i64_in _ (by have := hh.kl; omega)
  have hk3 : IntKind.i64.wrap ((n : Nat) : Int) = ((n : Nat) : Int) := IntWalk.i64_in _ (by have := hh.nl; omega)
  have hlen := hh.len
  have hnl := hh.nl
  have hp4 : p + 4 + l4.length ≤ 4611686018427387904 := by omega
  clear hb hok hh hp
  go_enter Tryz.func9, Tryz.ntmps9
  go_wp2_with (first | ((go_at_call 25; refine (HN.out _ (HB.out.ext ((by repeat (first | with_reducible assumption | with_reducible exact Fr.refl _ _ | (with_reducible refine Fr.alloc ?_ _) | (with_reducible refine Fr.drew ?_) | (with_reducible refine Fr.drewN ?_ _) | (with_reducible refine Fr.setNew ?_ _ _ _ (by first | with_reducible exact Nat.le_refl _ | omega | (simp; omega))))))) (fun b hb => by have := HO.out b hb; simp; omega)).mono ?_; rintro e w1 ⟨g, rfl, hg, hcur, hx1⟩; have hc1 := Ext.cells hx1; have hf1 := Ext.frozens hx1; have hz1 := Fr.size hx1; try simp [go_sem] at hz1; try (have hzl := Nat.lt_of_succ_le hz1; try (have hzm := Nat.lt_of_succ_lt hzl)))))
  have hgw : w.heap.size + 1 ≤ g := by have := hg; simp at this; omega
  have hne : ¬ w.heap.size = g := by omega
  have HCU := Lib.hid hcur
  clear hcur hg
  (go_at_call 26; refine (HN1.out g w1 HCU.out).mono ?_; rintro e w2 ⟨rfl, hcu2, hx2⟩; have hc2 := Fr.cells hx2; have hf2 := Fr.frozens hx2; have hz2 := Fr.size hx2; simp only [One, Two, not_or, and_imp] at hc2 hf2; try simp [go_sem] at hz2; try (have hzl := Nat.lt_of_succ_le hz2; try (have hzm := Nat.lt_of_succ_lt hzl)))
  have HC2 := Lib.hid hcu2
  clear hcu2
  have hqa : w.heap.size < w2.heap.size := by omega
  go_wp2_with (first | ((go_at_call 30; refine (HS.out _).mono ?_; rintro e w' ⟨rfl, rfl⟩)))
  (go_at_call 26; refine (HN3.out g w2 HC2.out).mono ?_; rintro e w3 ⟨rfl, hcu3, hx3⟩; have hc3 := Fr.cells hx3; have hf3 := Fr.frozens hx3; have hz3 := Fr.size hx3; simp only [One, Two, not_or, and_imp] at hc3 hf3; try simp [go_sem] at hz3; try (have hzl := Nat.lt_of_succ_le hz3; try (have hzm := Nat.lt_of_succ_lt hzl)))
  have HC3 := Lib.hid hcu3
  clear hcu3
  have hqb : w.heap.size < w3.heap.size := by omega
  go_wp2_with (first | ((go_at_call 27; refine (HS.out _).mono ?_; rintro e w4 ⟨A4, n4, c4, rfl, hs4, hx4⟩; have hc4 := Ext.cells hx4; have hf4 := Ext.frozens hx4; have hz4 := Fr.size hx4; try simp [go_sem] at hz4; try (have hzl := Nat.lt_of_succ_le hz4; try (have hzm := Nat.lt_of_succ_lt hzl))); have hqd : w.heap.size < w4.heap.size := (by omega); have hqe : w.heap.size < w4.heap.size + 1 := (by omega)) | ((go_at_call 29; refine (cursor_Left g _ _ ok _ (HC3.out.ext (Fr.trans hx4 ((by repeat (first | with_reducible assumption | with_reducible exact Fr.refl _ _ | (with_reducible refine Fr.alloc ?_ _) | (with_reducible refine Fr.drew ?_) | (with_reducible refine Fr.drewN ?_ _) | (with_reducible refine Fr.setNew ?_ _ _ _ (by first | with_reducible exact Nat.le_refl _ | omega | (simp; omega))))))))).mono ?_; rintro e w' ⟨rfl, rfl⟩)) | ((go_at_call 28; refine (cursor_End g _ _ ok _ (HC3.out.ext (Fr.trans hx4 ((by repeat (first | with_reducible assumption | with_reducible exact Fr.refl _ _ | (with_reducible refine Fr.alloc ?_ _) | (with_reducible refine Fr.drew ?_) | (with_reducible refine Fr.drewN ?_ _) | (with_reducible refine Fr.setNew ?_ _ _ _ (by first | with_reducible exact Nat.le_refl _ | omega | (simp; omega))))))))).mono ?_; rintro e w' ⟨rfl, rfl⟩)))
  have hee : ((p + l.length : Nat) : Int) = (p : Int) + 4 + l4.length := by omega
  refine bodyPost_ret (v := .tuple #[msgZ, .int .i64 ((p : Int) + 4 + l4.length), .int .i64 4]) (by simp only [results, Tryz.results9]; go_simp) rfl ?_
  rw [← hee]
  have hx9 : Ext w w3 := Fr.trans' (Fr.trans ((by repeat (first | with_reducible assumption | with_reducible exact Fr.refl _ _ | (with_reducible refine Fr.alloc ?_ _) | (with_reducible refine Fr.drew ?_) | (with_reducible refine Fr.drewN ?_ _) | (with_reducible refine Fr.setNew ?_ _ _ _ (by first | with_reducible exact Nat.le_refl _ | omega | (simp; omega)))))) hx1) (hx2.trans hx3) (fun b hb e => by have e : b = g := e; omega)
  have hx8 : Ext w w4 := Fr.trans hx9 hx4
  exact ⟨⟨rfl, by decide⟩, (by repeat (first | with_reducible assumption | with_reducible exact Fr.refl _ _ | (with_reducible refine Fr.alloc ?_ _) | (with_reducible refine Fr.drew ?_) | (with_reducible refine Fr.drewN ?_ _) | (with_reducible refine Fr.setNew ?_ _ _ _ (by first | with_reducible exact Nat.le_refl _ | omega | (simp; omega)))))⟩
set_option maxRecDepth 8000 in
set_option maxHeartbeats 4000000 in
theorem message_more {k n : Nat} {l1 l4 : Bytes} (hh : Head l p k n l1 l4 ok) (f : Form) (hb : SlC Rd.u8 w ok B m cb l) (hok : ∀ b, ok b → b < w.heap.size) (hp : p + l.length ≤ 4611686018427387904) (hf : Form.message k = some f) (hn : n < l4.length) :
    Calls Tryz.prog 9 #[.slice B m cb, .int .i64 p] w (MsgPost l p (.error (p + 4 + n, 6)) w) := by
  have hs := fun w => shape_Message k w
  unfold MsgRet at hs
  simp only [hf] at hs
  have HS := Lib.hid hs
  clear hf hs
  have HN := Lib.hid (fun w h hok => cursor_New B m cb l p ok w h hok (by omega) (by omega))
  have HB := Lib.hid hb
  have HO := Lib.hid hok
  have HN1 := Lib.hid hh.N1
  have HN3 := Lib.hid hh.N3
  have hk1 : IntKind.i64.wrap ((k : Nat) : Int) = ((k : Nat) : Int) := IntWalk.i64_in _ (by have := hh.kl; omega)
  have hk3 : IntKind.i64.wrap ((n : Nat) : Int) = ((n : Nat) : Int) := IntWalk.i64_in _ (by have := hh.nl; omega)
  have hlen := hh.len
  have hnl := hh.nl
  have hp4 : p + 4 + l4.length ≤ 4611686018427387904 := by omega
  clear hb hok hh hp
  go_enter Tryz.func9, Tryz.ntmps9
  go_wp2_with (first | ((go_at_call 25; refine (HN.out _ (HB.out.ext ((by repeat (first | with_reducible assumption | with_reducible exact Fr.refl _ _ | (with_reducible refine Fr.alloc ?_ _) | (with_reducible refine Fr.drew ?_) | (with_reducible refine Fr.drewN ?_ _) | (with_reducible refine Fr.setNew ?_ _ _ _ (by first | with_reducible exact Nat.le_refl _ | omega | (simp; omega))))))) (fun b hb => by have := HO.out b hb; simp; omega)).mono ?_; rintro e w1 ⟨g, rfl, hg, hcur, hx1⟩; have hc1 := Ext.cells hx1; have hf1 := Ext.frozens hx1; have hz1 := Fr.size hx1; try simp [go_sem] at hz1; try (have hzl := Nat.lt_of_succ_le hz1; try (have hzm := Nat.lt_of_succ_lt hzl)))))
  have hgw : w.heap.size + 1 ≤ g := by have := hg; simp at this; omega
  have hne : ¬ w.heap.size = g := by omega
  have HCU := Lib.hid hcur
  clear hcur hg
  (go_at_call 26; refine (HN1.out g w1 HCU.out).mono ?_; rintro e w2 ⟨rfl, hcu2, hx2⟩; have hc2 := Fr.cells hx2; have hf2 := Fr.frozens hx2; have hz2 := Fr.size hx2; simp only [One, Two, not_or, and_imp] at hc2 hf2; try simp [go_sem] at hz2; try (have hzl := Nat.lt_of_succ_le hz2; try (have hzm := Nat.lt_of_succ_lt hzl)))
  have HC2 := Lib.hid hcu2
  clear hcu2
  have hqa : w.heap.size < w2.heap.size := by omega
  go_wp2_with (first | ((go_at_call 30; refine (HS.out _).mono ?_; rintro e w' ⟨rfl, rfl⟩)))
  (go_at_call 26; refine (HN3.out g w2 HC2.out).mono ?_; rintro e w3 ⟨rfl, hcu3, hx3⟩; have hc3 := Fr.cells hx3; have hf3 := Fr.frozens hx3; have hz3 := Fr.size hx3; simp only [One, Two, not_or, and_imp] at hc3 hf3; try simp [go_sem] at hz3; try (have hzl := Nat.lt_of_succ_le hz3; try (have hzm := Nat.lt_of_succ_lt hzl)))
  have HC3 := Lib.hid hcu3
  clear hcu3
  have hqb : w.heap.size < w3.heap.size := by omega
  have hwn : IntKind.i64.wrap (((p + 4 : Nat) : Int) + (n : Int)) = ((p + 4 + n : Nat) : Int) := by rw [IntWalk.i64_in _ (by omega)]; omega
  go_wp2_with (first | ((go_at_call 27; refine (HS.out _).mono ?_; rintro e w4 ⟨A4, n4, c4, rfl, hs4, hx4⟩; have hc4 := Ext.cells hx4; have hf4 := Ext.frozens hx4; have hz4 := Fr.size hx4; try simp [go_sem] at hz4; try (have hzl := Nat.lt_of_succ_le hz4; try (have hzm := Nat.lt_of_succ_lt hzl))); have hqd : w.heap.size < w4.heap.size := (by omega); have hqe : w.heap.size < w4.heap.size + 1 := (by omega)) | ((go_at_call 29; refine (cursor_Left g _ _ ok _ (HC3.out.ext (Fr.trans hx4 ((by repeat (first | with_reducible assumption | with_reducible exact Fr.refl _ _ | (with_reducible refine Fr.alloc ?_ _) | (with_reducible refine Fr.drew ?_) | (with_reducible refine Fr.drewN ?_ _) | (with_reducible refine Fr.setNew ?_ _ _ _ (by first | with_reducible exact Nat.le_refl _ | omega | (simp; omega))))))))).mono ?_; rintro e w' ⟨rfl, rfl⟩)) | ((go_at_call 30; refine (cursor_At g _ _ ok _ (HC3.out.ext (Fr.trans hx4 ((by repeat (first | with_reducible assumption | with_reducible exact Fr.refl _ _ | (with_reducible refine Fr.alloc ?_ _) | (with_reducible refine Fr.drew ?_) | (with_reducible refine Fr.drewN ?_ _) | (with_reducible refine Fr.setNew ?_ _ _ _ (by first | with_reducible exact Nat.le_refl _ | omega | (simp; omega))))))))).mono ?_; rintro e w' ⟨rfl, rfl⟩)))
  refine bodyPost_ret (v := .tuple #[msgZ, .int .i64 (p + 4 + n : Nat), .int .i64 6]) (by simp only [results, Tryz.results9]; go_simp) rfl ?_
  have hx9 : Ext w w3 := Fr.trans' (Fr.trans ((by repeat (first | with_reducible assumption | with_reducible exact Fr.refl _ _ | (with_reducible refine Fr.alloc ?_ _) | (with_reducible refine Fr.drew ?_) | (with_reducible refine Fr.drewN ?_ _) | (with_reducible refine Fr.setNew ?_ _ _ _ (by first | with_reducible exact Nat.le_refl _ | omega | (simp; omega)))))) hx1) (hx2.trans hx3) (fun b hb e => by have e : b = g := e; omega)
  have hx8 : Ext w w4 := Fr.trans hx9 hx4
  exact ⟨⟨rfl, by decide⟩, (by repeat (first | with_reducible assumption | with_reducible exact Fr.refl _ _ | (with_reducible refine Fr.alloc ?_ _) | (with_reducible refine Fr.drew ?_) | (with_reducible refine Fr.drewN ?_ _) | (with_reducible refine Fr.setNew ?_ _ _ _ (by first | with_reducible exact Nat.le_refl _ | omega | (simp; omega)))))⟩
end
end Go.Proofs.YtalbiepdkaldmaaGreatDoor
