/- message.Read where the head is right: the body is read, and asked. -/
import Derived.Test.YtalbiepdkaldmaaGreatDoorProg
import Derived.Test.YtalbiepdkaldmaaGreatDoorMsg3
import Derived.Deep.QuietTactic
import Derived.BigQuiet
import Derived.Deep.LoopGhost
import Derived.Laws.EntriesVeiled
set_option linter.unusedVariables false
set_option linter.unusedSimpArgs false
namespace Go.Proofs.YtalbiepdkaldmaaGreatDoor
open Go.RowKit
section
variable (B : Option Addr) (m cb : Nat) (l : Bytes) (p : Nat) (ok : Nat → Prop) (w : World)
set_option maxRecDepth 8000 in
set_option maxHeartbeats 8000000 in
theorem message_body (ask : Nat → Val → Nat → Bytes → Option (Nat × Nat)) {k n : Nat} {l1 l4 : Bytes} (hh : Head l p k n l1 l4 ok) (f : Form) (hb : SlC Rd.u8 w ok B m cb l) (hok : ∀ b, ok b → b < w.heap.size) (hp : p + l.length ≤ 4611686018427387904) (hm : l.length ≤ 1099511627776)
    (hla : Laid w) (hf : Form.message k = some f) (hn : n = l4.length) (hask : AskSpec ask k) :
    Calls Tryz.prog 9 #[.slice B m cb, .int .i64 p] w (MsgPost l p (match readAll f l4 (p + 4) false with
      | .error e => .error e
      | .ok (v, _) => match ask k v (p + 4) l4 with
        | some e => .error e
        | none => .ok (k, v)) w) := by
  have hs := fun w => shape_Message k w
  unfold MsgRet at hs
  simp only [hf] at hs
  have HS := Lib.hid hs
  have hwf := List.all_eq_true.1 Form.messages_wf _ (message_mem hf)
  simp only [Bool.and_eq_true, decide_eq_true_eq] at hwf
  have hm4 : l4.length ≤ 1099511627776 := by have := hh.len; omega
  have hp4' : p + 4 + l4.length ≤ 4611686018427387904 := by have := hh.len; omega
  have ep4 : ((p + 4 : Nat) : Int) = (p : Int) + 4 := by omega
  have HR : Hid (∀ (B' : Option Addr) (m' c' : Nat) (A : Option Addr) (n c : Nat) (w : World), Laid w → SlC Rd.form w (fun b => b < w.heap.size) A n c f.parts → SlC Rd.u8 w (fun b => b < w.heap.size) B' m' c' l4 →
      Calls Tryz.prog 31 #[formV A n c f, .slice B' m' c', .int .i64 ((p : Int) + 4)] w (AllPost (readAll f l4 (p + 4) false) w)) := Lib.hid (fun B' m' c' A n c w hla h hb => by
    have := read_Read A n c f B' m' c' l4 (p + 4) (fun b => b < w.heap.size) (fun b => b < w.heap.size) w hwf.1 hwf.2 hla h hb (fun _ h => h) (fun _ h => h) hm4 hp4'
    rw [ep4] at this
    exact this)
  have HF := Lib.hid hf
  have HLA := Lib.hid hla
  have hml := hb.len
  have hmc := hb.le
  have hcm := hb.max
  have h4 := hb.drop 4 (by have := hh.len; omega)
  rw [hh.h4] at h4
  have h4m : 4 ≤ m := by have := hh.len; omega
  obtain ⟨b0, o0, hB⟩ := hb.addr (by omega)
  obtain ⟨c4, hcase, HB4⟩ : ∃ c4, (cb = 4 ∧ c4 = 0 ∨ ¬ cb = 4 ∧ c4 = cb - 4) ∧ Hid (SlC Rd.u8 w ok (if cb = 4 then some ⟨b0, o0, none⟩ else some ⟨b0, o0 + 4, none⟩) (m - 4) c4 l4) := by
    by_cases e : cb = 4
    · subst e
      subst hB
      exact ⟨0, .inl ⟨rfl, rfl⟩, Lib.hid (by simpa using h4)⟩
    · subst hB
      rw [if_neg e] at h4
      exact ⟨cb - 4, .inr ⟨e, rfl⟩, Lib.hid (by rw [if_neg e]; simpa [Addr.add, Rd.u8, Rd.scalar] using h4)⟩
  subst hn
  generalize hRR : readAll f l4 (p + 4) false = R at HR ⊢
  have HA : Hid (∀ (v : Val) (x : Nat) (A : Option Addr) (n c : Nat) (A' : Option Addr) (n' c' : Nat) (B : Option Addr) (m cb : Nat) (w : World) q, R = .ok (v, q) → Laid w → Rd.val.K w Any v [.int .u64 x, .slice A n c, .slice A' n' c'] → SlC Rd.u8 w Any B m cb l4 →
      Calls Tryz.prog 32 #[.int .i64 k, .agg #[.int .u64 x, .slice A n c, .slice A' n' c'], .int .i64 ((p : Int) + 4), .slice B m cb] w (AskPost (ask k v (p + 4) l4) w)) := Lib.hid (fun v x A n c A' n' c' B m cb w q hq h1 h2 h3 => by
    have := hask v x A n c A' n' c' (p + 4) B m cb l4 w h1 h2 h3 ⟨f, q, HF.out, hRR.trans hq⟩ hm4 hp4'
    rw [ep4] at this
    exact this)
  have HN := Lib.hid (fun w h hok => cursor_New B m cb l p ok w h hok (by omega) (by omega))
  have HB := Lib.hid hb
  have HO := Lib.hid hok
  have HN1 := Lib.hid hh.N1
  have HN3 := Lib.hid hh.N3
  have hk1 : IntKind.i64.wrap ((k : Nat) : Int) = ((k : Nat) : Int) := IntWalk.i64_in _ (by have := hh.kl; omega)
  have hk3 : IntKind.i64.wrap ((l4.length : Nat) : Int) = ((l4.length : Nat) : Int) := IntWalk.i64_in _ (by have := hh.nl; omega)
  have hlen := hh.len
  have hnl := hh.nl
  have hp4 : p + 4 + l4.length ≤ 4611686018427387904 := by omega
  clear hb hok hh hp
  clear hf hs hask hla hwf h4 hRR ep4 hm4 hp4' hml
  subst hB
  rcases R with ⟨a, c0⟩ | ⟨v, q⟩
  · simp only
    rcases hcase with ⟨rfl, rfl⟩ | ⟨hc4, rfl⟩
    · obtain rfl : m = 4 := by omega
      have HV : Hid (∀ W, Ext w W → SlC Rd.u8 W (fun b => b < W.heap.size) (some ⟨b0, o0, none⟩) 0 0 l4) := Lib.hid fun W hW => ((by simpa using HB4.out : SlC Rd.u8 w ok (some ⟨b0, o0, none⟩) 0 0 l4).ext hW).lt
      go_enter Tryz.func9, Tryz.ntmps9
      go_wp2_with (first | ((go_at_call 25; refine (HN.out _ (HB.out.ext ((by repeat (first | with_reducible assumption | with_reducible exact Fr.refl _ _ | (with_reducible refine Fr.alloc ?_ _) | (with_reducible refine Fr.drew ?_) | (with_reducible refine Fr.drewN ?_ _) | (with_reducible refine Fr.setNew ?_ _ _ _ (by first | with_reducible exact Nat.le_refl _ | omega | (simp; omega))))))) (fun b hb => by have := HO.out b hb; simp; omega)).mono ?_; rintro e w1 ⟨g, rfl, hg, hcur, hx1⟩; have hc1 := Ext.cells hx1; have hf1 := Ext.frozens hx1; have hz1 := Fr.size hx1; try simp [go_sem] at hz1; try (have hzl := Nat.lt_of_succ_le hz1; try (have hzm := Nat.lt_of_succ_lt hzl)))))
      have hgw : w.heap.size + 1 ≤ g := by have := hg; simp at this; omega
      have hne : ¬ w.heap.size = g := by omega
      have HCU := Lib.hid hcur
      clear hcur hg
      (go_at_call 26; refine (HN1.out g w1 HCU.out).mono ?_; rintro e w2 ⟨rfl, hcu2, hx2⟩; have hc2 := Fr.cells hx2; have hf2 := Fr.frozens hx2; have hz2 := Fr.size hx2; simp only [One, Two, not_or, and_imp] at hc2 hf2; try simp [go_sem] at hz2; try (have hzl := Nat.lt_of_succ_le hz2; try (have hzm := Nat.lt_of_succ_lt hzl)))
      have HC2 := Lib.hid hcu2
      clear hcu2
      have hqa : w.heap.size < w2.heap.size := by omega
      go_wp2_with (first | ((go_at_call 30; refine (HS.out _).mono ?_; rintro e w' ⟨rfl, rfl⟩)))
      (go_at_call 26; refine (HN3.out g w2 HC2.out).mono ?_; rintro e w3 ⟨rfl, hcu3, hx3⟩; have hc3 := Fr.cells hx3; have hf3 := Fr.frozens hx3; have hz3 := Fr.size hx3; simp only [One, Two, not_or, and_imp] at hc3 hf3; try simp [go_sem] at hz3; try (have hzl := Nat.lt_of_succ_le hz3; try (have hzm := Nat.lt_of_succ_lt hzl)))
      have HC3 := Lib.hid hcu3
      clear hcu3
      have hqb : w.heap.size < w3.heap.size := by omega
      go_wp2_with (first | ((go_at_call 27; refine (HS.out _).mono ?_; rintro e w4 ⟨A4, n4, c4', rfl, hs4, hx4⟩; have hc4 := Ext.cells hx4; have hf4 := Ext.frozens hx4; have hz4 := Fr.size hx4; try simp [go_sem] at hz4; try (have hzl := Nat.lt_of_succ_le hz4; try (have hzm := Nat.lt_of_succ_lt hzl))); have hqd : w.heap.size < w4.heap.size := (by omega); have hqe : w.heap.size < w4.heap.size + 1 := (by omega)) | ((go_at_call 29; refine (cursor_Left g _ _ ok _ (HC3.out.ext (Fr.trans hx4 ((by repeat (first | with_reducible assumption | with_reducible exact Fr.refl _ _ | (with_reducible refine Fr.alloc ?_ _) | (with_reducible refine Fr.drew ?_) | (with_reducible refine Fr.drewN ?_ _) | (with_reducible refine Fr.setNew ?_ _ _ _ (by first | with_reducible exact Nat.le_refl _ | omega | (simp; omega))))))))).mono ?_; rintro e w' ⟨rfl, rfl⟩)))
      have hx9 : Ext w w3 := Fr.trans' (Fr.trans ((by repeat (first | with_reducible assumption | with_reducible exact Fr.refl _ _ | (with_reducible refine Fr.alloc ?_ _) | (with_reducible refine Fr.drew ?_) | (with_reducible refine Fr.drewN ?_ _) | (with_reducible refine Fr.setNew ?_ _ _ _ (by first | with_reducible exact Nat.le_refl _ | omega | (simp; omega)))))) hx1) (hx2.trans hx3) (fun b hb e => by have e : b = g := e; omega)
      have hx8 : Ext w w4 := Fr.trans hx9 hx4
      have hu : ∀ W, Ext w4 W → Laid W ∧ SlC Rd.form W (fun b => b < W.heap.size) A4 n4 c4' f.parts := fun W hW => ⟨HLA.out.ext (hx8.trans hW), (hs4.ext hW).lt⟩
      go_wp2_with (first | ((go_at_call 31; refine (HR.out _ _ _ _ _ _ _ (hu _ ((Fr.refl _ _).alloc _)).1 (hu _ ((Fr.refl _ _).alloc _)).2 (HV.out _ (Fr.trans hx8 ((Fr.refl _ _).alloc _)))).mono ?_; rintro e w5 ⟨rfl, hpos, hx5⟩; have hc5 := Ext.cells hx5; have hf5 := Ext.frozens hx5; have hz5 := Fr.size hx5; try simp [go_sem] at hz5; try (have hzl := Nat.lt_of_succ_le hz5; try (have hzm := Nat.lt_of_succ_lt hzl))); have hc0 : ((c0 : Int) != 0) = true := (by simp; omega); have hqf : w.heap.size < w5.heap.size := (by omega); have hqg : w.heap.size < w5.heap.size + 1 := (by omega)))
      refine bodyPost_ret (v := .tuple #[msgZ, .int .i64 a, .int .i64 c0]) (by simp only [results, Tryz.results9]; go_simp) rfl ?_
      have hxw5 : Ext w w5 := Fr.trans (Fr.trans hx8 ((Fr.refl _ _).alloc _)) hx5
      exact ⟨⟨rfl, hpos⟩, (by repeat (first | with_reducible assumption | with_reducible exact Fr.refl _ _ | (with_reducible refine Fr.alloc ?_ _) | (with_reducible refine Fr.drew ?_) | (with_reducible refine Fr.drewN ?_ _) | (with_reducible refine Fr.setNew ?_ _ _ _ (by first | with_reducible exact Nat.le_refl _ | omega | (simp; omega)))))⟩
    · have HV : Hid (∀ W, Ext w W → SlC Rd.u8 W (fun b => b < W.heap.size) (some ⟨b0, o0 + 4, none⟩) (m - 4) (cb - 4) l4) := Lib.hid fun W hW => ((by have := HB4.out; rwa [if_neg hc4] at this : SlC Rd.u8 w ok (some ⟨b0, o0 + 4, none⟩) (m - 4) (cb - 4) l4).ext hW).lt
      go_enter Tryz.func9, Tryz.ntmps9
      go_wp2_with (first | ((go_at_call 25; refine (HN.out _ (HB.out.ext ((by repeat (first | with_reducible assumption | with_reducible exact Fr.refl _ _ | (with_reducible refine Fr.alloc ?_ _) | (with_reducible refine Fr.drew ?_) | (with_reducible refine Fr.drewN ?_ _) | (with_reducible refine Fr.setNew ?_ _ _ _ (by first | with_reducible exact Nat.le_refl _ | omega | (simp; omega))))))) (fun b hb => by have := HO.out b hb; simp; omega)).mono ?_; rintro e w1 ⟨g, rfl, hg, hcur, hx1⟩; have hc1 := Ext.cells hx1; have hf1 := Ext.frozens hx1; have hz1 := Fr.size hx1; try simp [go_sem] at hz1; try (have hzl := Nat.lt_of_succ_le hz1; try (have hzm := Nat.lt_of_succ_lt hzl)))))
      have hgw : w.heap.size + 1 ≤ g := by have := hg; simp at this; omega
      have hne : ¬ w.heap.size = g := by omega
      have HCU := Lib.hid hcur
      clear hcur hg
      (go_at_call 26; refine (HN1.out g w1 HCU.out).mono ?_; rintro e w2 ⟨rfl, hcu2, hx2⟩; have hc2 := Fr.cells hx2; have hf2 := Fr.frozens hx2; have hz2 := Fr.size hx2; simp only [One, Two, not_or, and_imp] at hc2 hf2; try simp [go_sem] at hz2; try (have hzl := Nat.lt_of_succ_le hz2; try (have hzm := Nat.lt_of_succ_lt hzl)))
      have HC2 := Lib.hid hcu2
      clear hcu2
      have hqa : w.heap.size < w2.heap.size := by omega
      go_wp2_with (first | ((go_at_call 30; refine (HS.out _).mono ?_; rintro e w' ⟨rfl, rfl⟩)))
      (go_at_call 26; refine (HN3.out g w2 HC2.out).mono ?_; rintro e w3 ⟨rfl, hcu3, hx3⟩; have hc3 := Fr.cells hx3; have hf3 := Fr.frozens hx3; have hz3 := Fr.size hx3; simp only [One, Two, not_or, and_imp] at hc3 hf3; try simp [go_sem] at hz3; try (have hzl := Nat.lt_of_succ_le hz3; try (have hzm := Nat.lt_of_succ_lt hzl)))
      have HC3 := Lib.hid hcu3
      clear hcu3
      have hqb : w.heap.size < w3.heap.size := by omega
      go_wp2_with (first | ((go_at_call 27; refine (HS.out _).mono ?_; rintro e w4 ⟨A4, n4, c4', rfl, hs4, hx4⟩; have hc4 := Ext.cells hx4; have hf4 := Ext.frozens hx4; have hz4 := Fr.size hx4; try simp [go_sem] at hz4; try (have hzl := Nat.lt_of_succ_le hz4; try (have hzm := Nat.lt_of_succ_lt hzl))); have hqd : w.heap.size < w4.heap.size := (by omega); have hqe : w.heap.size < w4.heap.size + 1 := (by omega)) | ((go_at_call 29; refine (cursor_Left g _ _ ok _ (HC3.out.ext (Fr.trans hx4 ((by repeat (first | with_reducible assumption | with_reducible exact Fr.refl _ _ | (with_reducible refine Fr.alloc ?_ _) | (with_reducible refine Fr.drew ?_) | (with_reducible refine Fr.drewN ?_ _) | (with_reducible refine Fr.setNew ?_ _ _ _ (by first | with_reducible exact Nat.le_refl _ | omega | (simp; omega))))))))).mono ?_; rintro e w' ⟨rfl, rfl⟩)))
      have hx9 : Ext w w3 := Fr.trans' (Fr.trans ((by repeat (first | with_reducible assumption | with_reducible exact Fr.refl _ _ | (with_reducible refine Fr.alloc ?_ _) | (with_reducible refine Fr.drew ?_) | (with_reducible refine Fr.drewN ?_ _) | (with_reducible refine Fr.setNew ?_ _ _ _ (by first | with_reducible exact Nat.le_refl _ | omega | (simp; omega)))))) hx1) (hx2.trans hx3) (fun b hb e => by have e : b = g := e; omega)
      have hx8 : Ext w w4 := Fr.trans hx9 hx4
      have hu : ∀ W, Ext w4 W → Laid W ∧ SlC Rd.form W (fun b => b < W.heap.size) A4 n4 c4' f.parts := fun W hW => ⟨HLA.out.ext (hx8.trans hW), (hs4.ext hW).lt⟩
      go_wp2_with (first | ((go_at_call 31; refine (HR.out _ _ _ _ _ _ _ (hu _ ((Fr.refl _ _).alloc _)).1 (hu _ ((Fr.refl _ _).alloc _)).2 (HV.out _ (Fr.trans hx8 ((Fr.refl _ _).alloc _)))).mono ?_; rintro e w5 ⟨rfl, hpos, hx5⟩; have hc5 := Ext.cells hx5; have hf5 := Ext.frozens hx5; have hz5 := Fr.size hx5; try simp [go_sem] at hz5; try (have hzl := Nat.lt_of_succ_le hz5; try (have hzm := Nat.lt_of_succ_lt hzl))); have hc0 : ((c0 : Int) != 0) = true := (by simp; omega); have hqf : w.heap.size < w5.heap.size := (by omega); have hqg : w.heap.size < w5.heap.size + 1 := (by omega)))
      refine bodyPost_ret (v := .tuple #[msgZ, .int .i64 a, .int .i64 c0]) (by simp only [results, Tryz.results9]; go_simp) rfl ?_
      have hxw5 : Ext w w5 := Fr.trans (Fr.trans hx8 ((Fr.refl _ _).alloc _)) hx5
      exact ⟨⟨rfl, hpos⟩, (by repeat (first | with_reducible assumption | with_reducible exact Fr.refl _ _ | (with_reducible refine Fr.alloc ?_ _) | (with_reducible refine Fr.drew ?_) | (with_reducible refine Fr.drewN ?_ _) | (with_reducible refine Fr.setNew ?_ _ _ _ (by first | with_reducible exact Nat.le_refl _ | omega | (simp; omega)))))⟩
  · simp only
    have HA := Lib.hid (HA.out v)
    generalize ask k v (p + 4) l4 = R2 at HA ⊢
    rcases R2 with _ | ⟨a, c0⟩
    · simp only
      rcases hcase with ⟨rfl, rfl⟩ | ⟨hc4, rfl⟩
      · obtain rfl : m = 4 := by omega
        have HV : Hid (∀ W, Ext w W → SlC Rd.u8 W (fun b => b < W.heap.size) (some ⟨b0, o0, none⟩) 0 0 l4) := Lib.hid fun W hW => ((by simpa using HB4.out : SlC Rd.u8 w ok (some ⟨b0, o0, none⟩) 0 0 l4).ext hW).lt
        go_enter Tryz.func9, Tryz.ntmps9
        go_wp2_with (first | ((go_at_call 25; refine (HN.out _ (HB.out.ext ((by repeat (first | with_reducible assumption | with_reducible exact Fr.refl _ _ | (with_reducible refine Fr.alloc ?_ _) | (with_reducible refine Fr.drew ?_) | (with_reducible refine Fr.drewN ?_ _) | (with_reducible refine Fr.setNew ?_ _ _ _ (by first | with_reducible exact Nat.le_refl _ | omega | (simp; omega))))))) (fun b hb => by have := HO.out b hb; simp; omega)).mono ?_; rintro e w1 ⟨g, rfl, hg, hcur, hx1⟩; have hc1 := Ext.cells hx1; have hf1 := Ext.frozens hx1; have hz1 := Fr.size hx1; try simp [go_sem] at hz1; try (have hzl := Nat.lt_of_succ_le hz1; try (have hzm := Nat.lt_of_succ_lt hzl)))))
        have hgw : w.heap.size + 1 ≤ g := by have := hg; simp at this; omega
        have hne : ¬ w.heap.size = g := by omega
        have HCU := Lib.hid hcur
        clear hcur hg
        (go_at_call 26; refine (HN1.out g w1 HCU.out).mono ?_; rintro e w2 ⟨rfl, hcu2, hx2⟩; have hc2 := Fr.cells hx2; have hf2 := Fr.frozens hx2; have hz2 := Fr.size hx2; simp only [One, Two, not_or, and_imp] at hc2 hf2; try simp [go_sem] at hz2; try (have hzl := Nat.lt_of_succ_le hz2; try (have hzm := Nat.lt_of_succ_lt hzl)))
        have HC2 := Lib.hid hcu2
        clear hcu2
        have hqa : w.heap.size < w2.heap.size := by omega
        go_wp2_with (first | ((go_at_call 30; refine (HS.out _).mono ?_; rintro e w' ⟨rfl, rfl⟩)))
        (go_at_call 26; refine (HN3.out g w2 HC2.out).mono ?_; rintro e w3 ⟨rfl, hcu3, hx3⟩; have hc3 := Fr.cells hx3; have hf3 := Fr.frozens hx3; have hz3 := Fr.size hx3; simp only [One, Two, not_or, and_imp] at hc3 hf3; try simp [go_sem] at hz3; try (have hzl := Nat.lt_of_succ_le hz3; try (have hzm := Nat.lt_of_succ_lt hzl)))
        have HC3 := Lib.hid hcu3
        clear hcu3
        have hqb : w.heap.size < w3.heap.size := by omega
        go_wp2_with (first | ((go_at_call 27; refine (HS.out _).mono ?_; rintro e w4 ⟨A4, n4, c4', rfl, hs4, hx4⟩; have hc4 := Ext.cells hx4; have hf4 := Ext.frozens hx4; have hz4 := Fr.size hx4; try simp [go_sem] at hz4; try (have hzl := Nat.lt_of_succ_le hz4; try (have hzm := Nat.lt_of_succ_lt hzl))); have hqd : w.heap.size < w4.heap.size := (by omega); have hqe : w.heap.size < w4.heap.size + 1 := (by omega)) | ((go_at_call 29; refine (cursor_Left g _ _ ok _ (HC3.out.ext (Fr.trans hx4 ((by repeat (first | with_reducible assumption | with_reducible exact Fr.refl _ _ | (with_reducible refine Fr.alloc ?_ _) | (with_reducible refine Fr.drew ?_) | (with_reducible refine Fr.drewN ?_ _) | (with_reducible refine Fr.setNew ?_ _ _ _ (by first | with_reducible exact Nat.le_refl _ | omega | (simp; omega))))))))).mono ?_; rintro e w' ⟨rfl, rfl⟩)))
        have hx9 : Ext w w3 := Fr.trans' (Fr.trans ((by repeat (first | with_reducible assumption | with_reducible exact Fr.refl _ _ | (with_reducible refine Fr.alloc ?_ _) | (with_reducible refine Fr.drew ?_) | (with_reducible refine Fr.drewN ?_ _) | (with_reducible refine Fr.setNew ?_ _ _ _ (by first | with_reducible exact Nat.le_refl _ | omega | (simp; omega)))))) hx1) (hx2.trans hx3) (fun b hb e => by have e : b = g := e; omega)
        have hx8 : Ext w w4 := Fr.trans hx9 hx4
        have hu : ∀ W, Ext w4 W → Laid W ∧ SlC Rd.form W (fun b => b < W.heap.size) A4 n4 c4' f.parts := fun W hW => ⟨HLA.out.ext (hx8.trans hW), (hs4.ext hW).lt⟩
        go_wp2_with (first | ((go_at_call 31; refine (HR.out _ _ _ _ _ _ _ (hu _ ((Fr.refl _ _).alloc _)).1 (hu _ ((Fr.refl _ _).alloc _)).2 (HV.out _ (Fr.trans hx8 ((Fr.refl _ _).alloc _)))).mono ?_; rintro e w5 ⟨x5, A5, n5, c5, A6, n6, c6, rfl, hK5, hx5⟩; have hc5 := Ext.cells hx5; have hf5 := Ext.frozens hx5; have hz5 := Fr.size hx5; try simp [go_sem] at hz5; try (have hzl := Nat.lt_of_succ_le hz5; try (have hzm := Nat.lt_of_succ_lt hzl))); have hqf : w.heap.size < w5.heap.size := (by omega); have hqg : w.heap.size < w5.heap.size + 1 := (by omega); have hxw5 : Ext w w5 := Fr.trans (Fr.trans hx8 ((Fr.refl _ _).alloc _)) hx5))
        (go_at_call 32; refine (HA.out x5 A5 n5 c5 A6 n6 c6 _ _ _ _ q rfl (HLA.out.ext (Fr.trans hxw5 ((Fr.refl _ _).alloc _))) (Rd.val.ext (Rd.val.any hK5) ((Fr.refl _ _).alloc _)) (HV.out _ (Fr.trans hxw5 ((Fr.refl _ _).alloc _))).any).mono ?_; rintro e w7 ⟨⟨a7, rfl⟩, hx7⟩; have hc7 := Ext.cells hx7; have hf7 := Ext.frozens hx7; have hz7 := Fr.size hx7; try simp [go_sem] at hz7; try (have hzl := Nat.lt_of_succ_le hz7; try (have hzm := Nat.lt_of_succ_lt hzl)))
        have hqh : w.heap.size < w7.heap.size := (by omega)
        have hqi : w5.heap.size < w7.heap.size := (by omega)
        go_wp2
        have HK5 := Lib.hid hK5
        clear hK5
        (refine wp_region_mixE _ 6 6 (by kernel_rfl) (by kernel_rfl) ?_; simp only [List.take_succ_cons, List.take_zero])
        (repeat (first | (apply wpStl_op; (focus (first | rfl | (go_simp; done))); (focus (intro w' hw'; have hcy := Ext.cells hw'; go_simp; first | done | rfl | exact ⟨rfl, rfl⟩)); (intro K hK; go_simp; refine hK _ ?_; clear hK K)) | (refine wpStl_no ?_ (fun K hK => ?_); (focus (first | rfl | (go_simp; done))); go_simp; refine hK _ ?_; clear hK K)))
        (refine wpStl_op (.int .i64 ((p + 4 : Nat) + l4.length)) ?_ (fun w' hw' => ?_) (fun K hK => ?_); (focus (first | rfl | (go_simp; done))); rotate_left; (go_simp; refine hK _ ?_; clear hK K); rotate_left; (skip; go_simp))
        · exact (cursor_End g _ _ ok w' (HC3.out.ext (Fr.trans (Fr.trans hx4 ((Fr.refl _ _).alloc _)) (Fr.trans hx5 (Fr.trans ((Fr.refl _ _).alloc _) (Fr.trans hx7 hw')))))).mono fun e w'' hh => ⟨hh.1, hh.2.symm⟩
        (repeat (first | (apply wpStl_op; (focus (first | rfl | (go_simp; done))); (focus (intro w' hw'; have hcy := Ext.cells hw'; go_simp; first | done | rfl | exact ⟨rfl, rfl⟩)); (intro K hK; go_simp; refine hK _ ?_; clear hK K)) | (refine wpStl_no ?_ (fun K hK => ?_); (focus (first | rfl | (go_simp; done))); go_simp; refine hK _ ?_; clear hK K)))
        (show wpMid _ _ _ _ _ _ _; simp only [List.drop_succ_cons, List.drop_zero, List.take_succ_cons, List.take_zero, Nat.reduceSub])
        (show wpList _ _ _ _ _ _; try simp only [List.drop_succ_cons, List.drop_zero])
        go_wp2
        have hee : ((p + l.length : Nat) : Int) = (p : Int) + 4 + l4.length := by omega
        refine bodyPost_ret (v := .tuple #[.agg #[.int .i64 k, .int .u64 x5, .slice A5 n5 c5, .slice A6 n6 c6], .int .i64 ((p : Int) + 4 + l4.length), .int .i64 0]) (by simp only [results, Tryz.results9]; go_simp) rfl ?_
        rw [← hee]
        have hx6 : Ext w w7 := Fr.trans (Fr.trans hxw5 ((Fr.refl _ _).alloc _)) hx7
        have hx56 : Ext w5 w7 := Fr.trans ((Fr.refl _ _).alloc _) hx7
        refine ⟨⟨x5, A5, n5, c5, A6, n6, c6, rfl, Rd.val.mono (fun b _ h => ?_) (Rd.val.move (w := w7) (fun b h hlt => Fr.block (F := One w.heap.size) ((by repeat (first | with_reducible exact Fr.refl _ _ | (with_reducible refine Fr.set ?_ _ _ _ (One.self _)) | (with_reducible refine Fr.alloc ?_ _) | (with_reducible refine Fr.drew ?_)))) b hlt (fun e => ?_)) (Rd.val.ext HK5.out hx56))⟩, (by repeat (first | with_reducible assumption | with_reducible exact Fr.refl _ _ | (with_reducible refine Fr.alloc ?_ _) | (with_reducible refine Fr.drew ?_) | (with_reducible refine Fr.drewN ?_ _) | (with_reducible refine Fr.setNew ?_ _ _ _ (by first | with_reducible exact Nat.le_refl _ | omega | (simp; omega)))))⟩
        · have h : (w4.alloc _).heap.size ≤ b := h
          simp at h
          omega
        · have h : (w4.alloc _).heap.size ≤ b := h
          have e : b = w.heap.size := e
          simp at h
          omega
      · have HV : Hid (∀ W, Ext w W → SlC Rd.u8 W (fun b => b < W.heap.size) (some ⟨b0, o0 + 4, none⟩) (m - 4) (cb - 4) l4) := Lib.hid fun W hW => ((by have := HB4.out; rwa [if_neg hc4] at this : SlC Rd.u8 w ok (some ⟨b0, o0 + 4, none⟩) (m - 4) (cb - 4) l4).ext hW).lt
        go_enter Tryz.func9, Tryz.ntmps9
        go_wp2_with (first | ((go_at_call 25; refine (HN.out _ (HB.out.ext ((by repeat (first | with_reducible assumption | with_reducible exact Fr.refl _ _ | (with_reducible refine Fr.alloc ?_ _) | (with_reducible refine Fr.drew ?_) | (with_reducible refine Fr.drewN ?_ _) | (with_reducible refine Fr.setNew ?_ _ _ _ (by first | with_reducible exact Nat.le_refl _ | omega | (simp; omega))))))) (fun b hb => by have := HO.out b hb; simp; omega)).mono ?_; rintro e w1 ⟨g, rfl, hg, hcur, hx1⟩; have hc1 := Ext.cells hx1; have hf1 := Ext.frozens hx1; have hz1 := Fr.size hx1; try simp [go_sem] at hz1; try (have hzl := Nat.lt_of_succ_le hz1; try (have hzm := Nat.lt_of_succ_lt hzl)))))
        have hgw : w.heap.size + 1 ≤ g := by have := hg; simp at this; omega
        have hne : ¬ w.heap.size = g := by omega
        have HCU := Lib.hid hcur
        clear hcur hg
        (go_at_call 26; refine (HN1.out g w1 HCU.out).mono ?_; rintro e w2 ⟨rfl, hcu2, hx2⟩; have hc2 := Fr.cells hx2; have hf2 := Fr.frozens hx2; have hz2 := Fr.size hx2; simp only [One, Two, not_or, and_imp] at hc2 hf2; try simp [go_sem] at hz2; try (have hzl := Nat.lt_of_succ_le hz2; try (have hzm := Nat.lt_of_succ_lt hzl)))
        have HC2 := Lib.hid hcu2
        clear hcu2
        have hqa : w.heap.size < w2.heap.size := by omega
        go_wp2_with (first | ((go_at_call 30; refine (HS.out _).mono ?_; rintro e w' ⟨rfl, rfl⟩)))
        (go_at_call 26; refine (HN3.out g w2 HC2.out).mono ?_; rintro e w3 ⟨rfl, hcu3, hx3⟩; have hc3 := Fr.cells hx3; have hf3 := Fr.frozens hx3; have hz3 := Fr.size hx3; simp only [One, Two, not_or, and_imp] at hc3 hf3; try simp [go_sem] at hz3; try (have hzl := Nat.lt_of_succ_le hz3; try (have hzm := Nat.lt_of_succ_lt hzl)))
        have HC3 := Lib.hid hcu3
        clear hcu3
        have hqb : w.heap.size < w3.heap.size := by omega
        go_wp2_with (first | ((go_at_call 27; refine (HS.out _).mono ?_; rintro e w4 ⟨A4, n4, c4', rfl, hs4, hx4⟩; have hc4 := Ext.cells hx4; have hf4 := Ext.frozens hx4; have hz4 := Fr.size hx4; try simp [go_sem] at hz4; try (have hzl := Nat.lt_of_succ_le hz4; try (have hzm := Nat.lt_of_succ_lt hzl))); have hqd : w.heap.size < w4.heap.size := (by omega); have hqe : w.heap.size < w4.heap.size + 1 := (by omega)) | ((go_at_call 29; refine (cursor_Left g _ _ ok _ (HC3.out.ext (Fr.trans hx4 ((by repeat (first | with_reducible assumption | with_reducible exact Fr.refl _ _ | (with_reducible refine Fr.alloc ?_ _) | (with_reducible refine Fr.drew ?_) | (with_reducible refine Fr.drewN ?_ _) | (with_reducible refine Fr.setNew ?_ _ _ _ (by first | with_reducible exact Nat.le_refl _ | omega | (simp; omega))))))))).mono ?_; rintro e w' ⟨rfl, rfl⟩)))
        have hx9 : Ext w w3 := Fr.trans' (Fr.trans ((by repeat (first | with_reducible assumption | with_reducible exact Fr.refl _ _ | (with_reducible refine Fr.alloc ?_ _) | (with_reducible refine Fr.drew ?_) | (with_reducible refine Fr.drewN ?_ _) | (with_reducible refine Fr.setNew ?_ _ _ _ (by first | with_reducible exact Nat.le_refl _ | omega | (simp; omega)))))) hx1) (hx2.trans hx3) (fun b hb e => by have e : b = g := e; omega)
        have hx8 : Ext w w4 := Fr.trans hx9 hx4
        have hu : ∀ W, Ext w4 W → Laid W ∧ SlC Rd.form W (fun b => b < W.heap.size) A4 n4 c4' f.parts := fun W hW => ⟨HLA.out.ext (hx8.trans hW), (hs4.ext hW).lt⟩
        go_wp2_with (first | ((go_at_call 31; refine (HR.out _ _ _ _ _ _ _ (hu _ ((Fr.refl _ _).alloc _)).1 (hu _ ((Fr.refl _ _).alloc _)).2 (HV.out _ (Fr.trans hx8 ((Fr.refl _ _).alloc _)))).mono ?_; rintro e w5 ⟨x5, A5, n5, c5, A6, n6, c6, rfl, hK5, hx5⟩; have hc5 := Ext.cells hx5; have hf5 := Ext.frozens hx5; have hz5 := Fr.size hx5; try simp [go_sem] at hz5; try (have hzl := Nat.lt_of_succ_le hz5; try (have hzm := Nat.lt_of_succ_lt hzl))); have hqf : w.heap.size < w5.heap.size := (by omega); have hqg : w.heap.size < w5.heap.size + 1 := (by omega); have hxw5 : Ext w w5 := Fr.trans (Fr.trans hx8 ((Fr.refl _ _).alloc _)) hx5))
        (go_at_call 32; refine (HA.out x5 A5 n5 c5 A6 n6 c6 _ _ _ _ q rfl (HLA.out.ext (Fr.trans hxw5 ((Fr.refl _ _).alloc _))) (Rd.val.ext (Rd.val.any hK5) ((Fr.refl _ _).alloc _)) (HV.out _ (Fr.trans hxw5 ((Fr.refl _ _).alloc _))).any).mono ?_; rintro e w7 ⟨⟨a7, rfl⟩, hx7⟩; have hc7 := Ext.cells hx7; have hf7 := Ext.frozens hx7; have hz7 := Fr.size hx7; try simp [go_sem] at hz7; try (have hzl := Nat.lt_of_succ_le hz7; try (have hzm := Nat.lt_of_succ_lt hzl)))
        have hqh : w.heap.size < w7.heap.size := (by omega)
        have hqi : w5.heap.size < w7.heap.size := (by omega)
        go_wp2
        have HK5 := Lib.hid hK5
        clear hK5
        (refine wp_region_mixE _ 6 6 (by kernel_rfl) (by kernel_rfl) ?_; simp only [List.take_succ_cons, List.take_zero])
        (repeat (first | (apply wpStl_op; (focus (first | rfl | (go_simp; done))); (focus (intro w' hw'; have hcy := Ext.cells hw'; go_simp; first | done | rfl | exact ⟨rfl, rfl⟩)); (intro K hK; go_simp; refine hK _ ?_; clear hK K)) | (refine wpStl_no ?_ (fun K hK => ?_); (focus (first | rfl | (go_simp; done))); go_simp; refine hK _ ?_; clear hK K)))
        (refine wpStl_op (.int .i64 ((p + 4 : Nat) + l4.length)) ?_ (fun w' hw' => ?_) (fun K hK => ?_); (focus (first | rfl | (go_simp; done))); rotate_left; (go_simp; refine hK _ ?_; clear hK K); rotate_left; (skip; go_simp))
        · exact (cursor_End g _ _ ok w' (HC3.out.ext (Fr.trans (Fr.trans hx4 ((Fr.refl _ _).alloc _)) (Fr.trans hx5 (Fr.trans ((Fr.refl _ _).alloc _) (Fr.trans hx7 hw')))))).mono fun e w'' hh => ⟨hh.1, hh.2.symm⟩
        (repeat (first | (apply wpStl_op; (focus (first | rfl | (go_simp; done))); (focus (intro w' hw'; have hcy := Ext.cells hw'; go_simp; first | done | rfl | exact ⟨rfl, rfl⟩)); (intro K hK; go_simp; refine hK _ ?_; clear hK K)) | (refine wpStl_no ?_ (fun K hK => ?_); (focus (first | rfl | (go_simp; done))); go_simp; refine hK _ ?_; clear hK K)))
        (show wpMid _ _ _ _ _ _ _; simp only [List.drop_succ_cons, List.drop_zero, List.take_succ_cons, List.take_zero, Nat.reduceSub])
        (show wpList _ _ _ _ _ _; try simp only [List.drop_succ_cons, List.drop_zero])
        go_wp2
        have hee : ((p + l.length : Nat) : Int) = (p : Int) + 4 + l4.length := by omega
        refine bodyPost_ret (v := .tuple #[.agg #[.int .i64 k, .int .u64 x5, .slice A5 n5 c5, .slice A6 n6 c6], .int .i64 ((p : Int) + 4 + l4.length), .int .i64 0]) (by simp only [results, Tryz.results9]; go_simp) rfl ?_
        rw [← hee]
        have hx6 : Ext w w7 := Fr.trans (Fr.trans hxw5 ((Fr.refl _ _).alloc _)) hx7
        have hx56 : Ext w5 w7 := Fr.trans ((Fr.refl _ _).alloc _) hx7
        refine ⟨⟨x5, A5, n5, c5, A6, n6, c6, rfl, Rd.val.mono (fun b _ h => ?_) (Rd.val.move (w := w7) (fun b h hlt => Fr.block (F := One w.heap.size) ((by repeat (first | with_reducible exact Fr.refl _ _ | (with_reducible refine Fr.set ?_ _ _ _ (One.self _)) | (with_reducible refine Fr.alloc ?_ _) | (with_reducible refine Fr.drew ?_)))) b hlt (fun e => ?_)) (Rd.val.ext HK5.out hx56))⟩, (by repeat (first | with_reducible assumption | with_reducible exact Fr.refl _ _ | (with_reducible refine Fr.alloc ?_ _) | (with_reducible refine Fr.drew ?_) | (with_reducible refine Fr.drewN ?_ _) | (with_reducible refine Fr.setNew ?_ _ _ _ (by first | with_reducible exact Nat.le_refl _ | omega | (simp; omega)))))⟩
        · have h : (w4.alloc _).heap.size ≤ b := h
          simp at h
          omega
        · have h : (w4.alloc _).heap.size ≤ b := h
          have e : b = w.heap.size := e
          simp at h
          omega
    · simp only
      rcases hcase with ⟨rfl, rfl⟩ | ⟨hc4, rfl⟩
      · obtain rfl : m = 4 := by omega
        have HV : Hid (∀ W, Ext w W → SlC Rd.u8 W (fun b => b < W.heap.size) (some ⟨b0, o0, none⟩) 0 0 l4) := Lib.hid fun W hW => ((by simpa using HB4.out : SlC Rd.u8 w ok (some ⟨b0, o0, none⟩) 0 0 l4).ext hW).lt
        go_enter Tryz.func9, Tryz.ntmps9
        go_wp2_with (first | ((go_at_call 25; refine (HN.out _ (HB.out.ext ((by repeat (first | with_reducible assumption | with_reducible exact Fr.refl _ _ | (with_reducible refine Fr.alloc ?_ _) | (with_reducible refine Fr.drew ?_) | (with_reducible refine Fr.drewN ?_ _) | (with_reducible refine Fr.setNew ?_ _ _ _ (by first | with_reducible exact Nat.le_refl _ | omega | (simp; omega))))))) (fun b hb => by have := HO.out b hb; simp; omega)).mono ?_; rintro e w1 ⟨g, rfl, hg, hcur, hx1⟩; have hc1 := Ext.cells hx1; have hf1 := Ext.frozens hx1; have hz1 := Fr.size hx1; try simp [go_sem] at hz1; try (have hzl := Nat.lt_of_succ_le hz1; try (have hzm := Nat.lt_of_succ_lt hzl)))))
        have hgw : w.heap.size + 1 ≤ g := by have := hg; simp at this; omega
        have hne : ¬ w.heap.size = g := by omega
        have HCU := Lib.hid hcur
        clear hcur hg
        (go_at_call 26; refine (HN1.out g w1 HCU.out).mono ?_; rintro e w2 ⟨rfl, hcu2, hx2⟩; have hc2 := Fr.cells hx2; have hf2 := Fr.frozens hx2; have hz2 := Fr.size hx2; simp only [One, Two, not_or, and_imp] at hc2 hf2; try simp [go_sem] at hz2; try (have hzl := Nat.lt_of_succ_le hz2; try (have hzm := Nat.lt_of_succ_lt hzl)))
        have HC2 := Lib.hid hcu2
        clear hcu2
        have hqa : w.heap.size < w2.heap.size := by omega
        go_wp2_with (first | ((go_at_call 30; refine (HS.out _).mono ?_; rintro e w' ⟨rfl, rfl⟩)))
        (go_at_call 26; refine (HN3.out g w2 HC2.out).mono ?_; rintro e w3 ⟨rfl, hcu3, hx3⟩; have hc3 := Fr.cells hx3; have hf3 := Fr.frozens hx3; have hz3 := Fr.size hx3; simp only [One, Two, not_or, and_imp] at hc3 hf3; try simp [go_sem] at hz3; try (have hzl := Nat.lt_of_succ_le hz3; try (have hzm := Nat.lt_of_succ_lt hzl)))
        have HC3 := Lib.hid hcu3
        clear hcu3
        have hqb : w.heap.size < w3.heap.size := by omega
        go_wp2_with (first | ((go_at_call 27; refine (HS.out _).mono ?_; rintro e w4 ⟨A4, n4, c4', rfl, hs4, hx4⟩; have hc4 := Ext.cells hx4; have hf4 := Ext.frozens hx4; have hz4 := Fr.size hx4; try simp [go_sem] at hz4; try (have hzl := Nat.lt_of_succ_le hz4; try (have hzm := Nat.lt_of_succ_lt hzl))); have hqd : w.heap.size < w4.heap.size := (by omega); have hqe : w.heap.size < w4.heap.size + 1 := (by omega)) | ((go_at_call 29; refine (cursor_Left g _ _ ok _ (HC3.out.ext (Fr.trans hx4 ((by repeat (first | with_reducible assumption | with_reducible exact Fr.refl _ _ | (with_reducible refine Fr.alloc ?_ _) | (with_reducible refine Fr.drew ?_) | (with_reducible refine Fr.drewN ?_ _) | (with_reducible refine Fr.setNew ?_ _ _ _ (by first | with_reducible exact Nat.le_refl _ | omega | (simp; omega))))))))).mono ?_; rintro e w' ⟨rfl, rfl⟩)))
        have hx9 : Ext w w3 := Fr.trans' (Fr.trans ((by repeat (first | with_reducible assumption | with_reducible exact Fr.refl _ _ | (with_reducible refine Fr.alloc ?_ _) | (with_reducible refine Fr.drew ?_) | (with_reducible refine Fr.drewN ?_ _) | (with_reducible refine Fr.setNew ?_ _ _ _ (by first | with_reducible exact Nat.le_refl _ | omega | (simp; omega)))))) hx1) (hx2.trans hx3) (fun b hb e => by have e : b = g := e; omega)
        have hx8 : Ext w w4 := Fr.trans hx9 hx4
        have hu : ∀ W, Ext w4 W → Laid W ∧ SlC Rd.form W (fun b => b < W.heap.size) A4 n4 c4' f.parts := fun W hW => ⟨HLA.out.ext (hx8.trans hW), (hs4.ext hW).lt⟩
        go_wp2_with (first | ((go_at_call 31; refine (HR.out _ _ _ _ _ _ _ (hu _ ((Fr.refl _ _).alloc _)).1 (hu _ ((Fr.refl _ _).alloc _)).2 (HV.out _ (Fr.trans hx8 ((Fr.refl _ _).alloc _)))).mono ?_; rintro e w5 ⟨x5, A5, n5, c5, A6, n6, c6, rfl, hK5, hx5⟩; have hc5 := Ext.cells hx5; have hf5 := Ext.frozens hx5; have hz5 := Fr.size hx5; try simp [go_sem] at hz5; try (have hzl := Nat.lt_of_succ_le hz5; try (have hzm := Nat.lt_of_succ_lt hzl))); have hqf : w.heap.size < w5.heap.size := (by omega); have hqg : w.heap.size < w5.heap.size + 1 := (by omega); have hxw5 : Ext w w5 := Fr.trans (Fr.trans hx8 ((Fr.refl _ _).alloc _)) hx5))
        (go_at_call 32; refine (HA.out x5 A5 n5 c5 A6 n6 c6 _ _ _ _ q rfl (HLA.out.ext (Fr.trans hxw5 ((Fr.refl _ _).alloc _))) (Rd.val.ext (Rd.val.any hK5) ((Fr.refl _ _).alloc _)) (HV.out _ (Fr.trans hxw5 ((Fr.refl _ _).alloc _))).any).mono ?_; rintro e w7 ⟨⟨rfl, hpos⟩, hx7⟩; have hc7 := Ext.cells hx7; have hf7 := Ext.frozens hx7; have hz7 := Fr.size hx7; try simp [go_sem] at hz7; try (have hzl := Nat.lt_of_succ_le hz7; try (have hzm := Nat.lt_of_succ_lt hzl)))
        have hc0 : ((c0 : Int) != 0) = true := (by simp; omega)
        have hqh : w.heap.size < w7.heap.size := (by omega)
        have hqi : w5.heap.size < w7.heap.size := (by omega)
        go_wp2
        refine bodyPost_ret (v := .tuple #[msgZ, .int .i64 a, .int .i64 c0]) (by simp only [results, Tryz.results9]; go_simp) rfl ?_
        have hx6 : Ext w w7 := Fr.trans (Fr.trans hxw5 ((Fr.refl _ _).alloc _)) hx7
        exact ⟨⟨rfl, hpos⟩, (by repeat (first | with_reducible assumption | with_reducible exact Fr.refl _ _ | (with_reducible refine Fr.alloc ?_ _) | (with_reducible refine Fr.drew ?_) | (with_reducible refine Fr.drewN ?_ _) | (with_reducible refine Fr.setNew ?_ _ _ _ (by first | with_reducible exact Nat.le_refl _ | omega | (simp; omega)))))⟩
      · have HV : Hid (∀ W, Ext w W → SlC Rd.u8 W (fun b => b < W.heap.size) (some ⟨b0, o0 + 4, none⟩) (m - 4) (cb - 4) l4) := Lib.hid fun W hW => ((by have := HB4.out; rwa [if_neg hc4] at this : SlC Rd.u8 w ok (some ⟨b0, o0 + 4, none⟩) (m - 4) (cb - 4) l4).ext hW).lt
        go_enter Tryz.func9, Tryz.ntmps9
        go_wp2_with (first | ((go_at_call 25; refine (HN.out _ (HB.out.ext ((by repeat (first | with_reducible assumption | with_reducible exact Fr.refl _ _ | (with_reducible refine Fr.alloc ?_ _) | (with_reducible refine Fr.drew ?_) | (with_reducible refine Fr.drewN ?_ _) | (with_reducible refine Fr.setNew ?_ _ _ _ (by first | with_reducible exact Nat.le_refl _ | omega | (simp; omega))))))) (fun b hb => by have := HO.out b hb; simp; omega)).mono ?_; rintro e w1 ⟨g, rfl, hg, hcur, hx1⟩; have hc1 := Ext.cells hx1; have hf1 := Ext.frozens hx1; have hz1 := Fr.size hx1; try simp [go_sem] at hz1; try (have hzl := Nat.lt_of_succ_le hz1; try (have hzm := Nat.lt_of_succ_lt hzl)))))
        have hgw : w.heap.size + 1 ≤ g := by have := hg; simp at this; omega
        have hne : ¬ w.heap.size = g := by omega
        have HCU := Lib.hid hcur
        clear hcur hg
        (go_at_call 26; refine (HN1.out g w1 HCU.out).mono ?_; rintro e w2 ⟨rfl, hcu2, hx2⟩; have hc2 := Fr.cells hx2; have hf2 := Fr.frozens hx2; have hz2 := Fr.size hx2; simp only [One, Two, not_or, and_imp] at hc2 hf2; try simp [go_sem] at hz2; try (have hzl := Nat.lt_of_succ_le hz2; try (have hzm := Nat.lt_of_succ_lt hzl)))
        have HC2 := Lib.hid hcu2
        clear hcu2
        have hqa : w.heap.size < w2.heap.size := by omega
        go_wp2_with (first | ((go_at_call 30; refine (HS.out _).mono ?_; rintro e w' ⟨rfl, rfl⟩)))
        (go_at_call 26; refine (HN3.out g w2 HC2.out).mono ?_; rintro e w3 ⟨rfl, hcu3, hx3⟩; have hc3 := Fr.cells hx3; have hf3 := Fr.frozens hx3; have hz3 := Fr.size hx3; simp only [One, Two, not_or, and_imp] at hc3 hf3; try simp [go_sem] at hz3; try (have hzl := Nat.lt_of_succ_le hz3; try (have hzm := Nat.lt_of_succ_lt hzl)))
        have HC3 := Lib.hid hcu3
        clear hcu3
        have hqb : w.heap.size < w3.heap.size := by omega
        go_wp2_with (first | ((go_at_call 27; refine (HS.out _).mono ?_; rintro e w4 ⟨A4, n4, c4', rfl, hs4, hx4⟩; have hc4 := Ext.cells hx4; have hf4 := Ext.frozens hx4; have hz4 := Fr.size hx4; try simp [go_sem] at hz4; try (have hzl := Nat.lt_of_succ_le hz4; try (have hzm := Nat.lt_of_succ_lt hzl))); have hqd : w.heap.size < w4.heap.size := (by omega); have hqe : w.heap.size < w4.heap.size + 1 := (by omega)) | ((go_at_call 29; refine (cursor_Left g _ _ ok _ (HC3.out.ext (Fr.trans hx4 ((by repeat (first | with_reducible assumption | with_reducible exact Fr.refl _ _ | (with_reducible refine Fr.alloc ?_ _) | (with_reducible refine Fr.drew ?_) | (with_reducible refine Fr.drewN ?_ _) | (with_reducible refine Fr.setNew ?_ _ _ _ (by first | with_reducible exact Nat.le_refl _ | omega | (simp; omega))))))))).mono ?_; rintro e w' ⟨rfl, rfl⟩)))
        have hx9 : Ext w w3 := Fr.trans' (Fr.trans ((by repeat (first | with_reducible assumption | with_reducible exact Fr.refl _ _ | (with_reducible refine Fr.alloc ?_ _) | (with_reducible refine Fr.drew ?_) | (with_reducible refine Fr.drewN ?_ _) | (with_reducible refine Fr.setNew ?_ _ _ _ (by first | with_reducible exact Nat.le_refl _ | omega | (simp; omega)))))) hx1) (hx2.trans hx3) (fun b hb e => by have e : b = g := e; omega)
        have hx8 : Ext w w4 := Fr.trans hx9 hx4
        have hu : ∀ W, Ext w4 W → Laid W ∧ SlC Rd.form W (fun b => b < W.heap.size) A4 n4 c4' f.parts := fun W hW => ⟨HLA.out.ext (hx8.trans hW), (hs4.ext hW).lt⟩
        go_wp2_with (first | ((go_at_call 31; refine (HR.out _ _ _ _ _ _ _ (hu _ ((Fr.refl _ _).alloc _)).1 (hu _ ((Fr.refl _ _).alloc _)).2 (HV.out _ (Fr.trans hx8 ((Fr.refl _ _).alloc _)))).mono ?_; rintro e w5 ⟨x5, A5, n5, c5, A6, n6, c6, rfl, hK5, hx5⟩; have hc5 := Ext.cells hx5; have hf5 := Ext.frozens hx5; have hz5 := Fr.size hx5; try simp [go_sem] at hz5; try (have hzl := Nat.lt_of_succ_le hz5; try (have hzm := Nat.lt_of_succ_lt hzl))); have hqf : w.heap.size < w5.heap.size := (by omega); have hqg : w.heap.size < w5.heap.size + 1 := (by omega); have hxw5 : Ext w w5 := Fr.trans (Fr.trans hx8 ((Fr.refl _ _).alloc _)) hx5))
        (go_at_call 32; refine (HA.out x5 A5 n5 c5 A6 n6 c6 _ _ _ _ q rfl (HLA.out.ext (Fr.trans hxw5 ((Fr.refl _ _).alloc _))) (Rd.val.ext (Rd.val.any hK5) ((Fr.refl _ _).alloc _)) (HV.out _ (Fr.trans hxw5 ((Fr.refl _ _).alloc _))).any).mono ?_; rintro e w7 ⟨⟨rfl, hpos⟩, hx7⟩; have hc7 := Ext.cells hx7; have hf7 := Ext.frozens hx7; have hz7 := Fr.size hx7; try simp [go_sem] at hz7; try (have hzl := Nat.lt_of_succ_le hz7; try (have hzm := Nat.lt_of_succ_lt hzl)))
        have hc0 : ((c0 : Int) != 0) = true := (by simp; omega)
        have hqh : w.heap.size < w7.heap.size := (by omega)
        have hqi : w5.heap.size < w7.heap.size := (by omega)
        go_wp2
        refine bodyPost_ret (v := .tuple #[msgZ, .int .i64 a, .int .i64 c0]) (by simp only [results, Tryz.results9]; go_simp) rfl ?_
        have hx6 : Ext w w7 := Fr.trans (Fr.trans hxw5 ((Fr.refl _ _).alloc _)) hx7
        exact ⟨⟨rfl, hpos⟩, (by repeat (first | with_reducible assumption | with_reducible exact Fr.refl _ _ | (with_reducible refine Fr.alloc ?_ _) | (with_reducible refine Fr.drew ?_) | (with_reducible refine Fr.drewN ?_ _) | (with_reducible refine Fr.setNew ?_ _ _ _ (by first | with_reducible exact Nat.le_refl _ | omega | (simp; omega)))))⟩
end
end Go.Proofs.YtalbiepdkaldmaaGreatDoor
