/- record.Head. -/
import Derived.Test.YtalbiepdkaldmaaGreatDoorProg
import Derived.Test.YtalbiepdkaldmaaGreatDoorTally
import Derived.Test.YtalbiepdkaldmaaGreatDoorMix
import Derived.Deep.QuietTactic
import Derived.BigQuiet
import Derived.Deep.LoopGhost
import Derived.Laws.EntriesVeiled
set_option linter.unusedVariables false
set_option linter.unusedSimpArgs false
namespace Go.Proofs.YtalbiepdkaldmaaGreatDoor
open Go.RowKit
section
variable (B : Option Addr) (m cb : Nat) (l : Bytes) (ok : Nat → Prop) (w : World)
set_option maxRecDepth 8000 in
set_option maxHeartbeats 4000000 in
theorem head_none {k v n : Nat} {l1 l3 l5 : Bytes} (hh : RHead l k v n l1 l3 l5 ok) (hl : l.length = 5) (hb : SlC Rd.u8 w ok B m cb l) (hok : ∀ b, ok b → b < w.heap.size) (hla : LaidLim w) (hk : limits k = none) :
    Calls Tryz.prog 71 #[.slice B m cb] w (HeadPost (.error (0, 18)) w) := by
  have HL : Hid (∀ W, Ext w W → Calls Tryz.prog 114 #[.int .i64 k] W fun e w' => e = .returned (.tuple #[.int .i64 0, .int .i64 0, .bool false]) ∧ Ext W w') := Lib.hid fun W hW => by
    have := record_Limits k W (hla.ext hW)
    unfold LimPost at this
    rw [hk] at this
    exact this
  clear hk
  have HN := Lib.hid (fun w h hok => cursor_New B m cb l 0 ok w h hok (by omega) (by omega))
  have HB := Lib.hid hb
  have HO := Lib.hid hok
  have H1 := Lib.hid hh.N1
  have H2 := Lib.hid hh.N2
  have H3 := Lib.hid hh.N3
  have HLL := Lib.hid hla
  have hk1 : IntKind.i64.wrap ((k : Nat) : Int) = ((k : Nat) : Int) := IntWalk.i64_in _ (by have := hh.kl; omega)
  have hk2 : IntKind.i64.wrap ((v : Nat) : Int) = ((v : Nat) : Int) := IntWalk.i64_in _ (by have := hh.vl; omega)
  have hk3 : IntKind.i64.wrap ((n : Nat) : Int) = ((n : Nat) : Int) := IntWalk.i64_in _ (by have := hh.nl; omega)
  have hml := hb.len
  obtain rfl : m = 5 := by omega
  clear hb hok hh hla hml
  go_enter Tryz.func71, Tryz.ntmps71
  go_wp2_with (first | ((go_at_call 25; refine (HN.out _ (HB.out.ext ((by repeat (first | with_reducible assumption | with_reducible exact Fr.refl _ _ | (with_reducible refine Fr.alloc ?_ _) | (with_reducible refine Fr.drew ?_) | (with_reducible refine Fr.drewN ?_ _) | (with_reducible refine Fr.setNew ?_ _ _ _ (by first | with_reducible exact Nat.le_refl _ | omega | (simp; omega))))))) (fun b hb => by have := HO.out b hb; simp; omega)).mono ?_; rintro e w1 ⟨g, rfl, hg, hcur, hx1⟩; have hc1 := Ext.cells hx1; have hf1 := Ext.frozens hx1; have hz1 := Fr.size hx1; try simp [go_sem] at hz1; try (have hzl := Nat.lt_of_succ_le hz1; try (have hzm := Nat.lt_of_succ_lt hzl)))))
  have hgw : w.heap.size + 1 ≤ g := by have := hg; simp at this; omega
  have hne : ¬ w.heap.size = g := by omega
  have HCU := Lib.hid hcur
  clear hcur hg
  (go_at_call 26; refine (H1.out g w1 HCU.out).mono ?_; rintro e w2 ⟨rfl, hcu2, hx2⟩; have hc2 := Fr.cells hx2; have hf2 := Fr.frozens hx2; have hz2 := Fr.size hx2; simp only [One, Two, not_or, and_imp] at hc2 hf2; try simp [go_sem] at hz2; try (have hzl := Nat.lt_of_succ_le hz2; try (have hzm := Nat.lt_of_succ_lt hzl)))
  have HC2 := Lib.hid hcu2
  clear hcu2
  have hqa : w.heap.size < w2.heap.size := by omega
  go_wp2_with (first | ((go_at_call 29; refine (HLL.out _).mono ?_; rintro e w' ⟨rfl, rfl⟩)))
  (go_at_call 26; refine (H2.out g w2 HC2.out).mono ?_; rintro e w3 ⟨rfl, hcu3, hx3⟩; have hc3 := Fr.cells hx3; have hf3 := Fr.frozens hx3; have hz3 := Fr.size hx3; simp only [One, Two, not_or, and_imp] at hc3 hf3; try simp [go_sem] at hz3; try (have hzl := Nat.lt_of_succ_le hz3; try (have hzm := Nat.lt_of_succ_lt hzl)))
  have HC3 := Lib.hid hcu3
  clear hcu3
  have hqb : w.heap.size < w3.heap.size := by omega
  go_wp2_with (first | ((go_at_call 30; refine (cursor_At g _ _ ok _ HC3.out).mono ?_; rintro e w' ⟨rfl, rfl⟩)))
  (go_at_call 26; refine (H3.out g w3 HC3.out).mono ?_; rintro e w4 ⟨rfl, hcu4, hx4⟩; have hc4 := Fr.cells hx4; have hf4 := Fr.frozens hx4; have hz4 := Fr.size hx4; simp only [One, Two, not_or, and_imp] at hc4 hf4; try simp [go_sem] at hz4; try (have hzl := Nat.lt_of_succ_le hz4; try (have hzm := Nat.lt_of_succ_lt hzl)))
  have HC4 := Lib.hid hcu4
  clear hcu4
  have hqc : w.heap.size < w4.heap.size := (by omega); have hqy : w.heap.size < w4.heap.size + 1 := by omega
  have hx9 : Ext w w4 := Fr.trans' (Fr.trans ((by repeat (first | with_reducible assumption | with_reducible exact Fr.refl _ _ | (with_reducible refine Fr.alloc ?_ _) | (with_reducible refine Fr.drew ?_) | (with_reducible refine Fr.drewN ?_ _) | (with_reducible refine Fr.setNew ?_ _ _ _ (by first | with_reducible exact Nat.le_refl _ | omega | (simp; omega)))))) hx1) (hx2.trans (hx3.trans hx4)) (fun b hb e => by have e : b = g := e; omega)
  go_wp2_with (first | ((go_at_call 114; refine (HL.out _ (Fr.trans hx9 ((by repeat (first | with_reducible assumption | with_reducible exact Fr.refl _ _ | (with_reducible refine Fr.alloc ?_ _) | (with_reducible refine Fr.drew ?_) | (with_reducible refine Fr.drewN ?_ _) | (with_reducible refine Fr.setNew ?_ _ _ _ (by first | with_reducible exact Nat.le_refl _ | omega | (simp; omega)))))))).mono ?_; rintro e w5 ⟨rfl, hx5⟩; have hc5 := Ext.cells hx5; have hf5 := Ext.frozens hx5; have hz5 := Fr.size hx5; try simp [go_sem] at hz5; try (have hzl := Nat.lt_of_succ_le hz5; try (have hzm := Nat.lt_of_succ_lt hzl))); have hqd : w.heap.size < w5.heap.size := (by omega)))
  refine bodyPost_ret (v := .tuple #[.agg #[.int .i64 0, .int .i64 0, .int .i64 0], .int .i64 0, .int .i64 18]) (by simp only [results, Tryz.results71]; go_simp) rfl ?_
  have hx8 : Ext w w5 := Fr.trans (Fr.trans hx9 ((Fr.refl _ _).alloc _)) hx5
  exact ⟨rfl, (by repeat (first | with_reducible assumption | with_reducible exact Fr.refl _ _ | (with_reducible refine Fr.alloc ?_ _) | (with_reducible refine Fr.drew ?_) | (with_reducible refine Fr.drewN ?_ _) | (with_reducible refine Fr.setNew ?_ _ _ _ (by first | with_reducible exact Nat.le_refl _ | omega | (simp; omega)))))⟩
set_option maxRecDepth 8000 in
set_option maxHeartbeats 4000000 in
theorem head_some {k v n lo hi : Nat} {l1 l3 l5 : Bytes} (hh : RHead l k v n l1 l3 l5 ok) (hl : l.length = 5) (hb : SlC Rd.u8 w ok B m cb l) (hok : ∀ b, ok b → b < w.heap.size) (hla : LaidLim w) (hk : limits k = some (lo, hi)) :
    Calls Tryz.prog 71 #[.slice B m cb] w (HeadPost (if checkLen lo hi n = 0 then .ok (k, v, n) else .error (3, checkLen lo hi n)) w) := by
  have HL : Hid (∀ W, Ext w W → Calls Tryz.prog 114 #[.int .i64 k] W fun e w' => e = .returned (.tuple #[.int .i64 lo, .int .i64 hi, .bool true]) ∧ Ext W w') := Lib.hid fun W hW => by
    have := record_Limits k W (hla.ext hW)
    unfold LimPost at this
    rw [hk] at this
    exact this
  have HK : Hid (∀ W, Ext w W → Calls Tryz.prog 115 #[.agg #[.int .i64 k, .int .i64 v, .int .i64 n]] W fun e w' => e = .returned (.int .i64 (checkLen lo hi n)) ∧ Ext W w') := Lib.hid fun W hW => record_check k v n lo hi W (hla.ext hW) hk
  clear hk
  generalize checkLen lo hi n = c at HK ⊢
  by_cases hc0 : c = 0
  · subst hc0
    rw [if_pos rfl]
    have HN := Lib.hid (fun w h hok => cursor_New B m cb l 0 ok w h hok (by omega) (by omega))
    have HB := Lib.hid hb
    have HO := Lib.hid hok
    have H1 := Lib.hid hh.N1
    have H2 := Lib.hid hh.N2
    have H3 := Lib.hid hh.N3
    have HLL := Lib.hid hla
    have hk1 : IntKind.i64.wrap ((k : Nat) : Int) = ((k : Nat) : Int) := IntWalk.i64_in _ (by have := hh.kl; omega)
    have hk2 : IntKind.i64.wrap ((v : Nat) : Int) = ((v : Nat) : Int) := IntWalk.i64_in _ (by have := hh.vl; omega)
    have hk3 : IntKind.i64.wrap ((n : Nat) : Int) = ((n : Nat) : Int) := IntWalk.i64_in _ (by have := hh.nl; omega)
    have hml := hb.len
    obtain rfl : m = 5 := by omega
    clear hb hok hh hla hml
    go_enter Tryz.func71, Tryz.ntmps71
    go_wp2_with (first | ((go_at_call 25; refine (HN.out _ (HB.out.ext ((by repeat (first | with_reducible assumption | with_reducible exact Fr.refl _ _ | (with_reducible refine Fr.alloc ?_ _) | (with_reducible refine Fr.drew ?_) | (with_reducible refine Fr.drewN ?_ _) | (with_reducible refine Fr.setNew ?_ _ _ _ (by first | with_reducible exact Nat.le_refl _ | omega | (simp; omega))))))) (fun b hb => by have := HO.out b hb; simp; omega)).mono ?_; rintro e w1 ⟨g, rfl, hg, hcur, hx1⟩; have hc1 := Ext.cells hx1; have hf1 := Ext.frozens hx1; have hz1 := Fr.size hx1; try simp [go_sem] at hz1; try (have hzl := Nat.lt_of_succ_le hz1; try (have hzm := Nat.lt_of_succ_lt hzl)))))
    have hgw : w.heap.size + 1 ≤ g := by have := hg; simp at this; omega
    have hne : ¬ w.heap.size = g := by omega
    have HCU := Lib.hid hcur
    clear hcur hg
    (go_at_call 26; refine (H1.out g w1 HCU.out).mono ?_; rintro e w2 ⟨rfl, hcu2, hx2⟩; have hc2 := Fr.cells hx2; have hf2 := Fr.frozens hx2; have hz2 := Fr.size hx2; simp only [One, Two, not_or, and_imp] at hc2 hf2; try simp [go_sem] at hz2; try (have hzl := Nat.lt_of_succ_le hz2; try (have hzm := Nat.lt_of_succ_lt hzl)))
    have HC2 := Lib.hid hcu2
    clear hcu2
    have hqa : w.heap.size < w2.heap.size := by omega
    go_wp2_with (first | ((go_at_call 29; refine (HLL.out _).mono ?_; rintro e w' ⟨rfl, rfl⟩)))
    (go_at_call 26; refine (H2.out g w2 HC2.out).mono ?_; rintro e w3 ⟨rfl, hcu3, hx3⟩; have hc3 := Fr.cells hx3; have hf3 := Fr.frozens hx3; have hz3 := Fr.size hx3; simp only [One, Two, not_or, and_imp] at hc3 hf3; try simp [go_sem] at hz3; try (have hzl := Nat.lt_of_succ_le hz3; try (have hzm := Nat.lt_of_succ_lt hzl)))
    have HC3 := Lib.hid hcu3
    clear hcu3
    have hqb : w.heap.size < w3.heap.size := by omega
    go_wp2_with (first | ((go_at_call 30; refine (cursor_At g _ _ ok _ HC3.out).mono ?_; rintro e w' ⟨rfl, rfl⟩)))
    (go_at_call 26; refine (H3.out g w3 HC3.out).mono ?_; rintro e w4 ⟨rfl, hcu4, hx4⟩; have hc4 := Fr.cells hx4; have hf4 := Fr.frozens hx4; have hz4 := Fr.size hx4; simp only [One, Two, not_or, and_imp] at hc4 hf4; try simp [go_sem] at hz4; try (have hzl := Nat.lt_of_succ_le hz4; try (have hzm := Nat.lt_of_succ_lt hzl)))
    have HC4 := Lib.hid hcu4
    clear hcu4
    have hqc : w.heap.size < w4.heap.size := (by omega); have hqy : w.heap.size < w4.heap.size + 1 := by omega
    have hx9 : Ext w w4 := Fr.trans' (Fr.trans ((by repeat (first | with_reducible assumption | with_reducible exact Fr.refl _ _ | (with_reducible refine Fr.alloc ?_ _) | (with_reducible refine Fr.drew ?_) | (with_reducible refine Fr.drewN ?_ _) | (with_reducible refine Fr.setNew ?_ _ _ _ (by first | with_reducible exact Nat.le_refl _ | omega | (simp; omega)))))) hx1) (hx2.trans (hx3.trans hx4)) (fun b hb e => by have e : b = g := e; omega)
    have hqz : w4.heap.size < w4.heap.size + 1 := by omega
    go_wp2_with (first | ((go_at_call 114; refine (HL.out _ (Fr.trans hx9 ((by repeat (first | with_reducible assumption | with_reducible exact Fr.refl _ _ | (with_reducible refine Fr.alloc ?_ _) | (with_reducible refine Fr.drew ?_) | (with_reducible refine Fr.drewN ?_ _) | (with_reducible refine Fr.setNew ?_ _ _ _ (by first | with_reducible exact Nat.le_refl _ | omega | (simp; omega)))))))).mono ?_; rintro e w5 ⟨rfl, hx5⟩; have hc5 := Ext.cells hx5; have hf5 := Ext.frozens hx5; have hz5 := Fr.size hx5; try simp [go_sem] at hz5; try (have hzl := Nat.lt_of_succ_le hz5; try (have hzm := Nat.lt_of_succ_lt hzl))); have hqd : w.heap.size < w5.heap.size := (by omega); have hqe : w4.heap.size < w5.heap.size := (by omega)) | ((go_at_call 115; refine (HK.out _ (Fr.trans hx9 (Fr.trans ((Fr.refl _ _).alloc _) hx5))).mono ?_; rintro e w6 ⟨rfl, hx6⟩; have hc6 := Ext.cells hx6; have hf6 := Ext.frozens hx6; have hz6 := Fr.size hx6; try simp [go_sem] at hz6; try (have hzl := Nat.lt_of_succ_le hz6; try (have hzm := Nat.lt_of_succ_lt hzl))); have hqf : w.heap.size < w6.heap.size := (by omega); have hqg : w4.heap.size < w6.heap.size := (by omega)))
    (refine wp_region_mixE _ 3 3 (by kernel_rfl) (by kernel_rfl) ?_; simp only [List.take_succ_cons, List.take_zero])
    (repeat (first | (apply wpStl_op; (focus (first | rfl | (go_simp; done))); (focus (intro w' hw'; have hcy := Ext.cells hw'; go_simp; first | done | rfl | exact ⟨rfl, rfl⟩)); (intro K hK; go_simp; refine hK _ ?_; clear hK K)) | (refine wpStl_no ?_ (fun K hK => ?_); (focus (first | rfl | (go_simp; done))); go_simp; refine hK _ ?_; clear hK K)))
    (refine wpStl_op (.int .i64 5) ?_ (fun w' hw' => ?_) (fun K hK => ?_); (focus (first | rfl | (go_simp; done))); rotate_left; (go_simp; refine hK _ ?_; clear hK K); rotate_left; (skip; go_simp))
    · exact (cursor_At g _ _ ok w' (HC4.out.ext (Fr.trans ((Fr.refl _ _).alloc _) (Fr.trans hx5 (Fr.trans hx6 hw'))))).mono fun e w'' hh => ⟨hh.1, hh.2.symm⟩
    (repeat (first | (apply wpStl_op; (focus (first | rfl | (go_simp; done))); (focus (intro w' hw'; have hcy := Ext.cells hw'; go_simp; first | done | rfl | exact ⟨rfl, rfl⟩)); (intro K hK; go_simp; refine hK _ ?_; clear hK K)) | (refine wpStl_no ?_ (fun K hK => ?_); (focus (first | rfl | (go_simp; done))); go_simp; refine hK _ ?_; clear hK K)))
    (show wpMid _ _ _ _ _ _ _; simp only [List.drop_succ_cons, List.drop_zero, List.take_succ_cons, List.take_zero, Nat.reduceSub])
    (show wpList _ _ _ _ _ _; try simp only [List.drop_succ_cons, List.drop_zero])
    go_wp2
    refine bodyPost_ret (v := .tuple #[.agg #[.int .i64 k, .int .i64 v, .int .i64 n], .int .i64 5, .int .i64 0]) (by simp only [results, Tryz.results71]; go_simp) rfl ?_
    have hx8 : Ext w w6 := Fr.trans (Fr.trans (Fr.trans hx9 ((Fr.refl _ _).alloc _)) hx5) hx6
    exact ⟨rfl, (by repeat (first | with_reducible assumption | with_reducible exact Fr.refl _ _ | (with_reducible refine Fr.alloc ?_ _) | (with_reducible refine Fr.drew ?_) | (with_reducible refine Fr.drewN ?_ _) | (with_reducible refine Fr.setNew ?_ _ _ _ (by first | with_reducible exact Nat.le_refl _ | omega | (simp; omega)))))⟩
  · rw [if_neg hc0]
    have hd : ((c : Int) != 0) = true := by simp; omega
    have HN := Lib.hid (fun w h hok => cursor_New B m cb l 0 ok w h hok (by omega) (by omega))
    have HB := Lib.hid hb
    have HO := Lib.hid hok
    have H1 := Lib.hid hh.N1
    have H2 := Lib.hid hh.N2
    have H3 := Lib.hid hh.N3
    have HLL := Lib.hid hla
    have hk1 : IntKind.i64.wrap ((k : Nat) : Int) = ((k : Nat) : Int) := IntWalk.i64_in _ (by have := hh.kl; omega)
    have hk2 : IntKind.i64.wrap ((v : Nat) : Int) = ((v : Nat) : Int) := IntWalk.i64_in _ (by have := hh.vl; omega)
    have hk3 : IntKind.i64.wrap ((n : Nat) : Int) = ((n : Nat) : Int) := IntWalk.i64_in _ (by have := hh.nl; omega)
    have hml := hb.len
    obtain rfl : m = 5 := by omega
    clear hb hok hh hla hml
    go_enter Tryz.func71, Tryz.ntmps71
    go_wp2_with (first | ((go_at_call 25; refine (HN.out _ (HB.out.ext ((by repeat (first | with_reducible assumption | with_reducible exact Fr.refl _ _ | (with_reducible refine Fr.alloc ?_ _) | (with_reducible refine Fr.drew ?_) | (with_reducible refine Fr.drewN ?_ _) | (with_reducible refine Fr.setNew ?_ _ _ _ (by first | with_reducible exact Nat.le_refl _ | omega | (simp; omega))))))) (fun b hb => by have := HO.out b hb; simp; omega)).mono ?_; rintro e w1 ⟨g, rfl, hg, hcur, hx1⟩; have hc1 := Ext.cells hx1; have hf1 := Ext.frozens hx1; have hz1 := Fr.size hx1; try simp [go_sem] at hz1; try (have hzl := Nat.lt_of_succ_le hz1; try (have hzm := Nat.lt_of_succ_lt hzl)))))
    have hgw : w.heap.size + 1 ≤ g := by have := hg; simp at this; omega
    have hne : ¬ w.heap.size = g := by omega
    have HCU := Lib.hid hcur
    clear hcur hg
    (go_at_call 26; refine (H1.out g w1 HCU.out).mono ?_; rintro e w2 ⟨rfl, hcu2, hx2⟩; have hc2 := Fr.cells hx2; have hf2 := Fr.frozens hx2; have hz2 := Fr.size hx2; simp only [One, Two, not_or, and_imp] at hc2 hf2; try simp [go_sem] at hz2; try (have hzl := Nat.lt_of_succ_le hz2; try (have hzm := Nat.lt_of_succ_lt hzl)))
    have HC2 := Lib.hid hcu2
    clear hcu2
    have hqa : w.heap.size < w2.heap.size := by omega
    go_wp2_with (first | ((go_at_call 29; refine (HLL.out _).mono ?_; rintro e w' ⟨rfl, rfl⟩)))
    (go_at_call 26; refine (H2.out g w2 HC2.out).mono ?_; rintro e w3 ⟨rfl, hcu3, hx3⟩; have hc3 := Fr.cells hx3; have hf3 := Fr.frozens hx3; have hz3 := Fr.size hx3; simp only [One, Two, not_or, and_imp] at hc3 hf3; try simp [go_sem] at hz3; try (have hzl := Nat.lt_of_succ_le hz3; try (have hzm := Nat.lt_of_succ_lt hzl)))
    have HC3 := Lib.hid hcu3
    clear hcu3
    have hqb : w.heap.size < w3.heap.size := by omega
    go_wp2_with (first | ((go_at_call 30; refine (cursor_At g _ _ ok _ HC3.out).mono ?_; rintro e w' ⟨rfl, rfl⟩)))
    (go_at_call 26; refine (H3.out g w3 HC3.out).mono ?_; rintro e w4 ⟨rfl, hcu4, hx4⟩; have hc4 := Fr.cells hx4; have hf4 := Fr.frozens hx4; have hz4 := Fr.size hx4; simp only [One, Two, not_or, and_imp] at hc4 hf4; try simp [go_sem] at hz4; try (have hzl := Nat.lt_of_succ_le hz4; try (have hzm := Nat.lt_of_succ_lt hzl)))
    have HC4 := Lib.hid hcu4
    clear hcu4
    have hqc : w.heap.size < w4.heap.size := (by omega); have hqy : w.heap.size < w4.heap.size + 1 := by omega
    have hx9 : Ext w w4 := Fr.trans' (Fr.trans ((by repeat (first | with_reducible assumption | with_reducible exact Fr.refl _ _ | (with_reducible refine Fr.alloc ?_ _) | (with_reducible refine Fr.drew ?_) | (with_reducible refine Fr.drewN ?_ _) | (with_reducible refine Fr.setNew ?_ _ _ _ (by first | with_reducible exact Nat.le_refl _ | omega | (simp; omega)))))) hx1) (hx2.trans (hx3.trans hx4)) (fun b hb e => by have e : b = g := e; omega)
    have hqz : w4.heap.size < w4.heap.size + 1 := by omega
    go_wp2_with (first | ((go_at_call 114; refine (HL.out _ (Fr.trans hx9 ((by repeat (first | with_reducible assumption | with_reducible exact Fr.refl _ _ | (with_reducible refine Fr.alloc ?_ _) | (with_reducible refine Fr.drew ?_) | (with_reducible refine Fr.drewN ?_ _) | (with_reducible refine Fr.setNew ?_ _ _ _ (by first | with_reducible exact Nat.le_refl _ | omega | (simp; omega)))))))).mono ?_; rintro e w5 ⟨rfl, hx5⟩; have hc5 := Ext.cells hx5; have hf5 := Ext.frozens hx5; have hz5 := Fr.size hx5; try simp [go_sem] at hz5; try (have hzl := Nat.lt_of_succ_le hz5; try (have hzm := Nat.lt_of_succ_lt hzl))); have hqd : w.heap.size < w5.heap.size := (by omega); have hqe : w4.heap.size < w5.heap.size := (by omega)) | ((go_at_call 115; refine (HK.out _ (Fr.trans hx9 (Fr.trans ((Fr.refl _ _).alloc _) hx5))).mono ?_; rintro e w6 ⟨rfl, hx6⟩; have hc6 := Ext.cells hx6; have hf6 := Ext.frozens hx6; have hz6 := Fr.size hx6; try simp [go_sem] at hz6; try (have hzl := Nat.lt_of_succ_le hz6; try (have hzm := Nat.lt_of_succ_lt hzl))); have hqf : w.heap.size < w6.heap.size := (by omega); have hqg : w4.heap.size < w6.heap.size := (by omega)))
    refine bodyPost_ret (v := .tuple #[.agg #[.int .i64 0, .int .i64 0, .int .i64 0], .int .i64 3, .int .i64 c]) (by simp only [results, Tryz.results71]; go_simp) rfl ?_
    have hx8 : Ext w w6 := Fr.trans (Fr.trans (Fr.trans hx9 ((Fr.refl _ _).alloc _)) hx5) hx6
    exact ⟨rfl, (by repeat (first | with_reducible assumption | with_reducible exact Fr.refl _ _ | (with_reducible refine Fr.alloc ?_ _) | (with_reducible refine Fr.drew ?_) | (with_reducible refine Fr.drewN ?_ _) | (with_reducible refine Fr.setNew ?_ _ _ _ (by first | with_reducible exact Nat.le_refl _ | omega | (simp; omega)))))⟩
theorem record_Head {k v n : Nat} {l1 l3 l5 : Bytes} (hh : RHead l k v n l1 l3 l5 ok) (hl : l.length = 5) (hb : SlC Rd.u8 w ok B m cb l) (hok : ∀ b, ok b → b < w.heap.size) (hla : LaidLim w) :
    Calls Tryz.prog 71 #[.slice B m cb] w (HeadPost (headOf k v n) w) := by
  unfold headOf
  cases hk : limits k with
  | none => exact head_none B m cb l ok w hh hl hb hok hla hk
  | some q => exact head_some B m cb l ok w hh hl hb hok hla hk
end
end Go.Proofs.YtalbiepdkaldmaaGreatDoor
