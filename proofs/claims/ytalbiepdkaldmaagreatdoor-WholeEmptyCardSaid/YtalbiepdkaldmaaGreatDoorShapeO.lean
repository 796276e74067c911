/- shape.own, shape.Message: a form that shares nothing; the form of a message's body. -/
import Derived.Test.YtalbiepdkaldmaaGreatDoorProg
import Derived.Test.YtalbiepdkaldmaaGreatDoorShapeMs
import Derived.Test.YtalbiepdkaldmaaGreatDoorMix
import Derived.Deep.QuietTactic
import Derived.BigQuiet
import Derived.Deep.LoopGhost
set_option linter.unusedVariables false
set_option linter.unusedSimpArgs false
namespace Go.Proofs.YtalbiepdkaldmaaGreatDoor
open Go.RowKit
mutual
/-- Not too many parts, all through. -/
def Form.few : Form → Bool
  | .mk _ _ _ _ _ ps => decide (ps.length ≤ 1000) && Form.fews ps
def Form.fews : List Form → Bool
  | [] => true
  | f :: ps => f.few && Form.fews ps
end
theorem Form.few_len {f : Form} (h : f.few = true) : f.parts.length ≤ 1000 := by
  obtain ⟨k, s, lo, hi, st, ps⟩ := f
  simp only [Form.few, Bool.and_eq_true, decide_eq_true_eq] at h
  exact h.1
theorem Form.fews_mem {ps : List Form} (h : Form.fews ps = true) {f : Form} (hf : f ∈ ps) : f.few = true := by
  induction ps with
  | nil => simp at hf
  | cons g ps ih =>
    simp only [Form.fews, Bool.and_eq_true] at h
    rcases List.mem_cons.1 hf with rfl | hf
    · exact h.1
    · exact ih h.2 hf
theorem Form.few_mem {f g : Form} (h : f.few = true) (hg : g ∈ f.parts) : g.few = true := by
  obtain ⟨k, s, lo, hi, st, ps⟩ := f
  simp only [Form.few, Bool.and_eq_true, decide_eq_true_eq] at h
  exact Form.fews_mem h.2 hg

/-- The forms of a block, some of which are new. -/
def OwnAt (wr : World) (B i lo hi : Nat) (xs : List Form) : Prop := ∃ arr, wr.heap[B]? = some (.cells arr 70 (0, 0)) ∧ ∀ j x, xs[j]? = some x → ∃ A n c,
  arr[j * 6]? = some (.int .i64 x.kind) ∧ arr[j * 6 + 1]? = some (.int .i64 x.size) ∧ arr[j * 6 + 2]? = some (.int .i64 x.lo) ∧ arr[j * 6 + 3]? = some (.int .i64 x.hi) ∧ arr[j * 6 + 4]? = some (.int .i64 x.step) ∧ arr[j * 6 + 5]? = some (.slice A n c) ∧
    SlC Rd.form wr (fun b => if j < i then hi ≤ b ∧ b ≠ B else b < lo) A n c x.parts
theorem OwnAt.step {wr w2 : World} {B j lo hi : Nat} {xs : List Form} {fj : Form} {A3 : Option Addr} {n3 c3 : Nat} (h : OwnAt wr B j lo hi xs) (hx : Ext wr w2) (hj : xs[j]? = some fj) (hs : SlC Rd.form w2 (fun b => wr.heap.size ≤ b) A3 n3 c3 fj.parts) (hlo : lo ≤ B) (hhi : hi ≤ wr.heap.size) :
    OwnAt ((((((w2.setCell ⟨B, j * 6, none⟩ (.int .i64 fj.kind)).setCell ⟨B, j * 6 + 1, none⟩ (.int .i64 fj.size)).setCell ⟨B, j * 6 + 2, none⟩ (.int .i64 fj.lo)).setCell ⟨B, j * 6 + 3, none⟩ (.int .i64 fj.hi)).setCell ⟨B, j * 6 + 4, none⟩ (.int .i64 fj.step)).setCell ⟨B, j * 6 + 5, none⟩ (.slice A3 n3 c3)) B (j + 1) lo hi xs := by
  obtain ⟨arr, hb, hall⟩ := h
  have hBw : B < wr.heap.size := blk_lt hb
  have hf : ∀ u0 u1 u2 u3 u4 u5, Fr (One B) w2 ((((((w2.setCell ⟨B, j * 6, none⟩ u0).setCell ⟨B, j * 6 + 1, none⟩ u1).setCell ⟨B, j * 6 + 2, none⟩ u2).setCell ⟨B, j * 6 + 3, none⟩ u3).setCell ⟨B, j * 6 + 4, none⟩ u4).setCell ⟨B, j * 6 + 5, none⟩ u5) := fun _ _ _ _ _ _ =>
    ((((((Fr.refl _ _).set _ _ _ (One.self _)).set _ _ _ (One.self _)).set _ _ _ (One.self _)).set _ _ _ (One.self _)).set _ _ _ (One.self _)).set _ _ _ (One.self _)
  refine ⟨_, blk_set (blk_set (blk_set (blk_set (blk_set (blk_set (Ext.blk hx hb) _ _) _ _) _ _) _ _) _ _) _ _, fun i x hi' => ?_⟩
  obtain ⟨A2, n2, c2, k0, k1, k2, k3, k4, k5, hs2⟩ := hall i x hi'
  by_cases hij : i = j
  · subst hij
    rw [hj] at hi'
    injection hi' with hi'
    subst hi'
    have z5 := (Array.getElem?_eq_some_iff.1 k5).1
    refine ⟨A3, n3, c3, ?_, ?_, ?_, ?_, ?_, ?_, (hs.fr (hf _ _ _ _ _ _) (fun b hb' e => by have e : b = B := e; omega)).mono fun b _ hb' => ?_⟩
    · repeat rw [Array.getElem?_setIfInBounds_ne (by omega)]
      simp [show i * 6 < arr.size by omega]
    · repeat rw [Array.getElem?_setIfInBounds_ne (by omega)]
      simp [show i * 6 + 1 < arr.size by omega]
    · repeat rw [Array.getElem?_setIfInBounds_ne (by omega)]
      simp [show i * 6 + 2 < arr.size by omega]
    · repeat rw [Array.getElem?_setIfInBounds_ne (by omega)]
      simp [show i * 6 + 3 < arr.size by omega]
    · repeat rw [Array.getElem?_setIfInBounds_ne (by omega)]
      simp [show i * 6 + 4 < arr.size by omega]
    · simp [z5]
    · rw [if_pos (by omega)]
      exact ⟨by omega, by omega⟩
  · have hne : ∀ q, q < 6 → ∀ r, r < 6 → ¬ (j * 6 + q = i * 6 + r) := fun q hq r hr => by omega
    refine ⟨A2, n2, c2, ?_, ?_, ?_, ?_, ?_, ?_, ((hs2.ext hx).fr (hf _ _ _ _ _ _) (fun b hb' e => ?_)).mono fun b _ hb' => ?_⟩
    · repeat rw [Array.getElem?_setIfInBounds_ne (by omega)]
      exact k0
    · repeat rw [Array.getElem?_setIfInBounds_ne (by omega)]
      exact k1
    · repeat rw [Array.getElem?_setIfInBounds_ne (by omega)]
      exact k2
    · repeat rw [Array.getElem?_setIfInBounds_ne (by omega)]
      exact k3
    · repeat rw [Array.getElem?_setIfInBounds_ne (by omega)]
      exact k4
    · repeat rw [Array.getElem?_setIfInBounds_ne (by omega)]
      exact k5
    · have e : b = B := e
      subst e
      split at hb' <;> omega
    · split at hb'
      · rw [if_pos (by omega)]; exact hb'
      · rw [if_neg (by omega)]; exact hb'
theorem OwnAt.sl {wr : World} {B n c1 lo hi : Nat} {xs : List Form} (h : OwnAt wr B n lo hi xs) (hn : xs.length = n) (hc : n ≤ c1) (hm : c1 ≤ maxLen) (hB : hi ≤ B) : SlC Rd.form wr (fun b => hi ≤ b) (some ⟨B, 0, none⟩) n c1 xs := by
  obtain ⟨arr, hb, hall⟩ := h
  refine ⟨hn, hc, hm, fun h => by simp at h, fun j x hx => ?_⟩
  obtain ⟨A2, n2, c2, k0, k1, k2, k3, k4, k5, hs2⟩ := hall j x hx
  have hj : j < n := by have := (List.getElem?_eq_some_iff.1 hx).1; omega
  refine ⟨[.int .i64 x.kind, .int .i64 x.size, .int .i64 x.lo, .int .i64 x.hi, .int .i64 x.step, .slice A2 n2 c2], ⟨B, 0, arr, _, _, rfl, hB, hb, fun i u hu => ?_⟩, Rd.form_iff.2 ⟨A2, n2, c2, rfl, hs2.mono fun b _ hb' => ?_⟩⟩
  · have e : 0 + j * Rd.form.sz + i = j * 6 + i := by rw [Nat.zero_add]; rfl
    rw [e]
    match i, hu with
    | 0, hu => simp at hu; subst hu; exact k0
    | 1, hu => simp at hu; subst hu; exact k1
    | 2, hu => simp at hu; subst hu; exact k2
    | 3, hu => simp at hu; subst hu; exact k3
    | 4, hu => simp at hu; subst hu; exact k4
    | 5, hu => simp at hu; subst hu; exact k5
    | i + 6, hu => simp at hu
  · rw [if_pos hj] at hb'
    exact hb'.1
theorem OwnAt.start {w1 : World} {B n lo hi : Nat} {ok : Nat → Prop} {xs : List Form} {cells : List Value} {cur : Array Value} (hblk : w1.heap[B]? = some (.cells cur 70 (0, 0))) (hl : xs.length = n) (htake : List.take (n * Rd.form.sz) cur.toList = cells) (hel : Elems Rd.form w1 ok xs cells) (hok : ∀ b, ok b → b < lo) : OwnAt w1 B 0 lo hi xs := by
  refine ⟨cur, hblk, fun j x hx => ?_⟩
  obtain ⟨A, n2, c2, hcs, hs⟩ := Rd.form_iff.1 (hel.2 j x hx)
  have hj : j < n := by have := (List.getElem?_eq_some_iff.1 hx).1; omega
  have key : ∀ q, q < 6 → cur[j * 6 + q]? = ([.int .i64 x.kind, .int .i64 x.size, .int .i64 x.lo, .int .i64 x.hi, .int .i64 x.step, .slice A n2 c2] : List Value)[q]? := by
    intro q hq
    rw [← hcs, ← htake, List.getElem?_take, if_pos (show q < Rd.form.sz from hq), List.getElem?_drop, List.getElem?_take]
    have e : j * Rd.form.sz + q = j * 6 + q := rfl
    have e2 : n * Rd.form.sz = n * 6 := rfl
    rw [e, e2, if_pos (by omega)]
    simp
  exact ⟨A, n2, c2, key 0 (by omega), key 1 (by omega), key 2 (by omega), key 3 (by omega), key 4 (by omega), key 5 (by omega), hs.mono fun b _ hb => by simpa using hok b hb⟩
theorem OwnAt.fr {wr w2 : World} {F : Nat → Prop} {B i lo hi : Nat} {xs : List Form} (h : OwnAt wr B i lo hi xs) (hf : Fr F wr w2) (hB : ¬ F B) (h1 : ∀ b, b < lo → ¬ F b) (h2 : ∀ b, hi ≤ b → ¬ F b) : OwnAt w2 B i lo hi xs := by
  obtain ⟨arr, hb, hall⟩ := h
  refine ⟨arr, hf.blk hb hB, fun j x hx => ?_⟩
  obtain ⟨A2, n2, c2, k0, k1, k2, k3, k4, k5, hs2⟩ := hall j x hx
  refine ⟨A2, n2, c2, k0, k1, k2, k3, k4, k5, hs2.fr hf fun b hb' => ?_⟩
  split at hb'
  · exact h2 b hb'.1
  · exact h1 b hb'
set_option maxHeartbeats 4000000 in
set_option maxRecDepth 4000 in
theorem shape_own (d : Nat) : ∀ (A : Option Addr) (n c : Nat) (f : Form) (w : World), f.depth ≤ d → f.few = true → SlC Rd.form w Any A n c f.parts → Calls Tryz.prog 52 #[formV A n c f] w (FormNew f w) := by
  induction d with
  | zero => intro A n c f w hd; have := depth_parts f; omega
  | succ d ih =>
    intro A n c f w hd hfew h
    have HI := Lib.hid ih
    clear ih
    have hln := h.len
    have hn : n ≤ 1000 := by have := Form.few_len hfew; omega
    have HM : Hid (∀ g ∈ f.parts, g.depth ≤ d ∧ g.few = true) := Lib.hid fun g hg => ⟨by have h1 := depth_mem hg; have h2 := depth_parts f; omega, Form.few_mem hfew hg⟩
    have HS := Lib.hid h.lt
    clear hd hfew h
    have HLN := Lib.hid hln
    clear hln
    simp only [formV]
    go_enter Tryz.func52, Tryz.ntmps52
    go_wp2_with ((go_at_call 89; refine (clone_form A n c f.parts (fun b => b < w.heap.size) _ (HS.out.ext ((by repeat (first | with_reducible assumption | with_reducible exact Fr.refl _ _ | (with_reducible refine Fr.alloc ?_ _) | (with_reducible refine Fr.drew ?_) | (with_reducible refine Fr.drewN ?_ _) | (with_reducible refine Fr.setNew ?_ _ _ _ (by first | with_reducible exact Nat.le_refl _ | omega | (simp; omega))))))) (by omega)).mono ?_; rintro e w1 ⟨A1, c1, rfl, ho, hx1⟩; have hc1 := Ext.cells hx1; have hf1 := Ext.frozens hx1; have hz1 := Fr.size hx1; try simp [go_sem] at hz1; try (have hzl := Nat.lt_of_succ_le hz1; try (have hzm := Nat.lt_of_succ_lt hzl))); have HO := Lib.hid ho; have HX := Lib.hid hx1; clear ho hx1; have d5 : ∀ i, i < 6 → w1.cell? ⟨w.heap.size, i, none⟩ = [Value.int IntKind.i64 ↑f.kind, Value.int IntKind.i64 ↑f.size, Value.int IntKind.i64 ↑f.lo, Value.int IntKind.i64 ↑f.hi, Value.int IntKind.i64 ↑f.step, Value.slice A n c][i]? := (by intro i hi; rw [hc1 _ _ (by simp; omega)]; simp [go_sem]); have e0 := d5 0 (by omega); have e1 := d5 1 (by omega); have e2 := d5 2 (by omega); have e3 := d5 3 (by omega); have e4 := d5 4 (by omega); have e5 := d5 5 (by omega); clear d5; simp only [List.getElem?_cons_zero, List.getElem?_cons_succ] at e0 e1 e2 e3 e4 e5; have g5 : ∀ i, w1.frozen? ⟨w.heap.size, i, none⟩ = false := (by intro i; rw [hf1 _ _ (by simp; omega)]; simp [go_sem]))
    obtain ⟨hl, cells, ⟨hcl, hcase⟩, hel⟩ := HO.out
    have hsz : n ≤ 9223372036854775807 := by omega
    have hx1 := HX.out
    rcases hcase with ⟨hnil, hz⟩ | ⟨B, cap, cur, heq, hB, hblk, hn1, hn2, hcur, htake⟩
    · injection hnil with hA1 hn0 hc1
      subst hA1 hc1
      subst hn0
      have hp : f.parts = [] := List.eq_nil_of_length_eq_zero hl
      clear hel hcl hl hx1
      go_loopg [12] 0 (fun m i wr => m = 0 ∧ i = .int .i64 0 ∧ wr = (w1.setCell ⟨w.heap.size, 5, none⟩ (.slice none 0 0)))
      case atStart => exact ⟨rfl, rfl, rfl⟩
      case round =>
        obtain ⟨rfl, rfl, rfl⟩ := hrel
        have m0 : ∀ i, i < 6 → w1.cell? ⟨w.heap.size + 1, i, none⟩ = ([.int .i64 0, .int .i64 0, .int .i64 0, .int .i64 0, .int .i64 0, .slice none 0 0] : List Value)[i]? := by
          intro i hi
          rw [hc1 _ _ (by simp)]
          have : i = 0 ∨ i = 1 ∨ i = 2 ∨ i = 3 ∨ i = 4 ∨ i = 5 := by omega
          rcases this with rfl | rfl | rfl | rfl | rfl | rfl <;> simp [go_sem]
        have z0 := m0 0 (by omega)
        have z1 := m0 1 (by omega)
        have z2 := m0 2 (by omega)
        have z3 := m0 3 (by omega)
        have z4 := m0 4 (by omega)
        have z5 := m0 5 (by omega)
        simp only [List.getElem?_cons_zero, List.getElem?_cons_succ] at z0 z1 z2 z3 z4 z5
        have mf : ∀ i, w1.frozen? ⟨w.heap.size + 1, i, none⟩ = false := by
          intro i
          rw [hf1 _ _ (by simp)]
          simp [go_sem]
        have HP := Lib.hid hp
        clear m0 hp
        go_wp2
        refine bodyPost_ret (v := formV none 0 0 f) (by simp only [results, Tryz.results52]; go_simp) rfl ?_
        have hx9 : Ext w w1 := Fr.trans ((by repeat (first | with_reducible assumption | with_reducible exact Fr.refl _ _ | (with_reducible refine Fr.alloc ?_ _) | (with_reducible refine Fr.drew ?_) | (with_reducible refine Fr.drewN ?_ _) | (with_reducible refine Fr.setNew ?_ _ _ _ (by first | with_reducible exact Nat.le_refl _ | omega | (simp; omega)))))) HX.out
        exact ⟨_, _, _, rfl, by rw [HP.out]; exact SlC.nil _ _ _ _ _ (Nat.zero_le _) (fun _ => rfl), (by repeat (first | with_reducible assumption | with_reducible exact Fr.refl _ _ | (with_reducible refine Fr.alloc ?_ _) | (with_reducible refine Fr.drew ?_) | (with_reducible refine Fr.drewN ?_ _) | (with_reducible refine Fr.setNew ?_ _ _ _ (by first | with_reducible exact Nat.le_refl _ | omega | (simp; omega)))))⟩
    · injection heq with hA1 hn0 hc1
      subst hA1 hc1
      go_loopg [12] n (fun m i wr => m ≤ n ∧ i = .int .i64 ((n - m : Nat) : Int) ∧ OwnAt wr B (n - m) w.heap.size (w.heap.size + 2) f.parts ∧ Fr (One B) (w1.setCell ⟨w.heap.size, 5, none⟩ (.slice (some ⟨B, 0, none⟩) n c1)) wr)
      case atStart =>
        refine ⟨Nat.le_refl _, by simp, ?_, Fr.refl _ _⟩
        rw [Nat.sub_self]
        have h0 := OwnAt.start (lo := w.heap.size) (hi := w.heap.size + 2) hblk hl htake hel (fun b hb => hb.2)
        have hB2 : w.heap.size + 2 ≤ B := by have := hB; simp at this; omega
        exact h0.fr (F := One w.heap.size) ((by repeat (first | with_reducible exact Fr.refl _ _ | (with_reducible refine Fr.set ?_ _ _ _ (One.self _)) | (with_reducible refine Fr.alloc ?_ _) | (with_reducible refine Fr.drew ?_)))) (fun e => by have e : B = w.heap.size := e; omega) (fun b hb e => by have e : b = w.heap.size := e; omega) (fun b hb e => by have e : b = w.heap.size := e; omega)
      case round =>
        obtain ⟨hm, rfl, hown, hfr⟩ := hrel
        generalize hj : n - gk = j at hown ⊢
        have hj' : j + gk = n := by omega
        clear hj
        obtain ⟨arr, hb, hall⟩ := hown
        by_cases hlt : j < n
        · obtain ⟨fj, hfj⟩ : ∃ fj, f.parts[j]? = some fj := ⟨_, List.getElem?_eq_getElem (by omega)⟩
          obtain ⟨A2, n2, c2, k0, k1, k2, k3, k4, k5, hs2⟩ := hall j fj hfj
          simp only [Nat.lt_irrefl, if_false] at hs2
          have hB2 : w.heap.size + 2 ≤ B := by have := hB; simp at this; omega
          have hBw : B < wr.heap.size := blk_lt hb
          have hzr : w.heap.size < wr.heap.size := by omega
          have hzs : w.heap.size + 1 < wr.heap.size := by omega
          have hne : ¬ w.heap.size = B := by omega
          have hne1 : ¬ w.heap.size + 1 = B := by omega
          have hcf := Fr.cells hfr
          have b0 := (blk_cell hb (j * 6)).trans k0
          have b1 := (blk_cell hb (j * 6 + 1)).trans k1
          have b2 := (blk_cell hb (j * 6 + 2)).trans k2
          have b3 := (blk_cell hb (j * 6 + 3)).trans k3
          have b4 := (blk_cell hb (j * 6 + 4)).trans k4
          have b5 := (blk_cell hb (j * 6 + 5)).trans k5
          have c5 : wr.cell? ⟨w.heap.size, 5, none⟩ = some (.slice (some ⟨B, 0, none⟩) n c1) := by
            rw [hcf _ _ (by simp; omega) hne]; simp [go_sem, e5]
          have hm2 := HM.out fj (List.mem_of_getElem? hfj)
          have HB := Lib.hid hb
          have HALL := Lib.hid hall
          have HFR := Lib.hid hfr
          have HJ := Lib.hid hfj
          have HS2 := Lib.hid hs2
          clear hb hall hfr hfj hs2 hcf k0 k1 k2 k3 k4 k5 hel hcl htake hcur hx1 hblk hl
          go_wp2
          (refine wp_region_mixE _ 4 5 (by kernel_rfl) (by kernel_rfl) ?_; simp only [List.take_succ_cons, List.take_zero])
          (repeat (first | (apply wpStl_op; (focus (first | rfl | (go_simp; done))); (focus (intro w' hw'; have hcy := Ext.cells hw'; go_simp; first | done | rfl | exact ⟨rfl, rfl⟩)); (intro K hK; go_simp; refine hK _ ?_; clear hK K)) | (refine wpStl_no ?_ (fun K hK => ?_); (focus (first | rfl | (go_simp; done))); go_simp; refine hK _ ?_; clear hK K)))
          (show wpMid _ _ _ _ _ _ _; simp only [List.drop_succ_cons, List.drop_zero, List.take_succ_cons, List.take_zero, Nat.reduceSub])
          (refine wpMid_op ?_ (fun K hK => ?_); (focus (first | rfl | (go_simp; done))); go_simp)
          refine (HI.out A2 n2 c2 fj _ hm2.1 hm2.2 ((HS2.out.any.ext ((Fr.refl _ _).alloc _)).ext (Fr.refl _ _).drew)).mono ?_
          rintro e w2 ⟨A3, n3, c3, rfl, hs3, hx3⟩
          have hxr : Ext wr w2 := Fr.trans (Fr.drew ((Fr.refl _ _).alloc _)) hx3
          refine hK _ _ (Fr.trans (Fr.refl _ _).drew hx3) ?_
          clear hK K
          have hcz := Ext.cells hxr
          have hb2 := Ext.blk hxr HB.out
          have hfz := fun i => blk_unfrozen hb2 i
          have hs3' : SlC Rd.form w2 (fun b => wr.heap.size ≤ b) A3 n3 c3 fj.parts := hs3.mono fun b _ h => by simp [World.drew] at h; omega
          have HST := Lib.hid (OwnAt.step ⟨arr, HB.out, HALL.out⟩ hxr HJ.out hs3' (lo := w.heap.size) (hi := w.heap.size + 2) (by omega) (by omega))
          have HXR := Lib.hid hxr
          clear hs3 hs3' hx3 hxr hb2
          have hwr : IntKind.i64.wrap ((j : Int) + 1) = (j : Int) + 1 := IntWalk.i64_in _ (by omega)
          (show wpList _ _ _ _ _ _; try simp only [List.drop_succ_cons, List.drop_zero])
          go_wp2
          go_roundg (gk - 1)
          case measure => omega
          case rel =>
            have e1 : n - (gk - 1) = j + 1 := by omega
            rw [e1]
            refine ⟨by omega, by simp, HST.out, ?_⟩
            refine Fr.trans' HFR.out (Fr.trans' HXR.out.any (F := One B) (G := One B) ?_ (fun _ _ h => h)) (fun _ _ h => h)
            exact (by repeat (first | with_reducible exact Fr.refl _ _ | (with_reducible refine Fr.set ?_ _ _ _ (One.self _)) | (with_reducible refine Fr.alloc ?_ _) | (with_reducible refine Fr.drew ?_)))
        · have hjn : j = n := by omega
          subst hjn
          have hown : OwnAt wr B j w.heap.size (w.heap.size + 2) f.parts := ⟨arr, hb, hall⟩
          have hB2 : w.heap.size + 2 ≤ B := by have := hB; simp at this; omega
          have hBw : B < wr.heap.size := blk_lt hb
          have hzr : w.heap.size < wr.heap.size := by omega
          have hzs : w.heap.size + 1 < wr.heap.size := by omega
          have hne : ¬ w.heap.size = B := by omega
          have hne1 : ¬ w.heap.size + 1 = B := by omega
          have hcf := Fr.cells hfr
          have hff := Fr.frozens hfr
          have c0 : wr.cell? ⟨w.heap.size, 0, none⟩ = some (.int .i64 f.kind) := by rw [hcf _ _ (by simp; omega) hne]; simp [go_sem, e0]
          have c1' : wr.cell? ⟨w.heap.size, 1, none⟩ = some (.int .i64 f.size) := by rw [hcf _ _ (by simp; omega) hne]; simp [go_sem, e1]
          have c2 : wr.cell? ⟨w.heap.size, 2, none⟩ = some (.int .i64 f.lo) := by rw [hcf _ _ (by simp; omega) hne]; simp [go_sem, e2]
          have c3 : wr.cell? ⟨w.heap.size, 3, none⟩ = some (.int .i64 f.hi) := by rw [hcf _ _ (by simp; omega) hne]; simp [go_sem, e3]
          have c4 : wr.cell? ⟨w.heap.size, 4, none⟩ = some (.int .i64 f.step) := by rw [hcf _ _ (by simp; omega) hne]; simp [go_sem, e4]
          have c5 : wr.cell? ⟨w.heap.size, 5, none⟩ = some (.slice (some ⟨B, 0, none⟩) j c1) := by rw [hcf _ _ (by simp; omega) hne]; simp [go_sem, e5]
          have m0 : ∀ i, i < 6 → (wr.cell? ⟨w.heap.size + 1, i, none⟩).isSome = true := by
            intro i hi
            rw [hcf _ _ (by simp; omega) hne1]
            have e : (w1.setCell ⟨w.heap.size, 5, none⟩ (.slice (some ⟨B, 0, none⟩) j c1)).cell? ⟨w.heap.size + 1, i, none⟩ = w1.cell? ⟨w.heap.size + 1, i, none⟩ := by simp [go_sem]
            rw [e, hc1 _ _ (by simp)]
            have : i = 0 ∨ i = 1 ∨ i = 2 ∨ i = 3 ∨ i = 4 ∨ i = 5 := by omega
            rcases this with rfl | rfl | rfl | rfl | rfl | rfl <;> simp [go_sem]
          obtain ⟨m0', hm0⟩ := Option.isSome_iff_exists.1 (m0 0 (by omega))
          obtain ⟨m1', hm1⟩ := Option.isSome_iff_exists.1 (m0 1 (by omega))
          obtain ⟨m2', hm2⟩ := Option.isSome_iff_exists.1 (m0 2 (by omega))
          obtain ⟨m3', hm3⟩ := Option.isSome_iff_exists.1 (m0 3 (by omega))
          obtain ⟨m4', hm4⟩ := Option.isSome_iff_exists.1 (m0 4 (by omega))
          obtain ⟨m5', hm5⟩ := Option.isSome_iff_exists.1 (m0 5 (by omega))
          have mf : ∀ i, wr.frozen? ⟨w.heap.size + 1, i, none⟩ = false := by
            intro i
            rw [hff _ _ (by simp; omega) hne1]
            have e : (w1.setCell ⟨w.heap.size, 5, none⟩ (.slice (some ⟨B, 0, none⟩) j c1)).frozen? ⟨w.heap.size + 1, i, none⟩ = w1.frozen? ⟨w.heap.size + 1, i, none⟩ := by simp [go_sem]
            rw [e, hf1 _ _ (by simp)]
            simp [go_sem]
          have HOW := Lib.hid hown
          have HFR := Lib.hid hfr
          have HX1 := Lib.hid hx1
          have HLL := Lib.hid hl
          clear hown hfr hcf hff hb hall m0 hel hcl htake hcur hx1 hblk hl
          go_wp2
          refine bodyPost_ret (v := formV (some ⟨B, 0, none⟩) j c1 f) (by simp only [results, Tryz.results52]; go_simp) rfl ?_
          have key : ∀ W, Fr (One (w.heap.size + 1)) wr W → SlC Rd.form W (fun b => w.heap.size ≤ b) (some ⟨B, 0, none⟩) j c1 f.parts := fun W hW =>
            ((HOW.out.fr hW (fun e => by have e : B = w.heap.size + 1 := e; omega) (fun b hb' e => by have e : b = w.heap.size + 1 := e; omega) (fun b hb' e => by have e : b = w.heap.size + 1 := e; omega)).sl HLL.out hn1 hn2 hB2).mono fun b _ h => by omega
          have hx9 : Ext w wr := Fr.trans' (Fr.trans ((by repeat (first | with_reducible assumption | with_reducible exact Fr.refl _ _ | (with_reducible refine Fr.alloc ?_ _) | (with_reducible refine Fr.drew ?_) | (with_reducible refine Fr.drewN ?_ _) | (with_reducible refine Fr.setNew ?_ _ _ _ (by first | with_reducible exact Nat.le_refl _ | omega | (simp; omega)))))) HX1.out) (Fr.trans' (F := fun b => b = w.heap.size ∨ b = B) (G := One B) (((by repeat (first | with_reducible exact Fr.refl _ _ | (with_reducible refine Fr.set ?_ _ _ _ (One.self _)) | (with_reducible refine Fr.alloc ?_ _) | (with_reducible refine Fr.drew ?_))) : Fr (One w.heap.size) w1 (w1.setCell ⟨w.heap.size, 5, none⟩ (.slice (some ⟨B, 0, none⟩) j c1))).mono fun b _ h => .inl h) HFR.out (fun b _ h => .inr h)) (fun b hb h => by rcases h with h | h <;> omega)
          exact ⟨_, _, _, rfl, key _ ((by repeat (first | with_reducible exact Fr.refl _ _ | (with_reducible refine Fr.set ?_ _ _ _ (One.self _)) | (with_reducible refine Fr.alloc ?_ _) | (with_reducible refine Fr.drew ?_)))), (by repeat (first | with_reducible assumption | with_reducible exact Fr.refl _ _ | (with_reducible refine Fr.alloc ?_ _) | (with_reducible refine Fr.drew ?_) | (with_reducible refine Fr.drewN ?_ _) | (with_reducible refine Fr.setNew ?_ _ _ _ (by first | with_reducible exact Nat.le_refl _ | omega | (simp; omega)))))⟩

/-! ### The form of a message's body -/
theorem messages_few : Form.messages.all (fun p => p.2.few && decide (p.2.depth ≤ 8)) = true := by decide
theorem message_mem {k : Nat} {f : Form} (h : Form.message k = some f) : (k, f) ∈ Form.messages := by
  unfold Form.message at h
  have : ∀ l : List (Nat × Form), l.lookup k = some f → (k, f) ∈ l := by
    intro l
    induction l with
    | nil => intro h; simp at h
    | cons p l ih =>
      intro h
      obtain ⟨a, b⟩ := p
      simp only [List.lookup] at h
      split at h
      · rename_i e
        have e : k = a := by simpa using e
        subst e
        injection h with h
        subst h
        exact List.mem_cons_self
      · exact List.mem_cons_of_mem _ (ih h)
  exact this _ h
theorem message_of_mem {k : Nat} {f : Form} (h : (k, f) ∈ Form.messages) : Form.message k = some f := by
  simp only [Form.messages, List.mem_cons, List.not_mem_nil, or_false] at h
  rcases h with h | h | h | h | h | h | h | h | h | h <;> (injection h with h1 h2; subst h1; subst h2; rfl)
theorem message_none {k : Nat} (h : ∀ q ∈ Form.messages, (k : Int) ≠ ((q : Nat × Form).1 : Int)) : Form.message k = none := by
  cases e : Form.message k with
  | none => rfl
  | some f => exact absurd rfl (h _ (message_mem e))
/-- What the lookup of a kind hands back. -/
def MsgRet (k : Nat) (w : World) (e : Ending) (w' : World) : Prop := match Form.message k with
  | some f => ∃ A n c, e = .returned (.tuple #[formV A n c f, .bool true]) ∧ SlC Rd.form w' (fun b => w.heap.size ≤ b) A n c f.parts ∧ Ext w w'
  | none => ∃ A n c, e = .returned (.tuple #[formV A n c Form.zero, .bool false]) ∧ Ext w w'
theorem zero_form (w : World) : (zeroValue 70).run Tryz.prog w = .ok (formV none 0 0 Form.zero) w := by kernel_rfl
theorem messages_some (k : Nat) (f : Form) (h : Form.message k = some f) (w : World) : Calls Tryz.prog 51 #[] w fun e w' => ∃ b A n c, e = .returned (.map (some b)) ∧
    (Instr.lookup 102 (.map (some b)) (.int .i64 k) true).run Tryz.prog w' = .ok (.tuple #[formV A n c f, .bool true]) w' ∧ SlC Rd.form w' Any A n c f.parts ∧ Ext w w' := by
  refine (shape_messages w).mono ?_
  rintro e w' ⟨b, rfl, ⟨g, hg, hk⟩, hx⟩
  have hL := int_lookup Tryz.underlying102 Tryz.underlying3 hg (k : Int) (zero_form w')
  have := hk k
  cases e : g k with
  | none =>
    rw [e] at this
    rw [message_none this] at h
    cases h
  | some v =>
    rw [e] at this hL
    obtain ⟨q, hq, hqk, A, n, c, rfl, hs⟩ := this
    obtain ⟨k', f'⟩ := q
    have hqk : k = k' := by simp only at hqk; omega
    subst hqk
    rw [message_of_mem hq] at h
    injection h with h
    subst h
    exact ⟨b, A, n, c, rfl, hL, hs, hx⟩
theorem messages_none (k : Nat) (h : Form.message k = none) (w : World) : Calls Tryz.prog 51 #[] w fun e w' => ∃ b, e = .returned (.map (some b)) ∧
    (Instr.lookup 102 (.map (some b)) (.int .i64 k) true).run Tryz.prog w' = .ok (.tuple #[formV none 0 0 Form.zero, .bool false]) w' ∧ Ext w w' := by
  refine (shape_messages w).mono ?_
  rintro e w' ⟨b, rfl, ⟨g, hg, hk⟩, hx⟩
  have hL := int_lookup Tryz.underlying102 Tryz.underlying3 hg (k : Int) (zero_form w')
  have := hk k
  cases e : g k with
  | none =>
    rw [e] at hL
    exact ⟨b, rfl, hL, hx⟩
  | some v =>
    rw [e] at this
    obtain ⟨q, hq, hqk, _⟩ := this
    obtain ⟨k', f'⟩ := q
    have hqk : k = k' := by simp only at hqk; omega
    subst hqk
    rw [message_of_mem hq] at h
    cases h
set_option maxHeartbeats 1000000 in
theorem shape_Message (k : Nat) (w : World) : Calls Tryz.prog 27 #[.int .i64 k] w (MsgRet k w) := by
  unfold MsgRet
  cases hk : Form.message k with
  | none =>
    simp only
    have HK := Lib.hid (fun w => messages_none k hk w)
    clear hk
    go_enter Tryz.func27, Tryz.ntmps27
    go_wp2_with (first | ((go_at_call 51; refine (HK.out _).mono ?_; rintro e w1 ⟨b, rfl, hL, hx1⟩; have hc1 := Ext.cells hx1; have hf1 := Ext.frozens hx1; have hz1 := Fr.size hx1; try simp [go_sem] at hz1; try (have hzl := Nat.lt_of_succ_le hz1; try (have hzm := Nat.lt_of_succ_lt hzl)))) | ((go_at_call 52; refine (shape_own 1 none 0 0 Form.zero _ (by decide) (by decide) (SlC.nil _ _ _ _ _ (Nat.zero_le _) (fun _ => rfl))).mono ?_; rintro e w2 ⟨A2, n2, c2, rfl, h2, hx2⟩; have hc2 := Ext.cells hx2; have hf2 := Ext.frozens hx2; have hz2 := Fr.size hx2; try simp [go_sem] at hz2; try (have hzl := Nat.lt_of_succ_le hz2; try (have hzm := Nat.lt_of_succ_lt hzl)))))
    have hq : w.heap.size < w1.heap.size + 1 := by omega
    have hq2 : w.heap.size < w2.heap.size := by omega
    refine bodyPost_ret (v := .tuple #[formV A2 n2 c2 Form.zero, .bool false]) (by simp only [results, Tryz.results27]; go_simp) rfl ?_
    have hx9 : Ext w w2 := Fr.trans (Fr.trans (Fr.trans ((by repeat (first | with_reducible assumption | with_reducible exact Fr.refl _ _ | (with_reducible refine Fr.alloc ?_ _) | (with_reducible refine Fr.drew ?_) | (with_reducible refine Fr.drewN ?_ _) | (with_reducible refine Fr.setNew ?_ _ _ _ (by first | with_reducible exact Nat.le_refl _ | omega | (simp; omega)))))) hx1) ((by repeat (first | with_reducible assumption | with_reducible exact Fr.refl _ _ | (with_reducible refine Fr.alloc ?_ _) | (with_reducible refine Fr.drew ?_) | (with_reducible refine Fr.drewN ?_ _) | (with_reducible refine Fr.setNew ?_ _ _ _ (by first | with_reducible exact Nat.le_refl _ | omega | (simp; omega))))))) hx2
    exact ⟨_, _, _, rfl, (by repeat (first | with_reducible assumption | with_reducible exact Fr.refl _ _ | (with_reducible refine Fr.alloc ?_ _) | (with_reducible refine Fr.drew ?_) | (with_reducible refine Fr.drewN ?_ _) | (with_reducible refine Fr.setNew ?_ _ _ _ (by first | with_reducible exact Nat.le_refl _ | omega | (simp; omega)))))⟩
  | some f =>
    simp only
    have HK := Lib.hid (fun w => messages_some k f hk w)
    have hall := List.all_eq_true.1 messages_few _ (message_mem hk)
    simp only [Bool.and_eq_true, decide_eq_true_eq] at hall
    clear hk
    go_enter Tryz.func27, Tryz.ntmps27
    go_wp2_with (first | ((go_at_call 51; refine (HK.out _).mono ?_; rintro e w1 ⟨b, A1, n1, c1, rfl, hL, h1, hx1⟩; have hc1 := Ext.cells hx1; have hf1 := Ext.frozens hx1; have hz1 := Fr.size hx1; try simp [go_sem] at hz1; try (have hzl := Nat.lt_of_succ_le hz1; try (have hzm := Nat.lt_of_succ_lt hzl)))) | ((go_at_call 52; refine (shape_own 8 A1 n1 c1 f _ hall.2 hall.1 (h1.ext ((by repeat (first | with_reducible assumption | with_reducible exact Fr.refl _ _ | (with_reducible refine Fr.alloc ?_ _) | (with_reducible refine Fr.drew ?_) | (with_reducible refine Fr.drewN ?_ _) | (with_reducible refine Fr.setNew ?_ _ _ _ (by first | with_reducible exact Nat.le_refl _ | omega | (simp; omega)))))))).mono ?_; rintro e w2 ⟨A2, n2, c2, rfl, h2, hx2⟩; have hc2 := Ext.cells hx2; have hf2 := Ext.frozens hx2; have hz2 := Fr.size hx2; try simp [go_sem] at hz2; try (have hzl := Nat.lt_of_succ_le hz2; try (have hzm := Nat.lt_of_succ_lt hzl)))))
    have hq : w.heap.size < w1.heap.size + 1 := by omega
    have hq2 : w.heap.size < w2.heap.size := by omega
    refine bodyPost_ret (v := .tuple #[formV A2 n2 c2 f, .bool true]) (by simp only [results, Tryz.results27]; go_simp) rfl ?_
    have hx9 : Ext w w2 := Fr.trans (Fr.trans (Fr.trans ((by repeat (first | with_reducible assumption | with_reducible exact Fr.refl _ _ | (with_reducible refine Fr.alloc ?_ _) | (with_reducible refine Fr.drew ?_) | (with_reducible refine Fr.drewN ?_ _) | (with_reducible refine Fr.setNew ?_ _ _ _ (by first | with_reducible exact Nat.le_refl _ | omega | (simp; omega)))))) hx1) ((by repeat (first | with_reducible assumption | with_reducible exact Fr.refl _ _ | (with_reducible refine Fr.alloc ?_ _) | (with_reducible refine Fr.drew ?_) | (with_reducible refine Fr.drewN ?_ _) | (with_reducible refine Fr.setNew ?_ _ _ _ (by first | with_reducible exact Nat.le_refl _ | omega | (simp; omega))))))) hx2
    have key : ∀ W, Fr (One w.heap.size) w2 W → SlC Rd.form W (fun b => w.heap.size ≤ b) A2 n2 c2 f.parts := fun W hW => (h2.fr hW fun b hb e => by
      have e : b = w.heap.size := e
      simp at hb
      omega).mono fun b _ hb => by
      simp at hb
      omega
    exact ⟨_, _, _, rfl, key _ ((by repeat (first | with_reducible exact Fr.refl _ _ | (with_reducible refine Fr.set ?_ _ _ _ (One.self _)) | (with_reducible refine Fr.alloc ?_ _) | (with_reducible refine Fr.drew ?_)))), (by repeat (first | with_reducible assumption | with_reducible exact Fr.refl _ _ | (with_reducible refine Fr.alloc ?_ _) | (with_reducible refine Fr.drew ?_) | (with_reducible refine Fr.drewN ?_ _) | (with_reducible refine Fr.setNew ?_ _ _ _ (by first | with_reducible exact Nat.le_refl _ | omega | (simp; omega)))))⟩
end Go.Proofs.YtalbiepdkaldmaaGreatDoor
