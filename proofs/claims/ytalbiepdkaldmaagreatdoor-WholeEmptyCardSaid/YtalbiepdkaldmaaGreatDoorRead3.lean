/- read: forms, rows, lists. -/
import Derived.Test.YtalbiepdkaldmaaGreatDoorProg
import Derived.Test.YtalbiepdkaldmaaGreatDoorRead2
import Derived.Deep.QuietTactic
import Derived.BigQuiet
import Derived.Deep.LoopGhost
set_option linter.unusedVariables false
set_option linter.unusedSimpArgs false
namespace Go.Proofs.YtalbiepdkaldmaaGreatDoor
open Go.RowKit

theorem wpStl_idx {P : Program} {ops : Array Oper} {C : World → Prop} {QQ : Act → Prop} {o : Oper} {rest : List Oper} {a : Act} (hw : Region.wanted o (yielded ops a.tmps) = true) (t : TypeId) (x i : Operand) (ho : o.op = .indexAddr t x i) (k : Int) (e sz : Nat)
    (ht : P.underlying t = some (.slice e)) (hsz : ∀ w, (sizeOf e).run P w = .ok sz w) {b off n c : Nat} (hx : a.eval x = .slice (some ⟨b, off, none⟩) n c) (hk : a.eval i = .int .i64 k) (h0 : 0 ≤ k) (h1 : k < n)
    (hn : ∀ K : Act → Prop, (∀ a, wpStl P ops C QQ rest a → K a) → K (a.put o.dst (.pointer (some ⟨b, off + k.toNat * sz, none⟩)))) : wpStl P ops C QQ (o :: rest) a := by
  refine wpStl_op _ hw (fun w _ => ?_) hn
  unfold Oper.quietAt execOp
  have he : P.elem t = e := by simp [Program.elem, ht]
  simp only [ho, hx, hk, Sem.run_bind, run_indexAt_slice (h := by rw [he]; exact ht), h0, h1, and_self, if_true, he, hsz, Result.andThen_ok, addr_add, Sem.run_pure, Oper.quietUpon]
theorem form_at {w : World} {ok : Nat → Prop} {A : Option Addr} {n c : Nat} {xs : List Form} (H : SlC Rd.form w ok A n c xs) {j : Nat} {f : Form} (h : xs[j]? = some f) :
    ∃ b o A' n' c', A = some ⟨b, o, none⟩ ∧ ok b ∧ SlC Rd.form w ok A' n' c' f.parts ∧ w.cell? ⟨b, o + j * 6, none⟩ = some (.int .i64 f.kind) ∧ w.cell? ⟨b, o + j * 6 + 1, none⟩ = some (.int .i64 f.size) ∧ w.cell? ⟨b, o + j * 6 + 2, none⟩ = some (.int .i64 f.lo) ∧
      w.cell? ⟨b, o + j * 6 + 3, none⟩ = some (.int .i64 f.hi) ∧ w.cell? ⟨b, o + j * 6 + 4, none⟩ = some (.int .i64 f.step) ∧ w.cell? ⟨b, o + j * 6 + 5, none⟩ = some (.slice A' n' c') := by
  obtain ⟨cs, ⟨b, off, arr, T, fr, rfl, hok, hb, hc⟩, hK⟩ := H.get h
  obtain ⟨A', n', c', rfl, hs⟩ := Rd.form_iff.1 hK
  have hcell : ∀ i u, [Value.int .i64 f.kind, .int .i64 f.size, .int .i64 f.lo, .int .i64 f.hi, .int .i64 f.step, .slice A' n' c'][i]? = some u → w.cell? ⟨b, off + j * 6 + i, none⟩ = some u := fun i u hu => by
    have := hc i u hu
    simp [World.cell?, hb]
    exact this
  exact ⟨b, off, A', n', c', rfl, hok, hs, hcell 0 _ rfl, hcell 1 _ rfl, hcell 2 _ rfl, hcell 3 _ rfl, hcell 4 _ rfl, hcell 5 _ rfl⟩
theorem app_val : AppT Tryz.prog 26 28 3 56 := AppT.of (z := .agg #[.int .u64 0, .slice none 0 0, .slice none 0 0]) Tryz.underlying26 (by kernel_rfl) rfl (by decide) (by decide)

/-! ### What is laid -/
def LaidAt (w : World) (g : Nat) (l : List Value) : Prop := ∀ i x, l[i]? = some x → w.cell? ⟨g, i, none⟩ = some x
def fv (n : Nat) : Value := .func (.func n) #[] #[]
def i64s (l : List Int) : List Value := l.map (.int .i64 ·)
structure Laid (w : World) : Prop where
  size : 11 ≤ w.heap.size
  k0 : w.cell? ⟨0, 0, none⟩ = some (fv 304)
  k1 : w.cell? ⟨0, 1, none⟩ = some (fv 305)
  k4 : w.cell? ⟨0, 4, none⟩ = some (fv 306)
  k5 : w.cell? ⟨0, 5, none⟩ = some (fv 307)
  plain : LaidAt w 3 (i64s [1, 2, 3, 4, 5, 6, 10, 12, 18, 19, 20, 22, 23, 24, 26, 28, 30])
  made : LaidAt w 4 (i64s [16, 17])
  days : LaidAt w 5 (i64s [31, 28, 31, 30, 31, 30, 31, 31, 30, 31, 30, 31])
theorem Laid.fr {F : Nat → Prop} {w w' : World} (h : Laid w) (hf : Fr F w w') (hF : ∀ b, b < 11 → ¬ F b) : Laid w' := by
  have hc := Fr.cells hf
  have hs := h.size
  refine ⟨Nat.le_trans hs hf.size, ?_, ?_, ?_, ?_, ?_, ?_, ?_⟩
  · rw [hc _ _ (by omega) (hF _ (by decide))]; exact h.k0
  · rw [hc _ _ (by omega) (hF _ (by decide))]; exact h.k1
  · rw [hc _ _ (by omega) (hF _ (by decide))]; exact h.k4
  · rw [hc _ _ (by omega) (hF _ (by decide))]; exact h.k5
  · intro i x hx; rw [hc _ _ (by omega) (hF _ (by decide))]; exact h.plain i x hx
  · intro i x hx; rw [hc _ _ (by omega) (hF _ (by decide))]; exact h.made i x hx
  · intro i x hx; rw [hc _ _ (by omega) (hF _ (by decide))]; exact h.days i x hx
theorem Laid.ext {w w' : World} (h : Laid w) (hf : Ext w w') : Laid w' := h.fr hf (fun _ _ f => f)

/-! ### The state of a reading -/
structure RdEnv (ok okf : Nat → Prop) (g r : Nat) (l : Bytes) (p : Nat) (w : World) : Prop where
  cur : IsCur w ok g l p
  rd : IsRd w r 0 0
  laid : Laid w
  hok : ∀ b, ok b → b < w.heap.size
  hokf : ∀ b, okf b → b < w.heap.size ∧ b ≠ g ∧ b ≠ r
  gG : 11 ≤ g
  rG : 11 ≤ r
  ne : g ≠ r
  len : l.length ≤ 1099511627776
theorem RdEnv.step {ok okf : Nat → Prop} {g r : Nat} {l l' : Bytes} {p p' : Nat} {w w' : World} (h : RdEnv ok okf g r l p w) (hf : Fr (One g) w w') (hc : IsCur w' ok g l' p') (hl : l'.length ≤ l.length) : RdEnv ok okf g r l' p' w' :=
  ⟨hc, h.rd.fr hf (fun e => h.ne (by rw [show r = g from e])), h.laid.fr hf (fun b hb e => by have := h.gG; have e : b = g := e; omega), fun b hb => Nat.lt_of_lt_of_le (h.hok b hb) hf.size, fun b hb => ⟨Nat.lt_of_lt_of_le (h.hokf b hb).1 hf.size, (h.hokf b hb).2⟩, h.gG, h.rG, h.ne, Nat.le_trans hl h.len⟩
theorem RdEnv.step2 {ok okf : Nat → Prop} {g r : Nat} {l l' : Bytes} {p p' : Nat} {w w' : World} {F : Nat → Prop} (h : RdEnv ok okf g r l p w) (hf : Fr F w w') (hr : ¬ F r) (hG : ∀ b, b < 11 → ¬ F b) (hc : IsCur w' ok g l' p') (hl : l'.length ≤ l.length) : RdEnv ok okf g r l' p' w' :=
  ⟨hc, h.rd.fr hf hr, h.laid.fr hf hG, fun b hb => Nat.lt_of_lt_of_le (h.hok b hb) hf.size, fun b hb => ⟨Nat.lt_of_lt_of_le (h.hokf b hb).1 hf.size, (h.hokf b hb).2⟩, h.gG, h.rG, h.ne, Nat.le_trans hl h.len⟩
theorem RdEnv.ext {ok okf : Nat → Prop} {g r : Nat} {l : Bytes} {p : Nat} {w w' : World} (h : RdEnv ok okf g r l p w) (hf : Ext w w') : RdEnv ok okf g r l p w' := h.step hf.any (h.cur.ext hf) (Nat.le_refl _)
theorem RdEnv.gl {ok okf : Nat → Prop} {g r : Nat} {l : Bytes} {p : Nat} {w : World} (h : RdEnv ok okf g r l p w) : g < w.heap.size := h.cur.lt
theorem RdEnv.rl {ok okf : Nat → Prop} {g r : Nat} {l : Bytes} {p : Nat} {w : World} (h : RdEnv ok okf g r l p w) : r < w.heap.size := blk_lt h.rd

def FormSpec (d : Nat) : Prop := ∀ (A : Option Addr) (n c : Nat) (f : Form) (g r : Nat) (l : Bytes) (p : Nat) (ok okf : Nat → Prop) (w : World), f.depth ≤ d → f.wf = true → RdEnv ok okf g r l p w → SlC Rd.form w okf A n c f.parts →
  Calls Tryz.prog 91 #[.pointer (some ⟨r, 0, none⟩), .pointer (some ⟨g, 0, none⟩), formV A n c f] w (ReadPost ok g r l p (f.read l p) w)

/-- A row so far. -/
def pre (vs : List Val) (k : Nat) (R : Except RdErr (List Val × Nat)) : Except RdErr (List Val × Nat) := match R with
  | .error e => .error e
  | .ok (vs', k') => .ok (vs ++ vs', k + k')
theorem pre_nil (R : Except RdErr (List Val × Nat)) : pre [] 0 R = R := by rcases R with e | ⟨a, b⟩ <;> simp [pre]

set_option maxHeartbeats 2000000 in
set_option maxRecDepth 4000 in
theorem read_form0 (d : Nat)
    (hrow : ∀ (A : Option Addr) (n c : Nat) (f : Form) (g r : Nat) (l : Bytes) (p : Nat) (ok okf : Nat → Prop) (w : World), f.kind = 3 → f.depth ≤ d → f.wf = true → RdEnv ok okf g r l p w → SlC Rd.form w okf A n c f.parts →
      Calls Tryz.prog 129 #[.pointer (some ⟨r, 0, none⟩), .pointer (some ⟨g, 0, none⟩), formV A n c f] w (ReadPost ok g r l p (f.read l p) w))
    (hlist : ∀ (A : Option Addr) (n c : Nat) (f : Form) (g r : Nat) (l : Bytes) (p : Nat) (ok okf : Nat → Prop) (w : World), f.kind = 2 → f.depth ≤ d → f.wf = true → RdEnv ok okf g r l p w → SlC Rd.form w okf A n c f.parts →
      Calls Tryz.prog 128 #[.pointer (some ⟨r, 0, none⟩), .pointer (some ⟨g, 0, none⟩), formV A n c f] w (ReadPost ok g r l p (f.read l p) w)) : FormSpec d := by
  intro A n c f g r l p ok okf w hd hw he h
  have HR := Lib.hid hrow
  have HLi := Lib.hid hlist
  have HE := Lib.hid he
  have HW := Lib.hid hw
  have HF := Lib.hid h
  have hgl := he.gl
  have hrl := he.rl
  have hrn : ¬ w.heap.size = r := by omega
  have hgn : ¬ w.heap.size = g := by omega
  have hrn1 : ¬ w.heap.size + 1 = r := by omega
  have hgn1 : ¬ w.heap.size + 1 = g := by omega
  obtain ⟨q0, q1, q2, q3, q4⟩ := he.rd.cells
  clear hrow hlist he hw h
  have HX := Lib.hid hd
  clear hd
  by_cases h2 : f.kind = 2
  · have e2 : ((f.kind : Int) == 2) = true := by simp; omega
    have HK := Lib.hid h2
    clear h2
    simp only [formV]
    go_enter Tryz.func91, Tryz.ntmps91
    go_wp2_with (first | (go_at_call 128; refine (HLi.out A n c f g r l p ok okf _ HK.out HX.out HW.out (HE.out.ext ((by repeat (first | with_reducible assumption | with_reducible exact Fr.refl _ _ | (with_reducible refine Fr.alloc ?_ _) | (with_reducible refine Fr.drew ?_) | (with_reducible refine Fr.drewN ?_ _) | (with_reducible refine Fr.setNew ?_ _ _ _ (by first | with_reducible exact Nat.le_refl _ | omega | (simp; omega))))))) (HF.out.ext ((by repeat (first | with_reducible assumption | with_reducible exact Fr.refl _ _ | (with_reducible refine Fr.alloc ?_ _) | (with_reducible refine Fr.drew ?_) | (with_reducible refine Fr.drewN ?_ _) | (with_reducible refine Fr.setNew ?_ _ _ _ (by first | with_reducible exact Nat.le_refl _ | omega | (simp; omega)))))))).mono ?_; intro e w1 hp1; obtain ⟨x1, A1, n1, c1, B1, m1, d1, v1, rfl, hr1⟩ := id hp1; clear hr1; have hx1 := hp1.fr; have hc1 := Fr.cells hx1; have hf1 := Fr.frozens hx1; have hz1 := Fr.size hx1; simp only [One, Two, not_or, and_imp] at hc1 hf1; try simp [go_sem] at hz1; try (have hzl := Nat.lt_of_succ_le hz1; try (have hzm := Nat.lt_of_succ_lt hzl))))
    refine bodyPost_ret (v := .agg #[.int .u64 x1, .slice A1 n1 c1, .slice B1 m1 d1]) (by simp only [results, Tryz.results91]; go_simp) rfl ?_
    exact ReadPost.put hp1 ((by repeat (first | with_reducible assumption | with_reducible exact Fr.refl _ _ | (with_reducible refine Fr.alloc ?_ _) | (with_reducible refine Fr.drew ?_) | (with_reducible refine Fr.drewN ?_ _) | (with_reducible refine Fr.setNew ?_ _ _ _ (by first | with_reducible exact Nat.le_refl _ | omega | (simp; omega)))))) (Nat.le_succ _) (by simp) hgl hrl HE.out.hok _ _ _
  have e2 : ((f.kind : Int) == 2) = false := by simp; omega
  by_cases h3 : f.kind = 3
  · have e3 : ((f.kind : Int) == 3) = true := by simp; omega
    have HK := Lib.hid h3
    clear h2 h3
    simp only [formV]
    go_enter Tryz.func91, Tryz.ntmps91
    go_wp2_with (first | (go_at_call 129; refine (HR.out A n c f g r l p ok okf _ HK.out HX.out HW.out (HE.out.ext ((by repeat (first | with_reducible assumption | with_reducible exact Fr.refl _ _ | (with_reducible refine Fr.alloc ?_ _) | (with_reducible refine Fr.drew ?_) | (with_reducible refine Fr.drewN ?_ _) | (with_reducible refine Fr.setNew ?_ _ _ _ (by first | with_reducible exact Nat.le_refl _ | omega | (simp; omega))))))) (HF.out.ext ((by repeat (first | with_reducible assumption | with_reducible exact Fr.refl _ _ | (with_reducible refine Fr.alloc ?_ _) | (with_reducible refine Fr.drew ?_) | (with_reducible refine Fr.drewN ?_ _) | (with_reducible refine Fr.setNew ?_ _ _ _ (by first | with_reducible exact Nat.le_refl _ | omega | (simp; omega)))))))).mono ?_; intro e w1 hp1; obtain ⟨x1, A1, n1, c1, B1, m1, d1, v1, rfl, hr1⟩ := id hp1; clear hr1; have hx1 := hp1.fr; have hc1 := Fr.cells hx1; have hf1 := Fr.frozens hx1; have hz1 := Fr.size hx1; simp only [One, Two, not_or, and_imp] at hc1 hf1; try simp [go_sem] at hz1; try (have hzl := Nat.lt_of_succ_le hz1; try (have hzm := Nat.lt_of_succ_lt hzl))))
    refine bodyPost_ret (v := .agg #[.int .u64 x1, .slice A1 n1 c1, .slice B1 m1 d1]) (by simp only [results, Tryz.results91]; go_simp) rfl ?_
    exact ReadPost.put hp1 ((by repeat (first | with_reducible assumption | with_reducible exact Fr.refl _ _ | (with_reducible refine Fr.alloc ?_ _) | (with_reducible refine Fr.drew ?_) | (with_reducible refine Fr.drewN ?_ _) | (with_reducible refine Fr.setNew ?_ _ _ _ (by first | with_reducible exact Nat.le_refl _ | omega | (simp; omega)))))) (Nat.le_succ _) (by simp) hgl hrl HE.out.hok _ _ _
  have e3 : ((f.kind : Int) == 3) = false := by simp; omega
  have hk : f.kind = 0 ∨ f.kind = 1 ∨ f.kind = 4 ∨ f.kind = 5 := by
    have ho := Form.wf_own HW.out
    obtain ⟨k, s, lo, hi, st, ps⟩ := f
    simp only [Form.kind] at *
    match k, ho with
    | 0, _ | 1, _ | 2, _ | 3, _ | 4, _ | 5, _ => omega
    | k + 6, ho => simp [Form.own] at ho
  have hla := HE.out.laid
  have hsz := hla.size
  obtain ⟨k0, k1, k4, k5⟩ : w.cell? ⟨0, 0, none⟩ = some (fv 304) ∧ w.cell? ⟨0, 1, none⟩ = some (fv 305) ∧ w.cell? ⟨0, 4, none⟩ = some (fv 306) ∧ w.cell? ⟨0, 5, none⟩ = some (fv 307) := ⟨hla.k0, hla.k1, hla.k4, hla.k5⟩
  simp only [fv] at k0 k1 k4 k5
  clear h2 h3 hla
  have hz5 : 0 < w.heap.size := by omega
  have hz6 : ¬ 0 = w.heap.size := by omega
  have hz7 : ¬ 0 = w.heap.size + 1 := by omega
  have hz8 : 0 < w.heap.size + 1 := by omega
  have hz9 : 0 < w.heap.size + 1 + 1 := by omega
  clear HR HLi HF HX
  have H0 := Lib.hid (fun w hk hc hr hok => read_number A n c f g r l p ok w hk HW.out hc hr hok HE.out.ne)
  have H1 := Lib.hid (fun w hk hc hr hok => read_opaque A n c f g r l p ok w hk HW.out hc hr hok HE.out.len HE.out.ne)
  have H4 := Lib.hid (fun w hk hc hr hok => read_rest A n c f g r l p ok w hk HW.out hc hr hok HE.out.len HE.out.ne)
  have H5 := Lib.hid (fun w hk hc hr hok => read_fixed A n c f g r l p ok w hk hc hr hok HE.out.len HE.out.ne)
  have HK := Lib.hid hk
  generalize f.read l p = R at H0 H1 H4 H5
  simp only [formV]
  have hk' : f.kind = 0 ∨ f.kind = 1 ∨ f.kind = 4 ∨ f.kind = 5 := hk
  have HEE : Hid (∀ w', Ext w w' → IsCur w' ok g l p ∧ IsRd w' r 0 0 ∧ ∀ b, ok b → b < w'.heap.size) := Lib.hid fun w' hx => ⟨HE.out.cur.ext hx, HE.out.rd.ext hx, fun b hb => Nat.lt_of_lt_of_le (HE.out.hok b hb) hx.size⟩
  have hokk := Lib.hid HE.out.hok
  clear hk HK HW
  obtain ⟨k, s, lo, hi, st, ps⟩ := f
  simp only [formV, Form.kind, Form.size, Form.lo, Form.hi, Form.step, Form.parts] at H0 H1 H4 H5 hk' e2 e3 ⊢
  rcases hk' with rfl | rfl | rfl | rfl
  all_goals
    go_enter Tryz.func91, Tryz.ntmps91
    go_wp2
    (refine wp_region_mixE _ 7 7 (by kernel_rfl) (by kernel_rfl) ?_; simp only [List.take_succ_cons, List.take_zero])
    (repeat (first | (apply wpStl_op; (focus (first | rfl | (go_simp; done))); (focus (intro w' hw'; have hcy := Ext.cells hw'; go_simp; first | done | rfl | exact ⟨rfl, rfl⟩)); (intro K hK; go_simp; refine hK _ ?_; clear hK K)) | (refine wpStl_no ?_ (fun K hK => ?_); (focus (first | rfl | (go_simp; done))); go_simp; refine hK _ ?_; clear hK K)))
    (show wpMid _ _ _ _ _ _ _; simp only [List.drop_succ_cons, List.drop_zero, List.take_succ_cons, List.take_zero, Nat.reduceSub])
    (show wpList _ _ _ _ _ _; try simp only [List.drop_succ_cons, List.drop_zero])
    go_wp2_with (first | (go_at_call 304; refine (H0.out _ (by simp) (HEE.out _ (Fr.drew ((by repeat (first | with_reducible assumption | with_reducible exact Fr.refl _ _ | (with_reducible refine Fr.alloc ?_ _) | (with_reducible refine Fr.drew ?_) | (with_reducible refine Fr.drewN ?_ _) | (with_reducible refine Fr.setNew ?_ _ _ _ (by first | with_reducible exact Nat.le_refl _ | omega | (simp; omega)))))))).1 (HEE.out _ (Fr.drew ((by repeat (first | with_reducible assumption | with_reducible exact Fr.refl _ _ | (with_reducible refine Fr.alloc ?_ _) | (with_reducible refine Fr.drew ?_) | (with_reducible refine Fr.drewN ?_ _) | (with_reducible refine Fr.setNew ?_ _ _ _ (by first | with_reducible exact Nat.le_refl _ | omega | (simp; omega)))))))).2.1 (HEE.out _ (Fr.drew ((by repeat (first | with_reducible assumption | with_reducible exact Fr.refl _ _ | (with_reducible refine Fr.alloc ?_ _) | (with_reducible refine Fr.drew ?_) | (with_reducible refine Fr.drewN ?_ _) | (with_reducible refine Fr.setNew ?_ _ _ _ (by first | with_reducible exact Nat.le_refl _ | omega | (simp; omega)))))))).2.2).mono ?_; intro e w1 hp1; obtain ⟨x1, A1, n1, c1, B1, m1, d1, v1, rfl, hr1⟩ := id hp1; clear hr1; have hx1 := hp1.fr; have hc1 := Fr.cells hx1; have hf1 := Fr.frozens hx1; have hz1 := Fr.size hx1; simp only [One, Two, not_or, and_imp] at hc1 hf1; try simp [go_sem] at hz1; try (have hzl := Nat.lt_of_succ_le hz1; try (have hzm := Nat.lt_of_succ_lt hzl))) | (go_at_call 305; refine (H1.out _ (by simp) (HEE.out _ (Fr.drew ((by repeat (first | with_reducible assumption | with_reducible exact Fr.refl _ _ | (with_reducible refine Fr.alloc ?_ _) | (with_reducible refine Fr.drew ?_) | (with_reducible refine Fr.drewN ?_ _) | (with_reducible refine Fr.setNew ?_ _ _ _ (by first | with_reducible exact Nat.le_refl _ | omega | (simp; omega)))))))).1 (HEE.out _ (Fr.drew ((by repeat (first | with_reducible assumption | with_reducible exact Fr.refl _ _ | (with_reducible refine Fr.alloc ?_ _) | (with_reducible refine Fr.drew ?_) | (with_reducible refine Fr.drewN ?_ _) | (with_reducible refine Fr.setNew ?_ _ _ _ (by first | with_reducible exact Nat.le_refl _ | omega | (simp; omega)))))))).2.1 (HEE.out _ (Fr.drew ((by repeat (first | with_reducible assumption | with_reducible exact Fr.refl _ _ | (with_reducible refine Fr.alloc ?_ _) | (with_reducible refine Fr.drew ?_) | (with_reducible refine Fr.drewN ?_ _) | (with_reducible refine Fr.setNew ?_ _ _ _ (by first | with_reducible exact Nat.le_refl _ | omega | (simp; omega)))))))).2.2).mono ?_; intro e w1 hp1; obtain ⟨x1, A1, n1, c1, B1, m1, d1, v1, rfl, hr1⟩ := id hp1; clear hr1; have hx1 := hp1.fr; have hc1 := Fr.cells hx1; have hf1 := Fr.frozens hx1; have hz1 := Fr.size hx1; simp only [One, Two, not_or, and_imp] at hc1 hf1; try simp [go_sem] at hz1; try (have hzl := Nat.lt_of_succ_le hz1; try (have hzm := Nat.lt_of_succ_lt hzl))) | (go_at_call 306; refine (H4.out _ (by simp) (HEE.out _ (Fr.drew ((by repeat (first | with_reducible assumption | with_reducible exact Fr.refl _ _ | (with_reducible refine Fr.alloc ?_ _) | (with_reducible refine Fr.drew ?_) | (with_reducible refine Fr.drewN ?_ _) | (with_reducible refine Fr.setNew ?_ _ _ _ (by first | with_reducible exact Nat.le_refl _ | omega | (simp; omega)))))))).1 (HEE.out _ (Fr.drew ((by repeat (first | with_reducible assumption | with_reducible exact Fr.refl _ _ | (with_reducible refine Fr.alloc ?_ _) | (with_reducible refine Fr.drew ?_) | (with_reducible refine Fr.drewN ?_ _) | (with_reducible refine Fr.setNew ?_ _ _ _ (by first | with_reducible exact Nat.le_refl _ | omega | (simp; omega)))))))).2.1 (HEE.out _ (Fr.drew ((by repeat (first | with_reducible assumption | with_reducible exact Fr.refl _ _ | (with_reducible refine Fr.alloc ?_ _) | (with_reducible refine Fr.drew ?_) | (with_reducible refine Fr.drewN ?_ _) | (with_reducible refine Fr.setNew ?_ _ _ _ (by first | with_reducible exact Nat.le_refl _ | omega | (simp; omega)))))))).2.2).mono ?_; intro e w1 hp1; obtain ⟨x1, A1, n1, c1, B1, m1, d1, v1, rfl, hr1⟩ := id hp1; clear hr1; have hx1 := hp1.fr; have hc1 := Fr.cells hx1; have hf1 := Fr.frozens hx1; have hz1 := Fr.size hx1; simp only [One, Two, not_or, and_imp] at hc1 hf1; try simp [go_sem] at hz1; try (have hzl := Nat.lt_of_succ_le hz1; try (have hzm := Nat.lt_of_succ_lt hzl))) | (go_at_call 307; refine (H5.out _ (by simp) (HEE.out _ (Fr.drew ((by repeat (first | with_reducible assumption | with_reducible exact Fr.refl _ _ | (with_reducible refine Fr.alloc ?_ _) | (with_reducible refine Fr.drew ?_) | (with_reducible refine Fr.drewN ?_ _) | (with_reducible refine Fr.setNew ?_ _ _ _ (by first | with_reducible exact Nat.le_refl _ | omega | (simp; omega)))))))).1 (HEE.out _ (Fr.drew ((by repeat (first | with_reducible assumption | with_reducible exact Fr.refl _ _ | (with_reducible refine Fr.alloc ?_ _) | (with_reducible refine Fr.drew ?_) | (with_reducible refine Fr.drewN ?_ _) | (with_reducible refine Fr.setNew ?_ _ _ _ (by first | with_reducible exact Nat.le_refl _ | omega | (simp; omega)))))))).2.1 (HEE.out _ (Fr.drew ((by repeat (first | with_reducible assumption | with_reducible exact Fr.refl _ _ | (with_reducible refine Fr.alloc ?_ _) | (with_reducible refine Fr.drew ?_) | (with_reducible refine Fr.drewN ?_ _) | (with_reducible refine Fr.setNew ?_ _ _ _ (by first | with_reducible exact Nat.le_refl _ | omega | (simp; omega)))))))).2.2).mono ?_; intro e w1 hp1; obtain ⟨x1, A1, n1, c1, B1, m1, d1, v1, rfl, hr1⟩ := id hp1; clear hr1; have hx1 := hp1.fr; have hc1 := Fr.cells hx1; have hf1 := Fr.frozens hx1; have hz1 := Fr.size hx1; simp only [One, Two, not_or, and_imp] at hc1 hf1; try simp [go_sem] at hz1; try (have hzl := Nat.lt_of_succ_le hz1; try (have hzm := Nat.lt_of_succ_lt hzl))))
    refine bodyPost_ret (v := .agg #[.int .u64 x1, .slice A1 n1 c1, .slice B1 m1 d1]) (by simp only [results, Tryz.results91]; go_simp) rfl ?_
    exact ReadPost.put hp1 (Fr.drew ((by repeat (first | with_reducible assumption | with_reducible exact Fr.refl _ _ | (with_reducible refine Fr.alloc ?_ _) | (with_reducible refine Fr.drew ?_) | (with_reducible refine Fr.drewN ?_ _) | (with_reducible refine Fr.setNew ?_ _ _ _ (by first | with_reducible exact Nat.le_refl _ | omega | (simp; omega))))))) (Nat.le_succ _) (by simp [World.drew]) hgl hrl hokk.out _ _ _
end Go.Proofs.YtalbiepdkaldmaaGreatDoor
