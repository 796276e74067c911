/- read: rows. -/
import Derived.Test.YtalbiepdkaldmaaGreatDoorProg
import Derived.Test.YtalbiepdkaldmaaGreatDoorRead3
import Derived.Deep.QuietTactic
import Derived.BigQuiet
import Derived.Deep.LoopGhost
set_option linter.unusedVariables false
set_option linter.unusedSimpArgs false
namespace Go.Proofs.YtalbiepdkaldmaaGreatDoor
open Go.RowKit

def Three (g r t : Nat) : Nat → Prop := fun b => b = g ∨ b = r ∨ b = t
/-- Blocks of an own row's elements. -/
def Ro (base lim : Nat) (v : Value) : Nat → Prop := fun b => base ≤ b ∧ b < lim ∧ v.ownBlock ≠ some b
def valCells (v : Value) : Array Value := #[.int .u64 0, .slice none 0 0, v]
def RowRel (ok okf : Nat → Prop) (g r T base : Nat) (l : Bytes) (p : Nat) (R : Except RdErr (List Val × Nat)) (ps : List Form) (W3 : World) (m : Nat) (i : Value) (wr : World) : Prop :=
  ∃ (vs : List Val) (v : Value) (j : Nat), i = .int .i64 j ∧ j ≤ ps.length ∧ wr.heap[T]? = some (.cells (valCells v) 28 (0, 0)) ∧ OwnR Rd.val 28 wr base (Ro base wr.heap.size v) v j vs ∧ base ≤ wr.heap.size ∧
    ((m = ps.length + 1 - j ∧ ∃ k, k ≤ l.length ∧ R = pre vs k (readRow (ps.drop j) (l.drop k) (p + k)) ∧ RdEnv ok okf g r (l.drop k) (p + k) wr ∧ Fr (Two g T) W3 wr)
    ∨ (m = 0 ∧ ∃ a c, R = .error (a, c) ∧ 0 < c ∧ IsRd wr r a c ∧ Fr (Three g r T) W3 wr))
def RdOut (ok : Nat → Prop) (g r : Nat) (l : Bytes) (p : Nat) (v : Val) (w w' : World) : Except RdErr (Val × Nat) → Prop
  | .ok (v0, k) => v = v0 ∧ k ≤ l.length ∧ IsCur w' ok g (l.drop k) (p + k) ∧ Fr (One g) w w'
  | .error (a, c) => IsRd w' r a c ∧ 0 < c ∧ Fr (Two g r) w w'
theorem readPost_K {ok : Nat → Prop} {g r : Nat} {l : Bytes} {p : Nat} {R : Except RdErr (Val × Nat)} {w w' : World} {x : Nat} {A : Option Addr} {n c : Nat} {A' : Option Addr} {n' c' : Nat} (h : ReadPost ok g r l p R w (.returned (.agg #[.int .u64 (x : Nat), .slice A n c, .slice A' n' c'])) w') :
    ∃ v, Rd.val.K w' (fun b => w.heap.size ≤ b) v [.int .u64 (x : Nat), .slice A n c, .slice A' n' c'] ∧ RdOut ok g r l p v w w' R := by
  obtain ⟨y, A2, n2, c2, A3, n3, c3, v, he, h1, h2, ⟨h3, h5⟩, h4⟩ := h
  injection he with he
  injection he with he
  simp only [Array.mk.injEq, List.cons.injEq, Value.int.injEq, Value.slice.injEq, true_and, and_true] at he
  obtain ⟨hy, ⟨rfl, rfl, rfl⟩, rfl, rfl, rfl⟩ := he
  have hy : x = y := by exact_mod_cast hy
  subst hy
  exact ⟨v, Rd.val_iff.2 ⟨_, _, _, _, _, _, by rw [h3], by omega, h1, h2⟩, by rcases R with ⟨a, b⟩ | ⟨a, b⟩ <;> exact h4⟩

theorem pre_cons (vs : List Val) (k : Nat) (f : Form) (ps : List Form) (l : Bytes) (p k1 : Nat) (v : Val) (h : f.read (l.drop k) (p + k) = .ok (v, k1)) :
    pre vs k (readRow (f :: ps) (l.drop k) (p + k)) = pre (vs ++ [v]) (k + k1) (readRow ps (l.drop (k + k1)) (p + (k + k1))) := by
  simp only [readRow, h, List.drop_drop, Nat.add_assoc]
  rcases readRow ps (l.drop (k + k1)) (p + (k + k1)) with e | ⟨a, b⟩ <;> simp [pre, Nat.add_assoc]
theorem pre_err (vs : List Val) (k : Nat) (f : Form) (ps : List Form) (l : Bytes) (p : Nat) (e : RdErr) (h : f.read (l.drop k) (p + k) = .error e) : pre vs k (readRow (f :: ps) (l.drop k) (p + k)) = .error e := by
  simp only [readRow, h, pre]

set_option maxHeartbeats 4000000 in
set_option maxRecDepth 4000 in
theorem read_row (d : Nat) (hform : FormSpec d) (A : Option Addr) (n c : Nat) (f : Form) (g r : Nat) (l : Bytes) (p : Nat) (ok okf : Nat → Prop) (w : World) (hk : f.kind = 3) (hd : f.depth ≤ d + 1) (hw : f.wf = true) (he : RdEnv ok okf g r l p w) (h : SlC Rd.form w okf A n c f.parts) :
    Calls Tryz.prog 129 #[.pointer (some ⟨r, 0, none⟩), .pointer (some ⟨g, 0, none⟩), formV A n c f] w (ReadPost ok g r l p (f.read l p) w) := by
  have HFm := Lib.hid hform
  have HE := Lib.hid he
  have HW := Lib.hid hw
  have HS := Lib.hid h
  have hgl := he.gl
  have hrl := he.rl
  have hlen := h.len
  have hsz : n ≤ 9223372036854775807 := Nat.le_trans h.le h.max
  have h32 : n ≤ 32 := by
    have ho := Form.wf_own hw
    obtain ⟨k, s, lo, hi, st, ps⟩ := f
    simp only [Form.kind, Form.parts] at hk hlen
    subst hk
    simp [Form.own] at ho
    omega
  have HDp : Hid (∀ x ∈ f.parts, x.depth ≤ d) := Lib.hid fun x hx => by have h1 := depth_mem hx; have h2 := depth_parts f; omega
  have HRd : Hid (f.read l p = match readRow f.parts l p with | .error e => .error e | .ok (vs, k) => .ok (.mk 0 [] vs, k)) := Lib.hid (by
    obtain ⟨k, s, lo, hi, st, ps⟩ := f
    simp only [Form.kind] at hk
    subst hk
    simp only [Form.read, Form.parts]
    rcases readRow ps l p with e | ⟨a, b⟩ <;> rfl)
  clear hform he hw h hd hk
  generalize hR : readRow f.parts l p = R at HRd
  have HR0 := Lib.hid hR
  clear hR
  have HN := Lib.hid hlen
  clear hlen
  simp only [formV]
  go_enter Tryz.func129, Tryz.ntmps129
  go_wp2
  go_loopg [8] (n + 1) (fun m i wr => RowRel ok okf g r (w.heap.size + 2) (w.heap.size + 3) l p R f.parts (((w.alloc (Obj.cells #[Value.int IntKind.i64 ↑f.kind, Value.int IntKind.i64 ↑f.size, Value.int IntKind.i64 ↑f.lo, Value.int IntKind.i64 ↑f.hi, Value.int IntKind.i64 ↑f.step, Value.slice A n c] 70)).alloc (Obj.cells #[Value.int IntKind.u64 0, Value.slice none 0 0, Value.slice none 0 0] 28)).alloc (Obj.cells #[Value.int IntKind.u64 0, Value.slice none 0 0, Value.slice none 0 0] 28)) m i wr)
  case atStart =>
    refine ⟨[], .slice none 0 0, 0, rfl, Nat.zero_le _, (blk_new' _ _ _ (by simp)).trans rfl, OwnR.nil _ _ _ _ _, by simp, .inl ⟨by rw [HN.out]; rfl, 0, Nat.zero_le _, ?_, ?_, Fr.refl _ _⟩⟩
    · rw [pre_nil, List.drop_zero, List.drop_zero, Nat.add_zero]; exact HR0.out.symm
    · exact HE.out.ext ((by repeat (first | with_reducible assumption | with_reducible exact Fr.refl _ _ | (with_reducible refine Fr.alloc ?_ _) | (with_reducible refine Fr.drew ?_) | (with_reducible refine Fr.drewN ?_ _) | (with_reducible refine Fr.setNew ?_ _ _ _ (by first | with_reducible exact Nat.le_refl _ | omega | (simp; omega))))))
  case round =>
    obtain ⟨vs, v, j, rfl, hjl, hT, hown, hbase, hrel⟩ := hrel
    obtain ⟨Av, cv, rfl, hsv⟩ := hown.sl
    have t0 : wr.cell? ⟨w.heap.size + 2, 0, none⟩ = some (.int .u64 0) := blk_cell hT 0
    have t1 : wr.cell? ⟨w.heap.size + 2, 1, none⟩ = some (.slice none 0 0) := blk_cell hT 1
    have t2 : wr.cell? ⟨w.heap.size + 2, 2, none⟩ = some (.slice Av j cv) := blk_cell hT 2
    have t3 := fun i => blk_unfrozen hT i
    have HT := Lib.hid hT
    have HO := Lib.hid hown
    have HSV := Lib.hid hsv
    clear hT hown hsv
    have hz2 : w.heap.size + 2 < wr.heap.size := by omega
    have hz1 : w.heap.size + 1 < wr.heap.size := by omega
    have hz0 : w.heap.size < wr.heap.size := by omega
    rcases hrel with ⟨hm, k, hkl, hRk, hev, hf⟩ | ⟨hm, a, c0, hRe, hc0, hrd, hf⟩
    · have hcf := Fr.cells hf
      have hff := Fr.frozens hf
      have c5 : wr.cell? ⟨w.heap.size, 5, none⟩ = some (.slice A n c) := by
        rw [hcf _ _ (by simp; omega) (by rintro (e | e) <;> omega)]; simp [go_sem]
      have r1 : ∀ i, i < 3 → wr.cell? ⟨w.heap.size + 1, i, none⟩ = [Value.int .u64 0, .slice none 0 0, .slice none 0 0][i]? := by
        intro i hi
        rw [hcf _ _ (by simp) (by rintro (e | e) <;> omega)]
        have : i = 0 ∨ i = 1 ∨ i = 2 := by omega
        rcases this with rfl | rfl | rfl <;> simp [go_sem]
      have r10 := r1 0 (by omega)
      have r11 := r1 1 (by omega)
      have r12 := r1 2 (by omega)
      have rf : ∀ i, wr.frozen? ⟨w.heap.size + 1, i, none⟩ = false := by
        intro i
        rw [hff _ _ (by simp) (by rintro (e | e) <;> omega)]
        simp [go_sem]
      simp only [List.getElem?_cons_zero, List.getElem?_cons_succ] at r10 r11 r12
      obtain ⟨q0, q1, q2, q3, q4⟩ := hev.rd.cells
      have HEV := Lib.hid hev
      have HRk := Lib.hid hRk
      have HF := Lib.hid hf
      clear hev hRk hf hcf hff r1
      by_cases hlt : j < n
      · obtain ⟨fj, hfj⟩ : ∃ fj, f.parts[j]? = some fj := ⟨_, List.getElem?_eq_getElem (by rw [HN.out]; exact hlt)⟩
        have hsl : SlC Rd.form wr okf A n c f.parts := SlC.fr (HS.out.ext (w' := ((w.alloc (Obj.cells #[Value.int IntKind.i64 ↑f.kind, Value.int IntKind.i64 ↑f.size, Value.int IntKind.i64 ↑f.lo, Value.int IntKind.i64 ↑f.hi, Value.int IntKind.i64 ↑f.step, Value.slice A n c] 70)).alloc (Obj.cells #[Value.int IntKind.u64 0, Value.slice none 0 0, Value.slice none 0 0] 28)).alloc (Obj.cells #[Value.int IntKind.u64 0, Value.slice none 0 0, Value.slice none 0 0] 28)) ((by repeat (first | with_reducible assumption | with_reducible exact Fr.refl _ _ | (with_reducible refine Fr.alloc ?_ _) | (with_reducible refine Fr.drew ?_) | (with_reducible refine Fr.drewN ?_ _) | (with_reducible refine Fr.setNew ?_ _ _ _ (by first | with_reducible exact Nat.le_refl _ | omega | (simp; omega))))))) HF.out (fun b hb e => by
          have h1 := HE.out.hokf b hb
          rcases e with e | e <;> omega)
        obtain ⟨b, o, A2, n2, c2, hA, hbk, hs2, d0, d1, d2, d3, d4, d5⟩ := form_at hsl hfj
        have hbb := HE.out.hokf b hbk
        have hb1 : b < w.heap.size := hbb.1
        have hb2 : ¬ b = g := hbb.2.1
        have hb3 : ¬ b = r := hbb.2.2
        subst hA
        have HJ := Lib.hid hfj
        have HS2 := Lib.hid hs2
        clear hfj hsl hs2 hbb hbk
        go_wp2
        refine wp_region_mix _ 9 11 (by kernel_rfl) (by kernel_rfl) (fun w'' => w''.cell? ⟨w.heap.size + 2, 2, none⟩ = some (.slice Av j cv) ∧ w''.cell? ⟨w.heap.size, 5, none⟩ = some (.slice (some ⟨b, o, none⟩) n c) ∧ w''.cell? ⟨b, o + j * 6, none⟩ = some (.int .i64 fj.kind) ∧ w''.cell? ⟨b, o + j * 6 + 1, none⟩ = some (.int .i64 fj.size) ∧ w''.cell? ⟨b, o + j * 6 + 2, none⟩ = some (.int .i64 fj.lo) ∧ w''.cell? ⟨b, o + j * 6 + 3, none⟩ = some (.int .i64 fj.hi) ∧ w''.cell? ⟨b, o + j * 6 + 4, none⟩ = some (.int .i64 fj.step) ∧ w''.cell? ⟨b, o + j * 6 + 5, none⟩ = some (.slice A2 n2 c2)) ?_ ?_
        · exact ⟨t2, c5, d0, d1, d2, d3, d4, d5⟩
        simp only [List.take_succ_cons, List.take_zero]
        (repeat (first | (apply wpStl_op; (focus (first | rfl | (go_simp; done))); (focus (intro w' hw'; skip; go_simp; first | done | rfl | exact ⟨rfl, rfl⟩)); (intro K hK; go_simp; refine hK _ ?_; clear hK K)) | (refine wpStl_no ?_ (fun K hK => ?_); (focus (first | rfl | (go_simp; done))); go_simp; refine hK _ ?_; clear hK K)))
        (show wpMid _ _ _ _ _ _ _; simp only [List.drop_succ_cons, List.drop_zero, List.take_succ_cons, List.take_zero, Nat.reduceSub])
        have hdj : fj.depth ≤ d := HDp.out fj (List.mem_of_getElem? HJ.out)
        have hwj : fj.wf = true := Form.wf_parts HW.out (List.mem_of_getElem? HJ.out)
        (refine wpMid_op ?_ (fun K hK => ?_); (focus (first | rfl | (go_simp; done))); go_simp)
        refine (HFm.out A2 n2 c2 fj g r (l.drop k) (p + k) ok okf wr.drew hdj hwj (HEV.out.ext (Fr.refl _ _).drew) (HS2.out.ext (Fr.refl _ _).drew)).mono ?_
        intro e w1 hp1
        obtain ⟨x1, A1, n1, c1, B1, m1, e1, v1, rfl, hr1⟩ := id hp1
        clear hr1
        have hk1 : ∀ b' o', b' < wr.heap.size → b' ≠ g → b' ≠ r → w1.cell? ⟨b', o', none⟩ = wr.cell? ⟨b', o', none⟩ := fun b' o' h1 h2 h3 => Fr.cells hp1.fr b' o' h1 (by rintro (e | e); exact h2 e; exact h3 e)
        have hz : wr.heap.size ≤ w1.heap.size := hp1.fr.size
        have hC1 : w1.cell? ⟨w.heap.size + 2, 2, none⟩ = some (.slice Av j cv) ∧ w1.cell? ⟨w.heap.size, 5, none⟩ = some (.slice (some ⟨b, o, none⟩) n c) ∧ w1.cell? ⟨b, o + j * 6, none⟩ = some (.int .i64 fj.kind) ∧ w1.cell? ⟨b, o + j * 6 + 1, none⟩ = some (.int .i64 fj.size) ∧ w1.cell? ⟨b, o + j * 6 + 2, none⟩ = some (.int .i64 fj.lo) ∧ w1.cell? ⟨b, o + j * 6 + 3, none⟩ = some (.int .i64 fj.hi) ∧ w1.cell? ⟨b, o + j * 6 + 4, none⟩ = some (.int .i64 fj.step) ∧ w1.cell? ⟨b, o + j * 6 + 5, none⟩ = some (.slice A2 n2 c2) := by
          rw [hk1 _ _ hz2 (by omega) (by omega), hk1 _ _ hz0 (by omega) (by omega), hk1 b _ (by omega) hb2 hb3, hk1 b _ (by omega) hb2 hb3, hk1 b _ (by omega) hb2 hb3, hk1 b _ (by omega) hb2 hb3, hk1 b _ (by omega) hb2 hb3, hk1 b _ (by omega) hb2 hb3]
          exact ⟨t2, c5, d0, d1, d2, d3, d4, d5⟩
        refine hK _ _ hC1 ?_
        clear hK K
        have HC1 := Lib.hid hC1
        clear hC1 t2 c5 d0 d1 d2 d3 d4 d5
        (refine wpMid_op ?_ (fun K hK => ?_); (focus (first | rfl | (go_simp; done))); go_simp)
        have hxa : ∀ o', Ext w1 (w1.alloc o') := fun o' => (Fr.refl _ _).alloc _
        refine hK _ _ ?_ ?_
        · have h1 := HC1.out
          have hcx := Ext.cells (hxa (Obj.cells #[Value.int IntKind.u64 x1, Value.slice A1 n1 c1, Value.slice B1 m1 e1] 28))
          rw [hcx _ _ (by omega), hcx _ _ (by omega), hcx b _ (by omega), hcx b _ (by omega), hcx b _ (by omega), hcx b _ (by omega), hcx b _ (by omega), hcx b _ (by omega)]
          exact h1
        clear hK K
        (show wpList _ _ _ _ _ _; try simp only [List.drop_succ_cons, List.drop_zero])
        have hgT : ∀ k', (Value.slice Av j cv).ownBlock = some k' → w.heap.size + 3 ≤ k' ∧ k' < wr.heap.size := HO.out.block
        obtain ⟨v2, hK1, hout⟩ := readPost_K hp1
        have hw2 : (w1.alloc (Obj.cells #[Value.int IntKind.u64 x1, Value.slice A1 n1 c1, Value.slice B1 m1 e1] 28)).heap.size = w1.heap.size + 1 := by simp
        have hown2 := (((HO.out.ext (Fr.refl _ _).drew).fr hp1.fr (fun k' hk' e => by have := hgT k' hk'; rcases e with e | e <;> omega) (fun b' hb' e => by have := hb'.1; rcases e with e | e <;> omega)).ext (hxa (Obj.cells #[Value.int IntKind.u64 x1, Value.slice A1 n1 c1, Value.slice B1 m1 e1] 28))).okmono (ok' := fun b' => w.heap.size + 3 ≤ b' ∧ b' < w1.heap.size + 1 ∧ (Value.slice Av j cv).ownBlock ≠ some b') (fun b' _ hb' => ⟨hb'.1, by have := hb'.2.1; omega, hb'.2.2⟩)
        have hel0 := OwnR.lit (e := 28) (base := w1.heap.size) (n := 1) (Elems.one hK1) (Nat.le_refl _) rfl (by decide)
        obtain ⟨A9, c9, he9, hel1⟩ := hel0.sl
        injection he9 with he9 _ hc9
        subst he9
        subst hc9
        have hel := hel1.mono (ok' := fun b' => w.heap.size + 3 ≤ b' ∧ b' < w1.heap.size + 1 ∧ (Value.slice Av j cv).ownBlock ≠ some b') (fun b' hlt hb' => by
          have hlt' : b' < w1.heap.size + 1 := by simpa using hlt
          have hge : wr.heap.size ≤ b' := by
            rcases hb' with hb' | hb'
            · omega
            · exact hb'
          exact ⟨by omega, hlt', fun e => by have := hgT b' e; omega⟩)
        have HO2 := Lib.hid hown2
        have HEL := Lib.hid hel
        have HGT := Lib.hid hgT
        have HT1 : Hid ((w1.alloc (Obj.cells #[Value.int IntKind.u64 x1, Value.slice A1 n1 c1, Value.slice B1 m1 e1] 28)).heap[w.heap.size + 2]? = some (.cells (valCells (.slice Av j cv)) 28 (0, 0))) := Lib.hid (Ext.blk (hxa _) (Fr.blk hp1.fr (show wr.drew.heap[w.heap.size + 2]? = _ from HT.out) (by rintro (e | e) <;> omega)))
        clear hown2 hel hel0 hel1 hgT
        go_wp2_with (at_builtin; refine wpList_append_rows (v := .slice Av j cv) rfl rfl app_val rfl HO2.out (fun k' hk' hh => hh.2.2 hk') HEL.out rfl (by omega) (by rw [hw2]; omega) ?_; intro v' w3 hown3 hgr hblk; obtain ⟨Av', cv', rfl, hsv3⟩ := hown3.sl; have HX3 := Lib.hid (Fr.grown (Fr.refl (fun k => (Value.slice Av j cv).ownBlock = some k) _) hgr (fun k e => .inr e)); have HT3 := Lib.hid (Fr.blk HX3.out HT1.out (fun e => by have := HGT.out _ e; omega)); have i0 := blk_cell HT3.out 0; have i1 := blk_cell HT3.out 1; have i2 := blk_cell HT3.out 2; have i3 := fun i => blk_unfrozen HT3.out i; simp only [valCells, List.getElem?_toArray, List.getElem?_cons_zero, List.getElem?_cons_succ] at i0 i1 i2; have HO3 := Lib.hid hown3; have HB3 := Lib.hid hblk; clear hown3 hgr hblk hsv3)
        have hdrop : f.parts.drop j = fj :: f.parts.drop (j + 1) := by
          rw [List.drop_eq_getElem_cons (by rw [HN.out]; exact hlt)]
          have := HJ.out
          rw [List.getElem?_eq_getElem (by rw [HN.out]; exact hlt)] at this
          injection this with this
          rw [this]
        have HG := HE.out.laid.size
        have hgG := HE.out.gG
        have hrG := HE.out.rG
        have hgr := HE.out.ne
        have hx3 := HX3.out
        have hz3 : w1.heap.size + 1 ≤ w3.heap.size := by have := hx3.size; rw [hw2] at this; exact this
        have hT4 : (w3.setCell ⟨w.heap.size + 2, 2, none⟩ (.slice Av' (j + 1) cv')).heap[w.heap.size + 2]? = some (.cells (valCells (.slice Av' (j + 1) cv')) 28 (0, 0)) := (blk_set HT3.out 2 _).trans rfl
        have hfs : Fr (One (w.heap.size + 2)) w3 (w3.setCell ⟨w.heap.size + 2, 2, none⟩ (.slice Av' (j + 1) cv')) := (by repeat (first | with_reducible exact Fr.refl _ _ | (with_reducible refine Fr.set ?_ _ _ _ (One.self _)) | (with_reducible refine Fr.alloc ?_ _) | (with_reducible refine Fr.drew ?_)))
        have hgT := HGT.out
        have hB3 := HB3.out
        have hz4 : w3.heap.size ≤ (w3.setCell ⟨w.heap.size + 2, 2, none⟩ (.slice Av' (j + 1) cv')).heap.size := hfs.size
        have hown4 := (HO3.out.fr hfs (fun k' hk' e => by have e : k' = w.heap.size + 2 := e; rcases hB3 k' hk' with h | h; (have := hgT k' h; omega); (rw [hw2] at h; omega)) (fun b' hb' e => by have e : b' = w.heap.size + 2 := e; have := hb'.1; omega)).okmono (ok' := Ro (w.heap.size + 3) (w3.setCell ⟨w.heap.size + 2, 2, none⟩ (.slice Av' (j + 1) cv')).heap.size (.slice Av' (j + 1) cv')) (fun b' _ hb' => ⟨hb'.1, by have := hb'.2.1; omega, fun e => by
          rcases hB3 b' e with h | h
          · exact hb'.2.2 h
          · rw [hw2] at h; have := hb'.2.1; omega⟩)
        have hf14 : Fr (fun b' => (Value.slice Av j cv).ownBlock = some b' ∨ b' = w.heap.size + 2) w1 (w3.setCell ⟨w.heap.size + 2, 2, none⟩ (.slice Av' (j + 1) cv')) :=
          (((hxa (Obj.cells #[Value.int IntKind.u64 x1, Value.slice A1 n1 c1, Value.slice B1 m1 e1] 28)).any).trans' hx3 (fun i _ h => .inl h)).trans' hfs (fun i _ h => .inr h)
        have hTT : w.heap.size + 1 + 1 = w.heap.size + 2 := rfl
        rw [hTT]
        rcases hR1 : fj.read (l.drop k) (p + k) with ⟨a, c0⟩ | ⟨v0, k1⟩
        · rw [hR1] at hout
          obtain ⟨o1, o2, o3⟩ := hout
          go_roundg 0
          case measure => omega
          case rel =>
            refine ⟨vs ++ [v2], _, j + 1, by simp, by rw [HN.out]; omega, hT4, hown4, by omega, .inr ⟨rfl, a, c0, ?_, o2, o1.fr hf14 ?_, ?_⟩⟩
            · rw [HRk.out, hdrop]; exact pre_err _ _ _ _ _ _ _ hR1
            · rintro (e | e)
              · have := hgT r e; omega
              · omega
            · have hfw : Fr (fun b' => b' = g ∨ b' = r ∨ (Value.slice Av j cv).ownBlock = some b' ∨ b' = w.heap.size + 2) wr (w3.setCell ⟨w.heap.size + 2, 2, none⟩ (.slice Av' (j + 1) cv')) :=
                (((Fr.refl _ wr).drew).trans (hp1.fr.mono (fun i _ h => by rcases h with h | h; exact .inl h; exact .inr (.inl h)))).trans' hf14 (fun i _ h => .inr (.inr h))
              refine (HF.out.mono (fun i _ h => by rcases h with h | h; exact .inl h; exact .inr (.inr h))).trans' hfw (fun i hi h => ?_)
              have hi : i < w.heap.size + 3 := by simpa using hi
              rcases h with h | h | h | h
              · exact .inl h
              · exact .inr (.inl h)
              · have := hgT i h; omega
              · exact .inr (.inr h)
        · rw [hR1] at hout
          obtain ⟨rfl, o2, o3, o4⟩ := hout
          go_roundg (f.parts.length + 1 - (j + 1))
          case measure => rw [HN.out]; omega
          case rel =>
            refine ⟨vs ++ [v2], _, j + 1, by simp, by rw [HN.out]; omega, hT4, hown4, by omega, .inl ⟨rfl, k + k1, ?_, ?_, ?_, ?_⟩⟩
            · rw [List.length_drop] at o2; omega
            · rw [HRk.out, hdrop]; exact pre_cons _ _ _ _ _ _ _ _ hR1
            · have hfw : Fr (fun b' => b' = g ∨ (Value.slice Av j cv).ownBlock = some b' ∨ b' = w.heap.size + 2) wr (w3.setCell ⟨w.heap.size + 2, 2, none⟩ (.slice Av' (j + 1) cv')) :=
                (((Fr.refl _ wr).drew).trans (o4.mono (fun i _ h => .inl h))).trans' hf14 (fun i _ h => .inr h)
              have hcur4 := o3.fr hf14 (fun e => by rcases e with e | e; (have := hgT g e; omega); omega) (fun b' hb' e => by have := HE.out.hok b' hb'; rcases e with e | e; (have := hgT b' e; omega); omega)
              rw [List.drop_drop] at hcur4
              refine HEV.out.step2 hfw (fun e => ?_) (fun b' hb' e => ?_) (by simpa [Int.add_assoc] using hcur4) (by simp only [List.length_drop]; omega)
              · rcases e with e | e | e
                · omega
                · have := hgT r e; omega
                · omega
              · rcases e with e | e | e
                · omega
                · have := hgT b' e; omega
                · omega
            · have hfw : Fr (fun b' => b' = g ∨ (Value.slice Av j cv).ownBlock = some b' ∨ b' = w.heap.size + 2) wr (w3.setCell ⟨w.heap.size + 2, 2, none⟩ (.slice Av' (j + 1) cv')) :=
                (((Fr.refl _ wr).drew).trans (o4.mono (fun i _ h => .inl h))).trans' hf14 (fun i _ h => .inr h)
              refine HF.out.trans' hfw (fun i hi h => ?_)
              have hi : i < w.heap.size + 3 := by simpa using hi
              rcases h with h | h | h
              · exact .inl h
              · have := hgT i h; omega
              · exact .inr h
      · have hjn : j = n := by rw [HN.out] at hjl; omega
        go_wp2
        refine bodyPost_ret (v := .agg #[.int .u64 0, .slice none 0 0, .slice Av j cv]) (by simp only [results, Tryz.results129]; go_simp) rfl ?_
        have hRR : R = .ok (vs, k) := by
          rw [HRk.out, hjn, ← HN.out, List.drop_length]
          simp [readRow, pre]
        rw [HRd.out, hRR]
        have hos : ∀ u v x, Fr (One (w.heap.size + 1)) wr (((wr.setCell ⟨w.heap.size + 1, 0, none⟩ u).setCell ⟨w.heap.size + 1, 1, none⟩ v).setCell ⟨w.heap.size + 1, 2, none⟩ x) := fun u v x => (by repeat (first | with_reducible exact Fr.refl _ _ | (with_reducible refine Fr.set ?_ _ _ _ (One.self _)) | (with_reducible refine Fr.alloc ?_ _) | (with_reducible refine Fr.drew ?_)))
        have hx9 : Fr (One g) w wr := Fr.trans' (Fr.alloc (Fr.alloc (Fr.alloc (Fr.refl _ _) _) _) _) HF.out (fun i hi h => by
          rcases h with h | h
          · exact h
          · omega)
        refine ReadPost.good 0 none 0 0 Av j cv rfl (SlC.nil _ _ _ _ _ (Nat.zero_le _) (fun _ => rfl)) ((HSV.out.fr (hos _ _ _) (fun b h e => ?_)).mono (fun b _ h => ?_)) ⟨rfl, by decide⟩ hkl (HEV.out.cur.fr (hos _ _ _) (fun e => ?_) (fun b h e => ?_)) ((by repeat (first | with_reducible assumption | with_reducible exact Fr.refl _ _ | (with_reducible refine Fr.alloc ?_ _) | (with_reducible refine Fr.drew ?_) | (with_reducible refine Fr.drewN ?_ _) | (with_reducible refine Fr.setNew ?_ _ _ _ (by first | with_reducible exact Nat.le_refl _ | omega | (simp; omega))))))
        · have e : b = w.heap.size + 1 := e
          rcases h with h | h
          · omega
          · have := h.1; omega
        · rcases h with h | h
          · omega
          · have := h.1; omega
        · have e : g = w.heap.size + 1 := e; omega
        · have e : b = w.heap.size + 1 := e; have := HE.out.hok b h; omega
    · obtain ⟨q0, q1, q2, q3, q4⟩ := hrd.cells
      have hcf := Fr.cells hf
      have hff := Fr.frozens hf
      have c5 : wr.cell? ⟨w.heap.size, 5, none⟩ = some (.slice A n c) := by
        rw [hcf _ _ (by simp; omega) (by rintro (e | e | e) <;> omega)]; simp [go_sem]
      have r1 : ∀ i, i < 3 → wr.cell? ⟨w.heap.size + 1, i, none⟩ = [Value.int .u64 0, .slice none 0 0, .slice none 0 0][i]? := by
        intro i hi
        rw [hcf _ _ (by simp) (by rintro (e | e | e) <;> omega)]
        have : i = 0 ∨ i = 1 ∨ i = 2 := by omega
        rcases this with rfl | rfl | rfl <;> simp [go_sem]
      have r10 := r1 0 (by omega)
      have r11 := r1 1 (by omega)
      have r12 := r1 2 (by omega)
      have rf : ∀ i, wr.frozen? ⟨w.heap.size + 1, i, none⟩ = false := by
        intro i
        rw [hff _ _ (by simp) (by rintro (e | e | e) <;> omega)]
        simp [go_sem]
      simp only [List.getElem?_cons_zero, List.getElem?_cons_succ] at r10 r11 r12
      have HF := Lib.hid hf
      have HRE := Lib.hid hRe
      have ec : ((c0 : Int) == 0) = false := by simp; omega
      have HRD := Lib.hid hrd
      clear hrd hf hcf hff r1 hRe
      have key : ∀ Q' : Prop, Q' → Q' := fun _ h => h
      by_cases hlt : j < n
      all_goals
        go_wp2
        refine bodyPost_ret (v := .agg #[.int .u64 0, .slice none 0 0, .slice Av j cv]) (by simp only [results, Tryz.results129]; go_simp) rfl ?_
        rw [HRd.out, HRE.out]
        have hos : ∀ u v x, Fr (One (w.heap.size + 1)) wr (((wr.setCell ⟨w.heap.size + 1, 0, none⟩ u).setCell ⟨w.heap.size + 1, 1, none⟩ v).setCell ⟨w.heap.size + 1, 2, none⟩ x) := fun u v x => (by repeat (first | with_reducible exact Fr.refl _ _ | (with_reducible refine Fr.set ?_ _ _ _ (One.self _)) | (with_reducible refine Fr.alloc ?_ _) | (with_reducible refine Fr.drew ?_)))
        have hx9 : Fr (Two g r) w wr := Fr.trans' (Fr.alloc (Fr.alloc (Fr.alloc (Fr.refl _ _) _) _) _) HF.out (fun i hi h => by
          rcases h with h | h | h
          · exact .inl h
          · exact .inr h
          · omega)
        refine ⟨0, none, 0, 0, Av, j, cv, .mk 0 [] vs, rfl, SlC.nil _ _ _ _ _ (Nat.zero_le _) (fun _ => rfl), (HSV.out.fr (hos _ _ _) (fun b h e => ?_)).mono (fun b _ h => ?_), ⟨rfl, by decide⟩, HRD.out.fr (hos _ _ _) (fun e => ?_), hc0, (by repeat (first | with_reducible assumption | with_reducible exact Fr.refl _ _ | (with_reducible refine Fr.alloc ?_ _) | (with_reducible refine Fr.drew ?_) | (with_reducible refine Fr.drewN ?_ _) | (with_reducible refine Fr.setNew ?_ _ _ _ (by first | with_reducible exact Nat.le_refl _ | omega | (simp; omega)))))⟩
        · have e : b = w.heap.size + 1 := e
          rcases h with h | h
          · omega
          · have := h.1; omega
        · rcases h with h | h
          · omega
          · have := h.1; omega
        · have e : r = w.heap.size + 1 := e; omega
end Go.Proofs.YtalbiepdkaldmaaGreatDoor
