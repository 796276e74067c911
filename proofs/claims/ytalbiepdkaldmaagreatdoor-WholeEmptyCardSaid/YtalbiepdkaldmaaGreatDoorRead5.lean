/- read: lists; forms altogether. -/
import Derived.Test.YtalbiepdkaldmaaGreatDoorProg
import Derived.Test.YtalbiepdkaldmaaGreatDoorRead4
import Derived.Deep.QuietTactic
import Derived.BigQuiet
import Derived.Deep.LoopGhost
set_option linter.unusedVariables false
set_option linter.unusedSimpArgs false
namespace Go.Proofs.YtalbiepdkaldmaaGreatDoor
open Go.RowKit

theorem lenOf_lo {s lo hi st : Nat} {l : Bytes} {p n : Nat} (h : lenOf s lo hi st l p = .ok n) : lo ≤ n := by
  unfold lenOf at h
  split at h
  · simp at h
  · dsimp only at h
    split at h
    · simp at h
    · split at h
      · simp at h
      · injection h with h; omega
mutual
theorem read_least : ∀ (f : Form) (l : Bytes) (p : Nat) (v : Val) (k : Nat), f.read l p = .ok (v, k) → f.least ≤ k
  | .mk kd s lo hi st ps, l, p, v, k, h => by
    match kd, h with
    | 0, h =>
      simp only [Form.read] at h
      split at h
      · simp at h
      · injection h with h; injection h with h1 h2; simp [Form.least]; omega
    | 1, h =>
      simp only [Form.read] at h
      cases hl : lenOf s lo hi st l p with
      | error e => rw [hl] at h; simp at h
      | ok n => rw [hl] at h; simp at h; have := lenOf_lo hl; simp [Form.least]; omega
    | 2, h =>
      simp only [Form.read] at h
      cases hl : lenOf s lo hi st l p with
      | error e => rw [hl] at h; simp at h
      | ok n =>
        rw [hl] at h
        dsimp only at h
        cases hr : readList ps ((l.drop s).take n) (p + s) with
        | error e => rw [hr] at h; simp at h
        | ok vs => rw [hr] at h; simp at h; have := lenOf_lo hl; simp [Form.least]; omega
    | 3, h =>
      simp only [Form.read] at h
      cases hr : readRow ps l p with
      | error e => rw [hr] at h; simp at h
      | ok vk =>
        obtain ⟨vs, k'⟩ := vk
        rw [hr] at h
        simp at h
        have := readRow_least ps l p vs k' hr
        simp [Form.least]
        omega
    | 4, h =>
      simp only [Form.read] at h
      split at h
      · simp at h
      · split at h
        · simp at h
        · simp at h; simp [Form.least]; omega
    | 5, h =>
      simp only [Form.read] at h
      split at h
      · simp at h
      · injection h with h; injection h with h1 h2; simp [Form.least]; omega
    | kd + 6, h => simp [Form.read] at h
theorem readRow_least : ∀ (ps : List Form) (l : Bytes) (p : Nat) (vs : List Val) (k : Nat), readRow ps l p = .ok (vs, k) → Form.leasts ps ≤ k
  | [], _, _, _, _, _ => by simp [Form.leasts]
  | f :: ps, l, p, vs, k, h => by
    simp only [readRow] at h
    cases hr : f.read l p with
    | error e => rw [hr] at h; simp at h
    | ok vk =>
      obtain ⟨v, k1⟩ := vk
      rw [hr] at h
      dsimp only at h
      cases hs : readRow ps (l.drop k1) (p + k1) with
      | error e => rw [hs] at h; simp at h
      | ok vk2 =>
        obtain ⟨vs2, k2⟩ := vk2
        rw [hs] at h
        simp at h
        have h1 := read_least f l p v k1 hr
        have h2 := readRow_least ps _ _ _ _ hs
        simp only [Form.leasts]
        omega
end

def preL (vs : List Val) (R : Except RdErr (List Val)) : Except RdErr (List Val) := match R with
  | .error e => .error e
  | .ok vs' => .ok (vs ++ vs')
theorem preL_nil (R : Except RdErr (List Val)) : preL [] R = R := by rcases R with e | a <;> simp [preL]
theorem many_end (rd : Bytes → Nat → Except RdErr (Val × Nat)) (m : Nat) (p : Nat) : many rd m [] p = .ok [] := by cases m <;> simp [many]
theorem many_err {rd : Bytes → Nat → Except RdErr (Val × Nat)} {m : Nat} {l : Bytes} {p : Nat} {e : RdErr} (hl : l ≠ []) (h : rd l p = .error e) (vs : List Val) : preL vs (many rd (m + 1) l p) = .error e := by
  have : l.isEmpty = false := by simpa using hl
  simp [many, this, h, preL]
theorem many_ok {rd : Bytes → Nat → Except RdErr (Val × Nat)} {m : Nat} {l : Bytes} {p : Nat} {v : Val} {k : Nat} (hl : l ≠ []) (h : rd l p = .ok (v, k)) (vs : List Val) : preL vs (many rd (m + 1) l p) = preL (vs ++ [v]) (many rd m (l.drop k) (p + k)) := by
  have : l.isEmpty = false := by simpa using hl
  simp only [many, this, h]
  rcases many rd m (l.drop k) (p + k) with e | a <;> simp [preL]

/-- Where a list stands: q is the cursor of its bytes. -/
def ListRel (ok okf : Nat → Prop) (q r T base : Nat) (l : Bytes) (p : Nat) (R : Except RdErr (List Val)) (fi : Form) (W4 : World) (m : Nat) (wr : World) : Prop :=
  ∃ (vs : List Val) (v : Value) (j : Nat), wr.heap[T]? = some (.cells (valCells v) 28 (0, 0)) ∧ OwnR Rd.val 28 wr base (Ro base wr.heap.size v) v j vs ∧ base ≤ wr.heap.size ∧ j ≤ l.length + 1 ∧
    ((∃ k, m = l.length + 1 - k ∧ j ≤ k ∧ k ≤ l.length ∧ R = preL vs (many (fun l p => fi.read l p) (l.length - j) (l.drop k) (p + k)) ∧ RdEnv ok okf q r (l.drop k) (p + k) wr ∧ Fr (Two q T) W4 wr)
    ∨ (m = 0 ∧ ∃ a c, R = .error (a, c) ∧ 0 < c ∧ IsRd wr r a c ∧ Fr (Three q r T) W4 wr))

set_option maxHeartbeats 4000000 in
set_option maxRecDepth 4000 in
theorem read_list (d : Nat) (hform : FormSpec d) (A : Option Addr) (n c : Nat) (f : Form) (g r : Nat) (l : Bytes) (p : Nat) (ok okf : Nat → Prop) (w : World) (hk : f.kind = 2) (hd : f.depth ≤ d + 1) (hw : f.wf = true) (he : RdEnv ok okf g r l p w) (h : SlC Rd.form w okf A n c f.parts) :
    Calls Tryz.prog 128 #[.pointer (some ⟨r, 0, none⟩), .pointer (some ⟨g, 0, none⟩), formV A n c f] w (ReadPost ok g r l p (f.read l p) w) := by
  have HFm := Lib.hid hform
  have HE := Lib.hid he
  have HW := Lib.hid hw
  have HS := Lib.hid h
  have hgl := he.gl
  have hrl := he.rl
  have hgG := he.gG
  have hrG := he.rG
  have hgr := he.ne
  have hlen := h.len
  have hn1 : n = 1 := by rw [← hlen]; exact Form.wf_one hw hk
  obtain ⟨fi, hfi⟩ : ∃ x, f.parts[0]? = some x := ⟨_, List.getElem?_eq_getElem (by omega)⟩
  have him := List.mem_of_getElem? hfi
  have hid : fi.depth ≤ d := by have h1 := depth_mem him; have h2 := depth_parts f; omega
  have hiw : fi.wf = true := Form.wf_parts hw him
  have hil := (Form.wf_item hw hk him).2.1
  obtain ⟨b, o, A2, n2, c2, hA, hbk, hs2, d0, d1, d2, d3, d4, d5⟩ := form_at h hfi
  have hbb := he.hokf b hbk
  have hb1 : b < w.heap.size := hbb.1
  have hb2 : ¬ b = g := hbb.2.1
  have hb3 : ¬ b = r := hbb.2.2
  subst hA
  have HS2 := Lib.hid hs2
  have HSub := Lib.hid (fun w hc hr hok => read_sub (some ⟨b, o, none⟩) n c f g r l p ok w (.inr hk) hw hc hr hok hgr)
  have HRd : Hid (f.read l p = match lenOf f.size f.lo f.hi f.step l p with | .error e => .error e | .ok N => match many (fun l p => fi.read l p) ((l.drop f.size).take N).length ((l.drop f.size).take N) (p + f.size) with | .error e => .error e | .ok vs => .ok (.mk 0 [] vs, f.size + N)) := Lib.hid (by
    obtain ⟨k, s, lo, hi, st, ps⟩ := f
    simp only [Form.kind, Form.parts] at hk hfi
    subst hk
    have hp : ps = fi :: ps.drop 1 := by cases ps with | nil => simp at hfi | cons a l => simp at hfi; subst hfi; rfl
    rw [hp]
    simp only [Form.read, readList, Form.size, Form.lo, Form.hi, Form.step]
    rcases lenOf s lo hi st l p with e | N
    · rfl
    · dsimp only
      rcases many (fun l p => fi.read l p) ((l.drop s).take N).length ((l.drop s).take N) (p + s) with e | a <;> rfl)
  have HN := Lib.hid hlen
  simp only [Nat.zero_mul, Nat.add_zero] at d0 d1 d2 d3 d4 d5
  clear hform he hw h hd hk hfi him hbk hbb hs2 hlen
  generalize hR : lenOf f.size f.lo f.hi f.step l p = R at HRd HSub
  clear hR
  subst hn1
  simp only [formV]
  rcases R with ⟨a, c0⟩ | N
  · go_enter Tryz.func128, Tryz.ntmps128
    go_wp2_with (first | ((go_at_call 157; refine (HSub.out _ (HE.out.cur.ext ((by repeat (first | with_reducible assumption | with_reducible exact Fr.refl _ _ | (with_reducible refine Fr.alloc ?_ _) | (with_reducible refine Fr.drew ?_) | (with_reducible refine Fr.drewN ?_ _) | (with_reducible refine Fr.setNew ?_ _ _ _ (by first | with_reducible exact Nat.le_refl _ | omega | (simp; omega))))))) (HE.out.rd.ext ((by repeat (first | with_reducible assumption | with_reducible exact Fr.refl _ _ | (with_reducible refine Fr.alloc ?_ _) | (with_reducible refine Fr.drew ?_) | (with_reducible refine Fr.drewN ?_ _) | (with_reducible refine Fr.setNew ?_ _ _ _ (by first | with_reducible exact Nat.le_refl _ | omega | (simp; omega))))))) (fun b hb => by have := HE.out.hok b hb; simp; omega)).mono ?_; rintro e w2 ⟨rfl, hr2, hpos, hx2⟩; have hc2 := Fr.cells hx2; have hf2 := Fr.frozens hx2; have hz2 := Fr.size hx2; simp only [One, Two, not_or, and_imp] at hc2 hf2; try simp [go_sem] at hz2; try (have hzl := Nat.lt_of_succ_le hz2; try (have hzm := Nat.lt_of_succ_lt hzl)))))
    obtain ⟨q0, q1, q2, q3, q4⟩ := hr2.cells
    have ec : ((c0 : Int) == 0) = false := by simp; omega
    have hz8 : w.heap.size < w2.heap.size := by omega
    have hz9 : w.heap.size + 1 < w2.heap.size := by omega
    have hz10 : w.heap.size + 2 < w2.heap.size := by omega
    have hrn1 : ¬ w.heap.size + 1 = r := by omega
    have hgn1 : ¬ w.heap.size + 1 = g := by omega
    have hrn2 : ¬ w.heap.size + 2 = r := by omega
    have hgn2 : ¬ w.heap.size + 2 = g := by omega
    go_loopg [] 0 (fun m wr => wr = w2)
    case atStart => rfl
    case round =>
      subst hrel
      go_wp2
      refine bodyPost_ret (v := .agg #[.int .u64 0, .slice none 0 0, .slice none 0 0]) (by simp only [results, Tryz.results128]; go_simp) rfl ?_
      rw [HRd.out]
      have hx9 : Fr (Two g r) w wr := Fr.trans' (Fr.alloc (Fr.alloc (Fr.alloc (Fr.refl _ _) _) _) _) hx2 (fun i _ h => h)
      exact ⟨0, none, 0, 0, none, 0, 0, .mk 0 [] [], rfl, SlC.nil _ _ _ _ _ (Nat.zero_le _) (fun _ => rfl), SlC.nil _ _ _ _ _ (Nat.zero_le _) (fun _ => rfl), ⟨rfl, by decide⟩, hr2.fr (F := One (w.heap.size + 1)) ((by repeat (first | with_reducible exact Fr.refl _ _ | (with_reducible refine Fr.set ?_ _ _ _ (One.self _)) | (with_reducible refine Fr.alloc ?_ _) | (with_reducible refine Fr.drew ?_)))) (fun h => hrn1 h.symm), hpos, (by repeat (first | with_reducible assumption | with_reducible exact Fr.refl _ _ | (with_reducible refine Fr.alloc ?_ _) | (with_reducible refine Fr.drew ?_) | (with_reducible refine Fr.drewN ?_ _) | (with_reducible refine Fr.setNew ?_ _ _ _ (by first | with_reducible exact Nat.le_refl _ | omega | (simp; omega)))))⟩
  · have hg0 : g ≠ w.heap.size + 2 := by omega
    go_enter Tryz.func128, Tryz.ntmps128
    go_wp2_with (first | ((go_at_call 157; refine (HSub.out _ (HE.out.cur.ext ((by repeat (first | with_reducible assumption | with_reducible exact Fr.refl _ _ | (with_reducible refine Fr.alloc ?_ _) | (with_reducible refine Fr.drew ?_) | (with_reducible refine Fr.drewN ?_ _) | (with_reducible refine Fr.setNew ?_ _ _ _ (by first | with_reducible exact Nat.le_refl _ | omega | (simp; omega))))))) (HE.out.rd.ext ((by repeat (first | with_reducible assumption | with_reducible exact Fr.refl _ _ | (with_reducible refine Fr.alloc ?_ _) | (with_reducible refine Fr.drew ?_) | (with_reducible refine Fr.drewN ?_ _) | (with_reducible refine Fr.setNew ?_ _ _ _ (by first | with_reducible exact Nat.le_refl _ | omega | (simp; omega))))))) (fun b hb => by have := HE.out.hok b hb; simp; omega)).mono ?_; rintro e w2 ⟨q, rfl, hg2, hl2, hs2, hr2, hx2⟩; have hc2 := Fr.cells hx2; have hf2 := Fr.frozens hx2; have hz2 := Fr.size hx2; simp only [One, Two, not_or, and_imp] at hc2 hf2; try simp [go_sem] at hz2; try (have hzl := Nat.lt_of_succ_le hz2; try (have hzm := Nat.lt_of_succ_lt hzl)))))
    simp [go_sem] at hg2
    have hqr : q ≠ r := by omega
    have hlm : ((l.drop f.size).take N).length ≤ 1099511627776 := by rw [List.length_take, List.length_drop]; have := HE.out.len; omega
    have hev0 : RdEnv ok okf q r ((l.drop f.size).take N) (p + f.size) w2 := ⟨hs2, (HE.out.rd.ext (w' := ((w.alloc (Obj.cells #[Value.int IntKind.i64 ↑f.kind, Value.int IntKind.i64 ↑f.size, Value.int IntKind.i64 ↑f.lo, Value.int IntKind.i64 ↑f.hi, Value.int IntKind.i64 ↑f.step, Value.slice (some ⟨b, o, none⟩) 1 c] 70)).alloc (Obj.cells #[Value.int IntKind.u64 0, Value.slice none 0 0, Value.slice none 0 0] 28)).alloc (Obj.cells #[Value.int IntKind.u64 0, Value.slice none 0 0, Value.slice none 0 0] 28)) ((by repeat (first | with_reducible assumption | with_reducible exact Fr.refl _ _ | (with_reducible refine Fr.alloc ?_ _) | (with_reducible refine Fr.drew ?_) | (with_reducible refine Fr.drewN ?_ _) | (with_reducible refine Fr.setNew ?_ _ _ _ (by first | with_reducible exact Nat.le_refl _ | omega | (simp; omega))))))).fr hx2 (fun e => by have e : r = g := e; omega),
      (HE.out.laid.ext (w' := ((w.alloc (Obj.cells #[Value.int IntKind.i64 ↑f.kind, Value.int IntKind.i64 ↑f.size, Value.int IntKind.i64 ↑f.lo, Value.int IntKind.i64 ↑f.hi, Value.int IntKind.i64 ↑f.step, Value.slice (some ⟨b, o, none⟩) 1 c] 70)).alloc (Obj.cells #[Value.int IntKind.u64 0, Value.slice none 0 0, Value.slice none 0 0] 28)).alloc (Obj.cells #[Value.int IntKind.u64 0, Value.slice none 0 0, Value.slice none 0 0] 28)) ((by repeat (first | with_reducible assumption | with_reducible exact Fr.refl _ _ | (with_reducible refine Fr.alloc ?_ _) | (with_reducible refine Fr.drew ?_) | (with_reducible refine Fr.drewN ?_ _) | (with_reducible refine Fr.setNew ?_ _ _ _ (by first | with_reducible exact Nat.le_refl _ | omega | (simp; omega))))))).fr hx2 (fun b hb e => by have e : b = g := e; omega),
      fun b hb => by have := HE.out.hok b hb; omega, fun b hb => by have := HE.out.hokf b hb; omega, by have := HE.out.laid.size; omega, hrG, hqr, hlm⟩
    generalize hl2e : (l.drop f.size).take N = l2 at hev0 HRd hlm hs2
    have HL2E := Lib.hid hl2e
    clear hl2e
    generalize hR2 : many (fun l p => fi.read l p) l2.length l2 (p + f.size) = R2 at HRd
    have HR2 := Lib.hid hR2
    clear hR2
    have hql : q < w2.heap.size := hs2.lt
    have hT0 : w2.heap[w.heap.size + 2]? = some (.cells (valCells (.slice none 0 0)) 28 (0, 0)) := Fr.blk hx2 ((blk_new' _ _ _ (by simp)).trans rfl) (fun e => by have e : w.heap.size + 2 = g := e; omega)
    -- what stands in the world behind the length
    have hcw := Fr.cells hx2
    have hfw2 := Fr.frozens hx2
    have hX2 := Lib.hid hx2
    have hit : ∀ b' o', b' < w.heap.size → ¬ b' = g → w2.cell? ⟨b', o', none⟩ = w.cell? ⟨b', o', none⟩ := fun b' o' h1 h2 => by
      rw [hcw _ _ (by simp; omega) h2]
      exact Ext.cells (w' := ((w.alloc (Obj.cells #[Value.int IntKind.i64 ↑f.kind, Value.int IntKind.i64 ↑f.size, Value.int IntKind.i64 ↑f.lo, Value.int IntKind.i64 ↑f.hi, Value.int IntKind.i64 ↑f.step, Value.slice (some ⟨b, o, none⟩) 1 c] 70)).alloc (Obj.cells #[Value.int IntKind.u64 0, Value.slice none 0 0, Value.slice none 0 0] 28)).alloc (Obj.cells #[Value.int IntKind.u64 0, Value.slice none 0 0, Value.slice none 0 0] 28)) ((by repeat (first | with_reducible assumption | with_reducible exact Fr.refl _ _ | (with_reducible refine Fr.alloc ?_ _) | (with_reducible refine Fr.drew ?_) | (with_reducible refine Fr.drewN ?_ _) | (with_reducible refine Fr.setNew ?_ _ _ _ (by first | with_reducible exact Nat.le_refl _ | omega | (simp; omega)))))) _ _ h1
    have k5 : w2.cell? ⟨w.heap.size, 5, none⟩ = some (.slice (some ⟨b, o, none⟩) 1 c) := by
      rw [hcw _ _ (by simp; omega) (show ¬ w.heap.size = g by omega)]; simp [go_sem]
    have k1 : ∀ i, i < 3 → w2.cell? ⟨w.heap.size + 1, i, none⟩ = [Value.int .u64 0, .slice none 0 0, .slice none 0 0][i]? := by
      intro i hi
      rw [hcw _ _ (by simp) (show ¬ w.heap.size + 1 = g by omega)]
      have : i = 0 ∨ i = 1 ∨ i = 2 := by omega
      rcases this with rfl | rfl | rfl <;> simp [go_sem]
    have kf : ∀ i, w2.frozen? ⟨w.heap.size + 1, i, none⟩ = false := by
      intro i
      rw [hfw2 _ _ (by simp) (show ¬ w.heap.size + 1 = g by omega)]
      simp [go_sem]
    rw [← hit b _ hb1 hb2] at d0 d1 d2 d3 d4 d5
    have HS3 : Hid (SlC Rd.form w2 okf A2 n2 c2 fi.parts) := Lib.hid (SlC.fr (HS2.out.ext (w' := ((w.alloc (Obj.cells #[Value.int IntKind.i64 ↑f.kind, Value.int IntKind.i64 ↑f.size, Value.int IntKind.i64 ↑f.lo, Value.int IntKind.i64 ↑f.hi, Value.int IntKind.i64 ↑f.step, Value.slice (some ⟨b, o, none⟩) 1 c] 70)).alloc (Obj.cells #[Value.int IntKind.u64 0, Value.slice none 0 0, Value.slice none 0 0] 28)).alloc (Obj.cells #[Value.int IntKind.u64 0, Value.slice none 0 0, Value.slice none 0 0] 28)) ((by repeat (first | with_reducible assumption | with_reducible exact Fr.refl _ _ | (with_reducible refine Fr.alloc ?_ _) | (with_reducible refine Fr.drew ?_) | (with_reducible refine Fr.drewN ?_ _) | (with_reducible refine Fr.setNew ?_ _ _ _ (by first | with_reducible exact Nat.le_refl _ | omega | (simp; omega))))))) hx2 (fun b' hb' e => by have e : b' = g := e; have := HE.out.hokf b' hb'; omega))
    have HD := Lib.hid (And.intro d0 (And.intro d1 (And.intro d2 (And.intro d3 (And.intro d4 d5)))))
    have HK := Lib.hid (And.intro k5 (And.intro k1 kf))
    have hz2' : w.heap.size + 3 ≤ w2.heap.size := by omega
    clear hcw hfw2 hit k5 k1 kf d0 d1 d2 d3 d4 d5 hc2 hf2 hx2 hs2
    have HR2c := Lib.hid hr2
    clear hr2
    go_loopg [] (l2.length + 1) (fun m wr => ListRel ok okf q r (w.heap.size + 2) w2.heap.size l2 (p + f.size) R2 fi w2 m wr)
    case atStart =>
      refine ⟨[], .slice none 0 0, 0, hT0, OwnR.nil _ _ _ _ _, Nat.le_refl _, by omega, .inl ⟨0, by omega, Nat.le_refl _, Nat.zero_le _, ?_, ?_, Fr.refl _ _⟩⟩
      · rw [preL_nil, List.drop_zero, Nat.sub_zero, Nat.add_zero]; exact HR2.out.symm
      · exact hev0
    case round =>
      obtain ⟨vs, v, j, hT, hown, hbase, hjl, hrel⟩ := hrel
      obtain ⟨Av, cv, rfl, hsv⟩ := hown.sl
      have t0 : wr.cell? ⟨w.heap.size + 2, 0, none⟩ = some (.int .u64 0) := blk_cell hT 0
      have t1 : wr.cell? ⟨w.heap.size + 2, 1, none⟩ = some (.slice none 0 0) := blk_cell hT 1
      have t2 : wr.cell? ⟨w.heap.size + 2, 2, none⟩ = some (.slice Av j cv) := blk_cell hT 2
      have t3 := fun i => blk_unfrozen hT i
      have HT := Lib.hid hT
      have HO := Lib.hid hown
      have HSV := Lib.hid hsv
      clear hT hown hsv hT0 hev0
      have hz2 : w.heap.size + 2 < wr.heap.size := by omega
      have hz1 : w.heap.size + 1 < wr.heap.size := by omega
      have hz0 : w.heap.size < wr.heap.size := by omega
      rcases hrel with ⟨k, hm, hjk, hkl, hRk, hev, hf⟩ | ⟨hm, a, c0, hRe, hc0, hrd, hf⟩
      · have hcf := Fr.cells hf
        have hff := Fr.frozens hf
        obtain ⟨e5, e1, ef⟩ := HK.out
        obtain ⟨d0, d1, d2, d3, d4, d5⟩ := HD.out
        have c5 : wr.cell? ⟨w.heap.size, 5, none⟩ = some (.slice (some ⟨b, o, none⟩) 1 c) := by
          rw [hcf _ _ (by omega) (by rintro (e | e) <;> omega)]; exact e5
        have r10 := (hcf (w.heap.size + 1) 0 (by omega) (by rintro (e | e) <;> omega)).trans (e1 0 (by omega))
        have r11 := (hcf (w.heap.size + 1) 1 (by omega) (by rintro (e | e) <;> omega)).trans (e1 1 (by omega))
        have r12 := (hcf (w.heap.size + 1) 2 (by omega) (by rintro (e | e) <;> omega)).trans (e1 2 (by omega))
        have rf : ∀ i, wr.frozen? ⟨w.heap.size + 1, i, none⟩ = false := fun i => (hff (w.heap.size + 1) i (by omega) (by rintro (e | e) <;> omega)).trans (ef i)
        simp only [List.getElem?_cons_zero, List.getElem?_cons_succ] at r10 r11 r12
        rw [← hcf b _ (by omega) (by rintro (e | e) <;> omega)] at d0 d1 d2 d3 d4 d5
        have HS4 : Hid (SlC Rd.form wr okf A2 n2 c2 fi.parts) := Lib.hid (HS3.out.fr hf (fun b' hb' e => by have := HE.out.hokf b' hb'; rcases e with e | e <;> omega))
        obtain ⟨q0, q1, q2, q3, q4⟩ := hev.rd.cells
        have HEV := Lib.hid hev
        have HRk := Lib.hid hRk
        have HF := Lib.hid hf
        have HLf := Lib.hid (cursor_Left q (l2.drop k) _ ok wr hev.cur)
        clear hev hRk hf hcf hff e5 e1 ef
        by_cases hlt : k < l2.length
        · go_wp2_with (first | ((go_at_call 29; refine (HLf.out).mono ?_; rintro e w9 ⟨rfl, rfl⟩)))
          refine wp_region_mix _ 8 10 (by kernel_rfl) (by kernel_rfl) (fun w'' => w''.cell? ⟨w.heap.size + 2, 2, none⟩ = some (.slice Av j cv) ∧ w''.cell? ⟨w.heap.size, 5, none⟩ = some (.slice (some ⟨b, o, none⟩) 1 c) ∧ w''.cell? ⟨b, o, none⟩ = some (.int .i64 fi.kind) ∧ w''.cell? ⟨b, o + 1, none⟩ = some (.int .i64 fi.size) ∧ w''.cell? ⟨b, o + 2, none⟩ = some (.int .i64 fi.lo) ∧ w''.cell? ⟨b, o + 3, none⟩ = some (.int .i64 fi.hi) ∧ w''.cell? ⟨b, o + 4, none⟩ = some (.int .i64 fi.step) ∧ w''.cell? ⟨b, o + 5, none⟩ = some (.slice A2 n2 c2)) ?_ ?_
          · exact ⟨t2, c5, d0, d1, d2, d3, d4, d5⟩
          simp only [List.take_succ_cons, List.take_zero]
          (repeat (first | (apply wpStl_op; (focus (first | rfl | (go_simp; done))); (focus (intro w' hw'; skip; go_simp; first | done | rfl | exact ⟨rfl, rfl⟩)); (intro K hK; go_simp; refine hK _ ?_; clear hK K)) | (refine wpStl_no ?_ (fun K hK => ?_); (focus (first | rfl | (go_simp; done))); go_simp; refine hK _ ?_; clear hK K)))
          (show wpMid _ _ _ _ _ _ _; simp only [List.drop_succ_cons, List.drop_zero, List.take_succ_cons, List.take_zero, Nat.reduceSub])
          (refine wpMid_op ?_ (fun K hK => ?_); (focus (first | rfl | (go_simp; done))); go_simp)
          refine (HFm.out A2 n2 c2 fi q r (l2.drop k) (p + f.size + k) ok okf wr.drew hid hiw (HEV.out.ext (Fr.refl _ _).drew) (HS4.out.ext (Fr.refl _ _).drew)).mono ?_
          intro e w1 hp1
          obtain ⟨x1, A1, n1, c1, B1, m1, e1, v1, rfl, hr1⟩ := id hp1
          clear hr1
          have hk1 : ∀ b' o', b' < wr.heap.size → b' ≠ q → b' ≠ r → w1.cell? ⟨b', o', none⟩ = wr.cell? ⟨b', o', none⟩ := fun b' o' h1 h2 h3 => Fr.cells hp1.fr b' o' h1 (by rintro (e | e); exact h2 e; exact h3 e)
          have hz : wr.heap.size ≤ w1.heap.size := hp1.fr.size
          have hC1 : w1.cell? ⟨w.heap.size + 2, 2, none⟩ = some (.slice Av j cv) ∧ w1.cell? ⟨w.heap.size, 5, none⟩ = some (.slice (some ⟨b, o, none⟩) 1 c) ∧ w1.cell? ⟨b, o, none⟩ = some (.int .i64 fi.kind) ∧ w1.cell? ⟨b, o + 1, none⟩ = some (.int .i64 fi.size) ∧ w1.cell? ⟨b, o + 2, none⟩ = some (.int .i64 fi.lo) ∧ w1.cell? ⟨b, o + 3, none⟩ = some (.int .i64 fi.hi) ∧ w1.cell? ⟨b, o + 4, none⟩ = some (.int .i64 fi.step) ∧ w1.cell? ⟨b, o + 5, none⟩ = some (.slice A2 n2 c2) := by
            rw [hk1 _ _ hz2 (by omega) (by omega), hk1 _ _ hz0 (by omega) (by omega), hk1 b _ (by omega) (by omega) hb3, hk1 b _ (by omega) (by omega) hb3, hk1 b _ (by omega) (by omega) hb3, hk1 b _ (by omega) (by omega) hb3, hk1 b _ (by omega) (by omega) hb3, hk1 b _ (by omega) (by omega) hb3]
            exact ⟨t2, c5, d0, d1, d2, d3, d4, d5⟩
          refine hK _ _ hC1 ?_
          clear hK K
          have HC1 := Lib.hid hC1
          clear hC1 t2 c5 d0 d1 d2 d3 d4 d5
          (refine wpMid_op ?_ (fun K hK => ?_); (focus (first | rfl | (go_simp; done))); go_simp)
          have hxa : ∀ o', Ext w1 (w1.alloc o') := fun o' => (Fr.refl _ _).alloc _
          refine hK _ _ ?_ ?_
          · have h1 := HC1.out
            have hcx := Ext.cells (hxa (Obj.cells #[Value.int IntKind.u64 x1, Value.slice A1 n1 c1, Value.slice B1 m1 e1] 28))
            rw [hcx _ _ (by omega), hcx _ _ (by omega), hcx b _ (by omega), hcx b _ (by omega), hcx b _ (by omega), hcx b _ (by omega), hcx b _ (by omega), hcx b _ (by omega)]
            exact h1
          clear hK K
          (show wpList _ _ _ _ _ _; try simp only [List.drop_succ_cons, List.drop_zero])
          have hgT : ∀ k', (Value.slice Av j cv).ownBlock = some k' → w2.heap.size ≤ k' ∧ k' < wr.heap.size := HO.out.block
          obtain ⟨v2, hK1, hout⟩ := readPost_K hp1
          have hw2 : (w1.alloc (Obj.cells #[Value.int IntKind.u64 x1, Value.slice A1 n1 c1, Value.slice B1 m1 e1] 28)).heap.size = w1.heap.size + 1 := by simp
          have hown2 := (((HO.out.ext (Fr.refl _ _).drew).fr hp1.fr (fun k' hk' e => by have := hgT k' hk'; rcases e with e | e <;> omega) (fun b' hb' e => by have := hb'.1; rcases e with e | e <;> omega)).ext (hxa (Obj.cells #[Value.int IntKind.u64 x1, Value.slice A1 n1 c1, Value.slice B1 m1 e1] 28))).okmono (ok' := fun b' => w2.heap.size ≤ b' ∧ b' < w1.heap.size + 1 ∧ (Value.slice Av j cv).ownBlock ≠ some b') (fun b' _ hb' => ⟨hb'.1, by have := hb'.2.1; omega, hb'.2.2⟩)
          have hel0 := OwnR.lit (e := 28) (base := w1.heap.size) (n := 1) (Elems.one hK1) (Nat.le_refl _) rfl (by decide)
          obtain ⟨A9, c9, he9, hel1⟩ := hel0.sl
          injection he9 with he9 _ hc9
          subst he9
          subst hc9
          have hel := hel1.mono (ok' := fun b' => w2.heap.size ≤ b' ∧ b' < w1.heap.size + 1 ∧ (Value.slice Av j cv).ownBlock ≠ some b') (fun b' hlt hb' => by
            have hlt' : b' < w1.heap.size + 1 := by simpa using hlt
            have hge : wr.heap.size ≤ b' := by
              rcases hb' with hb' | hb'
              · omega
              · exact hb'
            exact ⟨by omega, hlt', fun e => by have := hgT b' e; omega⟩)
          have HO2 := Lib.hid hown2
          have HEL := Lib.hid hel
          have HGT := Lib.hid hgT
          have HT1 : Hid ((w1.alloc (Obj.cells #[Value.int IntKind.u64 x1, Value.slice A1 n1 c1, Value.slice B1 m1 e1] 28)).heap[w.heap.size + 2]? = some (.cells (valCells (.slice Av j cv)) 28 (0, 0))) := Lib.hid (Ext.blk (hxa _) (Fr.blk hp1.fr (show wr.drew.heap[w.heap.size + 2]? = _ from HT.out) (by rintro (e | e) <;> omega)))
          clear hown2 hel hel0 hel1 hgT
          go_wp2_with (at_builtin; refine wpList_append_rows (v := .slice Av j cv) rfl rfl app_val rfl HO2.out (fun k' hk' hh => hh.2.2 hk') HEL.out rfl (by omega) (by rw [hw2]; omega) ?_; intro v' w3 hown3 hgr3 hblk; obtain ⟨Av', cv', rfl, hsv3⟩ := hown3.sl; have HX3 := Lib.hid (Fr.grown (Fr.refl (fun k => (Value.slice Av j cv).ownBlock = some k) _) hgr3 (fun k e => .inr e)); have HT3 := Lib.hid (Fr.blk HX3.out HT1.out (fun e => by have := HGT.out _ e; omega)); have i0 := blk_cell HT3.out 0; have i1 := blk_cell HT3.out 1; have i2 := blk_cell HT3.out 2; have i3 := fun i => blk_unfrozen HT3.out i; simp only [valCells, List.getElem?_toArray, List.getElem?_cons_zero, List.getElem?_cons_succ] at i0 i1 i2; have HO3 := Lib.hid hown3; have HB3 := Lib.hid hblk; clear hown3 hgr3 hblk hsv3)
          have hx3 := HX3.out
          have hz3 : w1.heap.size + 1 ≤ w3.heap.size := by have := hx3.size; rw [hw2] at this; exact this
          have hT4 : (w3.setCell ⟨w.heap.size + 2, 2, none⟩ (.slice Av' (j + 1) cv')).heap[w.heap.size + 2]? = some (.cells (valCells (.slice Av' (j + 1) cv')) 28 (0, 0)) := (blk_set HT3.out 2 _).trans rfl
          have hfs : Fr (One (w.heap.size + 2)) w3 (w3.setCell ⟨w.heap.size + 2, 2, none⟩ (.slice Av' (j + 1) cv')) := (by repeat (first | with_reducible exact Fr.refl _ _ | (with_reducible refine Fr.set ?_ _ _ _ (One.self _)) | (with_reducible refine Fr.alloc ?_ _) | (with_reducible refine Fr.drew ?_)))
          have hgT := HGT.out
          have hB3 := HB3.out
          have hz4 : w3.heap.size ≤ (w3.setCell ⟨w.heap.size + 2, 2, none⟩ (.slice Av' (j + 1) cv')).heap.size := hfs.size
          have hown4 := (HO3.out.fr hfs (fun k' hk' e => by have e : k' = w.heap.size + 2 := e; rcases hB3 k' hk' with h | h; (have := hgT k' h; omega); (rw [hw2] at h; omega)) (fun b' hb' e => by have e : b' = w.heap.size + 2 := e; have := hb'.1; omega)).okmono (ok' := Ro w2.heap.size (w3.setCell ⟨w.heap.size + 2, 2, none⟩ (.slice Av' (j + 1) cv')).heap.size (.slice Av' (j + 1) cv')) (fun b' _ hb' => ⟨hb'.1, by have := hb'.2.1; omega, fun e => by
            rcases hB3 b' e with h | h
            · exact hb'.2.2 h
            · rw [hw2] at h; have := hb'.2.1; omega⟩)
          have hf14 : Fr (fun b' => (Value.slice Av j cv).ownBlock = some b' ∨ b' = w.heap.size + 2) w1 (w3.setCell ⟨w.heap.size + 2, 2, none⟩ (.slice Av' (j + 1) cv')) :=
            (((hxa (Obj.cells #[Value.int IntKind.u64 x1, Value.slice A1 n1 c1, Value.slice B1 m1 e1] 28)).any).trans' hx3 (fun i _ h => .inl h)).trans' hfs (fun i _ h => .inr h)
          have hTT : w.heap.size + 1 + 1 = w.heap.size + 2 := rfl
          rw [hTT]
          have hne : l2.drop k ≠ [] := by intro e; have := congrArg List.length e; simp at this; omega
          have hfuel : l2.length - j = (l2.length - (j + 1)) + 1 := by omega
          rcases hR1 : fi.read (l2.drop k) (p + f.size + k) with ⟨a, c0⟩ | ⟨v0, k1⟩
          · rw [hR1] at hout
            obtain ⟨o1, o2, o3⟩ := hout
            go_roundg 0
            case measure => omega
            case rel =>
              refine ⟨vs ++ [v2], _, j + 1, hT4, hown4, by omega, by omega, .inr ⟨rfl, a, c0, ?_, o2, o1.fr hf14 ?_, ?_⟩⟩
              · rw [HRk.out, hfuel]; exact many_err hne hR1 _
              · rintro (e | e)
                · have := hgT r e; omega
                · omega
              · have hfw : Fr (fun b' => b' = q ∨ b' = r ∨ (Value.slice Av j cv).ownBlock = some b' ∨ b' = w.heap.size + 2) wr (w3.setCell ⟨w.heap.size + 2, 2, none⟩ (.slice Av' (j + 1) cv')) :=
                  (((Fr.refl _ wr).drew).trans (hp1.fr.mono (fun i _ h => by rcases h with h | h; exact .inl h; exact .inr (.inl h)))).trans' hf14 (fun i _ h => .inr (.inr h))
                refine (HF.out.mono (fun i _ h => by rcases h with h | h; exact .inl h; exact .inr (.inr h))).trans' hfw (fun i hi h => ?_)
                rcases h with h | h | h | h
                · exact .inl h
                · exact .inr (.inl h)
                · have := hgT i h; omega
                · exact .inr (.inr h)
          · rw [hR1] at hout
            obtain ⟨rfl, o2, o3, o4⟩ := hout
            have hk1 := read_least _ _ _ _ _ hR1
            rw [List.length_drop] at o2
            go_roundg (l2.length + 1 - (k + k1))
            case measure => omega
            case rel =>
              refine ⟨vs ++ [v2], _, j + 1, hT4, hown4, by omega, by omega, .inl ⟨k + k1, rfl, by omega, by omega, ?_, ?_, ?_⟩⟩
              · rw [HRk.out, hfuel, many_ok hne hR1, List.drop_drop, Nat.add_assoc]
              · have hfw : Fr (fun b' => b' = q ∨ (Value.slice Av j cv).ownBlock = some b' ∨ b' = w.heap.size + 2) wr (w3.setCell ⟨w.heap.size + 2, 2, none⟩ (.slice Av' (j + 1) cv')) :=
                  (((Fr.refl _ wr).drew).trans (o4.mono (fun i _ h => .inl h))).trans' hf14 (fun i _ h => .inr h)
                have hcur4 := o3.fr hf14 (fun e => by rcases e with e | e; (have := hgT q e; omega); omega) (fun b' hb' e => by have := HE.out.hok b' hb'; rcases e with e | e; (have := hgT b' e; omega); omega)
                rw [List.drop_drop] at hcur4
                have hG := HE.out.laid.size
                refine HEV.out.step2 hfw (fun e => ?_) (fun b' hb' e => ?_) (by simpa [Int.add_assoc] using hcur4) (by simp only [List.length_drop]; omega)
                · rcases e with e | e | e
                  · omega
                  · have := hgT r e; omega
                  · omega
                · rcases e with e | e | e
                  · omega
                  · have := hgT b' e; omega
                  · omega
              · have hfw : Fr (fun b' => b' = q ∨ (Value.slice Av j cv).ownBlock = some b' ∨ b' = w.heap.size + 2) wr (w3.setCell ⟨w.heap.size + 2, 2, none⟩ (.slice Av' (j + 1) cv')) :=
                  (((Fr.refl _ wr).drew).trans (o4.mono (fun i _ h => .inl h))).trans' hf14 (fun i _ h => .inr h)
                refine HF.out.trans' hfw (fun i hi h => ?_)
                rcases h with h | h | h
                · exact .inl h
                · have := hgT i h; omega
                · exact .inr h
        · go_wp2_with (first | ((go_at_call 29; refine (HLf.out).mono ?_; rintro e w9 ⟨rfl, rfl⟩)))
          refine bodyPost_ret (v := .agg #[.int .u64 0, .slice none 0 0, .slice Av j cv]) (by simp only [results, Tryz.results128]; go_simp) rfl ?_
          have hkk : k = l2.length := by omega
          have hRR : R2 = .ok vs := by
            rw [HRk.out, hkk, List.drop_length, many_end]
            simp [preL]
          rw [HRd.out, hRR]
          have hos : ∀ u v x, Fr (One (w.heap.size + 1)) wr (((wr.setCell ⟨w.heap.size + 1, 0, none⟩ u).setCell ⟨w.heap.size + 1, 1, none⟩ v).setCell ⟨w.heap.size + 1, 2, none⟩ x) := fun u v x => (by repeat (first | with_reducible exact Fr.refl _ _ | (with_reducible refine Fr.set ?_ _ _ _ (One.self _)) | (with_reducible refine Fr.alloc ?_ _) | (with_reducible refine Fr.drew ?_)))
          have hx8 : Fr (One g) w w2 := Fr.trans' (Fr.alloc (Fr.alloc (Fr.alloc (Fr.refl _ _) _) _) _) hX2.out (fun i _ h => h)
          have hx9 : Fr (One g) w wr := hx8.trans' HF.out (fun i hi h => by rcases h with h | h <;> omega)
          have hcu : IsCur wr ok g (l.drop (f.size + N)) ((p : Int) + ((f.size + N : Nat) : Int)) := by
            have := HR2c.out.fr HF.out (fun e => by rcases e with e | e <;> omega) (fun b' hb' e => by have := HE.out.hok b' hb'; rcases e with e | e <;> omega)
            simpa using this
          refine ReadPost.good 0 none 0 0 Av j cv rfl (SlC.nil _ _ _ _ _ (Nat.zero_le _) (fun _ => rfl)) ((HSV.out.fr (hos _ _ _) (fun b h e => ?_)).mono (fun b _ h => ?_)) ⟨rfl, by decide⟩ hl2 (IsCur.fr hcu (hos _ _ _) (fun e => ?_) (fun b h e => ?_)) ((by repeat (first | with_reducible assumption | with_reducible exact Fr.refl _ _ | (with_reducible refine Fr.alloc ?_ _) | (with_reducible refine Fr.drew ?_) | (with_reducible refine Fr.drewN ?_ _) | (with_reducible refine Fr.setNew ?_ _ _ _ (by first | with_reducible exact Nat.le_refl _ | omega | (simp; omega))))))
          · have e : b = w.heap.size + 1 := e
            rcases h with h | h
            · omega
            · have := h.1; omega
          · rcases h with h | h
            · omega
            · have := h.1; omega
          · have e : g = w.heap.size + 1 := e; omega
          · have e : b = w.heap.size + 1 := e; have := HE.out.hok b h; omega
      · obtain ⟨q0, q1, q2, q3, q4⟩ := hrd.cells
        have hcf := Fr.cells hf
        have hff := Fr.frozens hf
        obtain ⟨e5, e1, ef⟩ := HK.out
        have r10 := (hcf (w.heap.size + 1) 0 (by omega) (by rintro (e | e | e) <;> omega)).trans (e1 0 (by omega))
        have r11 := (hcf (w.heap.size + 1) 1 (by omega) (by rintro (e | e | e) <;> omega)).trans (e1 1 (by omega))
        have r12 := (hcf (w.heap.size + 1) 2 (by omega) (by rintro (e | e | e) <;> omega)).trans (e1 2 (by omega))
        have rf : ∀ i, wr.frozen? ⟨w.heap.size + 1, i, none⟩ = false := fun i => (hff (w.heap.size + 1) i (by omega) (by rintro (e | e | e) <;> omega)).trans (ef i)
        simp only [List.getElem?_cons_zero, List.getElem?_cons_succ] at r10 r11 r12
        have HF := Lib.hid hf
        have HRE := Lib.hid hRe
        have ec : ((c0 : Int) == 0) = false := by simp; omega
        have HRD := Lib.hid hrd
        clear hrd hf hcf hff hRe e5 e1 ef
        go_wp2
        refine bodyPost_ret (v := .agg #[.int .u64 0, .slice none 0 0, .slice Av j cv]) (by simp only [results, Tryz.results128]; go_simp) rfl ?_
        rw [HRd.out, HRE.out]
        have hos : ∀ u v x, Fr (One (w.heap.size + 1)) wr (((wr.setCell ⟨w.heap.size + 1, 0, none⟩ u).setCell ⟨w.heap.size + 1, 1, none⟩ v).setCell ⟨w.heap.size + 1, 2, none⟩ x) := fun u v x => (by repeat (first | with_reducible exact Fr.refl _ _ | (with_reducible refine Fr.set ?_ _ _ _ (One.self _)) | (with_reducible refine Fr.alloc ?_ _) | (with_reducible refine Fr.drew ?_)))
        have hx8 : Fr (Two g r) w w2 := Fr.trans' (Fr.alloc (Fr.alloc (Fr.alloc (Fr.refl _ _) _) _) _) hX2.out (fun i _ h => .inl h)
        have hx9 : Fr (Two g r) w wr := hx8.trans' HF.out (fun i hi h => by
          rcases h with h | h | h
          · omega
          · exact .inr h
          · omega)
        refine ⟨0, none, 0, 0, Av, j, cv, .mk 0 [] vs, rfl, SlC.nil _ _ _ _ _ (Nat.zero_le _) (fun _ => rfl), (HSV.out.fr (hos _ _ _) (fun b h e => ?_)).mono (fun b _ h => ?_), ⟨rfl, by decide⟩, HRD.out.fr (hos _ _ _) (fun e => ?_), hc0, (by repeat (first | with_reducible assumption | with_reducible exact Fr.refl _ _ | (with_reducible refine Fr.alloc ?_ _) | (with_reducible refine Fr.drew ?_) | (with_reducible refine Fr.drewN ?_ _) | (with_reducible refine Fr.setNew ?_ _ _ _ (by first | with_reducible exact Nat.le_refl _ | omega | (simp; omega)))))⟩
        · have e : b = w.heap.size + 1 := e
          rcases h with h | h
          · omega
          · have := h.1; omega
        · rcases h with h | h
          · omega
          · have := h.1; omega
        · have e : r = w.heap.size + 1 := e; omega

theorem read_form : ∀ d, FormSpec d
  | 0 => fun A n c f g r l p ok okf w hd => by have := depth_parts f; omega
  | d + 1 => read_form0 (d + 1) (fun A n c f g r l p ok okf w hk hd hw he h => read_row d (read_form d) A n c f g r l p ok okf w hk hd hw he h) (fun A n c f g r l p ok okf w hk hd hw he h => read_list d (read_form d) A n c f g r l p ok okf w hk hd hw he h)
end Go.Proofs.YtalbiepdkaldmaaGreatDoor
