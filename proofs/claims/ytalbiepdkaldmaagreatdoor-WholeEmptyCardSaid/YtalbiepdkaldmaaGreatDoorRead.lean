/- read: what its functions do. -/
import Derived.Test.YtalbiepdkaldmaaGreatDoorProg
import Derived.Test.YtalbiepdkaldmaaGreatDoorMix
import Derived.Test.YtalbiepdkaldmaaGreatDoorCursor
import Derived.Test.YtalbiepdkaldmaaGreatDoorLayout4
import Derived.Deep.QuietTactic
import Derived.BigQuiet
import Derived.Deep.LoopGhost
set_option linter.unusedVariables false
set_option linter.unusedSimpArgs false
namespace Go.Proofs.YtalbiepdkaldmaaGreatDoor
open Go.RowKit

/-! ### Plain: what reading is -/
abbrev RdErr := Nat × Nat
def many (rd : Bytes → Nat → Except RdErr (Val × Nat)) : Nat → Bytes → Nat → Except RdErr (List Val)
  | 0, _, _ => .ok []
  | m + 1, l, p => if l.isEmpty then .ok [] else match rd l p with
    | .error e => .error e
    | .ok (v, k) => match many rd m (l.drop k) (p + k) with
      | .error e => .error e
      | .ok vs => .ok (v :: vs)
/-- A length, and what is behind it. -/
def lenOf (s lo hi st : Nat) (l : Bytes) (p : Nat) : Except RdErr Nat :=
  if l.length < s then .error (p + l.length, 4) else
  let n := num (l.take s)
  if n < lo ∨ hi < n ∨ n % st ≠ 0 then .error (p, 5) else
  if l.length - s < n then .error (p + l.length, 4) else .ok n
mutual
def Form.read : Form → Bytes → Nat → Except RdErr (Val × Nat)
  | .mk 0 s _ _ _ _, l, p => if l.length < s then .error (p + l.length, 4) else .ok (.mk (num (l.take s)) [] [], s)
  | .mk 1 s lo hi st _, l, p => match lenOf s lo hi st l p with
    | .error e => .error e
    | .ok n => .ok (.mk 0 ((l.drop s).take n) [], s + n)
  | .mk 2 s lo hi st ps, l, p => match lenOf s lo hi st l p with
    | .error e => .error e
    | .ok n => match readList ps ((l.drop s).take n) (p + s) with
      | .error e => .error e
      | .ok vs => .ok (.mk 0 [] vs, s + n)
  | .mk 3 _ _ _ _ ps, l, p => match readRow ps l p with
    | .error e => .error e
    | .ok (vs, k) => .ok (.mk 0 [] vs, k)
  | .mk 4 _ lo hi _ _, l, p => if l.length < lo then .error (p + l.length, 4) else if hi < l.length then .error (p + hi, 6) else .ok (.mk 0 l [], l.length)
  | .mk 5 _ lo _ _ _, l, p => if l.length < lo then .error (p + l.length, 4) else .ok (.mk 0 (l.take lo) [], lo)
  | .mk _ _ _ _ _ _, _, p => .error (p, 1)
def readRow : List Form → Bytes → Nat → Except RdErr (List Val × Nat)
  | [], _, _ => .ok ([], 0)
  | f :: ps, l, p => match Form.read f l p with
    | .error e => .error e
    | .ok (v, k) => match readRow ps (l.drop k) (p + k) with
      | .error e => .error e
      | .ok (vs, k') => .ok (v :: vs, k + k')
def readList : List Form → Bytes → Nat → Except RdErr (List Val)
  | [], _, _ => .ok []
  | f :: _, l, p => many (fun l p => Form.read f l p) l.length l p
end

/-! ### The reader -/
def IsRd (w : World) (r : Nat) (a e : Int) : Prop := w.heap[r]? = some (.cells #[.pointer none, .int .i64 a, .int .i64 e] 170 (0, 0))
theorem IsRd.cells {w : World} {r : Nat} {a e : Int} (h : IsRd w r a e) : w.cell? ⟨r, 0, none⟩ = some (.pointer none) ∧ w.cell? ⟨r, 1, none⟩ = some (.int .i64 a) ∧ w.cell? ⟨r, 2, none⟩ = some (.int .i64 e) ∧ r < w.heap.size ∧ ∀ i, w.frozen? ⟨r, i, none⟩ = false :=
  ⟨blk_cell h 0, blk_cell h 1, blk_cell h 2, blk_lt h, fun i => blk_unfrozen h i⟩
theorem IsRd.fr {F : Nat → Prop} {w w' : World} {r : Nat} {a e : Int} (h : IsRd w r a e) (hf : Fr F w w') (hn : ¬ F r) : IsRd w' r a e := hf.blk h hn
theorem IsRd.ext {w w' : World} {r : Nat} {a e : Int} (h : IsRd w r a e) (hf : Ext w w') : IsRd w' r a e := Ext.blk hf h
theorem read_fail (r : Nat) (a e a' e' : Int) (w : World) (h : IsRd w r a e) :
    Calls Tryz.prog 127 #[.pointer (some ⟨r, 0, none⟩), .int .i64 a', .int .i64 e'] w fun x w' => x = .returned (.tuple #[]) ∧ IsRd w' r a' e' ∧ Fr (One r) w w' := by
  obtain ⟨c0, c1, c2, hl, hf⟩ := h.cells
  have HB := Lib.hid h
  clear h
  go_enter Tryz.func127, Tryz.ntmps127
  go_wp2
  refine bodyPost_end (v := .tuple #[]) (by simp [results, Tryz.results127, go_sem]) rfl ?_
  exact ⟨rfl, (blk_set (blk_set HB.out 1 _) 2 _).trans rfl, ((Fr.refl _ _).set _ _ _ (One.self r)).set _ _ _ (One.self r)⟩

/-- A value that is handed on: what it reads as. -/
def valV (x : Nat) (A : Option Addr) (n c : Nat) (A' : Option Addr) (n' c' : Nat) : Value := .agg #[.int .u64 x, .slice A n c, .slice A' n' c']
/-- What a function of the reader answers: a value (of new blocks), and how much of the bytes; or where and why not. -/
def ReadPost (ok : Nat → Prop) (g r : Nat) (l : Bytes) (p : Nat) (R : Except RdErr (Val × Nat)) (w : World) (e : Ending) (w' : World) : Prop :=
  ∃ x : Nat, ∃ A n c A' n' c' v, e = .returned (.agg #[.int .u64 (x : Int), .slice A n c, .slice A' n' c']) ∧ SlC Rd.u8 w' (fun b => w.heap.size ≤ b) A n c (Val.b v) ∧ SlC Rd.val w' (fun b => w.heap.size ≤ b) A' n' c' (Val.l v) ∧ ((x : Nat) = Val.n v ∧ x < 18446744073709551616) ∧
    match R with
    | .ok (v0, k) => v = v0 ∧ k ≤ l.length ∧ IsCur w' ok g (l.drop k) (p + k) ∧ Fr (One g) w w'
    | .error (a, c) => IsRd w' r a c ∧ 0 < c ∧ Fr (Two g r) w w'
theorem ReadPost.good {ok : Nat → Prop} {g r : Nat} {l : Bytes} {p : Nat} {v : Val} {k : Nat} {w w' : World} {e : Ending} (x : Nat) (A : Option Addr) (n c : Nat) (A' : Option Addr) (n' c' : Nat) (he : e = .returned (.agg #[.int .u64 (x : Nat), .slice A n c, .slice A' n' c'])) (hb : SlC Rd.u8 w' (fun b => w.heap.size ≤ b) A n c (Val.b v)) (hl : SlC Rd.val w' (fun b => w.heap.size ≤ b) A' n' c' (Val.l v)) (hx : x = Val.n v ∧ x < 18446744073709551616)
    (hk : k ≤ l.length) (hc : IsCur w' ok g (l.drop k) (p + k)) (hf : Fr (One g) w w') : ReadPost ok g r l p (.ok (v, k)) w e w' :=
  ⟨x, A, n, c, A', n', c', v, he, hb, hl, hx, rfl, hk, hc, hf⟩

theorem ReadPost.fr {ok : Nat → Prop} {g r : Nat} {l : Bytes} {p : Nat} {R : Except RdErr (Val × Nat)} {w w' : World} {e : Ending} (h : ReadPost ok g r l p R w e w') : Fr (Two g r) w w' := by
  obtain ⟨x, A, n, c, A', n', c', v, he, h1, h2, h3, h4⟩ := h
  cases R with
  | ok vk => exact h4.2.2.2.mono fun k _ h => .inl h
  | error ac => exact h4.2.2
theorem ReadPost.put {ok : Nat → Prop} {g r b0 : Nat} {l : Bytes} {p : Nat} {R : Except RdErr (Val × Nat)} {w W w1 : World} {e : Ending} (h : ReadPost ok g r l p R W e w1) (hW : Ext w W) (hb : w.heap.size ≤ b0) (hb' : b0 < W.heap.size) (hg : g < w.heap.size) (hr : r < w.heap.size)
    (hok : ∀ b, ok b → b < w.heap.size) (u1 u2 u3 : Value) : ReadPost ok g r l p R w e (((w1.setCell ⟨b0, 0, none⟩ u1).setCell ⟨b0, 1, none⟩ u2).setCell ⟨b0, 2, none⟩ u3) := by
  obtain ⟨x, A, n, c, A', n', c', v, he, h1, h2, h3, h4⟩ := h
  have hos : Fr (One b0) w1 (((w1.setCell ⟨b0, 0, none⟩ u1).setCell ⟨b0, 1, none⟩ u2).setCell ⟨b0, 2, none⟩ u3) := (by repeat (first | with_reducible exact Fr.refl _ _ | (with_reducible refine Fr.set ?_ _ _ _ (One.self _)) | (with_reducible refine Fr.alloc ?_ _) | (with_reducible refine Fr.drew ?_)))
  have hsz := hW.size
  refine ⟨x, A, n, c, A', n', c', v, he, (h1.fr hos (fun b h e => ?_)).mono (fun b _ h => by omega), (h2.fr hos (fun b h e => ?_)).mono (fun b _ h => by omega), h3, ?_⟩
  · have e : b = b0 := e; omega
  · have e : b = b0 := e; omega
  · cases R with
    | ok vk =>
      obtain ⟨v0, k⟩ := vk
      obtain ⟨i1, i2, i3, i4⟩ := h4
      refine ⟨i1, i2, i3.fr hos (fun e => ?_) (fun b h e => ?_), ?_⟩
      · have e : g = b0 := e; omega
      · have e : b = b0 := e; have := hok b h; omega
      · have hf : Fr (One g) w w1 := hW.any.trans i4
        exact (by repeat (first | with_reducible assumption | with_reducible exact Fr.refl _ _ | (with_reducible refine Fr.alloc ?_ _) | (with_reducible refine Fr.drew ?_) | (with_reducible refine Fr.drewN ?_ _) | (with_reducible refine Fr.setNew ?_ _ _ _ (by first | with_reducible exact Nat.le_refl _ | omega | (simp; omega)))))
    | error ac =>
      obtain ⟨a, c⟩ := ac
      obtain ⟨i1, i2, i3⟩ := h4
      refine ⟨i1.fr hos (fun e => ?_), i2, ?_⟩
      · have e : r = b0 := e; omega
      · have hf : Fr (Two g r) w w1 := hW.any.trans i3
        exact (by repeat (first | with_reducible assumption | with_reducible exact Fr.refl _ _ | (with_reducible refine Fr.alloc ?_ _) | (with_reducible refine Fr.drew ?_) | (with_reducible refine Fr.drewN ?_ _) | (with_reducible refine Fr.setNew ?_ _ _ _ (by first | with_reducible exact Nat.le_refl _ | omega | (simp; omega)))))

theorem read_bytes (g r : Nat) (l : Bytes) (p : Nat) (k : Nat) (ok : Nat → Prop) (w : World) (hc : IsCur w ok g l p) (hr : IsRd w r 0 0) (hok : ∀ b, ok b → b < w.heap.size) (hm : l.length ≤ 1099511627776) (hne : g ≠ r) :
    Calls Tryz.prog 308 #[.pointer (some ⟨r, 0, none⟩), .pointer (some ⟨g, 0, none⟩), .int .i64 k] w (ReadPost ok g r l p (if l.length < k then .error (p + l.length, 4) else .ok (.mk 0 (l.take k) [], k)) w) := by
  by_cases h : l.length < k
  · rw [if_pos h]
    have HC := Lib.hid hc
    have HR := Lib.hid hr
    clear hc hr
    have hrl : r < w.heap.size := blk_lt HR.out
    have hrn : ¬ w.heap.size = r := by omega
    have hge := HC.out.ge
    go_enter Tryz.func308, Tryz.ntmps308
    go_wp2_with (first | ((go_at_call 134; refine (cursor_Take_short g l p ok k _ (HC.out.ext ((by repeat (first | with_reducible assumption | with_reducible exact Fr.refl _ _ | (with_reducible refine Fr.alloc ?_ _) | (with_reducible refine Fr.drew ?_) | (with_reducible refine Fr.drewN ?_ _) | (with_reducible refine Fr.setNew ?_ _ _ _ (by first | with_reducible exact Nat.le_refl _ | omega | (simp; omega))))))) (by omega)).mono ?_; rintro e w1 ⟨rfl, rfl⟩)) | ((go_at_call 28; refine (cursor_End g l p ok _ (HC.out.ext ((by repeat (first | with_reducible assumption | with_reducible exact Fr.refl _ _ | (with_reducible refine Fr.alloc ?_ _) | (with_reducible refine Fr.drew ?_) | (with_reducible refine Fr.drewN ?_ _) | (with_reducible refine Fr.setNew ?_ _ _ _ (by first | with_reducible exact Nat.le_refl _ | omega | (simp; omega)))))))).mono ?_; rintro e w1 ⟨rfl, rfl⟩)) | ((go_at_call 127; refine (read_fail r 0 0 _ _ _ (HR.out.ext ((by repeat (first | with_reducible assumption | with_reducible exact Fr.refl _ _ | (with_reducible refine Fr.alloc ?_ _) | (with_reducible refine Fr.drew ?_) | (with_reducible refine Fr.drewN ?_ _) | (with_reducible refine Fr.setNew ?_ _ _ _ (by first | with_reducible exact Nat.le_refl _ | omega | (simp; omega)))))))).mono ?_; rintro e w2 ⟨rfl, hr2, hx2⟩; have hc2 := Fr.cells hx2; have hf2 := Fr.frozens hx2; have hz2 := Fr.size hx2; simp only [One, Two, not_or, and_imp] at hc2 hf2; try simp [go_sem] at hz2; try (have hzl := Nat.lt_of_succ_le hz2; try (have hzm := Nat.lt_of_succ_lt hzl)))))
    refine bodyPost_ret (v := .agg #[.int .u64 0, .slice none 0 0, .slice none 0 0]) (by simp only [results, Tryz.results308]; go_simp) rfl ?_
    have hx9 : Fr (Two g r) w w2 := Fr.trans' ((by repeat (first | with_reducible assumption | with_reducible exact Fr.refl _ _ | (with_reducible refine Fr.alloc ?_ _) | (with_reducible refine Fr.drew ?_) | (with_reducible refine Fr.drewN ?_ _) | (with_reducible refine Fr.setNew ?_ _ _ _ (by first | with_reducible exact Nat.le_refl _ | omega | (simp; omega)))))) hx2 (fun i _ h => Or.inr h)
    exact ⟨0, none, 0, 0, none, 0, 0, .mk 0 [] [], rfl, SlC.nil _ _ _ _ _ (Nat.zero_le _) (fun _ => rfl), SlC.nil _ _ _ _ _ (Nat.zero_le _) (fun _ => rfl), ⟨rfl, by decide⟩, hr2.fr (F := One w.heap.size) ((by repeat (first | with_reducible exact Fr.refl _ _ | (with_reducible refine Fr.set ?_ _ _ _ (One.self _)) | (with_reducible refine Fr.alloc ?_ _) | (with_reducible refine Fr.drew ?_)))) (fun h => hrn h.symm), by decide, (by repeat (first | with_reducible assumption | with_reducible exact Fr.refl _ _ | (with_reducible refine Fr.alloc ?_ _) | (with_reducible refine Fr.drew ?_) | (with_reducible refine Fr.drewN ?_ _) | (with_reducible refine Fr.setNew ?_ _ _ _ (by first | with_reducible exact Nat.le_refl _ | omega | (simp; omega)))))⟩
  · rw [if_neg h]
    have HC := Lib.hid hc
    have hgl : g < w.heap.size := hc.lt
    have hgn : ¬ w.heap.size = g := by omega
    have HO := Lib.hid hok
    clear hc hr hok
    go_enter Tryz.func308, Tryz.ntmps308
    go_wp2_with (first | ((go_at_call 134; refine (cursor_Take g l p ok k _ (HC.out.ext ((by repeat (first | with_reducible assumption | with_reducible exact Fr.refl _ _ | (with_reducible refine Fr.alloc ?_ _) | (with_reducible refine Fr.drew ?_) | (with_reducible refine Fr.drewN ?_ _) | (with_reducible refine Fr.setNew ?_ _ _ _ (by first | with_reducible exact Nat.le_refl _ | omega | (simp; omega))))))) (fun b hb => by have := HO.out b hb; simp; omega) (by omega) hm).mono ?_; rintro e w1 ⟨A, c, rfl, hs1, hr1, hx1⟩; have hc1 := Fr.cells hx1; have hf1 := Fr.frozens hx1; have hz1 := Fr.size hx1; simp only [One, Two, not_or, and_imp] at hc1 hf1; try simp [go_sem] at hz1; try (have hzl := Nat.lt_of_succ_le hz1; try (have hzm := Nat.lt_of_succ_lt hzl)))))
    refine bodyPost_ret (v := .agg #[.int .u64 0, .slice A k c, .slice none 0 0]) (by simp only [results, Tryz.results308]; go_simp) rfl ?_
    have hx9 : Fr (One g) w w1 := Fr.trans' ((by repeat (first | with_reducible assumption | with_reducible exact Fr.refl _ _ | (with_reducible refine Fr.alloc ?_ _) | (with_reducible refine Fr.drew ?_) | (with_reducible refine Fr.drewN ?_ _) | (with_reducible refine Fr.setNew ?_ _ _ _ (by first | with_reducible exact Nat.le_refl _ | omega | (simp; omega)))))) hx1 (fun i _ h => h)
    have hos : ∀ u v x, Fr (One w.heap.size) w1 (((w1.setCell ⟨w.heap.size, 0, none⟩ u).setCell ⟨w.heap.size, 1, none⟩ v).setCell ⟨w.heap.size, 2, none⟩ x) := fun u v x => (by repeat (first | with_reducible exact Fr.refl _ _ | (with_reducible refine Fr.set ?_ _ _ _ (One.self _)) | (with_reducible refine Fr.alloc ?_ _) | (with_reducible refine Fr.drew ?_)))
    refine ReadPost.good 0 A k c none 0 0 rfl ((hs1.fr (hos _ _ _) (fun b h e => ?_)).mono (fun b _ h => ?_)) (SlC.nil _ _ _ _ _ (Nat.zero_le _) (fun _ => rfl)) ⟨rfl, by decide⟩ (by omega) (hr1.fr (hos _ _ _) (fun e => hgn e.symm) (fun b h e => ?_)) ((by repeat (first | with_reducible assumption | with_reducible exact Fr.refl _ _ | (with_reducible refine Fr.alloc ?_ _) | (with_reducible refine Fr.drew ?_) | (with_reducible refine Fr.drewN ?_ _) | (with_reducible refine Fr.setNew ?_ _ _ _ (by first | with_reducible exact Nat.le_refl _ | omega | (simp; omega))))))
    · have e : b = w.heap.size := e; simp at h; omega
    · simp at h; omega
    · have e : b = w.heap.size := e; have := HO.out b h; omega

theorem read_number (A : Option Addr) (n c : Nat) (f : Form) (g r : Nat) (l : Bytes) (p : Nat) (ok : Nat → Prop) (w : World) (hk : f.kind = 0) (hw : f.wf = true) (hc : IsCur w ok g l p) (hr : IsRd w r 0 0) (hok : ∀ b, ok b → b < w.heap.size) (hne : g ≠ r) :
    Calls Tryz.prog 304 #[.pointer (some ⟨r, 0, none⟩), .pointer (some ⟨g, 0, none⟩), formV A n c f] w (ReadPost ok g r l p (f.read l p) w) := by
  have ho := Form.wf_own hw
  obtain ⟨k, s, lo, hi, st, ps⟩ := f
  simp only [Form.kind] at hk
  subst hk
  simp [Form.own] at ho
  obtain ⟨⟨h1, h4⟩, rfl⟩ := ho
  simp only [formV, Form.kind, Form.size, Form.lo, Form.hi, Form.step]
  have HC := Lib.hid hc
  have HR := Lib.hid hr
  have hgl : g < w.heap.size := hc.lt
  have hrl : r < w.heap.size := blk_lt hr
  have hrn : ¬ w.heap.size = r := by omega
  have hgn : ¬ w.heap.size = g := by omega
  have hrn1 : ¬ w.heap.size + 1 = r := by omega
  have hgn1 : ¬ w.heap.size + 1 = g := by omega
  have hge := hc.ge
  have HO := Lib.hid hok
  clear hc hr hok hw
  by_cases h : l.length < s
  · rw [show Form.read (.mk 0 s lo hi st []) l p = .error (p + l.length, 4) by simp [Form.read, h]]
    go_enter Tryz.func304, Tryz.ntmps304
    go_wp2_with (first | ((go_at_call 26; refine (cursor_Number_short g l p ok s _ (HC.out.ext ((by repeat (first | with_reducible assumption | with_reducible exact Fr.refl _ _ | (with_reducible refine Fr.alloc ?_ _) | (with_reducible refine Fr.drew ?_) | (with_reducible refine Fr.drewN ?_ _) | (with_reducible refine Fr.setNew ?_ _ _ _ (by first | with_reducible exact Nat.le_refl _ | omega | (simp; omega))))))) h h1 h4).mono ?_; rintro e w1 ⟨rfl, rfl⟩)) | ((go_at_call 28; refine (cursor_End g l p ok _ (HC.out.ext ((by repeat (first | with_reducible assumption | with_reducible exact Fr.refl _ _ | (with_reducible refine Fr.alloc ?_ _) | (with_reducible refine Fr.drew ?_) | (with_reducible refine Fr.drewN ?_ _) | (with_reducible refine Fr.setNew ?_ _ _ _ (by first | with_reducible exact Nat.le_refl _ | omega | (simp; omega)))))))).mono ?_; rintro e w1 ⟨rfl, rfl⟩)) | ((go_at_call 127; refine (read_fail r 0 0 _ _ _ (HR.out.ext ((by repeat (first | with_reducible assumption | with_reducible exact Fr.refl _ _ | (with_reducible refine Fr.alloc ?_ _) | (with_reducible refine Fr.drew ?_) | (with_reducible refine Fr.drewN ?_ _) | (with_reducible refine Fr.setNew ?_ _ _ _ (by first | with_reducible exact Nat.le_refl _ | omega | (simp; omega)))))))).mono ?_; rintro e w2 ⟨rfl, hr2, hx2⟩; have hc2 := Fr.cells hx2; have hf2 := Fr.frozens hx2; have hz2 := Fr.size hx2; simp only [One, Two, not_or, and_imp] at hc2 hf2; try simp [go_sem] at hz2; try (have hzl := Nat.lt_of_succ_le hz2; try (have hzm := Nat.lt_of_succ_lt hzl)))))
    refine bodyPost_ret (v := .agg #[.int .u64 0, .slice none 0 0, .slice none 0 0]) (by simp only [results, Tryz.results304]; go_simp) rfl ?_
    have hx9 : Fr (Two g r) w w2 := Fr.trans' ((by repeat (first | with_reducible assumption | with_reducible exact Fr.refl _ _ | (with_reducible refine Fr.alloc ?_ _) | (with_reducible refine Fr.drew ?_) | (with_reducible refine Fr.drewN ?_ _) | (with_reducible refine Fr.setNew ?_ _ _ _ (by first | with_reducible exact Nat.le_refl _ | omega | (simp; omega)))))) hx2 (fun i _ h => Or.inr h)
    exact ⟨0, none, 0, 0, none, 0, 0, .mk 0 [] [], rfl, SlC.nil _ _ _ _ _ (Nat.zero_le _) (fun _ => rfl), SlC.nil _ _ _ _ _ (Nat.zero_le _) (fun _ => rfl), ⟨rfl, by decide⟩, hr2.fr (F := One (w.heap.size + 1)) ((by repeat (first | with_reducible exact Fr.refl _ _ | (with_reducible refine Fr.set ?_ _ _ _ (One.self _)) | (with_reducible refine Fr.alloc ?_ _) | (with_reducible refine Fr.drew ?_)))) (fun h => hrn1 h.symm), by decide, (by repeat (first | with_reducible assumption | with_reducible exact Fr.refl _ _ | (with_reducible refine Fr.alloc ?_ _) | (with_reducible refine Fr.drew ?_) | (with_reducible refine Fr.drewN ?_ _) | (with_reducible refine Fr.setNew ?_ _ _ _ (by first | with_reducible exact Nat.le_refl _ | omega | (simp; omega)))))⟩
  · rw [show Form.read (.mk 0 s lo hi st []) l p = .ok (.mk (num (l.take s)) [] [], s) by simp [Form.read, h]]
    go_enter Tryz.func304, Tryz.ntmps304
    go_wp2_with (first | ((go_at_call 26; refine (cursor_Number g l p ok s _ (HC.out.ext ((by repeat (first | with_reducible assumption | with_reducible exact Fr.refl _ _ | (with_reducible refine Fr.alloc ?_ _) | (with_reducible refine Fr.drew ?_) | (with_reducible refine Fr.drewN ?_ _) | (with_reducible refine Fr.setNew ?_ _ _ _ (by first | with_reducible exact Nat.le_refl _ | omega | (simp; omega))))))) (by omega) h1 h4).mono ?_; rintro e w1 ⟨rfl, hr1, hx1⟩; have hc1 := Fr.cells hx1; have hf1 := Fr.frozens hx1; have hz1 := Fr.size hx1; simp only [One, Two, not_or, and_imp] at hc1 hf1; try simp [go_sem] at hz1; try (have hzl := Nat.lt_of_succ_le hz1; try (have hzm := Nat.lt_of_succ_lt hzl)))))
    refine bodyPost_ret (v := .agg #[.int .u64 (num (l.take s)), .slice none 0 0, .slice none 0 0]) (by simp only [results, Tryz.results304]; go_simp) rfl ?_
    have hx9 : Fr (One g) w w1 := Fr.trans' ((by repeat (first | with_reducible assumption | with_reducible exact Fr.refl _ _ | (with_reducible refine Fr.alloc ?_ _) | (with_reducible refine Fr.drew ?_) | (with_reducible refine Fr.drewN ?_ _) | (with_reducible refine Fr.setNew ?_ _ _ _ (by first | with_reducible exact Nat.le_refl _ | omega | (simp; omega)))))) hx1 (fun i _ h => h)
    have hos : ∀ u v x, Fr (One (w.heap.size + 1)) w1 (((w1.setCell ⟨w.heap.size + 1, 0, none⟩ u).setCell ⟨w.heap.size + 1, 1, none⟩ v).setCell ⟨w.heap.size + 1, 2, none⟩ x) := fun u v x => (by repeat (first | with_reducible exact Fr.refl _ _ | (with_reducible refine Fr.set ?_ _ _ _ (One.self _)) | (with_reducible refine Fr.alloc ?_ _) | (with_reducible refine Fr.drew ?_)))
    refine ReadPost.good (num (l.take s)) none 0 0 none 0 0 rfl (SlC.nil _ _ _ _ _ (Nat.zero_le _) (fun _ => rfl)) (SlC.nil _ _ _ _ _ (Nat.zero_le _) (fun _ => rfl)) ⟨rfl, Nat.lt_of_lt_of_le (num_lt _) (Nat.le_trans (Nat.pow_le_pow_right (by omega) (by rw [List.length_take]; omega : _ ≤ 4)) (by decide))⟩ (by omega) (hr1.fr (hos _ _ _) (fun e => hgn1 e.symm) (fun b h e => ?_)) ((by repeat (first | with_reducible assumption | with_reducible exact Fr.refl _ _ | (with_reducible refine Fr.alloc ?_ _) | (with_reducible refine Fr.drew ?_) | (with_reducible refine Fr.drewN ?_ _) | (with_reducible refine Fr.setNew ?_ _ _ _ (by first | with_reducible exact Nat.le_refl _ | omega | (simp; omega))))))
    have e : b = w.heap.size + 1 := e; have := HO.out b h; omega

theorem read_fixed (A : Option Addr) (n c : Nat) (f : Form) (g r : Nat) (l : Bytes) (p : Nat) (ok : Nat → Prop) (w : World) (hk : f.kind = 5) (hc : IsCur w ok g l p) (hr : IsRd w r 0 0) (hok : ∀ b, ok b → b < w.heap.size) (hm : l.length ≤ 1099511627776) (hne : g ≠ r) :
    Calls Tryz.prog 307 #[.pointer (some ⟨r, 0, none⟩), .pointer (some ⟨g, 0, none⟩), formV A n c f] w (ReadPost ok g r l p (f.read l p) w) := by
  obtain ⟨k, s, lo, hi, st, ps⟩ := f
  simp only [Form.kind] at hk
  subst hk
  have hR : Form.read (.mk 5 s lo hi st ps) l p = (if l.length < lo then .error (p + l.length, 4) else .ok (.mk 0 (l.take lo) [], lo)) := by simp [Form.read]
  simp only [formV, Form.kind, Form.size, Form.lo, Form.hi, Form.step]
  have hcall := read_bytes g r l p lo ok
  rw [← hR] at hcall
  generalize Form.read (.mk 5 s lo hi st ps) l p = R at hcall
  clear hR
  have HB := Lib.hid hcall
  clear hcall
  have HC := Lib.hid hc
  have HR := Lib.hid hr
  have hgl : g < w.heap.size := hc.lt
  have hrl : r < w.heap.size := blk_lt hr
  have hrn1 : ¬ w.heap.size + 1 = r := by omega
  have hgn1 : ¬ w.heap.size + 1 = g := by omega
  have HO := Lib.hid hok
  clear hc hr hok
  go_enter Tryz.func307, Tryz.ntmps307
  go_wp2_with (first | (go_at_call 308; refine (HB.out _ (HC.out.ext ((by repeat (first | with_reducible assumption | with_reducible exact Fr.refl _ _ | (with_reducible refine Fr.alloc ?_ _) | (with_reducible refine Fr.drew ?_) | (with_reducible refine Fr.drewN ?_ _) | (with_reducible refine Fr.setNew ?_ _ _ _ (by first | with_reducible exact Nat.le_refl _ | omega | (simp; omega))))))) (HR.out.ext ((by repeat (first | with_reducible assumption | with_reducible exact Fr.refl _ _ | (with_reducible refine Fr.alloc ?_ _) | (with_reducible refine Fr.drew ?_) | (with_reducible refine Fr.drewN ?_ _) | (with_reducible refine Fr.setNew ?_ _ _ _ (by first | with_reducible exact Nat.le_refl _ | omega | (simp; omega))))))) (fun b hb => by have := HO.out b hb; simp; omega) hm hne).mono ?_; intro e w1 hp1; obtain ⟨x1, A1, n1, c1, B1, m1, d1, v1, rfl, hr1⟩ := id hp1; clear hr1; have hx1 := hp1.fr; have hc1 := Fr.cells hx1; have hf1 := Fr.frozens hx1; have hz1 := Fr.size hx1; simp only [One, Two, not_or, and_imp] at hc1 hf1; try simp [go_sem] at hz1; try (have hzl := Nat.lt_of_succ_le hz1; try (have hzm := Nat.lt_of_succ_lt hzl))))
  refine bodyPost_ret (v := .agg #[.int .u64 x1, .slice A1 n1 c1, .slice B1 m1 d1]) (by simp only [results, Tryz.results307]; go_simp) rfl ?_
  exact ReadPost.put hp1 ((by repeat (first | with_reducible assumption | with_reducible exact Fr.refl _ _ | (with_reducible refine Fr.alloc ?_ _) | (with_reducible refine Fr.drew ?_) | (with_reducible refine Fr.drewN ?_ _) | (with_reducible refine Fr.setNew ?_ _ _ _ (by first | with_reducible exact Nat.le_refl _ | omega | (simp; omega)))))) (Nat.le_succ _) (by simp) hgl hrl HO.out _ _ _
end Go.Proofs.YtalbiepdkaldmaaGreatDoor
