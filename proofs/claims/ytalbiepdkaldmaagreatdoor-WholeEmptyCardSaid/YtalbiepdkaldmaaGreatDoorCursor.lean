/- cursor: what its functions do, each at every state that its callers bring. -/
import Derived.Test.YtalbiepdkaldmaaGreatDoorProg
import Derived.Test.YtalbiepdkaldmaaGreatDoorBase
set_option linter.unusedVariables false
set_option linter.unusedSimpArgs false
namespace Go.Proofs.YtalbiepdkaldmaaGreatDoor
open Go.RowKit
theorem app_u8 : AppT Tryz.prog 22 5 1 1 := AppT.of (z := .int .u8 0) Tryz.underlying22 (by kernel_rfl) rfl (by decide) (by decide)

/-- A cursor at block g: the bytes that are ahead, its place. -/
def IsCur (w : World) (ok : Nat → Prop) (g : Nat) (l : Bytes) (p : Int) : Prop :=
  ∃ A n c, w.heap[g]? = some (.cells #[.slice A n c, .int .i64 p] 100 (0, 0)) ∧ SlC Rd.u8 w ok A n c l ∧ ¬ ok g ∧ 0 ≤ p ∧ p + l.length ≤ 4611686018427387904
theorem IsCur.fr {F : Nat → Prop} {w w' : World} {ok : Nat → Prop} {g : Nat} {l : Bytes} {p : Int} (h : IsCur w ok g l p) (hf : Fr F w w') (hn : ¬ F g) (ho : ∀ b, ok b → ¬ F b) : IsCur w' ok g l p := by
  obtain ⟨A, n, c, hb, hs, h3, h4⟩ := h
  exact ⟨A, n, c, hf.blk hb hn, hs.fr hf ho, h3, h4⟩
theorem IsCur.ext {w w' : World} {ok : Nat → Prop} {g : Nat} {l : Bytes} {p : Int} (h : IsCur w ok g l p) (hf : Ext w w') : IsCur w' ok g l p := h.fr hf (fun f => f) (fun _ _ f => f)
theorem IsCur.lt {w : World} {ok : Nat → Prop} {g : Nat} {l : Bytes} {p : Int} (h : IsCur w ok g l p) : g < w.heap.size := by
  obtain ⟨A, n, c, hb, _⟩ := h
  exact blk_lt hb
theorem IsCur.ge {w : World} {ok : Nat → Prop} {g : Nat} {l : Bytes} {p : Int} (h : IsCur w ok g l p) : 0 ≤ p ∧ p + l.length ≤ 4611686018427387904 := by
  obtain ⟨A, n, c, hb, _, _, h1, h2⟩ := h
  exact ⟨h1, h2⟩
theorem IsCur.not {w : World} {ok : Nat → Prop} {g : Nat} {l : Bytes} {p : Int} (h : IsCur w ok g l p) : ¬ ok g := by
  obtain ⟨A, n, c, hb, _, h1, _, _⟩ := h
  exact h1

def CurPost (ok : Nat → Prop) (l : Bytes) (p : Int) (w : World) (e : Ending) (w' : World) : Prop :=
  ∃ g, e = .returned (.pointer (some ⟨g, 0, none⟩)) ∧ w.heap.size ≤ g ∧ IsCur w' ok g l p ∧ Ext w w'
set_option maxHeartbeats 400000 in
theorem cursor_New (A : Option Addr) (n c : Nat) (l : Bytes) (p : Int) (ok : Nat → Prop) (w : World) (h : SlC Rd.u8 w ok A n c l) (hok : ∀ b, ok b → b < w.heap.size) (h0 : 0 ≤ p) (h1 : p + l.length ≤ 4611686018427387904) :
    Calls Tryz.prog 25 #[.slice A n c, .int .i64 p] w (CurPost ok l p w) := by
  go_enter Tryz.func25, Tryz.ntmps25
  go_wp2
  go_ret
  exact ⟨_, rfl, Nat.le_refl _, ⟨A, n, c, blk_new _ _, h.ext ((Fr.refl _ _).alloc _), fun hb => by have := hok _ hb; omega, h0, h1⟩, (Fr.refl _ _).alloc _⟩

theorem cursor_At (g : Nat) (l : Bytes) (p : Int) (ok : Nat → Prop) (w : World) (h : IsCur w ok g l p) :
    Calls Tryz.prog 30 #[.pointer (some ⟨g, 0, none⟩)] w fun e w' => e = .returned (.int .i64 p) ∧ w = w' := by
  obtain ⟨A, n, c, hb, hs, hg, h0, h1⟩ := h
  have c1 : w.cell? ⟨g, 1, none⟩ = some (.int .i64 p) := blk_cell hb 1
  clear hb
  go_enter Tryz.func30, Tryz.ntmps30
  go_wp2
  go_ret
  exact ⟨rfl, rfl⟩
theorem cursor_Left (g : Nat) (l : Bytes) (p : Int) (ok : Nat → Prop) (w : World) (h : IsCur w ok g l p) :
    Calls Tryz.prog 29 #[.pointer (some ⟨g, 0, none⟩)] w fun e w' => e = .returned (.int .i64 l.length) ∧ w = w' := by
  obtain ⟨A, n, c, hb, hs, hg, h0, h1⟩ := h
  obtain rfl := hs.len
  have c0 : w.cell? ⟨g, 0, none⟩ = some (.slice A l.length c) := blk_cell hb 0
  clear hb
  go_enter Tryz.func29, Tryz.ntmps29
  go_wp2
  go_ret
  exact ⟨rfl, rfl⟩
theorem cursor_End (g : Nat) (l : Bytes) (p : Int) (ok : Nat → Prop) (w : World) (h : IsCur w ok g l p) :
    Calls Tryz.prog 28 #[.pointer (some ⟨g, 0, none⟩)] w fun e w' => e = .returned (.int .i64 (p + l.length)) ∧ w = w' := by
  obtain ⟨h0, h1⟩ := h.ge
  go_enter Tryz.func28, Tryz.ntmps28
  go_wp2_with (first | (go_at_call 30; refine (cursor_At g l p ok _ h).mono ?_; rintro e w' ⟨rfl, rfl⟩) | (go_at_call 29; refine (cursor_Left g l p ok _ h).mono ?_; rintro e w' ⟨rfl, rfl⟩))
  go_ret
  exact ⟨rfl, rfl⟩

def NextPost (ok : Nat → Prop) (g : Nat) (l : Bytes) (p : Int) (k : Nat) (w : World) (e : Ending) (w' : World) : Prop :=
  ∃ A c, e = .returned (.tuple #[.slice A k c, .int .i64 0]) ∧ SlC Rd.u8 w' ok A k c (l.take k) ∧ IsCur w' ok g (l.drop k) (p + k) ∧ Fr (One g) w w'
set_option maxHeartbeats 400000 in
theorem cursor_next (g : Nat) (l : Bytes) (p : Int) (ok : Nat → Prop) (k : Nat) (w : World) (h : IsCur w ok g l p) (hk : k ≤ l.length) :
    Calls Tryz.prog 50 #[.pointer (some ⟨g, 0, none⟩), .int .i64 k] w (NextPost ok g l p k w) := by
  obtain ⟨A, n, c, hb, hs, hg, h0, h1⟩ := h
  have c0 : w.cell? ⟨g, 0, none⟩ = some (.slice A n c) := blk_cell hb 0
  have c1 : w.cell? ⟨g, 1, none⟩ = some (.int .i64 p) := blk_cell hb 1
  have f0 := blk_unfrozen hb 0
  have f1 := blk_unfrozen hb 1
  have hl := hs.le
  have hm := hs.max
  have hkn : k ≤ n := by have := hs.len; omega
  have HB := Lib.hid hb
  clear hb
  go_enter Tryz.func50, Tryz.ntmps50
  go_wp2
  all_goals
    refine bodyPost_ret (v := .tuple #[.slice A k k, .int .i64 0]) (by simp [results, Tryz.results50, go_sem]) rfl ?_
    have hfr : ∀ u v, Fr (One g) w ((w.setCell ⟨g, 0, none⟩ u).setCell ⟨g, 1, none⟩ v) := fun u v => ((Fr.refl _ _).set _ _ _ (One.self g)).set _ _ _ (One.self g)
    have hd := hs.drop k hkn
    refine ⟨A, k, rfl, (hs.take k k hkn (Nat.le_refl _) (by omega)).fr (hfr _ _) (fun b hb e => hg (by rw [← e]; exact hb)), ⟨_, _, _, (blk_set (blk_set HB.out 0 _) 1 _).trans ?_, hd.fr (hfr _ _) (fun b hb e => hg (by rw [← e]; exact hb)), hg, by omega, by rw [List.length_drop]; omega⟩, hfr _ _⟩
    simp [*, Rd.u8, Rd.scalar]

def ShortPost (w : World) (v : Value) (e : Ending) (w' : World) : Prop := e = .returned (.tuple #[v, .int .i64 4]) ∧ w = w'
theorem cursor_next_short (g : Nat) (l : Bytes) (p : Int) (ok : Nat → Prop) (k : Int) (w : World) (h : IsCur w ok g l p) (hk : l.length < k) :
    Calls Tryz.prog 50 #[.pointer (some ⟨g, 0, none⟩), .int .i64 k] w (ShortPost w (.slice none 0 0)) := by
  obtain ⟨A, n, c, hb, hs, hg, h0, h1⟩ := h
  have c0 : w.cell? ⟨g, 0, none⟩ = some (.slice A n c) := blk_cell hb 0
  have hk0 : 0 ≤ k := by omega
  have hkn : n < k := by have := hs.len; omega
  clear hb
  go_enter Tryz.func50, Tryz.ntmps50
  go_wp2
  go_ret2
  exact ⟨rfl, rfl⟩

/-- The number that bytes are, the highest first. -/
def num (l : Bytes) : Nat := l.foldl (fun x b => x * 256 + b.toNat) 0
theorem num_snoc (l : Bytes) (b : UInt8) : num (l ++ [b]) = num l * 256 + b.toNat := by simp [num]
theorem num_fold (l : Bytes) : ∀ x : Nat, l.foldl (fun x b => x * 256 + b.toNat) x < (x + 1) * 256 ^ l.length := by
  induction l with
  | nil => intro x; simp
  | cons b l ih =>
    intro x
    have h := ih (x * 256 + b.toNat)
    have hb := b.toNat_lt
    simp only [List.foldl_cons, List.length_cons, Nat.pow_succ]
    have : (x * 256 + b.toNat + 1) * 256 ^ l.length ≤ (x + 1) * 256 * 256 ^ l.length := Nat.mul_le_mul_right _ (by omega)
    rw [Nat.mul_comm (256 ^ l.length) 256, ← Nat.mul_assoc]
    omega
theorem num_lt (l : Bytes) : num l < 256 ^ l.length := by simpa [num] using num_fold l 0
theorem num_take_lt (l : Bytes) (j k : Nat) (h : j ≤ k) : num (l.take j) < 256 ^ k :=
  Nat.lt_of_lt_of_le (num_lt _) (Nat.pow_le_pow_right (by omega) (by rw [List.length_take]; omega))
theorem or_byte (x : Nat) (b : UInt8) (hx : x < 16777216) : bits BinOp.or IntKind.u64 ((x : Int) * 256) (b.toNat : Int) = ((x * 256 + b.toNat : Nat) : Int) := by
  have hb := b.toNat_lt
  have e : (x : Int) * 256 = ((x * 256 : Nat) : Int) := by omega
  rw [e, u64_or_nat _ _ (by omega) (by omega), nat_join 8 _ _ (by omega) (by omega)]
def NumPost (ok : Nat → Prop) (g : Nat) (l : Bytes) (p : Int) (k : Nat) (w : World) (e : Ending) (w' : World) : Prop :=
  e = .returned (.tuple #[.int .u64 (num (l.take k)), .int .i64 0]) ∧ IsCur w' ok g (l.drop k) (p + k) ∧ Fr (One g) w w'
set_option maxHeartbeats 400000 in
theorem cursor_Number (g : Nat) (l : Bytes) (p : Int) (ok : Nat → Prop) (k : Nat) (w : World) (h : IsCur w ok g l p) (hk : k ≤ l.length) (h1 : 1 ≤ k) (h4 : k ≤ 4) :
    Calls Tryz.prog 26 #[.pointer (some ⟨g, 0, none⟩), .int .i64 k] w (NumPost ok g l p k w) := by
  go_enter Tryz.func26, Tryz.ntmps26
  go_wp2_with (go_at_call 50; refine (cursor_next g l p ok k _ h hk).mono ?_; rintro e w' ⟨A, c, rfl, hs, hc, hf⟩)
  go_loop [8, 32] (fun x i => ∃ j : Nat, j ≤ k ∧ i = .int .i64 j ∧ x = .int .u64 (num (l.take j))) (fun _ i => k - (intOf i).toNat)
  case atStart => exact ⟨0, Nat.zero_le _, rfl, rfl⟩
  case round =>
    obtain ⟨j, hj, rfl, rfl⟩ := hrel
    by_cases hlt : j < k
    · have hjl : j < l.length := by omega
      have hget : (l.take k)[j]? = some l[j] := by rw [List.getElem?_take, if_pos hlt, List.getElem?_eq_getElem hjl]
      obtain ⟨b, o, rfl, hob, hcell⟩ := scalar_cell hs hget
      have hsn : num (l.take (j + 1)) = num (l.take j) * 256 + l[j].toNat := by rw [List.take_succ_eq_append_getElem hjl, num_snoc]
      have hb := l[j].toNat_lt
      have hn := num_take_lt l j 3 (by omega)
      have HS := Lib.hid hsn
      clear hsn
      go_wp2
      go_round
      case rel => exact ⟨j + 1, by omega, by go_num, by rw [HS.out, or_byte _ _ (by omega)]⟩
      case measure => simp [intOf]; omega
    · obtain rfl : j = k := by omega
      go_wp2
      go_ret2
      exact ⟨rfl, hc, hf⟩
theorem cursor_Number_short (g : Nat) (l : Bytes) (p : Int) (ok : Nat → Prop) (k : Nat) (w : World) (h : IsCur w ok g l p) (hk : l.length < k) (h1 : 1 ≤ k) (h4 : k ≤ 4) :
    Calls Tryz.prog 26 #[.pointer (some ⟨g, 0, none⟩), .int .i64 k] w (ShortPost w (.int .u64 0)) := by
  go_enter Tryz.func26, Tryz.ntmps26
  go_wp2_with (go_at_call 50; refine (cursor_next_short g l p ok k _ h (by omega)).mono ?_; rintro e w' ⟨rfl, rfl⟩)
  refine wp_loop_rounds 1 ?_
  rw [rounds_succ]
  go_wp2
  go_ret2
  exact ⟨rfl, rfl⟩

def TakePost (ok : Nat → Prop) (g : Nat) (l : Bytes) (p : Int) (k : Nat) (w : World) (e : Ending) (w' : World) : Prop :=
  ∃ A c, e = .returned (.tuple #[.slice A k c, .int .i64 0]) ∧ SlC Rd.u8 w' (fun b => w.heap.size ≤ b) A k c (l.take k) ∧ IsCur w' ok g (l.drop k) (p + k) ∧ Fr (One g) w w'
set_option maxHeartbeats 400000 in
theorem cursor_Take (g : Nat) (l : Bytes) (p : Int) (ok : Nat → Prop) (k : Nat) (w : World) (h : IsCur w ok g l p) (hok : ∀ b, ok b → b < w.heap.size) (hk : k ≤ l.length) (hm : l.length ≤ 1099511627776) :
    Calls Tryz.prog 134 #[.pointer (some ⟨g, 0, none⟩), .int .i64 k] w (TakePost ok g l p k w) := by
  have hlt := h.lt
  go_enter Tryz.func134, Tryz.ntmps134
  go_wp2_with (first | (go_at_call 50; refine (cursor_next g l p ok k _ h hk).mono ?_; rintro e w1 ⟨A, c, rfl, hs, hc, hf⟩) | (at_builtin; refine wpList_append_nil rfl rfl app_u8 rfl hs rfl ?_ ?_; omega; intro A' c' w2 hs' _ hx))
  go_ret2
  exact ⟨A', c', rfl, hs'.mono (fun b _ h => Nat.le_trans hf.size h), hc.ext hx, hf.trans hx.any⟩
theorem cursor_Take_short (g : Nat) (l : Bytes) (p : Int) (ok : Nat → Prop) (k : Int) (w : World) (h : IsCur w ok g l p) (hk : l.length < k) :
    Calls Tryz.prog 134 #[.pointer (some ⟨g, 0, none⟩), .int .i64 k] w (ShortPost w (.slice none 0 0)) := by
  have hlt := h.lt
  go_enter Tryz.func134, Tryz.ntmps134
  go_wp2_with (first | (go_at_call 50; refine (cursor_next_short g l p ok k _ h hk).mono ?_; rintro e w' ⟨rfl, rfl⟩))
  go_ret2
  exact ⟨rfl, rfl⟩

def SubPost (ok : Nat → Prop) (g : Nat) (l : Bytes) (p : Int) (k : Nat) (w : World) (e : Ending) (w' : World) : Prop :=
  ∃ g', e = .returned (.tuple #[.pointer (some ⟨g', 0, none⟩), .int .i64 0]) ∧ w.heap.size ≤ g' ∧ IsCur w' ok g' (l.take k) p ∧ IsCur w' ok g (l.drop k) (p + k) ∧ Fr (One g) w w'
set_option maxHeartbeats 400000 in
theorem cursor_Sub (g : Nat) (l : Bytes) (p : Int) (ok : Nat → Prop) (k : Nat) (w : World) (h : IsCur w ok g l p) (hok : ∀ b, ok b → b < w.heap.size) (hk : k ≤ l.length) :
    Calls Tryz.prog 181 #[.pointer (some ⟨g, 0, none⟩), .int .i64 k] w (SubPost ok g l p k w) := by
  have hge := h.ge
  go_enter Tryz.func181, Tryz.ntmps181
  go_wp2_with (first | (go_at_call 30; refine (cursor_At g l p ok _ h).mono ?_; rintro e w' ⟨rfl, rfl⟩) | (go_at_call 50; refine (cursor_next g l p ok k _ h hk).mono ?_; rintro e w1 ⟨A, c, rfl, hs, hc, hf⟩))
  go_ret2
  have hsz := hf.size
  have hl : (l.take k).length ≤ l.length := by rw [List.length_take]; omega
  exact ⟨_, rfl, hsz, ⟨A, k, c, blk_new _ _, hs.ext ((Fr.refl _ _).alloc _), fun hb => by have := hok _ hb; omega, hge.1, by omega⟩, hc.ext ((Fr.refl _ _).alloc _), hf.alloc _⟩
theorem cursor_Sub_short (g : Nat) (l : Bytes) (p : Int) (ok : Nat → Prop) (k : Int) (w : World) (h : IsCur w ok g l p) (hk : l.length < k) :
    Calls Tryz.prog 181 #[.pointer (some ⟨g, 0, none⟩), .int .i64 k] w (ShortPost w (.pointer none)) := by
  go_enter Tryz.func181, Tryz.ntmps181
  go_wp2_with (first | (go_at_call 30; refine (cursor_At g l p ok _ h).mono ?_; rintro e w' ⟨rfl, rfl⟩) | (go_at_call 50; refine (cursor_next_short g l p ok k _ h hk).mono ?_; rintro e w' ⟨rfl, rfl⟩))
  go_ret2
  exact ⟨rfl, rfl⟩
end Go.Proofs.YtalbiepdkaldmaaGreatDoor
