/- StreamData: records of data are told one by one, as they are. What comes in: slices read as data are slices of the walks. -/
import Derived.Test.YtalbiepdkaldmaaGreatDoorProg
import Derived.Test.YtalbiepdkaldmaaGreatDoorLawPlaces
import Derived.Deep.QuietTactic
import Derived.Deep.LoopGhost
import Derived.Test.YtalbiepdkaldmaaGreatDoorFront
import Derived.ChangeArms
import Derived.OpenShut
import Derived.LaidMore
set_option linter.unusedVariables false
set_option linter.unusedSimpArgs false
namespace Go.Proofs.YtalbiepdkaldmaaGreatDoor
open Go.RowKit
theorem app_bytes : AppT Tryz.prog 46 22 1 24 := AppT.of (z := .slice none 0 0) Tryz.underlying46 (by kernel_rfl) rfl (by decide) (by decide)
theorem size_bytes (w : World) : (sizeOf 22).run Tryz.prog w = .ok 1 w := by kernel_rfl
theorem size_event (w : World) : (sizeOf 49).run Tryz.prog w = .ok 2 w := by kernel_rfl
set_option maxRecDepth 8000 in
set_option maxHeartbeats 8000000 in
theorem data_big (A : Option Addr) (m c : Nat) (v q : Int) (hm : 60 < m) (w : World) (hla : Laid w) (hll : LaidLim w) : Calls Tryz.prog 5 #[.slice A m c, .int .u16 v, .int .i64 q] w fun e w' => e = .returned (.bool true) ∧ Ext w w' := by
  have HA := Lib.hid (fun w' (hx : Ext w w') => law19_alive w' (hla.ext hx) (hll.ext hx))
  clear hla hll
  have d : decide (60 < (m : Int)) = true := by simp; omega
  go_enter Tryz.func5, Tryz.ntmps5
  go_wp2_with (first | ((go_at_call 12; refine (HA.out _ (Fr.refl _ _)).mono ?_; rintro e w0 ⟨rfl, hx0⟩)))
  have HX0 := Lib.hid hx0
  clear hx0
  (go_at_call 12; refine (HA.out _ HX0.out).mono ?_; rintro e w9 ⟨rfl, hx9⟩)
  go_wp2
  refine bodyPost_ret (v := .bool true) (by simp only [results, Tryz.results5]; go_simp) rfl ?_
  exact ⟨rfl, Fr.trans HX0.out hx9⟩
theorem run_ok {st y : St} {b : Bytes} (h : st.run b = some y) (he : y.err = 0) : st.err = 0 := by
  by_cases hz : st.err = 0
  · exact hz
  · rw [run_err hz] at h
    injection h with h
    rw [h]
    exact he
/-- The colour of what lay there: what came in has none; what the examples and the stream have laid is apart. -/
def oldc (w : World) (b : Nat) : Nat := if b < w.heap.size then 0 else 9
theorem oldc_lt {w : World} {b : Nat} (h : b < w.heap.size) : oldc w b = 0 := if_pos h
theorem oldc_ge {w : World} {b : Nat} (h : w.heap.size ≤ b) : oldc w b = 9 := if_neg (by omega)
theorem oldc_ne (w : World) (b : Nat) : oldc w b ≠ 7 ∧ oldc w b ≠ 8 := by unfold oldc; split <;> decide
/-- What is built of the rows so far. -/
structure Built (w w1 wr : World) (v1 v0 : UInt8) (colx : Nat → Nat) (va vo : Value) (l : List Bytes) : Prop where
  all : RowC Rd.u8 5 8 wr colx va (dataRecs v1 v0 l)
  own : RowC (Rd.slice Rd.u8) 22 7 wr colx vo l
  old : ∀ b, b < w1.heap.size → colx b = oldc w b
  ext : Ext w1 wr
set_option maxRecDepth 8000 in
set_option maxHeartbeats 8000000 in
theorem data_walk (A : Option Addr) (m c : Nat) (L : List Bytes) (v q : Int) (V P : Nat) (hv : v = (V : Int)) (hV : V < 65536) (hP : max (0 : Int) q % 50 = (P : Int)) (hP50 : P < 50) (hm : m ≤ 60) (w : World) (hL : SlC (Rd.slice Rd.u8) w Any A m c L) (hla : Laid w) (hll : LaidLim w) : Calls Tryz.prog 5 #[.slice A m c, .int .u16 v, .int .i64 q] w fun e w' => e = .returned (.bool true) ∧ Ext w w' := by
  subst hv
  have HA := Lib.hid (law19_alive w hla hll)
  have HLA := Lib.hid hla
  have HLL := Lib.hid hll
  have HSL := Lib.hid hL.lt
  have hml : L.length = m := hL.len
  have HML := Lib.hid hml
  clear hla hll hL hml
  have d : decide (60 < (m : Int)) = false := by simp; omega
  go_enter Tryz.func5, Tryz.ntmps5
  go_wp2_with (first | ((go_at_call 12; refine (HA.out).mono ?_; rintro e w0 ⟨rfl, hx0⟩)))
  have HX0 := Lib.hid hx0
  have HN := Lib.hid (stream_New 4 w0 (by decide) (by decide) (HLL.out.ext hx0) (HLA.out.ext hx0))
  clear hx0
  go_wp2_with (first | ((go_at_call 13; refine (HN.out).mono ?_; rintro e w1 ⟨s, h, t, col, rfl, hI1, hc0, hx1, hc4⟩)))
  have HI1 := Lib.hid (hI1.goes (clip_goes w1 col))
  have HX1 := Lib.hid hx1
  have HC0 : Hid (∀ b, b < w0.heap.size → clip w1 col b = 0) := Lib.hid (fun b hb => (clip_goes w1 col b (Nat.lt_of_lt_of_le hb hx1.size)).trans (hc0 b hb))
  have HC4 : Hid (∀ b, clip w1 col b < 4) := Lib.hid (fun b => by unfold clip; split; exact hc4 b; omega)
  have HCN : Hid (∀ b, w1.heap.size ≤ b → clip w1 col b = 0) := Lib.hid (fun b hb => clip_new hb)
  have HW1 : Hid (w.heap.size ≤ w1.heap.size) := Lib.hid (Nat.le_trans HX0.out.size hx1.size)
  generalize clip w1 col = col0 at *
  clear hI1 hc0 hx1 hc4 HA HN
  go_loopg [9, 10, 42] m (fun k va vo i wr => ∃ (j : Nat) (colx : Nat → Nat) (xs : List Bytes), i = .int .i64 (j : Nat) ∧ j ≤ m ∧ k = m - j ∧ xs = (L.map (·.take 300)).take j ∧ Built w w1 wr (UInt8.ofNat (V / 256)) (UInt8.ofNat V) colx va vo xs)
  case atStart => exact ⟨0, oldc w, [], rfl, Nat.zero_le _, rfl, by rw [List.take_zero], ⟨RowC.nil, RowC.nil, fun _ _ => rfl, Fr.refl _ _⟩⟩
  case round =>
    obtain ⟨j, colx, xs, rfl, hj, hk, hxs, HBD⟩ := hrel
    have HXS := Lib.hid hxs
    clear hxs
    obtain ⟨Aa, ca, rfl⟩ := HBD.all.isSl
    obtain ⟨Ao, co, rfl⟩ := HBD.own.isSl
    have HB := Lib.hid HBD
    have HJ := Lib.hid hj
    have HK := Lib.hid hk
    have hz := HBD.ext.size
    have hz1 := HW1.out
    obtain ⟨nb, hnb⟩ : ∃ nb, (dataRecs (UInt8.ofNat (V / 256)) (UInt8.ofNat V) xs).length = nb := ⟨_, rfl⟩
    have HNB := Lib.hid hnb
    have hxl : xs.length = j := by rw [HXS.out, List.length_take, List.length_map, HML.out]; omega
    have HXL := Lib.hid hxl
    have hx300 : ∀ b ∈ xs, b.length ≤ 300 := fun b hb => by
      rw [HXS.out] at hb
      obtain ⟨y, _, rfl⟩ := List.mem_map.1 (List.mem_of_mem_take hb)
      rw [List.length_take]
      omega
    have hnb305 : nb ≤ 305 * j := by rw [← hnb, ← hxl]; exact dataRecs_len _ _ xs hx300
    have HX300 := Lib.hid hx300
    rw [hnb]
    clear HBD hj hk hnb hxl hx300
    by_cases hlt : j < m
    · have d2 : decide ((j : Int) < (m : Int)) = true := by simp; omega
      have HLT := Lib.hid hlt
      clear hlt
      have HT7 : Hid (∀ o, OwnR (Rd.slice Rd.u8) 22 (wr.alloc o) 0 (GrowOk wr.heap.size (wr.alloc o).heap.size colx (.slice Ao xs.length co)) (.slice Ao xs.length co) xs.length xs) := Lib.hid fun o => HB.out.own.togrow ((Fr.refl _ wr).alloc o) (by omega)
      go_wp2_with (refine wpList_idx ((HSL.out.ext (Fr.trans HX0.out (Fr.trans HX1.out HB.out.ext)))) rfl _ _ _ rfl _ _ Tryz.underlying46 (size_bytes _) rfl rfl ?_ ?_ ?_)
      · omega
      · have := HLT.out; omega
      intro bf off cs y hokb hget hy hcell
      obtain ⟨A1, n1, c1, rfl, hs1⟩ := hy
      have hc1 : wr.cell? ⟨bf, off, none⟩ = some (.slice A1 n1 c1) := hcell 0 _ rfl
      have hy1 : L[j]? = some y := by simpa using hget
      obtain ⟨k1, hk1⟩ : ∃ k1, min n1 300 = k1 := ⟨_, rfl⟩
      have hmin : min (n1 : Int) 300 = (k1 : Int) := by omega
      have hle1 := hs1.le
      have hk1n : k1 ≤ n1 := by omega
      have hlen1 := hs1.len
      have HS1 := Lib.hid (show SlC Rd.u8 wr (fun b => b < w.heap.size) A1 k1 c1 (y.take 300) from by
        have := hs1.take k1 c1 hk1n (by omega) (Nat.le_refl _)
        rw [show y.take k1 = y.take 300 from by
          by_cases h300 : y.length ≤ 300
          · rw [List.take_of_length_le (by omega), List.take_of_length_le h300]
          · rw [show k1 = 300 from by omega]] at this
        exact this)
      have hk300 : k1 ≤ 300 := by omega
      have HY := Lib.hid hy1
      have HK1 := Lib.hid hk1
      have HYL := Lib.hid (show (y.take 300).length = k1 from HS1.out.len)
      clear hcell hget hs1 hy1 hokb hk1 hlen1
      have HSY : Hid (SlC (Rd.slice Rd.u8) (wr.alloc (.cells #[.slice A1 k1 c1] 22)) (GrowOk wr.heap.size (wr.alloc (.cells #[.slice A1 k1 c1] 22)).heap.size colx (.slice Ao xs.length co)) (some ⟨wr.heap.size, 0, none⟩) 1 1 [y.take 300]) := Lib.hid (by
        have hvb : ∀ b, (Value.slice Ao xs.length co).ownBlock = some b → b < wr.heap.size ∧ colx b = 7 := fun b e => ⟨(HB.out.own.1.block b e).2, HB.out.own.2 b e⟩
        refine sl_newO (d := Rd.slice Rd.u8) (w := wr) (ok := fun b => b < w.heap.size) (cells := [.slice A1 k1 c1]) (blk_new _ _) (Elems.one (d := Rd.slice Rd.u8) (x := y.take 300) ⟨A1, k1, c1, rfl, HS1.out⟩) ((Fr.refl _ _).alloc _) rfl (by decide) ⟨by simp, fun e => ?_, .inr (Nat.le_refl _)⟩ (fun b hb e => ⟨by simp; omega, fun e' => ?_, .inl ((HB.out.old b (Nat.lt_of_lt_of_le e HW1.out)).trans (oldc_lt e))⟩)
        · have := (hvb _ e).1; omega
        · have h1 := (hvb _ e').2
          have h2 := (HB.out.old b (Nat.lt_of_lt_of_le e HW1.out)).trans (oldc_lt e)
          omega)
      go_wp2_with (at_builtin; refine wpList_append_rows (d := Rd.slice Rd.u8) (v := .slice Ao xs.length co) (xs := xs) (ys := [y.take 300]) (n := xs.length) (m := 1) (base := 0) rfl rfl app_bytes rfl (HT7.out _) growok_not HSY.out rfl ?_ ?_ ?_)
      · have := HXL.out; omega
      · exact Nat.zero_le _
      intro vo2 w2 hown hgr hblk
      have hg2 : Goes wr colx (hue0 wr.heap.size colx 7 vo2) := goes_hue0 HB.out.own.2 (fun k hk => by
        rcases hblk k hk with h1 | h1
        · exact .inl h1
        · exact .inr (by omega))
      have hF2 : Fr (fun b => colx b = 7) wr w2 := Fr.trans (Ext.any ((Fr.refl _ wr).alloc _)) (Fr.of_grow hgr HB.out.own.2)
      have HOWN2 := Lib.hid (show RowC (Rd.slice Rd.u8) 22 7 w2 (hue0 wr.heap.size colx 7 vo2) vo2 (xs ++ [y.take 300]) from RowC.grown hown (by simp) (fun k hk => by simpa using hblk k hk))
      have HALL2 : Hid (RowC Rd.u8 5 8 w2 (hue0 wr.heap.size colx 7 vo2) (.slice Aa nb ca) (dataRecs (UInt8.ofNat (V / 256)) (UInt8.ofNat V) xs)) := Lib.hid (by
        have := (HB.out.all.goes hg2).fr hF2 (fun b hb e => by rw [hg2 b hb]; omega)
        rw [HNB.out] at this
        exact this)
      have HOLD2 : Hid (∀ b, b < w1.heap.size → hue0 wr.heap.size colx 7 vo2 b = oldc w b) := Lib.hid fun b hb => (hg2 b (by omega)).trans (HB.out.old b hb)
      have HEXT2 : Hid (Ext w1 w2) := Lib.hid (Fr.trans' HB.out.ext hF2 (fun b hb e => by have := HB.out.old b hb; have := oldc_ne w b; omega))
      have HS2 := Lib.hid ((HS1.out.ext ((Fr.refl _ wr).alloc (.cells #[.slice A1 k1 c1] 22))).fr (Fr.of_grow (F := fun b => colx b = 7) hgr HB.out.own.2) (fun b hb e => by have := HB.out.old b (Nat.lt_of_lt_of_le hb HW1.out); have := oldc_ne w b; omega))
      have hz2 : w1.heap.size ≤ w2.heap.size := HEXT2.out.size
      obtain ⟨Ao2, co2, rfl⟩ := HOWN2.out.isSl
      generalize hue0 wr.heap.size colx 7 _ = colx2 at *
      clear hown hgr hblk hg2 hF2 HSY HT7 HS1
      have HSY2 : Hid (SlC Rd.u8 (w2.alloc (.cells #[.int .u8 23, .int .u8 ((V : Int) / 256), .int .u8 ((V : Int) % 256), .int .u8 ((k1 : Int) / 256), .int .u8 ((k1 : Int) % 256)] 5)) (GrowOk w2.heap.size (w2.alloc (.cells #[.int .u8 23, .int .u8 ((V : Int) / 256), .int .u8 ((V : Int) % 256), .int .u8 ((k1 : Int) / 256), .int .u8 ((k1 : Int) % 256)] 5)).heap.size colx2 (.slice Aa nb ca)) (some ⟨w2.heap.size, 0, none⟩) 5 5 [23, UInt8.ofNat (V / 256), UInt8.ofNat V, UInt8.ofNat (k1 / 256), UInt8.ofNat k1]) := Lib.hid (by
        have a1 : (((UInt8.ofNat (V / 256)).toNat : Nat) : Int) = (V : Int) / 256 := by rw [UInt8.toNat_ofNat', Nat.mod_eq_of_lt (by omega)]; omega
        have a2 : (((UInt8.ofNat V).toNat : Nat) : Int) = (V : Int) % 256 := by rw [UInt8.toNat_ofNat']; omega
        have a3 : (((UInt8.ofNat (k1 / 256)).toNat : Nat) : Int) = (k1 : Int) / 256 := by rw [UInt8.toNat_ofNat', Nat.mod_eq_of_lt (by omega)]; omega
        have a4 : (((UInt8.ofNat k1).toNat : Nat) : Int) = (k1 : Int) % 256 := by rw [UInt8.toNat_ofNat']; omega
        have := sl_bytes w2 [23, UInt8.ofNat (V / 256), UInt8.ofNat V, UInt8.ofNat (k1 / 256), UInt8.ofNat k1] (by simp)
        simp only [List.map_cons, List.map_nil, a1, a2, a3, a4] at this
        refine SlC.mono (show SlC Rd.u8 (w2.alloc (.cells #[.int .u8 23, .int .u8 ((V : Int) / 256), .int .u8 ((V : Int) % 256), .int .u8 ((k1 : Int) / 256), .int .u8 ((k1 : Int) % 256)] 5)) (fun b => b = w2.heap.size) (some ⟨w2.heap.size, 0, none⟩) 5 5 [23, UInt8.ofNat (V / 256), UInt8.ofNat V, UInt8.ofNat (k1 / 256), UInt8.ofNat k1] from this) fun b hb e => ?_
        subst e
        refine ⟨by simp, fun e => ?_, .inr (Nat.le_refl _)⟩
        have := (HALL2.out.1.block _ e).2
        omega)
      have HT8 : Hid (∀ o, OwnR Rd.u8 5 (w2.alloc o) 0 (GrowOk w2.heap.size (w2.alloc o).heap.size colx2 (.slice Aa nb ca)) (.slice Aa nb ca) nb ((dataRecs (UInt8.ofNat (V / 256)) (UInt8.ofNat V) xs))) := Lib.hid fun o => by
        have := HALL2.out.togrow ((Fr.refl _ w2).alloc o) (by omega)
        rw [HNB.out] at this
        exact this
      go_wp2_with (at_builtin; refine wpList_append_rows (d := Rd.u8) (v := .slice Aa nb ca) (xs := (dataRecs (UInt8.ofNat (V / 256)) (UInt8.ofNat V) xs)) (ys := [23, UInt8.ofNat (V / 256), UInt8.ofNat V, UInt8.ofNat (k1 / 256), UInt8.ofNat k1]) (n := nb) (m := 5) (base := 0) rfl rfl app_u8 rfl (HT8.out _) growok_not HSY2.out rfl ?_ ?_ ?_)
      · have := HXL.out; have := HLT.out; omega
      · exact Nat.zero_le _
      intro va3 w3 hown3 hgr3 hblk3
      have hg3 : Goes w2 colx2 (hue0 w2.heap.size colx2 8 va3) := goes_hue0 HALL2.out.2 (fun k hk => by
        rcases hblk3 k hk with h1 | h1
        · exact .inl h1
        · exact .inr (by omega))
      have hF3 : Fr (fun b => colx2 b = 8) w2 w3 := Fr.trans (Ext.any ((Fr.refl _ w2).alloc _)) (Fr.of_grow hgr3 HALL2.out.2)
      have HALL3 := Lib.hid (show RowC Rd.u8 5 8 w3 (hue0 w2.heap.size colx2 8 va3) va3 ((dataRecs (UInt8.ofNat (V / 256)) (UInt8.ofNat V) xs) ++ [23, UInt8.ofNat (V / 256), UInt8.ofNat V, UInt8.ofNat (k1 / 256), UInt8.ofNat k1]) from RowC.grown hown3 (by rw [List.length_append, HNB.out]; rfl) (fun k hk => by simpa using hblk3 k hk))
      have HOWN3 : Hid (RowC (Rd.slice Rd.u8) 22 7 w3 (hue0 w2.heap.size colx2 8 va3) (.slice Ao2 (xs.length + 1) co2) (xs ++ [y.take 300])) := Lib.hid (by
        have := (HOWN2.out.goes hg3).fr hF3 (fun b hb e => by rw [hg3 b hb]; omega)
        simpa using this)
      have HOLD3 : Hid (∀ b, b < w1.heap.size → hue0 w2.heap.size colx2 8 va3 b = oldc w b) := Lib.hid fun b hb => (hg3 b (by omega)).trans (HOLD2.out b hb)
      have HEXT3 : Hid (Ext w1 w3) := Lib.hid (Fr.trans' HEXT2.out hF3 (fun b hb e => by have := HOLD2.out b hb; have := oldc_ne w b; omega))
      have HS3 : Hid (SlC Rd.u8 w3 (fun b => b < w.heap.size) A1 k1 c1 (y.take 300)) := Lib.hid ((HS2.out.fr hF3 (fun b hb e => by have := HOLD2.out b (Nat.lt_of_lt_of_le hb HW1.out); have := oldc_ne w b; omega)))
      have hz3 : w1.heap.size ≤ w3.heap.size := HEXT3.out.size
      obtain ⟨Aa3, ca3, rfl⟩ : ∃ Aa3 ca3, va3 = .slice Aa3 (nb + 5) ca3 := by
        obtain ⟨A', c', h'⟩ := HALL3.out.isSl
        rw [List.length_append, HNB.out] at h'
        exact ⟨A', c', h'⟩
      generalize hue0 w2.heap.size colx2 8 _ = colx3 at *
      have HT9 : Hid (OwnR Rd.u8 5 w3 0 (GrowOk w3.heap.size w3.heap.size colx3 (.slice Aa3 (nb + 5) ca3)) (.slice Aa3 (nb + 5) ca3) (nb + 5) ((dataRecs (UInt8.ofNat (V / 256)) (UInt8.ofNat V) xs) ++ [23, UInt8.ofNat (V / 256), UInt8.ofNat V, UInt8.ofNat (k1 / 256), UInt8.ofNat k1])) := Lib.hid (by
        have := HALL3.out.togrow (Fr.refl _ w3) (by omega)
        rw [List.length_append, HNB.out] at this
        exact this)
      have HSY3 : Hid (SlC Rd.u8 w3 (GrowOk w3.heap.size w3.heap.size colx3 (.slice Aa3 (nb + 5) ca3)) A1 k1 c1 (y.take 300)) := Lib.hid (HS3.out.mono fun b hb e => by
        have h0 := (HOLD3.out b (Nat.lt_of_lt_of_le e HW1.out)).trans (oldc_lt e)
        exact ⟨hb, fun e' => by have := HALL3.out.2 b e'; omega, .inl h0⟩)
      clear hown3 hgr3 hblk3 hg3 hF3 HSY2 HT8 HS2 HALL2 HOWN2 HOLD2 HEXT2
      go_wp2_with (at_builtin; refine wpList_append_rows (d := Rd.u8) (v := .slice Aa3 (nb + 5) ca3) (xs := (dataRecs (UInt8.ofNat (V / 256)) (UInt8.ofNat V) xs) ++ [23, UInt8.ofNat (V / 256), UInt8.ofNat V, UInt8.ofNat (k1 / 256), UInt8.ofNat k1]) (ys := y.take 300) (n := nb + 5) (m := k1) (base := 0) rfl rfl app_u8 rfl HT9.out growok_not HSY3.out rfl ?_ ?_ ?_)
      · have := HXL.out; have := HLT.out; omega
      · exact Nat.zero_le _
      intro va4 w4 hown4 hgr4 hblk4
      have hg4 : Goes w3 colx3 (hue0 w3.heap.size colx3 8 va4) := goes_hue0 HALL3.out.2 hblk4
      have hF4 : Fr (fun b => colx3 b = 8) w3 w4 := Fr.of_grow hgr4 HALL3.out.2
      have HALL4 := Lib.hid (show RowC Rd.u8 5 8 w4 (hue0 w3.heap.size colx3 8 va4) va4 ((dataRecs (UInt8.ofNat (V / 256)) (UInt8.ofNat V) xs) ++ 23 :: UInt8.ofNat (V / 256) :: UInt8.ofNat V :: UInt8.ofNat (k1 / 256) :: UInt8.ofNat k1 :: y.take 300) from RowC.grown hown4 (by rw [List.length_append, HNB.out]; simp only [List.length_cons, HYL.out]; omega) hblk4)
      have HOWN4 : Hid (RowC (Rd.slice Rd.u8) 22 7 w4 (hue0 w3.heap.size colx3 8 va4) (.slice Ao2 (xs.length + 1) co2) (xs ++ [y.take 300])) := Lib.hid ((HOWN3.out.goes hg4).fr hF4 (fun b hb e => by rw [hg4 b hb]; omega))
      have HOLD4 : Hid (∀ b, b < w1.heap.size → hue0 w3.heap.size colx3 8 va4 b = oldc w b) := Lib.hid fun b hb => (hg4 b (by omega)).trans (HOLD3.out b hb)
      have HEXT4 : Hid (Ext w1 w4) := Lib.hid (Fr.trans' HEXT3.out hF4 (fun b hb e => by have := HOLD3.out b hb; have := oldc_ne w b; omega))
      generalize hue0 w3.heap.size colx3 8 _ = colx4 at *
      obtain ⟨Aa4, ca4, rfl⟩ : ∃ Aa4 ca4, va4 = .slice Aa4 (nb + 5 + k1) ca4 := by
        obtain ⟨A', c', h'⟩ := HALL4.out.isSl
        rw [List.length_append, HNB.out] at h'
        simp only [List.length_cons, HYL.out] at h'
        rw [show nb + (k1 + 1 + 1 + 1 + 1 + 1) = nb + 5 + k1 from by omega] at h'
        exact ⟨A', c', h'⟩
      clear hown4 hgr4 hblk4 hg4 hF4 HSY3 HT9 HS3 HALL3 HOWN3 HOLD3 HEXT3
      go_wp2
      all_goals
        go_roundg (m - (j + 1))
        case measure => (have := HK.out; have := HLT.out; omega)
        case rel =>
          have hrec : ((dataRecs (UInt8.ofNat (V / 256)) (UInt8.ofNat V) xs) ++ 23 :: UInt8.ofNat (V / 256) :: UInt8.ofNat V :: UInt8.ofNat (k1 / 256) :: UInt8.ofNat k1 :: y.take 300) = dataRecs (UInt8.ofNat (V / 256)) (UInt8.ofNat V) (xs ++ [y.take 300]) := by
            rw [dataRecs_snoc]
            unfold dataRec
            rw [HYL.out]
          have hA4 := HALL4.out
          rw [hrec] at hA4
          refine ⟨j + 1, colx4, xs ++ [y.take 300], by simp, HLT.out, rfl, ?_, ⟨hA4, by simpa using HOWN4.out, HOLD4.out, HEXT4.out⟩⟩
          rw [HXS.out]
          have hjl : j < (L.map (·.take 300)).length := by rw [List.length_map, HML.out]; exact HLT.out
          rw [List.take_succ_eq_append_getElem hjl]
          congr 2
          have := HY.out
          rw [List.getElem_map]
          rw [List.getElem?_eq_getElem (by rw [HML.out]; exact HLT.out)] at this
          injection this with this
          rw [this]
    · have d2 : decide ((j : Int) < (m : Int)) = false := by simp; omega
      obtain rfl : j = m := by have := HJ.out; omega
      have hxs : xs = L.map (·.take 300) := by rw [HXS.out]; exact List.take_of_length_le (by rw [List.length_map, HML.out]; exact Nat.le_refl _)
      have h0c : ∀ b, colx b = 0 ∨ w1.heap.size ≤ b → col0 b = 0 := fun b hb => by
        by_cases h1 : b < w1.heap.size
        · rcases hb with hb | hb
          · have := HB.out.old b h1
            by_cases h2 : b < w.heap.size
            · exact HC0.out b (Nat.lt_of_lt_of_le h2 HX0.out.size)
            · rw [oldc_ge (by omega)] at this
              omega
          · omega
        · exact HCN.out b (by omega)
      have hnew : ∀ b, colx b = 7 ∨ colx b = 8 → w1.heap.size ≤ b := fun b hb => by
        rcases Nat.lt_or_ge b w1.heap.size with h1 | h1
        · have := HB.out.old b h1
          have := oldc_ne w b
          omega
        · exact h1
      have HSO : Hid (SlC (Rd.slice Rd.u8) wr (fun b => b < wr.heap.size ∧ col0 b = 0) Ao j co xs) := Lib.hid (by
        obtain ⟨A', c', e1, hs⟩ := HB.out.own.1.slB
        rw [HXL.out] at e1 hs
        injection e1 with e1 _ e2
        subst e1 e2
        exact hs.mono fun b hb hh => ⟨hb, h0c b (by
          rcases hh with hh | hh
          · exact .inr (hnew b (.inl (HB.out.own.2 b (by rw [HXL.out]; exact hh))))
          · exact .inl hh)⟩)
      have HSA : Hid (SlC Rd.u8 wr (fun b => b < wr.heap.size ∧ col0 b = 0) Aa nb ca (dataRecs (UInt8.ofNat (V / 256)) (UInt8.ofNat V) xs)) := Lib.hid (by
        obtain ⟨A', c', e1, hs⟩ := HB.out.all.1.slB
        rw [HNB.out] at e1 hs
        injection e1 with e1 _ e2
        subst e1 e2
        exact hs.mono fun b hb hh => ⟨hb, h0c b (by
          rcases hh with hh | hh
          · exact .inr (hnew b (.inr (HB.out.all.2 b (by rw [HNB.out]; exact hh))))
          · exact .inl hh)⟩)
      have HEX := Lib.hid HB.out.ext
      have HIR := Lib.hid (HI1.out.ext HB.out.ext)
      have HRUN := Lib.hid (run_all_data (UInt8.ofNat (V / 256)) (UInt8.ofNat V) xs HX300.out (by have := HXL.out; omega))
      rw [HXL.out]
      clear hxs h0c hnew hlt HB
      generalize dataRecs (UInt8.ofNat (V / 256)) (UInt8.ofNat V) xs = bs at *
      obtain ⟨w3, hw3⟩ : ∃ w3, w3 = wr := ⟨_, rfl⟩
      subst hw3
      go_wp2
      go_loopg [9, 13] nb (fun mm v nv wq => ∃ (r : Bytes) (str : St) (colr : Nat → Nat) (A' : Option Addr) (c' Tn : Nat) (y : St), v = .slice A' r.length c' ∧ nv = .int .i64 (Tn : Nat) ∧ mm = r.length ∧ SlC Rd.u8 wq (fun b => b < w3.heap.size ∧ col0 b = 0) A' r.length c' r ∧ Goes w3 col0 colr ∧ IsSt wq colr s h t str ∧ str.events = [] ∧ str.closed = false ∧
        (str.err = 0 → ∀ b, b < wq.heap.size → colr b ≠ 7) ∧ Fr (Hot col0) w3 wq ∧ str.run r = some y ∧ y.Ready ∧ y.left = 0 ∧ y.came = nb ∧ y.steps = nb ∧ y.events = ((xs.drop Tn).map fun b => (23, b)) ∧ Tn ≤ j)
      case atStart =>
        obtain ⟨y, y1, y2, y3, y4, y5, y6⟩ := HRUN.out
        refine ⟨bs, St.new 4, col0, Aa, ca, 0, y, by rw [HNB.out], rfl, HNB.out.symm, by rw [HNB.out]; exact HSA.out, fun _ _ => rfl, HIR.out, rfl, rfl, fun _ b _ e => by have := HC4.out b; omega, Fr.refl _ _, y1, y2, y3, y4.trans HNB.out, y5.trans HNB.out, y6, Nat.zero_le _⟩
      case round =>
        obtain ⟨r, str, colr, A', c', Tn, y, rfl, rfl, hm2, hs, hg, hI, hev, hcl, h7, hf, hrun, y1, y2, y3, y4, y5, y6⟩ := hrel
        by_cases hr0 : r = []
        · subst hr0
          simp only [St.run] at hrun
          injection hrun with hrun
          subst hrun
          have hTj : Tn = j := by
            rw [hev] at y5
            have := congrArg List.length y5
            rw [List.length_map, List.length_drop, HXL.out] at this
            simp at this
            omega
          have HCLS := Lib.hid (stream_Close_ok hI y1.err hcl y2 y1.head y1.data)
          have HF := Lib.hid hf
          have HG := Lib.hid hg
          have hsc : ((str.steps : Nat) : Int) = ((str.came : Nat) : Int) := by rw [y3, y4]
          clear hI hcl y1 y2 y3 y4 y5 y6 hev h7 hf hs hg hm2
          subst hTj
          go_wp2_with (first | ((go_at_call 16; refine (HCLS.out).mono ?_; rintro e w5 ⟨rfl, hI5, hf5⟩)))
          have HAT := Lib.hid (stream_At hI5)
          have HST := Lib.hid (stream_Steps hI5)
          have HF5 := Lib.hid hf5
          clear hI5 hf5
          go_wp2_with (first | ((go_at_call 15; refine (HAT.out).mono ?_; rintro e w9 ⟨rfl, rfl⟩)) | ((go_at_call 17; refine (HST.out).mono ?_; rintro e w9 ⟨rfl, rfl⟩)))
          refine bodyPost_ret (v := .bool true) (by simp only [results, Tryz.results5]; go_simp) rfl ?_
          refine ⟨rfl, Fr.trans HX0.out (Fr.trans' (Fr.trans HX1.out HEX.out) (Fr.trans' HF.out HF5.out (fun b hb e => by unfold Hot at *; rw [HG.out b hb] at e; exact e)) (fun b hb e => e (HC0.out b hb)))⟩
        · have hr1 : 1 ≤ r.length := by
            cases r with
            | nil => exact absurd rfl hr0
            | cons x r => simp
          have d0 : decide ((0 : Int) < (r.length : Int)) = true := by simp; omega
          obtain ⟨jn, hjn⟩ : ∃ jn, min r.length (1 + P) = jn := ⟨_, rfl⟩
          have hj1 : 1 ≤ jn := by omega
          have hj2 : jn ≤ r.length := by omega
          have hmin : min (r.length : Int) (1 + (P : Int)) = (jn : Int) := by omega
          have hw1 : IntKind.i64.wrap (1 + (P : Int)) = 1 + (P : Int) := IntWalk.i64_in _ (by omega)
          have hle := hs.le
          have hmx := hs.max
          rw [← List.take_append_drop jn r] at hrun
          obtain ⟨st1, z, g1, g2, rfl⟩ := run_piece hrun
          have hlen : (r.take jn).length = jn := by rw [List.length_take]; omega
          have hz0 : st1.err = 0 := run_ok (st := st1.clear) g2 y1.err
          have hF := feed_any hI hev hcl h7 g1 hlen (hs.take jn c' hj2 (by omega) (Nat.le_refl _)) (fun x hx => ⟨Nat.lt_of_lt_of_le hx.1 hf.size, (hg x hx.1).trans hx.2⟩)
          rw [hz0] at hF
          have HF := Lib.hid hF
          have hevs : st1.events ++ z.events = (xs.drop Tn).map fun b => (23, b) := y5
          obtain ⟨g, hgl⟩ : ∃ g, st1.events.length = g := ⟨_, rfl⟩
          have hgj : Tn + g ≤ j := by
            have := congrArg List.length hevs
            rw [List.length_append, List.length_map, List.length_drop, HXL.out] at this
            omega
          have hget : ∀ i, i < g → st1.events[i]? = (xs[Tn + i]?).map fun b => (23, b) := fun i hi => by
            have : (st1.events ++ z.events)[i]? = st1.events[i]? := List.getElem?_append_left (by omega)
            rw [← this, hevs, List.getElem?_map, List.getElem?_drop]
          have hrest : z.events = (xs.drop (Tn + g)).map fun b => (23, b) := by
            have := congrArg (List.drop g) hevs
            rw [← hgl, List.drop_left, hgl, ← List.map_drop, List.drop_drop] at this
            rw [this]
          rw [hgl] at HF
          have HS := Lib.hid hs
          have HG := Lib.hid hg
          have HFR := Lib.hid hf
          have HCL := Lib.hid ((run_closed g1).trans hcl)
          have HG2 := Lib.hid g2
          have HY : Hid (z.Ready ∧ z.left = 0 ∧ z.came = nb ∧ z.steps = nb ∧ z.events = ((xs.drop (Tn + g)).map fun b => (23, b))) := Lib.hid ⟨⟨y1.next, y1.head, y1.body, y1.err, y1.data⟩, y2, y3, y4, hrest⟩
          have HM2 := Lib.hid hm2
          have HJN := Lib.hid hjn
          have HGET := Lib.hid hget
          have HGL := Lib.hid hgl
          have HT := Lib.hid y6
          clear hjn hI hev hcl h7 hf hs hg hm2 hrun g1 g2 y1 y2 y3 y4 y5 y6 hr0 hlen hF hz0 hevs hget hrest hgl
          go_wp2_with (first | ((go_at_call 14; refine (HF.out).mono ?_; rintro e w4 ⟨col4, A4, c4, hg4, h74, rfl, hs4, hI4, hf4⟩)))
          have HE4 := Lib.hid hs4
          have HI4 := Lib.hid hI4
          have HF4 := Lib.hid hf4
          have HG4 := Lib.hid hg4
          have H74 := Lib.hid h74
          have hez : ∀ b, b < w3.heap.size ∧ col0 b = 0 → b < w4.heap.size := fun b hb => Nat.lt_of_lt_of_le (Nat.lt_of_lt_of_le hb.1 HFR.out.size) hf4.size
          have HO4 : Hid (SlC (Rd.slice Rd.u8) w4 (fun b => b < w3.heap.size ∧ col0 b = 0) Ao j co xs) := Lib.hid ((HSO.out.fr HFR.out (fun b hb e => e hb.2)).fr hf4 (fun b hb e => e ((HG.out b hb.1).trans hb.2)))
          clear hs4 hI4 hf4 hg4 h74 hez
          go_loopg [13, 96] g (fun mm nv i wq2 => ∃ i0 : Nat, i = .int .i64 (i0 : Nat) ∧ i0 ≤ g ∧ mm = g - i0 ∧ nv = .int .i64 ((Tn + i0 : Nat) : Int) ∧ Ext w4 wq2)
          case atStart => exact ⟨0, rfl, Nat.zero_le _, rfl, rfl, Fr.refl _ _⟩
          case round =>
            obtain ⟨i0, rfl, hi0, hmi, rfl, hxq⟩ := hrel
            by_cases hlt : i0 < g
            · have d3 : decide ((i0 : Int) < (g : Int)) = true := by simp; omega
              have HLT := Lib.hid hlt
              have HXQ := Lib.hid hxq
              have HMI := Lib.hid hmi
              have hxj : Tn + i0 < xs.length := by rw [HXL.out]; omega
              have hxg : xs[Tn + i0]? = some xs[Tn + i0] := List.getElem?_eq_getElem hxj
              have hgi : st1.events[i0]? = some (23, xs[Tn + i0]) := by rw [HGET.out i0 hlt, hxg]; rfl
              generalize xs[Tn + i0] = xb at *
              have HGI := Lib.hid hgi
              have HXG := Lib.hid hxg
              clear hlt hxq hmi hgi hxg hxj
              go_wp2_with (refine wpList_idx (HE4.out.ext HXQ.out) rfl _ _ _ rfl _ _ Tryz.underlying41 (size_event _) rfl rfl ?_ ?_ ?_)
              · omega
              · have := HLT.out; omega
              intro bf off cs ek ed hkb hkc hget he hcell
              obtain ⟨A5, n5, c5, rfl, hs5⟩ := he
              have e1 := HGI.out.symm.trans hget
              injection e1 with e1
              injection e1 with e1 e2
              subst e1 e2
              have hd0 : wr.cell? ⟨bf, off, none⟩ = some (.int .i64 23) := hcell 0 _ rfl
              have hd1 : wr.cell? ⟨bf, off + 1, none⟩ = some (.slice A5 n5 c5) := hcell 1 _ rfl
              have hbw : bf < wr.heap.size := Nat.lt_of_lt_of_le hkb HXQ.out.size
              obtain ⟨q0, hq0⟩ : ∃ q0, Tn + i0 = q0 := ⟨_, rfl⟩
              obtain ⟨cs6, ⟨ob, oo, arr, TT, fr, hAo, hob, hhb, hcc⟩, A6, n6, c6, rfl, hs6⟩ := (HO4.out.ext HXQ.out).get HXG.out
              have ho0 : wr.cell? ⟨ob, oo + q0, none⟩ = some (.slice A6 n6 c6) := by
                have := hcc 0 _ rfl
                rw [hq0, show q0 * (Rd.slice Rd.u8).sz = q0 from Nat.mul_one q0, Nat.add_zero] at this
                simp [World.cell?, hhb, this]
              have hobw : ob < wr.heap.size := blk_lt hhb
              have hq0j : q0 < j := by have := HLT.out; omega
              have d4 : decide ((j : Int) ≤ (q0 : Int)) = false := by simp; omega
              have hwq : IntKind.i64.wrap ((q0 : Int) + 1) = (q0 : Int) + 1 := IntWalk.i64_in _ (by omega)
              have hwi : IntKind.i64.wrap ((i0 : Int) + 1) = (i0 : Int) + 1 := IntWalk.i64_in _ (by omega)
              have HS5 := Lib.hid hs5
              have HS6 := Lib.hid hs6
              have HQ0 := Lib.hid hq0
              have hqi : (Tn : Int) + (i0 : Int) = (q0 : Int) := by omega
              clear hs5 hs6 hcell hget hcc hhb hkc hob hq0
              subst hAo
              go_wp2
              refine wp_region_quietX (by kernel_rfl) (by kernel_rfl) ?_
              (repeat (first | (apply wpQuiet_op (hg := rfl); (focus (intro w' hw'; have hcx := Ext.cells hw'; have hzx := Fr.size hw'; go_simp; first | done | rfl | exact ⟨rfl, rfl⟩)); (intro K hK; go_simp; refine hK _ ?_; clear hK K)) | (refine wpQuiet_opW ?_ ?_ ?_ ?_; rotate_left; (focus (first | rfl | (go_simp; done))); (focus (intro w' hw'; have hcx := Ext.cells hw'; have hzx := Fr.size hw'; go_simp; first | done | rfl | exact ⟨rfl, rfl⟩)); (intro K hK; go_simp; refine hK _ ?_; clear hK K)) | (refine wpQuiet_no ?_ (fun K hK => ?_); (focus (first | rfl | (go_simp; done))); go_simp; refine hK _ ?_; clear hK K)))
              ((first | refine wpQuiet_op (.string ⟨xb.toArray⟩) rfl (fun w' hw' => ?_) (fun K hK => ?_) | (refine wpQuiet_opW (.string ⟨xb.toArray⟩) ?_ (fun w' hw' => ?_) (fun K hK => ?_); (focus (first | rfl | (go_simp; done))))); rotate_left; (go_simp; refine hK _ ?_; clear hK K); rotate_left; (have hcx := Ext.cells hw'; have hzx := Fr.size hw'; go_simp))
              · rw [str_of ((HS5.out.ext ((Fr.refl _ wr).alloc _)).ext hw')]
                exact ⟨rfl, rfl⟩
              (repeat (first | (apply wpQuiet_op (hg := rfl); (focus (intro w' hw'; have hcx := Ext.cells hw'; have hzx := Fr.size hw'; go_simp; first | done | rfl | exact ⟨rfl, rfl⟩)); (intro K hK; go_simp; refine hK _ ?_; clear hK K)) | (refine wpQuiet_opW ?_ ?_ ?_ ?_; rotate_left; (focus (first | rfl | (go_simp; done))); (focus (intro w' hw'; have hcx := Ext.cells hw'; have hzx := Fr.size hw'; go_simp; first | done | rfl | exact ⟨rfl, rfl⟩)); (intro K hK; go_simp; refine hK _ ?_; clear hK K)) | (refine wpQuiet_no ?_ (fun K hK => ?_); (focus (first | rfl | (go_simp; done))); go_simp; refine hK _ ?_; clear hK K)))
              ((first | refine wpQuiet_op (.string ⟨xb.toArray⟩) rfl (fun w' hw' => ?_) (fun K hK => ?_) | (refine wpQuiet_opW (.string ⟨xb.toArray⟩) ?_ (fun w' hw' => ?_) (fun K hK => ?_); (focus (first | rfl | (go_simp; done))))); rotate_left; (go_simp; refine hK _ ?_; clear hK K); rotate_left; (have hcx := Ext.cells hw'; have hzx := Fr.size hw'; go_simp))
              · rw [str_of ((HS6.out.ext ((Fr.refl _ wr).alloc _)).ext hw')]
                exact ⟨rfl, rfl⟩
              (repeat (first | (apply wpQuiet_op (hg := rfl); (focus (intro w' hw'; have hcx := Ext.cells hw'; have hzx := Fr.size hw'; go_simp; first | done | rfl | exact ⟨rfl, rfl⟩)); (intro K hK; go_simp; refine hK _ ?_; clear hK K)) | (refine wpQuiet_opW ?_ ?_ ?_ ?_; rotate_left; (focus (first | rfl | (go_simp; done))); (focus (intro w' hw'; have hcx := Ext.cells hw'; have hzx := Fr.size hw'; go_simp; first | done | rfl | exact ⟨rfl, rfl⟩)); (intro K hK; go_simp; refine hK _ ?_; clear hK K)) | (refine wpQuiet_no ?_ (fun K hK => ?_); (focus (first | rfl | (go_simp; done))); go_simp; refine hK _ ?_; clear hK K)))
              (refine wpQuiet_nil ?_; intro w' hw'; have hcx := Ext.cells hw'; have hfx := Ext.frozens hw'; have hzx := Fr.size hw'; try simp [go_sem] at hzx; try (have hzl := Nat.lt_of_succ_le hzx; try (have hzm := Nat.lt_of_succ_lt hzl)))
              go_wp2
              all_goals
                go_roundg (g - (i0 + 1))
                case measure => (have := HMI.out; have := HLT.out; omega)
                case rel =>
                  exact ⟨i0 + 1, by simp, HLT.out, rfl, (by rw [← Nat.add_assoc, HQ0.out]; simp), Fr.trans HXQ.out (Fr.trans ((Fr.refl _ _).alloc _) hw')⟩
            · have d3 : decide ((i0 : Int) < (g : Int)) = false := by simp; omega
              obtain rfl : i0 = g := by omega
              have HXQ := Lib.hid hxq
              clear hxq hmi hlt
              go_wp2
              all_goals
                go_roundg (r.length - jn)
                case measure => (have := HM2.out; omega)
                case rel =>
                  have hd := HS.out.drop jn hj2
                  have hg3 : Goes w3 col0 (clip w4 col4) := fun b hb => by
                    have z4 : b < w4.heap.size := Nat.lt_of_lt_of_le (Nat.lt_of_lt_of_le hb HFR.out.size) HF4.out.size
                    rw [clip_goes w4 col4 b z4, HG4.out b (Nat.lt_of_lt_of_le hb HFR.out.size), HG.out b hb]
                  refine ⟨r.drop jn, st1.clear, clip w4 col4, _, _, Tn + i0, z, ?_, (by simp), by rw [List.length_drop], (by rw [List.length_drop]; exact (hd.fr HF4.out (fun b hb e => e ((HG.out b hb.1).trans hb.2))).ext HXQ.out), hg3, (HI4.out.goes (clip_goes w4 col4)).ext HXQ.out, rfl, HCL.out, fun he b _ e => ?_, Fr.trans (Fr.trans' HFR.out HF4.out (fun b hb e => by unfold Hot at *; rw [HG.out b hb] at e; exact e)) (Ext.any HXQ.out), HG2.out, HY.out.1, HY.out.2.1, HY.out.2.2.1, HY.out.2.2.2.1, HY.out.2.2.2.2, hgj⟩
                  · rw [List.length_drop]
                    simp [*, Rd.u8, Rd.scalar]
                  · unfold clip at e
                    split at e
                    · rename_i hb
                      exact H74.out he b hb e
                    · cases e
theorem law_data (A : Option Addr) (m c : Nat) (L : List Bytes) (v q : Int) (w : World) (hwv : (Lit.int .u16 v).wf = true) (hL : SlC (Rd.slice Rd.u8) w Any A m c L) (hla : Laid w) (hll : LaidLim w) : Calls Tryz.prog 5 #[.slice A m c, .int .u16 v, .int .i64 q] w fun e w' => e = .returned (.bool true) ∧ Ext w w' := by
  simp only [Lit.wf, Bool.and_eq_true, decide_eq_true_eq] at hwv
  obtain ⟨h1, h2⟩ := hwv
  have h1 : 0 ≤ v := h1
  have h2 : v ≤ 65535 := h2
  by_cases hm : m ≤ 60
  · exact data_walk A m c L v q v.toNat (max (0 : Int) q % 50).toNat (by omega) (by omega) (by omega) (by omega) hm w hL hla hll
  · exact data_big A m c v q (by omega) w hla hll
end Go.Proofs.YtalbiepdkaldmaaGreatDoor
namespace Go.Proofs.YtalbiepdkaldmaaGreatDoor
open Go.RowKit Go.ChangeShapes Go.WideShapes
section
variable {H : Type} {enc : TypeId × Value → H} {P : Program} {w : World} {sp : Nat → Bool} {held : Bool}
theorem cells_get {a : Addr} {k : Nat} {cs : List Value} (h : w.cells? 0 a k = some cs) : cs.length = k ∧ ∀ (i : Nat) (u : Value), cs[i]? = some u → w.cell? (a.add i) = some u := by
  unfold World.cells? at h
  split at h
  · have key : ∀ (l : List Nat) (cs : List Value), (l.mapM fun i => w.cell? (a.add i)) = some cs → cs.length = l.length ∧ ∀ (i : Nat) (u : Value), cs[i]? = some u → ∃ j : Nat, l[i]? = some j ∧ w.cell? (a.add j) = some u := by
      intro l
      induction l with
      | nil =>
        intro cs h
        simp at h
        subst h
        exact ⟨rfl, fun i u hu => by simp at hu⟩
      | cons x l ih =>
        intro cs h
        simp only [List.mapM_cons, Option.bind_eq_bind, Option.bind_eq_some_iff, Option.pure_def, Option.some.injEq] at h
        obtain ⟨v, hv, cs', hcs, rfl⟩ := h
        obtain ⟨h1, h2⟩ := ih cs' hcs
        refine ⟨by simp [h1], fun i u hu => ?_⟩
        cases i with
        | zero => simp at hu; subst hu; exact ⟨x, rfl, hv⟩
        | succ i => simp at hu; obtain ⟨j, hj, hc⟩ := h2 i u hu; exact ⟨j, by simpa using hj, hc⟩
    obtain ⟨h1, h2⟩ := key _ _ h
    refine ⟨by simpa using h1, fun i u hu => ?_⟩
    obtain ⟨j, hj, hc⟩ := h2 i u hu
    have : j = i := by
      have hlt := (List.getElem?_eq_some_iff.1 hj).1
      rw [List.getElem?_range (by simpa using hlt)] at hj
      simpa using hj.symm
    rw [← this]
    exact hc
  · cases h
/-- A slice that is read as data, its elements read by d. -/
theorem slc_of_trod {α : Type} {d : Rd α} {t e fuel : Nat} {A : Option Addr} {n c : Nat} {x : DataW H × List MemPlace} (hsz : 0 < d.sz) (ht : P.underlying t = some (.slice e)) (hce : P.cellsOf e = d.sz)
    (hel : ∀ (m : Nat) (cs : List Value) (y : DataW H × List MemPlace), DataW.trod enc P w 0 sp held m e cs = some y → ∃ z, d.K w Any z cs) (h : DataW.trod enc P w 0 sp held fuel t [.slice A n c] = some x) : ∃ ys, SlC d w Any A n c ys := by
  rcases DataW.trod_slice ht h with ⟨hcs, _⟩ | ⟨a, len, cap, elems, rest, m, _, hcs, _, _, hl, hm, hlen, hE, _⟩
  · injection hcs with h1 _
    injection h1 with h1 h2 h3
    subst h1 h2 h3
    exact ⟨[], SlC.nil _ _ _ _ _ (Nat.zero_le _) (fun _ => rfl)⟩
  · injection hcs with h1 _
    injection h1 with h1 h2 h3
    subst h1 h2 h3
    have hK : ∀ i, i < n → ∃ z cs, w.cells? 0 (a.add (i * d.sz)) d.sz = some cs ∧ d.K w Any z cs := fun i hi => by
      have := hE i hi
      rw [hce] at this
      cases hy : elems[i]? with
      | none => have := List.getElem?_eq_none_iff.1 hy; omega
      | some y =>
        rw [hy] at this
        simp only [Option.bind_eq_some_iff] at this
        obtain ⟨cs, h1, h2⟩ := this
        obtain ⟨z, hz⟩ := hel m cs y h2
        exact ⟨z, cs, h1, hz⟩
    have hlist : ∀ k, k ≤ n → ∃ ys : List α, ys.length = k ∧ ∀ j z, ys[j]? = some z → ∃ cs, w.cells? 0 (a.add (j * d.sz)) d.sz = some cs ∧ d.K w Any z cs := by
      intro k
      induction k with
      | zero => exact fun _ => ⟨[], rfl, fun j z hz => by simp at hz⟩
      | succ k ih =>
        intro hk
        obtain ⟨ys, h1, h2⟩ := ih (by omega)
        obtain ⟨z, cs, h3, h4⟩ := hK k (by omega)
        refine ⟨ys ++ [z], by simp [h1], fun j z' hz' => ?_⟩
        rw [List.getElem?_append] at hz'
        split at hz'
        · exact h2 j z' hz'
        · have : j = k := by
            have := (List.getElem?_eq_some_iff.1 hz').1
            simp at this
            omega
          subst this
          rw [h1, Nat.sub_self] at hz'
          simp at hz'
          subst hz'
          exact ⟨cs, h3, h4⟩
    obtain ⟨ys, h1, h2⟩ := hlist n (Nat.le_refl _)
    refine ⟨ys, h1, hl, hm, fun e => (by cases e), fun j z hz => ?_⟩
    obtain ⟨cs, h3, h4⟩ := h2 j z hz
    obtain ⟨h5, h6⟩ := cells_get h3
    refine ⟨cs, ?_, h4⟩
    have hc0 : ∃ u, cs[0]? = some u := ⟨cs[0]'(by omega), List.getElem?_eq_getElem (by omega)⟩
    obtain ⟨u0, hu0⟩ := hc0
    have hspot : a.spot = none := by
      have hj : j < ys.length := (List.getElem?_eq_some_iff.1 hz).1
      obtain ⟨_, cs', g3, g4⟩ := hK 0 (by omega)
      obtain ⟨g5, g6⟩ := cells_get g3
      have := World.cell?_spot (g6 0 (cs'[0]'(by omega)) (List.getElem?_eq_getElem (by omega)))
      simpa [Addr.add] using this
    obtain ⟨b, o, spot⟩ := a
    simp only at hspot
    subst hspot
    have hcell : ∀ i u, cs[i]? = some u → w.cell? ⟨b, o + j * d.sz + i, none⟩ = some u := fun i u hu => by
      have := h6 i u hu
      rw [addr_add, addr_add] at this
      exact this
    have hb : ∃ arr T fr, w.heap[b]? = some (.cells arr T fr) := by
      have := hcell 0 u0 hu0
      unfold World.cell? at this
      cases hh : w.heap[b]? with
      | none => simp [hh] at this
      | some ob =>
        cases ob with
        | cells arr T fr => exact ⟨arr, T, fr, rfl⟩
        | _ => simp [hh] at this
    obtain ⟨arr, T, fr, hh⟩ := hb
    refine ⟨b, o, arr, T, fr, rfl, trivial, hh, fun i u hu => ?_⟩
    have := hcell i u hu
    simpa [World.cell?, hh] using this
end
section
variable {H : Type} {enc : TypeId × Value → H} {w : World} {sp : Nat → Bool} {held : Bool}
theorem u8_of_trod (m : Nat) (cs : List Value) (y : DataW H × List MemPlace) (h : DataW.trod enc Tryz.prog w 0 sp held m 5 cs = some y) : ∃ z, Rd.u8.K w Any z cs := by
  obtain ⟨n, rfl, _, hw⟩ := DataW.trod_int Tryz.underlying5 h
  refine ⟨UInt8.ofNat n.toNat, ?_⟩
  simp only [Lit.wf, Bool.and_eq_true, decide_eq_true_eq] at hw
  obtain ⟨h1, h2⟩ := hw
  have h1 : 0 ≤ n := h1
  have h2 : n ≤ 255 := h2
  show [Value.int .u8 n] = [Value.int .u8 ((UInt8.ofNat n.toNat).toNat : Int)]
  rw [UInt8.toNat_ofNat', Nat.mod_eq_of_lt (by omega), Int.toNat_of_nonneg h1]
theorem cells_u8 : Tryz.prog.cellsOf 5 = 1 := by kernel_rfl
theorem cells_bytes : Tryz.prog.cellsOf 22 = 1 := by kernel_rfl
theorem bytes_of_trod (m : Nat) (cs : List Value) (y : DataW H × List MemPlace) (h : DataW.trod enc Tryz.prog w 0 sp held m 22 cs = some y) : ∃ z, (Rd.slice Rd.u8).K w Any z cs := by
  have hc : ∃ A n c, cs = [.slice A n c] := by
    rcases DataW.trod_slice Tryz.underlying22 h with ⟨hcs, _⟩ | ⟨a, len, cap, _, _, _, _, hcs, _⟩
    · exact ⟨_, _, _, hcs⟩
    · exact ⟨_, _, _, hcs⟩
  obtain ⟨A, n, c, rfl⟩ := hc
  obtain ⟨ys, hs⟩ := slc_of_trod (d := Rd.u8) (by decide) Tryz.underlying22 cells_u8 u8_of_trod h
  exact ⟨ys, A, n, c, rfl, hs⟩
theorem open_bytes {A : Option Addr} {n c : Nat} {x : DataW H} {p : List MemPlace} (h : DataW.Trod enc Tryz.prog w 0 sp held 22 (.slice A n c) x p) : ∃ ys, SlC Rd.u8 w Any A n c ys := by
  obtain ⟨fuel, h⟩ := h
  exact slc_of_trod (d := Rd.u8) (by decide) Tryz.underlying22 cells_u8 u8_of_trod h
theorem open_rows {A : Option Addr} {n c : Nat} {x : DataW H} {p : List MemPlace} (h : DataW.Trod enc Tryz.prog w 0 sp held 46 (.slice A n c) x p) : ∃ ys, SlC (Rd.slice Rd.u8) w Any A n c ys := by
  obtain ⟨fuel, h⟩ := h
  exact slc_of_trod (d := Rd.slice Rd.u8) (by decide) Tryz.underlying46 cells_bytes bytes_of_trod h
end
end Go.Proofs.YtalbiepdkaldmaaGreatDoor
