/- StreamPlaces: a record that is none is told at its own place. -/
import Derived.Test.YtalbiepdkaldmaaGreatDoorProg
import Derived.Test.YtalbiepdkaldmaaGreatDoorLaw19
import Derived.Test.YtalbiepdkaldmaaGreatDoorRunP
import Derived.Deep.QuietTactic
import Derived.Deep.LoopGhost
set_option linter.unusedVariables false
set_option linter.unusedSimpArgs false
namespace Go.Proofs.YtalbiepdkaldmaaGreatDoor
open Go.RowKit
section
variable {w : World} {col : Nat → Nat} {s h t : Nat} {st st' : St}
/-- Feed, at any state of a stream. -/
theorem feed_any {A : Option Addr} {n c : Nat} {b : Bytes} {ok : Nat → Prop} (H : IsSt w col s h t st) (hev : st.events = []) (hcl : st.closed = false) (h7 : st.err = 0 → ∀ b, b < w.heap.size → col b ≠ 7) (hr : st.run b = some st') (hn : b.length = n) (hb : SlC Rd.u8 w ok A n c b) (hok : ∀ x, ok x → x < w.heap.size ∧ col x = 0) :
    Calls Tryz.prog 14 #[.pointer (some ⟨s, 0, none⟩), .slice A n c] w fun e w' => ∃ col' A c, Goes w col col' ∧ (st'.clear.err = 0 → ∀ b, b < w'.heap.size → col' b ≠ 7) ∧ e = .returned (.tuple #[.slice A st'.events.length c, .int .i64 st'.at_, .int .i64 st'.err]) ∧
      SlC Rd.event w' (fun b => b < w'.heap.size ∧ col' b = 0) A st'.events.length c st'.events ∧ IsSt w' col' s h t st'.clear ∧ Fr (Hot col) w w' := by
  subst hn
  by_cases he : st.err = 0
  · exact (stream_Feed H he hcl (h7 he) hr hb hok).mono fun e w' ⟨col', A, c, h1, h2, h3, h4, h5, h6⟩ => ⟨col', A, c, h1, fun _ => h2, h3, h4.ltok, h5, h6⟩
  · rw [run_err he] at hr
    injection hr with hr
    subst hr
    refine (stream_Feed_err H he).mono ?_
    rintro e w' ⟨rfl, hx⟩
    refine ⟨col, none, 0, fun _ _ => rfl, fun e => absurd e he, by rw [hev]; rfl, by rw [hev]; exact SlC.nil _ _ _ _ _ (Nat.zero_le _) (fun _ => rfl), ?_, Ext.any hx⟩
    have : st.clear = st := by unfold St.clear; rw [← hev]
    rw [this]
    exact H.ext hx
end

set_option maxRecDepth 8000 in
set_option maxHeartbeats 8000000 in
theorem places_lo (n q : Int) (kb : UInt8) (f1 : decide (20 ≤ (kb.toNat : Int)) = false) (hlim : limits (kb : UInt8).toNat = none) (K P : Nat) (hK : max (0 : Int) n % 60 = (K : Int)) (hP : max (0 : Int) q % 30 = (P : Int)) (hK60 : K < 60) (hP30 : P < 30) (w : World) (hla : Laid w) (hll : LaidLim w) : Calls Tryz.prog 4 #[.int .i64 n, .int .u8 kb.toNat, .int .i64 q] w fun e w' => e = .returned (.bool true) ∧ Ext w w' := by
  have HA := Lib.hid (law19_alive w hla hll)
  have HLA := Lib.hid hla
  have HLL := Lib.hid hll
  have HLM := Lib.hid hlim
  clear hla hll hlim
  go_enter Tryz.func4, Tryz.ntmps4
  go_wp2_with (first | ((go_at_call 12; refine (HA.out).mono ?_; rintro e w0 ⟨rfl, hx0⟩)))
  have HX0 := Lib.hid hx0
  have HN := Lib.hid (stream_New 100 w0 (by decide) (by decide) (HLL.out.ext hx0) (HLA.out.ext hx0))
  clear hx0
  go_wp2_with (first | ((go_at_call 13; refine (HN.out).mono ?_; rintro e w1 ⟨s, h, t, col, rfl, hI1, hc0, hx1, hc4⟩)))
  have HI1 := Lib.hid (hI1.goes (clip_goes w1 col))
  have HX1 := Lib.hid hx1
  have HC0 : Hid (∀ b, b < w0.heap.size → clip w1 col b = 0) := Lib.hid (fun b hb => (clip_goes w1 col b (Nat.lt_of_lt_of_le hb hx1.size)).trans (hc0 b hb))
  have HC4 : Hid (∀ b, clip w1 col b < 4) := Lib.hid (fun b => by unfold clip; split; exact hc4 b; omega)
  have HCN : Hid (∀ b, w1.heap.size ≤ b → clip w1 col b = 0) := Lib.hid (fun b hb => clip_new hb)
  generalize clip w1 col = col0 at *
  clear hI1 hc0 hx1 hc4 HA HN
  go_loopg [10, 38] K (fun m v i wr => ∃ j : Nat, i = .int .i64 (j : Nat) ∧ j ≤ K ∧ m = K - j ∧ OwnR Rd.u8 5 wr w1.heap.size NoB v (alerts j).length (alerts j) ∧ Ext w1 wr)
  case atStart => exact ⟨0, rfl, Nat.zero_le _, rfl, OwnR.nil _ _ _ _ _, Fr.refl _ _⟩
  case round =>
    obtain ⟨j, rfl, hj, hm, ho, hx⟩ := hrel
    obtain ⟨Aa, ca, rfl, hsa⟩ := ho.sl
    have hal := alerts_len j
    have HAL := Lib.hid hal
    have HO := Lib.hid ho
    have HX := Lib.hid hx
    have HJ := Lib.hid hj
    have HM := Lib.hid hm
    have hz := hx.size
    clear ho hx hsa hj hm
    by_cases hlt : j < K
    · have d : decide ((j : Int) < (K : Int)) = true := by simp; omega
      have HLT := Lib.hid hlt
      have HSY := Lib.hid (sl_bytes wr alert (by decide))
      have HOX := Lib.hid ((own_u8 (ok' := fun b => b = wr.heap.size) HO.out).ext ((Fr.refl _ wr).alloc (.cells #[.int .u8 21, .int .u8 3, .int .u8 3, .int .u8 0, .int .u8 2, .int .u8 1, .int .u8 0] 5)))
      generalize hL : (alerts j).length = L at *
      clear hlt hal
      go_wp2_with (at_builtin; refine wpList_append_rows (d := Rd.u8) (v := .slice Aa L ca) (xs := alerts j) (ys := alert) (n := L) (m := 7) (base := w1.heap.size) rfl rfl app_u8 rfl HOX.out ?_ HSY.out rfl ?_ ?_ ?_)
      · intro b hb e
        have := (HO.out.block b hb).2
        have e : b = wr.heap.size := e
        omega
      · have := HAL.out; omega
      · simp; omega
      intro v' w2 hown hgr hblk
      have hx2 : Ext w1 w2 := (HX.out.alloc _).grown hgr (fun b hb => .inl (HO.out.block b hb).1)
      have HX2 := Lib.hid hx2
      have HOW := Lib.hid hown
      clear hx2 hown hgr hblk
      go_wp2
      all_goals
        go_roundg (K - (j + 1))
        case measure => (have := HM.out; have := HLT.out; omega)
        case rel =>
          refine ⟨j + 1, by simp, HLT.out, rfl, ?_, HX2.out⟩
          have := own_u8 (ok' := NoB) HOW.out
          rw [alerts_snoc, List.length_append, hL]
          exact this
    · have d : decide ((j : Int) < (K : Int)) = false := by simp; omega
      obtain rfl : j = K := by have := HJ.out; omega
      have HSY := Lib.hid (sl_bytes wr [kb, 3, 3, 0, 0, 9, 9] (by simp))
      have HOX := Lib.hid ((own_u8 (ok' := fun b => b = wr.heap.size) HO.out).ext ((Fr.refl _ wr).alloc (.cells #[.int .u8 kb.toNat, .int .u8 3, .int .u8 3, .int .u8 0, .int .u8 0, .int .u8 9, .int .u8 9] 5)))
      generalize hL : (alerts j).length = L at *
      clear hlt hal
      go_wp2_with (at_builtin; refine wpList_append_rows (d := Rd.u8) (v := .slice Aa L ca) (xs := alerts j) (ys := [kb, 3, 3, 0, 0, 9, 9]) (n := L) (m := 7) (base := w1.heap.size) rfl rfl app_u8 rfl HOX.out ?_ HSY.out rfl ?_ ?_ ?_)
      · intro b hb e
        have := (HO.out.block b hb).2
        have e : b = wr.heap.size := e
        omega
      · have := HAL.out; omega
      · simp; omega
      intro v' w3 hown hgr hblk
      have hx3 : Ext w1 w3 := (HX.out.alloc _).grown hgr (fun b hb => .inl (HO.out.block b hb).1)
      obtain ⟨A3, c3, rfl, hs3⟩ := (own_u8 (ok' := NoB) hown).sl
      have HS3 : Hid (SlC Rd.u8 w3 (fun b => b < w3.heap.size ∧ col0 b = 0) A3 (L + 7) c3 (alerts j ++ [kb, 3, 3, 0, 0, 9, 9])) := Lib.hid (hs3.mono fun b hb hh => ⟨hb, HCN.out b (by rcases hh with hh | hh; exact hh; exact hh.elim)⟩)
      have HX3 := Lib.hid hx3
      have HI3 := Lib.hid (HI1.out.ext hx3)
      have HL7 : Hid ((alerts j ++ [kb, 3, 3, 0, 0, 9, 9]).length = L + 7) := Lib.hid (by rw [List.length_append, hL]; rfl)
      have HRUN := Lib.hid (run_places j (by omega) (kb) HLM.out)
      generalize alerts j ++ [kb, 3, 3, 0, 0, 9, 9] = bs at *
      have HL := Lib.hid hL
      clear hx3 hown hgr hblk hs3 HOX HSY HO hL
      have hLb : L ≤ 1000 := by have := HAL.out; omega
      generalize hM : L + 7 = M at *
      go_wp2
      go_loopg [10, 11, 12, 13] M (fun m v tv av fv wr => ∃ (r : Bytes) (str : St) (colr : Nat → Nat) (A' : Option Addr) (c' Tn : Nat) (y : St), v = .slice A' r.length c' ∧ tv = .int .i64 (Tn : Nat) ∧ av = .int .i64 (str.at_ : Nat) ∧ fv = .int .i64 (str.err : Nat) ∧ m = r.length ∧
        SlC Rd.u8 wr (fun b => b < w3.heap.size ∧ col0 b = 0) A' r.length c' r ∧ Goes w3 col0 colr ∧ IsSt wr colr s h t str ∧ str.events = [] ∧ str.closed = false ∧ (str.err = 0 → ∀ b, b < wr.heap.size → colr b ≠ 7) ∧ Fr (Hot col0) w3 wr ∧ str.run r = some y ∧ y.err = 18 ∧ y.at_ = 7 * j ∧ y.came = 7 * j + 5 ∧ Tn + y.events.length = j)
      case atStart =>
        obtain ⟨y, y1, y2, y3, y4, y5⟩ := HRUN.out
        refine ⟨bs, St.new 100, col0, A3, c3, 0, y, by rw [HL7.out], rfl, rfl, rfl, HL7.out.symm, by rw [HL7.out]; exact HS3.out, fun _ _ => rfl, HI3.out, rfl, rfl, fun _ b _ e => by have := HC4.out b; omega, Fr.refl _ _, y1, y2, y3, y4, by omega⟩
      case round =>
        obtain ⟨r, str, colr, A', c', Tn, y, rfl, rfl, rfl, rfl, hm, hs, hg, hI, hev, hcl, h7, hf, hrun, y2, y3, y4, y5⟩ := hrel
        by_cases hr0 : r = []
        · subst hr0
          simp only [St.run] at hrun
          injection hrun with hrun
          subst hrun
          have hT : Tn = j := by rw [hev] at y5; simpa using y5
          subst hT
          have HAt : Hid (Calls Tryz.prog 15 #[.pointer (some ⟨s, 0, none⟩)] wr fun e w' => e = .returned (.int .i64 (7 * (Tn : Int) + 5)) ∧ w' = wr) := Lib.hid (by
            have := stream_At hI
            rw [y4] at this
            simpa using this)
          have HF := Lib.hid hf
          have w7 : IntKind.i64.wrap (7 * (Tn : Int)) = 7 * (Tn : Int) := IntWalk.i64_in _ (by omega)
          have w75 : IntKind.i64.wrap (7 * (Tn : Int) + 5) = 7 * (Tn : Int) + 5 := IntWalk.i64_in _ (by omega)
          have e18 : ((str.err : Nat) : Int) = 18 := by rw [y2]; rfl
          have e7 : ((str.at_ : Nat) : Int) = 7 * (Tn : Int) := by rw [y3]; simp
          clear y2 y3 y4 y5 hI hev hcl h7 hf hs hg hm
          go_wp2_with (first | ((go_at_call 15; refine (HAt.out).mono ?_; rintro e w9 ⟨rfl, rfl⟩)))
          refine bodyPost_ret (v := .bool true) (by simp only [results, Tryz.results4]; go_simp) rfl ?_
          refine ⟨rfl, Fr.trans HX0.out (Fr.trans' (Fr.trans HX1.out HX3.out) HF.out (fun b hb e => e (HC0.out b hb)))⟩
        · have hr1 : 1 ≤ r.length := by
            cases r with
            | nil => exact absurd rfl hr0
            | cons x r => simp
          have d0 : decide ((0 : Int) < (r.length : Int)) = true := by simp; omega
          obtain ⟨jn, hjn⟩ : ∃ jn, min r.length (1 + P) = jn := ⟨_, rfl⟩
          have hj1 : 1 ≤ jn := by omega
          have hj2 : jn ≤ r.length := by omega
          have hmin : min (r.length : Int) (1 + (P : Int)) = (jn : Int) := by omega
          have hw1 : IntKind.i64.wrap (1 + (P : Int)) = 1 + (P : Int) := IntWalk.i64_in _ (by omega)
          have hle := hs.le
          have hmx := hs.max
          rw [← List.take_append_drop jn r] at hrun
          obtain ⟨st1, y1, g1, g2, rfl⟩ := run_piece hrun
          have hlen : (r.take jn).length = jn := by rw [List.length_take]; omega
          have HF := Lib.hid (feed_any hI hev hcl h7 g1 hlen (hs.take jn c' hj2 (by omega) (Nat.le_refl _)) (fun x hx => ⟨Nat.lt_of_lt_of_le hx.1 hf.size, (hg x hx.1).trans hx.2⟩))
          have hT60 : Tn + st1.events.length ≤ j := by
            simp only [St.told, List.length_append] at y5
            omega
          have hwT : IntKind.i64.wrap ((Tn : Int) + (st1.events.length : Int)) = (Tn : Int) + (st1.events.length : Int) := IntWalk.i64_in _ (by omega)
          have HS := Lib.hid hs
          have HG := Lib.hid hg
          have HFR := Lib.hid hf
          have HCL := Lib.hid ((run_closed g1).trans hcl)
          have HG2 := Lib.hid g2
          have HY : Hid (y1.err = 18 ∧ y1.at_ = 7 * j ∧ y1.came = 7 * j + 5 ∧ Tn + st1.events.length + y1.events.length = j) := Lib.hid ⟨y2, y3, y4, by simp only [St.told, List.length_append] at y5; omega⟩
          have HM2 := Lib.hid hm
          have HJN := Lib.hid hjn
          clear hjn hI hev hcl h7 hf hs hg hm hrun g1 g2 y2 y3 y4 y5 hr0 hlen
          go_wp2_with (first | ((go_at_call 14; refine (HF.out).mono ?_; rintro e w4 ⟨col4, A4, c4, hg4, h74, rfl, hs4, hI4, hf4⟩)))
          all_goals
            go_roundg (r.length - jn)
            case measure => (have := HM2.out; omega)
            case rel =>
              have hd := HS.out.drop jn hj2
              refine ⟨r.drop jn, st1.clear, col4, _, _, Tn + st1.events.length, y1, ?_, by simp, rfl, rfl, by rw [List.length_drop], (by rw [List.length_drop]; exact hd.fr hf4 (fun b hb e => e ((HG.out b hb.1).trans hb.2))), fun b hb => (hg4 b (Nat.lt_of_lt_of_le hb HFR.out.size)).trans (HG.out b hb), hI4, rfl, HCL.out, h74, Fr.trans' HFR.out hf4 (fun b hb e => by unfold Hot at *; rw [HG.out b hb] at e; exact e), HG2.out, HY.out.1, HY.out.2.1, HY.out.2.2.1, HY.out.2.2.2⟩
              rw [List.length_drop]
              simp [*, Rd.u8, Rd.scalar]

set_option maxRecDepth 8000 in
set_option maxHeartbeats 8000000 in
theorem places_hi (n q : Int) (kb : UInt8) (f1 : decide (20 ≤ (kb.toNat : Int)) = true) (f2 : decide ((kb.toNat : Int) ≤ 23) = false) (hlim : limits (kb : UInt8).toNat = none) (K P : Nat) (hK : max (0 : Int) n % 60 = (K : Int)) (hP : max (0 : Int) q % 30 = (P : Int)) (hK60 : K < 60) (hP30 : P < 30) (w : World) (hla : Laid w) (hll : LaidLim w) : Calls Tryz.prog 4 #[.int .i64 n, .int .u8 kb.toNat, .int .i64 q] w fun e w' => e = .returned (.bool true) ∧ Ext w w' := by
  have HA := Lib.hid (law19_alive w hla hll)
  have HLA := Lib.hid hla
  have HLL := Lib.hid hll
  have HLM := Lib.hid hlim
  clear hla hll hlim
  go_enter Tryz.func4, Tryz.ntmps4
  go_wp2_with (first | ((go_at_call 12; refine (HA.out).mono ?_; rintro e w0 ⟨rfl, hx0⟩)))
  have HX0 := Lib.hid hx0
  have HN := Lib.hid (stream_New 100 w0 (by decide) (by decide) (HLL.out.ext hx0) (HLA.out.ext hx0))
  clear hx0
  go_wp2_with (first | ((go_at_call 13; refine (HN.out).mono ?_; rintro e w1 ⟨s, h, t, col, rfl, hI1, hc0, hx1, hc4⟩)))
  have HI1 := Lib.hid (hI1.goes (clip_goes w1 col))
  have HX1 := Lib.hid hx1
  have HC0 : Hid (∀ b, b < w0.heap.size → clip w1 col b = 0) := Lib.hid (fun b hb => (clip_goes w1 col b (Nat.lt_of_lt_of_le hb hx1.size)).trans (hc0 b hb))
  have HC4 : Hid (∀ b, clip w1 col b < 4) := Lib.hid (fun b => by unfold clip; split; exact hc4 b; omega)
  have HCN : Hid (∀ b, w1.heap.size ≤ b → clip w1 col b = 0) := Lib.hid (fun b hb => clip_new hb)
  generalize clip w1 col = col0 at *
  clear hI1 hc0 hx1 hc4 HA HN
  go_loopg [10, 38] K (fun m v i wr => ∃ j : Nat, i = .int .i64 (j : Nat) ∧ j ≤ K ∧ m = K - j ∧ OwnR Rd.u8 5 wr w1.heap.size NoB v (alerts j).length (alerts j) ∧ Ext w1 wr)
  case atStart => exact ⟨0, rfl, Nat.zero_le _, rfl, OwnR.nil _ _ _ _ _, Fr.refl _ _⟩
  case round =>
    obtain ⟨j, rfl, hj, hm, ho, hx⟩ := hrel
    obtain ⟨Aa, ca, rfl, hsa⟩ := ho.sl
    have hal := alerts_len j
    have HAL := Lib.hid hal
    have HO := Lib.hid ho
    have HX := Lib.hid hx
    have HJ := Lib.hid hj
    have HM := Lib.hid hm
    have hz := hx.size
    clear ho hx hsa hj hm
    by_cases hlt : j < K
    · have d : decide ((j : Int) < (K : Int)) = true := by simp; omega
      have HLT := Lib.hid hlt
      have HSY := Lib.hid (sl_bytes wr alert (by decide))
      have HOX := Lib.hid ((own_u8 (ok' := fun b => b = wr.heap.size) HO.out).ext ((Fr.refl _ wr).alloc (.cells #[.int .u8 21, .int .u8 3, .int .u8 3, .int .u8 0, .int .u8 2, .int .u8 1, .int .u8 0] 5)))
      generalize hL : (alerts j).length = L at *
      clear hlt hal
      go_wp2_with (at_builtin; refine wpList_append_rows (d := Rd.u8) (v := .slice Aa L ca) (xs := alerts j) (ys := alert) (n := L) (m := 7) (base := w1.heap.size) rfl rfl app_u8 rfl HOX.out ?_ HSY.out rfl ?_ ?_ ?_)
      · intro b hb e
        have := (HO.out.block b hb).2
        have e : b = wr.heap.size := e
        omega
      · have := HAL.out; omega
      · simp; omega
      intro v' w2 hown hgr hblk
      have hx2 : Ext w1 w2 := (HX.out.alloc _).grown hgr (fun b hb => .inl (HO.out.block b hb).1)
      have HX2 := Lib.hid hx2
      have HOW := Lib.hid hown
      clear hx2 hown hgr hblk
      go_wp2
      all_goals
        go_roundg (K - (j + 1))
        case measure => (have := HM.out; have := HLT.out; omega)
        case rel =>
          refine ⟨j + 1, by simp, HLT.out, rfl, ?_, HX2.out⟩
          have := own_u8 (ok' := NoB) HOW.out
          rw [alerts_snoc, List.length_append, hL]
          exact this
    · have d : decide ((j : Int) < (K : Int)) = false := by simp; omega
      obtain rfl : j = K := by have := HJ.out; omega
      have HSY := Lib.hid (sl_bytes wr [kb, 3, 3, 0, 0, 9, 9] (by simp))
      have HOX := Lib.hid ((own_u8 (ok' := fun b => b = wr.heap.size) HO.out).ext ((Fr.refl _ wr).alloc (.cells #[.int .u8 kb.toNat, .int .u8 3, .int .u8 3, .int .u8 0, .int .u8 0, .int .u8 9, .int .u8 9] 5)))
      generalize hL : (alerts j).length = L at *
      clear hlt hal
      go_wp2_with (at_builtin; refine wpList_append_rows (d := Rd.u8) (v := .slice Aa L ca) (xs := alerts j) (ys := [kb, 3, 3, 0, 0, 9, 9]) (n := L) (m := 7) (base := w1.heap.size) rfl rfl app_u8 rfl HOX.out ?_ HSY.out rfl ?_ ?_ ?_)
      · intro b hb e
        have := (HO.out.block b hb).2
        have e : b = wr.heap.size := e
        omega
      · have := HAL.out; omega
      · simp; omega
      intro v' w3 hown hgr hblk
      have hx3 : Ext w1 w3 := (HX.out.alloc _).grown hgr (fun b hb => .inl (HO.out.block b hb).1)
      obtain ⟨A3, c3, rfl, hs3⟩ := (own_u8 (ok' := NoB) hown).sl
      have HS3 : Hid (SlC Rd.u8 w3 (fun b => b < w3.heap.size ∧ col0 b = 0) A3 (L + 7) c3 (alerts j ++ [kb, 3, 3, 0, 0, 9, 9])) := Lib.hid (hs3.mono fun b hb hh => ⟨hb, HCN.out b (by rcases hh with hh | hh; exact hh; exact hh.elim)⟩)
      have HX3 := Lib.hid hx3
      have HI3 := Lib.hid (HI1.out.ext hx3)
      have HL7 : Hid ((alerts j ++ [kb, 3, 3, 0, 0, 9, 9]).length = L + 7) := Lib.hid (by rw [List.length_append, hL]; rfl)
      have HRUN := Lib.hid (run_places j (by omega) (kb) HLM.out)
      generalize alerts j ++ [kb, 3, 3, 0, 0, 9, 9] = bs at *
      have HL := Lib.hid hL
      clear hx3 hown hgr hblk hs3 HOX HSY HO hL
      have hLb : L ≤ 1000 := by have := HAL.out; omega
      generalize hM : L + 7 = M at *
      go_wp2
      go_loopg [10, 11, 12, 13] M (fun m v tv av fv wr => ∃ (r : Bytes) (str : St) (colr : Nat → Nat) (A' : Option Addr) (c' Tn : Nat) (y : St), v = .slice A' r.length c' ∧ tv = .int .i64 (Tn : Nat) ∧ av = .int .i64 (str.at_ : Nat) ∧ fv = .int .i64 (str.err : Nat) ∧ m = r.length ∧
        SlC Rd.u8 wr (fun b => b < w3.heap.size ∧ col0 b = 0) A' r.length c' r ∧ Goes w3 col0 colr ∧ IsSt wr colr s h t str ∧ str.events = [] ∧ str.closed = false ∧ (str.err = 0 → ∀ b, b < wr.heap.size → colr b ≠ 7) ∧ Fr (Hot col0) w3 wr ∧ str.run r = some y ∧ y.err = 18 ∧ y.at_ = 7 * j ∧ y.came = 7 * j + 5 ∧ Tn + y.events.length = j)
      case atStart =>
        obtain ⟨y, y1, y2, y3, y4, y5⟩ := HRUN.out
        refine ⟨bs, St.new 100, col0, A3, c3, 0, y, by rw [HL7.out], rfl, rfl, rfl, HL7.out.symm, by rw [HL7.out]; exact HS3.out, fun _ _ => rfl, HI3.out, rfl, rfl, fun _ b _ e => by have := HC4.out b; omega, Fr.refl _ _, y1, y2, y3, y4, by omega⟩
      case round =>
        obtain ⟨r, str, colr, A', c', Tn, y, rfl, rfl, rfl, rfl, hm, hs, hg, hI, hev, hcl, h7, hf, hrun, y2, y3, y4, y5⟩ := hrel
        by_cases hr0 : r = []
        · subst hr0
          simp only [St.run] at hrun
          injection hrun with hrun
          subst hrun
          have hT : Tn = j := by rw [hev] at y5; simpa using y5
          subst hT
          have HAt : Hid (Calls Tryz.prog 15 #[.pointer (some ⟨s, 0, none⟩)] wr fun e w' => e = .returned (.int .i64 (7 * (Tn : Int) + 5)) ∧ w' = wr) := Lib.hid (by
            have := stream_At hI
            rw [y4] at this
            simpa using this)
          have HF := Lib.hid hf
          have w7 : IntKind.i64.wrap (7 * (Tn : Int)) = 7 * (Tn : Int) := IntWalk.i64_in _ (by omega)
          have w75 : IntKind.i64.wrap (7 * (Tn : Int) + 5) = 7 * (Tn : Int) + 5 := IntWalk.i64_in _ (by omega)
          have e18 : ((str.err : Nat) : Int) = 18 := by rw [y2]; rfl
          have e7 : ((str.at_ : Nat) : Int) = 7 * (Tn : Int) := by rw [y3]; simp
          clear y2 y3 y4 y5 hI hev hcl h7 hf hs hg hm
          go_wp2_with (first | ((go_at_call 15; refine (HAt.out).mono ?_; rintro e w9 ⟨rfl, rfl⟩)))
          refine bodyPost_ret (v := .bool true) (by simp only [results, Tryz.results4]; go_simp) rfl ?_
          refine ⟨rfl, Fr.trans HX0.out (Fr.trans' (Fr.trans HX1.out HX3.out) HF.out (fun b hb e => e (HC0.out b hb)))⟩
        · have hr1 : 1 ≤ r.length := by
            cases r with
            | nil => exact absurd rfl hr0
            | cons x r => simp
          have d0 : decide ((0 : Int) < (r.length : Int)) = true := by simp; omega
          obtain ⟨jn, hjn⟩ : ∃ jn, min r.length (1 + P) = jn := ⟨_, rfl⟩
          have hj1 : 1 ≤ jn := by omega
          have hj2 : jn ≤ r.length := by omega
          have hmin : min (r.length : Int) (1 + (P : Int)) = (jn : Int) := by omega
          have hw1 : IntKind.i64.wrap (1 + (P : Int)) = 1 + (P : Int) := IntWalk.i64_in _ (by omega)
          have hle := hs.le
          have hmx := hs.max
          rw [← List.take_append_drop jn r] at hrun
          obtain ⟨st1, y1, g1, g2, rfl⟩ := run_piece hrun
          have hlen : (r.take jn).length = jn := by rw [List.length_take]; omega
          have HF := Lib.hid (feed_any hI hev hcl h7 g1 hlen (hs.take jn c' hj2 (by omega) (Nat.le_refl _)) (fun x hx => ⟨Nat.lt_of_lt_of_le hx.1 hf.size, (hg x hx.1).trans hx.2⟩))
          have hT60 : Tn + st1.events.length ≤ j := by
            simp only [St.told, List.length_append] at y5
            omega
          have hwT : IntKind.i64.wrap ((Tn : Int) + (st1.events.length : Int)) = (Tn : Int) + (st1.events.length : Int) := IntWalk.i64_in _ (by omega)
          have HS := Lib.hid hs
          have HG := Lib.hid hg
          have HFR := Lib.hid hf
          have HCL := Lib.hid ((run_closed g1).trans hcl)
          have HG2 := Lib.hid g2
          have HY : Hid (y1.err = 18 ∧ y1.at_ = 7 * j ∧ y1.came = 7 * j + 5 ∧ Tn + st1.events.length + y1.events.length = j) := Lib.hid ⟨y2, y3, y4, by simp only [St.told, List.length_append] at y5; omega⟩
          have HM2 := Lib.hid hm
          have HJN := Lib.hid hjn
          clear hjn hI hev hcl h7 hf hs hg hm hrun g1 g2 y2 y3 y4 y5 hr0 hlen
          go_wp2_with (first | ((go_at_call 14; refine (HF.out).mono ?_; rintro e w4 ⟨col4, A4, c4, hg4, h74, rfl, hs4, hI4, hf4⟩)))
          all_goals
            go_roundg (r.length - jn)
            case measure => (have := HM2.out; omega)
            case rel =>
              have hd := HS.out.drop jn hj2
              refine ⟨r.drop jn, st1.clear, col4, _, _, Tn + st1.events.length, y1, ?_, by simp, rfl, rfl, by rw [List.length_drop], (by rw [List.length_drop]; exact hd.fr hf4 (fun b hb e => e ((HG.out b hb.1).trans hb.2))), fun b hb => (hg4 b (Nat.lt_of_lt_of_le hb HFR.out.size)).trans (HG.out b hb), hI4, rfl, HCL.out, h74, Fr.trans' HFR.out hf4 (fun b hb e => by unfold Hot at *; rw [HG.out b hb] at e; exact e), HG2.out, HY.out.1, HY.out.2.1, HY.out.2.2.1, HY.out.2.2.2⟩
              rw [List.length_drop]
              simp [*, Rd.u8, Rd.scalar]

set_option maxRecDepth 8000 in
set_option maxHeartbeats 8000000 in
theorem places_in (n q : Int) (kb : UInt8) (f1 : decide (20 ≤ (kb.toNat : Int)) = true) (f2 : decide ((kb.toNat : Int) ≤ 23) = true) (hlim : limits (24 : UInt8).toNat = none) (K P : Nat) (hK : max (0 : Int) n % 60 = (K : Int)) (hP : max (0 : Int) q % 30 = (P : Int)) (hK60 : K < 60) (hP30 : P < 30) (w : World) (hla : Laid w) (hll : LaidLim w) : Calls Tryz.prog 4 #[.int .i64 n, .int .u8 kb.toNat, .int .i64 q] w fun e w' => e = .returned (.bool true) ∧ Ext w w' := by
  have HA := Lib.hid (law19_alive w hla hll)
  have HLA := Lib.hid hla
  have HLL := Lib.hid hll
  have HLM := Lib.hid hlim
  clear hla hll hlim
  go_enter Tryz.func4, Tryz.ntmps4
  go_wp2_with (first | ((go_at_call 12; refine (HA.out).mono ?_; rintro e w0 ⟨rfl, hx0⟩)))
  have HX0 := Lib.hid hx0
  have HN := Lib.hid (stream_New 100 w0 (by decide) (by decide) (HLL.out.ext hx0) (HLA.out.ext hx0))
  clear hx0
  go_wp2_with (first | ((go_at_call 13; refine (HN.out).mono ?_; rintro e w1 ⟨s, h, t, col, rfl, hI1, hc0, hx1, hc4⟩)))
  have HI1 := Lib.hid (hI1.goes (clip_goes w1 col))
  have HX1 := Lib.hid hx1
  have HC0 : Hid (∀ b, b < w0.heap.size → clip w1 col b = 0) := Lib.hid (fun b hb => (clip_goes w1 col b (Nat.lt_of_lt_of_le hb hx1.size)).trans (hc0 b hb))
  have HC4 : Hid (∀ b, clip w1 col b < 4) := Lib.hid (fun b => by unfold clip; split; exact hc4 b; omega)
  have HCN : Hid (∀ b, w1.heap.size ≤ b → clip w1 col b = 0) := Lib.hid (fun b hb => clip_new hb)
  generalize clip w1 col = col0 at *
  clear hI1 hc0 hx1 hc4 HA HN
  go_loopg [10, 38] K (fun m v i wr => ∃ j : Nat, i = .int .i64 (j : Nat) ∧ j ≤ K ∧ m = K - j ∧ OwnR Rd.u8 5 wr w1.heap.size NoB v (alerts j).length (alerts j) ∧ Ext w1 wr)
  case atStart => exact ⟨0, rfl, Nat.zero_le _, rfl, OwnR.nil _ _ _ _ _, Fr.refl _ _⟩
  case round =>
    obtain ⟨j, rfl, hj, hm, ho, hx⟩ := hrel
    obtain ⟨Aa, ca, rfl, hsa⟩ := ho.sl
    have hal := alerts_len j
    have HAL := Lib.hid hal
    have HO := Lib.hid ho
    have HX := Lib.hid hx
    have HJ := Lib.hid hj
    have HM := Lib.hid hm
    have hz := hx.size
    clear ho hx hsa hj hm
    by_cases hlt : j < K
    · have d : decide ((j : Int) < (K : Int)) = true := by simp; omega
      have HLT := Lib.hid hlt
      have HSY := Lib.hid (sl_bytes wr alert (by decide))
      have HOX := Lib.hid ((own_u8 (ok' := fun b => b = wr.heap.size) HO.out).ext ((Fr.refl _ wr).alloc (.cells #[.int .u8 21, .int .u8 3, .int .u8 3, .int .u8 0, .int .u8 2, .int .u8 1, .int .u8 0] 5)))
      generalize hL : (alerts j).length = L at *
      clear hlt hal
      go_wp2_with (at_builtin; refine wpList_append_rows (d := Rd.u8) (v := .slice Aa L ca) (xs := alerts j) (ys := alert) (n := L) (m := 7) (base := w1.heap.size) rfl rfl app_u8 rfl HOX.out ?_ HSY.out rfl ?_ ?_ ?_)
      · intro b hb e
        have := (HO.out.block b hb).2
        have e : b = wr.heap.size := e
        omega
      · have := HAL.out; omega
      · simp; omega
      intro v' w2 hown hgr hblk
      have hx2 : Ext w1 w2 := (HX.out.alloc _).grown hgr (fun b hb => .inl (HO.out.block b hb).1)
      have HX2 := Lib.hid hx2
      have HOW := Lib.hid hown
      clear hx2 hown hgr hblk
      go_wp2
      all_goals
        go_roundg (K - (j + 1))
        case measure => (have := HM.out; have := HLT.out; omega)
        case rel =>
          refine ⟨j + 1, by simp, HLT.out, rfl, ?_, HX2.out⟩
          have := own_u8 (ok' := NoB) HOW.out
          rw [alerts_snoc, List.length_append, hL]
          exact this
    · have d : decide ((j : Int) < (K : Int)) = false := by simp; omega
      obtain rfl : j = K := by have := HJ.out; omega
      have HSY := Lib.hid (sl_bytes wr [24, 3, 3, 0, 0, 9, 9] (by simp))
      have HOX := Lib.hid ((own_u8 (ok' := fun b => b = wr.heap.size) HO.out).ext ((Fr.refl _ wr).alloc (.cells #[.int .u8 24, .int .u8 3, .int .u8 3, .int .u8 0, .int .u8 0, .int .u8 9, .int .u8 9] 5)))
      generalize hL : (alerts j).length = L at *
      clear hlt hal
      go_wp2_with (at_builtin; refine wpList_append_rows (d := Rd.u8) (v := .slice Aa L ca) (xs := alerts j) (ys := [24, 3, 3, 0, 0, 9, 9]) (n := L) (m := 7) (base := w1.heap.size) rfl rfl app_u8 rfl HOX.out ?_ HSY.out rfl ?_ ?_ ?_)
      · intro b hb e
        have := (HO.out.block b hb).2
        have e : b = wr.heap.size := e
        omega
      · have := HAL.out; omega
      · simp; omega
      intro v' w3 hown hgr hblk
      have hx3 : Ext w1 w3 := (HX.out.alloc _).grown hgr (fun b hb => .inl (HO.out.block b hb).1)
      obtain ⟨A3, c3, rfl, hs3⟩ := (own_u8 (ok' := NoB) hown).sl
      have HS3 : Hid (SlC Rd.u8 w3 (fun b => b < w3.heap.size ∧ col0 b = 0) A3 (L + 7) c3 (alerts j ++ [24, 3, 3, 0, 0, 9, 9])) := Lib.hid (hs3.mono fun b hb hh => ⟨hb, HCN.out b (by rcases hh with hh | hh; exact hh; exact hh.elim)⟩)
      have HX3 := Lib.hid hx3
      have HI3 := Lib.hid (HI1.out.ext hx3)
      have HL7 : Hid ((alerts j ++ [24, 3, 3, 0, 0, 9, 9]).length = L + 7) := Lib.hid (by rw [List.length_append, hL]; rfl)
      have HRUN := Lib.hid (run_places j (by omega) (24) HLM.out)
      generalize alerts j ++ [24, 3, 3, 0, 0, 9, 9] = bs at *
      have HL := Lib.hid hL
      clear hx3 hown hgr hblk hs3 HOX HSY HO hL
      have hLb : L ≤ 1000 := by have := HAL.out; omega
      generalize hM : L + 7 = M at *
      go_wp2
      go_loopg [10, 11, 12, 13] M (fun m v tv av fv wr => ∃ (r : Bytes) (str : St) (colr : Nat → Nat) (A' : Option Addr) (c' Tn : Nat) (y : St), v = .slice A' r.length c' ∧ tv = .int .i64 (Tn : Nat) ∧ av = .int .i64 (str.at_ : Nat) ∧ fv = .int .i64 (str.err : Nat) ∧ m = r.length ∧
        SlC Rd.u8 wr (fun b => b < w3.heap.size ∧ col0 b = 0) A' r.length c' r ∧ Goes w3 col0 colr ∧ IsSt wr colr s h t str ∧ str.events = [] ∧ str.closed = false ∧ (str.err = 0 → ∀ b, b < wr.heap.size → colr b ≠ 7) ∧ Fr (Hot col0) w3 wr ∧ str.run r = some y ∧ y.err = 18 ∧ y.at_ = 7 * j ∧ y.came = 7 * j + 5 ∧ Tn + y.events.length = j)
      case atStart =>
        obtain ⟨y, y1, y2, y3, y4, y5⟩ := HRUN.out
        refine ⟨bs, St.new 100, col0, A3, c3, 0, y, by rw [HL7.out], rfl, rfl, rfl, HL7.out.symm, by rw [HL7.out]; exact HS3.out, fun _ _ => rfl, HI3.out, rfl, rfl, fun _ b _ e => by have := HC4.out b; omega, Fr.refl _ _, y1, y2, y3, y4, by omega⟩
      case round =>
        obtain ⟨r, str, colr, A', c', Tn, y, rfl, rfl, rfl, rfl, hm, hs, hg, hI, hev, hcl, h7, hf, hrun, y2, y3, y4, y5⟩ := hrel
        by_cases hr0 : r = []
        · subst hr0
          simp only [St.run] at hrun
          injection hrun with hrun
          subst hrun
          have hT : Tn = j := by rw [hev] at y5; simpa using y5
          subst hT
          have HAt : Hid (Calls Tryz.prog 15 #[.pointer (some ⟨s, 0, none⟩)] wr fun e w' => e = .returned (.int .i64 (7 * (Tn : Int) + 5)) ∧ w' = wr) := Lib.hid (by
            have := stream_At hI
            rw [y4] at this
            simpa using this)
          have HF := Lib.hid hf
          have w7 : IntKind.i64.wrap (7 * (Tn : Int)) = 7 * (Tn : Int) := IntWalk.i64_in _ (by omega)
          have w75 : IntKind.i64.wrap (7 * (Tn : Int) + 5) = 7 * (Tn : Int) + 5 := IntWalk.i64_in _ (by omega)
          have e18 : ((str.err : Nat) : Int) = 18 := by rw [y2]; rfl
          have e7 : ((str.at_ : Nat) : Int) = 7 * (Tn : Int) := by rw [y3]; simp
          clear y2 y3 y4 y5 hI hev hcl h7 hf hs hg hm
          go_wp2_with (first | ((go_at_call 15; refine (HAt.out).mono ?_; rintro e w9 ⟨rfl, rfl⟩)))
          refine bodyPost_ret (v := .bool true) (by simp only [results, Tryz.results4]; go_simp) rfl ?_
          refine ⟨rfl, Fr.trans HX0.out (Fr.trans' (Fr.trans HX1.out HX3.out) HF.out (fun b hb e => e (HC0.out b hb)))⟩
        · have hr1 : 1 ≤ r.length := by
            cases r with
            | nil => exact absurd rfl hr0
            | cons x r => simp
          have d0 : decide ((0 : Int) < (r.length : Int)) = true := by simp; omega
          obtain ⟨jn, hjn⟩ : ∃ jn, min r.length (1 + P) = jn := ⟨_, rfl⟩
          have hj1 : 1 ≤ jn := by omega
          have hj2 : jn ≤ r.length := by omega
          have hmin : min (r.length : Int) (1 + (P : Int)) = (jn : Int) := by omega
          have hw1 : IntKind.i64.wrap (1 + (P : Int)) = 1 + (P : Int) := IntWalk.i64_in _ (by omega)
          have hle := hs.le
          have hmx := hs.max
          rw [← List.take_append_drop jn r] at hrun
          obtain ⟨st1, y1, g1, g2, rfl⟩ := run_piece hrun
          have hlen : (r.take jn).length = jn := by rw [List.length_take]; omega
          have HF := Lib.hid (feed_any hI hev hcl h7 g1 hlen (hs.take jn c' hj2 (by omega) (Nat.le_refl _)) (fun x hx => ⟨Nat.lt_of_lt_of_le hx.1 hf.size, (hg x hx.1).trans hx.2⟩))
          have hT60 : Tn + st1.events.length ≤ j := by
            simp only [St.told, List.length_append] at y5
            omega
          have hwT : IntKind.i64.wrap ((Tn : Int) + (st1.events.length : Int)) = (Tn : Int) + (st1.events.length : Int) := IntWalk.i64_in _ (by omega)
          have HS := Lib.hid hs
          have HG := Lib.hid hg
          have HFR := Lib.hid hf
          have HCL := Lib.hid ((run_closed g1).trans hcl)
          have HG2 := Lib.hid g2
          have HY : Hid (y1.err = 18 ∧ y1.at_ = 7 * j ∧ y1.came = 7 * j + 5 ∧ Tn + st1.events.length + y1.events.length = j) := Lib.hid ⟨y2, y3, y4, by simp only [St.told, List.length_append] at y5; omega⟩
          have HM2 := Lib.hid hm
          have HJN := Lib.hid hjn
          clear hjn hI hev hcl h7 hf hs hg hm hrun g1 g2 y2 y3 y4 y5 hr0 hlen
          go_wp2_with (first | ((go_at_call 14; refine (HF.out).mono ?_; rintro e w4 ⟨col4, A4, c4, hg4, h74, rfl, hs4, hI4, hf4⟩)))
          all_goals
            go_roundg (r.length - jn)
            case measure => (have := HM2.out; omega)
            case rel =>
              have hd := HS.out.drop jn hj2
              refine ⟨r.drop jn, st1.clear, col4, _, _, Tn + st1.events.length, y1, ?_, by simp, rfl, rfl, by rw [List.length_drop], (by rw [List.length_drop]; exact hd.fr hf4 (fun b hb e => e ((HG.out b hb.1).trans hb.2))), fun b hb => (hg4 b (Nat.lt_of_lt_of_le hb HFR.out.size)).trans (HG.out b hb), hI4, rfl, HCL.out, h74, Fr.trans' HFR.out hf4 (fun b hb e => by unfold Hot at *; rw [HG.out b hb] at e; exact e), HG2.out, HY.out.1, HY.out.2.1, HY.out.2.2.1, HY.out.2.2.2⟩
              rw [List.length_drop]
              simp [*, Rd.u8, Rd.scalar]

theorem law_places (n k q : Int) (w : World) (hwk : (Lit.int .u8 k).wf = true) (hla : Laid w) (hll : LaidLim w) : Calls Tryz.prog 4 #[.int .i64 n, .int .u8 k, .int .i64 q] w fun e w' => e = .returned (.bool true) ∧ Ext w w' := by
  simp only [Lit.wf, Bool.and_eq_true, decide_eq_true_eq] at hwk
  obtain ⟨h1, h2⟩ := hwk
  have h1 : 0 ≤ k := h1
  have h2 : k ≤ 255 := h2
  obtain ⟨kb, rfl⟩ : ∃ kb : UInt8, k = (kb.toNat : Int) := ⟨UInt8.ofNat k.toNat, by rw [UInt8.toNat_ofNat', Nat.mod_eq_of_lt (by omega), Int.toNat_of_nonneg h1]⟩
  obtain ⟨K, hK⟩ : ∃ K : Nat, max (0 : Int) n % 60 = (K : Int) := ⟨(max (0 : Int) n % 60).toNat, by omega⟩
  obtain ⟨P, hP⟩ : ∃ P : Nat, max (0 : Int) q % 30 = (P : Int) := ⟨(max (0 : Int) q % 30).toNat, by omega⟩
  have lim : ¬ (20 ≤ kb.toNat ∧ kb.toNat ≤ 23) → limits kb.toNat = none := fun hn => by
    unfold limits
    rw [if_neg (by omega), if_neg (by omega), if_neg (by omega), if_neg (by omega)]
  by_cases f1 : 20 ≤ (kb.toNat : Int)
  · by_cases f2 : (kb.toNat : Int) ≤ 23
    · exact places_in n q kb (by simpa using f1) (by simpa using f2) rfl K P hK hP (by omega) (by omega) w hla hll
    · exact places_hi n q kb (by simpa using f1) (by simpa using f2) (lim (by omega)) K P hK hP (by omega) (by omega) w hla hll
  · exact places_lo n q kb (by simpa using f1) (lim (by omega)) K P hK hP (by omega) (by omega) w hla hll
end Go.Proofs.YtalbiepdkaldmaaGreatDoor
