/- StreamNone: of no stream nothing is told; streams of too few or too many bytes a message are not made. -/
import Derived.Test.YtalbiepdkaldmaaGreatDoorProg
import Derived.Test.YtalbiepdkaldmaaGreatDoorLaw19
set_option linter.unusedVariables false
set_option linter.unusedSimpArgs false
namespace Go.Proofs.YtalbiepdkaldmaaGreatDoor
open Go.RowKit
set_option maxRecDepth 8000 in
set_option maxHeartbeats 4000000 in
theorem none_out (n : Int) (h : n < 4 ∨ 16777219 < n) (d1 : (decide (n < 4) || decide (16777219 < n)) = true) (A : Option Addr) (m c : Nat) (w : World) (hla : Laid w) (hll : LaidLim w) : Calls Tryz.prog 6 #[.int .i64 n, .slice A m c] w fun e w' => e = .returned (.bool true) ∧ Ext w w' := by
  have HN := Lib.hid (fun w => stream_New_out n w h)
  have HA := Lib.hid (law19_alive w hla hll)
  clear hla hll d1
  rcases h with h | h
  · have d1 : decide (n < 4) = true := by simpa using h
    clear h
    go_enter Tryz.func6, Tryz.ntmps6
    go_wp2_with (first | ((go_at_call 14; refine (none_Feed A m c _).mono ?_; rintro e w1 ⟨rfl, rfl⟩)) | ((go_at_call 16; refine (none_Close _).mono ?_; rintro e w1 ⟨rfl, rfl⟩)) | ((go_at_call 18; refine (none_Records _).mono ?_; rintro e w1 ⟨rfl, rfl⟩)) | ((go_at_call 15; refine (none_At _).mono ?_; rintro e w1 ⟨rfl, rfl⟩)) | ((go_at_call 19; refine (none_Held _).mono ?_; rintro e w1 ⟨rfl, rfl⟩)) | ((go_at_call 17; refine (none_Steps _).mono ?_; rintro e w1 ⟨rfl, rfl⟩)) | ((go_at_call 13; refine (HN.out _).mono ?_; rintro e w1 ⟨rfl, rfl⟩)) | ((go_at_call 12; refine (HA.out).mono ?_; rintro e w9 ⟨rfl, hx9⟩)))
    refine bodyPost_ret (v := .bool true) (by simp only [results, Tryz.results6]; go_simp) rfl ?_
    exact ⟨rfl, hx9⟩
  · have d1 : decide (n < 4) = false := by simp; omega
    have d2 : decide (16777219 < n) = true := by simpa using h
    clear h
    go_enter Tryz.func6, Tryz.ntmps6
    go_wp2_with (first | ((go_at_call 14; refine (none_Feed A m c _).mono ?_; rintro e w1 ⟨rfl, rfl⟩)) | ((go_at_call 16; refine (none_Close _).mono ?_; rintro e w1 ⟨rfl, rfl⟩)) | ((go_at_call 18; refine (none_Records _).mono ?_; rintro e w1 ⟨rfl, rfl⟩)) | ((go_at_call 15; refine (none_At _).mono ?_; rintro e w1 ⟨rfl, rfl⟩)) | ((go_at_call 19; refine (none_Held _).mono ?_; rintro e w1 ⟨rfl, rfl⟩)) | ((go_at_call 17; refine (none_Steps _).mono ?_; rintro e w1 ⟨rfl, rfl⟩)) | ((go_at_call 13; refine (HN.out _).mono ?_; rintro e w1 ⟨rfl, rfl⟩)) | ((go_at_call 12; refine (HA.out).mono ?_; rintro e w9 ⟨rfl, hx9⟩)))
    refine bodyPost_ret (v := .bool true) (by simp only [results, Tryz.results6]; go_simp) rfl ?_
    exact ⟨rfl, hx9⟩
set_option maxRecDepth 8000 in
set_option maxHeartbeats 4000000 in
theorem none_in (n : Nat) (h1 : 4 ≤ n) (h2 : n ≤ 16777219) (A : Option Addr) (m c : Nat) (w : World) (hla : Laid w) (hll : LaidLim w) : Calls Tryz.prog 6 #[.int .i64 n, .slice A m c] w fun e w' => e = .returned (.bool true) ∧ Ext w w' := by
  have HN := Lib.hid (stream_New n w h1 h2 hll hla)
  have d1 : decide ((n : Int) < 4) = false := by simp; omega
  have d2 : decide (16777219 < (n : Int)) = false := by simp; omega
  clear hla hll h1 h2
  go_enter Tryz.func6, Tryz.ntmps6
  go_wp2_with (first | ((go_at_call 14; refine (none_Feed A m c _).mono ?_; rintro e w1 ⟨rfl, rfl⟩)) | ((go_at_call 16; refine (none_Close _).mono ?_; rintro e w1 ⟨rfl, rfl⟩)) | ((go_at_call 18; refine (none_Records _).mono ?_; rintro e w1 ⟨rfl, rfl⟩)) | ((go_at_call 15; refine (none_At _).mono ?_; rintro e w1 ⟨rfl, rfl⟩)) | ((go_at_call 19; refine (none_Held _).mono ?_; rintro e w1 ⟨rfl, rfl⟩)) | ((go_at_call 17; refine (none_Steps _).mono ?_; rintro e w1 ⟨rfl, rfl⟩)) | ((go_at_call 13; refine (HN.out).mono ?_; rintro e w1 ⟨s, h, t, col, rfl, hI1, hc0, hx1, hc4⟩)))
  have HA : Hid (Calls Tryz.prog 12 #[] w1 fun e w' => e = .returned (.bool true) ∧ Ext w1 w') := Lib.hid (by
    obtain ⟨_, _, _, _, hI⟩ := hI1
    exact law19_alive w1 hI.env.laid hI.env.lim)
  have HX1 := Lib.hid hx1
  have HI1 := Lib.hid hI1
  clear hI1 hx1 hc0 hc4
  (go_at_call 12; refine (HA.out).mono ?_; rintro e w9 ⟨rfl, hx9⟩)
  have HI9 : Hid (Calls Tryz.prog 15 #[.pointer (some ⟨s, 0, none⟩)] w9 fun e w' => e = .returned (.int .i64 0) ∧ w' = w9) := Lib.hid (stream_At (HI1.out.ext hx9))
  have HX9 := Lib.hid hx9
  clear hx9
  go_wp2_with (first | ((go_at_call 15; refine (HI9.out).mono ?_; rintro e w8 ⟨rfl, rfl⟩)))
  refine bodyPost_ret (v := .bool true) (by simp only [results, Tryz.results6]; go_simp) rfl ?_
  exact ⟨rfl, Fr.trans HX1.out HX9.out⟩
theorem law_none (n : Int) (A : Option Addr) (m c : Nat) (w : World) (hla : Laid w) (hll : LaidLim w) : Calls Tryz.prog 6 #[.int .i64 n, .slice A m c] w fun e w' => e = .returned (.bool true) ∧ Ext w w' := by
  by_cases h : n < 4 ∨ 16777219 < n
  · exact none_out n h (by simpa using h) A m c w hla hll
  · obtain ⟨k, rfl⟩ : ∃ k : Nat, n = (k : Int) := ⟨n.toNat, by omega⟩
    exact none_in k (by omega) (by omega) A m c w hla hll
end Go.Proofs.YtalbiepdkaldmaaGreatDoor
