/- slices.Sorted(maps.Keys(m)), m keyed by int: the shelf's contracts, laid at this program. -/
import Derived.Shelf.SlIterI.Nil
import Derived.Shelf.SortM.Plain
import Derived.Shelf.SortM.SortNone
import Derived.Ground.GgzProg
import Derived.Ground.SlgmProg
import Derived.Test.YtalbiepdkaldmaaGreatDoorProg
namespace Go.Proofs
open Go.RowKit Go.Maps Go.Sort Go.Shelf
def Tryz.keysA_ren : Go.Shelf.Ren := ⟨fun | 7 => 217 | 10 => 228 | n => n, fun | 23 => 268 | 26 => 3 | 3 => 9 | 28 => 300 | 0 => 0 | 27 => 299 | 33 => 203 | 4 => 4 | n => n, fun | n => n⟩
theorem Tryz.keysA : Go.Proofs.SlLaysZI.n7 Tryz.prog Tryz.keysA_ren := {
  mixed := by kernel_rfl
  f7 := ⟨Tryz.f217.name, by decide, Tryz.func217.trans (congrArg some (by kernel_rfl))⟩
  f10 := ⟨Tryz.f228.name, by decide, Tryz.func228.trans (congrArg some (by kernel_rfl))⟩
  t0 := Tryz.underlying0
  a0 := Tryz.isAgg0
  z0 := Tryz.sizeOf0
  v0 := Tryz.zeroValue0
  t4 := Tryz.underlying4
  a4 := Tryz.isAgg4
  z4 := Tryz.sizeOf4
  v4 := Tryz.zeroValue4
  t23 := Tryz.underlying268
  a23 := Tryz.isAgg268
  z23 := Tryz.sizeOf268
  v23 := Tryz.zeroValue268
  t26 := Tryz.underlying3
  a26 := Tryz.isAgg3
  z26 := Tryz.sizeOf3
  v26 := Tryz.zeroValue3
  t27 := Tryz.underlying299
  a27 := Tryz.isAgg299
  z27 := Tryz.sizeOf299
  v27 := Tryz.zeroValue299
  t28 := Tryz.underlying300
  a28 := Tryz.isAgg300
  z28 := Tryz.sizeOf300
  v28 := Tryz.zeroValue300
  t33 := Tryz.underlying203
  a33 := Tryz.isAgg203
  z33 := Tryz.sizeOf203
  v33 := Tryz.zeroValue203 }
def Tryz.sortedA_ren : Go.Shelf.Ren := ⟨fun | 6 => 216 | 8 => 226 | 9 => 227 | 11 => 232 | 13 => 234 | 12 => 233 | 23 => 252 | 24 => 253 | 14 => 243 | 15 => 244 | 16 => 245 | 17 => 246 | 18 => 247 | 19 => 248 | 20 => 249 | 21 => 250 | 22 => 251 | 25 => 259 | 26 => 260 | 27 => 261 | 28 => 262 | 29 => 263 | 30 => 264 | 31 => 269 | n => n, fun | 26 => 3 | 28 => 300 | 24 => 216 | 0 => 0 | 3 => 3 | 37 => 24 | 48 => 334 | 50 => 25 | 4 => 4 | 40 => 328 | 39 => 327 | 45 => 124 | 5 => 5 | 9 => 9 | 51 => 342 | 55 => 346 | 57 => 355 | 58 => 79 | 33 => 203 | n => n, fun | n => n⟩
theorem Tryz.sortedA : Go.Proofs.SlLaysZI.n6 Tryz.prog Tryz.sortedA_ren := {
  mixed := by kernel_rfl
  f6 := ⟨Tryz.f216.name, by decide, Tryz.func216.trans (congrArg some (by kernel_rfl))⟩
  f8 := ⟨Tryz.f226.name, by decide, Tryz.func226.trans (congrArg some (by kernel_rfl))⟩
  f11 := ⟨Tryz.f232.name, by decide, Tryz.func232.trans (congrArg some (by kernel_rfl))⟩
  t0 := Tryz.underlying0
  a0 := Tryz.isAgg0
  z0 := Tryz.sizeOf0
  v0 := Tryz.zeroValue0
  t24 := Tryz.underlying216
  a24 := Tryz.isAgg216
  z24 := Tryz.sizeOf216
  v24 := Tryz.zeroValue216
  t26 := Tryz.underlying3
  a26 := Tryz.isAgg3
  z26 := Tryz.sizeOf3
  v26 := Tryz.zeroValue3
  t28 := Tryz.underlying300
  a28 := Tryz.isAgg300
  z28 := Tryz.sizeOf300
  v28 := Tryz.zeroValue300
  i26 := by kernel_rfl }
def Tryz.sortA_ren : Go.Shelf.Ren := ⟨fun | 5 => 227 | 8 => 234 | 7 => 233 | 19 => 252 | 20 => 253 | 10 => 243 | 11 => 244 | 12 => 245 | 13 => 246 | 14 => 247 | 15 => 248 | 16 => 249 | 17 => 250 | 18 => 251 | 30 => 259 | 31 => 260 | 32 => 261 | 33 => 262 | 34 => 263 | 35 => 264 | 40 => 269 | n => n, fun | 23 => 216 | 25 => 3 | 3 => 3 | 32 => 24 | 22 => 216 | 0 => 0 | 44 => 334 | 46 => 25 | 4 => 4 | 36 => 328 | 35 => 327 | 41 => 124 | 5 => 5 | 9 => 9 | 53 => 342 | 57 => 346 | 63 => 355 | 64 => 79 | n => n, fun | n => n⟩
theorem Tryz.sortA : Go.Proofs.SlLaysM.n5 Tryz.prog Tryz.sortA_ren := {
  mixed := by kernel_rfl
  f5 := ⟨Tryz.f227.name, by decide, Tryz.func227.trans (congrArg some (by kernel_rfl))⟩
  f7 := ⟨Tryz.f233.name, by decide, Tryz.func233.trans (congrArg some (by kernel_rfl))⟩
  f8 := Tryz.func234.trans (congrArg some (by kernel_rfl))
  f10 := ⟨Tryz.f243.name, by decide, Tryz.func243.trans (congrArg some (by kernel_rfl))⟩
  f11 := ⟨Tryz.f244.name, by decide, Tryz.func244.trans (congrArg some (by kernel_rfl))⟩
  f12 := ⟨Tryz.f245.name, by decide, Tryz.func245.trans (congrArg some (by kernel_rfl))⟩
  f13 := ⟨Tryz.f246.name, by decide, Tryz.func246.trans (congrArg some (by kernel_rfl))⟩
  f14 := ⟨Tryz.f247.name, by decide, Tryz.func247.trans (congrArg some (by kernel_rfl))⟩
  f15 := ⟨Tryz.f248.name, by decide, Tryz.func248.trans (congrArg some (by kernel_rfl))⟩
  f16 := ⟨Tryz.f249.name, by decide, Tryz.func249.trans (congrArg some (by kernel_rfl))⟩
  f17 := ⟨Tryz.f250.name, by decide, Tryz.func250.trans (congrArg some (by kernel_rfl))⟩
  f18 := ⟨Tryz.f251.name, by decide, Tryz.func251.trans (congrArg some (by kernel_rfl))⟩
  f19 := Tryz.func252.trans (congrArg some (by kernel_rfl))
  f20 := Tryz.func253.trans (congrArg some (by kernel_rfl))
  f30 := ⟨Tryz.f259.name, by decide, Tryz.func259.trans (congrArg some (by kernel_rfl))⟩
  f31 := Tryz.func260.trans (congrArg some (by kernel_rfl))
  f32 := Tryz.func261.trans (congrArg some (by kernel_rfl))
  f33 := ⟨Tryz.f262.name, by decide, Tryz.func262.trans (congrArg some (by kernel_rfl))⟩
  f34 := ⟨Tryz.f263.name, by decide, Tryz.func263.trans (congrArg some (by kernel_rfl))⟩
  f35 := ⟨Tryz.f264.name, by decide, Tryz.func264.trans (congrArg some (by kernel_rfl))⟩
  f40 := ⟨Tryz.f269.name, by decide, Tryz.func269.trans (congrArg some (by kernel_rfl))⟩
  t0 := Tryz.underlying0
  a0 := Tryz.isAgg0
  z0 := Tryz.sizeOf0
  v0 := Tryz.zeroValue0
  t3 := Tryz.underlying3
  a3 := Tryz.isAgg3
  z3 := Tryz.sizeOf3
  v3 := Tryz.zeroValue3
  t4 := Tryz.underlying4
  a4 := Tryz.isAgg4
  z4 := Tryz.sizeOf4
  v4 := Tryz.zeroValue4
  t5 := Tryz.underlying5
  a5 := Tryz.isAgg5
  z5 := Tryz.sizeOf5
  v5 := Tryz.zeroValue5
  t9 := Tryz.underlying9
  a9 := Tryz.isAgg9
  z9 := Tryz.sizeOf9
  v9 := Tryz.zeroValue9
  t22 := Tryz.underlying216
  a22 := Tryz.isAgg216
  z22 := Tryz.sizeOf216
  v22 := Tryz.zeroValue216
  t23 := Tryz.underlying216
  a23 := Tryz.isAgg216
  z23 := Tryz.sizeOf216
  v23 := Tryz.zeroValue216
  t25 := Tryz.underlying3
  a25 := Tryz.isAgg3
  z25 := Tryz.sizeOf3
  v25 := Tryz.zeroValue3
  t32 := Tryz.underlying24
  a32 := Tryz.isAgg24
  z32 := Tryz.sizeOf24
  v32 := Tryz.zeroValue24
  t35 := Tryz.underlying327
  a35 := Tryz.isAgg327
  z35 := Tryz.sizeOf327
  v35 := Tryz.zeroValue327
  t36 := Tryz.underlying328
  a36 := Tryz.isAgg328
  z36 := Tryz.sizeOf328
  v36 := Tryz.zeroValue328
  t41 := Tryz.underlying124
  a41 := Tryz.isAgg124
  z41 := Tryz.sizeOf124
  v41 := Tryz.zeroValue124
  t44 := Tryz.underlying334
  a44 := Tryz.isAgg334
  z44 := Tryz.sizeOf334
  v44 := Tryz.zeroValue334
  t46 := Tryz.underlying25
  a46 := Tryz.isAgg25
  z46 := Tryz.sizeOf25
  v46 := Tryz.zeroValue25
  t53 := Tryz.underlying342
  a53 := Tryz.isAgg342
  z53 := Tryz.sizeOf342
  v53 := Tryz.zeroValue342
  t57 := Tryz.underlying346
  a57 := Tryz.isAgg346
  z57 := Tryz.sizeOf346
  v57 := Tryz.zeroValue346
  t63 := Tryz.underlying355
  a63 := Tryz.isAgg355
  z63 := Tryz.sizeOf355
  v63 := Tryz.zeroValue355
  t64 := Tryz.underlying79
  a64 := Tryz.isAgg79
  z64 := Tryz.sizeOf79
  v64 := Tryz.zeroValue79 }

/-- slices.Sort's two contracts at this program, at the fence that asks nothing. -/
theorem Tryz.sortsA (m : Nat) : AnyZI.SortsIn Tryz.prog Tryz.sortedA_ren Fence.wide m :=
  ⟨fun blk off cap ss W hH hblk hsz => callsIn_wide.2 (AnyM.slices_Sort_int Tryz.sortA blk off cap ss W hH hblk hsz),
   fun p cap W => callsIn_wide.2 (AnyM.slices_Sort_int_none Tryz.sortA p cap W)⟩
theorem Tryz.keys_call (mb : Option Nat) (W : World) : Calls Tryz.prog 217 #[.map mb] W fun e w' => e = .returned (.func (.func 228) #[] #[.pointer (some ⟨W.heap.size, 0, none⟩)]) ∧ w' = W.alloc (.cells #[.map mb] 268) :=
  (callsIn_wide (n := 5)).1 (AnyZI.keys_in Tryz.keysA Fence.wide 5 trivial rfl mb W)
set_option maxHeartbeats 1000000 in
theorem Tryz.sorted_call {H : Type} (b nn : Nat) (D0 : DataW H) (R : Value → Option (DataW H × List MemPlace)) (w : World) (hown : w.ownsMap Tryz.prog 3 R b nn D0) (hmax : Maps.size D0 ≤ maxLen) (hbytes : Maps.size D0 * 8 ≤ 140737488355328) :
    Calls Tryz.prog 216 #[.func (.func 228) #[] #[.pointer (some ⟨w.heap.size, 0, none⟩)]] (w.alloc (.cells #[.map (some b)] 268)) fun e w' => ∃ v : Value, ∃ A n c, e = .returned v ∧ v = .slice A n c ∧ Below w.heap.size w w' := by
  have hbl := hown.lt
  have hseq : SeqGives Fence.wide 2 Tryz.prog 228 #[.pointer (some ⟨w.heap.size, 0, none⟩)] encZ (fun ss => ss.Perm (intKeys D0)) (Maps.size D0) (w.alloc (.cells #[.map (some b)] 268)) :=
    AnyZI.keys_gives (ρ := Tryz.keysA_ren) { Tryz.keysA with } Fence.wide _ trivial rfl (by omega) w.heap.size b nn D0 _ (by simp) (by simp) (by
      obtain ⟨es, clock, hb, Ft, hs, hD⟩ := hown
      exact ⟨es, clock, (Below.heap_alloc _ _ b hbl).trans hb, Ft, hs, hD⟩)
  have cS := AnyZI.sorted_in Tryz.sortedA Fence.wide 5 trivial trivial trivial trivial rfl (by omega) (Tryz.sortsA _) (enters_of Tryz.func227 (by kernel_rfl) rfl) 228 #[.pointer (some ⟨w.heap.size, 0, none⟩)] trivial (enters_of Tryz.func228 (by kernel_rfl) rfl) _ _ hmax hbytes _ hseq
  change CallsIn _ _ Tryz.prog 216 _ _ _ at cS
  refine ((callsIn_wide (n := 5)).1 cS).mono ?_
  rintro e w' ⟨v, ss, rfl, hS, hrow, hnil, hb⟩
  have hv : ∃ A n c, v = .slice A n c := by
    rcases hrow.2 with ⟨rfl, _⟩ | ⟨g, cap, cur, rfl, _⟩ <;> exact ⟨_, _, _, rfl⟩
  obtain ⟨A, n, c, rfl⟩ := hv
  exact ⟨_, A, n, c, rfl, rfl, ((Below.refl _ w).alloc (Nat.le_refl _) _).trans (hb.mono (by simp))⟩
end Go.Proofs
