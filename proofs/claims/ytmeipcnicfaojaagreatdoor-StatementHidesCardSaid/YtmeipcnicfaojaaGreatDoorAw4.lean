/- The sanity check of the layer, its fourth part: the word 'always' is read. -/
import Derived.Test.YtmeipcnicfaojaaGreatDoorAw3
import Derived.Laws.Externs
namespace Go.Proofs.YtmeipcnicfaojaaGreatDoor
open Go.RowKit

theorem idxByte_run (s : ByteArray) (c : Int) (w : World) : (callFunc 201 #[.string s, .int .u8 c]).run Tryz.prog w = .ok (.value (.int .i64 (firstIdx s c.toNat.toUInt8))) w := by
  rw [run_callFunc_extern (e := Extern.BytealgIndexByte.indexByte) Tryz.func201 (by kernel_rfl) (by kernel_rfl) (by kernel_rfl) (by kernel_rfl), run_indexByte_string]
  rfl
theorem inword_letter (w : World) (c : Int) (h1 : 97 ≤ c) (h2 : c ≤ 122) : Calls Tryz.prog 155 #[.int .u8 c] w fun e w' => e = .returned (.bool true) ∧ w' = w := by
  go_enter Tryz.func155, Tryz.ntmps155
  go_wp2
  go_ret
  exact ⟨rfl, rfl⟩
theorem index_signs (w : World) (c : Int) (hc : firstIdx ⟨#[40, 41, 44]⟩ c.toNat.toUInt8 = -1) : Calls Tryz.prog 157 #[.string ⟨#[40, 41, 44]⟩, .int .u8 c] w fun e w' => e = .returned (.int .i64 (-1)) ∧ w' = w := by
  have hrun := idxByte_run ⟨#[40, 41, 44]⟩ c w
  rw [hc] at hrun
  go_enter Tryz.func157, Tryz.ntmps157
  go_wp2
  go_ret
  exact ⟨rfl, rfl⟩

set_option maxRecDepth 100000 in
set_option maxHeartbeats 2000000 in
theorem word_0 (w : World) (R : Nat) (h : Blk w R 169 #[.string ⟨#[97, 108, 119, 97, 121, 115]⟩, .int .i64 0]) :
    Calls Tryz.prog 180 #[.pointer (some ⟨R, 0, none⟩)] w fun e w' => e = .returned (.string ⟨#[97, 108, 119, 97, 121, 115]⟩) ∧ ∃ m, w' = w.drewN m := by
  have q0 := h.cell 0
  have q1 := h.cell 1
  have hx : (⟨#[97, 108, 119, 97, 121, 115]⟩ : ByteArray).extract 0 6 = ⟨#[97, 108, 119, 97, 121, 115]⟩ := by kernel_rfl
  have hem : (⟨#[97, 108, 119, 97, 121, 115]⟩ : ByteArray).toList.isEmpty = false := by kernel_rfl
  have h34 : (((⟨#[97, 108, 119, 97, 121, 115]⟩ : ByteArray)[0]'(by decide)).toNat : Int) = 97 := by kernel_rfl
  go_enter Tryz.func180, Tryz.ntmps180
  go_wp2_with fail
  go_quiet (fail)
  go_wp2_with fail
  refine (index_signs _ _ ?_).mono ?_
  · kernel_rfl
  rintro e w1 ⟨rfl, rfl⟩
  go_wp2_with fail
  go_loopw [7] (fun v7 wr => ∃ k : Nat, k ≤ 6 ∧ v7 = .int .i64 k ∧ wr = w.drewN nq) (fun v7 _ => 6 - (intOf v7).toNat)
  case atStart => exact ⟨0, by omega, rfl, rfl⟩
  case round =>
    obtain ⟨k, hk, rfl, rfl⟩ := hrel
    obtain rfl | hlt : k = 6 ∨ k < 6 := by omega
    · go_wp2_with fail
      go_ret
      exact ⟨rfl, _, rfl⟩
    · obtain rfl | rfl | rfl | rfl | rfl | rfl : k = 0 ∨ k = 1 ∨ k = 2 ∨ k = 3 ∨ k = 4 ∨ k = 5 := by omega
      · go_wp2_with fail
        refine (inword_letter _ _ ?_ ?_).mono ?_
        · decide
        · decide
        rintro e w1 ⟨rfl, rfl⟩
        go_wp2_with fail
        go_roundw
        case rel => exact ⟨1, by omega, rfl, trivial⟩
        case measure => simp [intOf]
      · go_wp2_with fail
        refine (inword_letter _ _ ?_ ?_).mono ?_
        · decide
        · decide
        rintro e w1 ⟨rfl, rfl⟩
        go_wp2_with fail
        go_roundw
        case rel => exact ⟨2, by omega, rfl, trivial⟩
        case measure => simp [intOf]
      · go_wp2_with fail
        refine (inword_letter _ _ ?_ ?_).mono ?_
        · decide
        · decide
        rintro e w1 ⟨rfl, rfl⟩
        go_wp2_with fail
        go_roundw
        case rel => exact ⟨3, by omega, rfl, trivial⟩
        case measure => simp [intOf]
      · go_wp2_with fail
        refine (inword_letter _ _ ?_ ?_).mono ?_
        · decide
        · decide
        rintro e w1 ⟨rfl, rfl⟩
        go_wp2_with fail
        go_roundw
        case rel => exact ⟨4, by omega, rfl, trivial⟩
        case measure => simp [intOf]
      · go_wp2_with fail
        refine (inword_letter _ _ ?_ ?_).mono ?_
        · decide
        · decide
        rintro e w1 ⟨rfl, rfl⟩
        go_wp2_with fail
        go_roundw
        case rel => exact ⟨5, by omega, rfl, trivial⟩
        case measure => simp [intOf]
      · go_wp2_with fail
        refine (inword_letter _ _ ?_ ?_).mono ?_
        · decide
        · decide
        rintro e w1 ⟨rfl, rfl⟩
        go_wp2_with fail
        go_roundw
        case rel => exact ⟨6, by omega, rfl, trivial⟩
        case measure => simp [intOf]
end Go.Proofs.YtmeipcnicfaojaaGreatDoor
