/- The sanity check of the layer, its second part: the numbers and texts of the one statement are read. -/
import Derived.Test.YtmeipcnicfaojaaGreatDoorBytes
namespace Go.Proofs.YtmeipcnicfaojaaGreatDoor
open Go.RowKit

theorem inside_any (w : World) (b : ByteArray) (n : Nat) (h : n ≤ b.size) : Calls Tryz.prog 117 #[.string b, .int .i64 n] w fun e w' => e = .returned (.bool true) ∧ w' = w := by
  have h0 : (0 : Int) ≤ (n : Int) := by omega
  have h1 : (n : Int) ≤ (b.size : Int) := by omega
  go_enter Tryz.func117, Tryz.ntmps117
  go_wp2
  go_ret
  exact ⟨rfl, rfl⟩
set_option maxRecDepth 100000 in
theorem number_0 (w : World) : Calls Tryz.prog 118 #[.string ⟨#[2, 120, 0, 10, 0, 12, 97, 108, 119, 97, 121, 115, 0]⟩, .int .i64 0] w fun e w' => e = .returned (.tuple #[.int .i64 1, .int .i64 1, .int .i64 0]) ∧ w' = w := by
  go_enter Tryz.func118, Tryz.ntmps118
  go_wp2
  go_loopw [7, 10] (fun v7 v10 wr => v7 = .int .u64 0 ∧ v10 = .int .i64 0 ∧ wr = w) (fun _ _ _ => 0)
  case atStart => exact ⟨rfl, rfl, rfl⟩
  case round =>
    obtain ⟨rfl, rfl, rfl⟩ := hrel
    go_wp2
    go_ret3
    exact ⟨by kernel_rfl, rfl⟩
theorem int_0 (w : World) : Calls Tryz.prog 85 #[.string ⟨#[2, 120, 0, 10, 0, 12, 97, 108, 119, 97, 121, 115, 0]⟩, .int .i64 0] w fun e w' => e = .returned (.tuple #[.int .i64 1, .int .i64 1, .int .i64 0]) ∧ w' = w := by
  go_enter Tryz.func85, Tryz.ntmps85
  go_wp2_with fail
  refine (inside_any _ _ 0 (by decide)).mono ?_
  rintro e w1 ⟨rfl, rfl⟩
  go_wp2_with fail
  refine (number_0 _).mono ?_
  rintro e w1 ⟨rfl, rfl⟩
  go_wp2_with fail
  go_ret3
  exact ⟨rfl, rfl⟩
set_option maxRecDepth 100000 in
theorem number_2 (w : World) : Calls Tryz.prog 118 #[.string ⟨#[2, 120, 0, 10, 0, 12, 97, 108, 119, 97, 121, 115, 0]⟩, .int .i64 2] w fun e w' => e = .returned (.tuple #[.int .i64 0, .int .i64 3, .int .i64 0]) ∧ w' = w := by
  go_enter Tryz.func118, Tryz.ntmps118
  go_wp2
  go_loopw [7, 10] (fun v7 v10 wr => v7 = .int .u64 0 ∧ v10 = .int .i64 0 ∧ wr = w) (fun _ _ _ => 0)
  case atStart => exact ⟨rfl, rfl, rfl⟩
  case round =>
    obtain ⟨rfl, rfl, rfl⟩ := hrel
    go_wp2
    go_ret3
    exact ⟨by kernel_rfl, rfl⟩
theorem int_2 (w : World) : Calls Tryz.prog 85 #[.string ⟨#[2, 120, 0, 10, 0, 12, 97, 108, 119, 97, 121, 115, 0]⟩, .int .i64 2] w fun e w' => e = .returned (.tuple #[.int .i64 0, .int .i64 3, .int .i64 0]) ∧ w' = w := by
  go_enter Tryz.func85, Tryz.ntmps85
  go_wp2_with fail
  refine (inside_any _ _ 2 (by decide)).mono ?_
  rintro e w1 ⟨rfl, rfl⟩
  go_wp2_with fail
  refine (number_2 _).mono ?_
  rintro e w1 ⟨rfl, rfl⟩
  go_wp2_with fail
  go_ret3
  exact ⟨rfl, rfl⟩
set_option maxRecDepth 100000 in
theorem number_3 (w : World) : Calls Tryz.prog 118 #[.string ⟨#[2, 120, 0, 10, 0, 12, 97, 108, 119, 97, 121, 115, 0]⟩, .int .i64 3] w fun e w' => e = .returned (.tuple #[.int .i64 5, .int .i64 4, .int .i64 0]) ∧ w' = w := by
  go_enter Tryz.func118, Tryz.ntmps118
  go_wp2
  go_loopw [7, 10] (fun v7 v10 wr => v7 = .int .u64 0 ∧ v10 = .int .i64 0 ∧ wr = w) (fun _ _ _ => 0)
  case atStart => exact ⟨rfl, rfl, rfl⟩
  case round =>
    obtain ⟨rfl, rfl, rfl⟩ := hrel
    go_wp2
    go_ret3
    exact ⟨by kernel_rfl, rfl⟩
theorem int_3 (w : World) : Calls Tryz.prog 85 #[.string ⟨#[2, 120, 0, 10, 0, 12, 97, 108, 119, 97, 121, 115, 0]⟩, .int .i64 3] w fun e w' => e = .returned (.tuple #[.int .i64 5, .int .i64 4, .int .i64 0]) ∧ w' = w := by
  go_enter Tryz.func85, Tryz.ntmps85
  go_wp2_with fail
  refine (inside_any _ _ 3 (by decide)).mono ?_
  rintro e w1 ⟨rfl, rfl⟩
  go_wp2_with fail
  refine (number_3 _).mono ?_
  rintro e w1 ⟨rfl, rfl⟩
  go_wp2_with fail
  go_ret3
  exact ⟨rfl, rfl⟩
set_option maxRecDepth 100000 in
theorem number_4 (w : World) : Calls Tryz.prog 118 #[.string ⟨#[2, 120, 0, 10, 0, 12, 97, 108, 119, 97, 121, 115, 0]⟩, .int .i64 4] w fun e w' => e = .returned (.tuple #[.int .i64 0, .int .i64 5, .int .i64 0]) ∧ w' = w := by
  go_enter Tryz.func118, Tryz.ntmps118
  go_wp2
  go_loopw [7, 10] (fun v7 v10 wr => v7 = .int .u64 0 ∧ v10 = .int .i64 0 ∧ wr = w) (fun _ _ _ => 0)
  case atStart => exact ⟨rfl, rfl, rfl⟩
  case round =>
    obtain ⟨rfl, rfl, rfl⟩ := hrel
    go_wp2
    go_ret3
    exact ⟨by kernel_rfl, rfl⟩
theorem int_4 (w : World) : Calls Tryz.prog 85 #[.string ⟨#[2, 120, 0, 10, 0, 12, 97, 108, 119, 97, 121, 115, 0]⟩, .int .i64 4] w fun e w' => e = .returned (.tuple #[.int .i64 0, .int .i64 5, .int .i64 0]) ∧ w' = w := by
  go_enter Tryz.func85, Tryz.ntmps85
  go_wp2_with fail
  refine (inside_any _ _ 4 (by decide)).mono ?_
  rintro e w1 ⟨rfl, rfl⟩
  go_wp2_with fail
  refine (number_4 _).mono ?_
  rintro e w1 ⟨rfl, rfl⟩
  go_wp2_with fail
  go_ret3
  exact ⟨rfl, rfl⟩
set_option maxRecDepth 100000 in
theorem number_5 (w : World) : Calls Tryz.prog 118 #[.string ⟨#[2, 120, 0, 10, 0, 12, 97, 108, 119, 97, 121, 115, 0]⟩, .int .i64 5] w fun e w' => e = .returned (.tuple #[.int .i64 6, .int .i64 6, .int .i64 0]) ∧ w' = w := by
  go_enter Tryz.func118, Tryz.ntmps118
  go_wp2
  go_loopw [7, 10] (fun v7 v10 wr => v7 = .int .u64 0 ∧ v10 = .int .i64 0 ∧ wr = w) (fun _ _ _ => 0)
  case atStart => exact ⟨rfl, rfl, rfl⟩
  case round =>
    obtain ⟨rfl, rfl, rfl⟩ := hrel
    go_wp2
    go_ret3
    exact ⟨by kernel_rfl, rfl⟩
theorem int_5 (w : World) : Calls Tryz.prog 85 #[.string ⟨#[2, 120, 0, 10, 0, 12, 97, 108, 119, 97, 121, 115, 0]⟩, .int .i64 5] w fun e w' => e = .returned (.tuple #[.int .i64 6, .int .i64 6, .int .i64 0]) ∧ w' = w := by
  go_enter Tryz.func85, Tryz.ntmps85
  go_wp2_with fail
  refine (inside_any _ _ 5 (by decide)).mono ?_
  rintro e w1 ⟨rfl, rfl⟩
  go_wp2_with fail
  refine (number_5 _).mono ?_
  rintro e w1 ⟨rfl, rfl⟩
  go_wp2_with fail
  go_ret3
  exact ⟨rfl, rfl⟩
set_option maxRecDepth 100000 in
theorem number_12 (w : World) : Calls Tryz.prog 118 #[.string ⟨#[2, 120, 0, 10, 0, 12, 97, 108, 119, 97, 121, 115, 0]⟩, .int .i64 12] w fun e w' => e = .returned (.tuple #[.int .i64 0, .int .i64 13, .int .i64 0]) ∧ w' = w := by
  go_enter Tryz.func118, Tryz.ntmps118
  go_wp2
  go_loopw [7, 10] (fun v7 v10 wr => v7 = .int .u64 0 ∧ v10 = .int .i64 0 ∧ wr = w) (fun _ _ _ => 0)
  case atStart => exact ⟨rfl, rfl, rfl⟩
  case round =>
    obtain ⟨rfl, rfl, rfl⟩ := hrel
    go_wp2
    go_ret3
    exact ⟨by kernel_rfl, rfl⟩
theorem int_12 (w : World) : Calls Tryz.prog 85 #[.string ⟨#[2, 120, 0, 10, 0, 12, 97, 108, 119, 97, 121, 115, 0]⟩, .int .i64 12] w fun e w' => e = .returned (.tuple #[.int .i64 0, .int .i64 13, .int .i64 0]) ∧ w' = w := by
  go_enter Tryz.func85, Tryz.ntmps85
  go_wp2_with fail
  refine (inside_any _ _ 12 (by decide)).mono ?_
  rintro e w1 ⟨rfl, rfl⟩
  go_wp2_with fail
  refine (number_12 _).mono ?_
  rintro e w1 ⟨rfl, rfl⟩
  go_wp2_with fail
  go_ret3
  exact ⟨rfl, rfl⟩
theorem text_0 (w : World) : Calls Tryz.prog 83 #[.string ⟨#[2, 120, 0, 10, 0, 12, 97, 108, 119, 97, 121, 115, 0]⟩, .int .i64 0] w fun e w' => e = .returned (.tuple #[.string ⟨#[120]⟩, .int .i64 2, .int .i64 0]) ∧ w' = w := by
  go_enter Tryz.func83, Tryz.ntmps83
  go_wp2_with fail
  refine (int_0 _).mono ?_
  rintro e w1 ⟨rfl, rfl⟩
  go_wp2_with fail
  go_ret3
  exact ⟨by kernel_rfl, rfl⟩
theorem text_5 (w : World) : Calls Tryz.prog 83 #[.string ⟨#[2, 120, 0, 10, 0, 12, 97, 108, 119, 97, 121, 115, 0]⟩, .int .i64 5] w fun e w' => e = .returned (.tuple #[.string ⟨#[97, 108, 119, 97, 121, 115]⟩, .int .i64 12, .int .i64 0]) ∧ w' = w := by
  go_enter Tryz.func83, Tryz.ntmps83
  go_wp2_with fail
  refine (int_5 _).mono ?_
  rintro e w1 ⟨rfl, rfl⟩
  go_wp2_with fail
  go_ret3
  exact ⟨by kernel_rfl, rfl⟩
/-- The reader reads a number; a text. -/
theorem rnum_any (w : World) (R : Nat) (b : ByteArray) (p v q : Int) (hc : ∀ W, Calls Tryz.prog 85 #[.string b, .int .i64 p] W fun e w' => e = .returned (.tuple #[.int .i64 v, .int .i64 q, .int .i64 0]) ∧ w' = W) (h : Blk w R 86 #[.string b, .int .i64 p, .bool false]) :
    Calls Tryz.prog 43 #[.pointer (some ⟨R, 0, none⟩)] w fun e w' => e = .returned (.int .i64 v) ∧ Blk w' R 86 #[.string b, .int .i64 q, .bool false] ∧ Frm (fun k => k ≠ R) w w' := by
  have H := Lib.hid h; have HC := Lib.hid hc
  have q0 := h.cell 0
  have q1 := h.cell 1
  have q2 := h.cell 2
  have f1 := h.frozen 1
  clear h hc
  go_enter Tryz.func43, Tryz.ntmps43
  go_wp2
  go_quiet ((go_at_call 85; exact Calls.quiet_of_same (HC.out _)))
  go_wp2
  go_ret
  refine ⟨rfl, (H.out.drewN _).set_ 1 _, rfl, rfl, rfl, by simp [World.setCell], fun k hk _ => Below.heap_setCell _ _ _ _ hk⟩
theorem rtext_any (w : World) (R : Nat) (b : ByteArray) (p q : Int) (v : ByteArray) (hc : ∀ W, Calls Tryz.prog 83 #[.string b, .int .i64 p] W fun e w' => e = .returned (.tuple #[.string v, .int .i64 q, .int .i64 0]) ∧ w' = W) (h : Blk w R 86 #[.string b, .int .i64 p, .bool false]) :
    Calls Tryz.prog 42 #[.pointer (some ⟨R, 0, none⟩)] w fun e w' => e = .returned (.string v) ∧ Blk w' R 86 #[.string b, .int .i64 q, .bool false] ∧ Frm (fun k => k ≠ R) w w' := by
  have H := Lib.hid h; have HC := Lib.hid hc
  have q0 := h.cell 0
  have q1 := h.cell 1
  have q2 := h.cell 2
  have f1 := h.frozen 1
  clear h hc
  go_enter Tryz.func42, Tryz.ntmps42
  go_wp2
  go_quiet ((go_at_call 83; exact Calls.quiet_of_same (HC.out _)))
  go_wp2
  go_ret
  refine ⟨rfl, (H.out.drewN _).set_ 1 _, rfl, rfl, rfl, by simp [World.setCell], fun k hk _ => Below.heap_setCell _ _ _ _ hk⟩
end Go.Proofs.YtmeipcnicfaojaaGreatDoor
