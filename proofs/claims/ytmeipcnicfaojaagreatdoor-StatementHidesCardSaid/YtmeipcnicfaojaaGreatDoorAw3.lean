/- The sanity check of the layer, its third part: the text 'always' is parsed. -/
import Derived.Test.YtmeipcnicfaojaaGreatDoorAw2
import Derived.Defers
import Derived.Recover
namespace Go.Proofs.YtmeipcnicfaojaaGreatDoor
open Go.RowKit

set_option maxRecDepth 100000 in
theorem times_zero (w : World) (R : Nat) (b : ByteArray) (p q : Int) (f : Value) (hc : ∀ W, Calls Tryz.prog 85 #[.string b, .int .i64 p] W fun e w' => e = .returned (.tuple #[.int .i64 0, .int .i64 q, .int .i64 0]) ∧ w' = W) (h : Blk w R 86 #[.string b, .int .i64 p, .bool false]) :
    Calls Tryz.prog 44 #[.pointer (some ⟨R, 0, none⟩), f] w fun e w' => e = .returned (.tuple #[]) ∧ Blk w' R 86 #[.string b, .int .i64 q, .bool false] ∧ Frm (fun k => k ≠ R) w w' := by
  have H := Lib.hid h; have HC := Lib.hid hc
  clear h hc
  go_enter Tryz.func44, Tryz.ntmps44
  go_wp2_with fail
  refine (rnum_any _ R b p 0 q HC.out H.out).mono ?_
  rintro e w1 ⟨rfl, hB, hf⟩
  have B1 := Lib.hid hB; have F1 := Lib.hid hf
  clear hB hf
  go_wp2
  go_loopw [4] (fun v4 wr => v4 = .int .i64 0 ∧ wr = w1) (fun _ _ => 0)
  case atStart => exact ⟨rfl, rfl⟩
  case round =>
    obtain ⟨rfl, rfl⟩ := hrel
    go_wp2
    go_end0
    exact ⟨rfl, B1.out, F1.out⟩

set_option maxRecDepth 100000 in
theorem space_0 (w : World) (R : Nat) (h : Blk w R 169 #[.string ⟨#[97, 108, 119, 97, 121, 115]⟩, .int .i64 0]) :
    Calls Tryz.prog 120 #[.pointer (some ⟨R, 0, none⟩)] w fun e w' => e = .returned (.tuple #[]) ∧ ∃ m, w' = w.drewN m := by
  have q0 := h.cell 0
  have q1 := h.cell 1
  go_enter Tryz.func120, Tryz.ntmps120
  go_wp2
  go_loopw [] (fun wr => wr = w) (fun _ => 0)
  case atStart => rfl
  case round =>
    obtain rfl := hrel
    go_wp2
    go_quiet (fail)
    go_wp2
    go_end0
    exact ⟨rfl, _, rfl⟩
set_option maxRecDepth 100000 in
theorem space_6 (w : World) (R : Nat) (h : Blk w R 169 #[.string ⟨#[97, 108, 119, 97, 121, 115]⟩, .int .i64 6]) :
    Calls Tryz.prog 120 #[.pointer (some ⟨R, 0, none⟩)] w fun e w' => e = .returned (.tuple #[]) ∧ ∃ m, w' = w.drewN m := by
  have q0 := h.cell 0
  have q1 := h.cell 1
  go_enter Tryz.func120, Tryz.ntmps120
  go_wp2
  go_loopw [] (fun wr => wr = w) (fun _ => 0)
  case atStart => rfl
  case round =>
    obtain rfl := hrel
    go_wp2
    go_quiet (fail)
    go_wp2
    go_end0
    exact ⟨rfl, _, rfl⟩
end Go.Proofs.YtmeipcnicfaojaaGreatDoor
