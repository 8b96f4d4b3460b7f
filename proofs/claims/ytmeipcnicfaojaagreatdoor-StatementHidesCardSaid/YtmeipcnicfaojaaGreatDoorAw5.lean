/- The sanity check of the layer, its fifth part: the kind of the word 'always'. -/
import Derived.Test.YtmeipcnicfaojaaGreatDoorAw4
namespace Go.Proofs.YtmeipcnicfaojaaGreatDoor
open Go.RowKit

set_option maxRecDepth 100000 in
set_option maxHeartbeats 2000000 in
theorem index_always (w : World) (g : Nat) (h : Blk w g 9 #[.string ⟨#[]⟩, .string ⟨#[97, 108, 108]⟩, .string ⟨#[97, 110, 121]⟩, .string ⟨#[114, 101, 112, 111, 114, 116, 101, 114, 115]⟩, .string ⟨#[100, 101, 112, 97, 114, 116, 109, 101, 110, 116, 115]⟩, .string ⟨#[121, 101, 97, 114, 115]⟩, .string ⟨#[110, 111, 116, 102, 105, 114, 115, 116]⟩, .string ⟨#[115, 97, 121, 115]⟩, .string ⟨#[97, 108, 119, 97, 121, 115]⟩]) : Calls Tryz.prog 139 #[.slice (some ⟨g, 0, none⟩) 9 9, .string ⟨#[97, 108, 119, 97, 121, 115]⟩] w fun e w' => e = .returned (.int .i64 8) ∧ w' = w := by
  have q0 := h.cell 0
  have q1 := h.cell 1
  have q2 := h.cell 2
  have q3 := h.cell 3
  have q4 := h.cell 4
  have q5 := h.cell 5
  have q6 := h.cell 6
  have q7 := h.cell 7
  have q8 := h.cell 8
  have n0 : ((⟨#[97, 108, 119, 97, 121, 115]⟩ : ByteArray).toList == (⟨#[]⟩ : ByteArray).toList) = false := by kernel_rfl
  have n1 : ((⟨#[97, 108, 119, 97, 121, 115]⟩ : ByteArray).toList == (⟨#[97, 108, 108]⟩ : ByteArray).toList) = false := by kernel_rfl
  have n2 : ((⟨#[97, 108, 119, 97, 121, 115]⟩ : ByteArray).toList == (⟨#[97, 110, 121]⟩ : ByteArray).toList) = false := by kernel_rfl
  have n3 : ((⟨#[97, 108, 119, 97, 121, 115]⟩ : ByteArray).toList == (⟨#[114, 101, 112, 111, 114, 116, 101, 114, 115]⟩ : ByteArray).toList) = false := by kernel_rfl
  have n4 : ((⟨#[97, 108, 119, 97, 121, 115]⟩ : ByteArray).toList == (⟨#[100, 101, 112, 97, 114, 116, 109, 101, 110, 116, 115]⟩ : ByteArray).toList) = false := by kernel_rfl
  have n5 : ((⟨#[97, 108, 119, 97, 121, 115]⟩ : ByteArray).toList == (⟨#[121, 101, 97, 114, 115]⟩ : ByteArray).toList) = false := by kernel_rfl
  have n6 : ((⟨#[97, 108, 119, 97, 121, 115]⟩ : ByteArray).toList == (⟨#[110, 111, 116, 102, 105, 114, 115, 116]⟩ : ByteArray).toList) = false := by kernel_rfl
  have n7 : ((⟨#[97, 108, 119, 97, 121, 115]⟩ : ByteArray).toList == (⟨#[115, 97, 121, 115]⟩ : ByteArray).toList) = false := by kernel_rfl
  go_enter Tryz.func139, Tryz.ntmps139
  go_wp2
  go_loopw [8] (fun v8 wr => ∃ k : Nat, k ≤ 8 ∧ v8 = .int .i64 k ∧ wr = w) (fun v8 _ => 8 - (intOf v8).toNat)
  case atStart => exact ⟨0, by omega, rfl, rfl⟩
  case round =>
    obtain ⟨k, hk, rfl, rfl⟩ := hrel
    obtain rfl | rfl | rfl | rfl | rfl | rfl | rfl | rfl | rfl : k = 8 ∨ k = 0 ∨ k = 1 ∨ k = 2 ∨ k = 3 ∨ k = 4 ∨ k = 5 ∨ k = 6 ∨ k = 7 := by omega
    · go_wp2
      go_ret
      exact ⟨rfl, rfl⟩
    · go_wp2
      go_roundw
      case rel => exact ⟨1, by omega, rfl, trivial⟩
      case measure => simp [intOf]
    · go_wp2
      go_roundw
      case rel => exact ⟨2, by omega, rfl, trivial⟩
      case measure => simp [intOf]
    · go_wp2
      go_roundw
      case rel => exact ⟨3, by omega, rfl, trivial⟩
      case measure => simp [intOf]
    · go_wp2
      go_roundw
      case rel => exact ⟨4, by omega, rfl, trivial⟩
      case measure => simp [intOf]
    · go_wp2
      go_roundw
      case rel => exact ⟨5, by omega, rfl, trivial⟩
      case measure => simp [intOf]
    · go_wp2
      go_roundw
      case rel => exact ⟨6, by omega, rfl, trivial⟩
      case measure => simp [intOf]
    · go_wp2
      go_roundw
      case rel => exact ⟨7, by omega, rfl, trivial⟩
      case measure => simp [intOf]
    · go_wp2
      go_roundw
      case rel => exact ⟨8, by omega, rfl, trivial⟩
      case measure => simp [intOf]
theorem kindof_always (w : World) : Calls Tryz.prog 146 #[.string ⟨#[97, 108, 119, 97, 121, 115]⟩] w fun e w' => e = .returned (.int .i64 8) ∧ Below w.heap.size w w' := by
  go_enter Tryz.func146, Tryz.ntmps146
  go_wp2_with fail
  refine (names_any _).mono ?_
  rintro e w1 ⟨rfl, rfl⟩
  go_wp2_with fail
  refine (index_always _ _ (Blk.new _ _ _)).mono ?_
  rintro e w1 ⟨rfl, rfl⟩
  go_wp2_with fail
  go_ret
  exact ⟨rfl, by (repeat' first | exact Below.refl _ _ | refine Below.drew ?_ | refine below_drewN ?_ _ | refine Below.alloc ?_ (by first | exact Nat.le_refl _ | (simp; done) | (simp; omega)) _ | refine Below.setCell ?_ (by first | (simp; done) | (simp; omega)) _)⟩
theorem cond1_always (w : World) : Calls Tryz.prog 148 #[.string ⟨#[97, 108, 119, 97, 121, 115]⟩] w fun e w' => e = .returned (.bool true) ∧ Below w.heap.size w w' := by
  go_enter Tryz.func148, Tryz.ntmps148
  go_wp2_with fail
  refine (kindof_always _).mono ?_
  rintro e w1 ⟨rfl, hB⟩
  go_wp2_with fail
  go_ret
  exact ⟨rfl, hB⟩

set_option maxRecDepth 100000 in
set_option maxHeartbeats 2000000 in
theorem cond_always (w : World) (R : Nat) (h : Blk w R 169 #[.string ⟨#[97, 108, 119, 97, 121, 115]⟩, .int .i64 0]) :
    Calls Tryz.prog 121 #[.pointer (some ⟨R, 0, none⟩)] w fun e w' => ∃ t, e = .returned (.pointer (some ⟨t, 0, none⟩)) ∧ Blk w' t 164 #[.int .i64 8, .int .i64 0, .int .i64 0, .string ⟨#[]⟩, .string ⟨#[]⟩, .slice none 0 0, .slice none 0 0] ∧ Blk w' R 169 #[.string ⟨#[97, 108, 119, 97, 121, 115]⟩, .int .i64 6] ∧ w.heap.size ≤ t ∧ Frm (fun k => k ≠ R) w w' := by
  have H := Lib.hid h
  have hR := h.lt
  have hem : (⟨#[97, 108, 119, 97, 121, 115]⟩ : ByteArray).toList.isEmpty = false := by kernel_rfl
  clear h
  go_enter Tryz.func121, Tryz.ntmps121
  go_wp2_with (first | (go_at_call 147; go_in))
  have T0 := Lib.hid (Blk.new w 164 #[.int .i64 0, .int .i64 0, .int .i64 0, .string ⟨#[]⟩, .string ⟨#[]⟩, .slice none 0 0, .slice none 0 0])
  have R0 := Lib.hid (H.out.alloc (.cells #[.int .i64 0, .int .i64 0, .int .i64 0, .string ⟨#[]⟩, .string ⟨#[]⟩, .slice none 0 0, .slice none 0 0] 164))
  have B0 := Lib.hid ((Below.refl w.heap.size w).alloc (Nat.le_refl _) (.cells #[.int .i64 0, .int .i64 0, .int .i64 0, .string ⟨#[]⟩, .string ⟨#[]⟩, .slice none 0 0, .slice none 0 0] 164))
  refine (word_0 _ R R0.out).mono ?_
  rintro e w1 ⟨rfl, m, rfl⟩
  have T1 := Lib.hid (T0.out.drewN m); have R1 := Lib.hid (R0.out.drewN m); have B1 := Lib.hid (below_drewN B0.out m)
  clear T0 R0 B0
  generalize (w.alloc (.cells #[.int .i64 0, .int .i64 0, .int .i64 0, .string ⟨#[]⟩, .string ⟨#[]⟩, .slice none 0 0, .slice none 0 0] 164)).drewN m = W1 at *
  go_wp2_with fail
  refine (cond1_always _).mono ?_
  rintro e w2 ⟨rfl, hB⟩
  have T2 := Lib.hid (T1.out.keep hB); have R2 := Lib.hid (R1.out.keep hB); have B2 := Lib.hid (below_seq B1.out hB)
  clear hB T1 R1 B1
  have q1 := R2.out.cell 1
  have f1 := R2.out.frozen 1
  go_wp2_with fail
  have hne : w.heap.size ≠ R := by omega
  have R3 := Lib.hid (R2.out.set_ 1 (.int .i64 6)); have T3 := Lib.hid (T2.out.far (p := ⟨R, 1, none⟩) hne (.int .i64 6))
  have F3 : Hid (Frm (fun k => k ≠ R) w (w2.setCell ⟨R, 1, none⟩ (.int .i64 6))) := ⟨B2.out.os, B2.out.tape, B2.out.output, by simpa [World.setCell] using B2.out.size, fun k hk hl => (Below.heap_setCell w2 ⟨R, 1, none⟩ _ k hk).trans (B2.out.block k hl)⟩
  refine (space_6 _ R R3.out).mono ?_
  rintro e w3 ⟨rfl, m3, rfl⟩
  have R4 := Lib.hid (R3.out.drewN m3); have T4 := Lib.hid (T3.out.drewN m3); have F4 := Lib.hid (F3.out.trans (Frm.of_below (below_drewN (Below.refl _ _) m3)))
  clear R3 T3 F3 R2 T2 B2 q1 f1
  generalize (w2.setCell ⟨R, 1, none⟩ (.int .i64 6)).drewN m3 = W4 at *
  go_wp2_with fail
  refine (kindof_always _).mono ?_
  rintro e w5 ⟨rfl, hB⟩
  have R5 := Lib.hid (R4.out.keep hB); have T5 := Lib.hid (T4.out.keep hB); have F5 := Lib.hid (F4.out.trans (Frm.of_below hB))
  clear hB R4 T4 F4
  have q0 := T5.out.cell 0
  have f0 := T5.out.frozen 0
  go_wp2_with fail
  go_ret
  refine ⟨w.heap.size, rfl, T5.out.set_ 0 _, R5.out.far (by show R ≠ w.heap.size; omega) _, Nat.le_refl _, F5.out.os, F5.out.tape, F5.out.output, by simpa [World.setCell] using F5.out.size, fun k hk hl => (Below.heap_setCell w5 _ _ k (by show k ≠ w.heap.size; omega)).trans (F5.out.block k hk hl)⟩
end Go.Proofs.YtmeipcnicfaojaaGreatDoor
