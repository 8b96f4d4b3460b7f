/- The sanity check of the layer, its tenth part: Check of the one statement by the empty form. -/
import Derived.Test.YtmeipcnicfaojaaGreatDoorAw9
namespace Go.Proofs.YtmeipcnicfaojaaGreatDoor
open Go.RowKit

theorem valid_empty (w : World) : Calls Tryz.prog 57 #[.agg #[.string ⟨#[]⟩, .slice none 0 0]] w fun e w' => e = .returned (.bool true) ∧ Below w.heap.size w w' := by
  go_enter Tryz.func57, Tryz.ntmps57
  go_wp2_with fail
  go_loopw [20] (fun v20 wr => v20 = .int .i64 0 ∧ Hid (Below w.heap.size w wr)) (fun _ _ => 0)
  case atStart => exact ⟨rfl, (Below.refl _ _).alloc (Nat.le_refl _) _⟩
  case round =>
    obtain ⟨rfl, HB⟩ := hrel
    go_wp2
    go_ret
    exact ⟨rfl, HB.out⟩

theorem indexf_empty (w : World) (f : Value) : Calls Tryz.prog 104 #[.slice none 0 0, f] w fun e w' => e = .returned (.int .i64 (-1)) ∧ Below w.heap.size w w' := by
  go_enter Tryz.func104, Tryz.ntmps104
  go_wp2_with fail
  go_loopw [8] (fun v8 wr => v8 = .int .i64 0 ∧ Hid (Below w.heap.size w wr)) (fun _ _ => 0)
  case atStart => exact ⟨rfl, Below.refl _ _⟩
  case round =>
    obtain ⟨rfl, HB⟩ := hrel
    go_wp2
    go_ret
    exact ⟨rfl, HB.out⟩

theorem containsf_empty (w : World) (f : Value) : Calls Tryz.prog 91 #[.slice none 0 0, f] w fun e w' => e = .returned (.bool false) ∧ Below w.heap.size w w' := by
  go_enter Tryz.func91, Tryz.ntmps91
  go_wp2_with fail
  refine (indexf_empty _ _).mono ?_
  rintro e w1 ⟨rfl, hb⟩
  have HB := Lib.hid hb; clear hb
  go_wp2_with fail
  go_ret
  exact ⟨rfl, HB.out⟩

theorem answers_empty (w : World) : Calls Tryz.prog 58 #[.agg #[.string ⟨#[]⟩, .slice none 0 0], .slice none 0 0] w fun e w' => e = .returned (.bool true) ∧ Below w.heap.size w w' := by
  have hmm := @run_makeMap Tryz.prog
  go_enter Tryz.func58, Tryz.ntmps58
  go_wp2_with fail
  go_loopw [13] (fun v13 wr => v13 = .int .i64 0 ∧ Hid (Below w.heap.size w wr) ∧ Hid (wr.cell? ⟨w.heap.size, 0, none⟩ = some (.string ⟨#[]⟩)) ∧ Hid (wr.cell? ⟨w.heap.size, 1, none⟩ = some (.slice none 0 0))) (fun _ _ => 0)
  case atStart => exact ⟨rfl, by show Below _ _ _; (repeat' first | exact Below.refl _ _ | refine Below.drew ?_ | refine below_drewN ?_ _ | refine Below.alloc ?_ (by first | exact Nat.le_refl _ | omega | (simp; done) | (simp; omega)) _ | refine Below.setCell ?_ (by first | omega | (simp; done) | (simp; omega)) _), by show _ = _; go_simp, by show _ = _; go_simp⟩
  case round =>
    obtain ⟨rfl, HB, C0, C1⟩ := hrel
    have c1 := C1.out
    go_wp2_with (go_at_call 91; refine (containsf_empty _ _).mono ?_; rintro e w1 ⟨rfl, hb⟩; have HB1 := Lib.hid (below_seq HB.out hb); clear hb)
    go_ret
    exact ⟨rfl, HB1.out⟩

theorem shows_empty (w : World) (a b : Value) : Calls Tryz.prog 60 #[.agg #[a, b], .slice none 0 0] w fun e w' => e = .returned (.bool true) ∧ Below w.heap.size w w' := by
  go_enter Tryz.func60, Tryz.ntmps60
  go_wp2_with fail
  go_loopw [11] (fun v11 wr => v11 = .int .i64 0 ∧ Hid (Below w.heap.size w wr)) (fun _ _ => 0)
  case atStart => exact ⟨rfl, (Below.refl _ _).alloc (Nat.le_refl _) _⟩
  case round =>
    obtain ⟨rfl, HB⟩ := hrel
    go_wp2
    go_ret
    exact ⟨rfl, HB.out⟩

theorem asks1_always (w : World) (f : Value) : Calls Tryz.prog 95 #[.agg #[.int .i64 8, .int .i64 0, .int .i64 0, .string ⟨#[]⟩, .string ⟨#[]⟩, .slice none 0 0], f] w fun e w' => e = .returned (.bool false) ∧ Below w.heap.size w w' := by
  go_enter Tryz.func95, Tryz.ntmps95
  go_wp2_with fail
  go_ret
  exact ⟨rfl, by (repeat' first | exact Below.refl _ _ | refine Below.drew ?_ | refine below_drewN ?_ _ | refine Below.alloc ?_ (by first | exact Nat.le_refl _ | omega | (simp; done) | (simp; omega)) _ | refine Below.setCell ?_ (by first | omega | (simp; done) | (simp; omega)) _)⟩

theorem indexft_always (w : World) (ad : Addr) (c : Nat) (f : Value) (h : Alw w ad) : Calls Tryz.prog 125 #[.slice (some ad) 1 c, .func (Fn.func 95) #[] #[f]] w fun e w' => e = .returned (.int .i64 (-1)) ∧ Below w.heap.size w w' := by
  have H := Lib.hid h
  clear h
  go_enter Tryz.func125, Tryz.ntmps125
  go_wp2_with fail
  go_loopw [8] (fun v8 wr => ∃ k : Nat, k ≤ 1 ∧ v8 = .int .i64 k ∧ Hid (Below w.heap.size w wr)) (fun v8 _ => 1 - (intOf v8).toNat)
  case atStart => exact ⟨0, Nat.zero_le _, rfl, Below.refl _ _⟩
  case round =>
    obtain ⟨k, hk, rfl, HB⟩ := hrel
    by_cases hlt : k < 1
    · obtain rfl : k = 0 := by omega
      obtain ⟨c0, c1, c2, c3, c4, c5⟩ := H.out.keep HB.out
      go_wp2_with fail
      refine (asks1_always _ f).mono ?_
      rintro e w1 ⟨rfl, hb⟩
      have HB1 := Lib.hid (below_seq HB.out hb); clear hb
      go_wp2_with fail
      go_roundw
      case rel => exact ⟨1, by omega, by go_num, HB1.out⟩
      case measure => simp [intOf]
    · go_wp2
      go_ret
      exact ⟨rfl, HB.out⟩

theorem containst_always (w : World) (ad : Addr) (c : Nat) (f : Value) (h : Alw w ad) : Calls Tryz.prog 94 #[.slice (some ad) 1 c, .func (Fn.func 95) #[] #[f]] w fun e w' => e = .returned (.bool false) ∧ Below w.heap.size w w' := by
  have H := Lib.hid h
  clear h
  go_enter Tryz.func94, Tryz.ntmps94
  go_wp2_with fail
  refine (indexft_always _ ad c f H.out).mono ?_
  rintro e w1 ⟨rfl, hb⟩
  have HB := Lib.hid hb; clear hb
  go_wp2_with fail
  go_ret
  exact ⟨rfl, HB.out⟩

theorem condvalid_always (w : World) (ad : Addr) (c : Nat) (h : Alw w ad) : Calls Tryz.prog 93 #[.agg #[.slice (some ad) 1 c]] w fun e w' => e = .returned (.bool true) ∧ Below w.heap.size w w' := by
  have H := Lib.hid h
  clear h
  go_enter Tryz.func93, Tryz.ntmps93
  go_wp2_with fail
  refine (right_always _ ad c (H.out.keep (by (repeat' first | exact Below.refl _ _ | refine Below.drew ?_ | refine below_drewN ?_ _ | refine Below.alloc ?_ (by first | exact Nat.le_refl _ | omega | (simp; done) | (simp; omega)) _ | refine Below.setCell ?_ (by first | omega | (simp; done) | (simp; omega)) _)))).mono ?_
  rintro e w1 ⟨rfl, hB⟩
  have B : Hid (Below w.heap.size w w1) := below_then (by (repeat' first | exact Below.refl _ _ | refine Below.drew ?_ | refine below_drewN ?_ _ | refine Below.alloc ?_ (by first | exact Nat.le_refl _ | omega | (simp; done) | (simp; omega)) _ | refine Below.setCell ?_ (by first | omega | (simp; done) | (simp; omega)) _)) (by simp) hB
  clear hB
  go_wp2_with fail
  go_ret
  exact ⟨rfl, B.out⟩

theorem asks_always (w : World) (ad : Addr) (c : Nat) (h : Alw w ad) : Calls Tryz.prog 59 #[.agg #[.string ⟨#[]⟩, .slice none 0 0], .agg #[.slice (some ad) 1 c]] w fun e w' => e = .returned (.bool true) ∧ Below w.heap.size w w' := by
  have H := Lib.hid h
  clear h
  go_enter Tryz.func59, Tryz.ntmps59
  go_wp2_with fail
  refine (condvalid_always _ ad c (H.out.keep (by (repeat' first | exact Below.refl _ _ | refine Below.drew ?_ | refine below_drewN ?_ _ | refine Below.alloc ?_ (by first | exact Nat.le_refl _ | omega | (simp; done) | (simp; omega)) _ | refine Below.setCell ?_ (by first | omega | (simp; done) | (simp; omega)) _)))).mono ?_
  rintro e w1 ⟨rfl, hB⟩
  have B : Hid (Below w.heap.size w w1) := below_then (by (repeat' first | exact Below.refl _ _ | refine Below.drew ?_ | refine below_drewN ?_ _ | refine Below.alloc ?_ (by first | exact Nat.le_refl _ | omega | (simp; done) | (simp; omega)) _ | refine Below.setCell ?_ (by first | omega | (simp; done) | (simp; omega)) _)) (by simp; omega) hB
  have q0 : w1.cell? ⟨w.heap.size + 1, 0, none⟩ = some (.slice (some ad) 1 c) := cell_keep (by go_simp) hB
  clear hB
  go_wp2_with fail
  refine (containst_always _ ad c _ (H.out.keep B.out)).mono ?_
  rintro e w2 ⟨rfl, hB⟩
  have B2 := Lib.hid (below_seq B.out hB)
  clear hB
  go_wp2_with fail
  go_ret
  exact ⟨rfl, B2.out⟩

set_option maxRecDepth 100000 in
set_option maxHeartbeats 1000000 in
theorem check_always (w : World) (ad : Addr) (c : Nat) (h : Alw w ad) : Calls Tryz.prog 21 #[.agg #[.string ⟨#[]⟩, .slice none 0 0], .agg #[.string ⟨#[120]⟩, .int .i64 0, .int .i64 5, .slice none 0 0, .slice (some ad) 1 c, .slice none 0 0]] w fun e w' => e = .returned (.int .i64 0) ∧ Below w.heap.size w w' := by
  have H := Lib.hid h
  clear h
  go_enter Tryz.func21, Tryz.ntmps21
  go_wp2_with fail
  refine (valid_empty _).mono ?_
  rintro e w1 ⟨rfl, hB⟩
  have B : Hid (Below w.heap.size w w1) := below_then (by (repeat' first | exact Below.refl _ _ | refine Below.drew ?_ | refine below_drewN ?_ _ | refine Below.alloc ?_ (by first | exact Nat.le_refl _ | omega | (simp; done) | (simp; omega)) _ | refine Below.setCell ?_ (by first | omega | (simp; done) | (simp; omega)) _)) (by simp; omega) hB
  have K0 : Hid (Blk w1 w.heap.size 37 #[.string ⟨#[]⟩, .slice none 0 0]) := Blk.keep ((Blk.new _ _ _).alloc _) hB
  have K1 : Hid (Blk w1 (w.heap.size + 1) 33 #[.string ⟨#[120]⟩, .int .i64 0, .int .i64 5, .slice none 0 0, .slice (some ad) 1 c, .slice none 0 0]) := Blk.keep (Blk.new' _ _ _ _ (by simp)) hB
  clear hB
  have a0 := K0.out.cell 0
  have a1 := K0.out.cell 1
  have q0 := K1.out.cell 0
  have q1 := K1.out.cell 1
  have q2 := K1.out.cell 2
  have q3 := K1.out.cell 3
  have q4 := K1.out.cell 4
  have q5 := K1.out.cell 5
  go_wp2_with fail
  refine (answers_empty _).mono ?_
  rintro e w2 ⟨rfl, hB⟩
  have B2 := Lib.hid (below_seq B.out hB)
  have L0 := Lib.hid (K0.out.keep hB)
  have L1 := Lib.hid (K1.out.keep hB)
  clear hB a0 a1 q0 q1 q2 q3 q4 q5
  have a0 := L0.out.cell 0
  have a1 := L0.out.cell 1
  have q4 := L1.out.cell 4
  go_wp2_with fail
  refine (asks_always _ ad c (H.out.keep B2.out)).mono ?_
  rintro e w3 ⟨rfl, hB⟩
  have B3 := Lib.hid (below_seq B2.out hB)
  have M0 := Lib.hid (L0.out.keep hB)
  have M1 := Lib.hid (L1.out.keep hB)
  clear hB a0 a1 q4
  have a0 := M0.out.cell 0
  have a1 := M0.out.cell 1
  have q5 := M1.out.cell 5
  go_wp2_with fail
  refine (shows_empty _ _ _).mono ?_
  rintro e w4 ⟨rfl, hB⟩
  have B4 := Lib.hid (below_seq B3.out hB)
  clear hB
  go_wp2_with fail
  go_ret
  exact ⟨rfl, B4.out⟩
end Go.Proofs.YtmeipcnicfaojaaGreatDoor
