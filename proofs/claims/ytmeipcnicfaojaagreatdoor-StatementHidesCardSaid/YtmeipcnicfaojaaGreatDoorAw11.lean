/- The sanity check of the layer, its last part: it returns true. -/
import Derived.Test.YtmeipcnicfaojaaGreatDoorAw10
import Derived.Test.YtmeipcnicfaojaaGreatDoorStSame
namespace Go.Proofs.YtmeipcnicfaojaaGreatDoor
open Go.RowKit

theorem always_any (w : World) : Calls Tryz.prog 29 #[] w fun e w' => ∃ g, e = .returned (.agg #[.slice (some ⟨g, 0, none⟩) 1 1]) ∧ Alw w' ⟨g, 0, none⟩ ∧ w.heap.size ≤ g ∧ Below w.heap.size w w' := by
  go_enter Tryz.func29, Tryz.ntmps29
  go_wp2_with fail
  have K1 : Hid (Blk ((w.alloc (.cells #[.slice (some ⟨w.heap.size + 1, 0, none⟩) 1 1] 30)).alloc (.cells #[.int .i64 8, .int .i64 0, .int .i64 0, .string ⟨#[]⟩, .string ⟨#[]⟩, .slice none 0 0] 93)) (w.heap.size + 1) 93 #[.int .i64 8, .int .i64 0, .int .i64 0, .string ⟨#[]⟩, .string ⟨#[]⟩, .slice none 0 0]) := Blk.new' _ _ _ _ (by simp)
  refine bodyPost_ret (v := .agg #[.slice (some ⟨w.heap.size + 1, 0, none⟩) 1 1]) (by simp [results, Tryz.results29, go_sem]) rfl ⟨_, rfl, ⟨K1.out.cell 0, ?_, ?_, ?_, ?_, ?_⟩, by omega, by (repeat' first | exact Below.refl _ _ | refine Below.drew ?_ | refine below_drewN ?_ _ | refine Below.alloc ?_ (by first | exact Nat.le_refl _ | omega | (simp; done) | (simp; omega)) _ | refine Below.setCell ?_ (by first | omega | (simp; done) | (simp; omega)) _)⟩
  · exact (by rw [Nat.zero_add]; exact K1.out.cell 1)
  · exact (by rw [Nat.zero_add]; exact K1.out.cell 2)
  · exact (by rw [Nat.zero_add]; exact K1.out.cell 3)
  · exact (by rw [Nat.zero_add]; exact K1.out.cell 4)
  · exact (by rw [Nat.zero_add]; exact K1.out.cell 5)

set_option maxRecDepth 100000 in
set_option maxHeartbeats 1000000 in
/-- The layer's sanity check returns true. -/
theorem awake_any (w : World) : Calls Tryz.prog 10 #[] w fun e w' => e = .returned (.bool true) ∧ Below w.heap.size w w' := by
  go_enter Tryz.func10, Tryz.ntmps10
  go_wp2_with fail
  refine (always_any _).mono ?_
  rintro e w1 ⟨g, rfl, hA, hg, hB⟩
  have lg : g < w1.heap.size := cell_lt hA.1
  have B1 := Lib.hid hB
  have A1 := Lib.hid hA
  clear hB hA
  go_wp2_with fail
  refine (bytes_always _ g 1 (Nat.le_refl _) (A1.out.keep (by (repeat' first | exact Below.refl _ _ | refine Below.drew ?_ | refine below_drewN ?_ _ | refine Below.alloc ?_ (by first | exact Nat.le_refl _ | omega | (simp; done) | (simp; omega)) _ | refine Below.setCell ?_ (by first | omega | (simp; done) | (simp; omega)) _)))).mono ?_
  rintro e w2 ⟨rfl, hB⟩
  have B2 : Hid (Below w.heap.size w w2) := below_then (B1.out.trans (by have := B1.out.size; (repeat' first | exact Below.refl _ _ | refine Below.drew ?_ | refine below_drewN ?_ _ | refine Below.alloc ?_ (by first | exact Nat.le_refl _ | omega | (simp; done) | (simp; omega)) _ | refine Below.setCell ?_ (by first | omega | (simp; done) | (simp; omega)) _))) (by have := B1.out.size; simp; omega) hB
  have K2 : Hid (Blk w2 w1.heap.size 33 #[.string ⟨#[120]⟩, .int .i64 0, .int .i64 5, .slice none 0 0, .slice (some ⟨g, 0, none⟩) 1 1, .slice none 0 0]) := Blk.keep (Blk.new _ _ _) hB
  have A2 : Hid (Alw w2 ⟨g, 0, none⟩) := (A1.out.keep (by (repeat' first | exact Below.refl _ _ | refine Below.drew ?_ | refine below_drewN ?_ _ | refine Below.alloc ?_ (by first | exact Nat.le_refl _ | omega | (simp; done) | (simp; omega)) _ | refine Below.setCell ?_ (by first | omega | (simp; done) | (simp; omega)) _))).keep hB
  clear hB
  go_wp2_with fail
  refine (read_always _).mono ?_
  rintro e w3 ⟨g', c', rfl, hA', hc', hg', hB⟩
  have lg' : g' < w3.heap.size := cell_lt hA'.1
  have B3 := Lib.hid (below_seq B2.out hB)
  have K3 := Lib.hid (K2.out.keep hB)
  have A3 : Hid (Alw w3 ⟨g, 0, none⟩) := A2.out.keep hB
  have A3' := Lib.hid hA'
  clear hB hA'
  have q0 := K3.out.cell 0
  have q1 := K3.out.cell 1
  have q2 := K3.out.cell 2
  have q3 := K3.out.cell 3
  have q4 := K3.out.cell 4
  have q5 := K3.out.cell 5
  have l3 := K3.out.lt
  have ls3 := B3.out.size
  go_wp2_with fail
  refine (stSame_any (fun _ => True) _ sAlw sAlw _ _ (by exact kAlw _ _ g' c' trivial hc' (A3'.out.keep (by (repeat' first | exact Below.refl _ _ | refine Below.drew ?_ | refine below_drewN ?_ _ | refine Below.alloc ?_ (by first | exact Nat.le_refl _ | omega | (simp; done) | (simp; omega)) _ | refine Below.setCell ?_ (by first | omega | (simp; done) | (simp; omega)) _)))) (by exact kAlw _ _ g 1 trivial (Nat.le_refl _) (A3.out.keep (by (repeat' first | exact Below.refl _ _ | refine Below.drew ?_ | refine below_drewN ?_ _ | refine Below.alloc ?_ (by first | exact Nat.le_refl _ | omega | (simp; done) | (simp; omega)) _ | refine Below.setCell ?_ (by first | omega | (simp; done) | (simp; omega)) _))))).mono ?_
  rintro e w4 ⟨r, rfl, hr, hB⟩
  obtain rfl : r = true := hr.2 rfl
  have B4 : Hid (Below w.heap.size w w4) := below_then (B3.out.trans (by (repeat' first | exact Below.refl _ _ | refine Below.drew ?_ | refine below_drewN ?_ _ | refine Below.alloc ?_ (by first | exact Nat.le_refl _ | omega | (simp; done) | (simp; omega)) _ | refine Below.setCell ?_ (by first | omega | (simp; done) | (simp; omega)) _))) (by simp; omega) hB
  have K4 : Hid (Blk w4 w1.heap.size 33 #[.string ⟨#[120]⟩, .int .i64 0, .int .i64 5, .slice none 0 0, .slice (some ⟨g, 0, none⟩) 1 1, .slice none 0 0]) := Blk.keep (K3.out.alloc _) hB
  have A4 : Hid (Alw w4 ⟨g, 0, none⟩) := (A3.out.keep (by (repeat' first | exact Below.refl _ _ | refine Below.drew ?_ | refine below_drewN ?_ _ | refine Below.alloc ?_ (by first | exact Nat.le_refl _ | omega | (simp; done) | (simp; omega)) _ | refine Below.setCell ?_ (by first | omega | (simp; done) | (simp; omega)) _))).keep hB
  clear hB hr q0 q1 q2 q3 q4 q5
  have q0 := K4.out.cell 0
  have q1 := K4.out.cell 1
  have q2 := K4.out.cell 2
  have q3 := K4.out.cell 3
  have q4 := K4.out.cell 4
  have q5 := K4.out.cell 5
  go_wp2_with fail
  refine (check_always _ ⟨g, 0, none⟩ 1 A4.out).mono ?_
  rintro e w5 ⟨rfl, hB⟩
  have B5 := Lib.hid (below_seq B4.out hB)
  clear hB
  go_wp2_with fail
  go_ret
  exact ⟨rfl, B5.out⟩
end Go.Proofs.YtmeipcnicfaojaaGreatDoor
