/- The sanity check of the layer, its first part: the one condition 'always' is printed. -/
import Derived.Test.YtmeipcnicfaojaaGreatDoorKitForm
import Derived.Deep.RegionHeld3
namespace Go.Proofs.YtmeipcnicfaojaaGreatDoor
open Go.RowKit

theorem bare_always (w : World) : Calls Tryz.prog 141 #[.agg #[.int .i64 8, .int .i64 0, .int .i64 0, .string ⟨#[]⟩, .string ⟨#[]⟩, .slice none 0 0]] w fun e w' => e = .returned (.bool true) ∧ Below w.heap.size w w' := by
  go_enter Tryz.func141, Tryz.ntmps141
  go_wp2
  go_ret
  exact ⟨rfl, by (repeat' first | exact Below.refl _ _ | refine Below.drew ?_ | refine below_drewN ?_ _ | refine Below.alloc ?_ (by first | exact Nat.le_refl _ | (simp; done) | (simp; omega)) _ | refine Below.setCell ?_ (by first | (simp; done) | (simp; omega)) _)⟩
theorem several_8 (w : World) : Calls Tryz.prog 142 #[.int .i64 8] w fun e w' => e = .returned (.bool false) ∧ w' = w := by
  go_enter Tryz.func142, Tryz.ntmps142
  go_wp2
  go_ret
  exact ⟨rfl, rfl⟩
/-- The one term 'always' lies at ad. -/
def Alw (w : World) (ad : Addr) : Prop := w.cell? ad = some (.int .i64 8) ∧ w.cell? ⟨ad.block, ad.off + 1, none⟩ = some (.int .i64 0) ∧ w.cell? ⟨ad.block, ad.off + 2, none⟩ = some (.int .i64 0) ∧ w.cell? ⟨ad.block, ad.off + 3, none⟩ = some (.string ⟨#[]⟩) ∧ w.cell? ⟨ad.block, ad.off + 4, none⟩ = some (.string ⟨#[]⟩) ∧ w.cell? ⟨ad.block, ad.off + 5, none⟩ = some (.slice none 0 0)
theorem Alw.keep {w w' : World} {ad : Addr} (h : Alw w ad) (hb : Below w.heap.size w w') : Alw w' ad := by
  have hl := cell_lt h.1
  have hh : w'.heap[ad.block]? = w.heap[ad.block]? := hb.block _ hl
  exact ⟨(World.cell?_of_block (w := w) hh).trans h.1, (World.cell?_of_block (w := w) (a := ⟨ad.block, ad.off + 1, none⟩) hh).trans h.2.1, (World.cell?_of_block (w := w) (a := ⟨ad.block, ad.off + 2, none⟩) hh).trans h.2.2.1, (World.cell?_of_block (w := w) (a := ⟨ad.block, ad.off + 3, none⟩) hh).trans h.2.2.2.1,
    (World.cell?_of_block (w := w) (a := ⟨ad.block, ad.off + 4, none⟩) hh).trans h.2.2.2.2.1, (World.cell?_of_block (w := w) (a := ⟨ad.block, ad.off + 5, none⟩) hh).trans h.2.2.2.2.2⟩
theorem alwS {w W : World} {ad : Addr} (h : Alw w ad) (hb : Below w.heap.size w W) : W.cell? ad = some (.int .i64 8) ∧ W.cell? ⟨ad.block, ad.off + 1, none⟩ = some (.int .i64 0) ∧ W.cell? ⟨ad.block, ad.off + 2, none⟩ = some (.int .i64 0) ∧ W.cell? ⟨ad.block, ad.off + 3, none⟩ = some (.string ⟨#[]⟩) ∧ W.cell? ⟨ad.block, ad.off + 4, none⟩ = some (.string ⟨#[]⟩) ∧ W.cell? ⟨ad.block, ad.off + 5, none⟩ = some (.slice none 0 0) ∧ Hid (Below w.heap.size w W) :=
  have k := h.keep hb
  ⟨k.1, k.2.1, k.2.2.1, k.2.2.2.1, k.2.2.2.2.1, k.2.2.2.2.2, hb⟩

set_option maxRecDepth 100000 in
set_option maxHeartbeats 2000000 in
theorem grow_always (w : World) (ad : Addr) (c : Nat) (h : Alw w ad) :
    Calls Tryz.prog 114 #[.slice (some ad) 1 c, .int .i64 0, .int .i64 6] w fun e w' => ∃ b, e = .returned (.tuple #[.pointer (some ⟨b, 0, none⟩), .int .i64 1, .bool true]) ∧
      Blk w' b 164 #[.int .i64 8, .int .i64 0, .int .i64 0, .string ⟨#[]⟩, .string ⟨#[]⟩, .slice none 0 0, .slice none 0 0] ∧ w.heap.size ≤ b ∧ Below w.heap.size w w' := by
  have H := Lib.hid h
  obtain ⟨h0, h1, h2, h3, h4, h5⟩ := h
  go_enter Tryz.func114, Tryz.ntmps114
  go_upto_region 1 with fail
  go_cut [56] (fun v56 wx => v56 = .bool false ∧ Hid (Below w.heap.size w wx))
  case first =>
    go_region_held3 (fun W => W.cell? ad = some (.int .i64 8) ∧ W.cell? ⟨ad.block, ad.off + 1, none⟩ = some (.int .i64 0) ∧ W.cell? ⟨ad.block, ad.off + 2, none⟩ = some (.int .i64 0) ∧ W.cell? ⟨ad.block, ad.off + 3, none⟩ = some (.string ⟨#[]⟩) ∧ W.cell? ⟨ad.block, ad.off + 4, none⟩ = some (.string ⟨#[]⟩) ∧ W.cell? ⟨ad.block, ad.off + 5, none⟩ = some (.slice none 0 0) ∧ Hid (Below w.heap.size w W)) (first | assumption | exact alwS H.out (below_seq (by (repeat' first | exact Below.refl _ _ | refine Below.drew ?_ | refine below_drewN ?_ _ | refine Below.alloc ?_ (by first | exact Nat.le_refl _ | (simp; done) | (simp; omega)) _ | refine Below.setCell ?_ (by first | (simp; done) | (simp; omega)) _)) hb1) | exact alwS H.out (by (repeat' first | exact Below.refl _ _ | refine Below.drew ?_ | refine below_drewN ?_ _ | refine Below.alloc ?_ (by first | exact Nat.le_refl _ | (simp; done) | (simp; omega)) _ | refine Below.setCell ?_ (by first | (simp; done) | (simp; omega)) _))) (first
      | (go_at_call 141
         refine (bare_always _).mono ?_
         rintro e w1 ⟨rfl, hb1⟩)
      | (go_at_call 142
         refine (several_8 _).mono ?_
         rintro e w1 ⟨rfl, rfl⟩))
    go_wp2_with fail
    go_meet
    obtain ⟨_, _, _, _, _, _, hB⟩ := by assumption
    exact ⟨rfl, hB⟩
  obtain ⟨rfl, hB⟩ := hcut
  have HA := Lib.hid (H.out.keep hB.out)
  obtain ⟨h0, h1, h2, h3, h4, h5⟩ := H.out.keep hB.out
  have hl := cell_lt h0
  go_wp2
  go_loopw [10, 71] (fun v10 v71 wr => v10 = .int .i64 1 ∧ v71 = .int .i64 0 ∧ wr = wc.alloc (.cells #[.int .i64 8, .int .i64 0, .int .i64 0, .string ⟨#[]⟩, .string ⟨#[]⟩, .slice none 0 0, .slice none 0 0] 164)) (fun _ _ _ => 0)
  case atStart => exact ⟨rfl, rfl, rfl⟩
  case round =>
    obtain ⟨rfl, rfl, rfl⟩ := hrel
    go_wp2
    go_ret3
    exact ⟨_, rfl, Blk.new _ _ _, hB.out.size, below_seq hB.out (by (repeat' first | exact Below.refl _ _ | refine Below.drew ?_ | refine below_drewN ?_ _ | refine Below.alloc ?_ (by first | exact Nat.le_refl _ | (simp; done) | (simp; omega)) _ | refine Below.setCell ?_ (by first | (simp; done) | (simp; omega)) _))⟩

theorem root_always (w : World) (ad : Addr) (c : Nat) (h : Alw w ad) :
    Calls Tryz.prog 80 #[.agg #[.slice (some ad) 1 c]] w fun e w' => ∃ b, e = .returned (.tuple #[.pointer (some ⟨b, 0, none⟩), .bool true]) ∧
      Blk w' b 164 #[.int .i64 8, .int .i64 0, .int .i64 0, .string ⟨#[]⟩, .string ⟨#[]⟩, .slice none 0 0, .slice none 0 0] ∧ w.heap.size ≤ b ∧ Below w.heap.size w w' := by
  have H := Lib.hid h
  clear h
  go_enter Tryz.func80, Tryz.ntmps80
  go_wp2_with fail
  refine (grow_always _ ad c (H.out.keep (by (repeat' first | exact Below.refl _ _ | refine Below.drew ?_ | refine below_drewN ?_ _ | refine Below.alloc ?_ (by first | exact Nat.le_refl _ | (simp; done) | (simp; omega)) _ | refine Below.setCell ?_ (by first | (simp; done) | (simp; omega)) _)))).mono ?_
  rintro e w1 ⟨b, rfl, hT, hb, hB⟩
  have T := Lib.hid hT; have B := Lib.hid hB
  have hR := (Blk.new w 30 #[.slice (some ad) 1 c]).keep hB
  have q0 := hR.cell 0
  clear hT hB hR
  go_wp2_with fail
  go_quiet (fail)
  go_wp2
  go_ret2
  exact ⟨b, rfl, T.out.drewN _, by have := B.out.size; simp at hb; omega, below_drewN (below_seq (by (repeat' first | exact Below.refl _ _ | refine Below.drew ?_ | refine below_drewN ?_ _ | refine Below.alloc ?_ (by first | exact Nat.le_refl _ | (simp; done) | (simp; omega)) _ | refine Below.setCell ?_ (by first | (simp; done) | (simp; omega)) _)) B.out) _⟩
theorem names_any (w : World) : Calls Tryz.prog 115 #[] w fun e w' => e = .returned (.slice (some ⟨w.heap.size, 0, none⟩) 9 9) ∧ w' = w.alloc (.cells #[.string ⟨#[]⟩, .string ⟨#[97, 108, 108]⟩, .string ⟨#[97, 110, 121]⟩, .string ⟨#[114, 101, 112, 111, 114, 116, 101, 114, 115]⟩, .string ⟨#[100, 101, 112, 97, 114, 116, 109, 101, 110, 116, 115]⟩, .string ⟨#[121, 101, 97, 114, 115]⟩, .string ⟨#[110, 111, 116, 102, 105, 114, 115, 116]⟩, .string ⟨#[115, 97, 121, 115]⟩, .string ⟨#[97, 108, 119, 97, 121, 115]⟩] 9) := by
  go_enter Tryz.func115, Tryz.ntmps115
  go_wp2
  go_ret
  exact ⟨rfl, rfl⟩
set_option maxRecDepth 100000 in
theorem text_always (w : World) (b : Nat) (h : Blk w b 164 #[.int .i64 8, .int .i64 0, .int .i64 0, .string ⟨#[]⟩, .string ⟨#[]⟩, .slice none 0 0, .slice none 0 0]) : Calls Tryz.prog 81 #[.pointer (some ⟨b, 0, none⟩)] w fun e w' => e = .returned (.string ⟨#[97, 108, 119, 97, 121, 115]⟩) ∧ Below w.heap.size w w' := by
  have q0 := h.cell 0
  have hl := h.lt
  go_enter Tryz.func81, Tryz.ntmps81
  go_wp2_with fail
  go_region_with (
    (go_at_call 115
     refine (names_any _).mono ?_
     rintro e w1 ⟨rfl, rfl⟩))
  all_goals
    go_wp2
    go_ret
    exact ⟨rfl, by (repeat' first | exact Below.refl _ _ | refine Below.drew ?_ | refine below_drewN ?_ _ | refine Below.alloc ?_ (by first | exact Nat.le_refl _ | (simp; done) | (simp; omega)) _ | refine Below.setCell ?_ (by first | (simp; done) | (simp; omega)) _)⟩
theorem print_always (w : World) (ad : Addr) (c : Nat) (h : Alw w ad) :
    Calls Tryz.prog 39 #[.agg #[.slice (some ad) 1 c]] w fun e w' => e = .returned (.tuple #[.string ⟨#[97, 108, 119, 97, 121, 115]⟩, .int .i64 0]) ∧ Below w.heap.size w w' := by
  have H := Lib.hid h
  clear h
  go_enter Tryz.func39, Tryz.ntmps39
  go_wp2_with fail
  refine (root_always _ ad c (H.out.keep (by (repeat' first | exact Below.refl _ _ | refine Below.drew ?_ | refine below_drewN ?_ _ | refine Below.alloc ?_ (by first | exact Nat.le_refl _ | (simp; done) | (simp; omega)) _ | refine Below.setCell ?_ (by first | (simp; done) | (simp; omega)) _)))).mono ?_
  rintro e w1 ⟨b, rfl, hT, hb, hB⟩
  have T := Lib.hid hT; have B := Lib.hid (below_seq ((Below.refl _ _).alloc (Nat.le_refl _) _) hB)
  clear hT hB
  go_wp2_with fail
  refine (text_always _ b T.out).mono ?_
  rintro e w2 ⟨rfl, hB2⟩
  have B2 := Lib.hid (below_seq B.out hB2)
  clear hB2
  go_wp2_with fail
  go_ret2
  exact ⟨rfl, B2.out⟩
end Go.Proofs.YtmeipcnicfaojaaGreatDoor
