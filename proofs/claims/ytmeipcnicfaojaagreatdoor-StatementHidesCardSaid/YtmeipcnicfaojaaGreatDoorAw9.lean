/- The sanity check of the layer, its ninth part: Read of the one statement. -/
import Derived.Test.YtmeipcnicfaojaaGreatDoorAw8
namespace Go.Proofs.YtmeipcnicfaojaaGreatDoor
open Go.RowKit

theorem Alw.block {w w' : World} {ad : Addr} (h : Alw w ad) (hh : w'.heap[ad.block]? = w.heap[ad.block]?) : Alw w' ad :=
  ⟨(World.cell?_of_block (w := w) hh).trans h.1, (World.cell?_of_block (w := w) (a := ⟨ad.block, ad.off + 1, none⟩) hh).trans h.2.1, (World.cell?_of_block (w := w) (a := ⟨ad.block, ad.off + 2, none⟩) hh).trans h.2.2.1, (World.cell?_of_block (w := w) (a := ⟨ad.block, ad.off + 3, none⟩) hh).trans h.2.2.2.1,
    (World.cell?_of_block (w := w) (a := ⟨ad.block, ad.off + 4, none⟩) hh).trans h.2.2.2.2.1, (World.cell?_of_block (w := w) (a := ⟨ad.block, ad.off + 5, none⟩) hh).trans h.2.2.2.2.2⟩
theorem cell_six {w : World} {g V : Nat} {v a0 a1 a2 a3 a4 a5 : Value} (h : w.cell? ⟨V, 0, none⟩ = some v) (hne : V ≠ g) : ((((((w.setCell ⟨g, 0, none⟩ a0).setCell ⟨g, 1, none⟩ a1).setCell ⟨g, 2, none⟩ a2).setCell ⟨g, 3, none⟩ a3).setCell ⟨g, 4, none⟩ a4).setCell ⟨g, 5, none⟩ a5).cell? ⟨V, 0, none⟩ = some v := by
  have hh := six_far w g 0 a0 a1 a2 a3 a4 a5 V hne
  exact (World.cell?_of_block (w := w) (a := ⟨V, 0, none⟩) hh).trans h

theorem Frm.six {ok : Nat → Prop} {a w : World} (h : Frm ok a w) {g : Nat} (hg : a.heap.size ≤ g) (a0 a1 a2 a3 a4 a5 : Value) : Frm ok a ((((((w.setCell ⟨g, 0, none⟩ a0).setCell ⟨g, 1, none⟩ a1).setCell ⟨g, 2, none⟩ a2).setCell ⟨g, 3, none⟩ a3).setCell ⟨g, 4, none⟩ a4).setCell ⟨g, 5, none⟩ a5) := by
  have hB : ∀ k, k ≠ g → ((((((w.setCell ⟨g, 0, none⟩ a0).setCell ⟨g, 1, none⟩ a1).setCell ⟨g, 2, none⟩ a2).setCell ⟨g, 3, none⟩ a3).setCell ⟨g, 4, none⟩ a4).setCell ⟨g, 5, none⟩ a5).heap[k]? = w.heap[k]? := fun k hk => by
    rw [Below.heap_setCell _ _ _ _ hk, Below.heap_setCell _ _ _ _ hk, Below.heap_setCell _ _ _ _ hk, Below.heap_setCell _ _ _ _ hk, Below.heap_setCell _ _ _ _ hk, Below.heap_setCell _ _ _ _ hk]
  exact ⟨by simpa [World.setCell] using h.os, by simpa [World.setCell] using h.tape, by simpa [World.setCell] using h.output, by simpa [World.setCell] using h.size, fun k ho hk => (hB k (by omega)).trans (h.block k ho hk)⟩
theorem Blk.six {w : World} {g : Nat} {t : TypeId} {b0 b1 b2 b3 b4 b5 : Value} (h : Blk w g t #[b0, b1, b2, b3, b4, b5]) (a0 a1 a2 a3 a4 a5 : Value) : Blk ((((((w.setCell ⟨g, 0, none⟩ a0).setCell ⟨g, 1, none⟩ a1).setCell ⟨g, 2, none⟩ a2).setCell ⟨g, 3, none⟩ a3).setCell ⟨g, 4, none⟩ a4).setCell ⟨g, 5, none⟩ a5) g t #[a0, a1, a2, a3, a4, a5] :=
  (((((h.set_ 0 a0).set_ 1 a1).set_ 2 a2).set_ 3 a3).set_ 4 a4).set_ 5 a5
theorem Blk.six_far {w : World} {g k : Nat} {t : TypeId} {cs : Array Value} (h : Blk w k t cs) (hne : k ≠ g) (a0 a1 a2 a3 a4 a5 : Value) : Blk ((((((w.setCell ⟨g, 0, none⟩ a0).setCell ⟨g, 1, none⟩ a1).setCell ⟨g, 2, none⟩ a2).setCell ⟨g, 3, none⟩ a3).setCell ⟨g, 4, none⟩ a4).setCell ⟨g, 5, none⟩ a5) k t cs :=
  (Go.Proofs.YtmeipcnicfaojaaGreatDoor.six_far w g 0 a0 a1 a2 a3 a4 a5 k hne).trans h

set_option maxRecDepth 100000 in
set_option maxHeartbeats 1000000 in
theorem read_always (w : World) :
    Calls Tryz.prog 15 #[.string ⟨#[2, 120, 0, 10, 0, 12, 97, 108, 119, 97, 121, 115, 0]⟩] w fun e w' => ∃ g c, e = .returned (.tuple #[.agg #[.string ⟨#[120]⟩, .int .i64 0, .int .i64 5, .slice none 0 0, .slice (some ⟨g, 0, none⟩) 1 c, .slice none 0 0], .int .i64 0]) ∧ Alw w' ⟨g, 0, none⟩ ∧ 1 ≤ c ∧ w.heap.size ≤ g ∧ Below w.heap.size w w' := by
  go_enter Tryz.func15, Tryz.ntmps15
  go_wp2_with fail
  have O0 : Hid (Blk (((w.alloc (.cells #[.string ⟨#[]⟩, .int .i64 0, .int .i64 0, .slice none 0 0, .slice none 0 0, .slice none 0 0] 33)).alloc (.cells #[.string ⟨#[2, 120, 0, 10, 0, 12, 97, 108, 119, 97, 121, 115, 0]⟩, .int .i64 0, .bool false] 86)).alloc (.cells #[.pointer (some ⟨w.heap.size + 1, 0, none⟩)] 84)) w.heap.size 33 #[.string ⟨#[]⟩, .int .i64 0, .int .i64 0, .slice none 0 0, .slice none 0 0, .slice none 0 0]) := ((Blk.new w 33 #[.string ⟨#[]⟩, .int .i64 0, .int .i64 0, .slice none 0 0, .slice none 0 0, .slice none 0 0]).alloc _).alloc _
  have R0 : Hid (Blk (((w.alloc (.cells #[.string ⟨#[]⟩, .int .i64 0, .int .i64 0, .slice none 0 0, .slice none 0 0, .slice none 0 0] 33)).alloc (.cells #[.string ⟨#[2, 120, 0, 10, 0, 12, 97, 108, 119, 97, 121, 115, 0]⟩, .int .i64 0, .bool false] 86)).alloc (.cells #[.pointer (some ⟨w.heap.size + 1, 0, none⟩)] 84)) (w.heap.size + 1) 86 #[.string ⟨#[2, 120, 0, 10, 0, 12, 97, 108, 119, 97, 121, 115, 0]⟩, .int .i64 0, .bool false]) := (Blk.new' _ _ _ _ (by simp)).alloc _
  have V0 : Hid (Blk (((w.alloc (.cells #[.string ⟨#[]⟩, .int .i64 0, .int .i64 0, .slice none 0 0, .slice none 0 0, .slice none 0 0] 33)).alloc (.cells #[.string ⟨#[2, 120, 0, 10, 0, 12, 97, 108, 119, 97, 121, 115, 0]⟩, .int .i64 0, .bool false] 86)).alloc (.cells #[.pointer (some ⟨w.heap.size + 1, 0, none⟩)] 84)) (w.heap.size + 1 + 1) 84 #[.pointer (some ⟨w.heap.size + 1, 0, none⟩)]) := Blk.new' _ _ _ _ (by simp)
  have B0 : Hid (Below w.heap.size w (((w.alloc (.cells #[.string ⟨#[]⟩, .int .i64 0, .int .i64 0, .slice none 0 0, .slice none 0 0, .slice none 0 0] 33)).alloc (.cells #[.string ⟨#[2, 120, 0, 10, 0, 12, 97, 108, 119, 97, 121, 115, 0]⟩, .int .i64 0, .bool false] 86)).alloc (.cells #[.pointer (some ⟨w.heap.size + 1, 0, none⟩)] 84))) := by
    show Below _ _ _
    (repeat' first | exact Below.refl _ _ | refine Below.drew ?_ | refine below_drewN ?_ _ | refine Below.alloc ?_ (by first | exact Nat.le_refl _ | omega | (simp; done) | (simp; omega)) _ | refine Below.setCell ?_ (by first | omega | (simp; done) | (simp; omega)) _)
  have z0 : w.heap.size + 1 + 1 < (((w.alloc (.cells #[.string ⟨#[]⟩, .int .i64 0, .int .i64 0, .slice none 0 0, .slice none 0 0, .slice none 0 0] 33)).alloc (.cells #[.string ⟨#[2, 120, 0, 10, 0, 12, 97, 108, 119, 97, 121, 115, 0]⟩, .int .i64 0, .bool false] 86)).alloc (.cells #[.pointer (some ⟨w.heap.size + 1, 0, none⟩)] 84)).heap.size := by simp
  generalize (((w.alloc (.cells #[.string ⟨#[]⟩, .int .i64 0, .int .i64 0, .slice none 0 0, .slice none 0 0, .slice none 0 0] 33)).alloc (.cells #[.string ⟨#[2, 120, 0, 10, 0, 12, 97, 108, 119, 97, 121, 115, 0]⟩, .int .i64 0, .bool false] 86)).alloc (.cells #[.pointer (some ⟨w.heap.size + 1, 0, none⟩)] 84)) = W at *
  have c00 : W.cell? ⟨w.heap.size + 1 + 1, 0, none⟩ = some (.pointer (some ⟨w.heap.size + 1, 0, none⟩)) := V0.out.cell 0
  have c0 : W.drew.cell? ⟨w.heap.size + 1 + 1, 0, none⟩ = some (.pointer (some ⟨w.heap.size + 1, 0, none⟩)) := V0.out.cell 0
  have d0 : ∀ o, (W.alloc o).drew.cell? ⟨w.heap.size + 1 + 1, 0, none⟩ = some (.pointer (some ⟨w.heap.size + 1, 0, none⟩)) := fun o => cell_keep c00 ((Below.refl _ _).alloc (Nat.le_refl _) _).drew
  go_cut [5] (fun v5 wx => ∃ g5, v5 = .pointer (some ⟨g5, 0, none⟩) ∧ w.heap.size + 1 + 1 < g5 ∧ Hid (Blk wx g5 33 #[.string ⟨#[120]⟩, .int .i64 0, .int .i64 5, .slice none 0 0, .slice none 0 0, .slice none 0 0])
    ∧ Hid (Blk wx (w.heap.size + 1) 86 #[.string ⟨#[2, 120, 0, 10, 0, 12, 97, 108, 119, 97, 121, 115, 0]⟩, .int .i64 4, .bool false]) ∧ Hid (Blk wx (w.heap.size + 1 + 1) 84 #[.pointer (some ⟨w.heap.size + 1, 0, none⟩)]) ∧ Hid (Frm (fun k => k ≠ w.heap.size + 1) W wx))
  case first =>
    go_region_held3 (fun W => W.cell? ⟨w.heap.size + 1 + 1, 0, none⟩ = some (.pointer (some ⟨w.heap.size + 1, 0, none⟩))) (first | with_reducible assumption | with_reducible exact d3 _ | with_reducible exact d2 _ | with_reducible exact d1 _ | with_reducible exact d0 _ | with_reducible exact s3 _ _ _ _ _ _) (first
    | (go_at_call 42
       refine (rtext_any _ (w.heap.size + 1) _ 0 2 ⟨#[120]⟩ text_0 (by first | exact R0.out.drew | exact (R0.out.alloc _).drew)).mono ?_
       rintro e w1 ⟨rfl, hb, hf⟩
       have R1 := Lib.hid hb
       have F1 : Hid (Frm (fun k => k ≠ w.heap.size + 1) W w1) := by first | exact Frm.trans (Frm.of_below (Below.refl W.heap.size W).drew) hf | exact Frm.trans (Frm.of_below ((Below.refl W.heap.size W).alloc (Nat.le_refl _) _).drew) hf
       have V1 : Hid (Blk w1 (w.heap.size + 1 + 1) 84 #[.pointer (some ⟨w.heap.size + 1, 0, none⟩)]) := by first | exact Blk.frm V0.out.drew hf (by show _ ≠ _; omega) | exact Blk.frm (V0.out.alloc _).drew hf (by show _ ≠ _; omega)
       first
         | have G5 := Lib.hid (G5.out.frm hf (by show _ ≠ _; have := hg5; omega))
         | (have hg5 := z0
            have hw5 := Nat.le_refl W.heap.size
            have G5 := Lib.hid (Blk.frm (Blk.new _ 33 _).drew hf (by show _ ≠ _; omega)))
         | skip
       have c1 : w1.cell? ⟨w.heap.size + 1 + 1, 0, none⟩ = some (.pointer (some ⟨w.heap.size + 1, 0, none⟩)) := V1.out.cell 0
       have d1 : ∀ o, (w1.alloc o).cell? ⟨w.heap.size + 1 + 1, 0, none⟩ = some (.pointer (some ⟨w.heap.size + 1, 0, none⟩)) := fun o => cell_keep c1 ((Below.refl _ _).alloc (Nat.le_refl _) _)
       have z1 : w.heap.size + 1 + 1 < w1.heap.size := by have := F1.out.size; omega
       clear hb hf)
    | (go_at_call 43
       refine (rnum_any _ (w.heap.size + 1) _ 2 0 3 int_2 (by first | exact R1.out | exact (R1.out.alloc _))).mono ?_
       rintro e w2 ⟨rfl, hb, hf⟩
       have R2 := Lib.hid hb
       have F2 : Hid (Frm (fun k => k ≠ w.heap.size + 1) W w2) := by first | exact Frm.trans F1.out hf | exact Frm.trans (Frm.trans F1.out (Frm.of_below ((Below.refl _ _).alloc (Nat.le_refl _) _))) hf
       have V2 : Hid (Blk w2 (w.heap.size + 1 + 1) 84 #[.pointer (some ⟨w.heap.size + 1, 0, none⟩)]) := by first | exact Blk.frm V1.out hf (by show _ ≠ _; omega) | exact Blk.frm (V1.out.alloc _) hf (by show _ ≠ _; omega)
       first
         | have G5 := Lib.hid (G5.out.frm hf (by show _ ≠ _; have := hg5; omega))
         | (have hg5 := z1
            have hw5 := F1.out.size
            have G5 := Lib.hid (Blk.frm (Blk.new _ 33 _) hf (by show _ ≠ _; omega)))
         | skip
       have c2 : w2.cell? ⟨w.heap.size + 1 + 1, 0, none⟩ = some (.pointer (some ⟨w.heap.size + 1, 0, none⟩)) := V2.out.cell 0
       have d2 : ∀ o, (w2.alloc o).cell? ⟨w.heap.size + 1 + 1, 0, none⟩ = some (.pointer (some ⟨w.heap.size + 1, 0, none⟩)) := fun o => cell_keep c2 ((Below.refl _ _).alloc (Nat.le_refl _) _)
       have z2 : w.heap.size + 1 + 1 < w2.heap.size := by have := F2.out.size; omega
       clear hb hf)
    | (go_at_call 43
       refine (rnum_any _ (w.heap.size + 1) _ 3 5 4 int_3 (by first | exact R2.out | exact (R2.out.alloc _))).mono ?_
       rintro e w3 ⟨rfl, hb, hf⟩
       have R3 := Lib.hid hb
       have F3 : Hid (Frm (fun k => k ≠ w.heap.size + 1) W w3) := by first | exact Frm.trans F2.out hf | exact Frm.trans (Frm.trans F2.out (Frm.of_below ((Below.refl _ _).alloc (Nat.le_refl _) _))) hf
       have V3 : Hid (Blk w3 (w.heap.size + 1 + 1) 84 #[.pointer (some ⟨w.heap.size + 1, 0, none⟩)]) := by first | exact Blk.frm V2.out hf (by show _ ≠ _; omega) | exact Blk.frm (V2.out.alloc _) hf (by show _ ≠ _; omega)
       first
         | have G5 := Lib.hid (G5.out.frm hf (by show _ ≠ _; have := hg5; omega))
         | (have hg5 := z2
            have hw5 := F2.out.size
            have G5 := Lib.hid (Blk.frm (Blk.new _ 33 _) hf (by show _ ≠ _; omega)))
         | skip
       have c3 : w3.cell? ⟨w.heap.size + 1 + 1, 0, none⟩ = some (.pointer (some ⟨w.heap.size + 1, 0, none⟩)) := V3.out.cell 0
       have d3 : ∀ o, (w3.alloc o).cell? ⟨w.heap.size + 1 + 1, 0, none⟩ = some (.pointer (some ⟨w.heap.size + 1, 0, none⟩)) := fun o => cell_keep c3 ((Below.refl _ _).alloc (Nat.le_refl _) _)
       have z3 : w.heap.size + 1 + 1 < w3.heap.size := by have := F3.out.size; omega
       try (have p0 := G5.out.cell 0
            have p1 := G5.out.cell 1
            have p2 := G5.out.cell 2
            have p3 := G5.out.cell 3
            have p4 := G5.out.cell 4
            have p5 := G5.out.cell 5
            have f0 := G5.out.frozen 0
            have f1 := G5.out.frozen 1
            have f2 := G5.out.frozen 2
            have f3 := G5.out.frozen 3
            have f4 := G5.out.frozen 4
            have f5 := G5.out.frozen 5
            have s3 := fun a0 a1 a2 a3 a4 a5 => @cell_six _ _ _ _ a0 a1 a2 a3 a4 a5 c3 (Nat.ne_of_lt hg5))
       clear hb hf; try clear d0; try clear d1; try clear d2; try clear c0; try clear c1; try clear c2; try clear c00; try clear z0; try clear z1; try clear z2))
    all_goals
      try clear c3
      try clear s3
      try clear d3
      try clear p0 p1 p2 p3 p4 p5 f0 f1 f2 f3 f4 f5
      go_wp2_with fail
      go_meet
      first
        | exact ⟨_, rfl, z3, Blk.new _ _ _, R3.out.alloc _, V3.out.alloc _, F3.out.trans (Frm.of_below ((Below.refl _ _).alloc (Nat.le_refl _) _))⟩
        | exact ⟨_, rfl, hg5, G5.out.six _ _ _ _ _ _, R3.out.six_far (by omega) _ _ _ _ _ _, V3.out.six_far (by omega) _ _ _ _ _ _, F3.out.six hw5 _ _ _ _ _ _⟩
  obtain ⟨g5, rfl, hg5, G5, R5, V5, F5⟩ := hcut
  have OO : Hid (Blk wc w.heap.size 33 #[.string ⟨#[]⟩, .int .i64 0, .int .i64 0, .slice none 0 0, .slice none 0 0, .slice none 0 0]) := O0.out.frm F5.out (by show _ ≠ _; omega)
  have BB : Hid (Below w.heap.size w wc) := B0.out.trans (F5.out.below (fun k hk => by show _ ≠ _; omega) (by have := z0; omega))
  have v5 := V5.out.cell 0
  clear c00 c0 d0
  have hz5 := F5.out.size
  go_wp2_with fail
  refine (times_zero _ (w.heap.size + 1) _ 4 5 _ int_4 R5.out).mono ?_
  rintro e w4 ⟨rfl, hb, hf⟩
  have R6 := Lib.hid hb
  have V6 : Hid (Blk w4 (w.heap.size + 1 + 1) 84 #[.pointer (some ⟨w.heap.size + 1, 0, none⟩)]) := V5.out.frm hf (by show _ ≠ _; omega)
  have G6 := Lib.hid (G5.out.frm hf (by show _ ≠ _; omega))
  have O6 := Lib.hid (OO.out.frm hf (by show _ ≠ _; omega))
  have B6 : Hid (Below w.heap.size w w4) := BB.out.trans (hf.below (fun k hk => by show _ ≠ _; omega) (by omega))
  have z6 : w.heap.size + 1 + 1 < w4.heap.size := by have := hf.size; omega
  have v6 := V6.out.cell 0
  clear hb hf v5 V5 R5 OO BB
  go_wp2_with fail
  refine (rtext_any _ (w.heap.size + 1) _ 5 12 ⟨#[97, 108, 119, 97, 121, 115]⟩ text_5 R6.out).mono ?_
  rintro e w5 ⟨rfl, hb, hf⟩
  have R7 := Lib.hid hb
  have V7 : Hid (Blk w5 (w.heap.size + 1 + 1) 84 #[.pointer (some ⟨w.heap.size + 1, 0, none⟩)]) := V6.out.frm hf (by show _ ≠ _; omega)
  have G7 := Lib.hid (G6.out.frm hf (by show _ ≠ _; omega))
  have O7 := Lib.hid (O6.out.frm hf (by show _ ≠ _; omega))
  have B7 : Hid (Below w.heap.size w w5) := B6.out.trans (hf.below (fun k hk => by show _ ≠ _; omega) (by omega))
  have z7 : w.heap.size + 1 + 1 < w5.heap.size := by have := hf.size; omega
  clear hb hf v6 V6 R6 O6 B6 G6
  go_wp2_with fail
  refine (formsParse_always _).mono ?_
  rintro e w6 ⟨g, c, rfl, hA, hc, hg, hB⟩
  have A8 := Lib.hid hA
  have R8 := Lib.hid (R7.out.keep hB)
  have V8 := Lib.hid (V7.out.keep hB)
  have G8 := Lib.hid (G7.out.keep hB)
  have O8 := Lib.hid (O7.out.keep hB)
  have B8 : Hid (Below w.heap.size w w6) := below_then B7.out (by omega) hB
  have z8 : w.heap.size + 1 + 1 < w6.heap.size := by have := hB.size; omega
  have lg5 := G7.out.lt
  have lg8 := G8.out.lt
  have hgw : w.heap.size + 1 + 1 < g := by omega
  have hg5g : g5 < g := by omega
  have lg : g < w6.heap.size := cell_lt hA.1
  have p4 := G8.out.cell 4
  have v8 := V8.out.cell 0
  have f4 := G8.out.frozen 4
  clear hA hB R7 V7 G7 O7 B7
  go_wp2_with fail
  have hgr : g5 ≠ w.heap.size + 1 := by omega
  have hgv : w.heap.size + 1 + 1 ≠ g5 := by omega
  have R9 : Hid (Blk ((w6.setCell ⟨g5, 4, none⟩ (.slice (some ⟨g, 0, none⟩) 1 c)).alloc (.cells #[.slice (some ⟨g, 0, none⟩) 1 c] 30)) (w.heap.size + 1) 86 #[.string ⟨#[2, 120, 0, 10, 0, 12, 97, 108, 119, 97, 121, 115, 0]⟩, .int .i64 12, .bool false]) := (R8.out.far (by show _ ≠ g5; omega) _).alloc _
  have V9 : Hid (Blk ((w6.setCell ⟨g5, 4, none⟩ (.slice (some ⟨g, 0, none⟩) 1 c)).alloc (.cells #[.slice (some ⟨g, 0, none⟩) 1 c] 30)) (w.heap.size + 1 + 1) 84 #[.pointer (some ⟨w.heap.size + 1, 0, none⟩)]) := (V8.out.far (by show _ ≠ g5; omega) _).alloc _
  have G9 : Hid (Blk ((w6.setCell ⟨g5, 4, none⟩ (.slice (some ⟨g, 0, none⟩) 1 c)).alloc (.cells #[.slice (some ⟨g, 0, none⟩) 1 c] 30)) g5 33 #[.string ⟨#[120]⟩, .int .i64 0, .int .i64 5, .slice none 0 0, .slice (some ⟨g, 0, none⟩) 1 c, .slice none 0 0]) := (G8.out.set_ 4 _).alloc _
  have O9 : Hid (Blk ((w6.setCell ⟨g5, 4, none⟩ (.slice (some ⟨g, 0, none⟩) 1 c)).alloc (.cells #[.slice (some ⟨g, 0, none⟩) 1 c] 30)) w.heap.size 33 #[.string ⟨#[]⟩, .int .i64 0, .int .i64 0, .slice none 0 0, .slice none 0 0, .slice none 0 0]) := (O8.out.far (by show _ ≠ g5; omega) _).alloc _
  have B9 : Hid (Below w.heap.size w ((w6.setCell ⟨g5, 4, none⟩ (.slice (some ⟨g, 0, none⟩) 1 c)).alloc (.cells #[.slice (some ⟨g, 0, none⟩) 1 c] 30))) := (B8.out.setCell (by show _ ≤ g5; omega) _).alloc (by simp [World.setCell]; omega) _
  have z9 : w.heap.size + 1 + 1 < ((w6.setCell ⟨g5, 4, none⟩ (.slice (some ⟨g, 0, none⟩) 1 c)).alloc (.cells #[.slice (some ⟨g, 0, none⟩) 1 c] 30)).heap.size := by simp [World.setCell]; omega
  have A9 : Hid (Alw ((w6.setCell ⟨g5, 4, none⟩ (.slice (some ⟨g, 0, none⟩) 1 c)).alloc (.cells #[.slice (some ⟨g, 0, none⟩) 1 c] 30)) ⟨g, 0, none⟩) := by
    refine Alw.keep ?_ ((Below.refl _ _).alloc (Nat.le_refl _) _)
    exact A8.out.block (by exact Below.heap_setCell _ _ _ _ (by show g ≠ g5; omega))
  generalize ((w6.setCell ⟨g5, 4, none⟩ (.slice (some ⟨g, 0, none⟩) 1 c)).alloc (.cells #[.slice (some ⟨g, 0, none⟩) 1 c] 30)) = w7 at *
  clear p4 f4 v8 R8 V8 G8 O8 B8 A8
  refine (times_zero _ (w.heap.size + 1) _ 12 13 _ int_12 R9.out).mono ?_
  rintro e w8 ⟨rfl, hb, hf⟩
  have R10 := Lib.hid hb
  have V10 := Lib.hid (V9.out.frm hf (by show _ ≠ _; omega))
  have G10 := Lib.hid (G9.out.frm hf (by show _ ≠ _; omega))
  have O10 := Lib.hid (O9.out.frm hf (by show _ ≠ _; omega))
  have B10 : Hid (Below w.heap.size w w8) := B9.out.trans (hf.below (fun k hk => by show _ ≠ _; omega) (by omega))
  have A10 : Hid (Alw w8 ⟨g, 0, none⟩) := A9.out.block (hf.block g (by show _ ≠ _; omega) (cell_lt A9.out.1))
  have q0 := G10.out.cell 0
  have q1 := G10.out.cell 1
  have q2 := G10.out.cell 2
  have q3 := G10.out.cell 3
  have q4 := G10.out.cell 4
  have q5 := G10.out.cell 5
  clear hb hf R9 V9 G9 O9 B9 A9
  go_wp2_with fail
  refine (bytes_always _ g c hc (by exact A10.out)).mono ?_
  rintro e w9 ⟨rfl, hB⟩
  have R11 := Lib.hid (R10.out.keep hB)
  have V11 := Lib.hid (V10.out.keep hB)
  have G11 := Lib.hid (G10.out.keep hB)
  have O11 := Lib.hid (O10.out.keep hB)
  have B11 : Hid (Below w.heap.size w w9) := below_seq B10.out (by exact hB)
  have A11 : Hid (Alw w9 ⟨g, 0, none⟩) := A10.out.keep hB
  clear hB q0 q1 q2 q3 q4 q5 R10 V10 G10 O10 B10 A10
  have q0 := G11.out.cell 0
  have q1 := G11.out.cell 1
  have q2 := G11.out.cell 2
  have q3 := G11.out.cell 3
  have q4 := G11.out.cell 4
  have q5 := G11.out.cell 5
  have o0 := O11.out.cell 0
  have o1 := O11.out.cell 1
  have o2 := O11.out.cell 2
  have o3 := O11.out.cell 3
  have o4 := O11.out.cell 4
  have o5 := O11.out.cell 5
  have x0 := O11.out.frozen 0
  have x1 := O11.out.frozen 1
  have x2 := O11.out.frozen 2
  have x3 := O11.out.frozen 3
  have x4 := O11.out.frozen 4
  have x5 := O11.out.frozen 5
  have r2 := R11.out.cell 2
  have v0 := V11.out.cell 0
  go_wp2_with fail
  clear q0 q1 q2 q3 q4 q5 o0 o1 o2 o3 o4 o5 x0 x1 x2 x3 x4 x5 r2 v0
  have O12 : Hid (Blk ((((((w9.setCell ⟨w.heap.size, 0, none⟩ (.string ⟨#[120]⟩)).setCell ⟨w.heap.size, 1, none⟩ (.int .i64 0)).setCell ⟨w.heap.size, 2, none⟩ (.int .i64 5)).setCell ⟨w.heap.size, 3, none⟩ (.slice none 0 0)).setCell ⟨w.heap.size, 4, none⟩ (.slice (some ⟨g, 0, none⟩) 1 c)).setCell ⟨w.heap.size, 5, none⟩ (.slice none 0 0)) w.heap.size 33 #[.string ⟨#[120]⟩, .int .i64 0, .int .i64 5, .slice none 0 0, .slice (some ⟨g, 0, none⟩) 1 c, .slice none 0 0]) := O11.out.six _ _ _ _ _ _
  have A12 : Hid (Alw ((((((w9.setCell ⟨w.heap.size, 0, none⟩ (.string ⟨#[120]⟩)).setCell ⟨w.heap.size, 1, none⟩ (.int .i64 0)).setCell ⟨w.heap.size, 2, none⟩ (.int .i64 5)).setCell ⟨w.heap.size, 3, none⟩ (.slice none 0 0)).setCell ⟨w.heap.size, 4, none⟩ (.slice (some ⟨g, 0, none⟩) 1 c)).setCell ⟨w.heap.size, 5, none⟩ (.slice none 0 0)) ⟨g, 0, none⟩) := A11.out.block (by exact six_far _ _ 0 _ _ _ _ _ _ _ (by show g ≠ _; omega))
  have B12 : Hid (Below w.heap.size w ((((((w9.setCell ⟨w.heap.size, 0, none⟩ (.string ⟨#[120]⟩)).setCell ⟨w.heap.size, 1, none⟩ (.int .i64 0)).setCell ⟨w.heap.size, 2, none⟩ (.int .i64 5)).setCell ⟨w.heap.size, 3, none⟩ (.slice none 0 0)).setCell ⟨w.heap.size, 4, none⟩ (.slice (some ⟨g, 0, none⟩) 1 c)).setCell ⟨w.heap.size, 5, none⟩ (.slice none 0 0))) := (((((B11.out.setCell (Nat.le_refl _) _).setCell (Nat.le_refl _) _).setCell (Nat.le_refl _) _).setCell (Nat.le_refl _) _).setCell (Nat.le_refl _) _).setCell (Nat.le_refl _) _
  generalize ((((((w9.setCell ⟨w.heap.size, 0, none⟩ (.string ⟨#[120]⟩)).setCell ⟨w.heap.size, 1, none⟩ (.int .i64 0)).setCell ⟨w.heap.size, 2, none⟩ (.int .i64 5)).setCell ⟨w.heap.size, 3, none⟩ (.slice none 0 0)).setCell ⟨w.heap.size, 4, none⟩ (.slice (some ⟨g, 0, none⟩) 1 c)).setCell ⟨w.heap.size, 5, none⟩ (.slice none 0 0)) = w10 at *
  have o0 := O12.out.cell 0
  have o1 := O12.out.cell 1
  have o2 := O12.out.cell 2
  have o3 := O12.out.cell 3
  have o4 := O12.out.cell 4
  have o5 := O12.out.cell 5
  refine bodyPost_ret (v := .tuple #[.agg #[.string ⟨#[120]⟩, .int .i64 0, .int .i64 5, .slice none 0 0, .slice (some ⟨g, 0, none⟩) 1 c, .slice none 0 0], .int .i64 0]) ?_ rfl ⟨g, c, rfl, A12.out, hc, by omega, B12.out⟩
  simp [results, Tryz.results15, go_sem, o0, o1, o2, o3, o4, o5]
end Go.Proofs.YtmeipcnicfaojaaGreatDoor
