/- The sanity check of the layer, its seventh part: Parse of the text 'always'. -/
import Derived.Test.YtmeipcnicfaojaaGreatDoorAw6
namespace Go.Proofs.YtmeipcnicfaojaaGreatDoor
open Go.RowKit

set_option maxRecDepth 100000 in
set_option maxHeartbeats 2000000 in
theorem flat_always (w : World) (t : Nat) (h : Blk w t 164 #[.int .i64 8, .int .i64 0, .int .i64 0, .string ⟨#[]⟩, .string ⟨#[]⟩, .slice none 0 0, .slice none 0 0]) :
    Calls Tryz.prog 87 #[.pointer (some ⟨t, 0, none⟩), .slice none 0 0] w fun e w' => ∃ g c, e = .returned (.slice (some ⟨g, 0, none⟩) 1 c) ∧ Alw w' ⟨g, 0, none⟩ ∧ 1 ≤ c ∧ w.heap.size ≤ g ∧ Below w.heap.size w w' := by
  have H := Lib.hid h
  have q0 := h.cell 0
  have q1 := h.cell 1
  have q2 := h.cell 2
  have q3 := h.cell 3
  have q4 := h.cell 4
  have q5 := h.cell 5
  have hl := h.lt
  clear h
  go_enter Tryz.func87, Tryz.ntmps87
  go_wp2_with (
    (at_builtin
     refine app1 w.heap.size 28 93 (.agg #[.int .i64 0, .int .i64 0, .int .i64 0, .string ⟨#[]⟩, .string ⟨#[]⟩, .slice none 0 0]) 6 80 rfl (.tmp 10) (.tmp 15) rfl Tryz.underlying28 infoTerm rfl (by decide) (by decide) (.slice none 0 0) 0 [] #[.int .i64 8, .int .i64 0, .int .i64 0, .string ⟨#[]⟩, .string ⟨#[]⟩, .slice none 0 0] rfl rfl rfl (by intro u hu; simp at hu; rcases hu with rfl | rfl | rfl | rfl | rfl <;> rfl) ⟨rfl, .inl ⟨rfl, rfl⟩⟩ (Nat.le_refl _) (by decide) ?_
     intro v1 w1 hown hg hat
     obtain ⟨g, cap, rfl, hbg, hlg⟩ := hown.form (by decide)
     have hc : ∀ j u, [Value.int .i64 8, .int .i64 0, .int .i64 0, .string ⟨#[]⟩, .string ⟨#[]⟩, .slice none 0 0][j]? = some u → w1.cell? ((⟨g, 0, none⟩ : Addr).add j) = some u := (fun j u hu => hown.cells (g := g) rfl j u (by simpa using hu))
     have hcap : 1 ≤ cap := (by
       rcases hown.2 with ⟨h0, _⟩ | ⟨g', cap', cur, hv, _, _, hn, _⟩
       · cases h0
       · injection hv with _ _ hcc
         omega)
     have HC := Lib.hid hc
     have hB : Hid (Below w.heap.size w w1) := ⟨hg.os, hg.tape, hg.output, hg.size, fun k hk => hg.block k hk (by simp [Value.ownBlock])⟩
     have q6 := (H.out.keep hB.out).cell 6
     clear hown hg hat hc q0 q1 q2 q3 q4 q5))
  go_loopw [1, 22] (fun v1 v22 wr => v1 = .slice (some ⟨g, 0, none⟩) 1 cap ∧ v22 = .int .i64 0 ∧ wr = w1) (fun _ _ _ => 0)
  case atStart => exact ⟨rfl, rfl, rfl⟩
  case round =>
    obtain ⟨rfl, rfl, rfl⟩ := hrel
    go_wp2
    go_ret
    have hA : ∀ (j : Nat) (u : Value), [Value.int .i64 8, .int .i64 0, .int .i64 0, .string ⟨#[]⟩, .string ⟨#[]⟩, .slice none 0 0][j]? = some u → wr.cell? ⟨g, j, none⟩ = some u := fun j u hu => by
      have := HC.out j u hu
      rwa [add_zero', Nat.zero_add] at this
    exact ⟨g, cap, rfl, ⟨hA 0 _ rfl, hA 1 _ rfl, hA 2 _ rfl, hA 3 _ rfl, hA 4 _ rfl, hA 5 _ rfl⟩, hcap, hbg, hB.out⟩

theorem right_always (w : World) (ad : Addr) (c : Nat) (h : Alw w ad) : Calls Tryz.prog 88 #[.agg #[.slice (some ad) 1 c]] w fun e w' => e = .returned (.bool true) ∧ Below w.heap.size w w' := by
  have H := Lib.hid h
  clear h
  go_enter Tryz.func88, Tryz.ntmps88
  go_wp2_with fail
  refine (root_always _ ad c (H.out.keep (by (repeat' first | exact Below.refl _ _ | refine Below.drew ?_ | refine below_drewN ?_ _ | refine Below.alloc ?_ (by first | exact Nat.le_refl _ | (simp; done) | (simp; omega)) _ | refine Below.setCell ?_ (by first | (simp; done) | (simp; omega)) _)))).mono ?_
  rintro e w1 ⟨b, rfl, _, _, hB⟩
  have B := Lib.hid (below_seq ((Below.refl _ _).alloc (Nat.le_refl _) _) hB)
  clear hB
  go_wp2_with fail
  go_ret
  exact ⟨rfl, B.out⟩

set_option maxRecDepth 100000 in
theorem formsParse_always (w : World) : Calls Tryz.prog 46 #[.string ⟨#[97, 108, 119, 97, 121, 115]⟩] w fun e w' => ∃ g c, e = .returned (.tuple #[.agg #[.slice (some ⟨g, 0, none⟩) 1 c], .int .i64 0, .int .i64 0]) ∧ Alw w' ⟨g, 0, none⟩ ∧ 1 ≤ c ∧ w.heap.size ≤ g ∧ Below w.heap.size w w' := by
  have A0 := Lib.hid (Blk.new w 30 #[.slice none 0 0])
  have B0 : Hid (Below w.heap.size w (w.alloc (.cells #[.slice none 0 0] 30))) := (Below.refl _ _).alloc (Nat.le_refl _) _
  go_enter Tryz.func46, Tryz.ntmps46
  go_wp2_with fail
  refine (parse_always _).mono ?_
  rintro e w1 ⟨t, rfl, hT, ht, hB⟩
  have T1 := Lib.hid hT; have A1 := Lib.hid (A0.out.keep hB); have B1 := Lib.hid (below_seq B0.out hB)
  clear hT hB A0 B0
  go_wp2_with fail
  refine (flat_always _ t T1.out).mono ?_
  rintro e w2 ⟨g, c, rfl, hA, hc, hg, hB⟩
  have G2 := Lib.hid hA; have A2 := Lib.hid (A1.out.keep hB); have B2 := Lib.hid (below_seq B1.out hB)
  have hgl : w.heap.size < g := Nat.lt_of_lt_of_le A1.out.lt hg
  have hB7 : Hid (Below w2.heap.size w2 (w2.alloc (.cells #[.slice (some ⟨g, 0, none⟩) 1 c] 30))) := (Below.refl _ _).alloc (Nat.le_refl _) _
  have A3 := Lib.hid (A2.out.keep hB7.out); have K3 := Lib.hid (Blk.new w2 30 #[.slice (some ⟨g, 0, none⟩) 1 c])
  have G3 := Lib.hid (G2.out.keep hB7.out); have B3 := Lib.hid (below_seq B2.out hB7.out)
  clear hA hB T1 A1 B1 A2 G2 B2 hB7
  go_wp2_with fail
  refine (right_always _ _ c G3.out).mono ?_
  rintro e w4 ⟨rfl, hB⟩
  have G4 := Lib.hid (G3.out.keep hB); have A4 := Lib.hid (A3.out.keep hB); have B4 := Lib.hid (below_seq B3.out hB)
  have k0 := (K3.out.keep hB).cell 0
  clear hB G3 A3 B3 K3
  have a0 := A4.out.cell 0
  have af := A4.out.frozen 0
  go_wp2_with fail
  have hG5 : Hid (Alw (w4.setCell ⟨w.heap.size, 0, none⟩ (.slice (some ⟨g, 0, none⟩) 1 c)) ⟨g, 0, none⟩) := by
    have hh : (w4.setCell ⟨w.heap.size, 0, none⟩ (.slice (some ⟨g, 0, none⟩) 1 c)).heap[g]? = w4.heap[g]? := Below.heap_setCell _ _ _ _ (by show g ≠ w.heap.size; omega)
    have f : ∀ (o : Nat), (w4.setCell ⟨w.heap.size, 0, none⟩ (.slice (some ⟨g, 0, none⟩) 1 c)).cell? ⟨g, o, none⟩ = w4.cell? ⟨g, o, none⟩ := fun o => World.cell?_of_block (w := w4) (a := ⟨g, o, none⟩) hh
    exact ⟨(f 0).trans G4.out.1, (f _).trans G4.out.2.1, (f _).trans G4.out.2.2.1, (f _).trans G4.out.2.2.2.1, (f _).trans G4.out.2.2.2.2.1, (f _).trans G4.out.2.2.2.2.2⟩
  refine bodyPost_ret (v := .tuple #[.agg #[.slice (some ⟨g, 0, none⟩) 1 c], .int .i64 0, .int .i64 0]) (by simp [results, Tryz.results46, go_sem, a0]) rfl ⟨g, c, rfl, hG5.out, hc, by omega, ?_⟩
  exact B4.out.setCell (p := ⟨w.heap.size, 0, none⟩) (Nat.le_refl _) _
end Go.Proofs.YtmeipcnicfaojaaGreatDoor
