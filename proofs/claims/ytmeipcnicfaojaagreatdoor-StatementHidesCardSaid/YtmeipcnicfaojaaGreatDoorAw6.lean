/- The sanity check of the layer, its sixth part: the text 'always' is parsed. -/
import Derived.Test.YtmeipcnicfaojaaGreatDoorAw5
namespace Go.Proofs.YtmeipcnicfaojaaGreatDoor
open Go.RowKit

theorem parse_idle (p : Addr) (w : World) :
    CallsD Tryz.prog 119 #[.pointer (some p)] .returning w fun e u' w' => e = .returned (.tuple #[]) ∧ u' = .returning ∧ w' = w := by
  refine callsD_of_wpS Tryz.func119 rfl fun c₀ cs hu => ?_
  apply wpS_seq
  apply wpS_region
  simp [wpOpsS, go_sem, recoverD, hu, Tryz.ntmps119, Exit.thenS]
  apply wpS_seq
  apply wpS_region
  simp [wpOpsS, go_sem, Exit.thenS]
  refine wpS_cond (t := false) (by simp [Act.eval]) ?_
  simp only [Bool.false_eq_true, if_false]
  refine wpS_of_wp (wp_skip ?_)
  cases c₀
  simp_all [bodyPostS, results, Tryz.results119]

set_option maxRecDepth 100000 in
set_option maxHeartbeats 2000000 in
theorem parse_always (w : World) : Calls Tryz.prog 86 #[.string ⟨#[97, 108, 119, 97, 121, 115]⟩] w fun e w' => ∃ t, e = .returned (.tuple #[.pointer (some ⟨t, 0, none⟩), .int .i64 (-1)]) ∧ Blk w' t 164 #[.int .i64 8, .int .i64 0, .int .i64 0, .string ⟨#[]⟩, .string ⟨#[]⟩, .slice none 0 0, .slice none 0 0] ∧ w.heap.size ≤ t ∧ Below w.heap.size w w' := by
  have hmf : ∀ (fn : Fn) (first cap : Array Value) (w : World), (Instr.makeFunc fn first cap).run Tryz.prog w = .ok (.func fn first cap) w := fun _ _ _ _ => rfl
  have R0 := Lib.hid (Blk.new' (w.alloc (.cells #[.int .i64 (-1)] 3)) 169 #[.string ⟨#[97, 108, 119, 97, 121, 115]⟩, .int .i64 0] (w.heap.size + 1) (by simp))
  have A0 := Lib.hid ((Blk.new w 3 #[.int .i64 (-1)]).alloc (.cells #[.string ⟨#[97, 108, 119, 97, 121, 115]⟩, .int .i64 0] 169))
  have B0 : Hid (Below w.heap.size w ((w.alloc (.cells #[.int .i64 (-1)] 3)).alloc (.cells #[.string ⟨#[97, 108, 119, 97, 121, 115]⟩, .int .i64 0] 169))) := by
    show Below _ _ _
    (repeat' first | exact Below.refl _ _ | refine Below.drew ?_ | refine below_drewN ?_ _ | refine Below.alloc ?_ (by first | exact Nat.le_refl _ | (simp; done) | (simp; omega)) _ | refine Below.setCell ?_ (by first | (simp; done) | (simp; omega)) _)
  go_enter_defers Tryz.func86, Tryz.ntmps86
  go_wp2_with fail
  refine (space_0 _ (w.heap.size + 1) R0.out).mono ?_
  rintro e w1 ⟨rfl, m, rfl⟩
  have R1 := Lib.hid (R0.out.drewN m); have A1 := Lib.hid (A0.out.drewN m); have B1 := Lib.hid (below_drewN B0.out m)
  have hz1 : w.heap.size + 1 < (((w.alloc (.cells #[.int .i64 (-1)] 3)).alloc (.cells #[.string ⟨#[97, 108, 119, 97, 121, 115]⟩, .int .i64 0] 169)).drewN m).heap.size := by simp
  clear R0 A0 B0
  generalize ((w.alloc (.cells #[.int .i64 (-1)] 3)).alloc (.cells #[.string ⟨#[97, 108, 119, 97, 121, 115]⟩, .int .i64 0] 169)).drewN m = W1 at *
  go_wp2_with fail
  refine (cond_always _ (w.heap.size + 1) R1.out).mono ?_
  rintro e w2 ⟨t, rfl, hT, hR, ht, hf⟩
  have T2 := Lib.hid hT; have R2 := Lib.hid hR; have A2 := Lib.hid (A1.out.frm hf (by show _ ≠ _; omega))
  have B2 : Hid (Below w.heap.size w w2) := B1.out.trans (hf.below (fun k hk => by omega) (by omega))
  have q1 := hR.cell 1
  clear hT hR hf R1 A1 B1
  have a0 := A2.out.cell 0
  have af := A2.out.frozen 0
  go_wp2_with fail
  go_region_held3 (fun W => W.cell? ⟨w.heap.size, 0, none⟩ = some (.int .i64 (-1))) (first | exact a0 | exact ((A2.out.drew).set_ 0 (.int .i64 (-1))).cell 0) (fail)
  go_wp2_with fail
  refine leaves_cons (f := 119) (args := #[.pointer (some ⟨w.heap.size, 0, none⟩)]) (by simp) (by simp [go_sem]) ?_
  refine (parse_idle ⟨w.heap.size, 0, none⟩ _).mono ?_
  rintro e u' w'' ⟨rfl, rfl, rfl⟩
  have hT3 : Blk (w2.setCell ⟨w.heap.size, 0, none⟩ (.int .i64 (-1))).drew t 164 #[.int .i64 8, .int .i64 0, .int .i64 0, .string ⟨#[]⟩, .string ⟨#[]⟩, .slice none 0 0, .slice none 0 0] := (T2.out.far (p := ⟨w.heap.size, 0, none⟩) (by show t ≠ w.heap.size; omega) _).drew
  have hB3 : Below w.heap.size w (w2.setCell ⟨w.heap.size, 0, none⟩ (.int .i64 (-1))).drew := (B2.out.setCell (p := ⟨w.heap.size, 0, none⟩) (Nat.le_refl _) _).drew
  have hc3 := ((A2.out.set_ 0 (.int .i64 (-1))).drew).cell 0
  generalize (w2.setCell ⟨w.heap.size, 0, none⟩ (.int .i64 (-1))).drew = W3 at *
  exact ⟨.tuple #[.pointer (some ⟨t, 0, none⟩), .int .i64 (-1)], by simp [results, Tryz.results86, go_sem, hc3], t, rfl, hT3, by omega, hB3⟩
end Go.Proofs.YtmeipcnicfaojaaGreatDoor
