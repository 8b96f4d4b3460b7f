/- The law StatementHides of layer 18 returns true for every input: a role sees just what there are shows for, a show that is added never hides anything, and no role sees the condition. No condition. -/
import Derived.Test.YtmeipcnicfaojaaGreatDoorHides
import Derived.Test.YtmeipcnicfaojaaGreatDoorRows
import Derived.Test.YtmeipcnicfaojaaGreatDoorCards
import Derived.Test.YtmeipcnicfaojaaGreatDoorTie
import Derived.ProofKit
import Derived.Lay
import Derived.LaidMore
import Derived.Carry
import Derived.SevenTiedAt
namespace Go.Proofs.YtmeipcnicfaojaaGreatDoor
open Go.ChangeShapes Go.WideShapes Go.ChangeAt Go.RowKit

theorem seat_own : ownKnob Tryz.prog.godebug = none := by kernel_rfl
theorem seat_laidOut : laidOutB Tryz.prog = true := by kernel_rfl
/-- A slice of ints that came in, as the walks want it. -/
theorem ints_in {w : World} {a : Addr} {zs : List Int} {len : Nat} (hl : len ≤ zs.length) (h47 : len ≤ 140737488355328) (hcell : ∀ i, i < zs.length → w.cell? (a.add i) = some (.int .i64 (zs.getD i 0))) (hlt : 0 < len → a.block < w.heap.size) :
    (Kd.int .i64).C (fun k => k < w.heap.size) w (some a) len (zs.take len) := by
  refine ⟨by simp; omega, h47, fun hp => ⟨a, rfl, hlt hp, fun j x hj => ⟨[.int .i64 x], rfl, fun i u hu => ?_⟩⟩⟩
  match i, hu with
  | 0, hu =>
    simp at hu
    subst hu
    show w.cell? (a.add (j * 1 + 0)) = _
    have hjl : j < len := by
      have := (List.getElem?_eq_some_iff.1 hj).1
      simp at this
      omega
    rw [Nat.mul_one, Nat.add_zero, hcell j (by omega)]
    rw [List.getElem?_take_of_lt hjl] at hj
    rw [List.getD_eq_getElem?_getD, hj]
    rfl

set_option maxRecDepth 100000 in
theorem hides_lifted (os : Os) (started : os.Started) (H : Type) (enc : TypeId × Value → H) :
    ReturnsInHanded {} Tryz.checked os 4 .any (fun w args => (Rows.statementHidesSpec.pre enc Tryz.prog Tryz.f4 [] false w args ∧ laidMetH Tryz.prog Rows.statementHidesRow.laid w) ∧ sizedMet enc Tryz.prog Tryz.f4 (OpenSpec.ofChange Rows.statementHidesSpec) false w args)
      (Rows.statementHidesSpec.post enc Tryz.prog Tryz.f4 false true false false) := by
  refine returnsInHanded_of_change_and (C := Tryz.checked) (X := fun w _ => laidMetH Tryz.prog Rows.statementHidesRow.laid w) (fun _ _ _ hh h => h.of_heap hh) seat_own started (by kernel_rfl) Tryz.func4
    (ChangeSpec.witness_shaped (enc := enc) (C := Tryz.checked) (os := os) (X := fun w _ => laidMetH Tryz.prog Rows.statementHidesRow.laid w) false (World.laidAll Tryz.prog os Rows.statementHidesRow.laid) #[.slice none 0 0, .int .u8 0] 8 (World.laidAll_os _ _ _)
      (World.shaped_of_ZipB (by kernel_rfl) (by kernel_rfl)) (by kernel_rfl) (by kernel_rfl) (by kernel_rfl)
      (by rw [MakeChecks.laidMetH_plain _ _ _ (by kernel_rfl)]; exact laidMet_laidAll _ (by kernel_rfl) (by kernel_rfl))) ?_
  intro W base args ds gs before hval0 hW _ _ _ _
  have hval : ∀ (j : Nat) t v, Tryz.f4.params[j]? = some t → args[j]? = some v → Value.okWide Tryz.prog W .any base t v := hval0
  have hW' := hW
  obtain ⟨p, q, hA0, hV, rfl, _, _⟩ := hW
  have hA : DataW.TrodAll enc Tryz.prog W 0 (fun _ => true) true Tryz.f4.params.toList args.toList ds p := hA0
  rw [Tryz.params4] at hA hval
  obtain ⟨v0, v1, d0, d1, p0, p1, rfl, rfl, rfl, h0, h1⟩ := trodAll_two hA
  obtain ⟨rfl, rfl⟩ := trodVars_none hV
  obtain ⟨x, rfl, rfl, rfl, wx⟩ := open_int Tryz.underlying5 (hval 1 5 v1 rfl rfl) h1
  have hx : 0 ≤ x ∧ x ≤ 255 := by simpa [Lit.wf, IntKind.min, IntKind.max, IntKind.signed, IntKind.bits] using wx
  obtain ⟨n, rfl⟩ := Int.eq_ofNat_of_zero_le hx.1
  obtain ⟨a0, len, cap, rfl⟩ := okWide_slice Tryz.underlying22 (hval 0 22 v0 rfl rfl)
  have h0k := h0
  obtain ⟨fuel0, hf⟩ := h0
  simp only [List.append_nil] at hW'
  have hlt : ∀ x ∈ p0, x.block < W.heap.size := fun x hx => by simpa using hW'.lt x hx
  have c3 : Tryz.prog.cellsOf 3 = 1 := by kernel_rfl
  have key : Calls Tryz.prog 4 #[.slice a0 len cap, .int .u8 n] W fun e w' => e = .returned (.bool true) ∧ Below W.heap.size W w' := by
    rcases open_ints Tryz.underlying22 Tryz.underlying3 c3 hf with ⟨hcs, hx'⟩ | ⟨a, len', cap', zs, hcs, _, hl, hm, hz, hx', hcell, hwz⟩
    · simp [Value.cells] at hcs
      obtain ⟨rfl, rfl, rfl⟩ := hcs
      exact hides_light W none 0 [] n (by omega) (Kd.C_nil _ _ _ _) (Nat.le_refl _) (by simp)
    · simp [Value.cells] at hcs
      obtain ⟨rfl, rfl, rfl⟩ := hcs
      simp only [if_true] at hz
      by_cases hn : len ≤ 500
      · have hlen : (zs.take len).length = len := by simp; omega
        have hh := hides_light W (some a) cap (zs.take len) n (by omega)
        rw [hlen] at hh
        refine hh (ints_in (by omega) (by omega) hcell (fun hp => ?_)) hl hn
        have := cell_lt (hcell 0 (by omega))
        rwa [blk_add] at this
      · exact hides_heavy W (some a) cap len n hn (by unfold maxLen at hm; omega)
  refine key.mono fun e W' ⟨he, hb⟩ => ?_
  subst he
  exact ⟨_, rfl, _, _, _, [], p0, [], hW', trodAll_mk1 (shut_bool Tryz.underlying4 _), (by have hh := trodAll_mk2 (Below.trod seat_laidOut (by kernel_rfl) (of_decide_eq_true (by kernel_rfl)) h0k hb hlt) (shut_int Tryz.underlying5 wx); rw [List.append_nil] at hh; exact hh), rfl,  hb.frame _, fun h => by cases h⟩

theorem hides_said : Rows.StatementHidesSaid :=
  OpenClaim.holds_of_wide 4 Tryz.f4 rfl rfl rfl rfl rfl rfl rfl ⟨rfl, rfl, rfl, rfl, rfl⟩ rfl rfl rfl rfl rfl (by kernel_rfl) Tryz.func4 (by kernel_rfl)
    (of_decide_eq_true (by kernel_rfl)) (by unfold Func.isWrapper; first | (rw [if_pos (by decide +kernel)]; kernel_rfl) | (rw [if_neg (by decide +kernel)]; exact ⟨rfl, rfl⟩))
    (fun os started H enc _ => hides_lifted os started H enc)

theorem hides_holds : Rows.StatementHidesCardSaid :=
  Claim7.holds_tied_plain_at .later [] [.data, .data, .data, .sentinel, .sentinel] true (true, "6dde87b9b1f2d4400ff8704f977a73a95b64eefd4ff5a19d1d441b52a991c96f") true
    hides_said (fun _ h => by cases h) (by kernel_rfl) (fun _ h => by cases h) statementHides_row_tie rfl ⟨rfl, rfl⟩ (by kernel_rfl) rfl
    (fun f fn hf hfn => by
      obtain rfl : f = 4 := Option.some.inj ((show Tryz.prog.funcNamed "reportescrow/reportescrowlaw18.StatementHides" = some 4 by kernel_rfl).symm.trans hf) |>.symm
      obtain rfl : fn = Tryz.f4 := (Option.some.inj (Tryz.func4.symm.trans hfn)).symm
      exact ⟨by kernel_rfl, fun j t ht => by
        rw [Tryz.params4] at ht
        have hm : t ∈ [22, 5] := by simpa using Array.mem_of_getElem? ht
        have hall : ([22, 5].all fun u => !Tryz.prog.wantsStandIn u) = true := by kernel_rfl
        exact (show Tryz.prog.wantsStandIn t = false by simpa using List.all_eq_true.1 hall t hm)⟩)
    (by kernel_rfl)
#print axioms hides_holds
end Go.Proofs.YtmeipcnicfaojaaGreatDoor
