/- The dice: the walks. A die's number is only known to lie in its range. -/
import Derived.Test.YtmeipcnicfaojaaGreatDoorKinds
import Derived.Test.YtmeipcnicfaojaaGreatDoorProg
import Derived.WalkSpells
import Derived.WalkLawsBesides
import Derived.Deep.QuietTactic
import Derived.BigQuiet
import Derived.Deep.DeepCutAuto
import Derived.Deep.CutBlock
namespace Go.Proofs.YtmeipcnicfaojaaGreatDoor
open Go.RowKit

theorem tmod_lt (n m : Int) (h : 1 ≤ m) : -m < n.tmod m ∧ n.tmod m < m := by
  have h1 := Int.tmod_lt_of_pos n (show 0 < m by omega)
  have h2 := Int.tmod_lt_of_pos (-n) (show 0 < m by omega)
  rw [Int.neg_tmod] at h2
  omega

def modF (n m : Int) : Int := (n.tmod m + m).tmod m
theorem modF_range (n m : Int) (h : 1 ≤ m) : 0 ≤ modF n m ∧ modF n m < m := by
  have hb := tmod_lt n m h
  exact ⟨Int.tmod_nonneg _ (by omega), Int.tmod_lt_of_pos _ (by omega)⟩
set_option maxHeartbeats 400000 in
theorem mod_any (n m : Int) (w : World) (h1 : 1 ≤ m) (h2 : m ≤ 4611686018427387903) :
    Calls Tryz.prog 25 #[.int .i64 n, .int .i64 m] w fun e w' => e = .returned (.int .i64 (modF n m)) ∧ w' = w := by
  go_enter Tryz.func25, Tryz.ntmps25
  go_wp2
  go_ret
  have hb := tmod_lt n m h1
  have hw : wrap64 (n.tmod m + m) = n.tmod m + m := IntWalk.wrap64_in _ ⟨by omega, by omega⟩
  rw [hw]
  exact ⟨rfl, rfl⟩

/-- Block D is dice; what they are made of lies before it. -/
def DiceOk (D : Nat) (w : World) : Prop := ∃ (A : Option Addr) (c i : Nat) (xs : List Int),
  Blk w D 77 #[.slice A xs.length c, .int .i64 i] ∧ i ≤ xs.length ∧ xs.length ≤ c ∧ xs.length ≤ 500 ∧ (Kd.int .i64).C (fun k => k < D) w A xs.length xs
theorem DiceOk.lt {D : Nat} {w : World} (h : DiceOk D w) : D < w.heap.size := by obtain ⟨A, c, i, xs, hb, _⟩ := h; exact hb.lt
theorem DiceOk.keep {D : Nat} {w w' : World} (h : DiceOk D w) (hb : Below w.heap.size w w') : DiceOk D w' := by
  obtain ⟨A, c, i, xs, h1, h2, h3, h4, h5⟩ := h
  exact ⟨A, c, i, xs, h1.keep hb, h2, h3, h4, Kd.C_below h5 hb⟩
theorem DiceOk.drewN {D : Nat} {w : World} (h : DiceOk D w) (n : Nat) : DiceOk D (w.drewN n) := h.keep (below_drewN (Below.refl _ _) n)
theorem DiceOk.alloc {D : Nat} {w : World} (h : DiceOk D w) (o : Obj) : DiceOk D (w.alloc o) := h.keep ((Below.refl _ _).alloc (Nat.le_refl _) o)
theorem DiceOk.set_ {D : Nat} {w : World} (h : DiceOk D w) {p : Addr} (hp : D < p.block) (u : Value) : DiceOk D (w.setCell p u) := by
  obtain ⟨A, c, i, xs, h1, h2, h3, h4, h5⟩ := h
  exact ⟨A, c, i, xs, h1.far (by omega) u, h2, h3, h4, Kd.C_keep (fun k hk _ => Below.heap_setCell w p u k (by omega)) (by simp [World.setCell]) h5⟩
theorem DiceOk.below {D : Nat} {w w' : World} {B : Nat} (h : DiceOk D w) (hb : Below B w w') (hB : D < B) : DiceOk D w' := by
  obtain ⟨A, c, i, xs, h1, h2, h3, h4, h5⟩ := h
  exact ⟨A, c, i, xs, h1.below hb hB, h2, h3, h4, Kd.C_keep (fun k hk _ => hb.block k (by omega)) hb.size h5⟩

theorem DiceOk.far {D g : Nat} {w w' : World} (h : DiceOk D w) (hg : D < g) (hf : ∀ k, k ≠ g → w'.heap[k]? = w.heap[k]?) (hs : w.heap.size ≤ w'.heap.size) : DiceOk D w' := by
  obtain ⟨A, c, i, xs, h1, h2, h3, h4, h5⟩ := h
  exact ⟨A, c, i, xs, (hf D (by omega)).trans h1, h2, h3, h4, Kd.C_keep (fun k hk _ => hf k (by omega)) hs h5⟩
/-- Everything but the dice is as it was. -/
abbrev But (D : Nat) : Nat → Prop := fun k => k ≠ D

set_option maxHeartbeats 400000 in
theorem next_any (D : Nat) (m : Int) (w : World) (h : DiceOk D w) (h1 : 1 ≤ m) (h2 : m ≤ 4611686018427387903) :
    Calls Tryz.prog 37 #[.pointer (some ⟨D, 0, none⟩), .int .i64 m] w fun e w' => ∃ r : Int, 0 ≤ r ∧ r < m ∧ e = .returned (.int .i64 r) ∧ DiceOk D w' ∧ Frm (But D) w w' := by
  obtain ⟨A, c, i, xs, hb, hi, hc, hx, hC⟩ := h
  have H0 := Lib.hid hb; have HC := Lib.hid hC
  have b0 := hb.cell 0
  have b1 := hb.cell 1
  have f1 := hb.frozen 1
  clear hb hC
  by_cases hlt : i < xs.length
  · obtain ⟨ad, rfl, hd, c0⟩ := at_int HC.out i hlt
    have hd' : ad.block ≠ D := by omega
    generalize hv : xs.getD i 0 = v at c0
    clear hv hd
    go_enter Tryz.func37, Tryz.ntmps37
    go_wp2
    go_quiet (fail)
    go_wp2
    have K2 := Lib.hid ((H0.out.drewN nq).set_ 1 (.int .i64 ((i : Int) + 1)))
    have c2 : ((w.drewN nq).setCell ⟨D, 1, none⟩ (.int .i64 ((i : Int) + 1))).cell? (ad.add i) = some (.int .i64 v) := (World.cell?_of_block (w := w) (Below.heap_setCell _ _ _ _ (by rw [blk_add]; exact hd'))).trans c0
    have F2 : Hid (Frm (But D) w ((w.drewN nq).setCell ⟨D, 1, none⟩ (.int .i64 ((i : Int) + 1)))) := ⟨rfl, rfl, rfl, by simp [World.setCell], fun k hk _ => Below.heap_setCell _ _ _ _ hk⟩
    have s1 : IntKind.i64.wrap ((i : Int) + 1 - 1) = (i : Int) := by rw [IntWalk.i64_in _ ⟨by omega, by omega⟩]; omega
    have g0 := K2.out.cell 0
    have g1 := K2.out.cell 1
    generalize (w.drewN nq).setCell ⟨D, 1, none⟩ (.int .i64 ((i : Int) + 1)) = W2 at *
    clear b0 b1 c0 f1
    go_quiet ((go_at_call 25; exact Calls.quiet_of_same (mod_any _ _ _ h1 h2)))
    go_wp2
    go_ret
    have hr := modF_range v m h1
    refine ⟨_, hr.1, hr.2, rfl, ?_, ?_⟩
    · refine ⟨some ad, c, i + 1, xs, ?_, by omega, hc, hx, ?_⟩
      · exact K2.out.drewN _
      · exact Kd.C_below (Kd.C_keep (fun k hk hl => F2.out.block k (by show k ≠ D; omega) hl) F2.out.size HC.out) (below_drewN (Below.refl _ _) _)
    · exact F2.out.trans (Frm.of_below (below_drewN (Below.refl _ _) _))
  · go_enter Tryz.func37, Tryz.ntmps37
    go_wp2
    go_quiet (fail)
    go_wp2
    go_ret
    refine ⟨0, by omega, by omega, rfl, ?_, Frm.of_below (below_drewN (Below.refl _ _) _)⟩
    exact DiceOk.drewN ⟨A, c, i, xs, H0.out, hi, hc, hx, HC.out⟩ _

set_option maxHeartbeats 400000 in
theorem word_any (D : Nat) (w : World) (h : DiceOk D w) (A : Option Addr) (c : Nat) (xs : List ByteArray) (hx : Kd.string.C (But D) w A xs.length xs) (h1 : 1 ≤ xs.length) (h2 : xs.length ≤ 1000) :
    Calls Tryz.prog 35 #[.pointer (some ⟨D, 0, none⟩), .slice A xs.length c] w fun e w' => ∃ s, s ∈ xs ∧ e = .returned (.string s) ∧ DiceOk D w' ∧ Frm (But D) w w' := by
  have H := Lib.hid h; have HX := Lib.hid hx; clear h hx
  go_enter Tryz.func35, Tryz.ntmps35
  go_wp2_with fail
  refine (next_any D _ w H.out (by omega) (by omega)).mono ?_
  rintro e w' ⟨r, r0, r1, rfl, hd, hf⟩
  obtain ⟨k, rfl⟩ := Int.eq_ofNat_of_zero_le r0
  have hk : k < xs.length := by omega
  obtain ⟨ad, rfl, ho, c0⟩ := at_str HX.out k hk
  replace c0 := hf.cell (by rw [blk_add]; exact ho) c0
  have HD := Lib.hid hd; have HF := Lib.hid hf; clear hd hf ho
  generalize hv : xs.getD k ⟨#[]⟩ = v at c0
  have HV := Lib.hid hv; clear hv
  go_wp2_with fail
  go_ret
  refine ⟨v, ?_, rfl, HD.out, HF.out⟩
  rw [← HV.out, getD_lt _ hk]
  exact List.getElem_mem hk

set_option maxHeartbeats 400000 in
theorem roll_any (w : World) (A : Option Addr) (c : Nat) (xs : List Int) (hx : (Kd.int .i64).C (fun k => k < w.heap.size) w A xs.length xs) (hc : xs.length ≤ c) (h2 : xs.length ≤ 500) :
    Calls Tryz.prog 11 #[.slice A xs.length c] w fun e w' => e = .returned (.pointer (some ⟨w.heap.size, 0, none⟩)) ∧ DiceOk w.heap.size w' ∧ Below w.heap.size w w' := by
  have HX := Lib.hid hx; clear hx
  go_enter Tryz.func11, Tryz.ntmps11
  go_wp2
  go_ret
  refine ⟨rfl, ⟨A, c, 0, xs, Blk.new _ _ _, Nat.zero_le _, hc, h2, ?_⟩, (Below.refl _ _).alloc (Nat.le_refl _) _⟩
  exact Kd.C_below HX.out ((Below.refl _ _).alloc (Nat.le_refl _) _)

theorem light_any (w : World) (A : Option Addr) (n c : Nat) (hn : n ≤ 9223372036854775807) :
    Calls Tryz.prog 9 #[.slice A n c] w fun e w' => e = .returned (.bool (decide (n ≤ 500))) ∧ w = w' := by
  by_cases h : n ≤ 500
  · have hb : decide ((n : Int) ≤ 500) = true := by simp; omega
    go_enter Tryz.func9, Tryz.ntmps9
    go_wp2
    go_ret
    exact ⟨by simp [h], rfl⟩
  · have hb : decide ((n : Int) ≤ 500) = false := by simp; omega
    go_enter Tryz.func9, Tryz.ntmps9
    go_wp2
    go_ret
    exact ⟨by simp [h], rfl⟩
end Go.Proofs.YtmeipcnicfaojaaGreatDoor
