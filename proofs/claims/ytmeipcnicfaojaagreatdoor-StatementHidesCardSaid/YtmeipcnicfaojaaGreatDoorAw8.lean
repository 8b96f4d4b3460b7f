/- The sanity check of the layer, its eighth part: Bytes and Read of the one statement. -/
import Derived.Test.YtmeipcnicfaojaaGreatDoorAw7
namespace Go.Proofs.YtmeipcnicfaojaaGreatDoor
open Go.RowKit

theorem wInt_small (b : ByteArray) (n : Int) (k : Nat) (hk : zig n = k) (h : k < 128) : wInt b n = b ++ ⟨#[UInt8.ofNat k]⟩ := by
  rw [wInt, hk, vbytes_small h]
  rfl
/-- The one term, the one statement. -/
def tAlw : Term := ⟨8, 0, 0, ⟨#[]⟩, ⟨#[]⟩, []⟩
def sAlw : Stmt := ⟨⟨#[120]⟩, 0, 5, [], [tAlw], []⟩
theorem stmtB_always : stmtB sAlw ⟨#[97, 108, 119, 97, 121, 115]⟩ = ⟨#[2, 120, 0, 10, 0, 12, 97, 108, 119, 97, 121, 115, 0]⟩ := by
  have z0 : zig 0 = 0 := by kernel_rfl
  have z1 : zig 1 = 2 := by kernel_rfl
  have z5 : zig 5 = 10 := by kernel_rfl
  have z6 : zig 6 = 12 := by kernel_rfl
  have h0 := fun b => wInt_small b 0 0 z0 (by decide)
  have h1 := fun b => wInt_small b 1 2 z1 (by decide)
  have h5 := fun b => wInt_small b 5 10 z5 (by decide)
  have h6 := fun b => wInt_small b 6 12 z6 (by decide)
  show wInt (wInt (wInt (wInt (wInt (wInt ⟨#[]⟩ 1 ++ ⟨#[120]⟩) 0) 5) 0) 6 ++ ⟨#[97, 108, 119, 97, 121, 115]⟩) 0 = _
  rw [h1, h0, h5, h0, h6, h0]
  kernel_rfl
theorem kAlw (ok : Nat → Prop) (w : World) (g c : Nat) (hok : ok g) (hc : 1 ≤ c) (h : Alw w ⟨g, 0, none⟩) : kStmt.K ok w sAlw [.string ⟨#[120]⟩, .int .i64 0, .int .i64 5, .slice none 0 0, .slice (some ⟨g, 0, none⟩) 1 c, .slice none 0 0] := by
  refine kStmt_mk ok w sAlw (A3 := none) (c3 := 0) (Nat.le_refl _) (Kd.C_nil _ _ _ _) (A4 := some ⟨g, 0, none⟩) (c4 := c) hc ⟨rfl, by decide, fun _ => ⟨_, rfl, hok, fun j x hj => ?_⟩⟩ (A5 := none) (c5 := 0) (Nat.le_refl _) (Kd.C_nil _ _ _ _)
  match j, hj with
  | 0, hj =>
    injection hj with hj
    subst hj
    refine ⟨_, kTerm_mk ok w tAlw (A5 := none) (c5 := 0) (Nat.le_refl _) (Kd.C_nil _ _ _ _), fun i u hu => ?_⟩
    show w.cell? ((⟨g, 0, none⟩ : Addr).add (0 * 6 + i)) = some u
    rw [add_zero', Nat.zero_mul, Nat.zero_add, Nat.zero_add]
    match i, hu with
    | 0, hu => injection hu with hu; subst hu; exact h.1
    | 1, hu => injection hu with hu; subst hu; exact h.2.1
    | 2, hu => injection hu with hu; subst hu; exact h.2.2.1
    | 3, hu => injection hu with hu; subst hu; exact h.2.2.2.1
    | 4, hu => injection hu with hu; subst hu; exact h.2.2.2.2.1
    | 5, hu => injection hu with hu; subst hu; exact h.2.2.2.2.2
theorem bytes_always (w : World) (g c : Nat) (hc : 1 ≤ c) (h : Alw w ⟨g, 0, none⟩) :
    Calls Tryz.prog 14 #[.agg #[.string ⟨#[120]⟩, .int .i64 0, .int .i64 5, .slice none 0 0, .slice (some ⟨g, 0, none⟩) 1 c, .slice none 0 0]] w fun e w' => e = .returned (.tuple #[.string ⟨#[2, 120, 0, 10, 0, 12, 97, 108, 119, 97, 121, 115, 0]⟩, .int .i64 0]) ∧ Below w.heap.size w w' := by
  refine (bytes_any w sAlw _ ⟨#[97, 108, 119, 97, 121, 115]⟩ (kAlw _ w g c trivial hc h) ⟨by decide, by simp [sAlw], by simp [sAlw]⟩ (by decide) ?_).mono ?_
  · intro A c' W he hB
    injection he with he
    injection he with h1 _ h3
    subst h1 h3
    exact (print_always W _ c (h.keep hB))
  · rintro e w' ⟨hB, rfl⟩
    refine ⟨?_, hB⟩
    rw [stmtB_always, if_pos (by decide)]
end Go.Proofs.YtmeipcnicfaojaaGreatDoor
