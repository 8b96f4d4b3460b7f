/- The codec: numbers and texts are written. -/
import Derived.Test.YtmeipcnicfaojaaGreatDoorAw1
import Derived.Laws.BytesArg
import Derived.Lib.Varint
namespace Go.Proofs.YtmeipcnicfaojaaGreatDoor
open Go.RowKit

/-- A number from 0 on in groups of seven bits, the least first. -/
def vbytes (u : Nat) : List Int := if u < 128 then [(u : Int)] else (((u % 128 : Nat) : Int) + 128) :: vbytes (u / 128)
termination_by u
decreasing_by omega
theorem vbytes_small {u : Nat} (h : u < 128) : vbytes u = [(u : Int)] := by rw [vbytes, if_pos h]
theorem vbytes_great {u : Nat} (h : 128 ≤ u) : vbytes u = (((u % 128 : Nat) : Int) + 128) :: vbytes (u / 128) := by rw [vbytes, if_neg (by omega)]
theorem vbytes_len : ∀ (k u : Nat), u < 128 ^ (k + 1) → (vbytes u).length ≤ k + 1
  | 0, u, h => by rw [vbytes_small (by simpa using h)]; simp
  | k + 1, u, h => by
    rcases Nat.lt_or_ge u 128 with h1 | h1
    · rw [vbytes_small h1]; simp
    · rw [vbytes_great h1]
      have := vbytes_len k (u / 128) (Nat.div_lt_of_lt_mul (by rw [Nat.pow_succ] at h; omega))
      simp; omega
/-- The number as the codec turns it: 0, -1, 1, -2, .. -/
def zigV (n : Int) : Int := bits .xor .u64 (IntKind.u64.wrap (IntKind.u64.wrap n * 2)) (IntKind.u64.wrap (n / 9223372036854775808))
theorem zigV_range (n : Int) : 0 ≤ zigV n ∧ zigV n < 18446744073709551616 := by
  unfold zigV bits
  rw [IntKind.wrap_u64]
  omega
def zig (n : Int) : Nat := (zigV n).toNat
/-- b with a number behind it; with a text behind it. -/
def wInt (b : ByteArray) (n : Int) : ByteArray := b ++ strOfNums (vbytes (zig n))
def wText (b s : ByteArray) : ByteArray := wInt b (s.size : Int) ++ s
theorem zig_lt (n : Int) : zig n < 18446744073709551616 := by have := zigV_range n; unfold zig; omega
theorem vbytes_le (n : Int) : (vbytes (zig n)).length ≤ 10 := vbytes_len 9 _ (Nat.lt_of_lt_of_le (zig_lt n) (by decide))
theorem wInt_size (b : ByteArray) (n : Int) : (wInt b n).size ≤ b.size + 10 := by
  have := vbytes_le n
  rw [wInt, ByteArray.size_append, strOfNums_size]; omega
theorem wText_size (b s : ByteArray) : (wText b s).size ≤ b.size + 10 + s.size := by
  have := wInt_size b (s.size : Int)
  rw [wText, ByteArray.size_append]; omega
theorem infoByte : (Tryz.prog.info? 5).map (fun i => (i.zero, i.size, i.bytes)) = some (some (.int .u8 0), 1, 1) := by kernel_rfl

theorem Kd.Own.bytes {e : TypeId} {ok : Nat → Prop} {w : World} {base : Nat} {v : Value} {xs : List Int} (h : (Kd.int .u8).Own e ok w base v xs) (hn : 0 < xs.length) (hm : xs.length ≤ 140737488355328) :
    ∃ g c, v = .slice (some ⟨g, 0, none⟩) xs.length c ∧ ∀ i, i < xs.length → w.cell? ⟨g, 0 + i, none⟩ = some (.int .u8 (xs.getD i 0)) := by
  obtain ⟨A, c, hv, hc, hC⟩ := h.reads hm
  obtain ⟨_, css, _, ho, _⟩ := h
  obtain ⟨g, cap, hv', _, _⟩ := ho.form hn
  rw [hv'] at hv
  injection hv with hA _ hcc
  subst hA hcc
  refine ⟨g, cap, hv', fun i hi => ?_⟩
  obtain ⟨ad, ha, _, hcell⟩ := at_int hC i hi
  injection ha with ha
  subst ha
  rw [add_zero'] at hcell
  exact hcell

set_option maxRecDepth 100000 in
set_option maxHeartbeats 1000000 in
theorem putint_any (w : World) (b : ByteArray) (n : Int) (hb : b.size ≤ 4611686018427387904) : Calls Tryz.prog 40 #[.string b, .int .i64 n] w fun e w' => e = .returned (.string (wInt b n)) ∧ Below w.heap.size w w' := by
  unfold wInt
  obtain ⟨hz0, hz1⟩ := zigV_range n
  have hz : zigV n = ((zig n : Nat) : Int) := by unfold zig; omega
  have hzl : (vbytes (zig n)).length ≤ 10 := vbytes_len 9 _ (by have : zig n < 18446744073709551616 := by omega
                                                                exact Nat.lt_of_lt_of_le this (by decide))
  have HZ := Lib.hid hzl
  have hlt : zig n < 18446744073709551616 := by omega
  generalize hzg : zig n = z at *
  clear hzl hz0 hz1
  go_enter Tryz.func40, Tryz.ntmps40
  go_wp2
  have hz' : bits .xor .u64 (IntKind.u64.wrap (IntKind.u64.wrap n * 2)) (IntKind.u64.wrap (n / 9223372036854775808)) = (z : Int) := hz
  go_loopw [5, 6] (fun v5 v6 wr => ∃ (u : Nat) (xs : List Int), u < 18446744073709551616 ∧ v6 = .int .u64 u ∧ Hid (xs ++ vbytes u = vbytes z) ∧ w.heap.size ≤ wr.heap.size ∧ Hid (Below w.heap.size w wr) ∧ Hid ((Kd.int .u8).Own 5 (fun k => w.heap.size ≤ k) wr w.heap.size v5 xs)) (fun _ v6 _ => (intOf v6).toNat)
  case atStart => exact ⟨z, [], hlt, by rw [hz'], rfl, Nat.le_refl _, Below.refl _ _, Kd.Own.nil _ _ _ _ _⟩
  case round =>
    obtain ⟨u, xs, hu, rfl, hx, hzr, hB, HO⟩ := hrel
    clear hz hz'
    have hxl : xs.length ≤ 10 := by have := HZ.out; rw [← hx.out] at this; simp at this; omega
    obtain ⟨A, m, c, rfl⟩ : ∃ A n c, u5 = .slice A n c := (by obtain ⟨A, c, e, _⟩ := HO.out.form; exact ⟨A, _, c, e⟩)
    by_cases hge : 128 ≤ u
    · have hge' : (128 : Int) ≤ (u : Int) := by omega
      have hor : Hid (bits .or .u8 ((u : Int) % 256) 128 = ((u % 128 : Nat) : Int) + 128) := by
        show _ = _
        rw [Lib.u8_or128_any _ (by omega) (by omega)]; omega
      go_wp2_with (
        (at_builtin
         refine Kd.own_append (d := Kd.int .u8) w.heap.size 101 5 (.int .u8 0) 1 rfl (.tmp 18) (.tmp 22) rfl Tryz.underlying101 infoByte rfl (by decide) (by decide) (.slice A m c) xs _ #[.int .u8 (bits .or .u8 ((u : Int) % 256) 128)] rfl rfl HO.out rfl (fun k hk => Nat.le_trans hzr hk) hzr (by omega) ?_
         intro v1 w1 hown hg hat
         have H1 := Lib.hid hown; have G1 := Lib.hid hg
         clear hown hg hat))
      go_roundw
      case rel =>
        refine ⟨u / 128, xs ++ [_], by omega, by go_num, ?_, Nat.le_trans hzr G1.out.size, ?_, H1.out⟩
        · show _ ++ _ = _
          rw [← hx.out, vbytes_great hge, hor.out, List.append_assoc]; rfl
        · exact hB.out.grown G1.out hzr (fun k hk => HO.out.1 k hk)
      case measure => simp [intOf]; omega
    · have hge' : ¬ (128 : Int) ≤ (u : Int) := by omega
      have hu8 : (u : Int) % 256 = (u : Int) := by omega
      go_wp2_with (
        (at_builtin
         refine Kd.own_append (d := Kd.int .u8) w.heap.size 101 5 (.int .u8 0) 1 rfl (.tmp 25) (.tmp 28) rfl Tryz.underlying101 infoByte rfl (by decide) (by decide) (.slice A m c) xs (u : Int) #[.int .u8 (u : Int)] rfl rfl HO.out rfl (fun k hk => Nat.le_trans hzr hk) hzr (by omega) ?_
         intro v1 w1 hown hg hat
         obtain ⟨g1, c1, rfl, hc1⟩ := hown.bytes (by simp) (by simp; omega)
         have hconv := run_convert_bytes_arg (P := Tryz.prog) w1 101 5 Tryz.underlying101 Tryz.underlying5 g1 0 (xs.length + 1) c1 (xs ++ [(u : Int)]) (by simp) (fun i hi => hc1 i (by simpa using hi)) 9 Tryz.underlying9
         have hss : (strOfNums (xs ++ [(u : Int)])).size = xs.length + 1 := (by rw [strOfNums_size]; simp)
         have G1 := Lib.hid hg
         clear hown hg hat hc1))
      go_ret
      refine ⟨?_, ?_⟩
      · rw [← hx.out, vbytes_small (by omega)]
        rfl
      · exact hB.out.grown G1.out hzr (fun k hk => HO.out.1 k hk)

theorem puttext_any (w : World) (b s : ByteArray) (hb : b.size ≤ 1152921504606846976) (hs : s.size ≤ 1152921504606846976) : Calls Tryz.prog 41 #[.string b, .string s] w fun e w' => e = .returned (.string (wText b s)) ∧ Below w.heap.size w w' := by
  go_enter Tryz.func41, Tryz.ntmps41
  go_wp2_with fail
  refine (putint_any w b (s.size : Int) (by omega)).mono ?_
  rintro e w1 ⟨rfl, hB⟩
  have B := Lib.hid hB
  have hz := wInt_size b (s.size : Int)
  clear hB
  go_wp2_with fail
  go_ret
  exact ⟨rfl, B.out⟩
end Go.Proofs.YtmeipcnicfaojaaGreatDoor
