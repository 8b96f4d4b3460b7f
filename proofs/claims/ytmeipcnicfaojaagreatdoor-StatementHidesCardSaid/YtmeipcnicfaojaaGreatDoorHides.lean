/- StatementHides: the walk of the law. -/
import Derived.Test.YtmeipcnicfaojaaGreatDoorAw11
import Derived.Test.YtmeipcnicfaojaaGreatDoorApp
import Derived.Test.YtmeipcnicfaojaaGreatDoorHidesLaw
namespace Go.Proofs.YtmeipcnicfaojaaGreatDoor
open Go.RowKit


theorem show_flat (ok ok' : Nat → Prop) (w w' : World) (x : Show_) (cs : List Value) (h : kShow_.K ok w x cs) : kShow_.K ok' w' x cs := by
  rw [kShow__open h]
  exact kShow__mk ok' w' x
theorem Kd.Own.show_self {e : TypeId} {ok : Nat → Prop} {w : World} {base : Nat} {v : Value} {xs : List Show_} (h : kShow_.Own e ok w base v xs) : kShow_.Own e (fun k => v.ownBlock = some k) w base v xs := by
  obtain ⟨h0, css, hl, ho, hK⟩ := h
  exact ⟨fun k hk => hk, css, hl, ho, fun i x cs hx hcs => show_flat _ _ _ _ _ _ (hK i x cs hx hcs)⟩
/-- The cells of two statements' blocks, and that they last. -/
theorem blk2S {w W : World} {g k : Nat} {t : TypeId} {a0 a1 a2 a3 a4 a5 b0 b1 b2 b3 b4 b5 : Value} (h : Blk w g t #[a0, a1, a2, a3, a4, a5]) (h' : Blk w k t #[b0, b1, b2, b3, b4, b5]) (hb : Below w.heap.size w W) :
    W.cell? ⟨g, 0, none⟩ = some a0 ∧ W.cell? ⟨g, 1, none⟩ = some a1 ∧ W.cell? ⟨g, 2, none⟩ = some a2 ∧ W.cell? ⟨g, 3, none⟩ = some a3 ∧ W.cell? ⟨g, 4, none⟩ = some a4 ∧ W.cell? ⟨g, 5, none⟩ = some a5
    ∧ W.cell? ⟨k, 0, none⟩ = some b0 ∧ W.cell? ⟨k, 1, none⟩ = some b1 ∧ W.cell? ⟨k, 2, none⟩ = some b2 ∧ W.cell? ⟨k, 3, none⟩ = some b3 ∧ W.cell? ⟨k, 4, none⟩ = some b4 ∧ W.cell? ⟨k, 5, none⟩ = some b5 :=
  ⟨(h.keep hb).cell 0, (h.keep hb).cell 1, (h.keep hb).cell 2, (h.keep hb).cell 3, (h.keep hb).cell 4, (h.keep hb).cell 5, (h'.keep hb).cell 0, (h'.keep hb).cell 1, (h'.keep hb).cell 2, (h'.keep hb).cell 3, (h'.keep hb).cell 4, (h'.keep hb).cell 5⟩
theorem blk4S {w W : World} {g k p q : Nat} {t : TypeId} {a0 a1 a2 a3 a4 a5 b0 b1 b2 b3 b4 b5 c0 c1 c2 c3 c4 c5 d0 d1 d2 d3 d4 d5 : Value} (h : Blk w g t #[a0, a1, a2, a3, a4, a5]) (h' : Blk w k t #[b0, b1, b2, b3, b4, b5]) (h9 : Blk w p t #[c0, c1, c2, c3, c4, c5]) (h10 : Blk w q t #[d0, d1, d2, d3, d4, d5]) (hb : Below w.heap.size w W) :
    W.cell? ⟨g, 0, none⟩ = some a0 ∧ W.cell? ⟨g, 1, none⟩ = some a1 ∧ W.cell? ⟨g, 2, none⟩ = some a2 ∧ W.cell? ⟨g, 3, none⟩ = some a3 ∧ W.cell? ⟨g, 4, none⟩ = some a4 ∧ W.cell? ⟨g, 5, none⟩ = some a5
    ∧ W.cell? ⟨k, 0, none⟩ = some b0 ∧ W.cell? ⟨k, 1, none⟩ = some b1 ∧ W.cell? ⟨k, 2, none⟩ = some b2 ∧ W.cell? ⟨k, 3, none⟩ = some b3 ∧ W.cell? ⟨k, 4, none⟩ = some b4 ∧ W.cell? ⟨k, 5, none⟩ = some b5
    ∧ W.cell? ⟨p, 0, none⟩ = some c0 ∧ W.cell? ⟨q, 0, none⟩ = some d0 ∧ W.cell? ⟨q, 2, none⟩ = some d2 :=
  ⟨(h.keep hb).cell 0, (h.keep hb).cell 1, (h.keep hb).cell 2, (h.keep hb).cell 3, (h.keep hb).cell 4, (h.keep hb).cell 5, (h'.keep hb).cell 0, (h'.keep hb).cell 1, (h'.keep hb).cell 2, (h'.keep hb).cell 3, (h'.keep hb).cell 4, (h'.keep hb).cell 5, (h9.keep hb).cell 0, (h10.keep hb).cell 0, (h10.keep hb).cell 2⟩
theorem six_blk (w : World) (g : Nat) (a0 a1 a2 a3 a4 a5 : Value) (k : Nat) (hk : k ≠ g) : ((((((w.setCell ⟨g, 0, none⟩ a0).setCell ⟨g, 1, none⟩ a1).setCell ⟨g, 2, none⟩ a2).setCell ⟨g, 3, none⟩ a3).setCell ⟨g, 4, none⟩ a4).setCell ⟨g, 5, none⟩ a5).heap[k]? = w.heap[k]? := by
  rw [Below.heap_setCell _ _ _ _ hk, Below.heap_setCell _ _ _ _ hk, Below.heap_setCell _ _ _ _ hk, Below.heap_setCell _ _ _ _ hk, Below.heap_setCell _ _ _ _ hk, Below.heap_setCell _ _ _ _ hk]
def Blk6 (w : World) (g : Nat) (t : TypeId) : Prop := ∃ b0 b1 b2 b3 b4 b5, Blk w g t #[b0, b1, b2, b3, b4, b5]
theorem Blk6.of {w : World} {g : Nat} {t : TypeId} {b0 b1 b2 b3 b4 b5 : Value} (h : Blk w g t #[b0, b1, b2, b3, b4, b5]) : Blk6 w g t := ⟨_, _, _, _, _, _, h⟩
theorem Blk6.put {w : World} {g : Nat} {t : TypeId} (h : Blk6 w g t) (a0 a1 a2 a3 a4 a5 : Value) : Blk ((((((w.setCell ⟨g, 0, none⟩ a0).setCell ⟨g, 1, none⟩ a1).setCell ⟨g, 2, none⟩ a2).setCell ⟨g, 3, none⟩ a3).setCell ⟨g, 4, none⟩ a4).setCell ⟨g, 5, none⟩ a5) g t #[a0, a1, a2, a3, a4, a5] := by
  obtain ⟨_, _, _, _, _, _, h⟩ := h
  exact h.six _ _ _ _ _ _
theorem Blk6.six_far {w : World} {g k : Nat} {t : TypeId} (h : Blk6 w k t) (hne : k ≠ g) (a0 a1 a2 a3 a4 a5 : Value) : Blk6 ((((((w.setCell ⟨g, 0, none⟩ a0).setCell ⟨g, 1, none⟩ a1).setCell ⟨g, 2, none⟩ a2).setCell ⟨g, 3, none⟩ a3).setCell ⟨g, 4, none⟩ a4).setCell ⟨g, 5, none⟩ a5) k t := by
  obtain ⟨_, _, _, _, _, _, h⟩ := h
  exact ⟨_, _, _, _, _, _, h.six_far hne _ _ _ _ _ _⟩
section
variable {w wa : World} {t t' : TypeId} {cs cs' ds : Array Value} {g : Nat} {o : Obj}
/-- Behind a call: the blocks that were made last before it. -/
theorem blk_d1 (hb : Below (w.alloc (.cells cs t)).drew.heap.size (w.alloc (.cells cs t)).drew wa) : Blk wa w.heap.size t cs := Blk.keep (Blk.drew (Blk.new _ _ _)) hb
theorem blk_d2 (hb : Below ((w.alloc (.cells cs t)).alloc (.cells cs' t')).drew.heap.size ((w.alloc (.cells cs t)).alloc (.cells cs' t')).drew wa) : Blk wa w.heap.size t cs ∧ Blk wa (w.heap.size + 1) t' cs' :=
  ⟨Blk.keep (Blk.drew (Blk.alloc (Blk.new _ _ _) _)) hb, Blk.keep (Blk.drew (Blk.new' _ _ _ _ (by simp))) hb⟩
theorem blk_n1 (hb : Below (w.alloc (.cells cs t)).heap.size (w.alloc (.cells cs t)) wa) : Blk wa w.heap.size t cs := Blk.keep (Blk.new _ _ _) hb
theorem blk_n2 (hb : Below ((w.alloc (.cells cs t)).alloc (.cells cs' t')).heap.size ((w.alloc (.cells cs t)).alloc (.cells cs' t')) wa) : Blk wa w.heap.size t cs ∧ Blk wa (w.heap.size + 1) t' cs' :=
  ⟨Blk.keep (Blk.alloc (Blk.new _ _ _) _) hb, Blk.keep (Blk.new' _ _ _ _ (by simp)) hb⟩
theorem blk_k0 (h : Blk w g t cs) (hb : Below w.heap.size w wa) : Blk wa g t cs := h.keep hb
theorem blk_k1 (h : Blk w g t cs) (hb : Below (w.alloc o).heap.size (w.alloc o) wa) : Blk wa g t cs := (h.alloc _).keep hb
end
theorem arr_of {a : Array Value} {l : List Value} (h : a.toList = l) : a = l.toArray := by rw [← h]

set_option maxRecDepth 100000 in
set_option maxHeartbeats 1000000 in
theorem hides_heavy (w : World) (A : Option Addr) (c : Nat) (n : Nat) (q : Int) (hn : ¬ n ≤ 500) (hn2 : n ≤ 9223372036854775807) :
    Calls Tryz.prog 4 #[.slice A n c, .int .u8 q] w fun e w' => e = .returned (.bool true) ∧ Below w.heap.size w w' := by
  have hd : decide (n ≤ 500) = false := by simpa using hn
  have HN := Lib.hid hn; clear hn
  go_enter Tryz.func4, Tryz.ntmps4
  go_wp2_with fail
  refine (light_any _ A n c hn2).mono ?_
  rintro e w1 ⟨rfl, rfl⟩
  go_wp2_with fail
  refine (awake_any _).mono ?_
  rintro e w2 ⟨rfl, hb⟩
  have HB := Lib.hid hb; clear hb
  go_wp2_with fail
  go_ret
  exact ⟨rfl, HB.out⟩

set_option maxRecDepth 100000 in
set_option maxHeartbeats 20000000 in
theorem hides_light (w : World) (A : Option Addr) (c : Nat) (ts : List Int) (q : Nat) (hq : q < 256) (h : (Kd.int .i64).C (fun k => k < w.heap.size) w A ts.length ts) (hc : ts.length ≤ c) (hn : ts.length ≤ 500) :
    Calls Tryz.prog 4 #[.slice A ts.length c, .int .u8 q] w fun e w' => e = .returned (.bool true) ∧ Below w.heap.size w w' := by
  have hd : decide (ts.length ≤ 500) = true := by simpa using hn
  have H := Lib.hid h; clear h
  go_enter Tryz.func4, Tryz.ntmps4
  go_wp2_with fail
  refine (light_any _ A ts.length c (by omega)).mono ?_
  rintro e w1 ⟨rfl, rfl⟩
  go_wp2_with fail
  refine (roll_any _ A c ts H.out hc hn).mono ?_
  rintro e w1 ⟨rfl, hd1, hb1⟩
  have D1 := Lib.hid hd1; have B1 := Lib.hid hb1
  have lD := hd1.lt
  clear hd1 hb1
  go_wp2_with fail
  refine (form_any w.heap.size _ D1.out).mono ?_
  rintro e w2 ⟨f, cf, rfl, hK, hl, hd2, hf2⟩
  have D2 := Lib.hid hd2; have F2 := Lib.hid hf2
  have z2 := hf2.size
  have KF := Lib.hid hK
  clear hd2 hf2 hK
  go_wp2_with fail
  refine (statement_any w.heap.size _ f _ D2.out (by exact kForm.mono (fun k hk _ => by show k ≠ _; omega) KF.out) (by omega)).mono ?_
  rintro e w3 ⟨s, ds, rfl, hK, ha, hc3, hs, hkit, hd3, hf3⟩
  have F3 := Lib.hid (F2.out.trans hf3)
  have z3 := hf3.size
  obtain ⟨A3, c3, A4, c4, A5, c5, hds, l3, g3, l4, g4, l5, g5⟩ := kStmt_open hK
  obtain rfl := arr_of hds
  clear hds
  have KS := Lib.hid hK; have G5 := Lib.hid g5
  have HK := Lib.hid hkit
  clear hd3 hf3 hK g3 g4 g5 hkit D1 D2 KF F2
  obtain ⟨fld, hfld⟩ : ∃ fld : ByteArray, ([Value.string ⟨#[119, 104, 97, 116]⟩, .string ⟨#[107, 105, 110, 100]⟩, .string ⟨#[114, 101, 115, 112, 111, 110, 100, 101, 110, 116]⟩, .string ⟨#[100, 97, 121]⟩])[q % 4]? = some (.string fld) := by
    have : q % 4 < 4 := Nat.mod_lt _ (by omega)
    rcases (by omega : q % 4 = 0 ∨ q % 4 = 1 ∨ q % 4 = 2 ∨ q % 4 = 3) with h | h | h | h <;> rw [h] <;> exact ⟨_, rfl⟩
  go_upto_region 7 with fail
  have K6 : Hid (Blk (((w3.alloc (.cells #[.string s.resp, .int .i64 s.dept, .int .i64 s.day, .slice A3 s.ans.length c3, .slice A4 s.cond.length c4, .slice A5 s.shows.length c5] 33)).alloc (.cells #[.string s.resp, .int .i64 s.dept, .int .i64 s.day, .slice A3 s.ans.length c3, .slice A4 s.cond.length c4, .slice A5 s.shows.length c5] 33)).alloc (.cells #[.string ⟨#[119, 104, 97, 116]⟩, .string ⟨#[107, 105, 110, 100]⟩, .string ⟨#[114, 101, 115, 112, 111, 110, 100, 101, 110, 116]⟩, .string ⟨#[100, 97, 121]⟩] 9)) w3.heap.size 33 #[.string s.resp, .int .i64 s.dept, .int .i64 s.day, .slice A3 s.ans.length c3, .slice A4 s.cond.length c4, .slice A5 s.shows.length c5]) := ((Blk.new _ _ _).alloc _).alloc _
  have K7 : Hid (Blk (((w3.alloc (.cells #[.string s.resp, .int .i64 s.dept, .int .i64 s.day, .slice A3 s.ans.length c3, .slice A4 s.cond.length c4, .slice A5 s.shows.length c5] 33)).alloc (.cells #[.string s.resp, .int .i64 s.dept, .int .i64 s.day, .slice A3 s.ans.length c3, .slice A4 s.cond.length c4, .slice A5 s.shows.length c5] 33)).alloc (.cells #[.string ⟨#[119, 104, 97, 116]⟩, .string ⟨#[107, 105, 110, 100]⟩, .string ⟨#[114, 101, 115, 112, 111, 110, 100, 101, 110, 116]⟩, .string ⟨#[100, 97, 121]⟩] 9)) (w3.heap.size + 1) 33 #[.string s.resp, .int .i64 s.dept, .int .i64 s.day, .slice A3 s.ans.length c3, .slice A4 s.cond.length c4, .slice A5 s.shows.length c5]) := (Blk.new' _ _ _ _ (by simp)).alloc _
  have B7 : Hid (Below w3.heap.size w3 (((w3.alloc (.cells #[.string s.resp, .int .i64 s.dept, .int .i64 s.day, .slice A3 s.ans.length c3, .slice A4 s.cond.length c4, .slice A5 s.shows.length c5] 33)).alloc (.cells #[.string s.resp, .int .i64 s.dept, .int .i64 s.day, .slice A3 s.ans.length c3, .slice A4 s.cond.length c4, .slice A5 s.shows.length c5] 33)).alloc (.cells #[.string ⟨#[119, 104, 97, 116]⟩, .string ⟨#[107, 105, 110, 100]⟩, .string ⟨#[114, 101, 115, 112, 111, 110, 100, 101, 110, 116]⟩, .string ⟨#[100, 97, 121]⟩] 9))) := by show Below _ _ _; (repeat' first | with_reducible exact Below.refl _ _ | refine Below.drew ?_ | refine below_drewN ?_ _ | refine Below.alloc ?_ (by first | exact Nat.le_refl _ | omega | (simp; done) | (simp; omega)) _ | refine Below.setCell ?_ (by first | omega | (simp; done) | (simp; omega)) _)
  have z7 : w3.heap.size + 1 + 1 < (((w3.alloc (.cells #[.string s.resp, .int .i64 s.dept, .int .i64 s.day, .slice A3 s.ans.length c3, .slice A4 s.cond.length c4, .slice A5 s.shows.length c5] 33)).alloc (.cells #[.string s.resp, .int .i64 s.dept, .int .i64 s.day, .slice A3 s.ans.length c3, .slice A4 s.cond.length c4, .slice A5 s.shows.length c5] 33)).alloc (.cells #[.string ⟨#[119, 104, 97, 116]⟩, .string ⟨#[107, 105, 110, 100]⟩, .string ⟨#[114, 101, 115, 112, 111, 110, 100, 101, 110, 116]⟩, .string ⟨#[100, 97, 121]⟩] 9)).heap.size := by simp
  generalize (((w3.alloc (.cells #[.string s.resp, .int .i64 s.dept, .int .i64 s.day, .slice A3 s.ans.length c3, .slice A4 s.cond.length c4, .slice A5 s.shows.length c5] 33)).alloc (.cells #[.string s.resp, .int .i64 s.dept, .int .i64 s.day, .slice A3 s.ans.length c3, .slice A4 s.cond.length c4, .slice A5 s.shows.length c5] 33)).alloc (.cells #[.string ⟨#[119, 104, 97, 116]⟩, .string ⟨#[107, 105, 110, 100]⟩, .string ⟨#[114, 101, 115, 112, 111, 110, 100, 101, 110, 116]⟩, .string ⟨#[100, 97, 121]⟩] 9)) = w7 at *
  have k5 := K6.out.cell 5
  clear hfld
  go_wp2_with (first
    | (at_builtin
       refine Kd.own_append_row (d := kShow_) (ok := fun _ => True) w7.heap.size 31 47 (.agg #[.string ⟨#[]⟩, .string ⟨#[]⟩]) 32 rfl (.const (.slice none 0 0)) (.tmp 38) rfl Tryz.underlying31 infoShow rfl (by decide) (by decide) (.slice none 0 0) [] s.shows A5 s.shows.length c5 (by rfl) (by rfl) (Kd.Own.nil _ _ _ _ _) (Kd.C_mono (by decide) (fun k hk _ => ⟨trivial, by simp [Value.ownBlock]⟩) (Kd.C_below G5.out B7.out)) (fun _ _ => trivial) (Nat.le_refl _) (by simp; omega) ?_
       intro v8 w8 hown hg hat
       obtain ⟨A8, n8, c8, rfl⟩ : ∃ A n c, v8 = .slice A n c := (by obtain ⟨A, c, e, _⟩ := hown.form; exact ⟨A, _, c, e⟩)
       have O8 := Lib.hid hown.show_self
       have K68 := Lib.hid (K6.out.grown hg (by simp [Value.ownBlock]))
       have K78 := Lib.hid (K7.out.grown hg (by simp [Value.ownBlock]))
       have B8 : Hid (Below w3.heap.size w3 w8) := B7.out.grown hg (by omega) (by simp [Value.ownBlock])
       have z8 : w7.heap.size ≤ w8.heap.size := hg.size
       clear hown hg hat k5)
    | (at_builtin
       refine Kd.own_append (d := kShow_) (ok := fun _ => True) w7.heap.size 31 47 (.agg #[.string ⟨#[]⟩, .string ⟨#[]⟩]) 32 rfl (.tmp 39) (.tmp 42) rfl Tryz.underlying31 infoShow rfl (by decide) (by decide) (.slice A8 n8 c8) ([] ++ s.shows) ⟨fld, ⟨#[98, 111, 97, 114, 100]⟩⟩ #[.string fld, .string ⟨#[98, 111, 97, 114, 100]⟩] (by rfl) (by rfl) (O8.out.mono (fun _ _ _ => trivial)) (kShow__mk _ _ ⟨fld, ⟨#[98, 111, 97, 114, 100]⟩⟩) (fun _ _ => trivial) z8 (by simp; omega) ?_
       intro v9 w9 hown hg hat
       obtain ⟨A9, n9, c9, rfl⟩ : ∃ A n c, v9 = .slice A n c := (by obtain ⟨A, c, e, _⟩ := hown.form; exact ⟨A, _, c, e⟩)
       have O9 := Lib.hid hown.show_self
       have hrow : ∀ k, (Value.slice A8 n8 c8).ownBlock = some k → w7.heap.size ≤ k := fun k hk => (O8.out.base_ge k hk).1
       have K69 := Lib.hid (K68.out.grown hg (fun e => by have := hrow _ e.symm; omega))
       have K79 := Lib.hid (K78.out.grown hg (fun e => by have := hrow _ e.symm; omega))
       have B9 : Hid (Below w3.heap.size w3 w9) := B8.out.grown hg (by omega) (fun k hk => by have := hrow k hk; omega)
       have z9 : w7.heap.size ≤ w9.heap.size := Nat.le_trans z8 hg.size
       have m5 := K79.out.cell 5
       have f5 := K79.out.frozen 5
       clear hown hg hat hrow))
  clear m5 f5
  obtain ⟨_, _, _, _, _, _, hds, _, g3, _, g4, _, _⟩ := kStmt_open KS.out
  injection hds with e0 hds
  injection hds with e1 hds
  injection hds with e2 hds
  injection hds with e3 hds
  injection hds with e4 hds
  injection hds with e5 hds
  injection e3 with e3 _ e3'
  injection e4 with e4 _ e4'
  subst e3 e3' e4 e4'
  clear e0 e1 e2 e5 hds
  have HN9 : Hid (n9 = (s.more fld).shows.length) := by
    obtain ⟨A, c, e, _⟩ := O9.out.form
    injection e with _ e
  have BW : Hid (Below w3.heap.size w3 (w9.setCell ⟨w3.heap.size + 1, 5, none⟩ (.slice A9 n9 c9))) := B9.out.setCell (by show _ ≤ w3.heap.size + 1; omega) _
  have K6 : Hid (Blk (w9.setCell ⟨w3.heap.size + 1, 5, none⟩ (.slice A9 n9 c9)) w3.heap.size 33 #[.string s.resp, .int .i64 s.dept, .int .i64 s.day, .slice A3 s.ans.length c3, .slice A4 s.cond.length c4, .slice A5 s.shows.length c5]) := K69.out.far (by show _ ≠ w3.heap.size + 1; omega) _
  have K7 : Hid (Blk (w9.setCell ⟨w3.heap.size + 1, 5, none⟩ (.slice A9 n9 c9)) (w3.heap.size + 1) 33 #[.string s.resp, .int .i64 s.dept, .int .i64 s.day, .slice A3 s.ans.length c3, .slice A4 s.cond.length c4, .slice A9 n9 c9]) := K79.out.set_ 5 _
  have hz0 : w3.heap.size + 1 + 1 < (w9.setCell ⟨w3.heap.size + 1, 5, none⟩ (.slice A9 n9 c9)).heap.size := by simp [World.setCell]; omega
  have KS0 : Hid (kStmt.K (fun _ => True) (w9.setCell ⟨w3.heap.size + 1, 5, none⟩ (.slice A9 n9 c9)) s [.string s.resp, .int .i64 s.dept, .int .i64 s.day, .slice A3 s.ans.length c3, .slice A4 s.cond.length c4, .slice A5 s.shows.length c5]) := kStmt.mono (fun _ _ _ => trivial) (Kd.below KS.out BW.out)
  have KM0 : Hid (kStmt.K (fun _ => True) (w9.setCell ⟨w3.heap.size + 1, 5, none⟩ (.slice A9 n9 c9)) (s.more fld) [.string s.resp, .int .i64 s.dept, .int .i64 s.day, .slice A3 s.ans.length c3, .slice A4 s.cond.length c4, .slice A9 n9 c9]) := by
    have O10 := O9.out.far (p := ⟨w3.heap.size + 1, 5, none⟩) (fun k hk _ => by have := (O9.out.base_ge k hk).1; show k ≠ w3.heap.size + 1; omega) (.slice A9 n9 c9)
    obtain ⟨A, c', e, l9, g9⟩ := O10.reads (by simp; omega)
    injection e with e1 e2 e3
    subst e1 e3
    have q3 := Kd.C_mono (ok' := fun _ => True) (by decide) (fun _ _ _ => trivial) (Kd.C_below g3 BW.out)
    have q4 := Kd.C_mono (ok' := fun _ => True) (by decide) (fun _ _ _ => trivial) (Kd.C_below g4 BW.out)
    have q9 := Kd.C_mono (ok' := fun _ => True) (by decide) (fun _ _ _ => trivial) g9
    have hn9 := HN9.out
    show kStmt.K _ (w9.setCell ⟨w3.heap.size + 1, 5, none⟩ (.slice A9 n9 c9)) _ [_, _, _, _, _, _]
    clear HN9 KS0 K7 K6 hz0 BW O10
    generalize (w9.setCell ⟨w3.heap.size + 1, 5, none⟩ (.slice A9 n9 c9)) = ww at q3 q4 q9 ⊢
    subst hn9
    exact kStmt_mk (fun _ => True) _ (s.more fld) l3 q3 l4 q4 (by simpa [Stmt.more] using l9) q9
  have BF : Hid (Below w.heap.size w (w9.setCell ⟨w3.heap.size + 1, 5, none⟩ (.slice A9 n9 c9))) := by
    have h1 : Below w.heap.size w w3 := B1.out.trans (F3.out.below (fun k hk => by show k ≠ _; omega) (by omega))
    exact h1.trans (BW.out.mono (by omega))
  clear g3 g4 KS G5 K68 K78 K69 K79 B7 B8 B9 O8 O9 z7 z8 z9 BW B1 F3 z2 z3 lD HN9 H
  generalize (w9.setCell ⟨w3.heap.size + 1, 5, none⟩ (.slice A9 n9 c9)) = w0 at *
  generalize w3.heap.size = g6 at *
  have tok1 : True := trivial
  go_cut [9, 10] (fun v9 v10 wx => ∃ (g9 g10 : Nat) (ca cb : List Value), v9 = .pointer (some ⟨g9, 0, none⟩) ∧ v10 = .pointer (some ⟨g10, 0, none⟩) ∧ w0.heap.size ≤ g9 ∧ w0.heap.size ≤ g10 ∧ Hid (Blk wx g9 33 ca.toArray) ∧ Hid (Blk wx g10 33 cb.toArray)
    ∧ Hid (kStmt.K (fun _ => True) wx (s.visible ⟨#[98, 111, 97, 114, 100]⟩) ca) ∧ Hid (kStmt.K (fun _ => True) wx ((s.more fld).visible ⟨#[98, 111, 97, 114, 100]⟩) cb) ∧ Hid (Below w0.heap.size w0 wx))
  case first =>
    go_region_held3 (fun W => W.cell? ⟨g6, 0, none⟩ = some (.string s.resp) ∧ W.cell? ⟨g6, 1, none⟩ = some (.int .i64 s.dept) ∧ W.cell? ⟨g6, 2, none⟩ = some (.int .i64 s.day) ∧ W.cell? ⟨g6, 3, none⟩ = some (.slice A3 s.ans.length c3) ∧ W.cell? ⟨g6, 4, none⟩ = some (.slice A4 s.cond.length c4) ∧ W.cell? ⟨g6, 5, none⟩ = some (.slice A5 s.shows.length c5)
      ∧ W.cell? ⟨g6 + 1, 0, none⟩ = some (.string s.resp) ∧ W.cell? ⟨g6 + 1, 1, none⟩ = some (.int .i64 s.dept) ∧ W.cell? ⟨g6 + 1, 2, none⟩ = some (.int .i64 s.day) ∧ W.cell? ⟨g6 + 1, 3, none⟩ = some (.slice A3 s.ans.length c3) ∧ W.cell? ⟨g6 + 1, 4, none⟩ = some (.slice A4 s.cond.length c4) ∧ W.cell? ⟨g6 + 1, 5, none⟩ = some (.slice A9 n9 c9))
      ((refine blk2S K6.out K7.out ?_; (repeat' first | with_reducible exact Bb.out | with_reducible exact Ba.out | with_reducible exact Below.refl _ _ | with_reducible refine Below.drew ?_ | with_reducible refine Below.alloc ?_ ?_ _ | with_reducible refine Below.setCell ?_ ?_ _ | with_reducible exact Nat.le_refl _ | omega | (simp; done) | (simp; omega)))) (
      (go_at_call 17
       first
       | (have _t := tok1
          refine (visible_any (fun _ => True) _ s [.string s.resp, .int .i64 s.dept, .int .i64 s.day, .slice A3 s.ans.length c3, .slice A4 s.cond.length c4, .slice A5 s.shows.length c5] ⟨#[98, 111, 97, 114, 100]⟩ (by refine Kd.below KS0.out ?_; (repeat' first | with_reducible exact Bb.out | with_reducible exact Ba.out | with_reducible exact Below.refl _ _ | with_reducible refine Below.drew ?_ | with_reducible refine Below.alloc ?_ ?_ _ | with_reducible refine Below.setCell ?_ ?_ _ | with_reducible exact Nat.le_refl _ | omega | (simp; done) | (simp; omega))) (by omega)).mono ?_
          rintro e wa ⟨da, rfl, hK, hb⟩
          have Ba : Hid (Below w0.heap.size w0 wa) := below_then (by (repeat' first | with_reducible exact Bb.out | with_reducible exact Ba.out | with_reducible exact Below.refl _ _ | with_reducible refine Below.drew ?_ | with_reducible refine Below.alloc ?_ ?_ _ | with_reducible refine Below.setCell ?_ ?_ _ | with_reducible exact Nat.le_refl _ | omega | (simp; done) | (simp; omega))) (by first | exact Nat.le_refl _ | omega | (simp; done) | (simp; omega)) hb
          obtain ⟨B3, d3, B4, d4, B5, d5, hda, -, -, -, -, -, -⟩ := kStmt_open hK
          obtain rfl := arr_of hda
          clear hda
          have KA := Lib.hid (kStmt.mono (ok' := fun k => _ ≤ k ∧ k < wa.heap.size) (fun k hk hl => And.intro hk hl) hK)
          have za : w0.heap.size ≤ wa.heap.size := Ba.out.size
          clear hK tok1
          first
          | with_reducible (have G12 := blk_d2 hb
                            have Ga := Lib.hid G12.1
                            have Gb := Lib.hid G12.2
                            clear G12)
          | with_reducible (have Ga := Lib.hid (blk_d1 hb))
          | skip
          try have la1 := Ga.out.lt
          try have lb1 := Gb.out.lt
          clear hb)
       | (refine (visible_any (fun _ => True) _ (s.more fld) [.string s.resp, .int .i64 s.dept, .int .i64 s.day, .slice A3 s.ans.length c3, .slice A4 s.cond.length c4, .slice A9 n9 c9] ⟨#[98, 111, 97, 114, 100]⟩ (by refine Kd.below KM0.out ?_; (repeat' first | with_reducible exact Bb.out | with_reducible exact Ba.out | with_reducible exact Below.refl _ _ | with_reducible refine Below.drew ?_ | with_reducible refine Below.alloc ?_ ?_ _ | with_reducible refine Below.setCell ?_ ?_ _ | with_reducible exact Nat.le_refl _ | omega | (simp; done) | (simp; omega))) (by show s.ans.length ≤ _; omega)).mono ?_
          rintro e wb ⟨db, rfl, hK, hb⟩
          have Bb : Hid (Below w0.heap.size w0 wb) := below_then (by (repeat' first | with_reducible exact Bb.out | with_reducible exact Ba.out | with_reducible exact Below.refl _ _ | with_reducible refine Below.drew ?_ | with_reducible refine Below.alloc ?_ ?_ _ | with_reducible refine Below.setCell ?_ ?_ _ | with_reducible exact Nat.le_refl _ | omega | (simp; done) | (simp; omega))) (by first | exact Nat.le_refl _ | omega | (simp; done) | (simp; omega)) hb
          obtain ⟨C3, f3, C4, f4, C5, f5, hdb, -, -, -, -, -, -⟩ := kStmt_open hK
          obtain rfl := arr_of hdb
          clear hdb
          have KB := Lib.hid (kStmt.mono (ok' := fun k => _ ≤ k ∧ k < wb.heap.size) (fun k hk hl => And.intro hk hl) hK)
          have KA := Lib.hid (Kd.below KA.out (by exact below_then (by repeat' first | with_reducible exact Below.refl _ _ | refine Below.alloc ?_ (by first | exact Nat.le_refl _ | (simp; done) | (simp; omega)) _) (by first | exact Nat.le_refl _ | (simp; done) | (simp; omega)) hb))
          have zb : w0.heap.size ≤ wb.heap.size := Bb.out.size
          clear hK
          first
          | with_reducible (have Gb := Lib.hid (blk_k0 Gb.out hb)
                            have Ga := Lib.hid (blk_k0 Ga.out hb))
          | with_reducible (have Gb := Lib.hid (blk_n1 hb)
                            have Ga := Lib.hid (blk_k1 Ga.out hb))
          | with_reducible (have Ga := Lib.hid (blk_k0 Ga.out hb))
          | with_reducible (have G12 := blk_n2 hb
                            have Ga := Lib.hid G12.1
                            have Gb := Lib.hid G12.2
                            clear G12)
          | with_reducible (have Ga := Lib.hid (blk_n1 hb))
          | skip
          clear hb
          try (have la := Ga.out.lt
               have p0 := Ga.out.cell 0
               have p1 := Ga.out.cell 1
               have p2 := Ga.out.cell 2
               have p3 := Ga.out.cell 3
               have p4 := Ga.out.cell 4
               have p5 := Ga.out.cell 5
               have f0 := Ga.out.frozen 0
               have f1 := Ga.out.frozen 1
               have f2 := Ga.out.frozen 2
               have f3 := Ga.out.frozen 3
               have f4 := Ga.out.frozen 4
               have f5 := Ga.out.frozen 5)
          try (have lb := Gb.out.lt
               have r0 := Gb.out.cell 0
               have r1 := Gb.out.cell 1
               have r2 := Gb.out.cell 2
               have r3 := Gb.out.cell 3
               have r4 := Gb.out.cell 4
               have r5 := Gb.out.cell 5
               have x0 := Gb.out.frozen 0
               have x1 := Gb.out.frozen 1
               have x2 := Gb.out.frozen 2
               have x3 := Gb.out.frozen 3
               have x4 := Gb.out.frozen 4
               have x5 := Gb.out.frozen 5))))
    all_goals
      try clear p0 p1 p2 p3 p4 p5 f0 f1 f2 f3 f4 f5
      try clear r0 r1 r2 r3 r4 r5 x0 x1 x2 x3 x4 x5
      go_wp2_with fail
      go_meet
      refine ⟨_, _, _, _, rfl, rfl, ?_, ?_, ?_, ?_, Lib.hid (kStmt.mono (fun _ _ _ => trivial) (kStmt.keep (w := wb) ?_ (by first | with_reducible exact Nat.le_refl _ | (simp; done) | (simp; omega)) KA.out)), Lib.hid (kStmt.mono (fun _ _ _ => trivial) (kStmt.keep (w := wb) ?_ (by first | with_reducible exact Nat.le_refl _ | (simp; done) | (simp; omega)) KB.out)), ?_⟩
      · first | with_reducible exact Nat.le_refl _ | omega
      · first | with_reducible exact Nat.le_refl _ | omega
      · show Blk _ _ _ _
        (repeat' first | with_reducible exact Ga.out | with_reducible exact Gb.out | with_reducible exact Blk.new _ _ _ | with_reducible refine Blk.new' _ _ _ _ (by simp [World.setCell]; done) | with_reducible refine Blk6.put ?_ _ _ _ _ _ _ | with_reducible exact Blk6.of Ga.out | with_reducible exact Blk6.of Gb.out | with_reducible refine Blk6.six_far ?_ ?_ _ _ _ _ _ _ | with_reducible refine Blk.six_far ?_ ?_ _ _ _ _ _ _ | with_reducible refine Blk.alloc ?_ _ | omega | (simp; done) | (simp; omega))
      · show Blk _ _ _ _
        (repeat' first | with_reducible exact Ga.out | with_reducible exact Gb.out | with_reducible exact Blk.new _ _ _ | with_reducible refine Blk.new' _ _ _ _ (by simp [World.setCell]; done) | with_reducible refine Blk6.put ?_ _ _ _ _ _ _ | with_reducible exact Blk6.of Ga.out | with_reducible exact Blk6.of Gb.out | with_reducible refine Blk6.six_far ?_ ?_ _ _ _ _ _ _ | with_reducible refine Blk.six_far ?_ ?_ _ _ _ _ _ _ | with_reducible refine Blk.alloc ?_ _ | omega | (simp; done) | (simp; omega))
      · intro k hk hl
        obtain ⟨h1, h2⟩ := hk
        try simp at h1
        (repeat' first | with_reducible rfl | with_reducible refine (six_blk _ _ _ _ _ _ _ _ _ ?_).trans ?_ | with_reducible refine (Below.heap_alloc _ _ _ ?_).trans ?_ | omega | (simp; done) | (simp [World.setCell]; omega))
      · intro k hk hl
        obtain ⟨h1, h2⟩ := hk
        try simp at h1
        (repeat' first | with_reducible rfl | with_reducible refine (six_blk _ _ _ _ _ _ _ _ _ ?_).trans ?_ | with_reducible refine (Below.heap_alloc _ _ _ ?_).trans ?_ | omega | (simp; done) | (simp [World.setCell]; omega))
      · show Below _ _ _
        (repeat' first | with_reducible exact Bb.out | with_reducible exact Ba.out | with_reducible exact Below.refl _ _ | with_reducible refine Below.drew ?_ | with_reducible refine Below.alloc ?_ ?_ _ | with_reducible refine Below.setCell ?_ ?_ _ | with_reducible exact Nat.le_refl _ | omega | (simp; done) | (simp; omega))
  obtain ⟨g9, g10, ca, cb, rfl, rfl, hz9, hz10, K9, K10, KA, KB, BW⟩ := hcut
  have K6 := Lib.hid (K6.out.keep BW.out)
  have K7 := Lib.hid (K7.out.keep BW.out)
  have KS1 := Lib.hid (Kd.below KS0.out BW.out)
  have KM1 := Lib.hid (Kd.below KM0.out BW.out)
  have BF1 : Hid (Below w.heap.size w wc) := BF.out.trans (BW.out.mono BF.out.size)
  have hg6 : g6 + 1 < wc.heap.size := by have := BW.out.size; omega
  clear KS0 KM0 BF BW hz0 tok1
  obtain ⟨B3, d3, B4, d4, B5, d5, rfl, m3, ga3, -, -, -, -⟩ := kStmt_open KA.out
  obtain ⟨C3, e3, C4, e4, C5, e5, rfl, -, gb3, -, -, -, -⟩ := kStmt_open KB.out
  obtain ⟨sa, hsa⟩ : ∃ sa, s.visible ⟨#[98, 111, 97, 114, 100]⟩ = sa := ⟨_, rfl⟩
  obtain ⟨sb, hsb⟩ : ∃ sb, (s.more fld).visible ⟨#[98, 111, 97, 114, 100]⟩ = sb := ⟨_, rfl⟩
  rw [hsa] at K9 KA m3 ga3
  rw [hsb] at K10 KB gb3
  have la0 : sa.cond.length = 0 := by rw [← hsa]; rfl
  have la1 : sa.shows.length = 0 := by rw [← hsa]; rfl
  rw [la0, la1] at K9 KA
  have HSA := Lib.hid hsa; have HSB := Lib.hid hsb
  have GA3 := Lib.hid ga3; have GB3 := Lib.hid gb3
  clear hsa hsb la0 la1 ga3 gb3
  have q0 := K6.out.cell 0
  have q1 := K6.out.cell 1
  have q2 := K6.out.cell 2
  have q3 := K6.out.cell 3
  have q4 := K6.out.cell 4
  have q5 := K6.out.cell 5
  go_wp2_with fail
  refine (visible_any (fun _ => True) _ s [.string s.resp, .int .i64 s.dept, .int .i64 s.day, .slice A3 s.ans.length c3, .slice A4 s.cond.length c4, .slice A5 s.shows.length c5] ⟨#[110, 111, 98, 111, 100, 121]⟩ (by exact KS1.out) (by omega)).mono ?_
  rintro e wd ⟨dn, rfl, hK, hb⟩
  have hn0 : s.visible ⟨#[110, 111, 98, 111, 100, 121]⟩ = zStmt := visible_nobody s HK.out.shows
  rw [hn0] at hK
  obtain ⟨N3, n3, N4, n4, N5, n5, hdn, -, -, -, -, -, -⟩ := kStmt_open hK
  obtain rfl := arr_of hdn
  clear hdn hn0 hK q0 q1 q2 q3 q4 q5
  have BD := Lib.hid hb
  have hzd := hb.size
  have K6d := Lib.hid (K6.out.keep hb)
  have K9d := Lib.hid (K9.out.keep hb)
  have p4 := K9d.out.cell 4
  have p5 := K9d.out.cell 5
  have p3 := K9d.out.cell 3
  have l9 := K9d.out.lt
  clear hb
  simp only [zStmt, List.length_nil]
  go_wp2_with fail
  have BE : Hid (Below wc.heap.size wc (wd.alloc (.cells #[.string ⟨#[]⟩, .int .i64 0, .int .i64 0, .slice N3 0 n3, .slice N4 0 n4, .slice N5 0 n5] 33))) := BD.out.alloc (by omega) _
  clear p3 p4 p5 l9 BD K6d K9d
  generalize wd.alloc (.cells #[.string ⟨#[]⟩, .int .i64 0, .int .i64 0, .slice N3 0 n3, .slice N4 0 n4, .slice N5 0 n5] 33) = we at *
  have he := fun d w x0 y0 x1 y1 x2 y2 => eqAnswer d w x0 y0 x1 y1 x2 y2
  go_loopw [77] (fun v77 wr => ∃ k : Nat, k ≤ sa.ans.length ∧ v77 = .int .i64 k ∧ Hid (Below wc.heap.size wc wr)) (fun v77 _ => sa.ans.length - (intOf v77).toNat)
  case atStart => exact ⟨0, Nat.zero_le _, rfl, BE.out⟩
  case round =>
    obtain ⟨k, hk, rfl, HB⟩ := hrel
    clear BE
    have hla := GA3.out.2.1
    by_cases hlt : k < sa.ans.length
    · obtain ⟨ad, rfl, _, c0, c1, c2⟩ := at_Answer GA3.out k hlt
      generalize hx : sa.ans.getD k zAnswer = x at c0 c1 c2
      have hxin : x ∈ sa.ans := by
        rw [← hx, List.getD_eq_getElem?_getD, List.getElem?_eq_getElem hlt]
        exact List.getElem_mem hlt
      have HX1 : Hid (sb.ans.any (ansSame x) = true) := any_in _ _ (by rw [← HSB.out]; exact in_more s fld x (by rw [← HSA.out] at hxin; exact hxin))
      have HX2 : Hid (s.shows.any (showFor x) = true) := any_allowed s x (by rw [← HSA.out] at hxin; exact hxin)
      clear hx hxin
      replace c0 := cell_keep c0 HB.out
      replace c1 := cell_keep c1 HB.out
      replace c2 := cell_keep c2 HB.out
      have hbs := HB.out.size
      have K10r := Lib.hid ((K10.out.keep HB.out).alloc (.cells #[.string x.fld, .string x.txt, .int .i64 x.num] 50))
      have y3 := K10r.out.cell 3
      go_wp2_with fail
      obtain ⟨wo, rfl⟩ : ∃ wo : World, wo = wr := ⟨_, rfl⟩
      have hlb := GB3.out.2.1
      have KX0 : Hid (Blk (wo.alloc (.cells #[.string x.fld, .string x.txt, .int .i64 x.num] 50)) wo.heap.size 50 #[.string x.fld, .string x.txt, .int .i64 x.num]) := Blk.new _ _ _
      have BO : Hid (Below wc.heap.size wc (wo.alloc (.cells #[.string x.fld, .string x.txt, .int .i64 x.num] 50))) := HB.out.alloc hbs _
      clear c0 c1 c2 y3
      generalize wo.alloc (.cells #[.string x.fld, .string x.txt, .int .i64 x.num] 50) = wp at *
      have lx := KX0.out.lt
      go_loopw [84, 14] (fun v84 v14 wr => ∃ (j : Nat) (b : Bool), j ≤ sb.ans.length ∧ v84 = .int .i64 j ∧ v14 = .bool b ∧ Hid (b = (sb.ans.take j).any (ansSame x)) ∧ Hid (Below wp.heap.size wp wr)) (fun v84 _ _ => sb.ans.length - (intOf v84).toNat)
      case atStart => exact ⟨0, false, Nat.zero_le _, rfl, rfl, rfl, Below.refl _ _⟩
      case round =>
        obtain ⟨j, b, hj, rfl, rfl, HJ, HB2⟩ := hrel
        by_cases hlt2 : j < sb.ans.length
        · obtain ⟨ae, rfl, _, e0, e1, e2⟩ := at_Answer (Kd.C_below GB3.out (BO.out.trans (HB2.out.mono BO.out.size))) j hlt2
          generalize hy : sb.ans.getD j zAnswer = y at e0 e1 e2
          have HY := Lib.hid hy; clear hy
          have KX1 := Lib.hid ((KX0.out.keep HB2.out).alloc (.cells #[.string y.fld, .string y.txt, .int .i64 y.num] 50))
          have b0 := KX1.out.cell 0
          have b1 := KX1.out.cell 1
          have b2 := KX1.out.cell 2
          have HB3 : Hid (Below wp.heap.size wp (wr.alloc (.cells #[.string y.fld, .string y.txt, .int .i64 y.num] 50))) := HB2.out.alloc HB2.out.size _
          have hpr := HB2.out.size
          cases b
          · go_wp2_with fail
            go_roundw
            case rel => exact ⟨j + 1, _, by omega, by go_num, rfl, by show _ = _; rw [any_take_succ _ zAnswer _ _ hlt2, ← HJ.out, HY.out]; simp [ansSame], HB3.out⟩
            case measure => simp [intOf]; omega
          · go_wp2_with fail
            go_roundw
            case rel => exact ⟨j + 1, _, by omega, by go_num, rfl, by show _ = _; rw [any_take_succ _ zAnswer _ _ hlt2, ← HJ.out]; simp, HB3.out⟩
            case measure => simp [intOf]; omega
        · have hb1 : Hid (b = true) := by
            have h1 := HJ.out
            rw [List.take_of_length_le (by omega), HX1.out] at h1
            exact h1
          obtain rfl := hb1.out
          clear hb1 HJ
          obtain ⟨wq, rfl⟩ : ∃ wq : World, wq = wr := ⟨_, rfl⟩
          have BQ : Hid (Below wc.heap.size wc wq) := BO.out.trans (HB2.out.mono BO.out.size)
          have K6q := Lib.hid (K6.out.keep BQ.out)
          have s5 := K6q.out.cell 5
          have KX2 := Lib.hid (KX0.out.keep HB2.out)
          go_wp2_with fail
          have GS5 : Hid (kShow_.C (fun _ => True) wq A5 s.shows.length s.shows) := by
            obtain ⟨_, _, _, _, _, _, hds, -, -, -, -, -, g5⟩ := kStmt_open (Kd.below KS1.out BQ.out)
            injection hds with _ hds
            injection hds with _ hds
            injection hds with _ hds
            injection hds with _ hds
            injection hds with _ hds
            injection hds with e5 hds
            injection e5 with e5 _ _
            rw [e5]
            exact g5
          have lxq := KX2.out.lt
          clear s5 HB2
          go_loopw [98, 15] (fun v98 v15 wr => ∃ (j : Nat) (b : Bool), j ≤ s.shows.length ∧ v98 = .int .i64 j ∧ v15 = .bool b ∧ Hid (b = (s.shows.take j).any (showFor x)) ∧ Hid (Below wq.heap.size wq wr)) (fun v98 _ _ => s.shows.length - (intOf v98).toNat)
          case atStart => exact ⟨0, false, Nat.zero_le _, rfl, rfl, rfl, Below.refl _ _⟩
          case round =>
            obtain ⟨j, b, hj, rfl, rfl, HJ, HB2⟩ := hrel
            by_cases hlt3 : j < s.shows.length
            · obtain ⟨ae, rfl, _, e0, e1⟩ := at_Show_ (Kd.C_below GS5.out HB2.out) j hlt3
              generalize hy : s.shows.getD j zShow_ = y at e0 e1
              have HY := Lib.hid hy; clear hy
              have KX3 := Lib.hid ((KX2.out.keep HB2.out).alloc (.cells #[.string y.fld, .string y.role] 47))
              have b0 := KX3.out.cell 0
              have HB3 : Hid (Below wq.heap.size wq (wr.alloc (.cells #[.string y.fld, .string y.role] 47))) := HB2.out.alloc HB2.out.size _
              have hpr := HB2.out.size
              cases b
              · by_cases hs1 : y.fld.toList = x.fld.toList
                · have hs1' : (y.fld.toList == x.fld.toList) = true := by simpa using hs1
                  have HS1 := Lib.hid hs1'
                  clear hs1
                  go_wp2_with fail
                  go_roundw
                  case rel => exact ⟨j + 1, _, by omega, by go_num, rfl, by show _ = _; rw [any_take_succ _ zShow_ _ _ hlt3, ← HJ.out, HY.out, showFor, HS1.out]; simp [bBoard], HB3.out⟩
                  case measure => simp [intOf]; omega
                · have hs1' : (y.fld.toList == x.fld.toList) = false := by simpa using hs1
                  have HS1 := Lib.hid hs1'
                  clear hs1
                  go_wp2_with fail
                  go_roundw
                  case rel => exact ⟨j + 1, _, by omega, by go_num, rfl, by show _ = _; rw [any_take_succ _ zShow_ _ _ hlt3, ← HJ.out, HY.out, showFor, HS1.out]; simp, HB3.out⟩
                  case measure => simp [intOf]; omega
              · go_wp2_with fail
                go_roundw
                case rel => exact ⟨j + 1, _, by omega, by go_num, rfl, by show _ = _; rw [any_take_succ _ zShow_ _ _ hlt3, ← HJ.out]; simp, HB3.out⟩
                case measure => simp [intOf]; omega
            · have hb1 : Hid (b = true) := by
                have h1 := HJ.out
                rw [List.take_of_length_le (by omega), HX2.out] at h1
                exact h1
              obtain rfl := hb1.out
              clear hb1 HJ
              have BR : Hid (Below wc.heap.size wc wr) := BQ.out.trans (HB2.out.mono BQ.out.size)
              go_wp2_with fail
              go_roundw
              case rel => exact ⟨k + 1, by omega, by go_num, BR.out⟩
              case measure => simp [intOf]; omega
    · have K7r := Lib.hid (K7.out.keep HB.out)
      have y0 := K7r.out.cell 0
      have y1 := K7r.out.cell 1
      have y2 := K7r.out.cell 2
      have y3 := K7r.out.cell 3
      have y4 := K7r.out.cell 4
      have y5 := K7r.out.cell 5
      clear he hla
      go_wp2_with fail
      refine (visible_any (fun _ => True) _ (s.more fld) [.string s.resp, .int .i64 s.dept, .int .i64 s.day, .slice A3 s.ans.length c3, .slice A4 s.cond.length c4, .slice A9 n9 c9] ⟨#[99, 111, 117, 110, 115, 101, 108, 108, 111, 114]⟩ (by exact Kd.below KM1.out HB.out) (by show s.ans.length ≤ _; omega)).mono ?_
      rintro e wg ⟨dc, rfl, hK, hb⟩
      rw [show (s.more fld).visible ⟨#[99, 111, 117, 110, 115, 101, 108, 108, 111, 114]⟩ = s.visible ⟨#[99, 111, 117, 110, 115, 101, 108, 108, 111, 114]⟩ from visible_coun s fld] at hK
      obtain ⟨sc, hsc⟩ : ∃ sc, s.visible ⟨#[99, 111, 117, 110, 115, 101, 108, 108, 111, 114]⟩ = sc := ⟨_, rfl⟩
      rw [hsc] at hK
      have HSC := Lib.hid hsc
      obtain ⟨D3, f3, D4, f4, D5, f5, hdc, -, -, -, -, -, -⟩ := kStmt_open hK
      obtain rfl := arr_of hdc
      have BG : Hid (Below wc.heap.size wc wg) := below_then HB.out HB.out.size hb
      have KC := Lib.hid hK
      have hzg := BG.out.size
      clear hdc hsc hK hb y0 y1 y2 y3 y4 y5 K7r
      go_upto_region 30 with fail
      have BH : Hid (Below wc.heap.size wc (wg.alloc (.cells #[.string sc.resp, .int .i64 sc.dept, .int .i64 sc.day, .slice D3 sc.ans.length f3, .slice D4 sc.cond.length f4, .slice D5 sc.shows.length f5] 33))) := BG.out.alloc hzg _
      have KC1 := Lib.hid (Kd.below KC.out ((Below.refl wg.heap.size wg).alloc (Nat.le_refl _) (.cells #[.string sc.resp, .int .i64 sc.dept, .int .i64 sc.day, .slice D3 sc.ans.length f3, .slice D4 sc.cond.length f4, .slice D5 sc.shows.length f5] 33)))
      have K20 : Hid (Blk (wg.alloc (.cells #[.string sc.resp, .int .i64 sc.dept, .int .i64 sc.day, .slice D3 sc.ans.length f3, .slice D4 sc.cond.length f4, .slice D5 sc.shows.length f5] 33)) wg.heap.size 33 #[.string sc.resp, .int .i64 sc.dept, .int .i64 sc.day, .slice D3 sc.ans.length f3, .slice D4 sc.cond.length f4, .slice D5 sc.shows.length f5]) := Blk.new _ _ _
      generalize (wg.alloc (.cells #[.string sc.resp, .int .i64 sc.dept, .int .i64 sc.day, .slice D3 sc.ans.length f3, .slice D4 sc.cond.length f4, .slice D5 sc.shows.length f5] 33)) = wh at *
      have K6h := Lib.hid (K6.out.keep BH.out)
      have K9h := Lib.hid (K9.out.keep BH.out)
      have K10h := Lib.hid (K10.out.keep BH.out)
      have KSh := Lib.hid (Kd.below KS1.out BH.out)
      have BFh : Hid (Below w.heap.size w wh) := below_seq BF1.out BH.out
      have HR : Hid (sa.resp ≠ ⟨#[]⟩ → sb.resp = sa.resp) := by
        rw [← HSA.out, ← HSB.out]
        exact resp_kept s fld
      have HD : Hid (fld = bDay → sb.day = s.day) := by
        rw [← HSB.out]
        rintro rfl
        exact day_shown s
      clear K6 K7 K9 K10 KS1 KM1 BF1 HB BG BH KA KB GA3 GB3 KC hg6 hz9 hz10 m3 hzg hzd
      by_cases hR : sa.resp = ⟨#[]⟩
      · have r0 : sa.resp.toList = [] := by rw [hR]; decide +kernel
        clear hR HR
        by_cases hD : fld = bDay
        · skip
          have d1 : (fld.toList == [100, 97, 121]) = true := by rw [hD]; decide +kernel
          have d2 : (sb.day == s.day) = true := by simpa using HD.out hD
          clear hD HD
          refine wp_region_noPanic ?_
          refine wp_region_held_drew (S := (fun W => W.cell? ⟨wg.heap.size, 0, none⟩ = some (.string sc.resp) ∧ W.cell? ⟨wg.heap.size, 1, none⟩ = some (.int .i64 sc.dept) ∧ W.cell? ⟨wg.heap.size, 2, none⟩ = some (.int .i64 sc.day) ∧ W.cell? ⟨wg.heap.size, 3, none⟩ = some (.slice D3 sc.ans.length f3) ∧ W.cell? ⟨wg.heap.size, 4, none⟩ = some (.slice D4 sc.cond.length f4) ∧ W.cell? ⟨wg.heap.size, 5, none⟩ = some (.slice D5 sc.shows.length f5) ∧ W.cell? ⟨g6, 0, none⟩ = some (.string s.resp) ∧ W.cell? ⟨g6, 1, none⟩ = some (.int .i64 s.dept) ∧ W.cell? ⟨g6, 2, none⟩ = some (.int .i64 s.day) ∧ W.cell? ⟨g6, 3, none⟩ = some (.slice A3 s.ans.length c3) ∧ W.cell? ⟨g6, 4, none⟩ = some (.slice A4 s.cond.length c4) ∧ W.cell? ⟨g6, 5, none⟩ = some (.slice A5 s.shows.length c5) ∧ W.cell? ⟨g9, 0, none⟩ = some (.string sa.resp) ∧ W.cell? ⟨g10, 0, none⟩ = some (.string sb.resp) ∧ W.cell? ⟨g10, 2, none⟩ = some (.int .i64 sb.day))) (by kernel_rfl) ?_ (fun hHeld => ?_)
          case refine_1 => (refine blk4S K20.out K6h.out K9h.out K10h.out ?_; (repeat' first | with_reducible exact Bk.out | with_reducible exact Bj.out | with_reducible exact Bi.out | with_reducible exact Below.refl _ _ | with_reducible refine Below.drew ?_ | with_reducible exact Nat.le_refl _ | omega | (simp; done) | (simp; omega)))
          (first | refine wpAnyH_take (i := 0) (oi := ({ dst := some 125, op := Op.load 33 (Operand.tmp 20), type := 33, pos := "law.go:164", after := #[], guard := none } : Oper)) (v := undef) rfl (by kernel_rfl) (by kernel_rfl) (by kernel_rfl) (fun _ _ _ h => h) (Or.inr ⟨by rfl, rfl⟩) hHeld ?_ | (refine wpAnyH_take (i := 0) (oi := ({ dst := some 125, op := Op.load 33 (Operand.tmp 20), type := 33, pos := "law.go:164", after := #[], guard := none } : Oper)) (v := ?_) rfl (by kernel_rfl) (by kernel_rfl) (by kernel_rfl) (fun _ _ _ h => h) (Or.inl ⟨by rfl, ?_⟩) hHeld ?_; rotate_left; focus (intro w hSw; (try dsimp only at hSw); go_simp; try with_reducible rfl)))
          try simp only [Act.put, List.setIfInBounds_toArray, List.set_cons_zero, List.set_cons_succ]
          (first | refine wpAnyH_take (i := 1) (oi := ({ dst := some 126, op := Op.load 33 (Operand.tmp 6), type := 33, pos := "law.go:164", after := #[], guard := none } : Oper)) (v := undef) rfl (by kernel_rfl) (by kernel_rfl) (by kernel_rfl) (fun _ _ _ h => h) (Or.inr ⟨by rfl, rfl⟩) hHeld ?_ | (refine wpAnyH_take (i := 1) (oi := ({ dst := some 126, op := Op.load 33 (Operand.tmp 6), type := 33, pos := "law.go:164", after := #[], guard := none } : Oper)) (v := ?_) rfl (by kernel_rfl) (by kernel_rfl) (by kernel_rfl) (fun _ _ _ h => h) (Or.inl ⟨by rfl, ?_⟩) hHeld ?_; rotate_left; focus (intro w hSw; (try dsimp only at hSw); go_simp; try with_reducible rfl)))
          try simp only [Act.put, List.setIfInBounds_toArray, List.set_cons_zero, List.set_cons_succ]
          refine wpAnyH_ready (rs := [2]) (by kernel_rfl) (by simp) ?_
          refine AllReadyH.cons (o := ({ dst := some 127, op := Op.call { callee := Callee.value (Operand.func 17), args := #[Operand.tmp 126, Operand.const (Value.string { data := #[99, 111, 117, 110, 115, 101, 108, 108, 111, 114] })], argTypes := #[33, 9] }, type := 33, pos := "law.go:164", after := #[{ on := 1, ground := Ground.data }], guard := none } : Oper)) rfl (fun K hK => ?_) ?_
          case refine_2 => exact AllReadyH.nil
          go_simp
          go_at_call 17
          refine (visible_any (fun _ => True) _ s [.string s.resp, .int .i64 s.dept, .int .i64 s.day, .slice A3 s.ans.length c3, .slice A4 s.cond.length c4, .slice A5 s.shows.length c5] ⟨#[99, 111, 117, 110, 115, 101, 108, 108, 111, 114]⟩ (by refine Kd.below KSh.out ?_; (repeat' first | with_reducible exact Bk.out | with_reducible exact Bj.out | with_reducible exact Bi.out | with_reducible exact Below.refl _ _ | with_reducible refine Below.drew ?_ | with_reducible exact Nat.le_refl _ | omega | (simp; done) | (simp; omega))) (by omega)).mono ?_
          rintro e wi ⟨de, rfl, hK, hb⟩
          rw [HSC.out] at hK
          obtain ⟨E3, h3, E4, h4, E5, h5, hde, -, -, -, -, -, -⟩ := kStmt_open hK
          obtain rfl := arr_of hde
          clear hde
          have Bi : Hid (Below wh.heap.size wh wi) := below_then (by (repeat' first | with_reducible exact Bk.out | with_reducible exact Bj.out | with_reducible exact Bi.out | with_reducible exact Below.refl _ _ | with_reducible refine Below.drew ?_ | with_reducible exact Nat.le_refl _ | omega | (simp; done) | (simp; omega))) (by first | with_reducible exact Nat.le_refl _ | omega | (simp; done) | (simp; omega)) hb
          have KE := Lib.hid hK
          have zi := Bi.out.size
          clear hK hb
          (try go_wp2_with fail)
          refine hK.out _ _ ?_ (fun hHeld => ?_)
          case refine_1 => (refine blk4S K20.out K6h.out K9h.out K10h.out ?_; (repeat' first | with_reducible exact Bk.out | with_reducible exact Bj.out | with_reducible exact Bi.out | with_reducible exact Below.refl _ _ | with_reducible refine Below.drew ?_ | with_reducible exact Nat.le_refl _ | omega | (simp; done) | (simp; omega)))
          clear hK K
          try simp only [Act.put, List.setIfInBounds_toArray, List.set_cons_zero, List.set_cons_succ]
          refine wpAnyH_ready (rs := [3]) (by kernel_rfl) (by simp) ?_
          refine AllReadyH.cons (o := ({ dst := some 128, op := Op.call { callee := Callee.value (Operand.func 18), args := #[Operand.tmp 125, Operand.tmp 127], argTypes := #[33, 33] }, type := 4, pos := "law.go:164", after := #[{ on := 0, ground := Ground.data }, { on := 2, ground := Ground.data }, { on := 2, ground := Ground.chain }], guard := none } : Oper)) rfl (fun K hK => ?_) ?_
          case refine_2 => exact AllReadyH.nil
          go_simp
          go_at_call 18
          refine (sameStmt_any (fun _ => True) _ sc sc [.string sc.resp, .int .i64 sc.dept, .int .i64 sc.day, .slice D3 sc.ans.length f3, .slice D4 sc.cond.length f4, .slice D5 sc.shows.length f5] [.string sc.resp, .int .i64 sc.dept, .int .i64 sc.day, .slice E3 sc.ans.length h3, .slice E4 sc.cond.length h4, .slice E5 sc.shows.length h5] (by exact kStmt.mono (fun _ _ _ => trivial) (Kd.below KC1.out (by (repeat' first | with_reducible exact Bk.out | with_reducible exact Bj.out | with_reducible exact Bi.out | with_reducible exact Below.refl _ _ | with_reducible refine Below.drew ?_ | with_reducible exact Nat.le_refl _ | omega | (simp; done) | (simp; omega))))) (by exact kStmt.mono (fun _ _ _ => trivial) KE.out)).mono ?_
          rintro e wj ⟨r, rfl, hr, hb⟩
          obtain rfl : r = true := hr.2 rfl
          have Bj : Hid (Below wh.heap.size wh wj) := below_then Bi.out zi hb
          have zj := Bj.out.size
          clear hr hb
          (try go_wp2_with fail)
          refine hK.out _ _ ?_ (fun hHeld => ?_)
          case refine_1 => (refine blk4S K20.out K6h.out K9h.out K10h.out ?_; (repeat' first | with_reducible exact Bk.out | with_reducible exact Bj.out | with_reducible exact Bi.out | with_reducible exact Below.refl _ _ | with_reducible refine Below.drew ?_ | with_reducible exact Nat.le_refl _ | omega | (simp; done) | (simp; omega)))
          clear hK K
          try simp only [Act.put, List.setIfInBounds_toArray, List.set_cons_zero, List.set_cons_succ]
          (first | refine wpAnyH_take (i := 4) (oi := ({ dst := some 129, op := Op.move (Operand.tmp 128), type := 4, pos := "law.go:164", after := #[{ on := 3, ground := Ground.data }, { on := 3, ground := Ground.chain }], guard := none } : Oper)) (v := undef) rfl (by kernel_rfl) (by kernel_rfl) (by kernel_rfl) (fun _ _ _ h => h) (Or.inr ⟨by rfl, rfl⟩) hHeld ?_ | (refine wpAnyH_take (i := 4) (oi := ({ dst := some 129, op := Op.move (Operand.tmp 128), type := 4, pos := "law.go:164", after := #[{ on := 3, ground := Ground.data }, { on := 3, ground := Ground.chain }], guard := none } : Oper)) (v := ?_) rfl (by kernel_rfl) (by kernel_rfl) (by kernel_rfl) (fun _ _ _ h => h) (Or.inl ⟨by rfl, ?_⟩) hHeld ?_; rotate_left; focus (intro w hSw; (try dsimp only at hSw); go_simp; try with_reducible rfl)))
          try simp only [Act.put, List.setIfInBounds_toArray, List.set_cons_zero, List.set_cons_succ]
          (first | refine wpAnyH_take (i := 5) (oi := ({ dst := some 130, op := Op.fieldAddr 33 (Operand.tmp 9) 0, type := 0, pos := "law.go:164", after := #[{ on := 4, ground := Ground.guard }], guard := some (4, true) } : Oper)) (v := undef) rfl (by kernel_rfl) (by kernel_rfl) (by kernel_rfl) (fun _ _ _ h => h) (Or.inr ⟨by rfl, rfl⟩) hHeld ?_ | (refine wpAnyH_take (i := 5) (oi := ({ dst := some 130, op := Op.fieldAddr 33 (Operand.tmp 9) 0, type := 0, pos := "law.go:164", after := #[{ on := 4, ground := Ground.guard }], guard := some (4, true) } : Oper)) (v := ?_) rfl (by kernel_rfl) (by kernel_rfl) (by kernel_rfl) (fun _ _ _ h => h) (Or.inl ⟨by rfl, ?_⟩) hHeld ?_; rotate_left; focus (intro w hSw; (try dsimp only at hSw); go_simp; try with_reducible rfl)))
          try simp only [Act.put, List.setIfInBounds_toArray, List.set_cons_zero, List.set_cons_succ]
          (first | refine wpAnyH_take (i := 6) (oi := ({ dst := some 131, op := Op.load 9 (Operand.tmp 130), type := 9, pos := "law.go:164", after := #[{ on := 5, ground := Ground.data }, { on := 4, ground := Ground.guard }], guard := some (4, true) } : Oper)) (v := undef) rfl (by kernel_rfl) (by kernel_rfl) (by kernel_rfl) (fun _ _ _ h => h) (Or.inr ⟨by rfl, rfl⟩) hHeld ?_ | (refine wpAnyH_take (i := 6) (oi := ({ dst := some 131, op := Op.load 9 (Operand.tmp 130), type := 9, pos := "law.go:164", after := #[{ on := 5, ground := Ground.data }, { on := 4, ground := Ground.guard }], guard := some (4, true) } : Oper)) (v := ?_) rfl (by kernel_rfl) (by kernel_rfl) (by kernel_rfl) (fun _ _ _ h => h) (Or.inl ⟨by rfl, ?_⟩) hHeld ?_; rotate_left; focus (intro w hSw; (try dsimp only at hSw); go_simp; try with_reducible rfl)))
          try simp only [Act.put, List.setIfInBounds_toArray, List.set_cons_zero, List.set_cons_succ]
          (first | refine wpAnyH_take (i := 7) (oi := ({ dst := some 132, op := Op.binOp BinOp.eql 9 (Operand.tmp 131) (Operand.const (Value.string { data := #[] })) 9, type := 4, pos := "law.go:164", after := #[{ on := 6, ground := Ground.data }, { on := 4, ground := Ground.guard }], guard := some (4, true) } : Oper)) (v := undef) rfl (by kernel_rfl) (by kernel_rfl) (by kernel_rfl) (fun _ _ _ h => h) (Or.inr ⟨by rfl, rfl⟩) hHeld ?_ | (refine wpAnyH_take (i := 7) (oi := ({ dst := some 132, op := Op.binOp BinOp.eql 9 (Operand.tmp 131) (Operand.const (Value.string { data := #[] })) 9, type := 4, pos := "law.go:164", after := #[{ on := 6, ground := Ground.data }, { on := 4, ground := Ground.guard }], guard := some (4, true) } : Oper)) (v := ?_) rfl (by kernel_rfl) (by kernel_rfl) (by kernel_rfl) (fun _ _ _ h => h) (Or.inl ⟨by rfl, ?_⟩) hHeld ?_; rotate_left; focus (intro w hSw; (try dsimp only at hSw); go_simp; try with_reducible rfl)))
          try simp only [Act.put, List.setIfInBounds_toArray, List.set_cons_zero, List.set_cons_succ]
          (first | refine wpAnyH_take (i := 8) (oi := ({ dst := some 133, op := Op.move (Operand.tmp 132), type := 4, pos := "law.go:164", after := #[{ on := 7, ground := Ground.data }, { on := 4, ground := Ground.chain }, { on := 4, ground := Ground.guard }], guard := some (4, true) } : Oper)) (v := undef) rfl (by kernel_rfl) (by kernel_rfl) (by kernel_rfl) (fun _ _ _ h => h) (Or.inr ⟨by rfl, rfl⟩) hHeld ?_ | (refine wpAnyH_take (i := 8) (oi := ({ dst := some 133, op := Op.move (Operand.tmp 132), type := 4, pos := "law.go:164", after := #[{ on := 7, ground := Ground.data }, { on := 4, ground := Ground.chain }, { on := 4, ground := Ground.guard }], guard := some (4, true) } : Oper)) (v := ?_) rfl (by kernel_rfl) (by kernel_rfl) (by kernel_rfl) (fun _ _ _ h => h) (Or.inl ⟨by rfl, ?_⟩) hHeld ?_; rotate_left; focus (intro w hSw; (try dsimp only at hSw); go_simp; try with_reducible rfl)))
          try simp only [Act.put, List.setIfInBounds_toArray, List.set_cons_zero, List.set_cons_succ]
          (first | refine wpAnyH_take (i := 9) (oi := ({ dst := some 134, op := Op.fieldAddr 33 (Operand.tmp 10) 0, type := 0, pos := "law.go:164", after := #[{ on := 8, ground := Ground.guard }], guard := some (8, false) } : Oper)) (v := undef) rfl (by kernel_rfl) (by kernel_rfl) (by kernel_rfl) (fun _ _ _ h => h) (Or.inr ⟨by rfl, rfl⟩) hHeld ?_ | (refine wpAnyH_take (i := 9) (oi := ({ dst := some 134, op := Op.fieldAddr 33 (Operand.tmp 10) 0, type := 0, pos := "law.go:164", after := #[{ on := 8, ground := Ground.guard }], guard := some (8, false) } : Oper)) (v := ?_) rfl (by kernel_rfl) (by kernel_rfl) (by kernel_rfl) (fun _ _ _ h => h) (Or.inl ⟨by rfl, ?_⟩) hHeld ?_; rotate_left; focus (intro w hSw; (try dsimp only at hSw); go_simp; try with_reducible rfl)))
          try simp only [Act.put, List.setIfInBounds_toArray, List.set_cons_zero, List.set_cons_succ]
          (first | refine wpAnyH_take (i := 10) (oi := ({ dst := some 135, op := Op.load 9 (Operand.tmp 134), type := 9, pos := "law.go:164", after := #[{ on := 9, ground := Ground.data }, { on := 8, ground := Ground.guard }], guard := some (8, false) } : Oper)) (v := undef) rfl (by kernel_rfl) (by kernel_rfl) (by kernel_rfl) (fun _ _ _ h => h) (Or.inr ⟨by rfl, rfl⟩) hHeld ?_ | (refine wpAnyH_take (i := 10) (oi := ({ dst := some 135, op := Op.load 9 (Operand.tmp 134), type := 9, pos := "law.go:164", after := #[{ on := 9, ground := Ground.data }, { on := 8, ground := Ground.guard }], guard := some (8, false) } : Oper)) (v := ?_) rfl (by kernel_rfl) (by kernel_rfl) (by kernel_rfl) (fun _ _ _ h => h) (Or.inl ⟨by rfl, ?_⟩) hHeld ?_; rotate_left; focus (intro w hSw; (try dsimp only at hSw); go_simp; try with_reducible rfl)))
          try simp only [Act.put, List.setIfInBounds_toArray, List.set_cons_zero, List.set_cons_succ]
          (first | refine wpAnyH_take (i := 11) (oi := ({ dst := some 136, op := Op.fieldAddr 33 (Operand.tmp 9) 0, type := 0, pos := "law.go:164", after := #[{ on := 8, ground := Ground.guard }], guard := some (8, false) } : Oper)) (v := undef) rfl (by kernel_rfl) (by kernel_rfl) (by kernel_rfl) (fun _ _ _ h => h) (Or.inr ⟨by rfl, rfl⟩) hHeld ?_ | (refine wpAnyH_take (i := 11) (oi := ({ dst := some 136, op := Op.fieldAddr 33 (Operand.tmp 9) 0, type := 0, pos := "law.go:164", after := #[{ on := 8, ground := Ground.guard }], guard := some (8, false) } : Oper)) (v := ?_) rfl (by kernel_rfl) (by kernel_rfl) (by kernel_rfl) (fun _ _ _ h => h) (Or.inl ⟨by rfl, ?_⟩) hHeld ?_; rotate_left; focus (intro w hSw; (try dsimp only at hSw); go_simp; try with_reducible rfl)))
          try simp only [Act.put, List.setIfInBounds_toArray, List.set_cons_zero, List.set_cons_succ]
          (first | refine wpAnyH_take (i := 12) (oi := ({ dst := some 137, op := Op.load 9 (Operand.tmp 136), type := 9, pos := "law.go:164", after := #[{ on := 11, ground := Ground.data }, { on := 8, ground := Ground.guard }], guard := some (8, false) } : Oper)) (v := undef) rfl (by kernel_rfl) (by kernel_rfl) (by kernel_rfl) (fun _ _ _ h => h) (Or.inr ⟨by rfl, rfl⟩) hHeld ?_ | (refine wpAnyH_take (i := 12) (oi := ({ dst := some 137, op := Op.load 9 (Operand.tmp 136), type := 9, pos := "law.go:164", after := #[{ on := 11, ground := Ground.data }, { on := 8, ground := Ground.guard }], guard := some (8, false) } : Oper)) (v := ?_) rfl (by kernel_rfl) (by kernel_rfl) (by kernel_rfl) (fun _ _ _ h => h) (Or.inl ⟨by rfl, ?_⟩) hHeld ?_; rotate_left; focus (intro w hSw; (try dsimp only at hSw); go_simp; try with_reducible rfl)))
          try simp only [Act.put, List.setIfInBounds_toArray, List.set_cons_zero, List.set_cons_succ]
          (first | refine wpAnyH_take (i := 13) (oi := ({ dst := some 138, op := Op.binOp BinOp.eql 9 (Operand.tmp 135) (Operand.tmp 137) 9, type := 4, pos := "law.go:164", after := #[{ on := 10, ground := Ground.data }, { on := 12, ground := Ground.data }, { on := 8, ground := Ground.guard }], guard := some (8, false) } : Oper)) (v := undef) rfl (by kernel_rfl) (by kernel_rfl) (by kernel_rfl) (fun _ _ _ h => h) (Or.inr ⟨by rfl, rfl⟩) hHeld ?_ | (refine wpAnyH_take (i := 13) (oi := ({ dst := some 138, op := Op.binOp BinOp.eql 9 (Operand.tmp 135) (Operand.tmp 137) 9, type := 4, pos := "law.go:164", after := #[{ on := 10, ground := Ground.data }, { on := 12, ground := Ground.data }, { on := 8, ground := Ground.guard }], guard := some (8, false) } : Oper)) (v := ?_) rfl (by kernel_rfl) (by kernel_rfl) (by kernel_rfl) (fun _ _ _ h => h) (Or.inl ⟨by rfl, ?_⟩) hHeld ?_; rotate_left; focus (intro w hSw; (try dsimp only at hSw); go_simp; try with_reducible rfl)))
          try simp only [Act.put, List.setIfInBounds_toArray, List.set_cons_zero, List.set_cons_succ]
          (first | refine wpAnyH_take (i := 14) (oi := ({ dst := some 139, op := Op.pick (Operand.tmp 133) (Operand.const (Value.bool true)) (Operand.tmp 138), type := 4, pos := "law.go:164", after := #[{ on := 8, ground := Ground.data }, { on := 13, ground := Ground.data }, { on := 4, ground := Ground.guard }], guard := some (4, true) } : Oper)) (v := undef) rfl (by kernel_rfl) (by kernel_rfl) (by kernel_rfl) (fun _ _ _ h => h) (Or.inr ⟨by rfl, rfl⟩) hHeld ?_ | (refine wpAnyH_take (i := 14) (oi := ({ dst := some 139, op := Op.pick (Operand.tmp 133) (Operand.const (Value.bool true)) (Operand.tmp 138), type := 4, pos := "law.go:164", after := #[{ on := 8, ground := Ground.data }, { on := 13, ground := Ground.data }, { on := 4, ground := Ground.guard }], guard := some (4, true) } : Oper)) (v := ?_) rfl (by kernel_rfl) (by kernel_rfl) (by kernel_rfl) (fun _ _ _ h => h) (Or.inl ⟨by rfl, ?_⟩) hHeld ?_; rotate_left; focus (intro w hSw; (try dsimp only at hSw); go_simp; try with_reducible rfl)))
          try simp only [Act.put, List.setIfInBounds_toArray, List.set_cons_zero, List.set_cons_succ]
          (first | refine wpAnyH_take (i := 15) (oi := ({ dst := some 140, op := Op.pick (Operand.tmp 129) (Operand.tmp 139) (Operand.const (Value.bool false)), type := 4, pos := "law.go:164", after := #[{ on := 4, ground := Ground.data }, { on := 14, ground := Ground.data }], guard := none } : Oper)) (v := undef) rfl (by kernel_rfl) (by kernel_rfl) (by kernel_rfl) (fun _ _ _ h => h) (Or.inr ⟨by rfl, rfl⟩) hHeld ?_ | (refine wpAnyH_take (i := 15) (oi := ({ dst := some 140, op := Op.pick (Operand.tmp 129) (Operand.tmp 139) (Operand.const (Value.bool false)), type := 4, pos := "law.go:164", after := #[{ on := 4, ground := Ground.data }, { on := 14, ground := Ground.data }], guard := none } : Oper)) (v := ?_) rfl (by kernel_rfl) (by kernel_rfl) (by kernel_rfl) (fun _ _ _ h => h) (Or.inl ⟨by rfl, ?_⟩) hHeld ?_; rotate_left; focus (intro w hSw; (try dsimp only at hSw); go_simp; try with_reducible rfl)))
          try simp only [Act.put, List.setIfInBounds_toArray, List.set_cons_zero, List.set_cons_succ]
          (first | refine wpAnyH_take (i := 16) (oi := ({ dst := some 141, op := Op.move (Operand.tmp 140), type := 4, pos := "law.go:164", after := #[{ on := 15, ground := Ground.data }, { on := 8, ground := Ground.chain }], guard := none } : Oper)) (v := undef) rfl (by kernel_rfl) (by kernel_rfl) (by kernel_rfl) (fun _ _ _ h => h) (Or.inr ⟨by rfl, rfl⟩) hHeld ?_ | (refine wpAnyH_take (i := 16) (oi := ({ dst := some 141, op := Op.move (Operand.tmp 140), type := 4, pos := "law.go:164", after := #[{ on := 15, ground := Ground.data }, { on := 8, ground := Ground.chain }], guard := none } : Oper)) (v := ?_) rfl (by kernel_rfl) (by kernel_rfl) (by kernel_rfl) (fun _ _ _ h => h) (Or.inl ⟨by rfl, ?_⟩) hHeld ?_; rotate_left; focus (intro w hSw; (try dsimp only at hSw); go_simp; try with_reducible rfl)))
          try simp only [Act.put, List.setIfInBounds_toArray, List.set_cons_zero, List.set_cons_succ]
          (first | refine wpAnyH_take (i := 17) (oi := ({ dst := some 142, op := Op.move (Operand.tmp 8), type := 9, pos := "law.go:164", after := #[{ on := 16, ground := Ground.guard }], guard := some (16, true) } : Oper)) (v := undef) rfl (by kernel_rfl) (by kernel_rfl) (by kernel_rfl) (fun _ _ _ h => h) (Or.inr ⟨by rfl, rfl⟩) hHeld ?_ | (refine wpAnyH_take (i := 17) (oi := ({ dst := some 142, op := Op.move (Operand.tmp 8), type := 9, pos := "law.go:164", after := #[{ on := 16, ground := Ground.guard }], guard := some (16, true) } : Oper)) (v := ?_) rfl (by kernel_rfl) (by kernel_rfl) (by kernel_rfl) (fun _ _ _ h => h) (Or.inl ⟨by rfl, ?_⟩) hHeld ?_; rotate_left; focus (intro w hSw; (try dsimp only at hSw); go_simp; try with_reducible rfl)))
          try simp only [Act.put, List.setIfInBounds_toArray, List.set_cons_zero, List.set_cons_succ]
          (first | refine wpAnyH_take (i := 18) (oi := ({ dst := some 143, op := Op.binOp BinOp.neq 9 (Operand.tmp 142) (Operand.const (Value.string { data := #[100, 97, 121] })) 9, type := 4, pos := "law.go:164", after := #[{ on := 17, ground := Ground.data }, { on := 16, ground := Ground.guard }], guard := some (16, true) } : Oper)) (v := undef) rfl (by kernel_rfl) (by kernel_rfl) (by kernel_rfl) (fun _ _ _ h => h) (Or.inr ⟨by rfl, rfl⟩) hHeld ?_ | (refine wpAnyH_take (i := 18) (oi := ({ dst := some 143, op := Op.binOp BinOp.neq 9 (Operand.tmp 142) (Operand.const (Value.string { data := #[100, 97, 121] })) 9, type := 4, pos := "law.go:164", after := #[{ on := 17, ground := Ground.data }, { on := 16, ground := Ground.guard }], guard := some (16, true) } : Oper)) (v := ?_) rfl (by kernel_rfl) (by kernel_rfl) (by kernel_rfl) (fun _ _ _ h => h) (Or.inl ⟨by rfl, ?_⟩) hHeld ?_; rotate_left; focus (intro w hSw; (try dsimp only at hSw); go_simp; try with_reducible rfl)))
          try simp only [Act.put, List.setIfInBounds_toArray, List.set_cons_zero, List.set_cons_succ]
          (first | refine wpAnyH_take (i := 19) (oi := ({ dst := some 144, op := Op.move (Operand.tmp 143), type := 4, pos := "law.go:164", after := #[{ on := 18, ground := Ground.data }, { on := 16, ground := Ground.chain }, { on := 16, ground := Ground.guard }], guard := some (16, true) } : Oper)) (v := undef) rfl (by kernel_rfl) (by kernel_rfl) (by kernel_rfl) (fun _ _ _ h => h) (Or.inr ⟨by rfl, rfl⟩) hHeld ?_ | (refine wpAnyH_take (i := 19) (oi := ({ dst := some 144, op := Op.move (Operand.tmp 143), type := 4, pos := "law.go:164", after := #[{ on := 18, ground := Ground.data }, { on := 16, ground := Ground.chain }, { on := 16, ground := Ground.guard }], guard := some (16, true) } : Oper)) (v := ?_) rfl (by kernel_rfl) (by kernel_rfl) (by kernel_rfl) (fun _ _ _ h => h) (Or.inl ⟨by rfl, ?_⟩) hHeld ?_; rotate_left; focus (intro w hSw; (try dsimp only at hSw); go_simp; try with_reducible rfl)))
          try simp only [Act.put, List.setIfInBounds_toArray, List.set_cons_zero, List.set_cons_succ]
          (first | refine wpAnyH_take (i := 20) (oi := ({ dst := some 145, op := Op.fieldAddr 33 (Operand.tmp 10) 2, type := 0, pos := "law.go:164", after := #[{ on := 19, ground := Ground.guard }], guard := some (19, false) } : Oper)) (v := undef) rfl (by kernel_rfl) (by kernel_rfl) (by kernel_rfl) (fun _ _ _ h => h) (Or.inr ⟨by rfl, rfl⟩) hHeld ?_ | (refine wpAnyH_take (i := 20) (oi := ({ dst := some 145, op := Op.fieldAddr 33 (Operand.tmp 10) 2, type := 0, pos := "law.go:164", after := #[{ on := 19, ground := Ground.guard }], guard := some (19, false) } : Oper)) (v := ?_) rfl (by kernel_rfl) (by kernel_rfl) (by kernel_rfl) (fun _ _ _ h => h) (Or.inl ⟨by rfl, ?_⟩) hHeld ?_; rotate_left; focus (intro w hSw; (try dsimp only at hSw); go_simp; try with_reducible rfl)))
          try simp only [Act.put, List.setIfInBounds_toArray, List.set_cons_zero, List.set_cons_succ]
          (first | refine wpAnyH_take (i := 21) (oi := ({ dst := some 146, op := Op.load 3 (Operand.tmp 145), type := 3, pos := "law.go:164", after := #[{ on := 20, ground := Ground.data }, { on := 19, ground := Ground.guard }], guard := some (19, false) } : Oper)) (v := undef) rfl (by kernel_rfl) (by kernel_rfl) (by kernel_rfl) (fun _ _ _ h => h) (Or.inr ⟨by rfl, rfl⟩) hHeld ?_ | (refine wpAnyH_take (i := 21) (oi := ({ dst := some 146, op := Op.load 3 (Operand.tmp 145), type := 3, pos := "law.go:164", after := #[{ on := 20, ground := Ground.data }, { on := 19, ground := Ground.guard }], guard := some (19, false) } : Oper)) (v := ?_) rfl (by kernel_rfl) (by kernel_rfl) (by kernel_rfl) (fun _ _ _ h => h) (Or.inl ⟨by rfl, ?_⟩) hHeld ?_; rotate_left; focus (intro w hSw; (try dsimp only at hSw); go_simp; try with_reducible rfl)))
          try simp only [Act.put, List.setIfInBounds_toArray, List.set_cons_zero, List.set_cons_succ]
          (first | refine wpAnyH_take (i := 22) (oi := ({ dst := some 147, op := Op.fieldAddr 33 (Operand.tmp 6) 2, type := 0, pos := "law.go:164", after := #[{ on := 19, ground := Ground.guard }], guard := some (19, false) } : Oper)) (v := undef) rfl (by kernel_rfl) (by kernel_rfl) (by kernel_rfl) (fun _ _ _ h => h) (Or.inr ⟨by rfl, rfl⟩) hHeld ?_ | (refine wpAnyH_take (i := 22) (oi := ({ dst := some 147, op := Op.fieldAddr 33 (Operand.tmp 6) 2, type := 0, pos := "law.go:164", after := #[{ on := 19, ground := Ground.guard }], guard := some (19, false) } : Oper)) (v := ?_) rfl (by kernel_rfl) (by kernel_rfl) (by kernel_rfl) (fun _ _ _ h => h) (Or.inl ⟨by rfl, ?_⟩) hHeld ?_; rotate_left; focus (intro w hSw; (try dsimp only at hSw); go_simp; try with_reducible rfl)))
          try simp only [Act.put, List.setIfInBounds_toArray, List.set_cons_zero, List.set_cons_succ]
          (first | refine wpAnyH_take (i := 23) (oi := ({ dst := some 148, op := Op.load 3 (Operand.tmp 147), type := 3, pos := "law.go:164", after := #[{ on := 22, ground := Ground.data }, { on := 19, ground := Ground.guard }], guard := some (19, false) } : Oper)) (v := undef) rfl (by kernel_rfl) (by kernel_rfl) (by kernel_rfl) (fun _ _ _ h => h) (Or.inr ⟨by rfl, rfl⟩) hHeld ?_ | (refine wpAnyH_take (i := 23) (oi := ({ dst := some 148, op := Op.load 3 (Operand.tmp 147), type := 3, pos := "law.go:164", after := #[{ on := 22, ground := Ground.data }, { on := 19, ground := Ground.guard }], guard := some (19, false) } : Oper)) (v := ?_) rfl (by kernel_rfl) (by kernel_rfl) (by kernel_rfl) (fun _ _ _ h => h) (Or.inl ⟨by rfl, ?_⟩) hHeld ?_; rotate_left; focus (intro w hSw; (try dsimp only at hSw); go_simp; try with_reducible rfl)))
          try simp only [Act.put, List.setIfInBounds_toArray, List.set_cons_zero, List.set_cons_succ]
          (first | refine wpAnyH_take (i := 24) (oi := ({ dst := some 149, op := Op.binOp BinOp.eql 3 (Operand.tmp 146) (Operand.tmp 148) 3, type := 4, pos := "law.go:164", after := #[{ on := 21, ground := Ground.data }, { on := 23, ground := Ground.data }, { on := 19, ground := Ground.guard }], guard := some (19, false) } : Oper)) (v := undef) rfl (by kernel_rfl) (by kernel_rfl) (by kernel_rfl) (fun _ _ _ h => h) (Or.inr ⟨by rfl, rfl⟩) hHeld ?_ | (refine wpAnyH_take (i := 24) (oi := ({ dst := some 149, op := Op.binOp BinOp.eql 3 (Operand.tmp 146) (Operand.tmp 148) 3, type := 4, pos := "law.go:164", after := #[{ on := 21, ground := Ground.data }, { on := 23, ground := Ground.data }, { on := 19, ground := Ground.guard }], guard := some (19, false) } : Oper)) (v := ?_) rfl (by kernel_rfl) (by kernel_rfl) (by kernel_rfl) (fun _ _ _ h => h) (Or.inl ⟨by rfl, ?_⟩) hHeld ?_; rotate_left; focus (intro w hSw; (try dsimp only at hSw); go_simp; try with_reducible rfl)))
          try simp only [Act.put, List.setIfInBounds_toArray, List.set_cons_zero, List.set_cons_succ]
          (first | refine wpAnyH_take (i := 25) (oi := ({ dst := some 150, op := Op.pick (Operand.tmp 144) (Operand.const (Value.bool true)) (Operand.tmp 149), type := 4, pos := "law.go:164", after := #[{ on := 19, ground := Ground.data }, { on := 24, ground := Ground.data }, { on := 16, ground := Ground.guard }], guard := some (16, true) } : Oper)) (v := undef) rfl (by kernel_rfl) (by kernel_rfl) (by kernel_rfl) (fun _ _ _ h => h) (Or.inr ⟨by rfl, rfl⟩) hHeld ?_ | (refine wpAnyH_take (i := 25) (oi := ({ dst := some 150, op := Op.pick (Operand.tmp 144) (Operand.const (Value.bool true)) (Operand.tmp 149), type := 4, pos := "law.go:164", after := #[{ on := 19, ground := Ground.data }, { on := 24, ground := Ground.data }, { on := 16, ground := Ground.guard }], guard := some (16, true) } : Oper)) (v := ?_) rfl (by kernel_rfl) (by kernel_rfl) (by kernel_rfl) (fun _ _ _ h => h) (Or.inl ⟨by rfl, ?_⟩) hHeld ?_; rotate_left; focus (intro w hSw; (try dsimp only at hSw); go_simp; try with_reducible rfl)))
          try simp only [Act.put, List.setIfInBounds_toArray, List.set_cons_zero, List.set_cons_succ]
          (first | refine wpAnyH_take (i := 26) (oi := ({ dst := some 151, op := Op.pick (Operand.tmp 141) (Operand.tmp 150) (Operand.const (Value.bool false)), type := 4, pos := "law.go:164", after := #[{ on := 16, ground := Ground.data }, { on := 25, ground := Ground.data }], guard := none } : Oper)) (v := undef) rfl (by kernel_rfl) (by kernel_rfl) (by kernel_rfl) (fun _ _ _ h => h) (Or.inr ⟨by rfl, rfl⟩) hHeld ?_ | (refine wpAnyH_take (i := 26) (oi := ({ dst := some 151, op := Op.pick (Operand.tmp 141) (Operand.tmp 150) (Operand.const (Value.bool false)), type := 4, pos := "law.go:164", after := #[{ on := 16, ground := Ground.data }, { on := 25, ground := Ground.data }], guard := none } : Oper)) (v := ?_) rfl (by kernel_rfl) (by kernel_rfl) (by kernel_rfl) (fun _ _ _ h => h) (Or.inl ⟨by rfl, ?_⟩) hHeld ?_; rotate_left; focus (intro w hSw; (try dsimp only at hSw); go_simp; try with_reducible rfl)))
          try simp only [Act.put, List.setIfInBounds_toArray, List.set_cons_zero, List.set_cons_succ]
          (first | refine wpAnyH_take (i := 27) (oi := ({ dst := some 152, op := Op.move (Operand.tmp 151), type := 4, pos := "law.go:164", after := #[{ on := 26, ground := Ground.data }, { on := 19, ground := Ground.chain }], guard := none } : Oper)) (v := undef) rfl (by kernel_rfl) (by kernel_rfl) (by kernel_rfl) (fun _ _ _ h => h) (Or.inr ⟨by rfl, rfl⟩) hHeld ?_ | (refine wpAnyH_take (i := 27) (oi := ({ dst := some 152, op := Op.move (Operand.tmp 151), type := 4, pos := "law.go:164", after := #[{ on := 26, ground := Ground.data }, { on := 19, ground := Ground.chain }], guard := none } : Oper)) (v := ?_) rfl (by kernel_rfl) (by kernel_rfl) (by kernel_rfl) (fun _ _ _ h => h) (Or.inl ⟨by rfl, ?_⟩) hHeld ?_; rotate_left; focus (intro w hSw; (try dsimp only at hSw); go_simp; try with_reducible rfl)))
          try simp only [Act.put, List.setIfInBounds_toArray, List.set_cons_zero, List.set_cons_succ]
          refine wpAnyH_ready (rs := [28]) (by kernel_rfl) (by simp) ?_
          refine AllReadyH.cons (o := ({ dst := some 153, op := Op.call { callee := Callee.value (Operand.func 10), args := #[], argTypes := #[] }, type := 4, pos := "law.go:164", after := #[{ on := 27, ground := Ground.chain }, { on := 27, ground := Ground.guard }], guard := some (27, true) } : Oper)) rfl (fun K hK => ?_) ?_
          case refine_2 => exact AllReadyH.nil
          go_simp
          go_at_call 10
          refine (awake_any _).mono ?_
          rintro e wk ⟨rfl, hb⟩
          have Bk : Hid (Below wh.heap.size wh wk) := below_then (by (repeat' first | with_reducible exact Bk.out | with_reducible exact Bj.out | with_reducible exact Bi.out | with_reducible exact Below.refl _ _ | with_reducible refine Below.drew ?_ | with_reducible exact Nat.le_refl _ | omega | (simp; done) | (simp; omega))) (by first | with_reducible exact Nat.le_refl _ | omega | (simp; done) | (simp; omega)) hb
          clear hb
          (try go_wp2_with fail)
          refine hK.out _ _ ?_ (fun hHeld => ?_)
          case refine_1 => (refine blk4S K20.out K6h.out K9h.out K10h.out ?_; (repeat' first | with_reducible exact Bk.out | with_reducible exact Bj.out | with_reducible exact Bi.out | with_reducible exact Below.refl _ _ | with_reducible refine Below.drew ?_ | with_reducible exact Nat.le_refl _ | omega | (simp; done) | (simp; omega)))
          clear hK K
          try simp only [Act.put, List.setIfInBounds_toArray, List.set_cons_zero, List.set_cons_succ]
          (first | refine wpAnyH_take (i := 29) (oi := ({ dst := some 154, op := Op.pick (Operand.tmp 152) (Operand.tmp 153) (Operand.const (Value.bool false)), type := 4, pos := "law.go:164", after := #[{ on := 27, ground := Ground.data }, { on := 28, ground := Ground.data }], guard := none } : Oper)) (v := undef) rfl (by kernel_rfl) (by kernel_rfl) (by kernel_rfl) (fun _ _ _ h => h) (Or.inr ⟨by rfl, rfl⟩) hHeld ?_ | (refine wpAnyH_take (i := 29) (oi := ({ dst := some 154, op := Op.pick (Operand.tmp 152) (Operand.tmp 153) (Operand.const (Value.bool false)), type := 4, pos := "law.go:164", after := #[{ on := 27, ground := Ground.data }, { on := 28, ground := Ground.data }], guard := none } : Oper)) (v := ?_) rfl (by kernel_rfl) (by kernel_rfl) (by kernel_rfl) (fun _ _ _ h => h) (Or.inl ⟨by rfl, ?_⟩) hHeld ?_; rotate_left; focus (intro w hSw; (try dsimp only at hSw); go_simp; try with_reducible rfl)))
          try simp only [Act.put, List.setIfInBounds_toArray, List.set_cons_zero, List.set_cons_succ]
          (first | refine wpAnyH_take (i := 30) (oi := ({ dst := some 4, op := Op.assign (Operand.tmp 154), type := 4, pos := "law.go:164", after := #[{ on := 29, ground := Ground.data }, { on := 28, ground := Ground.chain }, { on := 0, ground := Ground.phase }, { on := 1, ground := Ground.phase }, { on := 2, ground := Ground.phase }, { on := 3, ground := Ground.phase }, { on := 4, ground := Ground.phase }, { on := 5, ground := Ground.phase }, { on := 6, ground := Ground.phase }, { on := 7, ground := Ground.phase }, { on := 8, ground := Ground.phase }, { on := 9, ground := Ground.phase }, { on := 10, ground := Ground.phase }, { on := 11, ground := Ground.phase }, { on := 12, ground := Ground.phase }, { on := 13, ground := Ground.phase }, { on := 14, ground := Ground.phase }, { on := 15, ground := Ground.phase }, { on := 16, ground := Ground.phase }, { on := 17, ground := Ground.phase }, { on := 18, ground := Ground.phase }, { on := 19, ground := Ground.phase }, { on := 20, ground := Ground.phase }, { on := 21, ground := Ground.phase }, { on := 22, ground := Ground.phase }, { on := 23, ground := Ground.phase }, { on := 24, ground := Ground.phase }, { on := 25, ground := Ground.phase }, { on := 26, ground := Ground.phase }, { on := 27, ground := Ground.phase }, { on := 28, ground := Ground.phase }, { on := 29, ground := Ground.phase }], guard := none } : Oper)) (v := undef) rfl (by kernel_rfl) (by kernel_rfl) (by kernel_rfl) (fun _ _ _ h => h) (Or.inr ⟨by rfl, rfl⟩) hHeld ?_ | (refine wpAnyH_take (i := 30) (oi := ({ dst := some 4, op := Op.assign (Operand.tmp 154), type := 4, pos := "law.go:164", after := #[{ on := 29, ground := Ground.data }, { on := 28, ground := Ground.chain }, { on := 0, ground := Ground.phase }, { on := 1, ground := Ground.phase }, { on := 2, ground := Ground.phase }, { on := 3, ground := Ground.phase }, { on := 4, ground := Ground.phase }, { on := 5, ground := Ground.phase }, { on := 6, ground := Ground.phase }, { on := 7, ground := Ground.phase }, { on := 8, ground := Ground.phase }, { on := 9, ground := Ground.phase }, { on := 10, ground := Ground.phase }, { on := 11, ground := Ground.phase }, { on := 12, ground := Ground.phase }, { on := 13, ground := Ground.phase }, { on := 14, ground := Ground.phase }, { on := 15, ground := Ground.phase }, { on := 16, ground := Ground.phase }, { on := 17, ground := Ground.phase }, { on := 18, ground := Ground.phase }, { on := 19, ground := Ground.phase }, { on := 20, ground := Ground.phase }, { on := 21, ground := Ground.phase }, { on := 22, ground := Ground.phase }, { on := 23, ground := Ground.phase }, { on := 24, ground := Ground.phase }, { on := 25, ground := Ground.phase }, { on := 26, ground := Ground.phase }, { on := 27, ground := Ground.phase }, { on := 28, ground := Ground.phase }, { on := 29, ground := Ground.phase }], guard := none } : Oper)) (v := ?_) rfl (by kernel_rfl) (by kernel_rfl) (by kernel_rfl) (fun _ _ _ h => h) (Or.inl ⟨by rfl, ?_⟩) hHeld ?_; rotate_left; focus (intro w hSw; (try dsimp only at hSw); go_simp; try with_reducible rfl)))
          try simp only [Act.put, List.setIfInBounds_toArray, List.set_cons_zero, List.set_cons_succ]
          refine wpAnyH_done (by kernel_rfl) ?_ _
          refine NoPanic.normal ?_
          all_goals
            go_wp2_with fail
            go_ret
            exact ⟨rfl, BFh.out.trans (Bk.out.mono BFh.out.size)⟩
        · skip
          have d1 : (fld.toList == [100, 97, 121]) = false := by
            have h1 := str_ne.2 hD
            have h2 : bDay.toList = [100, 97, 121] := by decide +kernel
            rwa [h2] at h1
          clear hD HD
          refine wp_region_noPanic ?_
          refine wp_region_held_drew (S := (fun W => W.cell? ⟨wg.heap.size, 0, none⟩ = some (.string sc.resp) ∧ W.cell? ⟨wg.heap.size, 1, none⟩ = some (.int .i64 sc.dept) ∧ W.cell? ⟨wg.heap.size, 2, none⟩ = some (.int .i64 sc.day) ∧ W.cell? ⟨wg.heap.size, 3, none⟩ = some (.slice D3 sc.ans.length f3) ∧ W.cell? ⟨wg.heap.size, 4, none⟩ = some (.slice D4 sc.cond.length f4) ∧ W.cell? ⟨wg.heap.size, 5, none⟩ = some (.slice D5 sc.shows.length f5) ∧ W.cell? ⟨g6, 0, none⟩ = some (.string s.resp) ∧ W.cell? ⟨g6, 1, none⟩ = some (.int .i64 s.dept) ∧ W.cell? ⟨g6, 2, none⟩ = some (.int .i64 s.day) ∧ W.cell? ⟨g6, 3, none⟩ = some (.slice A3 s.ans.length c3) ∧ W.cell? ⟨g6, 4, none⟩ = some (.slice A4 s.cond.length c4) ∧ W.cell? ⟨g6, 5, none⟩ = some (.slice A5 s.shows.length c5) ∧ W.cell? ⟨g9, 0, none⟩ = some (.string sa.resp) ∧ W.cell? ⟨g10, 0, none⟩ = some (.string sb.resp) ∧ W.cell? ⟨g10, 2, none⟩ = some (.int .i64 sb.day))) (by kernel_rfl) ?_ (fun hHeld => ?_)
          case refine_1 => (refine blk4S K20.out K6h.out K9h.out K10h.out ?_; (repeat' first | with_reducible exact Bk.out | with_reducible exact Bj.out | with_reducible exact Bi.out | with_reducible exact Below.refl _ _ | with_reducible refine Below.drew ?_ | with_reducible exact Nat.le_refl _ | omega | (simp; done) | (simp; omega)))
          (first | refine wpAnyH_take (i := 0) (oi := ({ dst := some 125, op := Op.load 33 (Operand.tmp 20), type := 33, pos := "law.go:164", after := #[], guard := none } : Oper)) (v := undef) rfl (by kernel_rfl) (by kernel_rfl) (by kernel_rfl) (fun _ _ _ h => h) (Or.inr ⟨by rfl, rfl⟩) hHeld ?_ | (refine wpAnyH_take (i := 0) (oi := ({ dst := some 125, op := Op.load 33 (Operand.tmp 20), type := 33, pos := "law.go:164", after := #[], guard := none } : Oper)) (v := ?_) rfl (by kernel_rfl) (by kernel_rfl) (by kernel_rfl) (fun _ _ _ h => h) (Or.inl ⟨by rfl, ?_⟩) hHeld ?_; rotate_left; focus (intro w hSw; (try dsimp only at hSw); go_simp; try with_reducible rfl)))
          try simp only [Act.put, List.setIfInBounds_toArray, List.set_cons_zero, List.set_cons_succ]
          (first | refine wpAnyH_take (i := 1) (oi := ({ dst := some 126, op := Op.load 33 (Operand.tmp 6), type := 33, pos := "law.go:164", after := #[], guard := none } : Oper)) (v := undef) rfl (by kernel_rfl) (by kernel_rfl) (by kernel_rfl) (fun _ _ _ h => h) (Or.inr ⟨by rfl, rfl⟩) hHeld ?_ | (refine wpAnyH_take (i := 1) (oi := ({ dst := some 126, op := Op.load 33 (Operand.tmp 6), type := 33, pos := "law.go:164", after := #[], guard := none } : Oper)) (v := ?_) rfl (by kernel_rfl) (by kernel_rfl) (by kernel_rfl) (fun _ _ _ h => h) (Or.inl ⟨by rfl, ?_⟩) hHeld ?_; rotate_left; focus (intro w hSw; (try dsimp only at hSw); go_simp; try with_reducible rfl)))
          try simp only [Act.put, List.setIfInBounds_toArray, List.set_cons_zero, List.set_cons_succ]
          refine wpAnyH_ready (rs := [2]) (by kernel_rfl) (by simp) ?_
          refine AllReadyH.cons (o := ({ dst := some 127, op := Op.call { callee := Callee.value (Operand.func 17), args := #[Operand.tmp 126, Operand.const (Value.string { data := #[99, 111, 117, 110, 115, 101, 108, 108, 111, 114] })], argTypes := #[33, 9] }, type := 33, pos := "law.go:164", after := #[{ on := 1, ground := Ground.data }], guard := none } : Oper)) rfl (fun K hK => ?_) ?_
          case refine_2 => exact AllReadyH.nil
          go_simp
          go_at_call 17
          refine (visible_any (fun _ => True) _ s [.string s.resp, .int .i64 s.dept, .int .i64 s.day, .slice A3 s.ans.length c3, .slice A4 s.cond.length c4, .slice A5 s.shows.length c5] ⟨#[99, 111, 117, 110, 115, 101, 108, 108, 111, 114]⟩ (by refine Kd.below KSh.out ?_; (repeat' first | with_reducible exact Bk.out | with_reducible exact Bj.out | with_reducible exact Bi.out | with_reducible exact Below.refl _ _ | with_reducible refine Below.drew ?_ | with_reducible exact Nat.le_refl _ | omega | (simp; done) | (simp; omega))) (by omega)).mono ?_
          rintro e wi ⟨de, rfl, hK, hb⟩
          rw [HSC.out] at hK
          obtain ⟨E3, h3, E4, h4, E5, h5, hde, -, -, -, -, -, -⟩ := kStmt_open hK
          obtain rfl := arr_of hde
          clear hde
          have Bi : Hid (Below wh.heap.size wh wi) := below_then (by (repeat' first | with_reducible exact Bk.out | with_reducible exact Bj.out | with_reducible exact Bi.out | with_reducible exact Below.refl _ _ | with_reducible refine Below.drew ?_ | with_reducible exact Nat.le_refl _ | omega | (simp; done) | (simp; omega))) (by first | with_reducible exact Nat.le_refl _ | omega | (simp; done) | (simp; omega)) hb
          have KE := Lib.hid hK
          have zi := Bi.out.size
          clear hK hb
          (try go_wp2_with fail)
          refine hK.out _ _ ?_ (fun hHeld => ?_)
          case refine_1 => (refine blk4S K20.out K6h.out K9h.out K10h.out ?_; (repeat' first | with_reducible exact Bk.out | with_reducible exact Bj.out | with_reducible exact Bi.out | with_reducible exact Below.refl _ _ | with_reducible refine Below.drew ?_ | with_reducible exact Nat.le_refl _ | omega | (simp; done) | (simp; omega)))
          clear hK K
          try simp only [Act.put, List.setIfInBounds_toArray, List.set_cons_zero, List.set_cons_succ]
          refine wpAnyH_ready (rs := [3]) (by kernel_rfl) (by simp) ?_
          refine AllReadyH.cons (o := ({ dst := some 128, op := Op.call { callee := Callee.value (Operand.func 18), args := #[Operand.tmp 125, Operand.tmp 127], argTypes := #[33, 33] }, type := 4, pos := "law.go:164", after := #[{ on := 0, ground := Ground.data }, { on := 2, ground := Ground.data }, { on := 2, ground := Ground.chain }], guard := none } : Oper)) rfl (fun K hK => ?_) ?_
          case refine_2 => exact AllReadyH.nil
          go_simp
          go_at_call 18
          refine (sameStmt_any (fun _ => True) _ sc sc [.string sc.resp, .int .i64 sc.dept, .int .i64 sc.day, .slice D3 sc.ans.length f3, .slice D4 sc.cond.length f4, .slice D5 sc.shows.length f5] [.string sc.resp, .int .i64 sc.dept, .int .i64 sc.day, .slice E3 sc.ans.length h3, .slice E4 sc.cond.length h4, .slice E5 sc.shows.length h5] (by exact kStmt.mono (fun _ _ _ => trivial) (Kd.below KC1.out (by (repeat' first | with_reducible exact Bk.out | with_reducible exact Bj.out | with_reducible exact Bi.out | with_reducible exact Below.refl _ _ | with_reducible refine Below.drew ?_ | with_reducible exact Nat.le_refl _ | omega | (simp; done) | (simp; omega))))) (by exact kStmt.mono (fun _ _ _ => trivial) KE.out)).mono ?_
          rintro e wj ⟨r, rfl, hr, hb⟩
          obtain rfl : r = true := hr.2 rfl
          have Bj : Hid (Below wh.heap.size wh wj) := below_then Bi.out zi hb
          have zj := Bj.out.size
          clear hr hb
          (try go_wp2_with fail)
          refine hK.out _ _ ?_ (fun hHeld => ?_)
          case refine_1 => (refine blk4S K20.out K6h.out K9h.out K10h.out ?_; (repeat' first | with_reducible exact Bk.out | with_reducible exact Bj.out | with_reducible exact Bi.out | with_reducible exact Below.refl _ _ | with_reducible refine Below.drew ?_ | with_reducible exact Nat.le_refl _ | omega | (simp; done) | (simp; omega)))
          clear hK K
          try simp only [Act.put, List.setIfInBounds_toArray, List.set_cons_zero, List.set_cons_succ]
          (first | refine wpAnyH_take (i := 4) (oi := ({ dst := some 129, op := Op.move (Operand.tmp 128), type := 4, pos := "law.go:164", after := #[{ on := 3, ground := Ground.data }, { on := 3, ground := Ground.chain }], guard := none } : Oper)) (v := undef) rfl (by kernel_rfl) (by kernel_rfl) (by kernel_rfl) (fun _ _ _ h => h) (Or.inr ⟨by rfl, rfl⟩) hHeld ?_ | (refine wpAnyH_take (i := 4) (oi := ({ dst := some 129, op := Op.move (Operand.tmp 128), type := 4, pos := "law.go:164", after := #[{ on := 3, ground := Ground.data }, { on := 3, ground := Ground.chain }], guard := none } : Oper)) (v := ?_) rfl (by kernel_rfl) (by kernel_rfl) (by kernel_rfl) (fun _ _ _ h => h) (Or.inl ⟨by rfl, ?_⟩) hHeld ?_; rotate_left; focus (intro w hSw; (try dsimp only at hSw); go_simp; try with_reducible rfl)))
          try simp only [Act.put, List.setIfInBounds_toArray, List.set_cons_zero, List.set_cons_succ]
          (first | refine wpAnyH_take (i := 5) (oi := ({ dst := some 130, op := Op.fieldAddr 33 (Operand.tmp 9) 0, type := 0, pos := "law.go:164", after := #[{ on := 4, ground := Ground.guard }], guard := some (4, true) } : Oper)) (v := undef) rfl (by kernel_rfl) (by kernel_rfl) (by kernel_rfl) (fun _ _ _ h => h) (Or.inr ⟨by rfl, rfl⟩) hHeld ?_ | (refine wpAnyH_take (i := 5) (oi := ({ dst := some 130, op := Op.fieldAddr 33 (Operand.tmp 9) 0, type := 0, pos := "law.go:164", after := #[{ on := 4, ground := Ground.guard }], guard := some (4, true) } : Oper)) (v := ?_) rfl (by kernel_rfl) (by kernel_rfl) (by kernel_rfl) (fun _ _ _ h => h) (Or.inl ⟨by rfl, ?_⟩) hHeld ?_; rotate_left; focus (intro w hSw; (try dsimp only at hSw); go_simp; try with_reducible rfl)))
          try simp only [Act.put, List.setIfInBounds_toArray, List.set_cons_zero, List.set_cons_succ]
          (first | refine wpAnyH_take (i := 6) (oi := ({ dst := some 131, op := Op.load 9 (Operand.tmp 130), type := 9, pos := "law.go:164", after := #[{ on := 5, ground := Ground.data }, { on := 4, ground := Ground.guard }], guard := some (4, true) } : Oper)) (v := undef) rfl (by kernel_rfl) (by kernel_rfl) (by kernel_rfl) (fun _ _ _ h => h) (Or.inr ⟨by rfl, rfl⟩) hHeld ?_ | (refine wpAnyH_take (i := 6) (oi := ({ dst := some 131, op := Op.load 9 (Operand.tmp 130), type := 9, pos := "law.go:164", after := #[{ on := 5, ground := Ground.data }, { on := 4, ground := Ground.guard }], guard := some (4, true) } : Oper)) (v := ?_) rfl (by kernel_rfl) (by kernel_rfl) (by kernel_rfl) (fun _ _ _ h => h) (Or.inl ⟨by rfl, ?_⟩) hHeld ?_; rotate_left; focus (intro w hSw; (try dsimp only at hSw); go_simp; try with_reducible rfl)))
          try simp only [Act.put, List.setIfInBounds_toArray, List.set_cons_zero, List.set_cons_succ]
          (first | refine wpAnyH_take (i := 7) (oi := ({ dst := some 132, op := Op.binOp BinOp.eql 9 (Operand.tmp 131) (Operand.const (Value.string { data := #[] })) 9, type := 4, pos := "law.go:164", after := #[{ on := 6, ground := Ground.data }, { on := 4, ground := Ground.guard }], guard := some (4, true) } : Oper)) (v := undef) rfl (by kernel_rfl) (by kernel_rfl) (by kernel_rfl) (fun _ _ _ h => h) (Or.inr ⟨by rfl, rfl⟩) hHeld ?_ | (refine wpAnyH_take (i := 7) (oi := ({ dst := some 132, op := Op.binOp BinOp.eql 9 (Operand.tmp 131) (Operand.const (Value.string { data := #[] })) 9, type := 4, pos := "law.go:164", after := #[{ on := 6, ground := Ground.data }, { on := 4, ground := Ground.guard }], guard := some (4, true) } : Oper)) (v := ?_) rfl (by kernel_rfl) (by kernel_rfl) (by kernel_rfl) (fun _ _ _ h => h) (Or.inl ⟨by rfl, ?_⟩) hHeld ?_; rotate_left; focus (intro w hSw; (try dsimp only at hSw); go_simp; try with_reducible rfl)))
          try simp only [Act.put, List.setIfInBounds_toArray, List.set_cons_zero, List.set_cons_succ]
          (first | refine wpAnyH_take (i := 8) (oi := ({ dst := some 133, op := Op.move (Operand.tmp 132), type := 4, pos := "law.go:164", after := #[{ on := 7, ground := Ground.data }, { on := 4, ground := Ground.chain }, { on := 4, ground := Ground.guard }], guard := some (4, true) } : Oper)) (v := undef) rfl (by kernel_rfl) (by kernel_rfl) (by kernel_rfl) (fun _ _ _ h => h) (Or.inr ⟨by rfl, rfl⟩) hHeld ?_ | (refine wpAnyH_take (i := 8) (oi := ({ dst := some 133, op := Op.move (Operand.tmp 132), type := 4, pos := "law.go:164", after := #[{ on := 7, ground := Ground.data }, { on := 4, ground := Ground.chain }, { on := 4, ground := Ground.guard }], guard := some (4, true) } : Oper)) (v := ?_) rfl (by kernel_rfl) (by kernel_rfl) (by kernel_rfl) (fun _ _ _ h => h) (Or.inl ⟨by rfl, ?_⟩) hHeld ?_; rotate_left; focus (intro w hSw; (try dsimp only at hSw); go_simp; try with_reducible rfl)))
          try simp only [Act.put, List.setIfInBounds_toArray, List.set_cons_zero, List.set_cons_succ]
          (first | refine wpAnyH_take (i := 9) (oi := ({ dst := some 134, op := Op.fieldAddr 33 (Operand.tmp 10) 0, type := 0, pos := "law.go:164", after := #[{ on := 8, ground := Ground.guard }], guard := some (8, false) } : Oper)) (v := undef) rfl (by kernel_rfl) (by kernel_rfl) (by kernel_rfl) (fun _ _ _ h => h) (Or.inr ⟨by rfl, rfl⟩) hHeld ?_ | (refine wpAnyH_take (i := 9) (oi := ({ dst := some 134, op := Op.fieldAddr 33 (Operand.tmp 10) 0, type := 0, pos := "law.go:164", after := #[{ on := 8, ground := Ground.guard }], guard := some (8, false) } : Oper)) (v := ?_) rfl (by kernel_rfl) (by kernel_rfl) (by kernel_rfl) (fun _ _ _ h => h) (Or.inl ⟨by rfl, ?_⟩) hHeld ?_; rotate_left; focus (intro w hSw; (try dsimp only at hSw); go_simp; try with_reducible rfl)))
          try simp only [Act.put, List.setIfInBounds_toArray, List.set_cons_zero, List.set_cons_succ]
          (first | refine wpAnyH_take (i := 10) (oi := ({ dst := some 135, op := Op.load 9 (Operand.tmp 134), type := 9, pos := "law.go:164", after := #[{ on := 9, ground := Ground.data }, { on := 8, ground := Ground.guard }], guard := some (8, false) } : Oper)) (v := undef) rfl (by kernel_rfl) (by kernel_rfl) (by kernel_rfl) (fun _ _ _ h => h) (Or.inr ⟨by rfl, rfl⟩) hHeld ?_ | (refine wpAnyH_take (i := 10) (oi := ({ dst := some 135, op := Op.load 9 (Operand.tmp 134), type := 9, pos := "law.go:164", after := #[{ on := 9, ground := Ground.data }, { on := 8, ground := Ground.guard }], guard := some (8, false) } : Oper)) (v := ?_) rfl (by kernel_rfl) (by kernel_rfl) (by kernel_rfl) (fun _ _ _ h => h) (Or.inl ⟨by rfl, ?_⟩) hHeld ?_; rotate_left; focus (intro w hSw; (try dsimp only at hSw); go_simp; try with_reducible rfl)))
          try simp only [Act.put, List.setIfInBounds_toArray, List.set_cons_zero, List.set_cons_succ]
          (first | refine wpAnyH_take (i := 11) (oi := ({ dst := some 136, op := Op.fieldAddr 33 (Operand.tmp 9) 0, type := 0, pos := "law.go:164", after := #[{ on := 8, ground := Ground.guard }], guard := some (8, false) } : Oper)) (v := undef) rfl (by kernel_rfl) (by kernel_rfl) (by kernel_rfl) (fun _ _ _ h => h) (Or.inr ⟨by rfl, rfl⟩) hHeld ?_ | (refine wpAnyH_take (i := 11) (oi := ({ dst := some 136, op := Op.fieldAddr 33 (Operand.tmp 9) 0, type := 0, pos := "law.go:164", after := #[{ on := 8, ground := Ground.guard }], guard := some (8, false) } : Oper)) (v := ?_) rfl (by kernel_rfl) (by kernel_rfl) (by kernel_rfl) (fun _ _ _ h => h) (Or.inl ⟨by rfl, ?_⟩) hHeld ?_; rotate_left; focus (intro w hSw; (try dsimp only at hSw); go_simp; try with_reducible rfl)))
          try simp only [Act.put, List.setIfInBounds_toArray, List.set_cons_zero, List.set_cons_succ]
          (first | refine wpAnyH_take (i := 12) (oi := ({ dst := some 137, op := Op.load 9 (Operand.tmp 136), type := 9, pos := "law.go:164", after := #[{ on := 11, ground := Ground.data }, { on := 8, ground := Ground.guard }], guard := some (8, false) } : Oper)) (v := undef) rfl (by kernel_rfl) (by kernel_rfl) (by kernel_rfl) (fun _ _ _ h => h) (Or.inr ⟨by rfl, rfl⟩) hHeld ?_ | (refine wpAnyH_take (i := 12) (oi := ({ dst := some 137, op := Op.load 9 (Operand.tmp 136), type := 9, pos := "law.go:164", after := #[{ on := 11, ground := Ground.data }, { on := 8, ground := Ground.guard }], guard := some (8, false) } : Oper)) (v := ?_) rfl (by kernel_rfl) (by kernel_rfl) (by kernel_rfl) (fun _ _ _ h => h) (Or.inl ⟨by rfl, ?_⟩) hHeld ?_; rotate_left; focus (intro w hSw; (try dsimp only at hSw); go_simp; try with_reducible rfl)))
          try simp only [Act.put, List.setIfInBounds_toArray, List.set_cons_zero, List.set_cons_succ]
          (first | refine wpAnyH_take (i := 13) (oi := ({ dst := some 138, op := Op.binOp BinOp.eql 9 (Operand.tmp 135) (Operand.tmp 137) 9, type := 4, pos := "law.go:164", after := #[{ on := 10, ground := Ground.data }, { on := 12, ground := Ground.data }, { on := 8, ground := Ground.guard }], guard := some (8, false) } : Oper)) (v := undef) rfl (by kernel_rfl) (by kernel_rfl) (by kernel_rfl) (fun _ _ _ h => h) (Or.inr ⟨by rfl, rfl⟩) hHeld ?_ | (refine wpAnyH_take (i := 13) (oi := ({ dst := some 138, op := Op.binOp BinOp.eql 9 (Operand.tmp 135) (Operand.tmp 137) 9, type := 4, pos := "law.go:164", after := #[{ on := 10, ground := Ground.data }, { on := 12, ground := Ground.data }, { on := 8, ground := Ground.guard }], guard := some (8, false) } : Oper)) (v := ?_) rfl (by kernel_rfl) (by kernel_rfl) (by kernel_rfl) (fun _ _ _ h => h) (Or.inl ⟨by rfl, ?_⟩) hHeld ?_; rotate_left; focus (intro w hSw; (try dsimp only at hSw); go_simp; try with_reducible rfl)))
          try simp only [Act.put, List.setIfInBounds_toArray, List.set_cons_zero, List.set_cons_succ]
          (first | refine wpAnyH_take (i := 14) (oi := ({ dst := some 139, op := Op.pick (Operand.tmp 133) (Operand.const (Value.bool true)) (Operand.tmp 138), type := 4, pos := "law.go:164", after := #[{ on := 8, ground := Ground.data }, { on := 13, ground := Ground.data }, { on := 4, ground := Ground.guard }], guard := some (4, true) } : Oper)) (v := undef) rfl (by kernel_rfl) (by kernel_rfl) (by kernel_rfl) (fun _ _ _ h => h) (Or.inr ⟨by rfl, rfl⟩) hHeld ?_ | (refine wpAnyH_take (i := 14) (oi := ({ dst := some 139, op := Op.pick (Operand.tmp 133) (Operand.const (Value.bool true)) (Operand.tmp 138), type := 4, pos := "law.go:164", after := #[{ on := 8, ground := Ground.data }, { on := 13, ground := Ground.data }, { on := 4, ground := Ground.guard }], guard := some (4, true) } : Oper)) (v := ?_) rfl (by kernel_rfl) (by kernel_rfl) (by kernel_rfl) (fun _ _ _ h => h) (Or.inl ⟨by rfl, ?_⟩) hHeld ?_; rotate_left; focus (intro w hSw; (try dsimp only at hSw); go_simp; try with_reducible rfl)))
          try simp only [Act.put, List.setIfInBounds_toArray, List.set_cons_zero, List.set_cons_succ]
          (first | refine wpAnyH_take (i := 15) (oi := ({ dst := some 140, op := Op.pick (Operand.tmp 129) (Operand.tmp 139) (Operand.const (Value.bool false)), type := 4, pos := "law.go:164", after := #[{ on := 4, ground := Ground.data }, { on := 14, ground := Ground.data }], guard := none } : Oper)) (v := undef) rfl (by kernel_rfl) (by kernel_rfl) (by kernel_rfl) (fun _ _ _ h => h) (Or.inr ⟨by rfl, rfl⟩) hHeld ?_ | (refine wpAnyH_take (i := 15) (oi := ({ dst := some 140, op := Op.pick (Operand.tmp 129) (Operand.tmp 139) (Operand.const (Value.bool false)), type := 4, pos := "law.go:164", after := #[{ on := 4, ground := Ground.data }, { on := 14, ground := Ground.data }], guard := none } : Oper)) (v := ?_) rfl (by kernel_rfl) (by kernel_rfl) (by kernel_rfl) (fun _ _ _ h => h) (Or.inl ⟨by rfl, ?_⟩) hHeld ?_; rotate_left; focus (intro w hSw; (try dsimp only at hSw); go_simp; try with_reducible rfl)))
          try simp only [Act.put, List.setIfInBounds_toArray, List.set_cons_zero, List.set_cons_succ]
          (first | refine wpAnyH_take (i := 16) (oi := ({ dst := some 141, op := Op.move (Operand.tmp 140), type := 4, pos := "law.go:164", after := #[{ on := 15, ground := Ground.data }, { on := 8, ground := Ground.chain }], guard := none } : Oper)) (v := undef) rfl (by kernel_rfl) (by kernel_rfl) (by kernel_rfl) (fun _ _ _ h => h) (Or.inr ⟨by rfl, rfl⟩) hHeld ?_ | (refine wpAnyH_take (i := 16) (oi := ({ dst := some 141, op := Op.move (Operand.tmp 140), type := 4, pos := "law.go:164", after := #[{ on := 15, ground := Ground.data }, { on := 8, ground := Ground.chain }], guard := none } : Oper)) (v := ?_) rfl (by kernel_rfl) (by kernel_rfl) (by kernel_rfl) (fun _ _ _ h => h) (Or.inl ⟨by rfl, ?_⟩) hHeld ?_; rotate_left; focus (intro w hSw; (try dsimp only at hSw); go_simp; try with_reducible rfl)))
          try simp only [Act.put, List.setIfInBounds_toArray, List.set_cons_zero, List.set_cons_succ]
          (first | refine wpAnyH_take (i := 17) (oi := ({ dst := some 142, op := Op.move (Operand.tmp 8), type := 9, pos := "law.go:164", after := #[{ on := 16, ground := Ground.guard }], guard := some (16, true) } : Oper)) (v := undef) rfl (by kernel_rfl) (by kernel_rfl) (by kernel_rfl) (fun _ _ _ h => h) (Or.inr ⟨by rfl, rfl⟩) hHeld ?_ | (refine wpAnyH_take (i := 17) (oi := ({ dst := some 142, op := Op.move (Operand.tmp 8), type := 9, pos := "law.go:164", after := #[{ on := 16, ground := Ground.guard }], guard := some (16, true) } : Oper)) (v := ?_) rfl (by kernel_rfl) (by kernel_rfl) (by kernel_rfl) (fun _ _ _ h => h) (Or.inl ⟨by rfl, ?_⟩) hHeld ?_; rotate_left; focus (intro w hSw; (try dsimp only at hSw); go_simp; try with_reducible rfl)))
          try simp only [Act.put, List.setIfInBounds_toArray, List.set_cons_zero, List.set_cons_succ]
          (first | refine wpAnyH_take (i := 18) (oi := ({ dst := some 143, op := Op.binOp BinOp.neq 9 (Operand.tmp 142) (Operand.const (Value.string { data := #[100, 97, 121] })) 9, type := 4, pos := "law.go:164", after := #[{ on := 17, ground := Ground.data }, { on := 16, ground := Ground.guard }], guard := some (16, true) } : Oper)) (v := undef) rfl (by kernel_rfl) (by kernel_rfl) (by kernel_rfl) (fun _ _ _ h => h) (Or.inr ⟨by rfl, rfl⟩) hHeld ?_ | (refine wpAnyH_take (i := 18) (oi := ({ dst := some 143, op := Op.binOp BinOp.neq 9 (Operand.tmp 142) (Operand.const (Value.string { data := #[100, 97, 121] })) 9, type := 4, pos := "law.go:164", after := #[{ on := 17, ground := Ground.data }, { on := 16, ground := Ground.guard }], guard := some (16, true) } : Oper)) (v := ?_) rfl (by kernel_rfl) (by kernel_rfl) (by kernel_rfl) (fun _ _ _ h => h) (Or.inl ⟨by rfl, ?_⟩) hHeld ?_; rotate_left; focus (intro w hSw; (try dsimp only at hSw); go_simp; try with_reducible rfl)))
          try simp only [Act.put, List.setIfInBounds_toArray, List.set_cons_zero, List.set_cons_succ]
          (first | refine wpAnyH_take (i := 19) (oi := ({ dst := some 144, op := Op.move (Operand.tmp 143), type := 4, pos := "law.go:164", after := #[{ on := 18, ground := Ground.data }, { on := 16, ground := Ground.chain }, { on := 16, ground := Ground.guard }], guard := some (16, true) } : Oper)) (v := undef) rfl (by kernel_rfl) (by kernel_rfl) (by kernel_rfl) (fun _ _ _ h => h) (Or.inr ⟨by rfl, rfl⟩) hHeld ?_ | (refine wpAnyH_take (i := 19) (oi := ({ dst := some 144, op := Op.move (Operand.tmp 143), type := 4, pos := "law.go:164", after := #[{ on := 18, ground := Ground.data }, { on := 16, ground := Ground.chain }, { on := 16, ground := Ground.guard }], guard := some (16, true) } : Oper)) (v := ?_) rfl (by kernel_rfl) (by kernel_rfl) (by kernel_rfl) (fun _ _ _ h => h) (Or.inl ⟨by rfl, ?_⟩) hHeld ?_; rotate_left; focus (intro w hSw; (try dsimp only at hSw); go_simp; try with_reducible rfl)))
          try simp only [Act.put, List.setIfInBounds_toArray, List.set_cons_zero, List.set_cons_succ]
          (first | refine wpAnyH_take (i := 20) (oi := ({ dst := some 145, op := Op.fieldAddr 33 (Operand.tmp 10) 2, type := 0, pos := "law.go:164", after := #[{ on := 19, ground := Ground.guard }], guard := some (19, false) } : Oper)) (v := undef) rfl (by kernel_rfl) (by kernel_rfl) (by kernel_rfl) (fun _ _ _ h => h) (Or.inr ⟨by rfl, rfl⟩) hHeld ?_ | (refine wpAnyH_take (i := 20) (oi := ({ dst := some 145, op := Op.fieldAddr 33 (Operand.tmp 10) 2, type := 0, pos := "law.go:164", after := #[{ on := 19, ground := Ground.guard }], guard := some (19, false) } : Oper)) (v := ?_) rfl (by kernel_rfl) (by kernel_rfl) (by kernel_rfl) (fun _ _ _ h => h) (Or.inl ⟨by rfl, ?_⟩) hHeld ?_; rotate_left; focus (intro w hSw; (try dsimp only at hSw); go_simp; try with_reducible rfl)))
          try simp only [Act.put, List.setIfInBounds_toArray, List.set_cons_zero, List.set_cons_succ]
          (first | refine wpAnyH_take (i := 21) (oi := ({ dst := some 146, op := Op.load 3 (Operand.tmp 145), type := 3, pos := "law.go:164", after := #[{ on := 20, ground := Ground.data }, { on := 19, ground := Ground.guard }], guard := some (19, false) } : Oper)) (v := undef) rfl (by kernel_rfl) (by kernel_rfl) (by kernel_rfl) (fun _ _ _ h => h) (Or.inr ⟨by rfl, rfl⟩) hHeld ?_ | (refine wpAnyH_take (i := 21) (oi := ({ dst := some 146, op := Op.load 3 (Operand.tmp 145), type := 3, pos := "law.go:164", after := #[{ on := 20, ground := Ground.data }, { on := 19, ground := Ground.guard }], guard := some (19, false) } : Oper)) (v := ?_) rfl (by kernel_rfl) (by kernel_rfl) (by kernel_rfl) (fun _ _ _ h => h) (Or.inl ⟨by rfl, ?_⟩) hHeld ?_; rotate_left; focus (intro w hSw; (try dsimp only at hSw); go_simp; try with_reducible rfl)))
          try simp only [Act.put, List.setIfInBounds_toArray, List.set_cons_zero, List.set_cons_succ]
          (first | refine wpAnyH_take (i := 22) (oi := ({ dst := some 147, op := Op.fieldAddr 33 (Operand.tmp 6) 2, type := 0, pos := "law.go:164", after := #[{ on := 19, ground := Ground.guard }], guard := some (19, false) } : Oper)) (v := undef) rfl (by kernel_rfl) (by kernel_rfl) (by kernel_rfl) (fun _ _ _ h => h) (Or.inr ⟨by rfl, rfl⟩) hHeld ?_ | (refine wpAnyH_take (i := 22) (oi := ({ dst := some 147, op := Op.fieldAddr 33 (Operand.tmp 6) 2, type := 0, pos := "law.go:164", after := #[{ on := 19, ground := Ground.guard }], guard := some (19, false) } : Oper)) (v := ?_) rfl (by kernel_rfl) (by kernel_rfl) (by kernel_rfl) (fun _ _ _ h => h) (Or.inl ⟨by rfl, ?_⟩) hHeld ?_; rotate_left; focus (intro w hSw; (try dsimp only at hSw); go_simp; try with_reducible rfl)))
          try simp only [Act.put, List.setIfInBounds_toArray, List.set_cons_zero, List.set_cons_succ]
          (first | refine wpAnyH_take (i := 23) (oi := ({ dst := some 148, op := Op.load 3 (Operand.tmp 147), type := 3, pos := "law.go:164", after := #[{ on := 22, ground := Ground.data }, { on := 19, ground := Ground.guard }], guard := some (19, false) } : Oper)) (v := undef) rfl (by kernel_rfl) (by kernel_rfl) (by kernel_rfl) (fun _ _ _ h => h) (Or.inr ⟨by rfl, rfl⟩) hHeld ?_ | (refine wpAnyH_take (i := 23) (oi := ({ dst := some 148, op := Op.load 3 (Operand.tmp 147), type := 3, pos := "law.go:164", after := #[{ on := 22, ground := Ground.data }, { on := 19, ground := Ground.guard }], guard := some (19, false) } : Oper)) (v := ?_) rfl (by kernel_rfl) (by kernel_rfl) (by kernel_rfl) (fun _ _ _ h => h) (Or.inl ⟨by rfl, ?_⟩) hHeld ?_; rotate_left; focus (intro w hSw; (try dsimp only at hSw); go_simp; try with_reducible rfl)))
          try simp only [Act.put, List.setIfInBounds_toArray, List.set_cons_zero, List.set_cons_succ]
          (first | refine wpAnyH_take (i := 24) (oi := ({ dst := some 149, op := Op.binOp BinOp.eql 3 (Operand.tmp 146) (Operand.tmp 148) 3, type := 4, pos := "law.go:164", after := #[{ on := 21, ground := Ground.data }, { on := 23, ground := Ground.data }, { on := 19, ground := Ground.guard }], guard := some (19, false) } : Oper)) (v := undef) rfl (by kernel_rfl) (by kernel_rfl) (by kernel_rfl) (fun _ _ _ h => h) (Or.inr ⟨by rfl, rfl⟩) hHeld ?_ | (refine wpAnyH_take (i := 24) (oi := ({ dst := some 149, op := Op.binOp BinOp.eql 3 (Operand.tmp 146) (Operand.tmp 148) 3, type := 4, pos := "law.go:164", after := #[{ on := 21, ground := Ground.data }, { on := 23, ground := Ground.data }, { on := 19, ground := Ground.guard }], guard := some (19, false) } : Oper)) (v := ?_) rfl (by kernel_rfl) (by kernel_rfl) (by kernel_rfl) (fun _ _ _ h => h) (Or.inl ⟨by rfl, ?_⟩) hHeld ?_; rotate_left; focus (intro w hSw; (try dsimp only at hSw); go_simp; try with_reducible rfl)))
          try simp only [Act.put, List.setIfInBounds_toArray, List.set_cons_zero, List.set_cons_succ]
          (first | refine wpAnyH_take (i := 25) (oi := ({ dst := some 150, op := Op.pick (Operand.tmp 144) (Operand.const (Value.bool true)) (Operand.tmp 149), type := 4, pos := "law.go:164", after := #[{ on := 19, ground := Ground.data }, { on := 24, ground := Ground.data }, { on := 16, ground := Ground.guard }], guard := some (16, true) } : Oper)) (v := undef) rfl (by kernel_rfl) (by kernel_rfl) (by kernel_rfl) (fun _ _ _ h => h) (Or.inr ⟨by rfl, rfl⟩) hHeld ?_ | (refine wpAnyH_take (i := 25) (oi := ({ dst := some 150, op := Op.pick (Operand.tmp 144) (Operand.const (Value.bool true)) (Operand.tmp 149), type := 4, pos := "law.go:164", after := #[{ on := 19, ground := Ground.data }, { on := 24, ground := Ground.data }, { on := 16, ground := Ground.guard }], guard := some (16, true) } : Oper)) (v := ?_) rfl (by kernel_rfl) (by kernel_rfl) (by kernel_rfl) (fun _ _ _ h => h) (Or.inl ⟨by rfl, ?_⟩) hHeld ?_; rotate_left; focus (intro w hSw; (try dsimp only at hSw); go_simp; try with_reducible rfl)))
          try simp only [Act.put, List.setIfInBounds_toArray, List.set_cons_zero, List.set_cons_succ]
          (first | refine wpAnyH_take (i := 26) (oi := ({ dst := some 151, op := Op.pick (Operand.tmp 141) (Operand.tmp 150) (Operand.const (Value.bool false)), type := 4, pos := "law.go:164", after := #[{ on := 16, ground := Ground.data }, { on := 25, ground := Ground.data }], guard := none } : Oper)) (v := undef) rfl (by kernel_rfl) (by kernel_rfl) (by kernel_rfl) (fun _ _ _ h => h) (Or.inr ⟨by rfl, rfl⟩) hHeld ?_ | (refine wpAnyH_take (i := 26) (oi := ({ dst := some 151, op := Op.pick (Operand.tmp 141) (Operand.tmp 150) (Operand.const (Value.bool false)), type := 4, pos := "law.go:164", after := #[{ on := 16, ground := Ground.data }, { on := 25, ground := Ground.data }], guard := none } : Oper)) (v := ?_) rfl (by kernel_rfl) (by kernel_rfl) (by kernel_rfl) (fun _ _ _ h => h) (Or.inl ⟨by rfl, ?_⟩) hHeld ?_; rotate_left; focus (intro w hSw; (try dsimp only at hSw); go_simp; try with_reducible rfl)))
          try simp only [Act.put, List.setIfInBounds_toArray, List.set_cons_zero, List.set_cons_succ]
          (first | refine wpAnyH_take (i := 27) (oi := ({ dst := some 152, op := Op.move (Operand.tmp 151), type := 4, pos := "law.go:164", after := #[{ on := 26, ground := Ground.data }, { on := 19, ground := Ground.chain }], guard := none } : Oper)) (v := undef) rfl (by kernel_rfl) (by kernel_rfl) (by kernel_rfl) (fun _ _ _ h => h) (Or.inr ⟨by rfl, rfl⟩) hHeld ?_ | (refine wpAnyH_take (i := 27) (oi := ({ dst := some 152, op := Op.move (Operand.tmp 151), type := 4, pos := "law.go:164", after := #[{ on := 26, ground := Ground.data }, { on := 19, ground := Ground.chain }], guard := none } : Oper)) (v := ?_) rfl (by kernel_rfl) (by kernel_rfl) (by kernel_rfl) (fun _ _ _ h => h) (Or.inl ⟨by rfl, ?_⟩) hHeld ?_; rotate_left; focus (intro w hSw; (try dsimp only at hSw); go_simp; try with_reducible rfl)))
          try simp only [Act.put, List.setIfInBounds_toArray, List.set_cons_zero, List.set_cons_succ]
          refine wpAnyH_ready (rs := [28]) (by kernel_rfl) (by simp) ?_
          refine AllReadyH.cons (o := ({ dst := some 153, op := Op.call { callee := Callee.value (Operand.func 10), args := #[], argTypes := #[] }, type := 4, pos := "law.go:164", after := #[{ on := 27, ground := Ground.chain }, { on := 27, ground := Ground.guard }], guard := some (27, true) } : Oper)) rfl (fun K hK => ?_) ?_
          case refine_2 => exact AllReadyH.nil
          go_simp
          go_at_call 10
          refine (awake_any _).mono ?_
          rintro e wk ⟨rfl, hb⟩
          have Bk : Hid (Below wh.heap.size wh wk) := below_then (by (repeat' first | with_reducible exact Bk.out | with_reducible exact Bj.out | with_reducible exact Bi.out | with_reducible exact Below.refl _ _ | with_reducible refine Below.drew ?_ | with_reducible exact Nat.le_refl _ | omega | (simp; done) | (simp; omega))) (by first | with_reducible exact Nat.le_refl _ | omega | (simp; done) | (simp; omega)) hb
          clear hb
          (try go_wp2_with fail)
          refine hK.out _ _ ?_ (fun hHeld => ?_)
          case refine_1 => (refine blk4S K20.out K6h.out K9h.out K10h.out ?_; (repeat' first | with_reducible exact Bk.out | with_reducible exact Bj.out | with_reducible exact Bi.out | with_reducible exact Below.refl _ _ | with_reducible refine Below.drew ?_ | with_reducible exact Nat.le_refl _ | omega | (simp; done) | (simp; omega)))
          clear hK K
          try simp only [Act.put, List.setIfInBounds_toArray, List.set_cons_zero, List.set_cons_succ]
          (first | refine wpAnyH_take (i := 29) (oi := ({ dst := some 154, op := Op.pick (Operand.tmp 152) (Operand.tmp 153) (Operand.const (Value.bool false)), type := 4, pos := "law.go:164", after := #[{ on := 27, ground := Ground.data }, { on := 28, ground := Ground.data }], guard := none } : Oper)) (v := undef) rfl (by kernel_rfl) (by kernel_rfl) (by kernel_rfl) (fun _ _ _ h => h) (Or.inr ⟨by rfl, rfl⟩) hHeld ?_ | (refine wpAnyH_take (i := 29) (oi := ({ dst := some 154, op := Op.pick (Operand.tmp 152) (Operand.tmp 153) (Operand.const (Value.bool false)), type := 4, pos := "law.go:164", after := #[{ on := 27, ground := Ground.data }, { on := 28, ground := Ground.data }], guard := none } : Oper)) (v := ?_) rfl (by kernel_rfl) (by kernel_rfl) (by kernel_rfl) (fun _ _ _ h => h) (Or.inl ⟨by rfl, ?_⟩) hHeld ?_; rotate_left; focus (intro w hSw; (try dsimp only at hSw); go_simp; try with_reducible rfl)))
          try simp only [Act.put, List.setIfInBounds_toArray, List.set_cons_zero, List.set_cons_succ]
          (first | refine wpAnyH_take (i := 30) (oi := ({ dst := some 4, op := Op.assign (Operand.tmp 154), type := 4, pos := "law.go:164", after := #[{ on := 29, ground := Ground.data }, { on := 28, ground := Ground.chain }, { on := 0, ground := Ground.phase }, { on := 1, ground := Ground.phase }, { on := 2, ground := Ground.phase }, { on := 3, ground := Ground.phase }, { on := 4, ground := Ground.phase }, { on := 5, ground := Ground.phase }, { on := 6, ground := Ground.phase }, { on := 7, ground := Ground.phase }, { on := 8, ground := Ground.phase }, { on := 9, ground := Ground.phase }, { on := 10, ground := Ground.phase }, { on := 11, ground := Ground.phase }, { on := 12, ground := Ground.phase }, { on := 13, ground := Ground.phase }, { on := 14, ground := Ground.phase }, { on := 15, ground := Ground.phase }, { on := 16, ground := Ground.phase }, { on := 17, ground := Ground.phase }, { on := 18, ground := Ground.phase }, { on := 19, ground := Ground.phase }, { on := 20, ground := Ground.phase }, { on := 21, ground := Ground.phase }, { on := 22, ground := Ground.phase }, { on := 23, ground := Ground.phase }, { on := 24, ground := Ground.phase }, { on := 25, ground := Ground.phase }, { on := 26, ground := Ground.phase }, { on := 27, ground := Ground.phase }, { on := 28, ground := Ground.phase }, { on := 29, ground := Ground.phase }], guard := none } : Oper)) (v := undef) rfl (by kernel_rfl) (by kernel_rfl) (by kernel_rfl) (fun _ _ _ h => h) (Or.inr ⟨by rfl, rfl⟩) hHeld ?_ | (refine wpAnyH_take (i := 30) (oi := ({ dst := some 4, op := Op.assign (Operand.tmp 154), type := 4, pos := "law.go:164", after := #[{ on := 29, ground := Ground.data }, { on := 28, ground := Ground.chain }, { on := 0, ground := Ground.phase }, { on := 1, ground := Ground.phase }, { on := 2, ground := Ground.phase }, { on := 3, ground := Ground.phase }, { on := 4, ground := Ground.phase }, { on := 5, ground := Ground.phase }, { on := 6, ground := Ground.phase }, { on := 7, ground := Ground.phase }, { on := 8, ground := Ground.phase }, { on := 9, ground := Ground.phase }, { on := 10, ground := Ground.phase }, { on := 11, ground := Ground.phase }, { on := 12, ground := Ground.phase }, { on := 13, ground := Ground.phase }, { on := 14, ground := Ground.phase }, { on := 15, ground := Ground.phase }, { on := 16, ground := Ground.phase }, { on := 17, ground := Ground.phase }, { on := 18, ground := Ground.phase }, { on := 19, ground := Ground.phase }, { on := 20, ground := Ground.phase }, { on := 21, ground := Ground.phase }, { on := 22, ground := Ground.phase }, { on := 23, ground := Ground.phase }, { on := 24, ground := Ground.phase }, { on := 25, ground := Ground.phase }, { on := 26, ground := Ground.phase }, { on := 27, ground := Ground.phase }, { on := 28, ground := Ground.phase }, { on := 29, ground := Ground.phase }], guard := none } : Oper)) (v := ?_) rfl (by kernel_rfl) (by kernel_rfl) (by kernel_rfl) (fun _ _ _ h => h) (Or.inl ⟨by rfl, ?_⟩) hHeld ?_; rotate_left; focus (intro w hSw; (try dsimp only at hSw); go_simp; try with_reducible rfl)))
          try simp only [Act.put, List.setIfInBounds_toArray, List.set_cons_zero, List.set_cons_succ]
          refine wpAnyH_done (by kernel_rfl) ?_ _
          refine NoPanic.normal ?_
          all_goals
            go_wp2_with fail
            go_ret
            exact ⟨rfl, BFh.out.trans (Bk.out.mono BFh.out.size)⟩
      · have r1 : (sb.resp.toList == sa.resp.toList) = true := by rw [HR.out hR]; simp
        have r2 : sa.resp.toList.isEmpty = false := by
          have h1 := str_ne.2 hR
          have h2 : (⟨#[]⟩ : ByteArray).toList = [] := by decide +kernel
          rw [h2] at h1
          cases h3 : sa.resp.toList
          · rw [h3] at h1; simp at h1
          · rfl
        have r3 : ¬ sa.resp.toList = [] := by intro h; rw [h] at r2; simp at r2
        clear hR HR
        by_cases hD : fld = bDay
        · skip
          have d1 : (fld.toList == [100, 97, 121]) = true := by rw [hD]; decide +kernel
          have d2 : (sb.day == s.day) = true := by simpa using HD.out hD
          clear hD HD
          refine wp_region_noPanic ?_
          refine wp_region_held_drew (S := (fun W => W.cell? ⟨wg.heap.size, 0, none⟩ = some (.string sc.resp) ∧ W.cell? ⟨wg.heap.size, 1, none⟩ = some (.int .i64 sc.dept) ∧ W.cell? ⟨wg.heap.size, 2, none⟩ = some (.int .i64 sc.day) ∧ W.cell? ⟨wg.heap.size, 3, none⟩ = some (.slice D3 sc.ans.length f3) ∧ W.cell? ⟨wg.heap.size, 4, none⟩ = some (.slice D4 sc.cond.length f4) ∧ W.cell? ⟨wg.heap.size, 5, none⟩ = some (.slice D5 sc.shows.length f5) ∧ W.cell? ⟨g6, 0, none⟩ = some (.string s.resp) ∧ W.cell? ⟨g6, 1, none⟩ = some (.int .i64 s.dept) ∧ W.cell? ⟨g6, 2, none⟩ = some (.int .i64 s.day) ∧ W.cell? ⟨g6, 3, none⟩ = some (.slice A3 s.ans.length c3) ∧ W.cell? ⟨g6, 4, none⟩ = some (.slice A4 s.cond.length c4) ∧ W.cell? ⟨g6, 5, none⟩ = some (.slice A5 s.shows.length c5) ∧ W.cell? ⟨g9, 0, none⟩ = some (.string sa.resp) ∧ W.cell? ⟨g10, 0, none⟩ = some (.string sb.resp) ∧ W.cell? ⟨g10, 2, none⟩ = some (.int .i64 sb.day))) (by kernel_rfl) ?_ (fun hHeld => ?_)
          case refine_1 => (refine blk4S K20.out K6h.out K9h.out K10h.out ?_; (repeat' first | with_reducible exact Bk.out | with_reducible exact Bj.out | with_reducible exact Bi.out | with_reducible exact Below.refl _ _ | with_reducible refine Below.drew ?_ | with_reducible exact Nat.le_refl _ | omega | (simp; done) | (simp; omega)))
          (first | refine wpAnyH_take (i := 0) (oi := ({ dst := some 125, op := Op.load 33 (Operand.tmp 20), type := 33, pos := "law.go:164", after := #[], guard := none } : Oper)) (v := undef) rfl (by kernel_rfl) (by kernel_rfl) (by kernel_rfl) (fun _ _ _ h => h) (Or.inr ⟨by rfl, rfl⟩) hHeld ?_ | (refine wpAnyH_take (i := 0) (oi := ({ dst := some 125, op := Op.load 33 (Operand.tmp 20), type := 33, pos := "law.go:164", after := #[], guard := none } : Oper)) (v := ?_) rfl (by kernel_rfl) (by kernel_rfl) (by kernel_rfl) (fun _ _ _ h => h) (Or.inl ⟨by rfl, ?_⟩) hHeld ?_; rotate_left; focus (intro w hSw; (try dsimp only at hSw); go_simp; try with_reducible rfl)))
          try simp only [Act.put, List.setIfInBounds_toArray, List.set_cons_zero, List.set_cons_succ]
          (first | refine wpAnyH_take (i := 1) (oi := ({ dst := some 126, op := Op.load 33 (Operand.tmp 6), type := 33, pos := "law.go:164", after := #[], guard := none } : Oper)) (v := undef) rfl (by kernel_rfl) (by kernel_rfl) (by kernel_rfl) (fun _ _ _ h => h) (Or.inr ⟨by rfl, rfl⟩) hHeld ?_ | (refine wpAnyH_take (i := 1) (oi := ({ dst := some 126, op := Op.load 33 (Operand.tmp 6), type := 33, pos := "law.go:164", after := #[], guard := none } : Oper)) (v := ?_) rfl (by kernel_rfl) (by kernel_rfl) (by kernel_rfl) (fun _ _ _ h => h) (Or.inl ⟨by rfl, ?_⟩) hHeld ?_; rotate_left; focus (intro w hSw; (try dsimp only at hSw); go_simp; try with_reducible rfl)))
          try simp only [Act.put, List.setIfInBounds_toArray, List.set_cons_zero, List.set_cons_succ]
          refine wpAnyH_ready (rs := [2]) (by kernel_rfl) (by simp) ?_
          refine AllReadyH.cons (o := ({ dst := some 127, op := Op.call { callee := Callee.value (Operand.func 17), args := #[Operand.tmp 126, Operand.const (Value.string { data := #[99, 111, 117, 110, 115, 101, 108, 108, 111, 114] })], argTypes := #[33, 9] }, type := 33, pos := "law.go:164", after := #[{ on := 1, ground := Ground.data }], guard := none } : Oper)) rfl (fun K hK => ?_) ?_
          case refine_2 => exact AllReadyH.nil
          go_simp
          go_at_call 17
          refine (visible_any (fun _ => True) _ s [.string s.resp, .int .i64 s.dept, .int .i64 s.day, .slice A3 s.ans.length c3, .slice A4 s.cond.length c4, .slice A5 s.shows.length c5] ⟨#[99, 111, 117, 110, 115, 101, 108, 108, 111, 114]⟩ (by refine Kd.below KSh.out ?_; (repeat' first | with_reducible exact Bk.out | with_reducible exact Bj.out | with_reducible exact Bi.out | with_reducible exact Below.refl _ _ | with_reducible refine Below.drew ?_ | with_reducible exact Nat.le_refl _ | omega | (simp; done) | (simp; omega))) (by omega)).mono ?_
          rintro e wi ⟨de, rfl, hK, hb⟩
          rw [HSC.out] at hK
          obtain ⟨E3, h3, E4, h4, E5, h5, hde, -, -, -, -, -, -⟩ := kStmt_open hK
          obtain rfl := arr_of hde
          clear hde
          have Bi : Hid (Below wh.heap.size wh wi) := below_then (by (repeat' first | with_reducible exact Bk.out | with_reducible exact Bj.out | with_reducible exact Bi.out | with_reducible exact Below.refl _ _ | with_reducible refine Below.drew ?_ | with_reducible exact Nat.le_refl _ | omega | (simp; done) | (simp; omega))) (by first | with_reducible exact Nat.le_refl _ | omega | (simp; done) | (simp; omega)) hb
          have KE := Lib.hid hK
          have zi := Bi.out.size
          clear hK hb
          (try go_wp2_with fail)
          refine hK.out _ _ ?_ (fun hHeld => ?_)
          case refine_1 => (refine blk4S K20.out K6h.out K9h.out K10h.out ?_; (repeat' first | with_reducible exact Bk.out | with_reducible exact Bj.out | with_reducible exact Bi.out | with_reducible exact Below.refl _ _ | with_reducible refine Below.drew ?_ | with_reducible exact Nat.le_refl _ | omega | (simp; done) | (simp; omega)))
          clear hK K
          try simp only [Act.put, List.setIfInBounds_toArray, List.set_cons_zero, List.set_cons_succ]
          refine wpAnyH_ready (rs := [3]) (by kernel_rfl) (by simp) ?_
          refine AllReadyH.cons (o := ({ dst := some 128, op := Op.call { callee := Callee.value (Operand.func 18), args := #[Operand.tmp 125, Operand.tmp 127], argTypes := #[33, 33] }, type := 4, pos := "law.go:164", after := #[{ on := 0, ground := Ground.data }, { on := 2, ground := Ground.data }, { on := 2, ground := Ground.chain }], guard := none } : Oper)) rfl (fun K hK => ?_) ?_
          case refine_2 => exact AllReadyH.nil
          go_simp
          go_at_call 18
          refine (sameStmt_any (fun _ => True) _ sc sc [.string sc.resp, .int .i64 sc.dept, .int .i64 sc.day, .slice D3 sc.ans.length f3, .slice D4 sc.cond.length f4, .slice D5 sc.shows.length f5] [.string sc.resp, .int .i64 sc.dept, .int .i64 sc.day, .slice E3 sc.ans.length h3, .slice E4 sc.cond.length h4, .slice E5 sc.shows.length h5] (by exact kStmt.mono (fun _ _ _ => trivial) (Kd.below KC1.out (by (repeat' first | with_reducible exact Bk.out | with_reducible exact Bj.out | with_reducible exact Bi.out | with_reducible exact Below.refl _ _ | with_reducible refine Below.drew ?_ | with_reducible exact Nat.le_refl _ | omega | (simp; done) | (simp; omega))))) (by exact kStmt.mono (fun _ _ _ => trivial) KE.out)).mono ?_
          rintro e wj ⟨r, rfl, hr, hb⟩
          obtain rfl : r = true := hr.2 rfl
          have Bj : Hid (Below wh.heap.size wh wj) := below_then Bi.out zi hb
          have zj := Bj.out.size
          clear hr hb
          (try go_wp2_with fail)
          refine hK.out _ _ ?_ (fun hHeld => ?_)
          case refine_1 => (refine blk4S K20.out K6h.out K9h.out K10h.out ?_; (repeat' first | with_reducible exact Bk.out | with_reducible exact Bj.out | with_reducible exact Bi.out | with_reducible exact Below.refl _ _ | with_reducible refine Below.drew ?_ | with_reducible exact Nat.le_refl _ | omega | (simp; done) | (simp; omega)))
          clear hK K
          try simp only [Act.put, List.setIfInBounds_toArray, List.set_cons_zero, List.set_cons_succ]
          (first | refine wpAnyH_take (i := 4) (oi := ({ dst := some 129, op := Op.move (Operand.tmp 128), type := 4, pos := "law.go:164", after := #[{ on := 3, ground := Ground.data }, { on := 3, ground := Ground.chain }], guard := none } : Oper)) (v := undef) rfl (by kernel_rfl) (by kernel_rfl) (by kernel_rfl) (fun _ _ _ h => h) (Or.inr ⟨by rfl, rfl⟩) hHeld ?_ | (refine wpAnyH_take (i := 4) (oi := ({ dst := some 129, op := Op.move (Operand.tmp 128), type := 4, pos := "law.go:164", after := #[{ on := 3, ground := Ground.data }, { on := 3, ground := Ground.chain }], guard := none } : Oper)) (v := ?_) rfl (by kernel_rfl) (by kernel_rfl) (by kernel_rfl) (fun _ _ _ h => h) (Or.inl ⟨by rfl, ?_⟩) hHeld ?_; rotate_left; focus (intro w hSw; (try dsimp only at hSw); go_simp; try with_reducible rfl)))
          try simp only [Act.put, List.setIfInBounds_toArray, List.set_cons_zero, List.set_cons_succ]
          (first | refine wpAnyH_take (i := 5) (oi := ({ dst := some 130, op := Op.fieldAddr 33 (Operand.tmp 9) 0, type := 0, pos := "law.go:164", after := #[{ on := 4, ground := Ground.guard }], guard := some (4, true) } : Oper)) (v := undef) rfl (by kernel_rfl) (by kernel_rfl) (by kernel_rfl) (fun _ _ _ h => h) (Or.inr ⟨by rfl, rfl⟩) hHeld ?_ | (refine wpAnyH_take (i := 5) (oi := ({ dst := some 130, op := Op.fieldAddr 33 (Operand.tmp 9) 0, type := 0, pos := "law.go:164", after := #[{ on := 4, ground := Ground.guard }], guard := some (4, true) } : Oper)) (v := ?_) rfl (by kernel_rfl) (by kernel_rfl) (by kernel_rfl) (fun _ _ _ h => h) (Or.inl ⟨by rfl, ?_⟩) hHeld ?_; rotate_left; focus (intro w hSw; (try dsimp only at hSw); go_simp; try with_reducible rfl)))
          try simp only [Act.put, List.setIfInBounds_toArray, List.set_cons_zero, List.set_cons_succ]
          (first | refine wpAnyH_take (i := 6) (oi := ({ dst := some 131, op := Op.load 9 (Operand.tmp 130), type := 9, pos := "law.go:164", after := #[{ on := 5, ground := Ground.data }, { on := 4, ground := Ground.guard }], guard := some (4, true) } : Oper)) (v := undef) rfl (by kernel_rfl) (by kernel_rfl) (by kernel_rfl) (fun _ _ _ h => h) (Or.inr ⟨by rfl, rfl⟩) hHeld ?_ | (refine wpAnyH_take (i := 6) (oi := ({ dst := some 131, op := Op.load 9 (Operand.tmp 130), type := 9, pos := "law.go:164", after := #[{ on := 5, ground := Ground.data }, { on := 4, ground := Ground.guard }], guard := some (4, true) } : Oper)) (v := ?_) rfl (by kernel_rfl) (by kernel_rfl) (by kernel_rfl) (fun _ _ _ h => h) (Or.inl ⟨by rfl, ?_⟩) hHeld ?_; rotate_left; focus (intro w hSw; (try dsimp only at hSw); go_simp; try with_reducible rfl)))
          try simp only [Act.put, List.setIfInBounds_toArray, List.set_cons_zero, List.set_cons_succ]
          (first | refine wpAnyH_take (i := 7) (oi := ({ dst := some 132, op := Op.binOp BinOp.eql 9 (Operand.tmp 131) (Operand.const (Value.string { data := #[] })) 9, type := 4, pos := "law.go:164", after := #[{ on := 6, ground := Ground.data }, { on := 4, ground := Ground.guard }], guard := some (4, true) } : Oper)) (v := undef) rfl (by kernel_rfl) (by kernel_rfl) (by kernel_rfl) (fun _ _ _ h => h) (Or.inr ⟨by rfl, rfl⟩) hHeld ?_ | (refine wpAnyH_take (i := 7) (oi := ({ dst := some 132, op := Op.binOp BinOp.eql 9 (Operand.tmp 131) (Operand.const (Value.string { data := #[] })) 9, type := 4, pos := "law.go:164", after := #[{ on := 6, ground := Ground.data }, { on := 4, ground := Ground.guard }], guard := some (4, true) } : Oper)) (v := ?_) rfl (by kernel_rfl) (by kernel_rfl) (by kernel_rfl) (fun _ _ _ h => h) (Or.inl ⟨by rfl, ?_⟩) hHeld ?_; rotate_left; focus (intro w hSw; (try dsimp only at hSw); go_simp; try with_reducible rfl)))
          try simp only [Act.put, List.setIfInBounds_toArray, List.set_cons_zero, List.set_cons_succ]
          (first | refine wpAnyH_take (i := 8) (oi := ({ dst := some 133, op := Op.move (Operand.tmp 132), type := 4, pos := "law.go:164", after := #[{ on := 7, ground := Ground.data }, { on := 4, ground := Ground.chain }, { on := 4, ground := Ground.guard }], guard := some (4, true) } : Oper)) (v := undef) rfl (by kernel_rfl) (by kernel_rfl) (by kernel_rfl) (fun _ _ _ h => h) (Or.inr ⟨by rfl, rfl⟩) hHeld ?_ | (refine wpAnyH_take (i := 8) (oi := ({ dst := some 133, op := Op.move (Operand.tmp 132), type := 4, pos := "law.go:164", after := #[{ on := 7, ground := Ground.data }, { on := 4, ground := Ground.chain }, { on := 4, ground := Ground.guard }], guard := some (4, true) } : Oper)) (v := ?_) rfl (by kernel_rfl) (by kernel_rfl) (by kernel_rfl) (fun _ _ _ h => h) (Or.inl ⟨by rfl, ?_⟩) hHeld ?_; rotate_left; focus (intro w hSw; (try dsimp only at hSw); go_simp; try with_reducible rfl)))
          try simp only [Act.put, List.setIfInBounds_toArray, List.set_cons_zero, List.set_cons_succ]
          (first | refine wpAnyH_take (i := 9) (oi := ({ dst := some 134, op := Op.fieldAddr 33 (Operand.tmp 10) 0, type := 0, pos := "law.go:164", after := #[{ on := 8, ground := Ground.guard }], guard := some (8, false) } : Oper)) (v := undef) rfl (by kernel_rfl) (by kernel_rfl) (by kernel_rfl) (fun _ _ _ h => h) (Or.inr ⟨by rfl, rfl⟩) hHeld ?_ | (refine wpAnyH_take (i := 9) (oi := ({ dst := some 134, op := Op.fieldAddr 33 (Operand.tmp 10) 0, type := 0, pos := "law.go:164", after := #[{ on := 8, ground := Ground.guard }], guard := some (8, false) } : Oper)) (v := ?_) rfl (by kernel_rfl) (by kernel_rfl) (by kernel_rfl) (fun _ _ _ h => h) (Or.inl ⟨by rfl, ?_⟩) hHeld ?_; rotate_left; focus (intro w hSw; (try dsimp only at hSw); go_simp; try with_reducible rfl)))
          try simp only [Act.put, List.setIfInBounds_toArray, List.set_cons_zero, List.set_cons_succ]
          (first | refine wpAnyH_take (i := 10) (oi := ({ dst := some 135, op := Op.load 9 (Operand.tmp 134), type := 9, pos := "law.go:164", after := #[{ on := 9, ground := Ground.data }, { on := 8, ground := Ground.guard }], guard := some (8, false) } : Oper)) (v := undef) rfl (by kernel_rfl) (by kernel_rfl) (by kernel_rfl) (fun _ _ _ h => h) (Or.inr ⟨by rfl, rfl⟩) hHeld ?_ | (refine wpAnyH_take (i := 10) (oi := ({ dst := some 135, op := Op.load 9 (Operand.tmp 134), type := 9, pos := "law.go:164", after := #[{ on := 9, ground := Ground.data }, { on := 8, ground := Ground.guard }], guard := some (8, false) } : Oper)) (v := ?_) rfl (by kernel_rfl) (by kernel_rfl) (by kernel_rfl) (fun _ _ _ h => h) (Or.inl ⟨by rfl, ?_⟩) hHeld ?_; rotate_left; focus (intro w hSw; (try dsimp only at hSw); go_simp; try with_reducible rfl)))
          try simp only [Act.put, List.setIfInBounds_toArray, List.set_cons_zero, List.set_cons_succ]
          (first | refine wpAnyH_take (i := 11) (oi := ({ dst := some 136, op := Op.fieldAddr 33 (Operand.tmp 9) 0, type := 0, pos := "law.go:164", after := #[{ on := 8, ground := Ground.guard }], guard := some (8, false) } : Oper)) (v := undef) rfl (by kernel_rfl) (by kernel_rfl) (by kernel_rfl) (fun _ _ _ h => h) (Or.inr ⟨by rfl, rfl⟩) hHeld ?_ | (refine wpAnyH_take (i := 11) (oi := ({ dst := some 136, op := Op.fieldAddr 33 (Operand.tmp 9) 0, type := 0, pos := "law.go:164", after := #[{ on := 8, ground := Ground.guard }], guard := some (8, false) } : Oper)) (v := ?_) rfl (by kernel_rfl) (by kernel_rfl) (by kernel_rfl) (fun _ _ _ h => h) (Or.inl ⟨by rfl, ?_⟩) hHeld ?_; rotate_left; focus (intro w hSw; (try dsimp only at hSw); go_simp; try with_reducible rfl)))
          try simp only [Act.put, List.setIfInBounds_toArray, List.set_cons_zero, List.set_cons_succ]
          (first | refine wpAnyH_take (i := 12) (oi := ({ dst := some 137, op := Op.load 9 (Operand.tmp 136), type := 9, pos := "law.go:164", after := #[{ on := 11, ground := Ground.data }, { on := 8, ground := Ground.guard }], guard := some (8, false) } : Oper)) (v := undef) rfl (by kernel_rfl) (by kernel_rfl) (by kernel_rfl) (fun _ _ _ h => h) (Or.inr ⟨by rfl, rfl⟩) hHeld ?_ | (refine wpAnyH_take (i := 12) (oi := ({ dst := some 137, op := Op.load 9 (Operand.tmp 136), type := 9, pos := "law.go:164", after := #[{ on := 11, ground := Ground.data }, { on := 8, ground := Ground.guard }], guard := some (8, false) } : Oper)) (v := ?_) rfl (by kernel_rfl) (by kernel_rfl) (by kernel_rfl) (fun _ _ _ h => h) (Or.inl ⟨by rfl, ?_⟩) hHeld ?_; rotate_left; focus (intro w hSw; (try dsimp only at hSw); go_simp; try with_reducible rfl)))
          try simp only [Act.put, List.setIfInBounds_toArray, List.set_cons_zero, List.set_cons_succ]
          (first | refine wpAnyH_take (i := 13) (oi := ({ dst := some 138, op := Op.binOp BinOp.eql 9 (Operand.tmp 135) (Operand.tmp 137) 9, type := 4, pos := "law.go:164", after := #[{ on := 10, ground := Ground.data }, { on := 12, ground := Ground.data }, { on := 8, ground := Ground.guard }], guard := some (8, false) } : Oper)) (v := undef) rfl (by kernel_rfl) (by kernel_rfl) (by kernel_rfl) (fun _ _ _ h => h) (Or.inr ⟨by rfl, rfl⟩) hHeld ?_ | (refine wpAnyH_take (i := 13) (oi := ({ dst := some 138, op := Op.binOp BinOp.eql 9 (Operand.tmp 135) (Operand.tmp 137) 9, type := 4, pos := "law.go:164", after := #[{ on := 10, ground := Ground.data }, { on := 12, ground := Ground.data }, { on := 8, ground := Ground.guard }], guard := some (8, false) } : Oper)) (v := ?_) rfl (by kernel_rfl) (by kernel_rfl) (by kernel_rfl) (fun _ _ _ h => h) (Or.inl ⟨by rfl, ?_⟩) hHeld ?_; rotate_left; focus (intro w hSw; (try dsimp only at hSw); go_simp; try with_reducible rfl)))
          try simp only [Act.put, List.setIfInBounds_toArray, List.set_cons_zero, List.set_cons_succ]
          (first | refine wpAnyH_take (i := 14) (oi := ({ dst := some 139, op := Op.pick (Operand.tmp 133) (Operand.const (Value.bool true)) (Operand.tmp 138), type := 4, pos := "law.go:164", after := #[{ on := 8, ground := Ground.data }, { on := 13, ground := Ground.data }, { on := 4, ground := Ground.guard }], guard := some (4, true) } : Oper)) (v := undef) rfl (by kernel_rfl) (by kernel_rfl) (by kernel_rfl) (fun _ _ _ h => h) (Or.inr ⟨by rfl, rfl⟩) hHeld ?_ | (refine wpAnyH_take (i := 14) (oi := ({ dst := some 139, op := Op.pick (Operand.tmp 133) (Operand.const (Value.bool true)) (Operand.tmp 138), type := 4, pos := "law.go:164", after := #[{ on := 8, ground := Ground.data }, { on := 13, ground := Ground.data }, { on := 4, ground := Ground.guard }], guard := some (4, true) } : Oper)) (v := ?_) rfl (by kernel_rfl) (by kernel_rfl) (by kernel_rfl) (fun _ _ _ h => h) (Or.inl ⟨by rfl, ?_⟩) hHeld ?_; rotate_left; focus (intro w hSw; (try dsimp only at hSw); go_simp; try with_reducible rfl)))
          try simp only [Act.put, List.setIfInBounds_toArray, List.set_cons_zero, List.set_cons_succ]
          (first | refine wpAnyH_take (i := 15) (oi := ({ dst := some 140, op := Op.pick (Operand.tmp 129) (Operand.tmp 139) (Operand.const (Value.bool false)), type := 4, pos := "law.go:164", after := #[{ on := 4, ground := Ground.data }, { on := 14, ground := Ground.data }], guard := none } : Oper)) (v := undef) rfl (by kernel_rfl) (by kernel_rfl) (by kernel_rfl) (fun _ _ _ h => h) (Or.inr ⟨by rfl, rfl⟩) hHeld ?_ | (refine wpAnyH_take (i := 15) (oi := ({ dst := some 140, op := Op.pick (Operand.tmp 129) (Operand.tmp 139) (Operand.const (Value.bool false)), type := 4, pos := "law.go:164", after := #[{ on := 4, ground := Ground.data }, { on := 14, ground := Ground.data }], guard := none } : Oper)) (v := ?_) rfl (by kernel_rfl) (by kernel_rfl) (by kernel_rfl) (fun _ _ _ h => h) (Or.inl ⟨by rfl, ?_⟩) hHeld ?_; rotate_left; focus (intro w hSw; (try dsimp only at hSw); go_simp; try with_reducible rfl)))
          try simp only [Act.put, List.setIfInBounds_toArray, List.set_cons_zero, List.set_cons_succ]
          (first | refine wpAnyH_take (i := 16) (oi := ({ dst := some 141, op := Op.move (Operand.tmp 140), type := 4, pos := "law.go:164", after := #[{ on := 15, ground := Ground.data }, { on := 8, ground := Ground.chain }], guard := none } : Oper)) (v := undef) rfl (by kernel_rfl) (by kernel_rfl) (by kernel_rfl) (fun _ _ _ h => h) (Or.inr ⟨by rfl, rfl⟩) hHeld ?_ | (refine wpAnyH_take (i := 16) (oi := ({ dst := some 141, op := Op.move (Operand.tmp 140), type := 4, pos := "law.go:164", after := #[{ on := 15, ground := Ground.data }, { on := 8, ground := Ground.chain }], guard := none } : Oper)) (v := ?_) rfl (by kernel_rfl) (by kernel_rfl) (by kernel_rfl) (fun _ _ _ h => h) (Or.inl ⟨by rfl, ?_⟩) hHeld ?_; rotate_left; focus (intro w hSw; (try dsimp only at hSw); go_simp; try with_reducible rfl)))
          try simp only [Act.put, List.setIfInBounds_toArray, List.set_cons_zero, List.set_cons_succ]
          (first | refine wpAnyH_take (i := 17) (oi := ({ dst := some 142, op := Op.move (Operand.tmp 8), type := 9, pos := "law.go:164", after := #[{ on := 16, ground := Ground.guard }], guard := some (16, true) } : Oper)) (v := undef) rfl (by kernel_rfl) (by kernel_rfl) (by kernel_rfl) (fun _ _ _ h => h) (Or.inr ⟨by rfl, rfl⟩) hHeld ?_ | (refine wpAnyH_take (i := 17) (oi := ({ dst := some 142, op := Op.move (Operand.tmp 8), type := 9, pos := "law.go:164", after := #[{ on := 16, ground := Ground.guard }], guard := some (16, true) } : Oper)) (v := ?_) rfl (by kernel_rfl) (by kernel_rfl) (by kernel_rfl) (fun _ _ _ h => h) (Or.inl ⟨by rfl, ?_⟩) hHeld ?_; rotate_left; focus (intro w hSw; (try dsimp only at hSw); go_simp; try with_reducible rfl)))
          try simp only [Act.put, List.setIfInBounds_toArray, List.set_cons_zero, List.set_cons_succ]
          (first | refine wpAnyH_take (i := 18) (oi := ({ dst := some 143, op := Op.binOp BinOp.neq 9 (Operand.tmp 142) (Operand.const (Value.string { data := #[100, 97, 121] })) 9, type := 4, pos := "law.go:164", after := #[{ on := 17, ground := Ground.data }, { on := 16, ground := Ground.guard }], guard := some (16, true) } : Oper)) (v := undef) rfl (by kernel_rfl) (by kernel_rfl) (by kernel_rfl) (fun _ _ _ h => h) (Or.inr ⟨by rfl, rfl⟩) hHeld ?_ | (refine wpAnyH_take (i := 18) (oi := ({ dst := some 143, op := Op.binOp BinOp.neq 9 (Operand.tmp 142) (Operand.const (Value.string { data := #[100, 97, 121] })) 9, type := 4, pos := "law.go:164", after := #[{ on := 17, ground := Ground.data }, { on := 16, ground := Ground.guard }], guard := some (16, true) } : Oper)) (v := ?_) rfl (by kernel_rfl) (by kernel_rfl) (by kernel_rfl) (fun _ _ _ h => h) (Or.inl ⟨by rfl, ?_⟩) hHeld ?_; rotate_left; focus (intro w hSw; (try dsimp only at hSw); go_simp; try with_reducible rfl)))
          try simp only [Act.put, List.setIfInBounds_toArray, List.set_cons_zero, List.set_cons_succ]
          (first | refine wpAnyH_take (i := 19) (oi := ({ dst := some 144, op := Op.move (Operand.tmp 143), type := 4, pos := "law.go:164", after := #[{ on := 18, ground := Ground.data }, { on := 16, ground := Ground.chain }, { on := 16, ground := Ground.guard }], guard := some (16, true) } : Oper)) (v := undef) rfl (by kernel_rfl) (by kernel_rfl) (by kernel_rfl) (fun _ _ _ h => h) (Or.inr ⟨by rfl, rfl⟩) hHeld ?_ | (refine wpAnyH_take (i := 19) (oi := ({ dst := some 144, op := Op.move (Operand.tmp 143), type := 4, pos := "law.go:164", after := #[{ on := 18, ground := Ground.data }, { on := 16, ground := Ground.chain }, { on := 16, ground := Ground.guard }], guard := some (16, true) } : Oper)) (v := ?_) rfl (by kernel_rfl) (by kernel_rfl) (by kernel_rfl) (fun _ _ _ h => h) (Or.inl ⟨by rfl, ?_⟩) hHeld ?_; rotate_left; focus (intro w hSw; (try dsimp only at hSw); go_simp; try with_reducible rfl)))
          try simp only [Act.put, List.setIfInBounds_toArray, List.set_cons_zero, List.set_cons_succ]
          (first | refine wpAnyH_take (i := 20) (oi := ({ dst := some 145, op := Op.fieldAddr 33 (Operand.tmp 10) 2, type := 0, pos := "law.go:164", after := #[{ on := 19, ground := Ground.guard }], guard := some (19, false) } : Oper)) (v := undef) rfl (by kernel_rfl) (by kernel_rfl) (by kernel_rfl) (fun _ _ _ h => h) (Or.inr ⟨by rfl, rfl⟩) hHeld ?_ | (refine wpAnyH_take (i := 20) (oi := ({ dst := some 145, op := Op.fieldAddr 33 (Operand.tmp 10) 2, type := 0, pos := "law.go:164", after := #[{ on := 19, ground := Ground.guard }], guard := some (19, false) } : Oper)) (v := ?_) rfl (by kernel_rfl) (by kernel_rfl) (by kernel_rfl) (fun _ _ _ h => h) (Or.inl ⟨by rfl, ?_⟩) hHeld ?_; rotate_left; focus (intro w hSw; (try dsimp only at hSw); go_simp; try with_reducible rfl)))
          try simp only [Act.put, List.setIfInBounds_toArray, List.set_cons_zero, List.set_cons_succ]
          (first | refine wpAnyH_take (i := 21) (oi := ({ dst := some 146, op := Op.load 3 (Operand.tmp 145), type := 3, pos := "law.go:164", after := #[{ on := 20, ground := Ground.data }, { on := 19, ground := Ground.guard }], guard := some (19, false) } : Oper)) (v := undef) rfl (by kernel_rfl) (by kernel_rfl) (by kernel_rfl) (fun _ _ _ h => h) (Or.inr ⟨by rfl, rfl⟩) hHeld ?_ | (refine wpAnyH_take (i := 21) (oi := ({ dst := some 146, op := Op.load 3 (Operand.tmp 145), type := 3, pos := "law.go:164", after := #[{ on := 20, ground := Ground.data }, { on := 19, ground := Ground.guard }], guard := some (19, false) } : Oper)) (v := ?_) rfl (by kernel_rfl) (by kernel_rfl) (by kernel_rfl) (fun _ _ _ h => h) (Or.inl ⟨by rfl, ?_⟩) hHeld ?_; rotate_left; focus (intro w hSw; (try dsimp only at hSw); go_simp; try with_reducible rfl)))
          try simp only [Act.put, List.setIfInBounds_toArray, List.set_cons_zero, List.set_cons_succ]
          (first | refine wpAnyH_take (i := 22) (oi := ({ dst := some 147, op := Op.fieldAddr 33 (Operand.tmp 6) 2, type := 0, pos := "law.go:164", after := #[{ on := 19, ground := Ground.guard }], guard := some (19, false) } : Oper)) (v := undef) rfl (by kernel_rfl) (by kernel_rfl) (by kernel_rfl) (fun _ _ _ h => h) (Or.inr ⟨by rfl, rfl⟩) hHeld ?_ | (refine wpAnyH_take (i := 22) (oi := ({ dst := some 147, op := Op.fieldAddr 33 (Operand.tmp 6) 2, type := 0, pos := "law.go:164", after := #[{ on := 19, ground := Ground.guard }], guard := some (19, false) } : Oper)) (v := ?_) rfl (by kernel_rfl) (by kernel_rfl) (by kernel_rfl) (fun _ _ _ h => h) (Or.inl ⟨by rfl, ?_⟩) hHeld ?_; rotate_left; focus (intro w hSw; (try dsimp only at hSw); go_simp; try with_reducible rfl)))
          try simp only [Act.put, List.setIfInBounds_toArray, List.set_cons_zero, List.set_cons_succ]
          (first | refine wpAnyH_take (i := 23) (oi := ({ dst := some 148, op := Op.load 3 (Operand.tmp 147), type := 3, pos := "law.go:164", after := #[{ on := 22, ground := Ground.data }, { on := 19, ground := Ground.guard }], guard := some (19, false) } : Oper)) (v := undef) rfl (by kernel_rfl) (by kernel_rfl) (by kernel_rfl) (fun _ _ _ h => h) (Or.inr ⟨by rfl, rfl⟩) hHeld ?_ | (refine wpAnyH_take (i := 23) (oi := ({ dst := some 148, op := Op.load 3 (Operand.tmp 147), type := 3, pos := "law.go:164", after := #[{ on := 22, ground := Ground.data }, { on := 19, ground := Ground.guard }], guard := some (19, false) } : Oper)) (v := ?_) rfl (by kernel_rfl) (by kernel_rfl) (by kernel_rfl) (fun _ _ _ h => h) (Or.inl ⟨by rfl, ?_⟩) hHeld ?_; rotate_left; focus (intro w hSw; (try dsimp only at hSw); go_simp; try with_reducible rfl)))
          try simp only [Act.put, List.setIfInBounds_toArray, List.set_cons_zero, List.set_cons_succ]
          (first | refine wpAnyH_take (i := 24) (oi := ({ dst := some 149, op := Op.binOp BinOp.eql 3 (Operand.tmp 146) (Operand.tmp 148) 3, type := 4, pos := "law.go:164", after := #[{ on := 21, ground := Ground.data }, { on := 23, ground := Ground.data }, { on := 19, ground := Ground.guard }], guard := some (19, false) } : Oper)) (v := undef) rfl (by kernel_rfl) (by kernel_rfl) (by kernel_rfl) (fun _ _ _ h => h) (Or.inr ⟨by rfl, rfl⟩) hHeld ?_ | (refine wpAnyH_take (i := 24) (oi := ({ dst := some 149, op := Op.binOp BinOp.eql 3 (Operand.tmp 146) (Operand.tmp 148) 3, type := 4, pos := "law.go:164", after := #[{ on := 21, ground := Ground.data }, { on := 23, ground := Ground.data }, { on := 19, ground := Ground.guard }], guard := some (19, false) } : Oper)) (v := ?_) rfl (by kernel_rfl) (by kernel_rfl) (by kernel_rfl) (fun _ _ _ h => h) (Or.inl ⟨by rfl, ?_⟩) hHeld ?_; rotate_left; focus (intro w hSw; (try dsimp only at hSw); go_simp; try with_reducible rfl)))
          try simp only [Act.put, List.setIfInBounds_toArray, List.set_cons_zero, List.set_cons_succ]
          (first | refine wpAnyH_take (i := 25) (oi := ({ dst := some 150, op := Op.pick (Operand.tmp 144) (Operand.const (Value.bool true)) (Operand.tmp 149), type := 4, pos := "law.go:164", after := #[{ on := 19, ground := Ground.data }, { on := 24, ground := Ground.data }, { on := 16, ground := Ground.guard }], guard := some (16, true) } : Oper)) (v := undef) rfl (by kernel_rfl) (by kernel_rfl) (by kernel_rfl) (fun _ _ _ h => h) (Or.inr ⟨by rfl, rfl⟩) hHeld ?_ | (refine wpAnyH_take (i := 25) (oi := ({ dst := some 150, op := Op.pick (Operand.tmp 144) (Operand.const (Value.bool true)) (Operand.tmp 149), type := 4, pos := "law.go:164", after := #[{ on := 19, ground := Ground.data }, { on := 24, ground := Ground.data }, { on := 16, ground := Ground.guard }], guard := some (16, true) } : Oper)) (v := ?_) rfl (by kernel_rfl) (by kernel_rfl) (by kernel_rfl) (fun _ _ _ h => h) (Or.inl ⟨by rfl, ?_⟩) hHeld ?_; rotate_left; focus (intro w hSw; (try dsimp only at hSw); go_simp; try with_reducible rfl)))
          try simp only [Act.put, List.setIfInBounds_toArray, List.set_cons_zero, List.set_cons_succ]
          (first | refine wpAnyH_take (i := 26) (oi := ({ dst := some 151, op := Op.pick (Operand.tmp 141) (Operand.tmp 150) (Operand.const (Value.bool false)), type := 4, pos := "law.go:164", after := #[{ on := 16, ground := Ground.data }, { on := 25, ground := Ground.data }], guard := none } : Oper)) (v := undef) rfl (by kernel_rfl) (by kernel_rfl) (by kernel_rfl) (fun _ _ _ h => h) (Or.inr ⟨by rfl, rfl⟩) hHeld ?_ | (refine wpAnyH_take (i := 26) (oi := ({ dst := some 151, op := Op.pick (Operand.tmp 141) (Operand.tmp 150) (Operand.const (Value.bool false)), type := 4, pos := "law.go:164", after := #[{ on := 16, ground := Ground.data }, { on := 25, ground := Ground.data }], guard := none } : Oper)) (v := ?_) rfl (by kernel_rfl) (by kernel_rfl) (by kernel_rfl) (fun _ _ _ h => h) (Or.inl ⟨by rfl, ?_⟩) hHeld ?_; rotate_left; focus (intro w hSw; (try dsimp only at hSw); go_simp; try with_reducible rfl)))
          try simp only [Act.put, List.setIfInBounds_toArray, List.set_cons_zero, List.set_cons_succ]
          (first | refine wpAnyH_take (i := 27) (oi := ({ dst := some 152, op := Op.move (Operand.tmp 151), type := 4, pos := "law.go:164", after := #[{ on := 26, ground := Ground.data }, { on := 19, ground := Ground.chain }], guard := none } : Oper)) (v := undef) rfl (by kernel_rfl) (by kernel_rfl) (by kernel_rfl) (fun _ _ _ h => h) (Or.inr ⟨by rfl, rfl⟩) hHeld ?_ | (refine wpAnyH_take (i := 27) (oi := ({ dst := some 152, op := Op.move (Operand.tmp 151), type := 4, pos := "law.go:164", after := #[{ on := 26, ground := Ground.data }, { on := 19, ground := Ground.chain }], guard := none } : Oper)) (v := ?_) rfl (by kernel_rfl) (by kernel_rfl) (by kernel_rfl) (fun _ _ _ h => h) (Or.inl ⟨by rfl, ?_⟩) hHeld ?_; rotate_left; focus (intro w hSw; (try dsimp only at hSw); go_simp; try with_reducible rfl)))
          try simp only [Act.put, List.setIfInBounds_toArray, List.set_cons_zero, List.set_cons_succ]
          refine wpAnyH_ready (rs := [28]) (by kernel_rfl) (by simp) ?_
          refine AllReadyH.cons (o := ({ dst := some 153, op := Op.call { callee := Callee.value (Operand.func 10), args := #[], argTypes := #[] }, type := 4, pos := "law.go:164", after := #[{ on := 27, ground := Ground.chain }, { on := 27, ground := Ground.guard }], guard := some (27, true) } : Oper)) rfl (fun K hK => ?_) ?_
          case refine_2 => exact AllReadyH.nil
          go_simp
          go_at_call 10
          refine (awake_any _).mono ?_
          rintro e wk ⟨rfl, hb⟩
          have Bk : Hid (Below wh.heap.size wh wk) := below_then (by (repeat' first | with_reducible exact Bk.out | with_reducible exact Bj.out | with_reducible exact Bi.out | with_reducible exact Below.refl _ _ | with_reducible refine Below.drew ?_ | with_reducible exact Nat.le_refl _ | omega | (simp; done) | (simp; omega))) (by first | with_reducible exact Nat.le_refl _ | omega | (simp; done) | (simp; omega)) hb
          clear hb
          (try go_wp2_with fail)
          refine hK.out _ _ ?_ (fun hHeld => ?_)
          case refine_1 => (refine blk4S K20.out K6h.out K9h.out K10h.out ?_; (repeat' first | with_reducible exact Bk.out | with_reducible exact Bj.out | with_reducible exact Bi.out | with_reducible exact Below.refl _ _ | with_reducible refine Below.drew ?_ | with_reducible exact Nat.le_refl _ | omega | (simp; done) | (simp; omega)))
          clear hK K
          try simp only [Act.put, List.setIfInBounds_toArray, List.set_cons_zero, List.set_cons_succ]
          (first | refine wpAnyH_take (i := 29) (oi := ({ dst := some 154, op := Op.pick (Operand.tmp 152) (Operand.tmp 153) (Operand.const (Value.bool false)), type := 4, pos := "law.go:164", after := #[{ on := 27, ground := Ground.data }, { on := 28, ground := Ground.data }], guard := none } : Oper)) (v := undef) rfl (by kernel_rfl) (by kernel_rfl) (by kernel_rfl) (fun _ _ _ h => h) (Or.inr ⟨by rfl, rfl⟩) hHeld ?_ | (refine wpAnyH_take (i := 29) (oi := ({ dst := some 154, op := Op.pick (Operand.tmp 152) (Operand.tmp 153) (Operand.const (Value.bool false)), type := 4, pos := "law.go:164", after := #[{ on := 27, ground := Ground.data }, { on := 28, ground := Ground.data }], guard := none } : Oper)) (v := ?_) rfl (by kernel_rfl) (by kernel_rfl) (by kernel_rfl) (fun _ _ _ h => h) (Or.inl ⟨by rfl, ?_⟩) hHeld ?_; rotate_left; focus (intro w hSw; (try dsimp only at hSw); go_simp; try with_reducible rfl)))
          try simp only [Act.put, List.setIfInBounds_toArray, List.set_cons_zero, List.set_cons_succ]
          (first | refine wpAnyH_take (i := 30) (oi := ({ dst := some 4, op := Op.assign (Operand.tmp 154), type := 4, pos := "law.go:164", after := #[{ on := 29, ground := Ground.data }, { on := 28, ground := Ground.chain }, { on := 0, ground := Ground.phase }, { on := 1, ground := Ground.phase }, { on := 2, ground := Ground.phase }, { on := 3, ground := Ground.phase }, { on := 4, ground := Ground.phase }, { on := 5, ground := Ground.phase }, { on := 6, ground := Ground.phase }, { on := 7, ground := Ground.phase }, { on := 8, ground := Ground.phase }, { on := 9, ground := Ground.phase }, { on := 10, ground := Ground.phase }, { on := 11, ground := Ground.phase }, { on := 12, ground := Ground.phase }, { on := 13, ground := Ground.phase }, { on := 14, ground := Ground.phase }, { on := 15, ground := Ground.phase }, { on := 16, ground := Ground.phase }, { on := 17, ground := Ground.phase }, { on := 18, ground := Ground.phase }, { on := 19, ground := Ground.phase }, { on := 20, ground := Ground.phase }, { on := 21, ground := Ground.phase }, { on := 22, ground := Ground.phase }, { on := 23, ground := Ground.phase }, { on := 24, ground := Ground.phase }, { on := 25, ground := Ground.phase }, { on := 26, ground := Ground.phase }, { on := 27, ground := Ground.phase }, { on := 28, ground := Ground.phase }, { on := 29, ground := Ground.phase }], guard := none } : Oper)) (v := undef) rfl (by kernel_rfl) (by kernel_rfl) (by kernel_rfl) (fun _ _ _ h => h) (Or.inr ⟨by rfl, rfl⟩) hHeld ?_ | (refine wpAnyH_take (i := 30) (oi := ({ dst := some 4, op := Op.assign (Operand.tmp 154), type := 4, pos := "law.go:164", after := #[{ on := 29, ground := Ground.data }, { on := 28, ground := Ground.chain }, { on := 0, ground := Ground.phase }, { on := 1, ground := Ground.phase }, { on := 2, ground := Ground.phase }, { on := 3, ground := Ground.phase }, { on := 4, ground := Ground.phase }, { on := 5, ground := Ground.phase }, { on := 6, ground := Ground.phase }, { on := 7, ground := Ground.phase }, { on := 8, ground := Ground.phase }, { on := 9, ground := Ground.phase }, { on := 10, ground := Ground.phase }, { on := 11, ground := Ground.phase }, { on := 12, ground := Ground.phase }, { on := 13, ground := Ground.phase }, { on := 14, ground := Ground.phase }, { on := 15, ground := Ground.phase }, { on := 16, ground := Ground.phase }, { on := 17, ground := Ground.phase }, { on := 18, ground := Ground.phase }, { on := 19, ground := Ground.phase }, { on := 20, ground := Ground.phase }, { on := 21, ground := Ground.phase }, { on := 22, ground := Ground.phase }, { on := 23, ground := Ground.phase }, { on := 24, ground := Ground.phase }, { on := 25, ground := Ground.phase }, { on := 26, ground := Ground.phase }, { on := 27, ground := Ground.phase }, { on := 28, ground := Ground.phase }, { on := 29, ground := Ground.phase }], guard := none } : Oper)) (v := ?_) rfl (by kernel_rfl) (by kernel_rfl) (by kernel_rfl) (fun _ _ _ h => h) (Or.inl ⟨by rfl, ?_⟩) hHeld ?_; rotate_left; focus (intro w hSw; (try dsimp only at hSw); go_simp; try with_reducible rfl)))
          try simp only [Act.put, List.setIfInBounds_toArray, List.set_cons_zero, List.set_cons_succ]
          refine wpAnyH_done (by kernel_rfl) ?_ _
          refine NoPanic.normal ?_
          all_goals
            go_wp2_with fail
            go_ret
            exact ⟨rfl, BFh.out.trans (Bk.out.mono BFh.out.size)⟩
        · skip
          have d1 : (fld.toList == [100, 97, 121]) = false := by
            have h1 := str_ne.2 hD
            have h2 : bDay.toList = [100, 97, 121] := by decide +kernel
            rwa [h2] at h1
          clear hD HD
          refine wp_region_noPanic ?_
          refine wp_region_held_drew (S := (fun W => W.cell? ⟨wg.heap.size, 0, none⟩ = some (.string sc.resp) ∧ W.cell? ⟨wg.heap.size, 1, none⟩ = some (.int .i64 sc.dept) ∧ W.cell? ⟨wg.heap.size, 2, none⟩ = some (.int .i64 sc.day) ∧ W.cell? ⟨wg.heap.size, 3, none⟩ = some (.slice D3 sc.ans.length f3) ∧ W.cell? ⟨wg.heap.size, 4, none⟩ = some (.slice D4 sc.cond.length f4) ∧ W.cell? ⟨wg.heap.size, 5, none⟩ = some (.slice D5 sc.shows.length f5) ∧ W.cell? ⟨g6, 0, none⟩ = some (.string s.resp) ∧ W.cell? ⟨g6, 1, none⟩ = some (.int .i64 s.dept) ∧ W.cell? ⟨g6, 2, none⟩ = some (.int .i64 s.day) ∧ W.cell? ⟨g6, 3, none⟩ = some (.slice A3 s.ans.length c3) ∧ W.cell? ⟨g6, 4, none⟩ = some (.slice A4 s.cond.length c4) ∧ W.cell? ⟨g6, 5, none⟩ = some (.slice A5 s.shows.length c5) ∧ W.cell? ⟨g9, 0, none⟩ = some (.string sa.resp) ∧ W.cell? ⟨g10, 0, none⟩ = some (.string sb.resp) ∧ W.cell? ⟨g10, 2, none⟩ = some (.int .i64 sb.day))) (by kernel_rfl) ?_ (fun hHeld => ?_)
          case refine_1 => (refine blk4S K20.out K6h.out K9h.out K10h.out ?_; (repeat' first | with_reducible exact Bk.out | with_reducible exact Bj.out | with_reducible exact Bi.out | with_reducible exact Below.refl _ _ | with_reducible refine Below.drew ?_ | with_reducible exact Nat.le_refl _ | omega | (simp; done) | (simp; omega)))
          (first | refine wpAnyH_take (i := 0) (oi := ({ dst := some 125, op := Op.load 33 (Operand.tmp 20), type := 33, pos := "law.go:164", after := #[], guard := none } : Oper)) (v := undef) rfl (by kernel_rfl) (by kernel_rfl) (by kernel_rfl) (fun _ _ _ h => h) (Or.inr ⟨by rfl, rfl⟩) hHeld ?_ | (refine wpAnyH_take (i := 0) (oi := ({ dst := some 125, op := Op.load 33 (Operand.tmp 20), type := 33, pos := "law.go:164", after := #[], guard := none } : Oper)) (v := ?_) rfl (by kernel_rfl) (by kernel_rfl) (by kernel_rfl) (fun _ _ _ h => h) (Or.inl ⟨by rfl, ?_⟩) hHeld ?_; rotate_left; focus (intro w hSw; (try dsimp only at hSw); go_simp; try with_reducible rfl)))
          try simp only [Act.put, List.setIfInBounds_toArray, List.set_cons_zero, List.set_cons_succ]
          (first | refine wpAnyH_take (i := 1) (oi := ({ dst := some 126, op := Op.load 33 (Operand.tmp 6), type := 33, pos := "law.go:164", after := #[], guard := none } : Oper)) (v := undef) rfl (by kernel_rfl) (by kernel_rfl) (by kernel_rfl) (fun _ _ _ h => h) (Or.inr ⟨by rfl, rfl⟩) hHeld ?_ | (refine wpAnyH_take (i := 1) (oi := ({ dst := some 126, op := Op.load 33 (Operand.tmp 6), type := 33, pos := "law.go:164", after := #[], guard := none } : Oper)) (v := ?_) rfl (by kernel_rfl) (by kernel_rfl) (by kernel_rfl) (fun _ _ _ h => h) (Or.inl ⟨by rfl, ?_⟩) hHeld ?_; rotate_left; focus (intro w hSw; (try dsimp only at hSw); go_simp; try with_reducible rfl)))
          try simp only [Act.put, List.setIfInBounds_toArray, List.set_cons_zero, List.set_cons_succ]
          refine wpAnyH_ready (rs := [2]) (by kernel_rfl) (by simp) ?_
          refine AllReadyH.cons (o := ({ dst := some 127, op := Op.call { callee := Callee.value (Operand.func 17), args := #[Operand.tmp 126, Operand.const (Value.string { data := #[99, 111, 117, 110, 115, 101, 108, 108, 111, 114] })], argTypes := #[33, 9] }, type := 33, pos := "law.go:164", after := #[{ on := 1, ground := Ground.data }], guard := none } : Oper)) rfl (fun K hK => ?_) ?_
          case refine_2 => exact AllReadyH.nil
          go_simp
          go_at_call 17
          refine (visible_any (fun _ => True) _ s [.string s.resp, .int .i64 s.dept, .int .i64 s.day, .slice A3 s.ans.length c3, .slice A4 s.cond.length c4, .slice A5 s.shows.length c5] ⟨#[99, 111, 117, 110, 115, 101, 108, 108, 111, 114]⟩ (by refine Kd.below KSh.out ?_; (repeat' first | with_reducible exact Bk.out | with_reducible exact Bj.out | with_reducible exact Bi.out | with_reducible exact Below.refl _ _ | with_reducible refine Below.drew ?_ | with_reducible exact Nat.le_refl _ | omega | (simp; done) | (simp; omega))) (by omega)).mono ?_
          rintro e wi ⟨de, rfl, hK, hb⟩
          rw [HSC.out] at hK
          obtain ⟨E3, h3, E4, h4, E5, h5, hde, -, -, -, -, -, -⟩ := kStmt_open hK
          obtain rfl := arr_of hde
          clear hde
          have Bi : Hid (Below wh.heap.size wh wi) := below_then (by (repeat' first | with_reducible exact Bk.out | with_reducible exact Bj.out | with_reducible exact Bi.out | with_reducible exact Below.refl _ _ | with_reducible refine Below.drew ?_ | with_reducible exact Nat.le_refl _ | omega | (simp; done) | (simp; omega))) (by first | with_reducible exact Nat.le_refl _ | omega | (simp; done) | (simp; omega)) hb
          have KE := Lib.hid hK
          have zi := Bi.out.size
          clear hK hb
          (try go_wp2_with fail)
          refine hK.out _ _ ?_ (fun hHeld => ?_)
          case refine_1 => (refine blk4S K20.out K6h.out K9h.out K10h.out ?_; (repeat' first | with_reducible exact Bk.out | with_reducible exact Bj.out | with_reducible exact Bi.out | with_reducible exact Below.refl _ _ | with_reducible refine Below.drew ?_ | with_reducible exact Nat.le_refl _ | omega | (simp; done) | (simp; omega)))
          clear hK K
          try simp only [Act.put, List.setIfInBounds_toArray, List.set_cons_zero, List.set_cons_succ]
          refine wpAnyH_ready (rs := [3]) (by kernel_rfl) (by simp) ?_
          refine AllReadyH.cons (o := ({ dst := some 128, op := Op.call { callee := Callee.value (Operand.func 18), args := #[Operand.tmp 125, Operand.tmp 127], argTypes := #[33, 33] }, type := 4, pos := "law.go:164", after := #[{ on := 0, ground := Ground.data }, { on := 2, ground := Ground.data }, { on := 2, ground := Ground.chain }], guard := none } : Oper)) rfl (fun K hK => ?_) ?_
          case refine_2 => exact AllReadyH.nil
          go_simp
          go_at_call 18
          refine (sameStmt_any (fun _ => True) _ sc sc [.string sc.resp, .int .i64 sc.dept, .int .i64 sc.day, .slice D3 sc.ans.length f3, .slice D4 sc.cond.length f4, .slice D5 sc.shows.length f5] [.string sc.resp, .int .i64 sc.dept, .int .i64 sc.day, .slice E3 sc.ans.length h3, .slice E4 sc.cond.length h4, .slice E5 sc.shows.length h5] (by exact kStmt.mono (fun _ _ _ => trivial) (Kd.below KC1.out (by (repeat' first | with_reducible exact Bk.out | with_reducible exact Bj.out | with_reducible exact Bi.out | with_reducible exact Below.refl _ _ | with_reducible refine Below.drew ?_ | with_reducible exact Nat.le_refl _ | omega | (simp; done) | (simp; omega))))) (by exact kStmt.mono (fun _ _ _ => trivial) KE.out)).mono ?_
          rintro e wj ⟨r, rfl, hr, hb⟩
          obtain rfl : r = true := hr.2 rfl
          have Bj : Hid (Below wh.heap.size wh wj) := below_then Bi.out zi hb
          have zj := Bj.out.size
          clear hr hb
          (try go_wp2_with fail)
          refine hK.out _ _ ?_ (fun hHeld => ?_)
          case refine_1 => (refine blk4S K20.out K6h.out K9h.out K10h.out ?_; (repeat' first | with_reducible exact Bk.out | with_reducible exact Bj.out | with_reducible exact Bi.out | with_reducible exact Below.refl _ _ | with_reducible refine Below.drew ?_ | with_reducible exact Nat.le_refl _ | omega | (simp; done) | (simp; omega)))
          clear hK K
          try simp only [Act.put, List.setIfInBounds_toArray, List.set_cons_zero, List.set_cons_succ]
          (first | refine wpAnyH_take (i := 4) (oi := ({ dst := some 129, op := Op.move (Operand.tmp 128), type := 4, pos := "law.go:164", after := #[{ on := 3, ground := Ground.data }, { on := 3, ground := Ground.chain }], guard := none } : Oper)) (v := undef) rfl (by kernel_rfl) (by kernel_rfl) (by kernel_rfl) (fun _ _ _ h => h) (Or.inr ⟨by rfl, rfl⟩) hHeld ?_ | (refine wpAnyH_take (i := 4) (oi := ({ dst := some 129, op := Op.move (Operand.tmp 128), type := 4, pos := "law.go:164", after := #[{ on := 3, ground := Ground.data }, { on := 3, ground := Ground.chain }], guard := none } : Oper)) (v := ?_) rfl (by kernel_rfl) (by kernel_rfl) (by kernel_rfl) (fun _ _ _ h => h) (Or.inl ⟨by rfl, ?_⟩) hHeld ?_; rotate_left; focus (intro w hSw; (try dsimp only at hSw); go_simp; try with_reducible rfl)))
          try simp only [Act.put, List.setIfInBounds_toArray, List.set_cons_zero, List.set_cons_succ]
          (first | refine wpAnyH_take (i := 5) (oi := ({ dst := some 130, op := Op.fieldAddr 33 (Operand.tmp 9) 0, type := 0, pos := "law.go:164", after := #[{ on := 4, ground := Ground.guard }], guard := some (4, true) } : Oper)) (v := undef) rfl (by kernel_rfl) (by kernel_rfl) (by kernel_rfl) (fun _ _ _ h => h) (Or.inr ⟨by rfl, rfl⟩) hHeld ?_ | (refine wpAnyH_take (i := 5) (oi := ({ dst := some 130, op := Op.fieldAddr 33 (Operand.tmp 9) 0, type := 0, pos := "law.go:164", after := #[{ on := 4, ground := Ground.guard }], guard := some (4, true) } : Oper)) (v := ?_) rfl (by kernel_rfl) (by kernel_rfl) (by kernel_rfl) (fun _ _ _ h => h) (Or.inl ⟨by rfl, ?_⟩) hHeld ?_; rotate_left; focus (intro w hSw; (try dsimp only at hSw); go_simp; try with_reducible rfl)))
          try simp only [Act.put, List.setIfInBounds_toArray, List.set_cons_zero, List.set_cons_succ]
          (first | refine wpAnyH_take (i := 6) (oi := ({ dst := some 131, op := Op.load 9 (Operand.tmp 130), type := 9, pos := "law.go:164", after := #[{ on := 5, ground := Ground.data }, { on := 4, ground := Ground.guard }], guard := some (4, true) } : Oper)) (v := undef) rfl (by kernel_rfl) (by kernel_rfl) (by kernel_rfl) (fun _ _ _ h => h) (Or.inr ⟨by rfl, rfl⟩) hHeld ?_ | (refine wpAnyH_take (i := 6) (oi := ({ dst := some 131, op := Op.load 9 (Operand.tmp 130), type := 9, pos := "law.go:164", after := #[{ on := 5, ground := Ground.data }, { on := 4, ground := Ground.guard }], guard := some (4, true) } : Oper)) (v := ?_) rfl (by kernel_rfl) (by kernel_rfl) (by kernel_rfl) (fun _ _ _ h => h) (Or.inl ⟨by rfl, ?_⟩) hHeld ?_; rotate_left; focus (intro w hSw; (try dsimp only at hSw); go_simp; try with_reducible rfl)))
          try simp only [Act.put, List.setIfInBounds_toArray, List.set_cons_zero, List.set_cons_succ]
          (first | refine wpAnyH_take (i := 7) (oi := ({ dst := some 132, op := Op.binOp BinOp.eql 9 (Operand.tmp 131) (Operand.const (Value.string { data := #[] })) 9, type := 4, pos := "law.go:164", after := #[{ on := 6, ground := Ground.data }, { on := 4, ground := Ground.guard }], guard := some (4, true) } : Oper)) (v := undef) rfl (by kernel_rfl) (by kernel_rfl) (by kernel_rfl) (fun _ _ _ h => h) (Or.inr ⟨by rfl, rfl⟩) hHeld ?_ | (refine wpAnyH_take (i := 7) (oi := ({ dst := some 132, op := Op.binOp BinOp.eql 9 (Operand.tmp 131) (Operand.const (Value.string { data := #[] })) 9, type := 4, pos := "law.go:164", after := #[{ on := 6, ground := Ground.data }, { on := 4, ground := Ground.guard }], guard := some (4, true) } : Oper)) (v := ?_) rfl (by kernel_rfl) (by kernel_rfl) (by kernel_rfl) (fun _ _ _ h => h) (Or.inl ⟨by rfl, ?_⟩) hHeld ?_; rotate_left; focus (intro w hSw; (try dsimp only at hSw); go_simp; try with_reducible rfl)))
          try simp only [Act.put, List.setIfInBounds_toArray, List.set_cons_zero, List.set_cons_succ]
          (first | refine wpAnyH_take (i := 8) (oi := ({ dst := some 133, op := Op.move (Operand.tmp 132), type := 4, pos := "law.go:164", after := #[{ on := 7, ground := Ground.data }, { on := 4, ground := Ground.chain }, { on := 4, ground := Ground.guard }], guard := some (4, true) } : Oper)) (v := undef) rfl (by kernel_rfl) (by kernel_rfl) (by kernel_rfl) (fun _ _ _ h => h) (Or.inr ⟨by rfl, rfl⟩) hHeld ?_ | (refine wpAnyH_take (i := 8) (oi := ({ dst := some 133, op := Op.move (Operand.tmp 132), type := 4, pos := "law.go:164", after := #[{ on := 7, ground := Ground.data }, { on := 4, ground := Ground.chain }, { on := 4, ground := Ground.guard }], guard := some (4, true) } : Oper)) (v := ?_) rfl (by kernel_rfl) (by kernel_rfl) (by kernel_rfl) (fun _ _ _ h => h) (Or.inl ⟨by rfl, ?_⟩) hHeld ?_; rotate_left; focus (intro w hSw; (try dsimp only at hSw); go_simp; try with_reducible rfl)))
          try simp only [Act.put, List.setIfInBounds_toArray, List.set_cons_zero, List.set_cons_succ]
          (first | refine wpAnyH_take (i := 9) (oi := ({ dst := some 134, op := Op.fieldAddr 33 (Operand.tmp 10) 0, type := 0, pos := "law.go:164", after := #[{ on := 8, ground := Ground.guard }], guard := some (8, false) } : Oper)) (v := undef) rfl (by kernel_rfl) (by kernel_rfl) (by kernel_rfl) (fun _ _ _ h => h) (Or.inr ⟨by rfl, rfl⟩) hHeld ?_ | (refine wpAnyH_take (i := 9) (oi := ({ dst := some 134, op := Op.fieldAddr 33 (Operand.tmp 10) 0, type := 0, pos := "law.go:164", after := #[{ on := 8, ground := Ground.guard }], guard := some (8, false) } : Oper)) (v := ?_) rfl (by kernel_rfl) (by kernel_rfl) (by kernel_rfl) (fun _ _ _ h => h) (Or.inl ⟨by rfl, ?_⟩) hHeld ?_; rotate_left; focus (intro w hSw; (try dsimp only at hSw); go_simp; try with_reducible rfl)))
          try simp only [Act.put, List.setIfInBounds_toArray, List.set_cons_zero, List.set_cons_succ]
          (first | refine wpAnyH_take (i := 10) (oi := ({ dst := some 135, op := Op.load 9 (Operand.tmp 134), type := 9, pos := "law.go:164", after := #[{ on := 9, ground := Ground.data }, { on := 8, ground := Ground.guard }], guard := some (8, false) } : Oper)) (v := undef) rfl (by kernel_rfl) (by kernel_rfl) (by kernel_rfl) (fun _ _ _ h => h) (Or.inr ⟨by rfl, rfl⟩) hHeld ?_ | (refine wpAnyH_take (i := 10) (oi := ({ dst := some 135, op := Op.load 9 (Operand.tmp 134), type := 9, pos := "law.go:164", after := #[{ on := 9, ground := Ground.data }, { on := 8, ground := Ground.guard }], guard := some (8, false) } : Oper)) (v := ?_) rfl (by kernel_rfl) (by kernel_rfl) (by kernel_rfl) (fun _ _ _ h => h) (Or.inl ⟨by rfl, ?_⟩) hHeld ?_; rotate_left; focus (intro w hSw; (try dsimp only at hSw); go_simp; try with_reducible rfl)))
          try simp only [Act.put, List.setIfInBounds_toArray, List.set_cons_zero, List.set_cons_succ]
          (first | refine wpAnyH_take (i := 11) (oi := ({ dst := some 136, op := Op.fieldAddr 33 (Operand.tmp 9) 0, type := 0, pos := "law.go:164", after := #[{ on := 8, ground := Ground.guard }], guard := some (8, false) } : Oper)) (v := undef) rfl (by kernel_rfl) (by kernel_rfl) (by kernel_rfl) (fun _ _ _ h => h) (Or.inr ⟨by rfl, rfl⟩) hHeld ?_ | (refine wpAnyH_take (i := 11) (oi := ({ dst := some 136, op := Op.fieldAddr 33 (Operand.tmp 9) 0, type := 0, pos := "law.go:164", after := #[{ on := 8, ground := Ground.guard }], guard := some (8, false) } : Oper)) (v := ?_) rfl (by kernel_rfl) (by kernel_rfl) (by kernel_rfl) (fun _ _ _ h => h) (Or.inl ⟨by rfl, ?_⟩) hHeld ?_; rotate_left; focus (intro w hSw; (try dsimp only at hSw); go_simp; try with_reducible rfl)))
          try simp only [Act.put, List.setIfInBounds_toArray, List.set_cons_zero, List.set_cons_succ]
          (first | refine wpAnyH_take (i := 12) (oi := ({ dst := some 137, op := Op.load 9 (Operand.tmp 136), type := 9, pos := "law.go:164", after := #[{ on := 11, ground := Ground.data }, { on := 8, ground := Ground.guard }], guard := some (8, false) } : Oper)) (v := undef) rfl (by kernel_rfl) (by kernel_rfl) (by kernel_rfl) (fun _ _ _ h => h) (Or.inr ⟨by rfl, rfl⟩) hHeld ?_ | (refine wpAnyH_take (i := 12) (oi := ({ dst := some 137, op := Op.load 9 (Operand.tmp 136), type := 9, pos := "law.go:164", after := #[{ on := 11, ground := Ground.data }, { on := 8, ground := Ground.guard }], guard := some (8, false) } : Oper)) (v := ?_) rfl (by kernel_rfl) (by kernel_rfl) (by kernel_rfl) (fun _ _ _ h => h) (Or.inl ⟨by rfl, ?_⟩) hHeld ?_; rotate_left; focus (intro w hSw; (try dsimp only at hSw); go_simp; try with_reducible rfl)))
          try simp only [Act.put, List.setIfInBounds_toArray, List.set_cons_zero, List.set_cons_succ]
          (first | refine wpAnyH_take (i := 13) (oi := ({ dst := some 138, op := Op.binOp BinOp.eql 9 (Operand.tmp 135) (Operand.tmp 137) 9, type := 4, pos := "law.go:164", after := #[{ on := 10, ground := Ground.data }, { on := 12, ground := Ground.data }, { on := 8, ground := Ground.guard }], guard := some (8, false) } : Oper)) (v := undef) rfl (by kernel_rfl) (by kernel_rfl) (by kernel_rfl) (fun _ _ _ h => h) (Or.inr ⟨by rfl, rfl⟩) hHeld ?_ | (refine wpAnyH_take (i := 13) (oi := ({ dst := some 138, op := Op.binOp BinOp.eql 9 (Operand.tmp 135) (Operand.tmp 137) 9, type := 4, pos := "law.go:164", after := #[{ on := 10, ground := Ground.data }, { on := 12, ground := Ground.data }, { on := 8, ground := Ground.guard }], guard := some (8, false) } : Oper)) (v := ?_) rfl (by kernel_rfl) (by kernel_rfl) (by kernel_rfl) (fun _ _ _ h => h) (Or.inl ⟨by rfl, ?_⟩) hHeld ?_; rotate_left; focus (intro w hSw; (try dsimp only at hSw); go_simp; try with_reducible rfl)))
          try simp only [Act.put, List.setIfInBounds_toArray, List.set_cons_zero, List.set_cons_succ]
          (first | refine wpAnyH_take (i := 14) (oi := ({ dst := some 139, op := Op.pick (Operand.tmp 133) (Operand.const (Value.bool true)) (Operand.tmp 138), type := 4, pos := "law.go:164", after := #[{ on := 8, ground := Ground.data }, { on := 13, ground := Ground.data }, { on := 4, ground := Ground.guard }], guard := some (4, true) } : Oper)) (v := undef) rfl (by kernel_rfl) (by kernel_rfl) (by kernel_rfl) (fun _ _ _ h => h) (Or.inr ⟨by rfl, rfl⟩) hHeld ?_ | (refine wpAnyH_take (i := 14) (oi := ({ dst := some 139, op := Op.pick (Operand.tmp 133) (Operand.const (Value.bool true)) (Operand.tmp 138), type := 4, pos := "law.go:164", after := #[{ on := 8, ground := Ground.data }, { on := 13, ground := Ground.data }, { on := 4, ground := Ground.guard }], guard := some (4, true) } : Oper)) (v := ?_) rfl (by kernel_rfl) (by kernel_rfl) (by kernel_rfl) (fun _ _ _ h => h) (Or.inl ⟨by rfl, ?_⟩) hHeld ?_; rotate_left; focus (intro w hSw; (try dsimp only at hSw); go_simp; try with_reducible rfl)))
          try simp only [Act.put, List.setIfInBounds_toArray, List.set_cons_zero, List.set_cons_succ]
          (first | refine wpAnyH_take (i := 15) (oi := ({ dst := some 140, op := Op.pick (Operand.tmp 129) (Operand.tmp 139) (Operand.const (Value.bool false)), type := 4, pos := "law.go:164", after := #[{ on := 4, ground := Ground.data }, { on := 14, ground := Ground.data }], guard := none } : Oper)) (v := undef) rfl (by kernel_rfl) (by kernel_rfl) (by kernel_rfl) (fun _ _ _ h => h) (Or.inr ⟨by rfl, rfl⟩) hHeld ?_ | (refine wpAnyH_take (i := 15) (oi := ({ dst := some 140, op := Op.pick (Operand.tmp 129) (Operand.tmp 139) (Operand.const (Value.bool false)), type := 4, pos := "law.go:164", after := #[{ on := 4, ground := Ground.data }, { on := 14, ground := Ground.data }], guard := none } : Oper)) (v := ?_) rfl (by kernel_rfl) (by kernel_rfl) (by kernel_rfl) (fun _ _ _ h => h) (Or.inl ⟨by rfl, ?_⟩) hHeld ?_; rotate_left; focus (intro w hSw; (try dsimp only at hSw); go_simp; try with_reducible rfl)))
          try simp only [Act.put, List.setIfInBounds_toArray, List.set_cons_zero, List.set_cons_succ]
          (first | refine wpAnyH_take (i := 16) (oi := ({ dst := some 141, op := Op.move (Operand.tmp 140), type := 4, pos := "law.go:164", after := #[{ on := 15, ground := Ground.data }, { on := 8, ground := Ground.chain }], guard := none } : Oper)) (v := undef) rfl (by kernel_rfl) (by kernel_rfl) (by kernel_rfl) (fun _ _ _ h => h) (Or.inr ⟨by rfl, rfl⟩) hHeld ?_ | (refine wpAnyH_take (i := 16) (oi := ({ dst := some 141, op := Op.move (Operand.tmp 140), type := 4, pos := "law.go:164", after := #[{ on := 15, ground := Ground.data }, { on := 8, ground := Ground.chain }], guard := none } : Oper)) (v := ?_) rfl (by kernel_rfl) (by kernel_rfl) (by kernel_rfl) (fun _ _ _ h => h) (Or.inl ⟨by rfl, ?_⟩) hHeld ?_; rotate_left; focus (intro w hSw; (try dsimp only at hSw); go_simp; try with_reducible rfl)))
          try simp only [Act.put, List.setIfInBounds_toArray, List.set_cons_zero, List.set_cons_succ]
          (first | refine wpAnyH_take (i := 17) (oi := ({ dst := some 142, op := Op.move (Operand.tmp 8), type := 9, pos := "law.go:164", after := #[{ on := 16, ground := Ground.guard }], guard := some (16, true) } : Oper)) (v := undef) rfl (by kernel_rfl) (by kernel_rfl) (by kernel_rfl) (fun _ _ _ h => h) (Or.inr ⟨by rfl, rfl⟩) hHeld ?_ | (refine wpAnyH_take (i := 17) (oi := ({ dst := some 142, op := Op.move (Operand.tmp 8), type := 9, pos := "law.go:164", after := #[{ on := 16, ground := Ground.guard }], guard := some (16, true) } : Oper)) (v := ?_) rfl (by kernel_rfl) (by kernel_rfl) (by kernel_rfl) (fun _ _ _ h => h) (Or.inl ⟨by rfl, ?_⟩) hHeld ?_; rotate_left; focus (intro w hSw; (try dsimp only at hSw); go_simp; try with_reducible rfl)))
          try simp only [Act.put, List.setIfInBounds_toArray, List.set_cons_zero, List.set_cons_succ]
          (first | refine wpAnyH_take (i := 18) (oi := ({ dst := some 143, op := Op.binOp BinOp.neq 9 (Operand.tmp 142) (Operand.const (Value.string { data := #[100, 97, 121] })) 9, type := 4, pos := "law.go:164", after := #[{ on := 17, ground := Ground.data }, { on := 16, ground := Ground.guard }], guard := some (16, true) } : Oper)) (v := undef) rfl (by kernel_rfl) (by kernel_rfl) (by kernel_rfl) (fun _ _ _ h => h) (Or.inr ⟨by rfl, rfl⟩) hHeld ?_ | (refine wpAnyH_take (i := 18) (oi := ({ dst := some 143, op := Op.binOp BinOp.neq 9 (Operand.tmp 142) (Operand.const (Value.string { data := #[100, 97, 121] })) 9, type := 4, pos := "law.go:164", after := #[{ on := 17, ground := Ground.data }, { on := 16, ground := Ground.guard }], guard := some (16, true) } : Oper)) (v := ?_) rfl (by kernel_rfl) (by kernel_rfl) (by kernel_rfl) (fun _ _ _ h => h) (Or.inl ⟨by rfl, ?_⟩) hHeld ?_; rotate_left; focus (intro w hSw; (try dsimp only at hSw); go_simp; try with_reducible rfl)))
          try simp only [Act.put, List.setIfInBounds_toArray, List.set_cons_zero, List.set_cons_succ]
          (first | refine wpAnyH_take (i := 19) (oi := ({ dst := some 144, op := Op.move (Operand.tmp 143), type := 4, pos := "law.go:164", after := #[{ on := 18, ground := Ground.data }, { on := 16, ground := Ground.chain }, { on := 16, ground := Ground.guard }], guard := some (16, true) } : Oper)) (v := undef) rfl (by kernel_rfl) (by kernel_rfl) (by kernel_rfl) (fun _ _ _ h => h) (Or.inr ⟨by rfl, rfl⟩) hHeld ?_ | (refine wpAnyH_take (i := 19) (oi := ({ dst := some 144, op := Op.move (Operand.tmp 143), type := 4, pos := "law.go:164", after := #[{ on := 18, ground := Ground.data }, { on := 16, ground := Ground.chain }, { on := 16, ground := Ground.guard }], guard := some (16, true) } : Oper)) (v := ?_) rfl (by kernel_rfl) (by kernel_rfl) (by kernel_rfl) (fun _ _ _ h => h) (Or.inl ⟨by rfl, ?_⟩) hHeld ?_; rotate_left; focus (intro w hSw; (try dsimp only at hSw); go_simp; try with_reducible rfl)))
          try simp only [Act.put, List.setIfInBounds_toArray, List.set_cons_zero, List.set_cons_succ]
          (first | refine wpAnyH_take (i := 20) (oi := ({ dst := some 145, op := Op.fieldAddr 33 (Operand.tmp 10) 2, type := 0, pos := "law.go:164", after := #[{ on := 19, ground := Ground.guard }], guard := some (19, false) } : Oper)) (v := undef) rfl (by kernel_rfl) (by kernel_rfl) (by kernel_rfl) (fun _ _ _ h => h) (Or.inr ⟨by rfl, rfl⟩) hHeld ?_ | (refine wpAnyH_take (i := 20) (oi := ({ dst := some 145, op := Op.fieldAddr 33 (Operand.tmp 10) 2, type := 0, pos := "law.go:164", after := #[{ on := 19, ground := Ground.guard }], guard := some (19, false) } : Oper)) (v := ?_) rfl (by kernel_rfl) (by kernel_rfl) (by kernel_rfl) (fun _ _ _ h => h) (Or.inl ⟨by rfl, ?_⟩) hHeld ?_; rotate_left; focus (intro w hSw; (try dsimp only at hSw); go_simp; try with_reducible rfl)))
          try simp only [Act.put, List.setIfInBounds_toArray, List.set_cons_zero, List.set_cons_succ]
          (first | refine wpAnyH_take (i := 21) (oi := ({ dst := some 146, op := Op.load 3 (Operand.tmp 145), type := 3, pos := "law.go:164", after := #[{ on := 20, ground := Ground.data }, { on := 19, ground := Ground.guard }], guard := some (19, false) } : Oper)) (v := undef) rfl (by kernel_rfl) (by kernel_rfl) (by kernel_rfl) (fun _ _ _ h => h) (Or.inr ⟨by rfl, rfl⟩) hHeld ?_ | (refine wpAnyH_take (i := 21) (oi := ({ dst := some 146, op := Op.load 3 (Operand.tmp 145), type := 3, pos := "law.go:164", after := #[{ on := 20, ground := Ground.data }, { on := 19, ground := Ground.guard }], guard := some (19, false) } : Oper)) (v := ?_) rfl (by kernel_rfl) (by kernel_rfl) (by kernel_rfl) (fun _ _ _ h => h) (Or.inl ⟨by rfl, ?_⟩) hHeld ?_; rotate_left; focus (intro w hSw; (try dsimp only at hSw); go_simp; try with_reducible rfl)))
          try simp only [Act.put, List.setIfInBounds_toArray, List.set_cons_zero, List.set_cons_succ]
          (first | refine wpAnyH_take (i := 22) (oi := ({ dst := some 147, op := Op.fieldAddr 33 (Operand.tmp 6) 2, type := 0, pos := "law.go:164", after := #[{ on := 19, ground := Ground.guard }], guard := some (19, false) } : Oper)) (v := undef) rfl (by kernel_rfl) (by kernel_rfl) (by kernel_rfl) (fun _ _ _ h => h) (Or.inr ⟨by rfl, rfl⟩) hHeld ?_ | (refine wpAnyH_take (i := 22) (oi := ({ dst := some 147, op := Op.fieldAddr 33 (Operand.tmp 6) 2, type := 0, pos := "law.go:164", after := #[{ on := 19, ground := Ground.guard }], guard := some (19, false) } : Oper)) (v := ?_) rfl (by kernel_rfl) (by kernel_rfl) (by kernel_rfl) (fun _ _ _ h => h) (Or.inl ⟨by rfl, ?_⟩) hHeld ?_; rotate_left; focus (intro w hSw; (try dsimp only at hSw); go_simp; try with_reducible rfl)))
          try simp only [Act.put, List.setIfInBounds_toArray, List.set_cons_zero, List.set_cons_succ]
          (first | refine wpAnyH_take (i := 23) (oi := ({ dst := some 148, op := Op.load 3 (Operand.tmp 147), type := 3, pos := "law.go:164", after := #[{ on := 22, ground := Ground.data }, { on := 19, ground := Ground.guard }], guard := some (19, false) } : Oper)) (v := undef) rfl (by kernel_rfl) (by kernel_rfl) (by kernel_rfl) (fun _ _ _ h => h) (Or.inr ⟨by rfl, rfl⟩) hHeld ?_ | (refine wpAnyH_take (i := 23) (oi := ({ dst := some 148, op := Op.load 3 (Operand.tmp 147), type := 3, pos := "law.go:164", after := #[{ on := 22, ground := Ground.data }, { on := 19, ground := Ground.guard }], guard := some (19, false) } : Oper)) (v := ?_) rfl (by kernel_rfl) (by kernel_rfl) (by kernel_rfl) (fun _ _ _ h => h) (Or.inl ⟨by rfl, ?_⟩) hHeld ?_; rotate_left; focus (intro w hSw; (try dsimp only at hSw); go_simp; try with_reducible rfl)))
          try simp only [Act.put, List.setIfInBounds_toArray, List.set_cons_zero, List.set_cons_succ]
          (first | refine wpAnyH_take (i := 24) (oi := ({ dst := some 149, op := Op.binOp BinOp.eql 3 (Operand.tmp 146) (Operand.tmp 148) 3, type := 4, pos := "law.go:164", after := #[{ on := 21, ground := Ground.data }, { on := 23, ground := Ground.data }, { on := 19, ground := Ground.guard }], guard := some (19, false) } : Oper)) (v := undef) rfl (by kernel_rfl) (by kernel_rfl) (by kernel_rfl) (fun _ _ _ h => h) (Or.inr ⟨by rfl, rfl⟩) hHeld ?_ | (refine wpAnyH_take (i := 24) (oi := ({ dst := some 149, op := Op.binOp BinOp.eql 3 (Operand.tmp 146) (Operand.tmp 148) 3, type := 4, pos := "law.go:164", after := #[{ on := 21, ground := Ground.data }, { on := 23, ground := Ground.data }, { on := 19, ground := Ground.guard }], guard := some (19, false) } : Oper)) (v := ?_) rfl (by kernel_rfl) (by kernel_rfl) (by kernel_rfl) (fun _ _ _ h => h) (Or.inl ⟨by rfl, ?_⟩) hHeld ?_; rotate_left; focus (intro w hSw; (try dsimp only at hSw); go_simp; try with_reducible rfl)))
          try simp only [Act.put, List.setIfInBounds_toArray, List.set_cons_zero, List.set_cons_succ]
          (first | refine wpAnyH_take (i := 25) (oi := ({ dst := some 150, op := Op.pick (Operand.tmp 144) (Operand.const (Value.bool true)) (Operand.tmp 149), type := 4, pos := "law.go:164", after := #[{ on := 19, ground := Ground.data }, { on := 24, ground := Ground.data }, { on := 16, ground := Ground.guard }], guard := some (16, true) } : Oper)) (v := undef) rfl (by kernel_rfl) (by kernel_rfl) (by kernel_rfl) (fun _ _ _ h => h) (Or.inr ⟨by rfl, rfl⟩) hHeld ?_ | (refine wpAnyH_take (i := 25) (oi := ({ dst := some 150, op := Op.pick (Operand.tmp 144) (Operand.const (Value.bool true)) (Operand.tmp 149), type := 4, pos := "law.go:164", after := #[{ on := 19, ground := Ground.data }, { on := 24, ground := Ground.data }, { on := 16, ground := Ground.guard }], guard := some (16, true) } : Oper)) (v := ?_) rfl (by kernel_rfl) (by kernel_rfl) (by kernel_rfl) (fun _ _ _ h => h) (Or.inl ⟨by rfl, ?_⟩) hHeld ?_; rotate_left; focus (intro w hSw; (try dsimp only at hSw); go_simp; try with_reducible rfl)))
          try simp only [Act.put, List.setIfInBounds_toArray, List.set_cons_zero, List.set_cons_succ]
          (first | refine wpAnyH_take (i := 26) (oi := ({ dst := some 151, op := Op.pick (Operand.tmp 141) (Operand.tmp 150) (Operand.const (Value.bool false)), type := 4, pos := "law.go:164", after := #[{ on := 16, ground := Ground.data }, { on := 25, ground := Ground.data }], guard := none } : Oper)) (v := undef) rfl (by kernel_rfl) (by kernel_rfl) (by kernel_rfl) (fun _ _ _ h => h) (Or.inr ⟨by rfl, rfl⟩) hHeld ?_ | (refine wpAnyH_take (i := 26) (oi := ({ dst := some 151, op := Op.pick (Operand.tmp 141) (Operand.tmp 150) (Operand.const (Value.bool false)), type := 4, pos := "law.go:164", after := #[{ on := 16, ground := Ground.data }, { on := 25, ground := Ground.data }], guard := none } : Oper)) (v := ?_) rfl (by kernel_rfl) (by kernel_rfl) (by kernel_rfl) (fun _ _ _ h => h) (Or.inl ⟨by rfl, ?_⟩) hHeld ?_; rotate_left; focus (intro w hSw; (try dsimp only at hSw); go_simp; try with_reducible rfl)))
          try simp only [Act.put, List.setIfInBounds_toArray, List.set_cons_zero, List.set_cons_succ]
          (first | refine wpAnyH_take (i := 27) (oi := ({ dst := some 152, op := Op.move (Operand.tmp 151), type := 4, pos := "law.go:164", after := #[{ on := 26, ground := Ground.data }, { on := 19, ground := Ground.chain }], guard := none } : Oper)) (v := undef) rfl (by kernel_rfl) (by kernel_rfl) (by kernel_rfl) (fun _ _ _ h => h) (Or.inr ⟨by rfl, rfl⟩) hHeld ?_ | (refine wpAnyH_take (i := 27) (oi := ({ dst := some 152, op := Op.move (Operand.tmp 151), type := 4, pos := "law.go:164", after := #[{ on := 26, ground := Ground.data }, { on := 19, ground := Ground.chain }], guard := none } : Oper)) (v := ?_) rfl (by kernel_rfl) (by kernel_rfl) (by kernel_rfl) (fun _ _ _ h => h) (Or.inl ⟨by rfl, ?_⟩) hHeld ?_; rotate_left; focus (intro w hSw; (try dsimp only at hSw); go_simp; try with_reducible rfl)))
          try simp only [Act.put, List.setIfInBounds_toArray, List.set_cons_zero, List.set_cons_succ]
          refine wpAnyH_ready (rs := [28]) (by kernel_rfl) (by simp) ?_
          refine AllReadyH.cons (o := ({ dst := some 153, op := Op.call { callee := Callee.value (Operand.func 10), args := #[], argTypes := #[] }, type := 4, pos := "law.go:164", after := #[{ on := 27, ground := Ground.chain }, { on := 27, ground := Ground.guard }], guard := some (27, true) } : Oper)) rfl (fun K hK => ?_) ?_
          case refine_2 => exact AllReadyH.nil
          go_simp
          go_at_call 10
          refine (awake_any _).mono ?_
          rintro e wk ⟨rfl, hb⟩
          have Bk : Hid (Below wh.heap.size wh wk) := below_then (by (repeat' first | with_reducible exact Bk.out | with_reducible exact Bj.out | with_reducible exact Bi.out | with_reducible exact Below.refl _ _ | with_reducible refine Below.drew ?_ | with_reducible exact Nat.le_refl _ | omega | (simp; done) | (simp; omega))) (by first | with_reducible exact Nat.le_refl _ | omega | (simp; done) | (simp; omega)) hb
          clear hb
          (try go_wp2_with fail)
          refine hK.out _ _ ?_ (fun hHeld => ?_)
          case refine_1 => (refine blk4S K20.out K6h.out K9h.out K10h.out ?_; (repeat' first | with_reducible exact Bk.out | with_reducible exact Bj.out | with_reducible exact Bi.out | with_reducible exact Below.refl _ _ | with_reducible refine Below.drew ?_ | with_reducible exact Nat.le_refl _ | omega | (simp; done) | (simp; omega)))
          clear hK K
          try simp only [Act.put, List.setIfInBounds_toArray, List.set_cons_zero, List.set_cons_succ]
          (first | refine wpAnyH_take (i := 29) (oi := ({ dst := some 154, op := Op.pick (Operand.tmp 152) (Operand.tmp 153) (Operand.const (Value.bool false)), type := 4, pos := "law.go:164", after := #[{ on := 27, ground := Ground.data }, { on := 28, ground := Ground.data }], guard := none } : Oper)) (v := undef) rfl (by kernel_rfl) (by kernel_rfl) (by kernel_rfl) (fun _ _ _ h => h) (Or.inr ⟨by rfl, rfl⟩) hHeld ?_ | (refine wpAnyH_take (i := 29) (oi := ({ dst := some 154, op := Op.pick (Operand.tmp 152) (Operand.tmp 153) (Operand.const (Value.bool false)), type := 4, pos := "law.go:164", after := #[{ on := 27, ground := Ground.data }, { on := 28, ground := Ground.data }], guard := none } : Oper)) (v := ?_) rfl (by kernel_rfl) (by kernel_rfl) (by kernel_rfl) (fun _ _ _ h => h) (Or.inl ⟨by rfl, ?_⟩) hHeld ?_; rotate_left; focus (intro w hSw; (try dsimp only at hSw); go_simp; try with_reducible rfl)))
          try simp only [Act.put, List.setIfInBounds_toArray, List.set_cons_zero, List.set_cons_succ]
          (first | refine wpAnyH_take (i := 30) (oi := ({ dst := some 4, op := Op.assign (Operand.tmp 154), type := 4, pos := "law.go:164", after := #[{ on := 29, ground := Ground.data }, { on := 28, ground := Ground.chain }, { on := 0, ground := Ground.phase }, { on := 1, ground := Ground.phase }, { on := 2, ground := Ground.phase }, { on := 3, ground := Ground.phase }, { on := 4, ground := Ground.phase }, { on := 5, ground := Ground.phase }, { on := 6, ground := Ground.phase }, { on := 7, ground := Ground.phase }, { on := 8, ground := Ground.phase }, { on := 9, ground := Ground.phase }, { on := 10, ground := Ground.phase }, { on := 11, ground := Ground.phase }, { on := 12, ground := Ground.phase }, { on := 13, ground := Ground.phase }, { on := 14, ground := Ground.phase }, { on := 15, ground := Ground.phase }, { on := 16, ground := Ground.phase }, { on := 17, ground := Ground.phase }, { on := 18, ground := Ground.phase }, { on := 19, ground := Ground.phase }, { on := 20, ground := Ground.phase }, { on := 21, ground := Ground.phase }, { on := 22, ground := Ground.phase }, { on := 23, ground := Ground.phase }, { on := 24, ground := Ground.phase }, { on := 25, ground := Ground.phase }, { on := 26, ground := Ground.phase }, { on := 27, ground := Ground.phase }, { on := 28, ground := Ground.phase }, { on := 29, ground := Ground.phase }], guard := none } : Oper)) (v := undef) rfl (by kernel_rfl) (by kernel_rfl) (by kernel_rfl) (fun _ _ _ h => h) (Or.inr ⟨by rfl, rfl⟩) hHeld ?_ | (refine wpAnyH_take (i := 30) (oi := ({ dst := some 4, op := Op.assign (Operand.tmp 154), type := 4, pos := "law.go:164", after := #[{ on := 29, ground := Ground.data }, { on := 28, ground := Ground.chain }, { on := 0, ground := Ground.phase }, { on := 1, ground := Ground.phase }, { on := 2, ground := Ground.phase }, { on := 3, ground := Ground.phase }, { on := 4, ground := Ground.phase }, { on := 5, ground := Ground.phase }, { on := 6, ground := Ground.phase }, { on := 7, ground := Ground.phase }, { on := 8, ground := Ground.phase }, { on := 9, ground := Ground.phase }, { on := 10, ground := Ground.phase }, { on := 11, ground := Ground.phase }, { on := 12, ground := Ground.phase }, { on := 13, ground := Ground.phase }, { on := 14, ground := Ground.phase }, { on := 15, ground := Ground.phase }, { on := 16, ground := Ground.phase }, { on := 17, ground := Ground.phase }, { on := 18, ground := Ground.phase }, { on := 19, ground := Ground.phase }, { on := 20, ground := Ground.phase }, { on := 21, ground := Ground.phase }, { on := 22, ground := Ground.phase }, { on := 23, ground := Ground.phase }, { on := 24, ground := Ground.phase }, { on := 25, ground := Ground.phase }, { on := 26, ground := Ground.phase }, { on := 27, ground := Ground.phase }, { on := 28, ground := Ground.phase }, { on := 29, ground := Ground.phase }], guard := none } : Oper)) (v := ?_) rfl (by kernel_rfl) (by kernel_rfl) (by kernel_rfl) (fun _ _ _ h => h) (Or.inl ⟨by rfl, ?_⟩) hHeld ?_; rotate_left; focus (intro w hSw; (try dsimp only at hSw); go_simp; try with_reducible rfl)))
          try simp only [Act.put, List.setIfInBounds_toArray, List.set_cons_zero, List.set_cons_succ]
          refine wpAnyH_done (by kernel_rfl) ?_ _
          refine NoPanic.normal ?_
          all_goals
            go_wp2_with fail
            go_ret
            exact ⟨rfl, BFh.out.trans (Bk.out.mono BFh.out.size)⟩
end Go.Proofs.YtmeipcnicfaojaaGreatDoor
