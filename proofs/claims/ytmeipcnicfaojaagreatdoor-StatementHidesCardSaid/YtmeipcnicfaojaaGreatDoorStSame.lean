/- The program's comparison of statements: the walks. -/
import Derived.Test.YtmeipcnicfaojaaGreatDoorSame
namespace Go.Proofs.YtmeipcnicfaojaaGreatDoor
open Go.RowKit


set_option maxHeartbeats 400000 in
theorem equal_int (ok : Nat → Prop) (w : World) (A B : Option Addr) (c d : Nat) (xs ys : List Int) (h : (Kd.int .i64).C ok w A xs.length xs) (g : (Kd.int .i64).C ok w B ys.length ys) :
    Calls Tryz.prog 49 #[.slice A xs.length c, .slice B ys.length d] w fun e w' =>
      ∃ r : Bool, e = .returned (.bool r) ∧ (r = true ↔ xs = ys) ∧ Below w.heap.size w w' := by
  have hlen := h.2.1
  have hlen' := g.2.1
  have H := Lib.hid h; have G := Lib.hid g; clear h g
  by_cases hl : xs.length = ys.length
  · have hb0 : ((xs.length : Int) != (ys.length : Int)) = false := by rw [hl]; simp
    have HL := Lib.hid hl; clear hl
    go_enter Tryz.func49, Tryz.ntmps49
    go_wp2_with fail
    go_loopw [13] (fun v13 wr => ∃ k : Nat, k ≤ xs.length ∧ v13 = .int .i64 k ∧ Hid (∀ j, j < k → xs.getD j (0 : Int) = ys.getD j (0 : Int)) ∧ Hid (Below w.heap.size w wr)) (fun v13 _ => xs.length - (intOf v13).toNat)
    case atStart => exact ⟨0, Nat.zero_le _, rfl, fun j hj => absurd hj (by omega), Below.refl _ _⟩
    case round =>
      obtain ⟨k, hk, rfl, hno, HB⟩ := hrel
      by_cases hlt : k < xs.length
      · have hlt' : k < ys.length := by rw [← HL.out]; exact hlt
        obtain ⟨ad, rfl, _, c0⟩ := at_int H.out k hlt
        obtain ⟨ae, rfl, _, e0⟩ := at_int G.out k hlt'
        generalize hx : xs.getD k (0 : Int) = x at c0
        generalize hy : ys.getD k (0 : Int) = y at e0
        have Hx := Lib.hid hx; have Hy := Lib.hid hy; clear hx hy
        replace c0 := cell_keep c0 HB.out
        replace e0 := cell_keep e0 HB.out
        go_wp2_with fail
        go_quiet (fail)
        go_wp2
        · go_ret
          refine ⟨false, rfl, ?_, below_drewN HB.out _⟩
          exact ⟨fun h => (by cases h), fun h => absurd h (ne_at (0 : Int) k Hx.out Hy.out (by intro hh; simp_all))⟩
        · go_roundw
          case rel =>
            refine ⟨k + 1, by omega, by go_num, fun j hj => ?_, below_drewN HB.out _⟩
            rcases Nat.lt_or_ge j k with h1 | h1
            · exact hno.out j h1
            · obtain rfl : j = k := by omega
              rw [Hx.out, Hy.out]
              exact by simp_all
          case measure => simp [intOf]; omega
      · go_wp2
        go_ret
        exact ⟨true, rfl, ⟨fun _ => eq_of_getD (0 : Int) HL.out (fun j hj => hno.out j (by omega)), fun _ => rfl⟩, HB.out⟩
  · have hb0 : ((xs.length : Int) != (ys.length : Int)) = true := by rw [bne_iff_ne]; omega
    have HL := Lib.hid hl; clear hl
    go_enter Tryz.func49, Tryz.ntmps49
    go_wp2
    go_ret
    exact ⟨false, rfl, ⟨fun h => (by cases h), fun h => absurd (by rw [h]) HL.out⟩, Below.refl _ _⟩

set_option maxHeartbeats 400000 in
theorem equal_Answer (ok : Nat → Prop) (w : World) (A B : Option Addr) (c d : Nat) (xs ys : List Answer) (h : kAnswer.C ok w A xs.length xs) (g : kAnswer.C ok w B ys.length ys) :
    Calls Tryz.prog 50 #[.slice A xs.length c, .slice B ys.length d] w fun e w' =>
      ∃ r : Bool, e = .returned (.bool r) ∧ (r = true ↔ xs = ys) ∧ Below w.heap.size w w' := by
  have he := fun d w x0 y0 x1 y1 x2 y2 => eqAnswer d w x0 y0 x1 y1 x2 y2
  have hlen := h.2.1
  have hlen' := g.2.1
  have H := Lib.hid h; have G := Lib.hid g; clear h g
  by_cases hl : xs.length = ys.length
  · have hb0 : ((xs.length : Int) != (ys.length : Int)) = false := by rw [hl]; simp
    have HL := Lib.hid hl; clear hl
    go_enter Tryz.func50, Tryz.ntmps50
    go_wp2_with fail
    go_loopw [13] (fun v13 wr => ∃ k : Nat, k ≤ xs.length ∧ v13 = .int .i64 k ∧ Hid (∀ j, j < k → xs.getD j zAnswer = ys.getD j zAnswer) ∧ Hid (Below w.heap.size w wr)) (fun v13 _ => xs.length - (intOf v13).toNat)
    case atStart => exact ⟨0, Nat.zero_le _, rfl, fun j hj => absurd hj (by omega), Below.refl _ _⟩
    case round =>
      obtain ⟨k, hk, rfl, hno, HB⟩ := hrel
      by_cases hlt : k < xs.length
      · have hlt' : k < ys.length := by rw [← HL.out]; exact hlt
        obtain ⟨ad, rfl, _, c0, c1, c2⟩ := at_Answer H.out k hlt
        obtain ⟨ae, rfl, _, e0, e1, e2⟩ := at_Answer G.out k hlt'
        generalize hx : xs.getD k zAnswer = x at c0 c1 c2
        generalize hy : ys.getD k zAnswer = y at e0 e1 e2
        have Hx := Lib.hid hx; have Hy := Lib.hid hy; clear hx hy
        replace c0 := cell_keep c0 HB.out
        replace c1 := cell_keep c1 HB.out
        replace c2 := cell_keep c2 HB.out
        replace e0 := cell_keep e0 HB.out
        replace e1 := cell_keep e1 HB.out
        replace e2 := cell_keep e2 HB.out
        go_wp2_with fail
        go_quiet (fail)
        go_wp2
        · go_ret
          refine ⟨false, rfl, ?_, below_drewN HB.out _⟩
          exact ⟨fun h => (by cases h), fun h => absurd h (ne_at zAnswer k Hx.out Hy.out (Ne.symm (Answer.nes (by assumption))))⟩
        · go_roundw
          case rel =>
            refine ⟨k + 1, by omega, by go_num, fun j hj => ?_, below_drewN HB.out _⟩
            rcases Nat.lt_or_ge j k with h1 | h1
            · exact hno.out j h1
            · obtain rfl : j = k := by omega
              rw [Hx.out, Hy.out]
              exact (Answer.eqs (by assumption)).symm
          case measure => simp [intOf]; omega
      · go_wp2
        go_ret
        exact ⟨true, rfl, ⟨fun _ => eq_of_getD zAnswer HL.out (fun j hj => hno.out j (by omega)), fun _ => rfl⟩, HB.out⟩
  · have hb0 : ((xs.length : Int) != (ys.length : Int)) = true := by rw [bne_iff_ne]; omega
    have HL := Lib.hid hl; clear hl
    go_enter Tryz.func50, Tryz.ntmps50
    go_wp2
    go_ret
    exact ⟨false, rfl, ⟨fun h => (by cases h), fun h => absurd (by rw [h]) HL.out⟩, Below.refl _ _⟩

set_option maxHeartbeats 400000 in
theorem equal_Show_ (ok : Nat → Prop) (w : World) (A B : Option Addr) (c d : Nat) (xs ys : List Show_) (h : kShow_.C ok w A xs.length xs) (g : kShow_.C ok w B ys.length ys) :
    Calls Tryz.prog 52 #[.slice A xs.length c, .slice B ys.length d] w fun e w' =>
      ∃ r : Bool, e = .returned (.bool r) ∧ (r = true ↔ xs = ys) ∧ Below w.heap.size w w' := by
  have he := fun d w x0 y0 x1 y1 => eqShow' d w x0 y0 x1 y1
  have hlen := h.2.1
  have hlen' := g.2.1
  have H := Lib.hid h; have G := Lib.hid g; clear h g
  by_cases hl : xs.length = ys.length
  · have hb0 : ((xs.length : Int) != (ys.length : Int)) = false := by rw [hl]; simp
    have HL := Lib.hid hl; clear hl
    go_enter Tryz.func52, Tryz.ntmps52
    go_wp2_with fail
    go_loopw [13] (fun v13 wr => ∃ k : Nat, k ≤ xs.length ∧ v13 = .int .i64 k ∧ Hid (∀ j, j < k → xs.getD j zShow_ = ys.getD j zShow_) ∧ Hid (Below w.heap.size w wr)) (fun v13 _ => xs.length - (intOf v13).toNat)
    case atStart => exact ⟨0, Nat.zero_le _, rfl, fun j hj => absurd hj (by omega), Below.refl _ _⟩
    case round =>
      obtain ⟨k, hk, rfl, hno, HB⟩ := hrel
      by_cases hlt : k < xs.length
      · have hlt' : k < ys.length := by rw [← HL.out]; exact hlt
        obtain ⟨ad, rfl, _, c0, c1⟩ := at_Show_ H.out k hlt
        obtain ⟨ae, rfl, _, e0, e1⟩ := at_Show_ G.out k hlt'
        generalize hx : xs.getD k zShow_ = x at c0 c1
        generalize hy : ys.getD k zShow_ = y at e0 e1
        have Hx := Lib.hid hx; have Hy := Lib.hid hy; clear hx hy
        replace c0 := cell_keep c0 HB.out
        replace c1 := cell_keep c1 HB.out
        replace e0 := cell_keep e0 HB.out
        replace e1 := cell_keep e1 HB.out
        go_wp2_with fail
        go_quiet (fail)
        go_wp2
        · go_ret
          refine ⟨false, rfl, ?_, below_drewN HB.out _⟩
          exact ⟨fun h => (by cases h), fun h => absurd h (ne_at zShow_ k Hx.out Hy.out (Ne.symm (Show_.nes (by assumption))))⟩
        · go_roundw
          case rel =>
            refine ⟨k + 1, by omega, by go_num, fun j hj => ?_, below_drewN HB.out _⟩
            rcases Nat.lt_or_ge j k with h1 | h1
            · exact hno.out j h1
            · obtain rfl : j = k := by omega
              rw [Hx.out, Hy.out]
              exact (Show_.eqs (by assumption)).symm
          case measure => simp [intOf]; omega
      · go_wp2
        go_ret
        exact ⟨true, rfl, ⟨fun _ => eq_of_getD zShow_ HL.out (fun j hj => hno.out j (by omega)), fun _ => rfl⟩, HB.out⟩
  · have hb0 : ((xs.length : Int) != (ys.length : Int)) = true := by rw [bne_iff_ne]; omega
    have HL := Lib.hid hl; clear hl
    go_enter Tryz.func52, Tryz.ntmps52
    go_wp2
    go_ret
    exact ⟨false, rfl, ⟨fun h => (by cases h), fun h => absurd (by rw [h]) HL.out⟩, Below.refl _ _⟩


set_option maxRecDepth 100000 in
set_option maxHeartbeats 1000000 in
theorem terms_any (ok : Nat → Prop) (w : World) (x y : Term) (cs ds : List Value) (h : kTerm.K ok w x cs) (g : kTerm.K ok w y ds) :
    Calls Tryz.prog 48 #[.agg cs.toArray, .agg ds.toArray] w fun e w' => ∃ r : Bool, e = .returned (.bool r) ∧ (r = true ↔ x = y) ∧ Below w.heap.size w w' := by
  obtain ⟨A5, c5, rfl, l5, g5⟩ := kTerm_open h
  obtain ⟨B5, d5, rfl, m5, f5⟩ := kTerm_open g
  have G5 := Lib.hid g5; have F5 := Lib.hid f5
  clear h g g5 f5
  go_enter Tryz.func48, Tryz.ntmps48
  go_wp2_with (go_at_call 49; refine (equal_int ok _ A5 B5 c5 d5 x.args y.args (by refine Kd.C_below G5.out ?_; (repeat' first | exact Below.refl _ _ | refine Below.drew ?_ | refine below_drewN ?_ _ | refine Below.alloc ?_ (by first | exact Nat.le_refl _ | omega | (simp; done) | (simp; omega)) _ | refine Below.setCell ?_ (by first | omega | (simp; done) | (simp; omega)) _)) (by refine Kd.C_below F5.out ?_; (repeat' first | exact Below.refl _ _ | refine Below.drew ?_ | refine below_drewN ?_ _ | refine Below.alloc ?_ (by first | exact Nat.le_refl _ | omega | (simp; done) | (simp; omega)) _ | refine Below.setCell ?_ (by first | omega | (simp; done) | (simp; omega)) _))).mono ?_; rintro e w1 ⟨r3, rfl, hr3, hb1⟩; have HB1 : Hid (Below w.heap.size w w1) := below_then (by (repeat' first | exact Below.refl _ _ | refine Below.drew ?_ | refine below_drewN ?_ _ | refine Below.alloc ?_ (by first | exact Nat.le_refl _ | omega | (simp; done) | (simp; omega)) _ | refine Below.setCell ?_ (by first | omega | (simp; done) | (simp; omega)) _)) (by simp; omega) hb1; have HR3 := Lib.hid hr3; clear hb1 hr3)
  · go_ret
    refine ⟨_, rfl, ?_, HB1.out⟩
    have e1 := str_eq.1 (beq_iff_eq.2 (by assumption : x.fld.toList = y.fld.toList))
    have e2 := str_eq.1 (beq_iff_eq.2 (by assumption : x.txt.toList = y.txt.toList))
    have h3 := HR3.out
    cases x; cases y
    simp_all
  all_goals
    go_ret
    refine ⟨_, rfl, ?_, by (repeat' first | exact Below.refl _ _ | refine Below.drew ?_ | refine below_drewN ?_ _ | refine Below.alloc ?_ (by first | exact Nat.le_refl _ | omega | (simp; done) | (simp; omega)) _ | refine Below.setCell ?_ (by first | omega | (simp; done) | (simp; omega)) _)⟩
    refine ⟨fun hh => by simp at hh, fun hh => ?_⟩
    subst hh
    simp_all

set_option maxRecDepth 100000 in
set_option maxHeartbeats 1000000 in
theorem equalFunc_terms (ok : Nat → Prop) (w : World) (A B : Option Addr) (c d : Nat) (xs ys : List Term) (h : kTerm.C ok w A xs.length xs) (g : kTerm.C ok w B ys.length ys) :
    Calls Tryz.prog 51 #[.slice A xs.length c, .slice B ys.length d, .func (Fn.func 48) #[] #[]] w fun e w' =>
      ∃ r : Bool, e = .returned (.bool r) ∧ (r = true ↔ xs = ys) ∧ Below w.heap.size w w' := by
  have hlen := h.2.1
  have hlen' := g.2.1
  have H := Lib.hid h; have G := Lib.hid g; clear h g
  by_cases hl : xs.length = ys.length
  · have hb0 : ((xs.length : Int) != (ys.length : Int)) = false := by rw [hl]; simp
    have HL := Lib.hid hl; clear hl
    go_enter Tryz.func51, Tryz.ntmps51
    go_wp2_with fail
    go_loopw [17] (fun v17 wr => ∃ k : Nat, k ≤ xs.length ∧ v17 = .int .i64 k ∧ Hid (∀ j, j < k → xs.getD j zTerm = ys.getD j zTerm) ∧ Hid (Below w.heap.size w wr)) (fun v17 _ => xs.length - (intOf v17).toNat)
    case atStart => exact ⟨0, Nat.zero_le _, rfl, fun j hj => absurd hj (by omega), Below.refl _ _⟩
    case round =>
      obtain ⟨k, hk, rfl, hno, HB⟩ := hrel
      by_cases hlt : k < xs.length
      · have hlt' : k < ys.length := by rw [← HL.out]; exact hlt
        obtain ⟨ad, A5, c5, rfl, _, c0, c1, c2, c3, c4, c6, l5, g5⟩ := at_Term H.out k hlt
        obtain ⟨ae, B5, d5, rfl, _, e0, e1, e2, e3, e4, e5, m5, f5⟩ := at_Term G.out k hlt'
        generalize hx : xs.getD k zTerm = x at *
        generalize hy : ys.getD k zTerm = y at *
        have Hx := Lib.hid hx; have Hy := Lib.hid hy; clear hx hy
        have G5 := Lib.hid (Kd.C_below g5 HB.out); have F5 := Lib.hid (Kd.C_below f5 HB.out); clear g5 f5
        replace c0 := cell_keep c0 HB.out
        replace c1 := cell_keep c1 HB.out
        replace c2 := cell_keep c2 HB.out
        replace c3 := cell_keep c3 HB.out
        replace c4 := cell_keep c4 HB.out
        replace c6 := cell_keep c6 HB.out
        replace e0 := cell_keep e0 HB.out
        replace e1 := cell_keep e1 HB.out
        replace e2 := cell_keep e2 HB.out
        replace e3 := cell_keep e3 HB.out
        replace e4 := cell_keep e4 HB.out
        replace e5 := cell_keep e5 HB.out
        have la := cell_lt c0
        have lb := cell_lt e0
        have lsz := HB.out.size
        go_wp2_with (go_at_call 48; refine (terms_any ok _ x y _ _ (by exact kTerm_mk ok _ x l5 (Kd.C_below G5.out (by (repeat' first | exact Below.refl _ _ | refine Below.drew ?_ | refine below_drewN ?_ _ | refine Below.alloc ?_ (by first | exact Nat.le_refl _ | omega | (simp; done) | (simp; omega)) _ | refine Below.setCell ?_ (by first | omega | (simp; done) | (simp; omega)) _)))) (by exact kTerm_mk ok _ y m5 (Kd.C_below F5.out (by (repeat' first | exact Below.refl _ _ | refine Below.drew ?_ | refine below_drewN ?_ _ | refine Below.alloc ?_ (by first | exact Nat.le_refl _ | omega | (simp; done) | (simp; omega)) _ | refine Below.setCell ?_ (by first | omega | (simp; done) | (simp; omega)) _))))).mono ?_; rintro e w1 ⟨r3, rfl, hr3, hb1⟩; have HB1 : Hid (Below w.heap.size w w1) := below_then (show Below w.heap.size w _ from HB.out.trans (by (repeat' first | exact Below.refl _ _ | refine Below.drew ?_ | refine below_drewN ?_ _ | refine Below.alloc ?_ (by first | exact Nat.le_refl _ | omega | (simp; done) | (simp; omega)) _ | refine Below.setCell ?_ (by first | omega | (simp; done) | (simp; omega)) _))) (by simp; omega) hb1; have HR3 := Lib.hid hr3; clear hb1 hr3)
        · go_ret
          refine ⟨false, rfl, ⟨fun h => (by cases h), fun h => absurd h (ne_at zTerm k Hx.out Hy.out (fun e => ?_))⟩, HB1.out⟩
          have h3 := HR3.out.2 e
          simp_all
        · go_roundw
          case rel =>
            refine ⟨k + 1, by omega, by go_num, fun j hj => ?_, HB1.out⟩
            rcases Nat.lt_or_ge j k with h1 | h1
            · exact hno.out j h1
            · obtain rfl : j = k := by omega
              rw [Hx.out, Hy.out]
              exact HR3.out.1 (by first | assumption | simp_all)
          case measure => simp [intOf]; omega
      · go_wp2
        go_ret
        exact ⟨true, rfl, ⟨fun _ => eq_of_getD zTerm HL.out (fun j hj => hno.out j (by omega)), fun _ => rfl⟩, HB.out⟩
  · have hb0 : ((xs.length : Int) != (ys.length : Int)) = true := by rw [bne_iff_ne]; omega
    have HL := Lib.hid hl; clear hl
    go_enter Tryz.func51, Tryz.ntmps51
    go_wp2
    go_ret
    exact ⟨false, rfl, ⟨fun h => (by cases h), fun h => absurd (by rw [h]) HL.out⟩, Below.refl _ _⟩

set_option maxRecDepth 100000 in
set_option maxHeartbeats 1000000 in
theorem stSame_any (ok : Nat → Prop) (w : World) (x y : Stmt) (cs ds : List Value) (h : kStmt.K ok w x cs) (g : kStmt.K ok w y ds) :
    Calls Tryz.prog 16 #[.agg cs.toArray, .agg ds.toArray] w fun e w' =>
      ∃ r : Bool, e = .returned (.bool r) ∧ (r = true ↔ x = y) ∧ Below w.heap.size w w' := by
  obtain ⟨A3, c3, A4, c4, A5, c5, rfl, l3, g3, l4, g4, l5, g5⟩ := kStmt_open h
  obtain ⟨B3, d3, B4, d4, B5, d5, rfl, m3, f3, m4, f4, m5, f5⟩ := kStmt_open g
  clear h g
  have G3 := Lib.hid g3; have G4 := Lib.hid g4; have G5 := Lib.hid g5
  have F3 := Lib.hid f3; have F4 := Lib.hid f4; have F5 := Lib.hid f5
  clear g3 g4 g5 f3 f4 f5
  go_enter Tryz.func16, Tryz.ntmps16
  go_wp2_with (first
    | (go_at_call 50
       refine (equal_Answer ok _ A3 B3 c3 d3 x.ans y.ans (by refine Kd.C_below G3.out ?_; (repeat' first | exact Below.refl _ _ | refine Below.drew ?_ | refine below_drewN ?_ _ | refine Below.alloc ?_ (by first | exact Nat.le_refl _ | omega | (simp; done) | (simp; omega)) _ | refine Below.setCell ?_ (by first | omega | (simp; done) | (simp; omega)) _)) (by refine Kd.C_below F3.out ?_; (repeat' first | exact Below.refl _ _ | refine Below.drew ?_ | refine below_drewN ?_ _ | refine Below.alloc ?_ (by first | exact Nat.le_refl _ | omega | (simp; done) | (simp; omega)) _ | refine Below.setCell ?_ (by first | omega | (simp; done) | (simp; omega)) _))).mono ?_
       rintro e w1 ⟨r3, rfl, hr3, hb1⟩
       have x4 : w1.cell? ⟨w.heap.size, 4, none⟩ = some (.slice A4 x.cond.length c4) := cell_keep (by go_simp) hb1
       have y4 : w1.cell? ⟨w.heap.size + 1, 4, none⟩ = some (.slice B4 y.cond.length d4) := cell_keep (by go_simp) hb1
       have x5 : w1.cell? ⟨w.heap.size, 5, none⟩ = some (.slice A5 x.shows.length c5) := cell_keep (by go_simp) hb1
       have y5 : w1.cell? ⟨w.heap.size + 1, 5, none⟩ = some (.slice B5 y.shows.length d5) := cell_keep (by go_simp) hb1
       have HB1 : Hid (Below w.heap.size w w1) := below_then (by (repeat' first | exact Below.refl _ _ | refine Below.drew ?_ | refine below_drewN ?_ _ | refine Below.alloc ?_ (by first | exact Nat.le_refl _ | omega | (simp; done) | (simp; omega)) _ | refine Below.setCell ?_ (by first | omega | (simp; done) | (simp; omega)) _)) (by simp; omega) hb1
       have HR3 := Lib.hid hr3
       clear hb1 hr3)
    | (go_at_call 51
       refine (equalFunc_terms ok _ A4 B4 c4 d4 x.cond y.cond (by exact Kd.C_below G4.out HB1.out) (by exact Kd.C_below F4.out HB1.out)).mono ?_
       rintro e w2 ⟨r4, rfl, hr4, hb2⟩
       have HB2 := Lib.hid (below_seq HB1.out hb2)
       have HR4 := Lib.hid hr4
       have X5 : w2.cell? ⟨w.heap.size, 5, none⟩ = some (.slice A5 x.shows.length c5) := cell_keep x5 hb2
       have Y5 : w2.cell? ⟨w.heap.size + 1, 5, none⟩ = some (.slice B5 y.shows.length d5) := cell_keep y5 hb2
       clear hb2 hr4)
    | (go_at_call 52
       refine (equal_Show_ ok _ A5 B5 c5 d5 x.shows y.shows (by exact Kd.C_below G5.out HB2.out) (by exact Kd.C_below F5.out HB2.out)).mono ?_
       rintro e w3 ⟨r5, rfl, hr5, hb3⟩
       have HB3 := Lib.hid (below_seq HB2.out hb3)
       have HR5 := Lib.hid hr5
       clear hb3 hr5))
  · go_ret
    refine ⟨_, rfl, ?_, HB3.out⟩
    have e1 := str_eq.1 (beq_iff_eq.2 (by assumption : x.resp.toList = y.resp.toList))
    have h3 := HR3.out
    have h4 := HR4.out
    have h5 := HR5.out
    cases x; cases y
    simp_all
  all_goals
    go_ret
    refine ⟨_, rfl, ?_, by first | exact HB2.out | exact HB1.out | ((repeat' first | exact Below.refl _ _ | refine Below.drew ?_ | refine below_drewN ?_ _ | refine Below.alloc ?_ (by first | exact Nat.le_refl _ | omega | (simp; done) | (simp; omega)) _ | refine Below.setCell ?_ (by first | omega | (simp; done) | (simp; omega)) _))⟩
    refine ⟨fun hh => by simp at hh, fun hh => ?_⟩
    subst hh
    first
      | (have h4 := HR4.out; have h3 := HR3.out; simp_all; done)
      | (have h3 := HR3.out; simp_all; done)
      | (simp_all; done)
end Go.Proofs.YtmeipcnicfaojaaGreatDoor
