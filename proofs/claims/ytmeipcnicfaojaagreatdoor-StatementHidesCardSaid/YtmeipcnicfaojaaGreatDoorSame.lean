/- The references' comparisons of statements: the walks. -/
import Derived.Test.YtmeipcnicfaojaaGreatDoorKinds
import Derived.Test.YtmeipcnicfaojaaGreatDoorProg
import Derived.WalkSpells
import Derived.WalkLawsBesides
import Derived.Deep.QuietTactic
import Derived.BigQuiet
import Derived.Deep.DeepCutAuto
namespace Go.Proofs.YtmeipcnicfaojaaGreatDoor
open Go.RowKit

theorem eqAnswer (d : Nat) (w : World) (x0 y0 x1 y1 : ByteArray) (x2 y2 : Int) :
    (Op.equalIn (d + 2) 50 (.agg #[.string x0, .string x1, .int .i64 x2]) (.agg #[.string y0, .string y1, .int .i64 y2])).run Tryz.prog w = .ok (x0.toList == y0.toList && (x1.toList == y1.toList && (x2 == y2))) w := by
  refine eqA_of Tryz.underlying50 (by kernel_rfl) ?_
  refine eqf_cons (by rfl) (by go_simp; rfl) (by go_simp; rfl) (by go_simp) ?_
  refine eqf_cons (by rfl) (by go_simp; rfl) (by go_simp; rfl) (by go_simp) ?_
  exact eqf_last (by rfl) (by go_simp; rfl) (by go_simp; rfl) (by go_simp)
theorem eqShow' (d : Nat) (w : World) (x0 y0 : ByteArray) (x1 y1 : ByteArray) :
    (Op.equalIn (d + 2) 47 (.agg #[.string x0, .string x1]) (.agg #[.string y0, .string y1])).run Tryz.prog w = .ok (x0.toList == y0.toList && (x1.toList == y1.toList)) w := by
  refine eqA_of Tryz.underlying47 (by kernel_rfl) ?_
  refine eqf_cons (by rfl) (by go_simp; rfl) (by go_simp; rfl) (by go_simp) ?_
  exact eqf_last (by rfl) (by go_simp; rfl) (by go_simp; rfl) (by go_simp)

theorem Answer.eqs {x y : Answer} (h : (!y.fld.toList == x.fld.toList) = false ∧ (!y.txt.toList == x.txt.toList) = false ∧ (!y.num == x.num) = false) : x = y := by
  obtain ⟨h1, h2, h3⟩ := h
  rw [Bool.not_eq_false'] at h1 h2 h3
  cases x; cases y
  rw [str_eq] at h1 h2
  rw [beq_iff_eq] at h3
  simp_all
theorem Answer.nes {x y : Answer} (h : (!y.fld.toList == x.fld.toList) = true ∨ (!y.txt.toList == x.txt.toList) = true ∨ (!y.num == x.num) = true) : x ≠ y := by
  rintro rfl
  rcases h with h | h | h <;> simp at h
theorem Show_.eqs {x y : Show_} (h : (!y.fld.toList == x.fld.toList) = false ∧ (!y.role.toList == x.role.toList) = false) : x = y := by
  obtain ⟨h1, h2⟩ := h
  rw [Bool.not_eq_false'] at h1 h2
  cases x; cases y
  rw [str_eq] at h1 h2
  simp_all
theorem Show_.nes {x y : Show_} (h : (!y.fld.toList == x.fld.toList) = true ∨ (!y.role.toList == x.role.toList) = true) : x ≠ y := by
  rintro rfl
  rcases h with h | h <;> simp at h
theorem ne_at {α : Type} (z : α) {xs ys : List α} (k : Nat) {x y : α} (hx : xs.getD k z = x) (hy : ys.getD k z = y) (h : x ≠ y) : xs ≠ ys := by
  rintro rfl
  exact h (hx.symm.trans hy)

set_option maxHeartbeats 400000 in
theorem sameAnswers_any (ok : Nat → Prop) (w : World) (A B : Option Addr) (c d : Nat) (xs ys : List Answer) (h : kAnswer.C ok w A xs.length xs) (g : kAnswer.C ok w B ys.length ys) :
    Calls Tryz.prog 34 #[.slice A xs.length c, .slice B ys.length d] w fun e w' =>
      ∃ r : Bool, e = .returned (.bool r) ∧ (r = true ↔ xs = ys) ∧ Below w.heap.size w w' := by
  have he := fun d w x0 y0 x1 y1 x2 y2 => eqAnswer d w x0 y0 x1 y1 x2 y2
  have hlen := h.2.1
  have hlen' := g.2.1
  have H := Lib.hid h; have G := Lib.hid g; clear h g
  by_cases hl : xs.length = ys.length
  · have hb0 : ((xs.length : Int) != (ys.length : Int)) = false := by rw [hl]; simp
    have HL := Lib.hid hl; clear hl
    go_enter Tryz.func34, Tryz.ntmps34
    go_wp2_with fail
    go_loopw [14] (fun v14 wr => ∃ k : Nat, k ≤ xs.length ∧ v14 = .int .i64 k ∧ Hid (∀ j, j < k → xs.getD j zAnswer = ys.getD j zAnswer) ∧ Hid (Below w.heap.size w wr)) (fun v14 _ => xs.length - (intOf v14).toNat)
    case atStart => exact ⟨0, Nat.zero_le _, rfl, fun j hj => absurd hj (by omega), Below.refl _ _⟩
    case round =>
      obtain ⟨k, hk, rfl, hno, HB⟩ := hrel
      by_cases hlt : k < xs.length
      · have hlt' : k < ys.length := by rw [← HL.out]; exact hlt
        obtain ⟨ad, rfl, _, c0, c1, c2⟩ := at_Answer H.out k hlt
        obtain ⟨ae, rfl, _, e0, e1, e2⟩ := at_Answer G.out k hlt'
        generalize hx : xs.getD k zAnswer = x at c0 c1 c2
        generalize hy : ys.getD k zAnswer = y at e0 e1 e2
        have Hx := Lib.hid hx; have Hy := Lib.hid hy; clear hx hy
        replace c0 := cell_keep c0 HB.out
        replace c1 := cell_keep c1 HB.out
        replace c2 := cell_keep c2 HB.out
        replace e0 := cell_keep e0 HB.out
        replace e1 := cell_keep e1 HB.out
        replace e2 := cell_keep e2 HB.out
        go_wp2_with fail
        have hB := (Below.refl wr.heap.size wr).alloc (Nat.le_refl _) (.cells #[.string x.fld, .string x.txt, .int .i64 x.num] 50)
        have hK := Blk.new wr 50 #[.string x.fld, .string x.txt, .int .i64 x.num]
        have b0 := hK.cell 0
        have b1 := hK.cell 1
        have b2 := hK.cell 2
        replace e0 := cell_keep e0 hB
        replace e1 := cell_keep e1 hB
        replace e2 := cell_keep e2 hB
        have HB1 := Lib.hid (below_seq HB.out hB)
        clear hB hK
        generalize wr.alloc (.cells #[.string x.fld, .string x.txt, .int .i64 x.num] 50) = W1 at *
        go_quiet (fail)
        go_wp2
        · go_ret
          refine ⟨false, rfl, ?_, below_drewN HB1.out _⟩
          exact ⟨fun h => (by cases h), fun h => absurd h (ne_at zAnswer k Hx.out Hy.out (Answer.nes (by assumption)))⟩
        · go_roundw
          case rel =>
            refine ⟨k + 1, by omega, by go_num, fun j hj => ?_, below_drewN HB1.out _⟩
            rcases Nat.lt_or_ge j k with h1 | h1
            · exact hno.out j h1
            · obtain rfl : j = k := by omega
              rw [Hx.out, Hy.out]
              exact Answer.eqs (by assumption)
          case measure => simp [intOf]; omega
      · go_wp2
        go_ret
        exact ⟨true, rfl, ⟨fun _ => eq_of_getD zAnswer HL.out (fun j hj => hno.out j (by omega)), fun _ => rfl⟩, HB.out⟩
  · have hb0 : ((xs.length : Int) != (ys.length : Int)) = true := by rw [bne_iff_ne]; omega
    have HL := Lib.hid hl; clear hl
    go_enter Tryz.func34, Tryz.ntmps34
    go_wp2
    go_ret
    exact ⟨false, rfl, ⟨fun h => (by cases h), fun h => absurd (by rw [h]) HL.out⟩, Below.refl _ _⟩

set_option maxRecDepth 100000 in
set_option maxHeartbeats 1000000 in
theorem sameCond_any (ok : Nat → Prop) (w : World) (A B : Option Addr) (c d : Nat) (xs ys : List Term) (h : kTerm.C ok w A xs.length xs) (g : kTerm.C ok w B ys.length ys) :
    Calls Tryz.prog 55 #[.agg #[.slice A xs.length c], .agg #[.slice B ys.length d]] w fun e w' =>
      ∃ r : Bool, e = .returned (.bool r) ∧ (r = true ↔ xs = ys) ∧ Below w.heap.size w w' := by
  have hlen := h.2.1
  have hlen' := g.2.1
  have H := Lib.hid h; have G := Lib.hid g; clear h g
  by_cases hl : xs.length = ys.length
  · have hb0 : ((xs.length : Int) != (ys.length : Int)) = false := by rw [hl]; simp
    have HL := Lib.hid hl; clear hl
    go_enter Tryz.func55, Tryz.ntmps55
    go_wp2_with fail
    go_loopw [20] (fun v20 wr => ∃ k : Nat, k ≤ xs.length ∧ v20 = .int .i64 k ∧ Hid (∀ j, j < k → xs.getD j zTerm = ys.getD j zTerm) ∧ Hid (Below w.heap.size w wr) ∧ Hid (Blk wr (w.heap.size + 1) 30 #[.slice B ys.length d]) ∧ w.heap.size + 1 < wr.heap.size) (fun v20 _ => xs.length - (intOf v20).toNat)
    case atStart => exact ⟨0, Nat.zero_le _, rfl, fun j hj => absurd hj (by omega), ((Below.refl _ _).alloc (Nat.le_refl _) _).alloc (by simp) _, Blk.new' (w.alloc _) _ _ _ (by simp), by simp⟩
    case round =>
      obtain ⟨k, hk, rfl, hno, HB, HK, hz⟩ := hrel
      by_cases hlt : k < xs.length
      · have hlt' : k < ys.length := by rw [← HL.out]; exact hlt
        obtain ⟨ad, A5, c5, rfl, _, c0, c1, c2, c3, c4, c6, l5, g5⟩ := at_Term H.out k hlt
        obtain ⟨ae, B5, d5, rfl, _, e0, e1, e2, e3, e4, e5, m5, f5⟩ := at_Term G.out k hlt'
        generalize hx : xs.getD k zTerm = x at *
        generalize hy : ys.getD k zTerm = y at *
        have Hx := Lib.hid hx; have Hy := Lib.hid hy; clear hx hy
        replace c0 := cell_keep c0 HB.out
        replace c1 := cell_keep c1 HB.out
        replace c2 := cell_keep c2 HB.out
        replace c3 := cell_keep c3 HB.out
        replace c4 := cell_keep c4 HB.out
        replace c6 := cell_keep c6 HB.out
        replace e0 := cell_keep e0 HB.out
        replace e1 := cell_keep e1 HB.out
        replace e2 := cell_keep e2 HB.out
        replace e3 := cell_keep e3 HB.out
        replace e4 := cell_keep e4 HB.out
        replace e5 := cell_keep e5 HB.out
        have b0 := HK.out.cell 0
        have la := cell_lt c0
        have lb := cell_lt e0
        have l5' := g5.2.1
        have G5 := Lib.hid g5; have F5 := Lib.hid f5; clear g5 f5
        go_wp2_with fail
        · go_ret
          refine ⟨false, rfl, ⟨fun h => (by cases h), fun h => absurd h (ne_at zTerm k Hx.out Hy.out ?_)⟩, (HB.out.alloc HB.out.size _).alloc (by have := HB.out.size; simp; omega) _⟩
          rintro rfl
          simp_all
        · obtain ⟨wo, rfl⟩ : ∃ wo : World, wo = wr := ⟨_, rfl⟩
          have hq : Hid (x.kind = y.kind ∧ x.num = y.num ∧ x.years = y.years ∧ x.fld = y.fld ∧ x.txt = y.txt ∧ x.args.length = y.args.length) := by
            refine ⟨by assumption, by assumption, by assumption, str_eq.1 (by simp [*]), str_eq.1 (by simp [*]), ?_⟩
            have h1 : ((x.args.length : Int) != (y.args.length : Int)) = false := by assumption
            rw [bne_eq_false_iff_eq] at h1
            omega
          have hbx := ((Blk.new wo 93 #[.int .i64 x.kind, .int .i64 x.num, .int .i64 x.years, .string x.fld, .string x.txt, .slice A5 x.args.length c5]).alloc (.cells #[.int .i64 y.kind, .int .i64 y.num, .int .i64 y.years, .string y.fld, .string y.txt, .slice B5 y.args.length d5] 93))
          go_loopw [75] (fun v75 wr => ∃ i : Nat, i ≤ x.args.length ∧ v75 = .int .i64 i ∧ Hid (∀ j, j < i → x.args.getD j 0 = y.args.getD j 0) ∧ Hid (Below wo.heap.size wo wr) ∧ wo.heap.size + 1 < wr.heap.size
              ∧ Hid (Blk wr wo.heap.size 93 #[.int .i64 x.kind, .int .i64 x.num, .int .i64 x.years, .string x.fld, .string x.txt, .slice A5 x.args.length c5])
              ∧ Hid (Blk wr (wo.heap.size + 1) 93 #[.int .i64 y.kind, .int .i64 y.num, .int .i64 y.years, .string y.fld, .string y.txt, .slice B5 y.args.length d5])) (fun v75 _ => x.args.length - (intOf v75).toNat)
          case atStart =>
            refine ⟨0, Nat.zero_le _, rfl, fun j hj => absurd hj (by omega), ((Below.refl _ _).alloc (Nat.le_refl _) _).alloc (by simp) _, by simp, (by have h := hbx; simp only [hq.out.1, hq.out.2.1, hq.out.2.2.1] at h ⊢; exact h), Blk.new' (wo.alloc _) _ _ _ (by simp)⟩
          case round =>
            obtain ⟨i, hi, rfl, hni, HB2, hz2, KX, KY⟩ := hrel
            clear hbx
            by_cases hit : i < x.args.length
            · have hit' : i < y.args.length := by rw [← hq.out.2.2.2.2.2]; exact hit
              obtain ⟨ap, rfl, _, p0⟩ := at_int G5.out i hit
              obtain ⟨aq, rfl, _, q0⟩ := at_int F5.out i hit'
              generalize hm : x.args.getD i 0 = m at p0
              generalize hn : y.args.getD i 0 = n at q0
              have Hm := Lib.hid hm; have Hn := Lib.hid hn; clear hm hn
              replace p0 := cell_keep (cell_keep p0 HB.out) HB2.out
              replace q0 := cell_keep (cell_keep q0 HB.out) HB2.out
              have y5 := KY.out.cell 5
              go_wp2_with fail
              · go_ret
                refine ⟨false, rfl, ⟨fun h => (by cases h), fun h => absurd h (ne_at zTerm k Hx.out Hy.out ?_)⟩, below_seq HB.out HB2.out⟩
                rintro rfl
                have := Hm.out.symm.trans Hn.out
                simp_all
              · go_roundw
                case rel =>
                  refine ⟨i + 1, by omega, by go_num, fun j hj => ?_, HB2.out, hz2, KX.out, KY.out⟩
                  rcases Nat.lt_or_ge j i with h1 | h1
                  · exact hni.out j h1
                  · obtain rfl : j = i := by omega
                    rw [Hm.out, Hn.out]
                    simp_all
                case measure => simp [intOf]; omega
            · go_wp2
              go_roundw
              case rel =>
                refine ⟨k + 1, by omega, by go_num, fun j hj => ?_, below_seq HB.out HB2.out, (HK.out.keep HB2.out), by omega⟩
                rcases Nat.lt_or_ge j k with h1 | h1
                · exact hno.out j h1
                · obtain rfl : j = k := by omega
                  rw [Hx.out, Hy.out]
                  obtain ⟨e1, e2, e3, e4, e5, e6⟩ := hq.out
                  have e7 := eq_of_getD 0 e6 (fun j hj => hni.out j (by omega))
                  cases x; cases y
                  simp_all
              case measure => simp [intOf]; omega
        all_goals
          go_ret
          refine ⟨false, rfl, ⟨fun h => (by cases h), fun h => absurd h (ne_at zTerm k Hx.out Hy.out ?_)⟩, (HB.out.alloc HB.out.size _).alloc (by have := HB.out.size; simp; omega) _⟩
          rintro rfl
          simp_all
      · go_wp2
        go_ret
        exact ⟨true, rfl, ⟨fun _ => eq_of_getD zTerm HL.out (fun j hj => hno.out j (by omega)), fun _ => rfl⟩, HB.out⟩
  · have hb0 : ((xs.length : Int) != (ys.length : Int)) = true := by rw [bne_iff_ne]; omega
    have HL := Lib.hid hl; clear hl
    go_enter Tryz.func55, Tryz.ntmps55
    go_wp2
    go_ret
    exact ⟨false, rfl, ⟨fun h => (by cases h), fun h => absurd (by rw [h]) HL.out⟩, ((Below.refl _ _).alloc (Nat.le_refl _) _).alloc (by simp) _⟩

theorem Stmt.eq_of {x y : Stmt} (h0 : x.resp = y.resp) (h1 : x.dept = y.dept) (h2 : x.day = y.day) (h3 : x.ans = y.ans) (h4 : x.cond = y.cond) (h5 : x.shows = y.shows) : x = y := by
  cases x; cases y; simp_all

set_option maxRecDepth 100000 in
set_option maxHeartbeats 1000000 in
theorem sameStmt_any (ok : Nat → Prop) (w : World) (x y : Stmt) (cs ds : List Value) (h : kStmt.K ok w x cs) (g : kStmt.K ok w y ds) :
    Calls Tryz.prog 18 #[.agg cs.toArray, .agg ds.toArray] w fun e w' =>
      ∃ r : Bool, e = .returned (.bool r) ∧ (r = true ↔ x = y) ∧ Below w.heap.size w w' := by
  have he := fun d w x0 y0 x1 y1 => eqShow' d w x0 y0 x1 y1
  obtain ⟨A3, c3, A4, c4, A5, c5, rfl, l3, g3, l4, g4, l5, g5⟩ := kStmt_open h
  obtain ⟨B3, d3, B4, d4, B5, d5, rfl, m3, f3, m4, f4, m5, f5⟩ := kStmt_open g
  clear h g
  by_cases hq : x.resp = y.resp ∧ x.dept = y.dept ∧ x.day = y.day
  · obtain ⟨xr, xd, xt, xa, xc, xs⟩ := x
    obtain ⟨yr, yd, yt, ya, yc, ys⟩ := y
    obtain ⟨e1, e2, e3⟩ := hq
    simp only at e1 e2 e3 l3 g3 l4 g4 l5 g5 m3 f3 m4 f4 m5 f5 ⊢
    subst e1 e2 e3
    have hs5 := g5.2.1
    have hs5' := f5.2.1
    have G3 := Lib.hid g3; have G4 := Lib.hid g4; have G5 := Lib.hid g5
    have F3 := Lib.hid f3; have F4 := Lib.hid f4; have F5 := Lib.hid f5
    clear g3 g4 g5 f3 f4 f5
    have hbb := Lib.hid (((Below.refl w.heap.size w).alloc (Nat.le_refl _) (.cells #[.string xr, .int .i64 xd, .int .i64 xt, .slice A3 xa.length c3, .slice A4 xc.length c4, .slice A5 xs.length c5] 33)).alloc (by simp) (.cells #[.string xr, .int .i64 xd, .int .i64 xt, .slice B3 ya.length d3, .slice B4 yc.length d4, .slice B5 ys.length d5] 33))
    have hKX := Lib.hid ((Blk.new w 33 #[.string xr, .int .i64 xd, .int .i64 xt, .slice A3 xa.length c3, .slice A4 xc.length c4, .slice A5 xs.length c5]).alloc (.cells #[.string xr, .int .i64 xd, .int .i64 xt, .slice B3 ya.length d3, .slice B4 yc.length d4, .slice B5 ys.length d5] 33))
    have hKY := Lib.hid (Blk.new' (w.alloc (.cells #[.string xr, .int .i64 xd, .int .i64 xt, .slice A3 xa.length c3, .slice A4 xc.length c4, .slice A5 xs.length c5] 33)) 33 #[.string xr, .int .i64 xd, .int .i64 xt, .slice B3 ya.length d3, .slice B4 yc.length d4, .slice B5 ys.length d5] (w.heap.size + 1) (by simp))
    go_enter Tryz.func18, Tryz.ntmps18
    go_wp2_with (first
      | (go_at_call 34
         refine (sameAnswers_any ok _ A3 B3 c3 d3 xa ya (by exact Kd.C_below G3.out hbb.out) (by exact Kd.C_below F3.out hbb.out)).mono ?_
         rintro e w1 ⟨r3, rfl, hr3, hb1⟩
         have KX := Lib.hid (hKX.out.keep hb1)
         have KY := Lib.hid (hKY.out.keep hb1)
         have HB1 := Lib.hid (hbb.out.trans (hb1.mono (by simp; omega)))
         have HR3 := Lib.hid hr3
         have x4 := KX.out.cell 4
         have x5 := KX.out.cell 5
         have y4 := KY.out.cell 4
         have y5 := KY.out.cell 5
         have lz1 := Lib.hid hb1.size
         clear hb1 hr3)
      | (go_at_call 55
         refine (sameCond_any ok _ A4 B4 c4 d4 xc yc (by exact Kd.C_below G4.out HB1.out) (by exact Kd.C_below F4.out HB1.out)).mono ?_
         rintro e w2 ⟨r4, rfl, hr4, hb2⟩
         have KX2 := Lib.hid (KX.out.keep hb2)
         have KY2 := Lib.hid (KY.out.keep hb2)
         have HB2 := Lib.hid (below_seq HB1.out hb2)
         have HR4 := Lib.hid hr4
         have X5 := KX2.out.cell 5
         have Y5 := KY2.out.cell 5
         have lz2 := Lib.hid (Nat.le_trans lz1.out hb2.size)
         clear hb2 hr4))
    · go_ret
      refine ⟨false, rfl, ⟨fun h => (by cases h), fun h => ?_⟩, HB2.out⟩
      injection h with _ _ _ _ _ h
      subst h
      simp_all
    · have hr3 : xa = ya := HR3.out.1 (by assumption)
      have hr4 : xc = yc := HR4.out.1 (by assumption)
      have HL : Hid (xs.length = ys.length) := by
        have h1 : ((xs.length : Int) != (ys.length : Int)) = false := by assumption
        rw [bne_eq_false_iff_eq] at h1
        show _ = _
        omega
      have HE := Lib.hid (And.intro hr3 hr4)
      clear hr3 hr4
      have hz2 : w.heap.size + 1 < w2.heap.size := by have := lz2.out; simp at this; omega
      have HB2' := Lib.hid HB2.out
      go_loopw [54] (fun v54 wr => ∃ k : Nat, k ≤ xs.length ∧ v54 = .int .i64 k ∧ Hid (∀ j, j < k → xs.getD j zShow_ = ys.getD j zShow_) ∧ Hid (Below w.heap.size w wr) ∧ w.heap.size + 1 < wr.heap.size
        ∧ Hid (Blk wr (w.heap.size + 1) 33 #[.string xr, .int .i64 xd, .int .i64 xt, .slice B3 ya.length d3, .slice B4 yc.length d4, .slice B5 ys.length d5])) (fun v54 _ => xs.length - (intOf v54).toNat)
      case atStart => exact ⟨0, Nat.zero_le _, rfl, fun j hj => absurd hj (by omega), HB2.out, hz2, KY2.out⟩
      case round =>
        obtain ⟨k, hk, rfl, hno, HB, hz, KY3⟩ := hrel
        clear hz2
        by_cases hlt : k < xs.length
        · have hlt' : k < ys.length := by rw [← HL.out]; exact hlt
          obtain ⟨ad, rfl, _, c0, c1⟩ := at_Show_ G5.out k hlt
          obtain ⟨ae, rfl, _, e0, e1⟩ := at_Show_ F5.out k hlt'
          generalize hx : xs.getD k zShow_ = x at c0 c1
          generalize hy : ys.getD k zShow_ = y at e0 e1
          have Hx := Lib.hid hx; have Hy := Lib.hid hy; clear hx hy
          replace c0 := cell_keep c0 HB.out
          replace c1 := cell_keep c1 HB.out
          replace e0 := cell_keep e0 HB.out
          replace e1 := cell_keep e1 HB.out
          clear x4 x5 y4 y5 X5 Y5
          go_wp2_with fail
          have hB := (Below.refl wr.heap.size wr).alloc (Nat.le_refl _) (.cells #[.string x.fld, .string x.role] 47)
          have hK := Blk.new wr 47 #[.string x.fld, .string x.role]
          have KY4 := Lib.hid (KY3.out.keep hB)
          have b0 := hK.cell 0
          have b1 := hK.cell 1
          have y5 := KY4.out.cell 5
          replace e0 := cell_keep e0 hB
          replace e1 := cell_keep e1 hB
          have HB3 := Lib.hid (below_seq HB.out hB)
          have hz3 : w.heap.size + 1 < (wr.alloc (.cells #[.string x.fld, .string x.role] 47)).heap.size := by simp; omega
          clear hB hK c0 c1
          generalize wr.alloc (.cells #[.string x.fld, .string x.role] 47) = W1 at *
          go_quiet (fail)
          go_wp2
          · go_ret
            refine ⟨false, rfl, ⟨fun h => (by cases h), fun h => ?_⟩, below_drewN HB3.out _⟩
            injection h with _ _ _ _ _ h
            exact absurd h (ne_at zShow_ k Hx.out Hy.out (Show_.nes (by assumption)))
          · go_roundw
            case rel =>
              refine ⟨k + 1, by omega, by go_num, fun j hj => ?_, below_drewN HB3.out _, hz3, KY4.out.drewN _⟩
              rcases Nat.lt_or_ge j k with h1 | h1
              · exact hno.out j h1
              · obtain rfl : j = k := by omega
                rw [Hx.out, Hy.out]
                exact Show_.eqs (by assumption)
            case measure => simp [intOf]; omega
        · go_wp2
          go_ret
          refine ⟨true, rfl, ⟨fun _ => ?_, fun _ => rfl⟩, HB.out⟩
          have h5 := eq_of_getD zShow_ HL.out (fun j hj => hno.out j (by omega))
          rw [HE.out.1, HE.out.2, h5]
    · go_ret
      refine ⟨false, rfl, ⟨fun h => (by cases h), fun h => ?_⟩, HB2.out⟩
      injection h with _ _ _ _ h _
      exact absurd (HR4.out.2 h) (by assumption)
    · go_ret
      refine ⟨false, rfl, ⟨fun h => (by cases h), fun h => ?_⟩, HB1.out⟩
      injection h with _ _ _ h _ _
      exact absurd (HR3.out.2 h) (by assumption)
  · have HQ := Lib.hid hq
    clear hq g3 g4 g5 f3 f4 f5
    have HB := Lib.hid (((Below.refl w.heap.size w).alloc (Nat.le_refl _) (.cells #[.string x.resp, .int .i64 x.dept, .int .i64 x.day, .slice A3 x.ans.length c3, .slice A4 x.cond.length c4, .slice A5 x.shows.length c5] 33)).alloc (by simp) (.cells #[.string y.resp, .int .i64 y.dept, .int .i64 y.day, .slice B3 y.ans.length d3, .slice B4 y.cond.length d4, .slice B5 y.shows.length d5] 33))
    by_cases q1 : x.resp = y.resp
    · have q1' : (x.resp.toList == y.resp.toList) = true := str_eq.2 q1
      by_cases q2 : x.dept = y.dept
      · have q3 : x.day ≠ y.day := fun e => HQ.out ⟨q1, q2, e⟩
        have b2 : (x.dept != y.dept) = false := by rw [bne_eq_false_iff_eq]; exact q2
        have b3 : (x.day != y.day) = true := by rw [bne_iff_ne]; exact q3
        have Q3 := Lib.hid q3
        clear q1 q2 q3
        go_enter Tryz.func18, Tryz.ntmps18
        go_wp2_with fail
        go_ret
        exact ⟨false, rfl, ⟨fun h => (by cases h), fun h => absurd (by rw [h]) Q3.out⟩, HB.out⟩
      · have b2 : (x.dept != y.dept) = true := by rw [bne_iff_ne]; exact q2
        have Q2 := Lib.hid q2
        clear q1 q2
        go_enter Tryz.func18, Tryz.ntmps18
        go_wp2_with fail
        go_ret
        exact ⟨false, rfl, ⟨fun h => (by cases h), fun h => absurd (by rw [h]) Q2.out⟩, HB.out⟩
    · have q1' : (x.resp.toList == y.resp.toList) = false := str_ne.2 q1
      have Q1 := Lib.hid q1
      clear q1
      go_enter Tryz.func18, Tryz.ntmps18
      go_wp2_with fail
      go_ret
      exact ⟨false, rfl, ⟨fun h => (by cases h), fun h => absurd (by rw [h]) Q1.out⟩, HB.out⟩
end Go.Proofs.YtmeipcnicfaojaaGreatDoor
