/- What a role may see of a statement: the walks. -/
import Derived.Test.YtmeipcnicfaojaaGreatDoorKinds
import Derived.Test.YtmeipcnicfaojaaGreatDoorProg
import Derived.WalkSpells
import Derived.WalkLawsBesides
import Derived.Deep.QuietTactic
import Derived.BigQuiet
import Derived.Deep.DeepCutAuto
namespace Go.Proofs.YtmeipcnicfaojaaGreatDoor
open Go.RowKit

def Show_.same (a b : Show_) : Bool := a.fld.toList == b.fld.toList && (a.role.toList == b.role.toList)


theorem eqShow (d : Nat) (w : World) (x0 y0 : ByteArray) (x1 y1 : ByteArray) :
    (Op.equalIn (d + 2) 47 (.agg #[.string x0, .string x1]) (.agg #[.string y0, .string y1])).run Tryz.prog w = .ok (x0.toList == y0.toList && (x1.toList == y1.toList)) w := by
  refine eqA_of Tryz.underlying47 (by kernel_rfl) ?_
  refine eqf_cons (by rfl) (by go_simp; rfl) (by go_simp; rfl) (by go_simp) ?_
  exact eqf_last (by rfl) (by go_simp; rfl) (by go_simp; rfl) (by go_simp)

theorem any_of_lt {α : Type} (p : α → Bool) (z : α) (xs : List α) (k : Nat) (hk : k < xs.length) (h : p (xs.getD k z) = true) : xs.any p = true := by
  rw [List.any_eq_true]
  refine ⟨xs[k], List.getElem_mem hk, ?_⟩
  rw [List.getD_eq_getElem?_getD, List.getElem?_eq_getElem hk] at h
  exact h
theorem any_false {α : Type} (p : α → Bool) (z : α) (xs : List α) (h : ∀ j, j < xs.length → p (xs.getD j z) = false) : xs.any p = false := by
  rw [List.any_eq_false]
  intro x hx
  obtain ⟨j, hj, rfl⟩ := List.getElem_of_mem hx
  have := h j hj
  rw [List.getD_eq_getElem?_getD, List.getElem?_eq_getElem hj] at this
  simpa using this

set_option maxHeartbeats 400000 in
theorem index_show (ok : Nat → Prop) (w : World) (A : Option Addr) (c : Nat) (xs : List Show_) (y : Show_) (h : kShow_.C ok w A xs.length xs) :
    Calls Tryz.prog 89 #[.slice A xs.length c, .agg #[.string y.fld, .string y.role]] w fun e w' =>
      ∃ r : Int, e = .returned (.int .i64 r) ∧ (decide (0 ≤ r) = xs.any y.same) ∧ Below w.heap.size w w' := by
  have he := fun d w x0 y0 x1 y1 => eqShow d w x0 y0 x1 y1
  have hlen := h.2.1
  have H := Lib.hid h; clear h
  go_enter Tryz.func89, Tryz.ntmps89
  go_wp2_with fail
  go_loopw [8] (fun v8 wr => ∃ k : Nat, k ≤ xs.length ∧ v8 = .int .i64 k ∧ Hid (∀ j, j < k → y.same (xs.getD j zShow_) = false) ∧ Hid (Below w.heap.size w wr) ∧ Hid (Blk wr w.heap.size 47 #[.string y.fld, .string y.role])) (fun v8 _ => xs.length - (intOf v8).toNat)
  case atStart => exact ⟨0, Nat.zero_le _, rfl, fun j hj => absurd hj (by omega), (Below.refl _ _).alloc (Nat.le_refl _) _, Blk.new _ _ _⟩
  case round =>
    obtain ⟨k, hk, rfl, hno, HB, HK⟩ := hrel
    by_cases hlt : k < xs.length
    · obtain ⟨ad, rfl, _, c0, c1⟩ := at_Show_ H.out k hlt
      generalize hx : xs.getD k zShow_ = x at c0 c1
      have Hx := Lib.hid hx; clear hx
      replace c0 := cell_keep c0 HB.out
      replace c1 := cell_keep c1 HB.out
      have b0 := HK.out.cell 0
      have b1 := HK.out.cell 1
      go_wp2
      go_quiet (fail)
      go_wp2
      · go_ret
        refine ⟨k, rfl, ?_, below_drewN HB.out _⟩
        rw [any_of_lt y.same zShow_ xs k hlt (by rw [Hx.out]; simp only [Show_.same, Bool.and_eq_true]; assumption)]
        simp
      · go_roundw
        case rel =>
          refine ⟨k + 1, by omega, by go_num, fun j hj => ?_, below_drewN HB.out _, HK.out.drewN _⟩
          rcases Nat.lt_or_ge j k with h1 | h1
          · exact hno.out j h1
          · obtain rfl : j = k := by omega
            rw [Hx.out]; simp only [Show_.same, Bool.and_eq_false_iff]; assumption
        case measure => simp [intOf]; omega
    · go_wp2
      go_ret
      refine ⟨-1, rfl, ?_, HB.out⟩
      rw [any_false y.same zShow_ xs (fun j hj => hno.out j (by omega))]
      simp

set_option maxHeartbeats 400000 in
theorem contains_show (ok : Nat → Prop) (w : World) (A : Option Addr) (c : Nat) (xs : List Show_) (y : Show_) (h : kShow_.C ok w A xs.length xs) :
    Calls Tryz.prog 54 #[.slice A xs.length c, .agg #[.string y.fld, .string y.role]] w fun e w' =>
      e = .returned (.bool (xs.any y.same)) ∧ Below w.heap.size w w' := by
  have H := Lib.hid h; clear h
  go_enter Tryz.func54, Tryz.ntmps54
  go_wp2_with fail
  refine (index_show ok _ A c xs y (Kd.C_below H.out ((Below.refl _ _).alloc (Nat.le_refl _) _))).mono ?_
  rintro e w' ⟨r, rfl, hr, hb⟩
  have HB := Lib.hid (((Below.refl _ w).alloc (Nat.le_refl _) (.cells #[.string y.fld, .string y.role] 47)).trans (hb.mono (by simp)))
  have Hr := Lib.hid hr; clear hr hb
  go_wp2_with fail
  go_ret
  exact ⟨by rw [← Hr.out]; rfl, HB.out⟩

def Stmt.sees (s : Stmt) (role fld : ByteArray) : Bool := s.shows.any (Show_.same ⟨fld, role⟩)

set_option maxHeartbeats 400000 in
theorem sees_any (ok : Nat → Prop) (w : World) (s : Stmt) (cs : List Value) (fld role : ByteArray) (bs br : Nat) (hs : kStmt.K ok w s cs) (hbs : Blk w bs 33 cs.toArray) (hbr : Blk w br 9 #[.string role]) :
    Calls Tryz.prog 53 #[.string fld, .pointer (some ⟨bs, 0, none⟩), .pointer (some ⟨br, 0, none⟩)] w fun e w' => e = .returned (.bool (s.sees role fld)) ∧ Below w.heap.size w w' := by
  obtain ⟨A3, c3, A4, c4, A5, c5, rfl, l3, g3, l4, g4, l5, g5⟩ := kStmt_open hs
  have b0 := hbs.cell 5
  have b1 := hbr.cell 0
  have G5 := Lib.hid g5; clear g3 g4 g5 hs hbs hbr
  go_enter Tryz.func53, Tryz.ntmps53
  go_wp2_with fail
  refine (contains_show ok _ A5 c5 s.shows ⟨fld, role⟩ G5.out).mono ?_
  rintro e w' ⟨rfl, hb⟩
  have HB := Lib.hid hb; clear hb
  go_wp2_with fail
  go_ret
  exact ⟨rfl, HB.out⟩

def Stmt.visible (s : Stmt) (role : ByteArray) : Stmt where
  resp := if s.sees role ⟨#[114, 101, 115, 112, 111, 110, 100, 101, 110, 116]⟩ then s.resp else ⟨#[]⟩
  dept := if s.sees role ⟨#[100, 101, 112, 97, 114, 116, 109, 101, 110, 116]⟩ then s.dept else 0
  day := if s.sees role ⟨#[100, 97, 121]⟩ then s.day else 0
  ans := s.ans.filter fun a => s.sees role a.fld
  cond := []
  shows := []

/-- What holds behind the loop: r, d, y are what was put into the statement so far. -/
structure VisSt (w0 : World) (s : Stmt) (role : ByteArray) (cs : Array Value) (v : Value) (r : ByteArray) (d y : Int) (w : World) : Prop where
  hb : Below w0.heap.size w0 w
  hz : w0.heap.size + 4 ≤ w.heap.size
  b0 : Blk w w0.heap.size 33 cs
  b1 : Blk w (w0.heap.size + 1) 9 #[.string role]
  b2 : Blk w (w0.heap.size + 1 + 1) 33 #[.string ⟨#[]⟩, .int .i64 0, .int .i64 0, .slice none 0 0, .slice none 0 0, .slice none 0 0]
  b3 : Blk w (w0.heap.size + 1 + 1 + 1) 33 #[.string r, .int .i64 d, .int .i64 y, v, .slice none 0 0, .slice none 0 0]
  ho : kAnswer.Own 50 (fun k => w0.heap.size + 4 ≤ k) w (w0.heap.size + 4) v (s.ans.filter fun a => s.sees role a.fld)
theorem VisSt.call {w0 : World} {s : Stmt} {role : ByteArray} {cs : Array Value} {v : Value} {r : ByteArray} {d y : Int} {w w' : World} (h : VisSt w0 s role cs v r d y w) (hb : Below w.heap.size w w') : VisSt w0 s role cs v r d y w' :=
  ⟨below_then h.hb h.hb.size hb, Nat.le_trans h.hz hb.size, h.b0.keep hb, h.b1.keep hb, h.b2.keep hb, h.b3.keep hb, h.ho.below hb⟩
theorem VisSt.set_ {w0 : World} {s : Stmt} {role : ByteArray} {cs : Array Value} {v : Value} {r : ByteArray} {d y : Int} {w : World} (h : VisSt w0 s role cs v r d y w) (i : Nat) (u : Value) {r' : ByteArray} {d' y' : Int}
    (e : #[Value.string r, .int .i64 d, .int .i64 y, v, .slice none 0 0, .slice none 0 0].setIfInBounds i u = #[.string r', .int .i64 d', .int .i64 y', v, .slice none 0 0, .slice none 0 0]) : VisSt w0 s role cs v r' d' y' (w.setCell ⟨w0.heap.size + 1 + 1 + 1, i, none⟩ u) :=
  ⟨h.hb.setCell (by show _ ≤ _; simp; omega) _, by simpa [World.setCell] using h.hz, h.b0.far (by simp; omega) _, h.b1.far (by simp) _, h.b2.far (by simp) _, by have := h.b3.set_ i u; rwa [e] at this, h.ho.far (fun k hk _ => by simp; omega) _⟩

theorem infoAnswer : (Tryz.prog.info? 50).map (fun i => (i.zero, i.size, i.bytes)) = some (some (.agg #[.string ⟨#[]⟩, .string ⟨#[]⟩, .int .i64 0]), 3, 40) := by kernel_rfl
set_option maxRecDepth 100000 in
set_option maxHeartbeats 1000000 in
theorem visible_any (ok : Nat → Prop) (w : World) (s : Stmt) (cs : List Value) (role : ByteArray) (hs : kStmt.K ok w s cs) (hlen : s.ans.length ≤ 1048576) :
    Calls Tryz.prog 17 #[.agg cs.toArray, .string role] w fun e w' =>
      ∃ ds, e = .returned (.agg ds) ∧ kStmt.K (fun k => w.heap.size ≤ k) w' (s.visible role) ds.toList ∧ Below w.heap.size w w' := by
  obtain ⟨A3, c3, A4, c4, A5, c5, rfl, l3, g3, l4, g4, l5, g5⟩ := kStmt_open hs
  have G3 := Lib.hid g3; have HS := Lib.hid hs; clear g3 g4 g5 hs
  go_enter Tryz.func17, Tryz.ntmps17
  go_wp2_with fail
  go_loopw [13] (fun v13 wr => ∃ (k : Nat) (v : Value), k ≤ s.ans.length ∧ v13 = .int .i64 k ∧ Hid (Below w.heap.size w wr) ∧ Hid (w.heap.size + 4 ≤ wr.heap.size)
      ∧ Hid (Blk wr w.heap.size 33 #[.string s.resp, .int .i64 s.dept, .int .i64 s.day, .slice A3 s.ans.length c3, .slice A4 s.cond.length c4, .slice A5 s.shows.length c5])
      ∧ Hid (Blk wr (w.heap.size + 1) 9 #[.string role])
      ∧ Hid (Blk wr (w.heap.size + 1 + 1) 33 #[.string ⟨#[]⟩, .int .i64 0, .int .i64 0, .slice none 0 0, .slice none 0 0, .slice none 0 0])
      ∧ Hid (Blk wr (w.heap.size + 1 + 1 + 1) 33 #[.string ⟨#[]⟩, .int .i64 0, .int .i64 0, v, .slice none 0 0, .slice none 0 0])
      ∧ Hid (kAnswer.Own 50 (fun k => w.heap.size + 4 ≤ k) wr (w.heap.size + 4) v ((s.ans.take k).filter fun a => s.sees role a.fld))) (fun v13 _ => s.ans.length - (intOf v13).toNat)
  case atStart =>
    refine ⟨0, _, Nat.zero_le _, rfl, ?_, ?_, ?_, ?_, ?_, ?_, Kd.Own.nil _ _ _ _ _⟩
    · exact ((((Below.refl _ _).alloc (Nat.le_refl _) _).alloc (by simp) _).alloc (by simp; omega) _).alloc (by simp; omega) _
    · show _ ≤ _; simp
    · exact (((Blk.new _ _ _).alloc _).alloc _).alloc _
    · exact ((Blk.new' (w.alloc _) _ _ _ (by simp)).alloc _).alloc _
    · exact (Blk.new' ((w.alloc _).alloc _) _ _ _ (by simp)).alloc _
    · exact Blk.new' (((w.alloc _).alloc _).alloc _) _ _ _ (by simp)
  case round =>
    obtain ⟨k, v, hk, rfl, HB, HZ, H0, H1, H2, H3, HO⟩ := hrel
    by_cases hlt : k < s.ans.length
    · obtain ⟨ad, rfl, _, c0, c1, c2⟩ := at_Answer G3.out k hlt
      generalize hx : s.ans.getD k zAnswer = x at c0 c1 c2
      have Hx := Lib.hid hx; clear hx
      replace c0 := cell_keep c0 HB.out
      replace c1 := cell_keep c1 HB.out
      replace c2 := cell_keep c2 HB.out
      go_wp2_with fail
      refine (sees_any ok _ s _ x.fld role w.heap.size (w.heap.size + 1) (by exact Kd.below HS.out (HB.out.alloc HB.out.size _)) (by exact H0.out.alloc _) (by exact H1.out.alloc _)).mono ?_
      rintro e w' ⟨rfl, hb⟩
      have HB1 := Lib.hid (below_seq ((Below.refl _ wr).alloc (Nat.le_refl _) (.cells #[.string x.fld, .string x.txt, .int .i64 x.num] 50)) hb)
      have HA := Lib.hid ((Blk.new wr 50 #[.string x.fld, .string x.txt, .int .i64 x.num]).keep hb)
      have e0 := HA.out.cell 0
      have e1 := HA.out.cell 1
      have e2 := HA.out.cell 2
      have H2' := Lib.hid (H2.out.keep HB1.out)
      have H3' := Lib.hid (H3.out.keep HB1.out)
      have o3 := H3'.out.cell 3
      have HO' := Lib.hid (HO.out.below HB1.out)
      have hz : wr.heap.size < w'.heap.size := by have := hb.size; simp at this; omega
      clear hb
      by_cases hse : s.sees role x.fld = true
      · go_wp2_with (
          (at_builtin
           refine Kd.own_append (w.heap.size + 4) 27 50 (.agg #[.string ⟨#[]⟩, .string ⟨#[]⟩, .int .i64 0]) 40 rfl (.tmp 22) (.tmp 24) rfl Tryz.underlying27 infoAnswer rfl (by decide) (by decide) v _ x #[.string x.fld, .string x.txt, .int .i64 x.num] rfl rfl HO'.out (by exact kAnswer_mk _ _ _) (by intro k hk; have := HZ.out; omega) (by have := HZ.out; omega) (by have h1 := List.length_filter_le (fun a : Answer => s.sees role a.fld) (s.ans.take k); have h2 : (s.ans.take k).length ≤ k := List.length_take_le _ _; omega) ?_
           intro v1 w1 hown hg hat
           obtain ⟨A9, n9, c9, rfl⟩ : ∃ A n c, v1 = .slice A n c := (by obtain ⟨A, c, e, _⟩ := hown.form; exact ⟨A, _, c, e⟩)
           have K3 := Lib.hid (H3'.out.grown hg (by intro e; have := (HO'.out.base_ge _ e.symm).1; omega))
           have p3 := K3.out.cell 3
           have f3 := K3.out.frozen 3
           have HG := Lib.hid hg
           have HN := Lib.hid hown
           clear hg hown hat))
        have HW : Below (w.heap.size + 4) w' w1 := (Below.refl _ _).grown HG.out (by have := HZ.out; omega) (fun k hk => (HO'.out.base_ge k hk).1)
        have hz1 := HW.size
        go_roundw
        case rel =>
          refine ⟨k + 1, .slice A9 n9 c9, by omega, by go_num, ?_, ?_, ?_, ?_, ?_, ?_, ?_⟩
          · exact ((HB.out.trans (HB1.out.mono (by have := HZ.out; omega))).trans (HW.mono (by omega))).setCell (by show _ ≤ _; simp; omega) _
          · show _ ≤ _; have := HZ.out; simp; omega
          · exact ((H0.out.keep HB1.out).below HW (by omega)).far (by simp; omega) _
          · exact ((H1.out.keep HB1.out).below HW (by omega)).far (by simp) _
          · exact (H2'.out.below HW (by omega)).far (by simp) _
          · exact K3.out.set_ 3 _
          · have hs : (s.ans.take (k + 1)).filter (fun a => s.sees role a.fld) = (s.ans.take k).filter (fun a => s.sees role a.fld) ++ [x] := by
              rw [List.take_succ_eq_append_getElem hlt, List.filter_append]
              have : s.ans[k] = x := by rw [← Hx.out, List.getD_eq_getElem?_getD, List.getElem?_eq_getElem hlt]; rfl
              rw [this]; simp [hse]
            rw [hs]
            exact Kd.Own.far HN.out (fun k hk _ => by simp; omega) _
        case measure => simp [intOf]; omega
      · go_wp2
        go_roundw
        case rel =>
          refine ⟨k + 1, v, by omega, by go_num, HB.out.trans (HB1.out.mono (by have := HZ.out; omega)), ?_, H0.out.keep HB1.out, H1.out.keep HB1.out, H2'.out, H3'.out, ?_⟩
          · show _ ≤ _; have := HZ.out; omega
          · have hs : (s.ans.take (k + 1)).filter (fun a => s.sees role a.fld) = (s.ans.take k).filter (fun a => s.sees role a.fld) := by
              rw [List.take_succ_eq_append_getElem hlt, List.filter_append]
              have : s.ans[k] = x := by rw [← Hx.out, List.getD_eq_getElem?_getD, List.getElem?_eq_getElem hlt]; rfl
              rw [this]; simp [hse]
            rw [hs]
            exact HO'.out
        case measure => simp [intOf]; omega
    · have hk' : k = s.ans.length := by omega
      have hst : VisSt w s role #[.string s.resp, .int .i64 s.dept, .int .i64 s.day, .slice A3 s.ans.length c3, .slice A4 s.cond.length c4, .slice A5 s.shows.length c5] v ⟨#[]⟩ 0 0 wr :=
        ⟨HB.out, HZ.out, H0.out, H1.out, H2.out, H3.out, by have := HO.out; rwa [hk', List.take_length] at this⟩
      have ST := Lib.hid hst
      obtain ⟨Av, nv, cv, rfl, HN⟩ : ∃ A n c, v = .slice A n c ∧ Hid (n = (s.ans.filter fun a => s.sees role a.fld).length ∧ n ≤ c) := (by obtain ⟨A, c, e, hl⟩ := hst.ho.form; exact ⟨A, _, c, e, rfl, hl⟩)
      clear hst HB HZ H0 H1 H2 H3 HO hk'
      go_wp2_with fail
      refine (sees_any ok _ s _ _ role w.heap.size (w.heap.size + 1) (by exact Kd.below HS.out ST.out.hb) (by exact ST.out.b0) (by exact ST.out.b1)).mono ?_
      rintro e w1 ⟨rfl, hb⟩
      have S1 := Lib.hid (ST.out.call hb)
      clear hb
      go_upto_if 29 with fail
      go_cut [] (fun wx => Hid (VisSt w s role #[.string s.resp, .int .i64 s.dept, .int .i64 s.day, .slice A3 s.ans.length c3, .slice A4 s.cond.length c4, .slice A5 s.shows.length c5] (.slice Av nv cv) (if s.sees role ⟨#[114, 101, 115, 112, 111, 110, 100, 101, 110, 116]⟩ then s.resp else ⟨#[]⟩) 0 0 wx))
      case first =>
        have p0 := S1.out.b0.cell 0
        have p3 := S1.out.b3.cell 0
        have f3 := S1.out.b3.frozen 0
        go_wp2
        · have hr : s.sees role ⟨#[114, 101, 115, 112, 111, 110, 100, 101, 110, 116]⟩ = true := by assumption
          go_meet
          exact S1.out.set_ 0 _ (by simp [hr])
        · have hr : s.sees role ⟨#[114, 101, 115, 112, 111, 110, 100, 101, 110, 116]⟩ = false := by assumption
          go_meet
          have e : (if s.sees role ⟨#[114, 101, 115, 112, 111, 110, 100, 101, 110, 116]⟩ = true then s.resp else ⟨#[]⟩) = ⟨#[]⟩ := if_neg (by simp [hr])
          rw [e]
          exact S1.out
      have T1 := Lib.hid hcut.out
      clear hcut S1
      go_wp2_with fail
      refine (sees_any ok _ s _ _ role w.heap.size (w.heap.size + 1) (by exact Kd.below HS.out T1.out.hb) (by exact T1.out.b0) (by exact T1.out.b1)).mono ?_
      rintro e w2 ⟨rfl, hb⟩
      have S2 := Lib.hid (T1.out.call hb)
      clear hb
      go_upto_if 34 with fail
      go_cut [] (fun wx => Hid (VisSt w s role #[.string s.resp, .int .i64 s.dept, .int .i64 s.day, .slice A3 s.ans.length c3, .slice A4 s.cond.length c4, .slice A5 s.shows.length c5] (.slice Av nv cv) (if s.sees role ⟨#[114, 101, 115, 112, 111, 110, 100, 101, 110, 116]⟩ then s.resp else ⟨#[]⟩) (if s.sees role ⟨#[100, 101, 112, 97, 114, 116, 109, 101, 110, 116]⟩ then s.dept else 0) 0 wx))
      case first =>
        have p0 := S2.out.b0.cell 1
        have p3 := S2.out.b3.cell 1
        have f3 := S2.out.b3.frozen 1
        go_wp2
        · have hr : s.sees role ⟨#[100, 101, 112, 97, 114, 116, 109, 101, 110, 116]⟩ = true := by assumption
          go_meet
          exact S2.out.set_ 1 _ (by simp [hr])
        · have hr : s.sees role ⟨#[100, 101, 112, 97, 114, 116, 109, 101, 110, 116]⟩ = false := by assumption
          go_meet
          have e : (if s.sees role ⟨#[100, 101, 112, 97, 114, 116, 109, 101, 110, 116]⟩ = true then s.dept else 0) = 0 := if_neg (by simp [hr])
          rw [e]
          exact S2.out
      have T2 := Lib.hid hcut.out
      clear hcut S2
      go_wp2_with fail
      refine (sees_any ok _ s _ _ role w.heap.size (w.heap.size + 1) (by exact Kd.below HS.out T2.out.hb) (by exact T2.out.b0) (by exact T2.out.b1)).mono ?_
      rintro e w3 ⟨rfl, hb⟩
      have S3 := Lib.hid (T2.out.call hb)
      clear hb
      go_upto_if 39 with fail
      go_cut [] (fun wx => Hid (VisSt w s role #[.string s.resp, .int .i64 s.dept, .int .i64 s.day, .slice A3 s.ans.length c3, .slice A4 s.cond.length c4, .slice A5 s.shows.length c5] (.slice Av nv cv) (if s.sees role ⟨#[114, 101, 115, 112, 111, 110, 100, 101, 110, 116]⟩ then s.resp else ⟨#[]⟩) (if s.sees role ⟨#[100, 101, 112, 97, 114, 116, 109, 101, 110, 116]⟩ then s.dept else 0) (if s.sees role ⟨#[100, 97, 121]⟩ then s.day else 0) wx))
      case first =>
        have p0 := S3.out.b0.cell 2
        have p3 := S3.out.b3.cell 2
        have f3 := S3.out.b3.frozen 2
        go_wp2
        · have hr : s.sees role ⟨#[100, 97, 121]⟩ = true := by assumption
          go_meet
          exact S3.out.set_ 2 _ (by simp [hr])
        · have hr : s.sees role ⟨#[100, 97, 121]⟩ = false := by assumption
          go_meet
          have e : (if s.sees role ⟨#[100, 97, 121]⟩ = true then s.day else 0) = 0 := if_neg (by simp [hr])
          rw [e]
          exact S3.out
      have T3 := Lib.hid hcut.out
      clear hcut S3
      have T := T3.out
      clear T3
      generalize hR : (if s.sees role ⟨#[114, 101, 115, 112, 111, 110, 100, 101, 110, 116]⟩ = true then s.resp else ⟨#[]⟩) = r at T
      generalize hD : (if s.sees role ⟨#[100, 101, 112, 97, 114, 116, 109, 101, 110, 116]⟩ = true then s.dept else 0) = d at T
      generalize hY : (if s.sees role ⟨#[100, 97, 121]⟩ = true then s.day else 0) = y at T
      have HR := Lib.hid hR
      have HD := Lib.hid hD
      have HY := Lib.hid hY
      have T3 := Lib.hid T
      clear hR hD hY T
      have p0 := T3.out.b3.cell 0
      have p1 := T3.out.b3.cell 1
      have p2 := T3.out.b3.cell 2
      have p3 := T3.out.b3.cell 3
      have p4 := T3.out.b3.cell 4
      have p5 := T3.out.b3.cell 5
      have q0 := T3.out.b2.cell 0
      have q1 := T3.out.b2.cell 1
      have q2 := T3.out.b2.cell 2
      have q3 := T3.out.b2.cell 3
      have q4 := T3.out.b2.cell 4
      have q5 := T3.out.b2.cell 5
      have f0 := T3.out.b2.frozen 0
      have f1 := T3.out.b2.frozen 1
      have f2 := T3.out.b2.frozen 2
      have f3 := T3.out.b2.frozen 3
      have f4 := T3.out.b2.frozen 4
      have f5 := T3.out.b2.frozen 5
      go_wp2
      have e : s.visible role = ⟨r, d, y, s.ans.filter fun a => s.sees role a.fld, [], []⟩ := by rw [← HR.out, ← HD.out, ← HY.out]; rfl
      have hfar : ∀ k : Nat, w.heap.size + 4 ≤ k → k ≠ w.heap.size + 1 + 1 := fun k hk => by omega
      refine bodyPost_ret (v := .agg #[.string r, .int .i64 d, .int .i64 y, .slice Av nv cv, .slice none 0 0, .slice none 0 0]) (by simp [results, Tryz.results17, go_sem, q0, q1, q2, q3, q4, q5]) rfl ⟨_, rfl, ?_, ?_⟩
      · have ho := (((((T3.out.ho.far (p := ⟨w.heap.size + 1 + 1, 0, none⟩) (fun k hk _ => hfar k hk) (.string r)).far (p := ⟨w.heap.size + 1 + 1, 1, none⟩) (fun k hk _ => hfar k hk) (.int .i64 d)).far (p := ⟨w.heap.size + 1 + 1, 2, none⟩) (fun k hk _ => hfar k hk) (.int .i64 y)).far (p := ⟨w.heap.size + 1 + 1, 3, none⟩) (fun k hk _ => hfar k hk) (.slice Av nv cv)).far (p := ⟨w.heap.size + 1 + 1, 4, none⟩) (fun k hk _ => hfar k hk) (.slice none 0 0)).far (p := ⟨w.heap.size + 1 + 1, 5, none⟩) (fun k hk _ => hfar k hk) (.slice none 0 0)
        obtain ⟨A, c, ev, hl, hC⟩ := ho.reads (by have := List.length_filter_le (fun a : Answer => s.sees role a.fld) s.ans; omega)
        injection ev with eA en ec
        subst eA en ec
        rw [e]
        exact kStmt_mk _ _ ⟨r, d, y, _, [], []⟩ hl (Kd.C_mono (by decide) (fun k hk _ => by omega) hC) (Nat.le_refl _) (Kd.C_nil _ _ _ _) (Nat.le_refl _) (Kd.C_nil _ _ _ _)
      · exact (((((T3.out.hb.setCell (p := ⟨w.heap.size + 1 + 1, 0, none⟩) (by show _ ≤ _; simp; omega) _).setCell (p := ⟨w.heap.size + 1 + 1, 1, none⟩) (by show _ ≤ _; simp; omega) _).setCell (p := ⟨w.heap.size + 1 + 1, 2, none⟩) (by show _ ≤ _; simp; omega) _).setCell (p := ⟨w.heap.size + 1 + 1, 3, none⟩) (by show _ ≤ _; simp; omega) _).setCell (p := ⟨w.heap.size + 1 + 1, 4, none⟩) (by show _ ≤ _; simp; omega) _).setCell (p := ⟨w.heap.size + 1 + 1, 5, none⟩) (by show _ ≤ _; simp; omega) _
end Go.Proofs.YtmeipcnicfaojaaGreatDoor
