/- The kit's conditions: the walk of grow. What a condition holds is left open; that it is one is told. -/
import Derived.Test.YtmeipcnicfaojaaGreatDoorDice
import Derived.StillTailTactics
namespace Go.Proofs.YtmeipcnicfaojaaGreatDoor
open Go.RowKit

theorem infoTerm : (Tryz.prog.info? 93).map (fun i => (i.zero, i.size, i.bytes)) = some (some (.agg #[.int .i64 0, .int .i64 0, .int .i64 0, .string ⟨#[]⟩, .string ⟨#[]⟩, .slice none 0 0]), 6, 80) := by kernel_rfl
theorem infoInt : (Tryz.prog.info? 3).map (fun i => (i.zero, i.size, i.bytes)) = some (some (.int .i64 0), 1, 8) := by kernel_rfl

/-- A condition that grows: block Cb holds the slice v, whose terms are xs. -/
structure GSt (D Cb base : Nat) (ok : Nat → Prop) (w0 : World) (v0 v : Value) (xs : List Term) (w : World) : Prop where
  dice : DiceOk D w
  frm : Frm (fun k => k ≠ D ∧ k ≠ Cb ∧ some k ≠ v0.ownBlock) w0 w
  cb : Blk w Cb 30 #[v]
  own : kTerm.Own 93 ok w base v xs
  vb : v.ownBlock = v0.ownBlock ∨ ∃ b, v.ownBlock = some b ∧ w0.heap.size ≤ b
section
variable {D Cb base : Nat} {ok ok' : Nat → Prop} {w0 : World} {v0 v : Value} {xs : List Term} {w w' : World}
theorem GSt.next (h : GSt D Cb base ok w0 v0 v xs w) (hD : ∀ k, ok k → k ≠ D ∧ k ≠ Cb) (hc : Cb ≠ D) (hf : Frm (But D) w w') (hd : DiceOk D w') : GSt D Cb base ok w0 v0 v xs w' :=
  ⟨hd, h.frm.trans (hf.mono fun _ hk _ => hk.1), h.cb.frm hf hc, h.own.frm (hf.mono fun k hk _ => (hD k hk).1), h.vb⟩
theorem GSt.keep (h : GSt D Cb base ok w0 v0 v xs w) (hb : Below w.heap.size w w') : GSt D Cb base ok w0 v0 v xs w' :=
  ⟨h.dice.keep hb, h.frm.trans (Frm.of_below hb), h.cb.keep hb, h.own.below hb, h.vb⟩
theorem GSt.mono (h : GSt D Cb base ok w0 v0 v xs w) (hk : ∀ k, ok k → k < w.heap.size → ok' k) : GSt D Cb base ok' w0 v0 v xs w := ⟨h.dice, h.frm, h.cb, h.own.mono hk, h.vb⟩
theorem GSt.set_ (h : GSt D Cb base ok w0 v0 v xs w) {p : Addr} (hp : D < p.block) (hc : Cb ≠ p.block) (hz : w0.heap.size ≤ p.block) (hk : ∀ k, ok k → k ≠ p.block) (u : Value) : GSt D Cb base ok w0 v0 v xs (w.setCell p u) :=
  ⟨h.dice.set_ hp u, ⟨h.frm.os, h.frm.tape, h.frm.output, by simpa [World.setCell] using h.frm.size, fun k ho hl => (Below.heap_setCell w p u k (by omega)).trans (h.frm.block k ho hl)⟩, h.cb.far hc u, h.own.far (fun k ho _ => hk k ho) u, h.vb⟩
end

/-- Behind the switch: block Tb holds the term that is to be put in. -/
def TSt (bnd D Cb base : Nat) (ok : Nat → Prop) (w0 : World) (v0 : Value) (m Tb : Nat) (w : World) : Prop :=
  ∃ (t : Term) (va v : Value) (xs : List Term), GSt D Cb base (fun k => ok k ∧ k ≠ Tb) w0 v0 v xs w ∧ Blk w Tb 93 #[.int .i64 t.kind, .int .i64 t.num, .int .i64 t.years, .string t.fld, .string t.txt, va]
    ∧ (Kd.int .i64).Own 3 (fun k => Tb < k) w (Tb + 1) va t.args ∧ t.args.length ≤ 10 ∧ m < xs.length ∧ xs.length ≤ m + bnd
section
variable {D Cb base : Nat} {ok : Nat → Prop} {w0 : World} {v0 v : Value} {xs : List Term} {w : World} {Tb : Nat} {tc : Array Value}
theorem two_sets (G : GSt D Cb base (fun k => ok k ∧ k ≠ Tb) w0 v0 v xs w) (T : Blk w Tb 93 tc) (hD : D < Tb) (hC : Cb ≠ Tb) (hz : w0.heap.size ≤ Tb) (i : Nat) (u : Value) :
    GSt D Cb base (fun k => ok k ∧ k ≠ Tb) w0 v0 v xs (w.setCell ⟨Tb, i, none⟩ u) ∧ Blk (w.setCell ⟨Tb, i, none⟩ u) Tb 93 (tc.setIfInBounds i u) :=
  ⟨G.set_ hD hC hz (fun _ hk => hk.2) u, T.set_ i u⟩
end

theorem GSt.trans {D Cb base : Nat} {ok : Nat → Prop} {w0 wA w' : World} {v0 vA v' : Value} {xA xs : List Term} (h : GSt D Cb base ok w0 v0 vA xA wA) (k : GSt D Cb base ok wA vA v' xs w') : GSt D Cb base ok w0 v0 v' xs w' :=
  ⟨k.dice, ⟨k.frm.os.trans h.frm.os, k.frm.tape.trans h.frm.tape, k.frm.output.trans h.frm.output, Nat.le_trans h.frm.size k.frm.size, fun b hb hl => (k.frm.block b ⟨hb.1, hb.2.1, by
      intro e
      rcases h.vb with e1 | ⟨c, e1, hc⟩
      · rw [e1] at e; exact hb.2.2 e
      · rw [e1] at e; injection e with e; omega⟩ (Nat.lt_of_lt_of_le hl h.frm.size)).trans (h.frm.block b hb hl)⟩, k.cb, k.own, by
    rcases k.vb with e | ⟨c, e, hc⟩
    · rw [e]; exact h.vb
    · exact .inr ⟨c, e, Nat.le_trans h.frm.size hc⟩⟩

theorem GSt.grown {D Cb base : Nat} {ok : Nat → Prop} {w0 w w1 : World} {v0 v u : Value} {xs : List Term} (h : GSt D Cb base ok w0 v0 v xs w) (hg : w.grownBy w1 u.ownBlock) (hok : ∀ k, ok k → some k ≠ u.ownBlock)
    (hu : ∀ k, u.ownBlock = some k → D < k ∧ Cb ≠ k ∧ w0.heap.size ≤ k) : GSt D Cb base ok w0 v0 v xs w1 := by
  have hD : ∀ k, k ≤ D → some k ≠ u.ownBlock := fun k hk e => by have := (hu k e.symm).1; omega
  refine ⟨?_, ⟨hg.os.trans h.frm.os, hg.tape.trans h.frm.tape, hg.output.trans h.frm.output, Nat.le_trans h.frm.size hg.size, fun b hb hl => (hg.block b (Nat.lt_of_lt_of_le hl h.frm.size) (fun e => by have := (hu b e.symm).2.2; omega)).trans (h.frm.block b hb hl)⟩,
    h.cb.grown hg (fun e => (hu Cb e.symm).2.1 rfl), h.own.step (fun k hk hl => hg.block k hl (hok k hk)) hg.size, h.vb⟩
  obtain ⟨A, c, i, ys, h1, h2, h3, h4, h5⟩ := h.dice
  exact ⟨A, c, i, ys, h1.grown hg (hD D (Nat.le_refl _)), h2, h3, h4, Kd.C_keep (fun k hk hl => hg.block k hl (hD k (by omega))) hg.size h5⟩

/-- What grow does at a depth. -/
def GrowC (bnd D Cb : Nat) (dep : Int) : Prop := ∀ (base : Nat) (ok : Nat → Prop) (w : World) (v : Value) (xs : List Term), DiceOk D w → D < Cb → Cb < base → Blk w Cb 30 #[v] → kTerm.Own 93 ok w base v xs → base ≤ w.heap.size →
  (∀ k, w.heap.size ≤ k → ok k) → (∀ k, ok k → k ≠ D ∧ k ≠ Cb) → xs.length ≤ 2000 →
  Calls Tryz.prog 79 #[.pointer (some ⟨D, 0, none⟩), .pointer (some ⟨Cb, 0, none⟩), .int .i64 dep] w fun e w' => e = .returned (.tuple #[]) ∧
    ∃ v' xs', GSt D Cb base ok w v v' xs' w' ∧ xs.length < xs'.length ∧ xs'.length ≤ xs.length + bnd

theorem grow_end {D Cb base Tb g n cg m : Nat} {ok : Nat → Prop} {w wc : World} {v0 : Value} {xs' : List Term} {t : Term} {Aa : Option Addr} {na ca : Nat} (hDC : D < Cb) (hCB : Cb < base) (hz : w.heap.size ≤ Tb)
    (HN : ∀ k, w.heap.size ≤ k → ok k) (HK : ∀ k, ok k → k ≠ D ∧ k ≠ Cb) (HGT : GSt D Cb base (fun k => ok k ∧ k ≠ Tb) w v0 (.slice (some ⟨g, 0, none⟩) n cg) xs' wc)
    (HHA : (Kd.int .i64).Own 3 (fun k => Tb < k) wc (Tb + 1) (.slice Aa na ca) t.args) (hta : t.args.length ≤ 10) (hm1 : m < xs'.length) :
    GSt D Cb base ok w v0 (.slice (some ⟨g, 0, none⟩) n cg) (xs'.set m t) ((((((wc.setCell ⟨g, m * 6, none⟩ (.int .i64 t.kind)).setCell ⟨g, m * 6 + 1, none⟩ (.int .i64 t.num)).setCell ⟨g, m * 6 + 2, none⟩ (.int .i64 t.years)).setCell ⟨g, m * 6 + 3, none⟩ (.string t.fld)).setCell ⟨g, m * 6 + 4, none⟩ (.string t.txt)).setCell ⟨g, m * 6 + 5, none⟩ (.slice Aa na ca)).drew := by
  have hgb := HGT.own.base_ge g rfl
  have hgok := (HGT.own.1 g rfl).1
  have hgD := HK g hgok
  have hX : kTerm.K (fun k => (ok k ∧ k ≠ Tb) ∧ some k ≠ some g) wc t [.int .i64 t.kind, .int .i64 t.num, .int .i64 t.years, .string t.fld, .string t.txt, .slice Aa na ca] := by
    obtain ⟨A, c, e, hl, hC⟩ := HHA.int_self.reads (by omega)
    injection e with eA en ec
    subst eA en ec
    refine kTerm_mk _ _ t hl (Kd.C_mono (by decide) (fun k hk _ => ⟨⟨HN k (by omega), by omega⟩, ?_⟩) hC)
    exact HHA.type_ne HGT.own (by decide) k hk.1
  have hO := Kd.Own.set6 rfl HGT.own m hm1 t _ _ _ _ _ _ hX
  have hfar := six_far wc g (m * 6) (.int .i64 t.kind) (.int .i64 t.num) (.int .i64 t.years) (.string t.fld) (.string t.txt) (.slice Aa na ca)
  have hDg : D < g := by omega
  have hs : ((((((wc.setCell ⟨g, m * 6, none⟩ (.int .i64 t.kind)).setCell ⟨g, m * 6 + 1, none⟩ (.int .i64 t.num)).setCell ⟨g, m * 6 + 2, none⟩ (.int .i64 t.years)).setCell ⟨g, m * 6 + 3, none⟩ (.string t.fld)).setCell ⟨g, m * 6 + 4, none⟩ (.string t.txt)).setCell ⟨g, m * 6 + 5, none⟩ (.slice Aa na ca)).heap.size = wc.heap.size := by simp [World.setCell]
  have hd := HGT.dice.far hDg hfar (Nat.le_of_eq hs.symm)
  have hos : ∀ W, W = (((((wc.setCell ⟨g, m * 6, none⟩ (.int .i64 t.kind)).setCell ⟨g, m * 6 + 1, none⟩ (.int .i64 t.num)).setCell ⟨g, m * 6 + 2, none⟩ (.int .i64 t.years)).setCell ⟨g, m * 6 + 3, none⟩ (.string t.fld)).setCell ⟨g, m * 6 + 4, none⟩ (.string t.txt)).setCell ⟨g, m * 6 + 5, none⟩ (.slice Aa na ca) → W.os = wc.os ∧ W.tape = wc.tape ∧ W.output = wc.output := by rintro W rfl; simp [World.setCell]
  have h0 := HGT.frm
  generalize (((((wc.setCell ⟨g, m * 6, none⟩ (.int .i64 t.kind)).setCell ⟨g, m * 6 + 1, none⟩ (.int .i64 t.num)).setCell ⟨g, m * 6 + 2, none⟩ (.int .i64 t.years)).setCell ⟨g, m * 6 + 3, none⟩ (.string t.fld)).setCell ⟨g, m * 6 + 4, none⟩ (.string t.txt)).setCell ⟨g, m * 6 + 5, none⟩ (.slice Aa na ca) = W at *
  replace hos := hos W rfl
  have hb := (Below.refl W.heap.size W).drew
  refine ⟨hd.keep hb, ⟨hos.1.trans h0.os, hos.2.1.trans h0.tape, hos.2.2.trans h0.output, Nat.le_trans h0.size (Nat.le_of_eq hs.symm), fun k hk hl => ?_⟩, ?_, (hO.mono fun k hk _ => hk.1).below hb, HGT.vb⟩
  · refine (hfar k ?_).trans (h0.block k hk hl)
    rintro rfl
    rcases HGT.vb with e | ⟨b, e, hb⟩
    · exact hk.2.2 e
    · have : k = b := by simpa [Value.ownBlock] using e
      omega
  · exact (hfar Cb (by omega)).trans HGT.cb

set_option maxRecDepth 100000 in
set_option maxHeartbeats 1000000 in
theorem grow_step (bnd D Cb : Nat) (dep : Int) (hb1 : 1 ≤ bnd) (hb3 : bnd ≤ 10) (hb2 : dep = 2 → 4 ≤ bnd) (hrec : dep = 2 → GrowC 1 D Cb (dep - 1)) (base : Nat) (ok : Nat → Prop) (w : World) (v : Value) (xs : List Term) (h1 : 1 ≤ dep) (h2 : dep ≤ 2)
    (hd : DiceOk D w) (hDC : D < Cb) (hCB : Cb < base) (hCb : Blk w Cb 30 #[v]) (ho : kTerm.Own 93 ok w base v xs) (hbase : base ≤ w.heap.size)
    (hnew : ∀ k, w.heap.size ≤ k → ok k) (hok : ∀ k, ok k → k ≠ D ∧ k ≠ Cb) (hx : xs.length ≤ 2000) (hx2 : dep = 2 → xs.length ≤ 1000) :
    Calls Tryz.prog 79 #[.pointer (some ⟨D, 0, none⟩), .pointer (some ⟨Cb, 0, none⟩), .int .i64 dep] w fun e w' => e = .returned (.tuple #[]) ∧
      ∃ v' xs', GSt D Cb base ok w v v' xs' w' ∧ xs.length < xs'.length ∧ xs'.length ≤ xs.length + bnd := by
  obtain ⟨Av, cv, rfl, hcv⟩ := ho.form
  have HREC := Lib.hid hrec; have HB2 := Lib.hid hb2; have HX2 := Lib.hid hx2
  clear hrec hb2 hx2
  have HD := Lib.hid hd; have HC := Lib.hid hCb; have HO := Lib.hid ho
  have HN := Lib.hid hnew; have HK := Lib.hid hok
  have c0 := hCb.cell 0
  clear hd hCb ho hnew hok
  go_enter Tryz.func79, Tryz.ntmps79
  go_wp2_with (
    (at_builtin
     refine Kd.own_append (d := kTerm) base 28 93 (.agg #[.int .i64 0, .int .i64 0, .int .i64 0, .string ⟨#[]⟩, .string ⟨#[]⟩, .slice none 0 0]) 80 rfl (.tmp 18) (.tmp 20) rfl Tryz.underlying28 infoTerm rfl (by decide) (by decide) (.slice Av xs.length cv) xs zTerm #[.int .i64 0, .int .i64 0, .int .i64 0, .string ⟨#[]⟩, .string ⟨#[]⟩, .slice none 0 0] rfl rfl HO.out (by exact kTerm_mk _ _ zTerm (Nat.le_refl _) (Kd.C_nil _ _ _ _)) HN.out hbase (by omega) ?_
     intro v1 w1 hown hg hat
     obtain ⟨A1, n1, c1, rfl, hn1⟩ : ∃ A n c, v1 = .slice A n c ∧ Hid (n = (xs ++ [zTerm]).length) := (by obtain ⟨A, c, e, _⟩ := hown.form; exact ⟨A, _, c, e, rfl⟩)
     have hne : some Cb ≠ (Value.slice Av xs.length cv).ownBlock := fun e => (HK.out Cb (HO.out.1 _ e.symm)).2 rfl
     have hbe : Below base w w1 := (Below.refl _ _).grown hg hbase (fun k hk => (HO.out.base_ge k hk).1)
     have K1 := Lib.hid (HC.out.grown hg hne)
     have k0 := K1.out.cell 0
     have f0 := K1.out.frozen 0
     have G0 : Hid (GSt D Cb base ok w (.slice Av xs.length cv) (.slice A1 n1 c1) (xs ++ [zTerm]) (w1.setCell ⟨Cb, 0, none⟩ (.slice A1 n1 c1))) :=
       ⟨(HD.out.below hbe (by omega)).set_ hDC _, ⟨hg.os, hg.tape, hg.output, by simpa [World.setCell] using hg.size, fun k hk hl => (Below.heap_setCell _ _ _ _ hk.2.1).trans (hg.block k hl hk.2.2)⟩, K1.out.set_ 0 _,
         hown.far (fun k hk _ => (HK.out k hk).2) _, hat⟩
     have hz1 : w.heap.size ≤ (w1.setCell ⟨Cb, 0, none⟩ (.slice A1 n1 c1)).heap.size := (by simpa [World.setCell] using hg.size)
     clear hown hg hat hne hbe K1 c0))
  clear k0 f0
  generalize hW1 : w1.setCell ⟨Cb, 0, none⟩ (.slice A1 n1 c1) = W1 at *
  clear hW1
  refine (next_any D 4 _ G0.out.dice (by omega) (by omega)).mono ?_
  rintro e w2 ⟨r, r0, r1, rfl, hd2, hf2⟩
  have G2 := Lib.hid (G0.out.next HK.out (by omega) hf2 hd2)
  have hz2 : w.heap.size ≤ w2.heap.size := Nat.le_trans hz1 hf2.size
  clear hd2 hf2 G0 hz1
  go_wp2_with fail
  have G3 := Lib.hid ((GSt.mono (ok' := fun k => ok k ∧ k ≠ w2.heap.size) G2.out (fun k hk hl => ⟨hk, by omega⟩)).keep ((Below.refl _ w2).alloc (Nat.le_refl _) (.cells #[.int .i64 0, .int .i64 (1 + r), .int .i64 0, .string ⟨#[]⟩, .string ⟨#[]⟩, .slice none 0 0] 93)))
  have T3 := Lib.hid (Blk.new w2 93 #[.int .i64 0, .int .i64 (1 + r), .int .i64 0, .string ⟨#[]⟩, .string ⟨#[]⟩, .slice none 0 0])
  have HK1 : Hid (∀ k, ok k ∧ k ≠ w2.heap.size → k ≠ D ∧ k ≠ Cb) := fun k hk => HK.out k hk.1
  have hDT : D < w2.heap.size := G2.out.dice.lt
  refine (next_any D 8 _ G3.out.dice (by omega) (by omega)).mono ?_
  rintro e w3 ⟨r', r0', r1', rfl, hd3, hf3⟩
  have G4 := Lib.hid (G3.out.next HK1.out (by omega) hf3 hd3)
  have T4 := Lib.hid (T3.out.frm hf3 (by show _ ≠ _; omega))
  clear hd3 hf3 G3 T3 G2
  obtain ⟨k, rfl⟩ := Int.eq_ofNat_of_zero_le r0'
  clear r0'
  go_upto_region 4 with fail
  go_cut [35] (fun v35 wx => ∃ b : Bool, v35 = .bool b ∧ Hid (dep = 1 → b = true) ∧ wx = w3)
  case first =>
    go_wp2_with fail
    all_goals go_meet
    all_goals exact ⟨_, rfl, fun h => by subst h; simp, rfl⟩
  obtain ⟨b, rfl, hb, rfl⟩ := hcut
  go_upto_if 35 with fail
  go_cut [8] (fun v8 wx => ∃ j : Nat, v8 = .int .i64 j ∧ j ≤ 7 ∧ (dep = 1 → 2 ≤ j) ∧ Hid (GSt D Cb base (fun k => ok k ∧ k ≠ w2.heap.size) w (.slice Av xs.length cv) (.slice A1 n1 c1) (xs ++ [zTerm]) wx) ∧ Hid (Blk wx w2.heap.size 93 #[.int .i64 0, .int .i64 (1 + r), .int .i64 0, .string ⟨#[]⟩, .string ⟨#[]⟩, .slice none 0 0]))
  case first =>
    go_wp2_with fail
    · refine (next_any D 6 _ G4.out.dice (by omega) (by omega)).mono ?_
      rintro e w4 ⟨q, q0, q1, rfl, hd4, hf4⟩
      have G5 := Lib.hid (G4.out.next HK1.out (by omega) hf4 hd4)
      have T5 := Lib.hid (T4.out.frm hf4 (by show _ ≠ _; omega))
      clear hd4 hf4
      go_wp2_with fail
      go_meet
      obtain ⟨m, rfl⟩ := Int.eq_ofNat_of_zero_le q0
      exact ⟨2 + m, by go_num, by omega, fun _ => by omega, G5.out, T5.out⟩
    · go_meet
      have hb' : b = false := by assumption
      exact ⟨k, rfl, by omega, fun h => absurd (hb.out h) (by simp [hb']), G4.out, T4.out⟩
  obtain ⟨j, rfl, hj, hdj, G5, T5⟩ := hcut
  clear G4 T4 hb
  have hCT : Cb ≠ w2.heap.size := by omega
  go_upto_block 0 with fail
  go_cut [] (fun wx => Hid (TSt bnd D Cb base ok w (.slice Av xs.length cv) xs.length w2.heap.size wx))
  case first =>
    have p0 := T5.out.cell 0
    have p1 := T5.out.cell 1
    have p2 := T5.out.cell 2
    have p3 := T5.out.cell 3
    have p4 := T5.out.cell 4
    have f0 := T5.out.frozen 0
    have f1 := T5.out.frozen 1
    have f2 := T5.out.frozen 2
    have f3 := T5.out.frozen 3
    have f4 := T5.out.frozen 4
    obtain h01 | rfl | rfl | rfl | rfl | rfl | rfl : j ≤ 1 ∨ j = 2 ∨ j = 3 ∨ j = 4 ∨ j = 5 ∨ j = 6 ∨ j = 7 := by omega
    · have hd2 : dep = 2 := by omega
      have hb4 : 4 ≤ bnd := HB2.out hd2
      have hx2 : xs.length ≤ 1000 := HX2.out hd2
      have HR := Lib.hid (HREC.out hd2)
      clear hd2
      have ht : ((j : Int) == 0) = true ∨ (((j : Int) == 0) = false ∧ ((j : Int) == 1) = true) := by
        rcases (by omega : j = 0 ∨ j = 1) with rfl | rfl
        · exact .inl rfl
        · exact .inr ⟨rfl, rfl⟩
      obtain ⟨g6, t6⟩ := two_sets G5.out T5.out hDT hCT hz2 0 (.int .i64 (1 + (j : Int)))
      obtain ⟨g7, t7⟩ := two_sets g6 t6 hDT hCT hz2 1 (.int .i64 0)
      have G7 := Lib.hid g7; have T7 := Lib.hid t7
      clear g6 t6 g7 t7
      rcases ht with ht | ⟨ht, ht2⟩
      all_goals
        go_wp2_with fail
        clear p0 p1 p2 p3 p4 f0 f1 f2 f3 f4
        refine (next_any D 2 _ G7.out.dice (by omega) (by omega)).mono ?_
        rintro e w8 ⟨q, q0, q1, rfl, hd8, hf8⟩
        have G8 := Lib.hid (G7.out.next HK1.out (by omega) hf8 hd8)
        have T8 := Lib.hid (T7.out.frm hf8 (by show _ ≠ _; omega))
        clear hd8 hf8 G7 T7
        obtain ⟨qn, rfl⟩ := Int.eq_ofNat_of_zero_le q0
        have hqn : qn < 2 := by omega
        clear q0 q1
        go_wp2_with fail
        have hinit : Hid (GSt D Cb base (fun k => (ok k ∧ k ≠ w2.heap.size) ∧ some k ≠ (Value.slice none 0 0).ownBlock) w (.slice Av xs.length cv) (.slice A1 n1 c1) (xs ++ [zTerm]) w8) := G8.out.mono (fun k hk _ => ⟨hk, by simp [Value.ownBlock]⟩)
        go_loopw [52] (fun v52 wr => ∃ (i : Nat) (tt : Term) (va vv : Value) (ys : List Term), v52 = .int .i64 i ∧ i ≤ 2 + qn
          ∧ Hid (GSt D Cb base (fun k => (ok k ∧ k ≠ w2.heap.size) ∧ some k ≠ va.ownBlock) w (.slice Av xs.length cv) vv ys wr)
          ∧ Hid (Blk wr w2.heap.size 93 #[.int .i64 tt.kind, .int .i64 tt.num, .int .i64 tt.years, .string tt.fld, .string tt.txt, va])
          ∧ Hid ((Kd.int .i64).Own 3 (fun k => w2.heap.size < k) wr (w2.heap.size + 1) va tt.args) ∧ tt.args.length ≤ i ∧ xs.length < ys.length ∧ ys.length ≤ xs.length + 1 + i ∧ w2.heap.size < wr.heap.size) (fun v52 _ => 2 + qn - (intOf v52).toNat)
        case atStart => exact ⟨0, ⟨1 + (j : Int), 0, 0, ⟨#[]⟩, ⟨#[]⟩, []⟩, .slice none 0 0, _, _, rfl, by omega, hinit.out, T8.out, Kd.Own.nil _ _ _ _ _, by simp, by simp, by simp, T8.out.lt⟩
        case round =>
          obtain ⟨i, tt, va, vv, ys, rfl, hi, GL, TL, AL, hal, hy1, hy2, hzr⟩ := hrel
          clear hinit G8 T8
          obtain ⟨Aa, na, ca, rfl⟩ : ∃ A n c, va = .slice A n c := (by obtain ⟨A, c, e, _⟩ := AL.out.form; exact ⟨A, _, c, e⟩)
          obtain ⟨Ay, cy, rfl, hcy⟩ := GL.out.own.form
          by_cases hlt : i < 2 + qn
          · have c0 := GL.out.cb.cell 0
            have p5 := TL.out.cell 5
            have f5 := TL.out.frozen 5
            go_upto_region 13 with fail
            go_cut [] (fun wx => ∃ va' : Value, Hid (GSt D Cb base (fun k => (ok k ∧ k ≠ w2.heap.size) ∧ some k ≠ va'.ownBlock) w (.slice Av xs.length cv) (.slice Ay ys.length cy) ys wx)
              ∧ Hid (Blk wx w2.heap.size 93 #[.int .i64 tt.kind, .int .i64 tt.num, .int .i64 tt.years, .string tt.fld, .string tt.txt, va'])
              ∧ Hid ((Kd.int .i64).Own 3 (fun k => w2.heap.size < k) wx (w2.heap.size + 1) va' (tt.args ++ [(ys.length : Int)])) ∧ w2.heap.size < wx.heap.size)
            case first =>
              have hbA := Lib.hid (((Below.refl wr.heap.size wr).alloc (Nat.le_refl _) (.cells #[.int .i64 (ys.length : Int)] 3)).drew)
              have hnA : Hid (∀ (jj : Nat) (u : Value), [Value.int .i64 (ys.length : Int)][jj]? = some u → (wr.alloc (.cells #[.int .i64 (ys.length : Int)] 3)).drew.cell? ((⟨wr.heap.size, 0, none⟩ : Addr).add jj) = some u) := cell_one_new wr _ _
              have GLA := Lib.hid (GL.out.keep hbA.out)
              have TLA := Lib.hid (TL.out.keep hbA.out)
              have ALA := Lib.hid (AL.out.below hbA.out)
              have hbs : w2.heap.size + 1 ≤ (wr.alloc (.cells #[.int .i64 (ys.length : Int)] 3)).drew.heap.size := Nat.le_trans hzr hbA.out.size
              go_region_law ((
                refine Kd.step_own_append (d := Kd.int .i64) (ok := fun k => w2.heap.size < k) (w2.heap.size + 1) 22 3 (.int .i64 0) 8 rfl (.tmp 55) (.tmp 61) rfl Tryz.underlying22 infoInt rfl (by decide) (by decide) (.slice Aa na ca) tt.args (ys.length : Int) ⟨wr.heap.size, 0, none⟩ [.int .i64 (ys.length : Int)] (by simp [Act.eval]) (by simp [Act.eval]) ALA.out hnA.out rfl (fun k hk => Nat.lt_of_lt_of_le hbs hk) hbs (by omega) ?_
                intro v9 w9 hown hg hat
                obtain ⟨A9, n9, c9, rfl⟩ : ∃ A n c, v9 = .slice A n c := (by obtain ⟨A, c, e, _⟩ := hown.form; exact ⟨A, _, c, e⟩)
                have hne9 : some w2.heap.size ≠ (Value.slice Aa na ca).ownBlock := (by intro e; have := AL.out.1 _ e.symm; omega)
                have T9 := Lib.hid (TLA.out.grown hg hne9)
                have G9 := Lib.hid ((GSt.mono (ok' := fun k => ((ok k ∧ k ≠ w2.heap.size) ∧ some k ≠ (Value.slice A9 n9 c9).ownBlock) ∧ some k ≠ (Value.slice Aa na ca).ownBlock) GLA.out (fun k hk hl => ⟨⟨hk.1, own_at_ne hat hk.2 hl⟩, hk.2⟩)).grown hg (fun k hk => hk.2) (fun k hk => by have := AL.out.1 k hk; exact ⟨by omega, by omega, by omega⟩))
                have A9' := Lib.hid hown
                have hat9 := Lib.hid hat
                have hz9 := Lib.hid hg.size
                have p9 := T9.out.cell 5
                have f9 := T9.out.frozen 5
                clear hown hg hat hne9))
              all_goals
                go_wp2_with fail
                go_meet
                refine ⟨.slice A9 n9 c9, ?_, ?_, ?_, ?_⟩
                · exact GSt.set_ (GSt.mono G9.out (fun k hk hl => hk.1)) hDT hCT hz2 (fun k hk => hk.1.2) _
                · exact T9.out.set_ 5 _
                · exact A9'.out.far (fun k hk _ => by show k ≠ w2.heap.size; omega) _
                · have := hz9.out; simp at this; simp [World.setCell]; omega
            obtain ⟨va', GC, TC, AC, hzc⟩ := hcut
            clear GL TL AL c0 p5 f5
            go_wp2_with fail
            refine (HR.out base (fun k => (ok k ∧ k ≠ w2.heap.size) ∧ some k ≠ va'.ownBlock) _ (.slice Ay ys.length cy) ys GC.out.dice hDC hCB GC.out.cb GC.out.own (Nat.le_trans hbase GC.out.frm.size)
              (fun k hk => ⟨⟨HN.out k (Nat.le_trans GC.out.frm.size hk), by omega⟩, fun e => by have := (AC.out.base_ge k e.symm).2; omega⟩) (fun k hk => HK.out k hk.1.1) (by omega)).mono ?_
            rintro e w10 ⟨rfl, vr, xr, G10, hl1, hl2⟩
            have hyo : some w2.heap.size ≠ (Value.slice Ay ys.length cy).ownBlock := fun e => (GC.out.own.1 _ e.symm).1.2 rfl
            have GT := Lib.hid (GC.out.trans G10)
            have TT : Hid (Blk w10 w2.heap.size 93 #[.int .i64 tt.kind, .int .i64 tt.num, .int .i64 tt.years, .string tt.fld, .string tt.txt, va']) := TC.out.frm G10.frm ⟨by omega, Ne.symm hCT, hyo⟩
            have AT : Hid ((Kd.int .i64).Own 3 (fun k => w2.heap.size < k) w10 (w2.heap.size + 1) va' (tt.args ++ [(ys.length : Int)])) :=
              (AC.out.int_self.step (fun k hk hl => G10.frm.block k ⟨by omega, by omega, AC.out.type_ne GC.out.own (by decide) k hk.1⟩ hl) G10.frm.size).mono (fun k hk _ => hk.2)
            have hz10 : w2.heap.size < w10.heap.size := Nat.lt_of_lt_of_le hzc G10.frm.size
            clear G10 GC TC AC
            go_wp2_with fail
            go_roundw
            case rel => exact ⟨i + 1, ⟨tt.kind, tt.num, tt.years, tt.fld, tt.txt, tt.args ++ [(ys.length : Int)]⟩, va', vr, xr, by go_num, by omega, GT.out, TT.out, AT.out, by simp; omega, by omega, by omega, hz10⟩
            case measure => simp [intOf]; omega
          · go_wp2
            go_meet
            exact ⟨tt, _, _, ys, GL.out.mono (fun k hk _ => hk.1), TL.out, AL.out, by omega, by omega, by omega⟩
    · go_wp2_with fail
      go_meet
      obtain ⟨g, t⟩ := two_sets G5.out T5.out hDT hCT hz2 0 (.int .i64 3)
      exact ⟨⟨3, 1 + r, 0, ⟨#[]⟩, ⟨#[]⟩, []⟩, .slice none 0 0, _, _, g, t, Kd.Own.nil _ _ _ _ _, by simp, by simp, by simp; omega⟩
    · go_wp2_with fail
      go_meet
      obtain ⟨g, t⟩ := two_sets G5.out T5.out hDT hCT hz2 0 (.int .i64 4)
      exact ⟨⟨4, 1 + r, 0, ⟨#[]⟩, ⟨#[]⟩, []⟩, .slice none 0 0, _, _, g, t, Kd.Own.nil _ _ _ _ _, by simp, by simp, by simp; omega⟩
    · go_wp2_with fail
      refine (next_any D 4 _ G5.out.dice (by omega) (by omega)).mono ?_
      rintro e w6 ⟨q, q0, q1, rfl, hd6, hf6⟩
      have G6 := Lib.hid (G5.out.next HK1.out (by omega) hf6 hd6)
      have T6 := Lib.hid (T5.out.frm hf6 (by show _ ≠ _; omega))
      clear hd6 hf6 p0 p1 p2 p3 p4 f0 f1 f2 f3 f4
      have p0 := T6.out.cell 0
      have p2 := T6.out.cell 2
      have f0 := T6.out.frozen 0
      have f2 := T6.out.frozen 2
      go_wp2_with fail
      go_meet
      obtain ⟨g, t⟩ := two_sets G6.out T6.out hDT hCT hz2 0 (.int .i64 5)
      obtain ⟨g, t⟩ := two_sets g t hDT hCT hz2 2 (.int .i64 q)
      exact ⟨⟨5, 1 + r, q, ⟨#[]⟩, ⟨#[]⟩, []⟩, .slice none 0 0, _, _, g, t, Kd.Own.nil _ _ _ _ _, by simp, by simp, by simp; omega⟩
    · go_wp2_with fail
      have hst := Lib.hid (strs_of_blk (Blk.new wc 9 #[.string ⟨#[119, 111, 114, 100, 115]⟩, .string ⟨#[97, 99, 116, 115]⟩, .string ⟨#[111, 116, 104, 101, 114]⟩]) [⟨#[119, 111, 114, 100, 115]⟩, ⟨#[97, 99, 116, 115]⟩, ⟨#[111, 116, 104, 101, 114]⟩] rfl (by decide))
      have G6 := Lib.hid (G5.out.keep ((Below.refl _ wc).alloc (Nat.le_refl _) (.cells #[.string ⟨#[119, 111, 114, 100, 115]⟩, .string ⟨#[97, 99, 116, 115]⟩, .string ⟨#[111, 116, 104, 101, 114]⟩] 9)))
      have T6 := Lib.hid (T5.out.alloc (.cells #[.string ⟨#[119, 111, 114, 100, 115]⟩, .string ⟨#[97, 99, 116, 115]⟩, .string ⟨#[111, 116, 104, 101, 114]⟩] 9))
      refine (word_any D _ G6.out.dice (some ⟨wc.heap.size, 0, none⟩) 3 [⟨#[119, 111, 114, 100, 115]⟩, ⟨#[97, 99, 116, 115]⟩, ⟨#[111, 116, 104, 101, 114]⟩] (Kd.C_mono (by decide) (fun k hk _ => by have := G5.out.dice.lt; show k ≠ D; omega) hst.out) (by decide) (by decide)).mono ?_
      rintro e w6 ⟨q, _, rfl, hd6, hf6⟩
      have G7 := Lib.hid (G6.out.next HK1.out (by omega) hf6 hd6)
      have T7 := Lib.hid (T6.out.frm hf6 (by show _ ≠ _; omega))
      clear hd6 hf6 p0 p1 p2 p3 p4 f0 f1 f2 f3 f4 hst G6 T6
      have p0 := T7.out.cell 0
      have p3 := T7.out.cell 3
      have p4 := T7.out.cell 4
      have f0 := T7.out.frozen 0
      have f3 := T7.out.frozen 3
      have f4 := T7.out.frozen 4
      go_wp2_with fail
      go_meet
      obtain ⟨g, t⟩ := two_sets G7.out T7.out hDT hCT hz2 0 (.int .i64 7)
      obtain ⟨g, t⟩ := two_sets g t hDT hCT hz2 3 (.string ⟨#[107, 105, 110, 100]⟩)
      obtain ⟨g, t⟩ := two_sets g t hDT hCT hz2 4 (.string q)
      exact ⟨⟨7, 1 + r, 0, ⟨#[107, 105, 110, 100]⟩, q, []⟩, .slice none 0 0, _, _, g, t, Kd.Own.nil _ _ _ _ _, by simp, by simp, by simp; omega⟩
    · go_wp2_with fail
      go_meet
      obtain ⟨g, t⟩ := two_sets G5.out T5.out hDT hCT hz2 0 (.int .i64 6)
      obtain ⟨g, t⟩ := two_sets g t hDT hCT hz2 1 (.int .i64 0)
      exact ⟨⟨6, 0, 0, ⟨#[]⟩, ⟨#[]⟩, []⟩, .slice none 0 0, _, _, g, t, Kd.Own.nil _ _ _ _ _, by simp, by simp, by simp; omega⟩
    · go_wp2_with fail
      go_meet
      obtain ⟨g, t⟩ := two_sets G5.out T5.out hDT hCT hz2 0 (.int .i64 8)
      obtain ⟨g, t⟩ := two_sets g t hDT hCT hz2 1 (.int .i64 0)
      exact ⟨⟨8, 0, 0, ⟨#[]⟩, ⟨#[]⟩, []⟩, .slice none 0 0, _, _, g, t, Kd.Own.nil _ _ _ _ _, by simp, by simp, by simp; omega⟩
  have HT := Lib.hid hcut.out
  clear hcut G5 T5
  go_upto_region 26 with fail
  obtain ⟨t, va, v', xs', GT, TT, HA, hta, hm1, hm2⟩ := HT.out
  obtain ⟨Aa, na, ca, rfl⟩ : ∃ A n c, va = .slice A n c := (by obtain ⟨A, c, e, _⟩ := HA.form; exact ⟨A, _, c, e⟩)
  obtain ⟨g, cg, hv', hgc⟩ : ∃ g c, v' = .slice (some ⟨g, 0, none⟩) xs'.length c ∧ xs'.length ≤ c := (by
    obtain ⟨css, _, _, ho, _⟩ := GT.own.lens
    obtain ⟨g, c, e, _, _⟩ := ho.form (by omega)
    rcases ho.2 with ⟨h1, h2⟩ | ⟨g', c', cur, h1, _, _, h3, _⟩
    · omega
    · exact ⟨g', c', h1, h3⟩)
  subst hv'
  have p0 := TT.cell 0
  have p1 := TT.cell 1
  have p2 := TT.cell 2
  have p3 := TT.cell 3
  have p4 := TT.cell 4
  have p5 := TT.cell 5
  have c0 := GT.cb.cell 0
  have hxs : (xs'.length : Int) ≤ 9223372036854775807 := by omega
  have hlt : (xs.length : Int) < (xs'.length : Int) := by omega
  obtain ⟨u0, u1, u2, u3, u4, u5, r0', r1'', r2', r3', r4', r5', hfr⟩ := Kd.Own.cells6 rfl GT.own xs.length hm1
  have g0 := hfr (xs.length * 6)
  have g1 := hfr (xs.length * 6 + 1)
  have g2 := hfr (xs.length * 6 + 2)
  have g3 := hfr (xs.length * 6 + 3)
  have g4 := hfr (xs.length * 6 + 4)
  have g5 := hfr (xs.length * 6 + 5)
  have HGT := Lib.hid GT; have HTT := Lib.hid TT; have HHA := Lib.hid HA
  clear GT TT HA HT hfr
  go_still_tail 7, (by kernel_rfl)
  go_wp2
  go_end0
  refine ⟨rfl, .slice (some ⟨g, 0, none⟩) xs'.length cg, xs'.set xs.length t, ?_, by simp; omega, by simp; omega⟩
  exact grow_end hDC hCB hz2 HN.out HK.out HGT.out HHA.out hta hm1

theorem grow1 (D Cb : Nat) : GrowC 1 D Cb 1 := by
  intro base ok w v xs hd hDC hCB hCb ho hbase hnew hok hx
  exact grow_step 1 D Cb 1 (by omega) (by omega) (by omega) (by omega) base ok w v xs (by omega) (by omega) hd hDC hCB hCb ho hbase hnew hok hx (by omega)
theorem grow2 (D Cb : Nat) (base : Nat) (ok : Nat → Prop) (w : World) (v : Value) (xs : List Term) (hd : DiceOk D w) (hDC : D < Cb) (hCB : Cb < base) (hCb : Blk w Cb 30 #[v]) (ho : kTerm.Own 93 ok w base v xs)
    (hbase : base ≤ w.heap.size) (hnew : ∀ k, w.heap.size ≤ k → ok k) (hok : ∀ k, ok k → k ≠ D ∧ k ≠ Cb) (hx : xs.length ≤ 1000) :
    Calls Tryz.prog 79 #[.pointer (some ⟨D, 0, none⟩), .pointer (some ⟨Cb, 0, none⟩), .int .i64 2] w fun e w' => e = .returned (.tuple #[]) ∧
      ∃ v' xs', GSt D Cb base ok w v v' xs' w' ∧ xs.length < xs'.length ∧ xs'.length ≤ xs.length + 4 :=
  grow_step 4 D Cb 2 (by omega) (by omega) (by omega) (fun _ => grow1 D Cb) base ok w v xs (by omega) (by omega) hd hDC hCB hCb ho hbase hnew hok (by omega) (fun _ => hx)

set_option maxHeartbeats 400000 in
theorem condition_any (D : Nat) (w : World) (hd : DiceOk D w) :
    Calls Tryz.prog 38 #[.pointer (some ⟨D, 0, none⟩), .int .i64 2] w fun e w' =>
      ∃ (A : Option Addr) (c : Nat) (xs : List Term), e = .returned (.agg #[.slice A xs.length c]) ∧ xs.length ≤ c ∧ xs.length ≤ 4 ∧ kTerm.C (fun k => w.heap.size ≤ k) w' A xs.length xs ∧ DiceOk D w' ∧ Frm (But D) w w' := by
  have HD := Lib.hid hd
  have hlt := hd.lt
  clear hd
  have hB := Lib.hid (((Below.refl w.heap.size w).alloc (Nat.le_refl _) (.cells #[.slice none 0 0] 30)).alloc (by simp) (.cells #[.slice none 0 0] 30))
  have hR := Lib.hid ((Blk.new w 30 #[.slice none 0 0]).alloc (.cells #[.slice none 0 0] 30))
  have hC := Lib.hid (Blk.new' (w.alloc (.cells #[.slice none 0 0] 30)) 30 #[.slice none 0 0] (w.heap.size + 1) (by simp))
  go_enter Tryz.func38, Tryz.ntmps38
  go_wp2_with fail
  refine (grow2 D (w.heap.size + 1) (w.heap.size + 2) (fun k => w.heap.size + 2 ≤ k) _ (.slice none 0 0) [] (HD.out.keep hB.out) (by omega) (by omega) hC.out (Kd.Own.nil _ _ _ _ _) (by simp) (fun k hk => by simpa using hk) (fun k hk => ⟨by omega, by omega⟩) (by simp)).mono ?_
  rintro e w' ⟨rfl, v', xs, G, _, hl⟩
  obtain ⟨A, c, hv, hc, hC'⟩ := G.own.reads (by simp at hl; omega)
  obtain ⟨n, hn, rfl⟩ : ∃ n, Hid (n = xs.length) ∧ v' = .slice A n c := ⟨_, rfl, hv⟩
  have hzz : w.heap.size + 2 ≤ w'.heap.size := by have := G.frm.size; simpa using this
  have K := Lib.hid (hR.out.frm G.frm ⟨by omega, by omega, by simp [Value.ownBlock]⟩)
  have F := Lib.hid (show Frm (But D) w w' from ⟨G.frm.os.trans hB.out.os, G.frm.tape.trans hB.out.tape, G.frm.output.trans hB.out.output, by omega, fun k hk hl => (G.frm.block k ⟨hk, by omega, by simp [Value.ownBlock]⟩ (by simp; omega)).trans (hB.out.block k hl)⟩)
  have p1 := G.cb.cell 0
  have p0 := K.out.cell 0
  have f0 := K.out.frozen 0
  have HG := Lib.hid G; have HC' := Lib.hid hC'; have HC1 := Lib.hid hc; have HL := Lib.hid hl
  clear G hC' hc hl hv
  go_wp2_with fail
  refine bodyPost_ret (v := .agg #[.slice A n c]) (by simp [results, Tryz.results38, go_sem, p0]) rfl ⟨A, c, xs, by rw [← hn.out], HC1.out, by have := HL.out; simpa using this, ?_, ?_, ?_⟩
  · exact Kd.C_keep (fun k hk hl => Below.heap_setCell _ _ _ _ (by show k ≠ w.heap.size; omega)) (by simp [World.setCell]) (Kd.C_mono (by decide) (fun k hk _ => hk) HC'.out) |> fun h => Kd.C_mono (by decide) (fun k hk _ => by omega) h
  · exact HG.out.dice.set_ (by show D < w.heap.size; omega) _
  · exact ⟨F.out.os, F.out.tape, F.out.output, by simpa [World.setCell] using F.out.size, fun k hk hl => (Below.heap_setCell _ _ _ _ (by show k ≠ w.heap.size; omega)).trans (F.out.block k hk hl)⟩
end Go.Proofs.YtmeipcnicfaojaaGreatDoor
