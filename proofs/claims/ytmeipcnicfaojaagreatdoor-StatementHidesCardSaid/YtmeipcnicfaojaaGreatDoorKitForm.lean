/- The kit's forms: the walk. What a form holds is left open; that it is one is told. -/
import Derived.Test.YtmeipcnicfaojaaGreatDoorKitStmt
import Derived.ArgAppend
namespace Go.Proofs.YtmeipcnicfaojaaGreatDoor
open Go.RowKit

namespace Kd
section
variable {α : Type} {d : Kd α} {ok : Nat → Prop} {w : World}
theorem own_of_blk {e : TypeId} {g base : Nat} {cs : Array Value} {xs : List α} (h : Blk w g e cs) (css : List (List Value)) (hc : cs.toList = css.flatten) (hl : css.length = xs.length) (hbase : base ≤ g) (hn : cs.size = xs.length * d.sz) (hmax : xs.length ≤ maxLen) (hok : ok g)
    (hK : ∀ (i : Nat) (x : α) (c : List Value), xs[i]? = some x → css[i]? = some c → d.K (fun k => ok k ∧ k ≠ g) w x c) : d.Own e ok w base (.slice (some ⟨g, 0, none⟩) xs.length xs.length) xs := by
  refine ⟨fun k hk => ?_, css, hl, ⟨by rw [← hc]; simpa using hn, .inr ⟨g, xs.length, cs, rfl, hbase, h, Nat.le_refl _, hmax, hn, ?_⟩⟩, fun i x c hx hcs => ?_⟩
  · simp [Value.ownBlock] at hk
    rw [← hk]
    exact hok
  · rw [hc, List.take_of_length_le]
    rw [← hc]
    simp [hn]
  · exact d.mono (fun k hk _ => ⟨hk.1, by simp [Value.ownBlock]; exact hk.2⟩) (hK i x c hx hcs)
theorem C_take {A : Option Addr} {n m : Nat} {xs : List α} (h : d.C ok w A n xs) (hm : m ≤ n) : d.C ok w A m (xs.take m) := by
  obtain ⟨h1, h2, h3⟩ := h
  refine ⟨by simp; omega, by omega, fun hp => ?_⟩
  obtain ⟨ad, e, ho, hc⟩ := h3 (by omega)
  refine ⟨ad, e, ho, fun j x hj => ?_⟩
  have hj' : j < m := by
    have := (List.getElem?_eq_some_iff.1 hj).1
    simp at this
    omega
  exact hc j x (by rwa [List.getElem?_take_of_lt hj'] at hj)
end
/-- append of one onto a row that is full, whoever it belongs to: a new row. -/
theorem step_full_append {P : Program} {α : Type} {d : Kd α} {ok : Nat → Prop} {w : World} {ops : Array Oper} {o : Oper} {a : Act} {K : Act → World → Prop} {Q : Exit → Act → World → Prop} {E : Prop} (t e : TypeId) (z : Value) (bytes : Nat) (hgd : o.guard = none) (s x : Operand)
    (ho : o.op = .call { callee := .builtin .append, args := #[s, x], argTypes := #[t, t] })
    (ht : P.underlying t = some (.slice e)) (hinfo : (P.info? e).map (fun i => (i.zero, i.size, i.bytes)) = some (some z, d.sz, bytes)) (hz : z.cells.size = d.sz) (hsz : d.sz = 1) (hb0 : 0 < bytes)
    (A : Option Addr) (xs : List α) (y : α) (ad : Addr) (u : Value) (hs : a.eval s = .slice A xs.length xs.length) (hx : a.eval x = .slice (some ad) 1 1) (hC : d.C ok w A xs.length xs) (hn : w.cell? ad = some u)
    (hnil : xs.length = 0 → A = none) (hd : ∀ (ok : Nat → Prop) (w : World) (x : α) (cs : List Value), d.K ok w x cs → ∀ (ok' : Nat → Prop) (w' : World), d.K ok' w' x cs) (hy : d.K ok w y [u]) (hl : (xs.length + 1) * bytes ≤ 140737488355328)
    (h : ∀ v1 w1, d.Own e (fun k => w.heap.size ≤ k) w1 w.heap.size v1 (xs ++ [y]) → Below w.heap.size w w1 → K (a.put o.dst v1) w1) :
    if Region.wanted o (yielded ops a.tmps) = true then Oper.wp P o a w K Q else E := by
  by_cases h0 : xs.length = 0
  · obtain rfl := hnil h0
    obtain rfl := List.eq_nil_of_length_eq_zero h0
    refine step_own_append (d := d) (ok := fun k => w.heap.size ≤ k) w.heap.size t e z bytes hgd s x ho ht hinfo hz (by omega) hb0 (.slice none 0 0) [] y ad [u] hs hx (Own.nil _ _ _ _ _) ?_ (hd _ _ _ _ hy _ _) (fun k hk => hk) (Nat.le_refl _) hl ?_
    · intro j v hj
      match j, hj with
      | 0, hj =>
        simp at hj
        subst hj
        simpa [Addr.add] using hn
    · intro v1 w1 hown hg _
      exact h v1 w1 hown ⟨hg.os, hg.tape, hg.output, hg.size, fun k hk => hg.block k hk (by simp [Value.ownBlock])⟩
  · have hw : Region.wanted o (yielded ops a.tmps) = true := by simp [Region.wanted, hgd]
    rw [if_pos hw]
    obtain ⟨i0, hi, hzz⟩ := Option.map_eq_some_iff.1 hinfo
    simp only [Prod.mk.injEq] at hzz
    obtain ⟨hz0, hz1, hz2⟩ := hzz
    obtain ⟨hcl, hcm, hcc⟩ := hC
    obtain ⟨b, rfl, hob, hrow⟩ := hcc (by omega)
    have hch : ∃ css : List Value, css.length = xs.length ∧ (∀ (j : Nat) (v : Value), css[j]? = some v → w.cell? (b.add j) = some v) ∧ (∀ (j : Nat) (v : Value) (x : α), css[j]? = some v → xs[j]? = some x → d.K ok w x [v]) := by
      have hv : ∀ j, j < xs.length → ∃ v, w.cell? (b.add j) = some v ∧ ∀ x, xs[j]? = some x → d.K ok w x [v] := by
        intro j hj
        obtain ⟨cs, hK, hcs⟩ := hrow j xs[j] (List.getElem?_eq_getElem hj)
        have hlen := d.len hK
        rw [hsz] at hlen
        match cs, hlen with
        | [v], _ =>
          refine ⟨v, ?_, fun x hx => ?_⟩
          · have := hcs 0 v rfl
            rwa [hsz, Nat.mul_one, Nat.add_zero] at this
          · rw [List.getElem?_eq_getElem hj] at hx
            injection hx with hx
            rw [← hx]
            exact hK
      refine ⟨List.ofFn (fun j : Fin xs.length => (hv j j.2).choose), by simp, fun j v hj => ?_, fun j v x hj hx => ?_⟩
      · have hjl : j < xs.length := by
          have := (List.getElem?_eq_some_iff.1 hj).1
          simpa using this
        rw [List.getElem?_ofFn, dif_pos hjl] at hj
        injection hj with hj
        rw [← hj]
        exact (hv j hjl).choose_spec.1
      · have hjl : j < xs.length := (List.getElem?_eq_some_iff.1 hx).1
        rw [List.getElem?_ofFn, dif_pos hjl] at hj
        injection hj with hj
        rw [← hj]
        exact (hv j hjl).choose_spec.2 x hx
    obtain ⟨css, hl1, hc1, hK1⟩ := hch
    obtain ⟨v1, w1, hr, hown, hg⟩ := run_append_arg_grows (P := P) w t o.type e i0 z 1 bytes ht hi hz0 (by rw [hz1, hsz]) hz2 (by rw [hz, hsz]) (by omega) b xs.length xs.length css (by omega) hc1 ad 1 1 [u] rfl (by
      intro j v hj
      match j, hj with
      | 0, hj =>
        simp at hj
        subst hj
        simpa [Addr.add] using hn) (by omega) (by have := Nat.le_trans (Nat.le_mul_of_pos_right (xs.length + 1) hb0) hl; simp only [maxLen]; omega) hl
    have hB : Below w.heap.size w w1 := ⟨hg.os, hg.tape, hg.output, hg.size, fun k hk => hg.block k hk (by simp)⟩
    unfold Oper.wp execOp
    simp only [ho, resolve, invoke, builtin, Sem.run_bind, Sem.run_pure, Result.andThen_ok, List.map_toArray, List.map_cons, List.map_nil, hs, hx, hr]
    refine h v1 w1 ⟨fun k hk => (hown.lt k hk).1, (css ++ [u]).map (fun v => [v]), by simp [hl1], ?_, ?_⟩ hB
    · have : ((css ++ [u]).map (fun v => [v])).flatten = css ++ [u] := by
        generalize css ++ [u] = l
        induction l with
        | nil => rfl
        | cons a l ih => simp only [List.map_cons, List.flatten_cons, ih]; rfl
      rw [this, hsz]
      simpa using hown
    · intro i x cs hx hcs
      rw [List.getElem?_map] at hcs
      rcases Nat.lt_or_ge i xs.length with hi | hi
      · rw [List.getElem?_append_left hi] at hx
        rw [List.getElem?_append_left (by omega)] at hcs
        obtain ⟨v, hv, rfl⟩ := Option.map_eq_some_iff.1 hcs
        exact hd _ _ _ _ (hK1 i v x hv hx) _ _
      · rw [List.getElem?_append_right hi] at hx
        rw [List.getElem?_append_right (by omega), hl1] at hcs
        have hi0 : i - xs.length = 0 := by
          have := (List.getElem?_eq_some_iff.1 hx).1
          simp at this
          omega
        rw [hi0] at hx hcs
        simp at hx hcs
        subst hx hcs
        exact hd _ _ _ _ hy _ _
end Kd
theorem infoStr : (Tryz.prog.info? 9).map (fun i => (i.zero, i.size, i.bytes)) = some (some (.string ⟨#[]⟩), 1, 16) := by kernel_rfl
theorem Kd.string_any (ok : Nat → Prop) (w : World) (x : ByteArray) (cs : List Value) (h : Kd.string.K ok w x cs) (ok' : Nat → Prop) (w' : World) : Kd.string.K ok' w' x cs := h

/-- A form that is being made: block g holds its fields, block bx the form itself. -/
structure FSt (D : Nat) (w0 : World) (g bx r : Nat) (t : ByteArray) (xs : List Fld) (w : World) : Prop where
  dice : DiceOk D w
  frm : Frm (But D) w0 w
  rb : Blk w w0.heap.size 37 #[.string ⟨#[]⟩, .slice none 0 0]
  fb : Blk w bx 37 #[.string t, .slice (some ⟨g, 0, none⟩) r 4]
  own : kFld.Own 65 (fun k => w0.heap.size < k ∧ k ≠ bx) w (w0.heap.size + 1) (.slice (some ⟨g, 0, none⟩) 4 4) xs
  len : xs.length = 4
section
variable {D : Nat} {w0 w w' : World} {g bx r : Nat} {t : ByteArray} {xs : List Fld}
theorem FSt.gb (h : FSt D w0 g bx r t xs w) : w0.heap.size < g ∧ g ≠ bx := h.own.1 g rfl
theorem FSt.step (h : FSt D w0 g bx r t xs w) (hD : D < w0.heap.size) (hb : w0.heap.size < bx) (hf : Frm (But D) w w') (hd : DiceOk D w') : FSt D w0 g bx r t xs w' :=
  ⟨hd, h.frm.trans hf, h.rb.frm hf (by show _ ≠ D; omega), h.fb.frm hf (by show _ ≠ D; omega), h.own.frm (hf.mono fun k hk _ => by show k ≠ D; omega), h.len⟩
theorem FSt.keep (h : FSt D w0 g bx r t xs w) (hD : D < w0.heap.size) (hb : w0.heap.size < bx) (hf : Below w.heap.size w w') : FSt D w0 g bx r t xs w' := h.step hD hb (Frm.of_below hf) (h.dice.keep hf)
theorem FSt.put (h : FSt D w0 g bx r t xs w) (hD : D < w0.heap.size) (i j : Nat) (hi : i < 4) (hj : j < 6) (u : Value) (x : Fld)
    (hx : ∀ cs, kFld.K (fun k => (w0.heap.size < k ∧ k ≠ bx) ∧ some k ≠ some g) w (xs.getD i zFld) cs → kFld.K (fun k => (w0.heap.size < k ∧ k ≠ bx) ∧ some k ≠ some g) w x (cs.set j u)) : FSt D w0 g bx r t (xs.set i x) (w.setCell ⟨g, i * 6 + j, none⟩ u) := by
  have hg := h.gb
  have hb : (⟨g, i * 6 + j, none⟩ : Addr).block = g := rfl
  have hl := h.len
  refine ⟨h.dice.set_ (by rw [hb]; omega) u, ⟨h.frm.os, h.frm.tape, h.frm.output, by simpa [World.setCell] using h.frm.size, fun k ho hl => (Below.heap_setCell w _ u k (by rw [hb]; omega)).trans (h.frm.block k ho hl)⟩, h.rb.far (by rw [hb]; omega) u, h.fb.far (by rw [hb]; omega) u, ?_, by simp [hl]⟩
  exact h.own.put i j (by omega) hj u x (fun cs hcs => hx cs (by rw [getD_lt _ (by omega)]; exact hcs))
theorem FSt.put0 (h : FSt D w0 g bx r t xs w) (hD : D < w0.heap.size) (i : Nat) (hi : i < 4) (u : ByteArray) : ∃ ys, FSt D w0 g bx r t ys (w.setCell ⟨g, i * 6, none⟩ (.string u)) :=
  ⟨_, h.put hD i 0 hi (by omega) (.string u) { xs.getD i zFld with name := u } (fun cs hcs => by
    obtain ⟨A, c, rfl, hl, hC⟩ := kFld_open hcs
    exact kFld_mk _ _ { xs.getD i zFld with name := u } hl hC)⟩
theorem FSt.put1 (h : FSt D w0 g bx r t xs w) (hD : D < w0.heap.size) (i : Nat) (hi : i < 4) (u : Int) : ∃ ys, FSt D w0 g bx r t ys (w.setCell ⟨g, i * 6 + 1, none⟩ (.int .i64 u)) :=
  ⟨_, h.put hD i 1 hi (by omega) (.int .i64 u) { xs.getD i zFld with kind := u } (fun cs hcs => by
    obtain ⟨A, c, rfl, hl, hC⟩ := kFld_open hcs
    exact kFld_mk _ _ { xs.getD i zFld with kind := u } hl hC)⟩
theorem FSt.put3 (h : FSt D w0 g bx r t xs w) (hD : D < w0.heap.size) (i : Nat) (hi : i < 4) (u : Int) : ∃ ys, FSt D w0 g bx r t ys (w.setCell ⟨g, i * 6 + 3, none⟩ (.int .i64 u)) :=
  ⟨_, h.put hD i 3 hi (by omega) (.int .i64 u) { xs.getD i zFld with least := u } (fun cs hcs => by
    obtain ⟨A, c, rfl, hl, hC⟩ := kFld_open hcs
    exact kFld_mk _ _ { xs.getD i zFld with least := u } hl hC)⟩
theorem FSt.put4 (h : FSt D w0 g bx r t xs w) (hD : D < w0.heap.size) (i : Nat) (hi : i < 4) (u : Int) : ∃ ys, FSt D w0 g bx r t ys (w.setCell ⟨g, i * 6 + 4, none⟩ (.int .i64 u)) :=
  ⟨_, h.put hD i 4 hi (by omega) (.int .i64 u) { xs.getD i zFld with most := u } (fun cs hcs => by
    obtain ⟨A, c, rfl, hl, hC⟩ := kFld_open hcs
    exact kFld_mk _ _ { xs.getD i zFld with most := u } hl hC)⟩
theorem FSt.put5 (h : FSt D w0 g bx r t xs w) (hD : D < w0.heap.size) (i : Nat) (hi : i < 4) (A : Option Addr) (c : Nat) (os : List ByteArray) (hl : os.length ≤ c) (hC : Kd.string.C (fun k => (w0.heap.size < k ∧ k ≠ bx) ∧ some k ≠ some g) w A os.length os) : ∃ ys, FSt D w0 g bx r t ys (w.setCell ⟨g, i * 6 + 5, none⟩ (.slice A os.length c)) :=
  ⟨_, h.put hD i 5 hi (by omega) (.slice A os.length c) { xs.getD i zFld with opts := os } (fun cs hcs => by
    obtain ⟨A', c', rfl, _, _⟩ := kFld_open hcs
    exact kFld_mk _ _ { xs.getD i zFld with opts := os } hl hC)⟩
theorem FSt.cellsAt (h : FSt D w0 g bx r t xs w) (i : Nat) (hi : i < 4) : ∃ A c, w.cell? ⟨g, i * 6, none⟩ = some (.string (xs.getD i zFld).name) ∧ w.cell? ⟨g, i * 6 + 1, none⟩ = some (.int .i64 (xs.getD i zFld).kind) ∧ w.cell? ⟨g, i * 6 + 2, none⟩ = some (.bool (xs.getD i zFld).needed) ∧ w.cell? ⟨g, i * 6 + 3, none⟩ = some (.int .i64 (xs.getD i zFld).least) ∧ w.cell? ⟨g, i * 6 + 4, none⟩ = some (.int .i64 (xs.getD i zFld).most)
    ∧ w.cell? ⟨g, i * 6 + 5, none⟩ = some (.slice A (xs.getD i zFld).opts.length c) ∧ Kd.string.C (fun k => (w0.heap.size < k ∧ k ≠ bx) ∧ some k ≠ some g) w A (xs.getD i zFld).opts.length (xs.getD i zFld).opts ∧ ∀ j, w.frozen? ⟨g, j, none⟩ = false := by
  obtain ⟨cs, hK, hcs, hf⟩ := h.own.cellsAt i (by rw [h.len]; exact hi)
  rw [← getD_lt zFld (by rw [h.len]; exact hi)] at hK
  obtain ⟨A, c, rfl, hl, hC⟩ := kFld_open hK
  exact ⟨A, c, hcs 0 _ rfl, hcs 1 _ rfl, hcs 2 _ rfl, hcs 3 _ rfl, hcs 4 _ rfl, hcs 5 _ rfl, hC, hf⟩
/-- The fields as the kit writes them. -/
def kitFlds (b2 b3 : Bool) : List Fld := [⟨⟨#[119, 104, 97, 116]⟩, 1, b2, 0, 20, []⟩, ⟨⟨#[107, 105, 110, 100]⟩, 4, b3, 0, 0, [⟨#[119, 111, 114, 100, 115]⟩, ⟨#[97, 99, 116, 115]⟩]⟩, ⟨⟨#[116, 105, 109, 101, 115]⟩, 2, false, -1, 9, []⟩, ⟨⟨#[117, 110, 116, 105, 108]⟩, 3, false, 0, 3652058, []⟩]
/-- The rows of choices are full. -/
def Caps (g : Nat) (w : World) : Prop := ∀ i, i < 4 → ∃ A n, w.cell? ⟨g, i * 6 + 5, none⟩ = some (.slice A n n) ∧ (n = 0 → A = none) ∧ n ≤ 2
theorem Caps.frm {ok : Nat → Prop} (h : Caps g w) (hf : Frm ok w w') (hg : ok g) : Caps g w' := fun i hi => by
  obtain ⟨A, n, h1, h2⟩ := h i hi
  exact ⟨A, n, hf.cell hg h1, h2⟩
theorem FSt.start {b : Nat} {b2 b3 : Bool} (hg : b < g) (hb : w0.heap.size < b) (hd : DiceOk D w) (hf : Frm (But D) w0 w) (hr : Blk w w0.heap.size 37 #[.string ⟨#[]⟩, .slice none 0 0])
    (hB : Blk w g 65 #[.string ⟨#[119, 104, 97, 116]⟩, .int .i64 1, .bool b2, .int .i64 0, .int .i64 20, .slice none 0 0, .string ⟨#[107, 105, 110, 100]⟩, .int .i64 4, .bool b3, .int .i64 0, .int .i64 0, .slice (some ⟨b, 0, none⟩) 2 2, .string ⟨#[116, 105, 109, 101, 115]⟩, .int .i64 2, .bool false, .int .i64 (-1), .int .i64 9, .slice none 0 0, .string ⟨#[117, 110, 116, 105, 108]⟩, .int .i64 3, .bool false, .int .i64 0, .int .i64 3652058, .slice none 0 0])
    (hS : Kd.string.C (fun k => k = b) w (some ⟨b, 0, none⟩) 2 [⟨#[119, 111, 114, 100, 115]⟩, ⟨#[97, 99, 116, 115]⟩]) :
    FSt D w0 g w.heap.size r t (kitFlds b2 b3) (w.alloc (.cells #[.string t, .slice (some ⟨g, 0, none⟩) r 4] 37)) ∧
      Caps g (w.alloc (.cells #[.string t, .slice (some ⟨g, 0, none⟩) r 4] 37)) := by
  have hb' : Below w.heap.size w (w.alloc (.cells #[.string t, .slice (some ⟨g, 0, none⟩) r 4] 37)) := (Below.refl _ _).alloc (Nat.le_refl _) _
  have hlt := hB.lt
  have hB1 := hB.keep hb'
  refine ⟨⟨hd.keep hb', hf.trans (Frm.of_below hb'), hr.keep hb', Blk.new _ _ _, ?_, rfl⟩, fun i hi => ?_⟩
  · refine Kd.own_of_blk (xs := kitFlds b2 b3) hB1 [[.string ⟨#[119, 104, 97, 116]⟩, .int .i64 1, .bool b2, .int .i64 0, .int .i64 20, .slice none 0 0], [.string ⟨#[107, 105, 110, 100]⟩, .int .i64 4, .bool b3, .int .i64 0, .int .i64 0, .slice (some ⟨b, 0, none⟩) 2 2], [.string ⟨#[116, 105, 109, 101, 115]⟩, .int .i64 2, .bool false, .int .i64 (-1), .int .i64 9, .slice none 0 0], [.string ⟨#[117, 110, 116, 105, 108]⟩, .int .i64 3, .bool false, .int .i64 0, .int .i64 3652058, .slice none 0 0]] rfl rfl (by omega) rfl (by show 4 ≤ maxLen; decide) ⟨by omega, by omega⟩ ?_
    intro i x c hx hc
    match i, hx, hc with
    | 0, hx, hc =>
      injection hx with hx
      injection hc with hc
      subst hx hc
      exact kFld_mk _ _ ⟨⟨#[119, 104, 97, 116]⟩, 1, b2, 0, 20, []⟩ (Nat.le_refl _) (Kd.C_nil _ _ _ _)
    | 1, hx, hc =>
      injection hx with hx
      injection hc with hc
      subst hx hc
      exact kFld_mk _ _ ⟨⟨#[107, 105, 110, 100]⟩, 4, b3, 0, 0, [⟨#[119, 111, 114, 100, 115]⟩, ⟨#[97, 99, 116, 115]⟩]⟩ (Nat.le_refl _) (Kd.C_mono (by decide) (fun k hk _ => by have : k = b := hk; refine ⟨⟨by omega, by omega⟩, by omega⟩) (Kd.C_below hS hb'))
    | 2, hx, hc =>
      injection hx with hx
      injection hc with hc
      subst hx hc
      exact kFld_mk _ _ ⟨⟨#[116, 105, 109, 101, 115]⟩, 2, false, -1, 9, []⟩ (Nat.le_refl _) (Kd.C_nil _ _ _ _)
    | 3, hx, hc =>
      injection hx with hx
      injection hc with hc
      subst hx hc
      exact kFld_mk _ _ ⟨⟨#[117, 110, 116, 105, 108]⟩, 3, false, 0, 3652058, []⟩ (Nat.le_refl _) (Kd.C_nil _ _ _ _)
    | n + 4, hx, hc => simp [kitFlds] at hx
  · rw [hB1.cell]
    rcases (by omega : i = 0 ∨ i = 1 ∨ i = 2 ∨ i = 3) with rfl | rfl | rfl | rfl
    · exact ⟨none, 0, rfl, fun _ => rfl, by omega⟩
    · exact ⟨_, 2, rfl, by simp, by omega⟩
    · exact ⟨none, 0, rfl, fun _ => rfl, by omega⟩
    · exact ⟨none, 0, rfl, fun _ => rfl, by omega⟩
theorem FSt.fin (h : FSt D w0 g bx r t xs w) (hD : D < w0.heap.size) (hr : r ≤ 4)
    (hf : ∀ k, k ≠ w0.heap.size → w'.heap[k]? = w.heap[k]?) (hz : w'.heap.size = w.heap.size) (ho : w'.os = w.os) (ht : w'.tape = w.tape) (hu : w'.output = w.output) :
    ∃ x ds, Ending.returned (.agg #[.string t, .slice (some ⟨g, 0, none⟩) r 4]) = .returned (.agg ds) ∧ kForm.K (fun k => w0.heap.size ≤ k) w' x ds.toList ∧ x.flds.length ≤ 4 ∧ DiceOk D w' ∧ Frm (But D) w0 w' := by
  have hl := h.len
  obtain ⟨A, c, ev, hc, hC⟩ := h.own.reads (by omega)
  injection ev with eA en ec
  subst eA ec
  have hC' := Kd.C_take (m := r) hC (by omega)
  have hlr : (xs.take r).length = r := by simp; omega
  refine ⟨⟨t, xs.take r⟩, _, rfl, ?_, by simp; omega, ?_, ?_⟩
  · have := kForm_mk (fun k => w0.heap.size ≤ k) w' ⟨t, xs.take r⟩ (A1 := some ⟨g, 0, none⟩) (c1 := 4) (by simp; omega) (by
      rw [hlr]
      exact Kd.C_mono (by decide) (fun k hk _ => by omega) (Kd.C_keep (fun k hk _ => hf k (by omega)) (by omega) hC'))
    simp only [hlr] at this
    exact this
  · obtain ⟨A, c, i, ys, h1, h2, h3, h4, h5⟩ := h.dice
    exact ⟨A, c, i, ys, (hf D (by omega)).trans h1, h2, h3, h4, Kd.C_keep (fun k hk _ => hf k (by omega)) (by omega) h5⟩
  · exact ⟨ho.trans h.frm.os, ht.trans h.frm.tape, hu.trans h.frm.output, by have := h.frm.size; omega, fun k hk hl => (hf k (by omega)).trans (h.frm.block k hk hl)⟩
end

set_option maxRecDepth 100000 in
set_option maxHeartbeats 8000000 in
theorem form_any (D : Nat) (w : World) (hd : DiceOk D w) :
    Calls Tryz.prog 13 #[.pointer (some ⟨D, 0, none⟩)] w fun e w' =>
      ∃ x ds, e = .returned (.agg ds) ∧ kForm.K (fun k => w.heap.size ≤ k) w' x ds.toList ∧ x.flds.length ≤ 4 ∧ DiceOk D w' ∧ Frm (But D) w w' := by
  have HD := Lib.hid hd
  have hDw := hd.lt
  clear hd
  go_enter Tryz.func13, Tryz.ntmps13
  go_wp2_with fail
  refine (word_lit D w _ _ [⟨#[114, 101, 112, 111, 114, 116]⟩, ⟨#[]⟩, ⟨#[102, 111, 114, 109, 32, 50]⟩] #[.string ⟨#[114, 101, 112, 111, 114, 116]⟩, .string ⟨#[]⟩, .string ⟨#[102, 111, 114, 109, 32, 50]⟩] 3 HD.out (((Below.refl _ _).alloc (Nat.le_refl _) _).alloc (by simp) _) (by omega) (Blk.new' _ _ _ _ (by simp)) rfl rfl (by decide) (by decide)).mono ?_
  rintro e w1 ⟨t, rfl, hd1, hf1⟩
  have R1 := Lib.hid (((Blk.new w 37 #[.string ⟨#[]⟩, .slice none 0 0]).alloc (.cells #[.string ⟨#[114, 101, 112, 111, 114, 116]⟩, .string ⟨#[]⟩, .string ⟨#[102, 111, 114, 109, 32, 50]⟩] 9)).frm hf1 (by show _ ≠ D; omega))
  have F1 := Lib.hid ((Frm.of_below (ok := But D) (((Below.refl w.heap.size w).alloc (Nat.le_refl _) (.cells #[.string ⟨#[]⟩, .slice none 0 0] 37)).alloc (by simp) (.cells #[.string ⟨#[114, 101, 112, 111, 114, 116]⟩, .string ⟨#[]⟩, .string ⟨#[102, 111, 114, 109, 32, 50]⟩] 9))).trans hf1)
  have D1 := Lib.hid hd1
  have z1 : w.heap.size + 1 < w1.heap.size := (by have := hf1.size; simp at this; omega)
  clear hd1 hf1
  go_wp2_with fail
  refine (next_any D 2 _ D1.out (by omega) (by omega)).mono ?_
  rintro e w2 ⟨a2, _, _, rfl, hd2, hf2⟩
  have z2 : w1.heap.size ≤ w2.heap.size := hf2.size
  have D2 := Lib.hid hd2; have F2 := Lib.hid hf2
  clear hd2 hf2
  go_wp2_with fail
  refine (next_any D 3 _ (D2.out.alloc _) (by omega) (by omega)).mono ?_
  rintro e w3 ⟨a3, _, _, rfl, hd3, hf3⟩
  have z3 : w2.heap.size < w3.heap.size := (by have := hf3.size; simp at this; omega)
  have S3 := Lib.hid (strs_of_blk ((Blk.new w2 9 #[.string ⟨#[119, 111, 114, 100, 115]⟩, .string ⟨#[97, 99, 116, 115]⟩]).frm hf3 (by show _ ≠ D; omega)) [⟨#[119, 111, 114, 100, 115]⟩, ⟨#[97, 99, 116, 115]⟩] rfl (by decide))
  have F3 := Lib.hid (F2.out.trans ((Frm.of_below ((Below.refl w2.heap.size w2).alloc (Nat.le_refl _) (.cells #[.string ⟨#[119, 111, 114, 100, 115]⟩, .string ⟨#[97, 99, 116, 115]⟩] 9))).trans hf3))
  have D3 := Lib.hid hd3
  clear hd3 hf3 F2 D2 D1
  go_wp2_with fail
  refine (next_any D 4 _ (D3.out.alloc _) (by omega) (by omega)).mono ?_
  rintro e w4 ⟨r, r0, r1, rfl, hd4, hf4⟩
  obtain ⟨r, rfl⟩ := Int.eq_ofNat_of_zero_le r0
  have hr : 1 + r ≤ 4 := by omega
  have z4 : w3.heap.size < w4.heap.size := (by have := hf4.size; simp at this; omega)
  have HB4 : Hid (Blk w4 w3.heap.size 65 #[.string ⟨#[119, 104, 97, 116]⟩, .int .i64 1, .bool (a2 == 0), .int .i64 0, .int .i64 20, .slice none 0 0, .string ⟨#[107, 105, 110, 100]⟩, .int .i64 4, .bool (a3 == 1), .int .i64 0, .int .i64 0, .slice (some ⟨w2.heap.size, 0, none⟩) 2 2, .string ⟨#[116, 105, 109, 101, 115]⟩, .int .i64 2, .bool false, .int .i64 (-1), .int .i64 9, .slice none 0 0, .string ⟨#[117, 110, 116, 105, 108]⟩, .int .i64 3, .bool false, .int .i64 0, .int .i64 3652058, .slice none 0 0]) := (Blk.new w3 65 #[.string ⟨#[119, 104, 97, 116]⟩, .int .i64 1, .bool (a2 == 0), .int .i64 0, .int .i64 20, .slice none 0 0, .string ⟨#[107, 105, 110, 100]⟩, .int .i64 4, .bool (a3 == 1), .int .i64 0, .int .i64 0, .slice (some ⟨w2.heap.size, 0, none⟩) 2 2, .string ⟨#[116, 105, 109, 101, 115]⟩, .int .i64 2, .bool false, .int .i64 (-1), .int .i64 9, .slice none 0 0, .string ⟨#[117, 110, 116, 105, 108]⟩, .int .i64 3, .bool false, .int .i64 0, .int .i64 3652058, .slice none 0 0]).frm hf4 (by show _ ≠ D; omega)
  have F4 := Lib.hid ((Frm.of_below (ok := But D) ((Below.refl w3.heap.size w3).alloc (Nat.le_refl _) (.cells #[.string ⟨#[119, 104, 97, 116]⟩, .int .i64 1, .bool (a2 == 0), .int .i64 0, .int .i64 20, .slice none 0 0, .string ⟨#[107, 105, 110, 100]⟩, .int .i64 4, .bool (a3 == 1), .int .i64 0, .int .i64 0, .slice (some ⟨w2.heap.size, 0, none⟩) 2 2, .string ⟨#[116, 105, 109, 101, 115]⟩, .int .i64 2, .bool false, .int .i64 (-1), .int .i64 9, .slice none 0 0, .string ⟨#[117, 110, 116, 105, 108]⟩, .int .i64 3, .bool false, .int .i64 0, .int .i64 3652058, .slice none 0 0] 65))).trans hf4)
  obtain ⟨h5, hc5⟩ := FSt.start (t := t) (r := 1 + r) z3 (by omega) hd4 ((F1.out.trans F3.out).trans F4.out) ((R1.out.frm F3.out (by show _ ≠ D; omega)).frm F4.out (by show _ ≠ D; omega)) HB4.out (Kd.C_frm (Kd.C_mono (by decide) (fun k hk _ => ⟨hk, by have : k = _ := hk; show k ≠ D; omega⟩ : ∀ k, _ → _ → (k = w2.heap.size ∧ k ≠ D)) S3.out) (F4.out.mono fun k hk _ => hk.2) |> Kd.C_mono (by decide) (fun k hk _ => hk.1))
  have S5 := Lib.hid h5; have C5 := Lib.hid hc5
  clear h5 hc5 hf4 hd4 HB4 F4 F3 F1 R1 D3 S3
  have hbx : w.heap.size < w4.heap.size := by omega
  have hgD : w3.heap.size ≠ D := by omega
  go_wp2_with fail
  refine (next_any D 6 _ S5.out.dice (by omega) (by omega)).mono ?_
  rintro e w6 ⟨r6, _, _, rfl, hd6, hf6⟩
  have S6 := Lib.hid (S5.out.step hDw hbx hf6 hd6); have C6 := Lib.hid (C5.out.frm hf6 hgD)
  clear hd6 hf6 S5 C5
  generalize w4.heap.size = bx at *
  generalize w3.heap.size = g at *
  have b0 := S6.out.fb.cell 0
  have b1 := S6.out.fb.cell 1
  have rr0 := S6.out.rb.cell 0
  have rr1 := S6.out.rb.cell 1
  have f0 := S6.out.rb.frozen 0
  have f1 := S6.out.rb.frozen 1
  go_wp2_with fail
  · refine bodyPost_ret (v := .agg #[.string t, .slice (some ⟨g, 0, none⟩) (1 + r) 4]) (by simp [results, Tryz.results13, go_sem, rr0, rr1]) rfl ?_
    exact S6.out.fin hDw hr (fun k hk => by rw [Below.heap_setCell _ _ _ _ hk, Below.heap_setCell _ _ _ _ hk]) (by simp [World.setCell]) (by simp [World.setCell]) (by simp [World.setCell]) (by simp [World.setCell])
  · obtain ⟨xs, S6⟩ : ∃ xs, Hid (FSt D w g bx (1 + r) t xs w6) := ⟨_, S6⟩
    go_cut [4] (fun v4 wx => ∃ i : Nat, i < 4 ∧ v4 = .pointer (some ⟨g, i * 6, none⟩) ∧ Hid (FSt D w g bx (1 + r) t xs wx) ∧ Hid (Caps g wx))
    case first =>
      go_region_with (
        (go_at_call 37
         refine (next_any D _ _ (S6.out.dice.keep (Below.refl _ _).drew) (by omega) (by omega)).mono ?_
         rintro e w7 ⟨i, i0, i1, rfl, hd7, hf7⟩
         obtain ⟨i, rfl⟩ := Int.eq_ofNat_of_zero_le i0
         have hi : i < 1 + r := by omega
         have S7 := Lib.hid (S6.out.step hDw hbx ((Frm.of_below (Below.refl _ _).drew).trans hf7) hd7)
         have C7 := Lib.hid (C6.out.frm ((Frm.of_below (ok := But D) (Below.refl _ _).drew).trans hf7) hgD)
         have b0 := S7.out.fb.cell 0
         have b1 := S7.out.fb.cell 1
         clear hd7 hf7))
      all_goals
        go_wp2_with fail
        go_meet
        exact ⟨i, by omega, rfl, S7.out, C7.out⟩
    obtain ⟨i, hi, rfl, S8, C8⟩ := hcut
    clear S6 C6 b0 b1 rr0 rr1 f0 f1
    obtain ⟨wc, rfl⟩ : ∃ wc' : World, wc' = wc := ⟨_, rfl⟩
    go_wp2_with fail
    refine (next_any D 9 _ S8.out.dice (by omega) (by omega)).mono ?_
    rintro e w9 ⟨q, q0, q1, rfl, hd9, hf9⟩
    have S9 := Lib.hid (S8.out.step hDw hbx hf9 hd9)
    have C9 := Lib.hid (C8.out.frm hf9 hgD)
    clear hd9 hf9 S8 C8
    go_upto_block 0 with fail
    go_cut [] (fun wx => ∃ xs, Hid (FSt D w g bx (1 + r) t xs wx))
    case first =>
      obtain ⟨A5, c5, e0, e1, e2, e3, e4, e5, hC5, hfz⟩ := S9.out.cellsAt i hi
      have g0 := hfz (i * 6)
      have g1 := hfz (i * 6 + 1)
      have g3 := hfz (i * 6 + 3)
      have g4 := hfz (i * 6 + 4)
      have g5 := hfz (i * 6 + 5)
      clear hfz
      obtain ⟨A5', n5, e5', hnil, hn2⟩ := C9.out i hi
      obtain ⟨rfl, rfl, rfl⟩ : A5 = A5' ∧ (xs.getD i zFld).opts.length = n5 ∧ c5 = n5 := by
        rw [e5] at e5'
        injection e5' with e5'
        injection e5' with h1 h2 h3
        exact ⟨h1, h2, h3⟩
      clear e5'
      have hC5 := Lib.hid hC5
      generalize hx : xs.getD i zFld = x at *
      obtain ⟨xn, xk, xb, xl, xm, xo⟩ := x
      simp only at e0 e1 e2 e3 e4 e5
      clear e2
      go_wp2_with fail
      · refine (word_lit D w9 _ _ [⟨#[]⟩, ⟨#[97, 108, 108]⟩, ⟨#[87, 104, 97, 116]⟩, ⟨#[97, 45, 98]⟩, ⟨#[111, 102]⟩, ⟨#[57, 97]⟩, ⟨#[97, 57, 95]⟩, ⟨#[107, 105, 110, 100]⟩, ⟨#[97, 98, 99, 100, 101, 102, 103, 104, 105, 106, 107, 108, 109, 110, 111, 112, 113, 114, 115, 116, 117, 118, 119, 120, 121, 122, 97, 98, 99, 100, 101, 102, 103]⟩] #[.string ⟨#[]⟩, .string ⟨#[97, 108, 108]⟩, .string ⟨#[87, 104, 97, 116]⟩, .string ⟨#[97, 45, 98]⟩, .string ⟨#[111, 102]⟩, .string ⟨#[57, 97]⟩, .string ⟨#[97, 57, 95]⟩, .string ⟨#[107, 105, 110, 100]⟩, .string ⟨#[97, 98, 99, 100, 101, 102, 103, 104, 105, 106, 107, 108, 109, 110, 111, 112, 113, 114, 115, 116, 117, 118, 119, 120, 121, 122, 97, 98, 99, 100, 101, 102, 103]⟩] 9 S9.out.dice ((Below.refl _ _).alloc (Nat.le_refl _) _) (Nat.le_refl _) (Blk.new _ _ _) rfl rfl (by decide) (by decide)).mono ?_
        rintro e w10 ⟨s0, rfl, hd10, hf10⟩
        have S10 := Lib.hid ((S9.out.keep hDw hbx ((Below.refl _ _).alloc (Nat.le_refl _) _)).step hDw hbx hf10 hd10)
        clear hd10 hf10 e0 e1 e3 e4 e5 g0 g1 g3 g4 g5
        obtain ⟨A5, c5, e0, _, _, _, _, _, _, hfz⟩ := S10.out.cellsAt i hi
        have g0 := hfz (i * 6)
        clear hfz
        go_wp2_with fail
        go_meet
        exact S10.out.put0 hDw i hi s0
      · refine (next_any D 6 _ S9.out.dice (by omega) (by omega)).mono ?_
        rintro e w10 ⟨s0, _, _, rfl, hd10, hf10⟩
        have S10 := Lib.hid (S9.out.step hDw hbx hf10 hd10)
        clear hd10 hf10 e0 e1 e3 e4 e5 g0 g1 g3 g4 g5
        obtain ⟨A5, c5, _, e1, _, _, _, _, _, hfz⟩ := S10.out.cellsAt i hi
        have g1 := hfz (i * 6 + 1)
        clear hfz
        go_wp2_with fail
        go_meet
        exact S10.out.put1 hDw i hi s0
      · go_region
        all_goals
          go_wp2_with fail
          go_meet
          first
            | exact (FSt.put4 ((S9.out.put3 hDw i hi (wrap64 (xm + 1))).choose_spec.keep hDw hbx (Below.refl _ _).drew) hDw i hi xl)
            | exact (FSt.put4 ((S9.out.keep hDw hbx (Below.refl _ _).drew).put3 hDw i hi (wrap64 (xm + 1))).choose_spec hDw i hi xl)
            | exact ⟨_, FSt.keep (FSt.put4 (S9.out.put3 hDw i hi (wrap64 (xm + 1))).choose_spec hDw i hi xl).choose_spec hDw hbx (Below.refl _ _).drew⟩
            | exact ⟨_, FSt.keep (FSt.put3 (S9.out.put4 hDw i hi xl).choose_spec hDw i hi (wrap64 (xm + 1))).choose_spec hDw hbx (Below.refl _ _).drew⟩
            | (trace_state; fail)
      · refine (next_any D 4 _ (S9.out.dice.alloc _) (by omega) (by omega)).mono ?_
        rintro e w10 ⟨k, k0, k1, rfl, hd10, hf10⟩
        have S10 := Lib.hid ((S9.out.keep hDw hbx ((Below.refl _ _).alloc (Nat.le_refl _) _)).step hDw hbx hf10 hd10)
        obtain ⟨k, rfl⟩ := Int.eq_ofNat_of_zero_le k0
        obtain ⟨v, hv⟩ : ∃ v, (#[.int .i64 16384, .int .i64 16385, .int .i64 3652059, .int .i64 (-1)] : Array Value)[k]? = some (.int .i64 v) := by
          rcases (by omega : k = 0 ∨ k = 1 ∨ k = 2 ∨ k = 3) with rfl | rfl | rfl | rfl <;> exact ⟨_, rfl⟩
        have m0 := (((Blk.new w9 3 #[.int .i64 16384, .int .i64 16385, .int .i64 3652059, .int .i64 (-1)]).frm hf10 (by have := S9.out.dice.lt; show _ ≠ D; omega)).cell k).trans hv
        clear hd10 hf10 e0 e1 e3 e4 e5 g0 g1 g3 g4 g5
        obtain ⟨A5, c5, _, _, _, _, e4, _, _, hfz⟩ := S10.out.cellsAt i hi
        have g4 := hfz (i * 6 + 4)
        clear hfz
        go_wp2_with fail
        go_meet
        exact S10.out.put4 hDw i hi v
      · clear e0 e1 e3 e4 g0 g1 g3 g4
        have hgl : g < w9.heap.size := (S9.out.own.base_ge g rfl).2
        go_region_law ((first
          | (refine Kd.step_full_append (d := Kd.string) 45 9 (.string ⟨#[]⟩) 16 rfl (.tmp 87) (.tmp 91) rfl Tryz.underlying45 infoStr rfl rfl (by decide) A5 xo s0 _ (.string s0) rfl rfl
               (Kd.C_frm (Kd.C_frm (Kd.C_mono (ok' := But D) (by decide) (fun k hk _ => by show k ≠ D; omega) hC5.out) F10.out) (Frm.of_below (by repeat' first | exact Below.refl _ _ | refine Below.alloc ?_ (by first | exact Nat.le_refl _ | (simp; done) | (simp; omega)) _))) (by first | exact cells_new _ _ [.string s0] _ (by simp) 0 _ rfl) hnil Kd.string_any rfl (by omega) ?_
             intro v11 w11 hown hb11
             obtain ⟨A9, c9, rfl, l9, C9'⟩ := hown.reads (by simp; omega)
             have S11 := Lib.hid ((S10.out.keep hDw hbx (by repeat' first | exact Below.refl _ _ | refine Below.alloc ?_ (by first | exact Nat.le_refl _ | (simp; done) | (simp; omega)) _)).keep hDw hbx hb11)
             have C11 := Lib.hid C9'
             have z11 := Lib.hid hb11.size
             obtain ⟨A7, c7, _, _, _, _, _, e7, _, hfz⟩ := S11.out.cellsAt i hi
             have g7 := hfz (i * 6 + 5)
             clear hown hb11 C9' hfz)
          | (go_simp
             go_at_call 35
             refine (word_lit D w9 _ _ [⟨#[119, 111, 114, 100, 115]⟩, ⟨#[]⟩, ⟨#[110, 101, 119]⟩] #[.string ⟨#[119, 111, 114, 100, 115]⟩, .string ⟨#[]⟩, .string ⟨#[110, 101, 119]⟩] 3 S9.out.dice ?_ (Nat.le_refl _) ?_ rfl rfl (by decide) (by decide)).mono ?_
             · repeat' first | exact Below.refl _ _ | refine Below.drew ?_ | refine Below.alloc ?_ (by first | exact Nat.le_refl _ | (simp; done) | (simp; omega)) _
             · exact Blk.drew (Blk.new' _ _ _ _ (by simp))
             rintro e w10 ⟨s0, rfl, hd10, hf10⟩
             have F10 := Lib.hid ((Frm.of_below (ok := But D) (w := w9) (by repeat' first | exact Below.refl _ _ | refine Below.drew ?_ | refine Below.alloc ?_ (by first | exact Nat.le_refl _ | (simp; done) | (simp; omega)) _)).trans hf10)
             have S10 := Lib.hid (S9.out.step hDw hbx F10.out hd10)
             have z10 : g < w10.heap.size := Nat.lt_of_lt_of_le hgl F10.out.size
             have e6 := F10.out.cell (by exact hgD) e5
             clear hd10 hf10)))
        all_goals
          go_wp2_with fail
          go_meet
          have hl9 : (xo ++ [s0]).length = xo.length + 1 := by simp
          rw [← hl9]
          exact S11.out.put5 hDw i hi A9 c9 _ l9 (Kd.C_mono (by decide) (fun k hk _ => by have := S11.out.fb.lt; have := S10.out.fb.lt; have := S10.out.own.base_ge g rfl; simp at hk; exact ⟨⟨by omega, by omega⟩, by simp; omega⟩) C11.out)
      · go_meet
        exact S9.out.put3 hDw i hi (-1)
      · go_meet
        exact ⟨xs, S9.out⟩
    obtain ⟨ys, S10⟩ := hcut
    clear S9 C9
    have b0 := S10.out.fb.cell 0
    have b1 := S10.out.fb.cell 1
    have rr0 := S10.out.rb.cell 0
    have rr1 := S10.out.rb.cell 1
    have f0 := S10.out.rb.frozen 0
    have f1 := S10.out.rb.frozen 1
    go_wp2_with fail
    refine bodyPost_ret (v := .agg #[.string t, .slice (some ⟨g, 0, none⟩) (1 + r) 4]) (by simp [results, Tryz.results13, go_sem, rr0, rr1]) rfl ?_
    exact S10.out.fin hDw hr (fun k hk => by rw [Below.heap_setCell _ _ _ _ hk, Below.heap_setCell _ _ _ _ hk]) (by simp [World.setCell]) (by simp [World.setCell]) (by simp [World.setCell]) (by simp [World.setCell])
end Go.Proofs.YtmeipcnicfaojaaGreatDoor
