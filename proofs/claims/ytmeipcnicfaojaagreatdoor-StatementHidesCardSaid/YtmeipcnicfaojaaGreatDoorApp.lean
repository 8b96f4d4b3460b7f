/- append of a whole row onto a row of the call's own. No program in sight. -/
import Derived.Test.YtmeipcnicfaojaaGreatDoorBase
namespace Go.Proofs.YtmeipcnicfaojaaGreatDoor
open Go.RowKit

theorem list_choose {α β : Type} : ∀ (xs : List α) (P : Nat → α → β → Prop) (_ : ∀ j x, xs[j]? = some x → ∃ b, P j x b), ∃ bs : List β, bs.length = xs.length ∧ ∀ j x b, xs[j]? = some x → bs[j]? = some b → P j x b
  | [], _, _ => ⟨[], rfl, fun j x b h _ => by simp at h⟩
  | x :: xs, P, h => by
    obtain ⟨b, hb⟩ := h 0 x rfl
    obtain ⟨bs, hl, hbs⟩ := list_choose xs (fun j => P (j + 1)) (fun j y hy => h (j + 1) y (by simpa using hy))
    refine ⟨b :: bs, by simp [hl], fun j y c hy hc => ?_⟩
    cases j with
    | zero => simp at hy hc; subst hy hc; exact hb
    | succ j => exact hbs j y c (by simpa using hy) (by simpa using hc)

section
variable {P : Program} (w : World)
theorem run_append_of_nil (base : Nat) (t ty e : TypeId) (i : TypeInfo) (size : Nat) (ht : P.underlying t = some (.slice e)) (hi : P.info? e = some i)
    (v : Value) (n : Nat) (xs : List Value) (hown : w.ownsRow base e size v n xs) (c : Nat) : (Builtin.append_ #[t, t] ty #[v, .slice none 0 c]).run P w = .ok v w := by
  rcases hown.2 with ⟨rfl, rfl⟩ | ⟨g, cap, cur, rfl, _, _, hnc, _⟩
  · simp [Builtin.append_, run_underlying ht, sizeOf, typeInfo, hi, Builtin.lenOf, Builtin.firstCells]
  · simp [Builtin.append_, run_underlying ht, sizeOf, typeInfo, hi, Builtin.lenOf, Builtin.firstCells, hnc, storeCells]
end

namespace Kd
section
variable {P : Program} {α : Type} {d : Kd α} {ok : Nat → Prop} {w : World}
theorem own_append_row_run (base : Nat) (t ty e : TypeId) (z : Value) (bytes : Nat)
    (ht : P.underlying t = some (.slice e)) (hinfo : (P.info? e).map (fun i => (i.zero, i.size, i.bytes)) = some (some z, d.sz, bytes)) (hz : z.cells.size = d.sz) (hsz : 0 < d.sz) (hb0 : 0 < bytes)
    (v : Value) (xs ys : List α) (A : Option Addr) (m c : Nat) (HO : d.Own e ok w base v xs) (HC : d.C (fun k => ok k ∧ some k ≠ v.ownBlock) w A m ys)
    (hok : ∀ k, w.heap.size ≤ k → ok k) (hbase : base ≤ w.heap.size) (hl : (xs.length + m) * bytes ≤ 140737488355328) :
    ∃ v1 w1, (Builtin.append_ #[t, t] ty #[v, .slice A m c]).run P w = .ok v1 w1 ∧ d.Own e ok w1 base v1 (xs ++ ys) ∧ w.grownBy w1 v.ownBlock ∧ (v1.ownBlock = v.ownBlock ∨ ∃ b, v1.ownBlock = some b ∧ w.heap.size ≤ b) := by
  obtain ⟨i0, hi, hzz⟩ := Option.map_eq_some_iff.1 hinfo
  simp only [Prod.mk.injEq] at hzz
  obtain ⟨hz0, hz1, hz2⟩ := hzz
  have hlen : xs.length + m ≤ 140737488355328 := Nat.le_trans (Nat.le_mul_of_pos_right _ hb0) hl
  have hml := HC.1
  rcases A with _ | ad
  · have hm : m = 0 := by
      rcases Nat.eq_zero_or_pos m with h0 | h0
      · exact h0
      · obtain ⟨ad, h, _⟩ := HC.2.2 h0
        cases h
    subst hm
    have hys : ys = [] := List.eq_nil_of_length_eq_zero hml
    subst hys
    obtain ⟨h0, css, hcl, hown, hK⟩ := HO
    exact ⟨v, w, run_append_of_nil w base t ty e i0 d.sz ht hi v _ _ hown c, ⟨h0, css, by simpa using hcl, by simpa using hown, by simpa using hK⟩, World.grownBy.refl w _, .inl rfl⟩
  · obtain ⟨h0, css, hcl, hown, hK⟩ := HO
    have hex : ∀ j y, ys[j]? = some y → ∃ cs, d.K (fun k => ok k ∧ some k ≠ v.ownBlock) w y cs ∧ ∀ i u, cs[i]? = some u → w.cell? (ad.add (j * d.sz + i)) = some u := by
      intro j y hy
      have hjm : j < m := by rw [← hml]; exact (List.getElem?_eq_some_iff.1 hy).1
      obtain ⟨ad', e1, _, hh⟩ := HC.2.2 (by omega)
      injection e1 with e1
      subst e1
      exact hh j y hy
    obtain ⟨bs, hbl, hbs⟩ := list_choose ys (fun j y cs => d.K (fun k => ok k ∧ some k ≠ v.ownBlock) w y cs ∧ ∀ i u, cs[i]? = some u → w.cell? (ad.add (j * d.sz + i)) = some u) hex
    have hbz : ∀ b ∈ bs, b.length = d.sz := by
      intro b hb
      obtain ⟨j, hj, rfl⟩ := List.getElem_of_mem hb
      exact d.len (hbs j ys[j] bs[j] (List.getElem?_eq_getElem (by omega)) (List.getElem?_eq_getElem hj)).1
    have hbone : ∀ u ∈ bs.flatten, u.oneCell' = true := by
      intro u hu
      obtain ⟨b, hb, hub⟩ := List.mem_flatten.1 hu
      obtain ⟨j, hj, rfl⟩ := List.getElem_of_mem hb
      exact d.one (hbs j ys[j] bs[j] (List.getElem?_eq_getElem (by omega)) (List.getElem?_eq_getElem hj)).1 u hub
    have hfl : ∀ (l : List (List Value)), (∀ b ∈ l, b.length = d.sz) → l.flatten.length = l.length * d.sz := by
      intro l
      induction l with
      | nil => intro _; simp
      | cons b l ih => intro h; rw [List.flatten_cons, List.length_append, ih (fun x hx => h x (List.mem_cons_of_mem _ hx)), h b List.mem_cons_self, List.length_cons, Nat.add_mul]; omega
    have hcells : ∀ j u, bs.flatten[j]? = some u → w.cell? (ad.add j) = some u := by
      intro j u hu
      have hjl : j < bs.length * d.sz := by rw [← hfl bs hbz]; exact (List.getElem?_eq_some_iff.1 hu).1
      have hq : j / d.sz < bs.length := Nat.div_lt_of_lt_mul (by rw [Nat.mul_comm]; exact hjl)
      have hr : j % d.sz < d.sz := Nat.mod_lt _ hsz
      have hj : j = j / d.sz * d.sz + j % d.sz := by rw [Nat.mul_comm]; exact (Nat.div_add_mod j d.sz).symm
      have hg := flatten_get bs d.sz hbz (j / d.sz) (j % d.sz) bs[j / d.sz] (List.getElem?_eq_getElem hq) hr
      rw [← hj, hu] at hg
      have := (hbs (j / d.sz) ys[j / d.sz] bs[j / d.sz] (List.getElem?_eq_getElem (by omega)) (List.getElem?_eq_getElem hq)).2 (j % d.sz) u hg.symm
      rwa [← hj] at this
    obtain ⟨v1, w1, hr, hown1, hg, _, hat0⟩ := run_append_own_at (P := P) w base t ty e i0 z d.sz bytes ht hi hz0 hz1 hz2 hz hsz v xs.length css.flatten hown ad m c bs.flatten (by rw [hfl bs hbz, hbl, hml]) hcells hbone (by simp only [maxLen]; omega) hl hbase
    have hat : v1.ownBlock = v.ownBlock ∨ ∃ b, v1.ownBlock = some b ∧ w.heap.size ≤ b := by
      rcases hat0 with h | h
      · exact .inl h
      · exact .inr ⟨_, h, Nat.le_refl _⟩
    have hblk : ∀ k, some k ≠ v.ownBlock → k < w.heap.size → some k ≠ v1.ownBlock := by
      intro k hk hlt e
      rcases hat with h1 | ⟨b, h1, h2⟩
      · rw [h1] at e; exact hk e
      · rw [h1] at e; injection e with e; omega
    refine ⟨v1, w1, hr, ⟨fun k hk => ?_, css ++ bs, by simp [hcl, hbl], by rw [List.flatten_append, List.length_append, hml]; exact hown1, fun i x cs hx hcs => ?_⟩, hg, hat⟩
    · rcases hat with h1 | ⟨b, h1, h2⟩
      · rw [h1] at hk; exact h0 k hk
      · rw [h1] at hk; injection hk with hk; exact hok k (by omega)
    · have move : ∀ {x : α} {cs : List Value}, d.K (fun k => ok k ∧ some k ≠ v.ownBlock) w x cs → d.K (fun k => ok k ∧ some k ≠ v1.ownBlock) w1 x cs := fun {x cs} hh =>
        d.mono (ok := fun k => ok k ∧ some k ≠ v.ownBlock ∧ some k ≠ v1.ownBlock) (fun k hk _ => ⟨hk.1, hk.2.2⟩)
          (d.keep (w := w) (fun k hk hlt => hg.block k hlt hk.2.1) hg.size (d.mono (fun k hk hlt => ⟨hk.1, hk.2, hblk k hk.2 hlt⟩) hh))
      rcases Nat.lt_or_ge i xs.length with hi | hi
      · rw [List.getElem?_append_left hi] at hx
        rw [List.getElem?_append_left (by omega)] at hcs
        exact move (hK i x cs hx hcs)
      · rw [List.getElem?_append_right hi] at hx
        rw [List.getElem?_append_right (by omega), hcl] at hcs
        exact move (hbs _ _ _ hx hcs).1
theorem own_append_row {ops : Array Oper} {rest : List Oper} {o : Oper} {a : Act} {Q : Exit → Act → World → Prop} (base : Nat) (t e : TypeId) (z : Value) (bytes : Nat) (hgd : o.guard = none) (s x : Operand)
    (ho : o.op = .call { callee := .builtin .append, args := #[s, x], argTypes := #[t, t] })
    (ht : P.underlying t = some (.slice e)) (hinfo : (P.info? e).map (fun i => (i.zero, i.size, i.bytes)) = some (some z, d.sz, bytes)) (hz : z.cells.size = d.sz) (hsz : 0 < d.sz) (hb0 : 0 < bytes)
    (v : Value) (xs ys : List α) (A : Option Addr) (m c : Nat) (hs : a.eval s = v) (hx : a.eval x = .slice A m c) (HO : d.Own e ok w base v xs) (HC : d.C (fun k => ok k ∧ some k ≠ v.ownBlock) w A m ys)
    (hok : ∀ k, w.heap.size ≤ k → ok k) (hbase : base ≤ w.heap.size) (hl : (xs.length + m) * bytes ≤ 140737488355328)
    (h : ∀ v1 w1, d.Own e ok w1 base v1 (xs ++ ys) → w.grownBy w1 v.ownBlock → (v1.ownBlock = v.ownBlock ∨ ∃ b, v1.ownBlock = some b ∧ w.heap.size ≤ b) → wpList P ops Q rest (a.put o.dst v1) w1) :
    wpList P ops Q (o :: rest) a w := by
  refine wpList_plain hgd fun K hK => ?_
  obtain ⟨v1, w1, hr, h1, h2, h3⟩ := own_append_row_run (P := P) base t o.type e z bytes ht hinfo hz hsz hb0 v xs ys A m c HO HC hok hbase hl
  unfold Oper.wp execOp
  simp only [ho, resolve, invoke, builtin, Sem.run_bind, Sem.run_pure, Result.andThen_ok, List.map_toArray, List.map_cons, List.map_nil, hs, hx, hr]
  exact hK _ _ (h v1 w1 h1 h2 h3)
end
end Kd
end Go.Proofs.YtmeipcnicfaojaaGreatDoor
