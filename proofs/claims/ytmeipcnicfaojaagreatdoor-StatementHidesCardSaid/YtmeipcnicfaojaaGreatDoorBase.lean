/- Plain words for memory: what a value's cells say (kinds), frames, rows of the call's own. No program in sight. -/
import Derived.Below
import Derived.Deep.Draws
import Derived.Laws.OwnMore
import Derived.Laws.Rows
import Derived.Maps.AppendAt
import Derived.OwnWalk
import Derived.WalkKit
import Derived.KernelRfl
import Derived.Deep.RegionLaw
import Derived.Deep.AppendLies
import Derived.Laws.StructEq
import Derived.Lib.Hide
import Derived.Deep.RegionHeld3
namespace Go.Proofs.YtmeipcnicfaojaaGreatDoor
open Go.RowKit

theorem blk_add (a : Addr) (n : Nat) : (a.add n).block = a.block := by unfold Addr.add; split <;> rfl
theorem add_add (a : Addr) (i j : Nat) : (a.add i).add j = a.add (i + j) := by
  unfold Addr.add
  by_cases hi : i = 0 <;> by_cases hj : j = 0 <;> simp [hi, hj, Nat.add_assoc]
theorem add_field (a : Addr) (n j : Nat) (hj : 0 < j) : a.add (n + j) = ⟨(a.add n).block, (a.add n).off + j, none⟩ := by
  rw [← add_add]
  unfold Addr.add
  split <;> rename_i h
  · omega
  · rfl
theorem add_zero' (g o j : Nat) : (⟨g, o, none⟩ : Addr).add j = ⟨g, o + j, none⟩ := by unfold Addr.add; split <;> simp_all

/-! ### frames -/
/-- From w to w' the blocks that are ok, and were there, are as they were. -/
structure Frm (ok : Nat → Prop) (w w' : World) : Prop where
  os : w'.os = w.os
  tape : w'.tape = w.tape
  output : w'.output = w.output
  size : w.heap.size ≤ w'.heap.size
  block : ∀ k, ok k → k < w.heap.size → w'.heap[k]? = w.heap[k]?
theorem Frm.refl (ok : Nat → Prop) (w : World) : Frm ok w w := ⟨rfl, rfl, rfl, Nat.le_refl _, fun _ _ _ => rfl⟩
theorem Frm.trans {ok : Nat → Prop} {a b c : World} (h : Frm ok a b) (k : Frm ok b c) : Frm ok a c :=
  ⟨k.os.trans h.os, k.tape.trans h.tape, k.output.trans h.output, Nat.le_trans h.size k.size, fun i ho hi => (k.block i ho (Nat.lt_of_lt_of_le hi h.size)).trans (h.block i ho hi)⟩
theorem Frm.mono {ok ok' : Nat → Prop} {a b : World} (h : Frm ok a b) (hk : ∀ k, ok' k → k < a.heap.size → ok k) : Frm ok' a b := ⟨h.os, h.tape, h.output, h.size, fun k ho hlt => h.block k (hk k ho hlt) hlt⟩
theorem Frm.of_below {ok : Nat → Prop} {w w' : World} (h : Below w.heap.size w w') : Frm ok w w' := ⟨h.os, h.tape, h.output, h.size, fun k _ hk => h.block k hk⟩
theorem Frm.below {w w' : World} {B : Nat} {ok : Nat → Prop} (h : Frm ok w w') (hok : ∀ k, k < B → ok k) (hB : B ≤ w.heap.size) : Below B w w' := ⟨h.os, h.tape, h.output, h.size, fun k hk => h.block k (hok k hk) (Nat.lt_of_lt_of_le hk hB)⟩
theorem below_then {B : Nat} {w w1 w2 : World} (h : Below B w w1) (hB : B ≤ w1.heap.size) (k : Below w1.heap.size w1 w2) : Below B w w2 :=
  h.trans ⟨k.os, k.tape, k.output, k.size, fun i hi => k.block i (Nat.lt_of_lt_of_le hi hB)⟩
theorem below_seq {w w1 w2 : World} (h : Below w.heap.size w w1) (k : Below w1.heap.size w1 w2) : Below w.heap.size w w2 := below_then h h.size k
theorem below_drewN {B : Nat} {w W : World} (h : Below B w W) (n : Nat) : Below B w (W.drewN n) := ⟨h.os, h.tape, h.output, h.size, h.block⟩
theorem bcell {W w1 : World} (hb : Below W.heap.size W w1) : (∀ b o, b < W.heap.size → w1.cell? ⟨b, o, none⟩ = W.cell? ⟨b, o, none⟩) ∧ (∀ b o, b < W.heap.size → w1.frozen? ⟨b, o, none⟩ = W.frozen? ⟨b, o, none⟩) :=
  ⟨fun b o h => hb.cell (p := ⟨b, o, none⟩) h, fun b o h => hb.frozen (p := ⟨b, o, none⟩) h⟩
/-- Block g is just the cells cs, of element type t, none of them frozen. -/
def Blk (w : World) (g : Nat) (t : TypeId) (cs : Array Value) : Prop := w.heap[g]? = some (.cells cs t (0, 0))
section
variable {w w' : World} {g : Nat} {t : TypeId} {cs : Array Value}
theorem Blk.lt (h : Blk w g t cs) : g < w.heap.size := by
  rcases Nat.lt_or_ge g w.heap.size with hlt | hge
  · exact hlt
  · unfold Blk at h; rw [Array.getElem?_eq_none hge] at h; cases h
theorem Blk.cell (h : Blk w g t cs) (i : Nat) : w.cell? ⟨g, i, none⟩ = cs[i]? := by unfold Blk at h; simp [World.cell?, h]
theorem Blk.frozen (h : Blk w g t cs) (i : Nat) : w.frozen? ⟨g, i, none⟩ = false := by unfold Blk at h; simp [World.frozen?, h]
theorem Blk.new (w : World) (t : TypeId) (cs : Array Value) : Blk (w.alloc (.cells cs t)) w.heap.size t cs := heap_alloc_new w _
theorem Blk.new' (w : World) (t : TypeId) (cs : Array Value) (n : Nat) (h : n = w.heap.size) : Blk (w.alloc (.cells cs t)) n t cs := by subst h; exact Blk.new w t cs
theorem Blk.drew (h : Blk w g t cs) : Blk w.drew g t cs := h
theorem Blk.drewN (h : Blk w g t cs) (n : Nat) : Blk (w.drewN n) g t cs := h
theorem Blk.alloc (h : Blk w g t cs) (o : Obj) : Blk (w.alloc o) g t cs := (Below.heap_alloc w o g h.lt).trans h
theorem Blk.set_ (h : Blk w g t cs) (i : Nat) (u : Value) : Blk (w.setCell ⟨g, i, none⟩ u) g t (cs.setIfInBounds i u) := by
  unfold Blk at h ⊢
  simp [World.setCell, Array.getElem?_modify, h]
theorem Blk.far (h : Blk w g t cs) {p : Addr} (hp : g ≠ p.block) (u : Value) : Blk (w.setCell p u) g t cs := (Below.heap_setCell w p u g hp).trans h
theorem Blk.below {B : Nat} (h : Blk w g t cs) (hb : Below B w w') (hg : g < B) : Blk w' g t cs := (hb.block g hg).trans h
theorem Blk.keep (h : Blk w g t cs) (hb : Below w.heap.size w w') : Blk w' g t cs := (hb.block g h.lt).trans h
theorem Blk.grown {row : Option Nat} (h : Blk w g t cs) (hb : w.grownBy w' row) (hg : some g ≠ row) : Blk w' g t cs := (hb.block g h.lt hg).trans h
theorem Blk.frm {ok : Nat → Prop} (h : Blk w g t cs) (hb : Frm ok w w') (hg : ok g) : Blk w' g t cs := (hb.block g hg h.lt).trans h
end
theorem cell_lt {w : World} {a : Addr} {v : Value} (h : w.cell? a = some v) : a.block < w.heap.size := World.block_lt_of_cell? w a h
theorem cell_keep {w w' : World} {a : Addr} {v : Value} (h : w.cell? a = some v) (hb : Below w.heap.size w w') : w'.cell? a = some v := (hb.cell (cell_lt h)).trans h
theorem Frm.cell {ok : Nat → Prop} {w w' : World} (h : Frm ok w w') {a : Addr} {v : Value} (ha : ok a.block) (hc : w.cell? a = some v) : w'.cell? a = some v := (World.cell?_of_block (w := w) (h.block a.block ha (cell_lt hc))).trans hc

/-! ### kinds -/
structure Kd (α : Type) where
  sz : Nat
  K : (Nat → Prop) → World → α → List Value → Prop
  len : ∀ {ok w x cs}, K ok w x cs → cs.length = sz
  one : ∀ {ok w x cs}, K ok w x cs → ∀ u ∈ cs, u.oneCell' = true
  keep : ∀ {ok} {w w' : World} {x cs}, (∀ k, ok k → k < w.heap.size → w'.heap[k]? = w.heap[k]?) → w.heap.size ≤ w'.heap.size → K ok w x cs → K ok w' x cs
  mono : ∀ {ok ok' : Nat → Prop} {w : World} {x cs}, (∀ k, ok k → k < w.heap.size → ok' k) → K ok w x cs → K ok' w x cs

namespace Kd
def scalar {α : Type} (enc : α → Value) (h1 : ∀ x, (enc x).oneCell' = true) : Kd α where
  sz := 1
  K := fun _ _ x cs => cs = [enc x]
  len := fun h => by rw [h]; rfl
  one := fun h u hu => by rw [h] at hu; rw [List.mem_singleton.1 hu]; exact h1 _
  keep := fun _ _ h => h
  mono := fun _ h => h
def int (k : IntKind) : Kd Int := scalar (Value.int k) (fun _ => rfl)
def bool : Kd Bool := scalar Value.bool (fun _ => rfl)
def string : Kd ByteArray := scalar Value.string (fun _ => rfl)
def pair {α β : Type} (d : Kd α) (e : Kd β) : Kd (α × β) where
  sz := d.sz + e.sz
  K := fun ok w x cs => ∃ c1 c2, cs = c1 ++ c2 ∧ d.K ok w x.1 c1 ∧ e.K ok w x.2 c2
  len := by rintro ok w x cs ⟨c1, c2, rfl, h1, h2⟩; rw [List.length_append, d.len h1, e.len h2]
  one := by
    rintro ok w x cs ⟨c1, c2, rfl, h1, h2⟩ u hu
    rcases List.mem_append.1 hu with h | h
    · exact d.one h1 u h
    · exact e.one h2 u h
  keep := by rintro ok w w' x cs hk hs ⟨c1, c2, rfl, h1, h2⟩; exact ⟨c1, c2, rfl, d.keep hk hs h1, e.keep hk hs h2⟩
  mono := by rintro ok ok' w x cs hk ⟨c1, c2, rfl, h1, h2⟩; exact ⟨c1, c2, rfl, d.mono hk h1, e.mono hk h2⟩
def iso {α β : Type} (d : Kd α) (f : β → α) : Kd β where
  sz := d.sz
  K := fun ok w x cs => d.K ok w (f x) cs
  len := fun h => d.len h
  one := fun h => d.one h
  keep := fun hk hs h => d.keep hk hs h
  mono := fun hk h => d.mono hk h

/-- A row of elements that is read. -/
def C {α : Type} (d : Kd α) (ok : Nat → Prop) (w : World) (A : Option Addr) (n : Nat) (xs : List α) : Prop :=
  xs.length = n ∧ n ≤ 140737488355328 ∧ (0 < n → ∃ ad, A = some ad ∧ ok ad.block ∧
    ∀ j x, xs[j]? = some x → ∃ cs, d.K ok w x cs ∧ ∀ i u, cs[i]? = some u → w.cell? (ad.add (j * d.sz + i)) = some u)
theorem C_nil {α : Type} (d : Kd α) (ok : Nat → Prop) (w : World) (A : Option Addr) : d.C ok w A 0 [] := ⟨rfl, by omega, fun h => absurd h (by omega)⟩
theorem C_keep {α : Type} {d : Kd α} {ok : Nat → Prop} {w w' : World} {A : Option Addr} {n : Nat} {xs : List α} (hk : ∀ k, ok k → k < w.heap.size → w'.heap[k]? = w.heap[k]?) (hz : w.heap.size ≤ w'.heap.size) (h : d.C ok w A n xs) : d.C ok w' A n xs := by
  refine ⟨h.1, h.2.1, fun hn => ?_⟩
  obtain ⟨ad, e, ho, hc⟩ := h.2.2 hn
  refine ⟨ad, e, ho, fun j x hj => ?_⟩
  obtain ⟨cs, hK, hcs⟩ := hc j x hj
  refine ⟨cs, d.keep hk hz hK, fun i u hu => ?_⟩
  have h1 := hcs i u hu
  exact (World.cell?_of_block (w := w) (hk _ (by rw [blk_add]; exact ho) (cell_lt h1))).trans h1
theorem C_mono {α : Type} {d : Kd α} (hs : 0 < d.sz) {ok ok' : Nat → Prop} {w : World} {A : Option Addr} {n : Nat} {xs : List α} (hk : ∀ k, ok k → k < w.heap.size → ok' k) (h : d.C ok w A n xs) : d.C ok' w A n xs := by
  refine ⟨h.1, h.2.1, fun hn => ?_⟩
  obtain ⟨ad, e, ho, hc⟩ := h.2.2 hn
  have hb : ad.block < w.heap.size := by
    have hl : 0 < xs.length := by rw [h.1]; exact hn
    obtain ⟨cs, hK, hcs⟩ := hc 0 xs[0] (List.getElem?_eq_getElem hl)
    have hz : 0 < cs.length := by rw [d.len hK]; exact hs
    have h1 := cell_lt (hcs 0 cs[0] (List.getElem?_eq_getElem hz))
    rw [blk_add] at h1
    exact h1
  refine ⟨ad, e, hk _ ho hb, fun j x hj => ?_⟩
  obtain ⟨cs, hK, hcs⟩ := hc j x hj
  exact ⟨cs, d.mono hk hK, hcs⟩
/-- A slice of such elements. -/
def slice {α : Type} (d : Kd α) (hs : 0 < d.sz) : Kd (List α) where
  sz := 1
  K := fun ok w xs cs => ∃ A c, cs = [.slice A xs.length c] ∧ xs.length ≤ c ∧ d.C ok w A xs.length xs
  len := by rintro ok w x cs ⟨A, c, rfl, _⟩; rfl
  one := by rintro ok w x cs ⟨A, c, rfl, _⟩ u hu; rw [List.mem_singleton.1 hu]; rfl
  keep := by rintro ok w w' x cs hk hz ⟨A, c, rfl, hl, h⟩; exact ⟨A, c, rfl, hl, C_keep hk hz h⟩
  mono := by rintro ok ok' w x cs hk ⟨A, c, rfl, hl, h⟩; exact ⟨A, c, rfl, hl, C_mono hs hk h⟩

section
variable {α : Type} {d : Kd α} {ok ok' : Nat → Prop} {w w' : World} {x : α} {cs : List Value} {A : Option Addr} {n : Nat} {xs : List α}
theorem frm (h : d.K ok w x cs) (hf : Frm ok w w') : d.K ok w' x cs := d.keep hf.block hf.size h
theorem below (h : d.K ok w x cs) (hb : Below w.heap.size w w') : d.K ok w' x cs := d.keep (fun k _ hk => hb.block k hk) hb.size h
theorem C_frm (h : d.C ok w A n xs) (hf : Frm ok w w') : d.C ok w' A n xs := C_keep hf.block hf.size h
theorem C_below (h : d.C ok w A n xs) (hb : Below w.heap.size w w') : d.C ok w' A n xs := C_keep (fun k _ hk => hb.block k hk) hb.size h
theorem C_get (h : d.C ok w A n xs) (z : α) (i : Nat) (hi : i < n) : ∃ ad cs, A = some ad ∧ ok ad.block ∧ d.K ok w (xs.getD i z) cs ∧ ∀ j u, cs[j]? = some u → w.cell? (ad.add (i * d.sz + j)) = some u := by
  obtain ⟨ad, e, ho, hc⟩ := h.2.2 (by omega)
  have hl : i < xs.length := by rw [h.1]; exact hi
  obtain ⟨cs, hK, hcs⟩ := hc i xs[i] (List.getElem?_eq_getElem hl)
  refine ⟨ad, cs, e, ho, ?_, hcs⟩
  rw [List.getD_eq_getElem?_getD, List.getElem?_eq_getElem hl]
  exact hK
end

/-! ### a row of the call's own, whose elements are such -/
def Own {α : Type} (d : Kd α) (e : TypeId) (ok : Nat → Prop) (w : World) (base : Nat) (v : Value) (xs : List α) : Prop :=
  (∀ k, v.ownBlock = some k → ok k) ∧ ∃ css : List (List Value), css.length = xs.length ∧ w.ownsRow base e d.sz v xs.length css.flatten ∧
    ∀ (i : Nat) (x : α) (cs : List Value), xs[i]? = some x → css[i]? = some cs → d.K (fun k => ok k ∧ some k ≠ v.ownBlock) w x cs
end Kd

theorem own_move {w w1 : World} {base : Nat} {e : TypeId} {size n : Nat} {v : Value} {xs : List Value} (h : w.ownsRow base e size v n xs) (hm : ∀ k, v.ownBlock = some k → w1.heap[k]? = w.heap[k]?) : w1.ownsRow base e size v n xs := by
  obtain ⟨h1, h2⟩ := h
  refine ⟨h1, ?_⟩
  rcases h2 with h2 | ⟨g, cap, cur, rfl, hg, hh, r⟩
  · exact .inl h2
  · exact .inr ⟨g, cap, cur, rfl, hg, (hm g (by simp [Value.ownBlock])).trans hh, r⟩
theorem own_lt {w : World} {base : Nat} {e : TypeId} {size n : Nat} {v : Value} {xs : List Value} (h : w.ownsRow base e size v n xs) (k : Nat) (hk : v.ownBlock = some k) : base ≤ k ∧ k < w.heap.size := h.lt k hk

/-! ### '==' of structs as one Bool -/
section
variable {P : Program} {d : Nat} {xs ys : Array Value} {f : Field} {fs : List Field} {a b : Value} {r s : Bool} {w : World}
theorem eqf_last (hn : (f.name == "_") = false) (ha : (part f.type xs f.offset).run P w = .ok a w) (hb : (part f.type ys f.offset).run P w = .ok b w) (he : (Op.equalIn d f.type a b).run P w = .ok r w) : (Op.eqFields d xs ys [f]).run P w = .ok r w := by
  have hn' : f.name ≠ "_" := by simpa using hn
  simp only [Op.eqFields, if_pos hn', Sem.run_bind, ha, hb, he, Result.andThen_ok]
  cases r <;> simp
theorem eqf_cons (hn : (f.name == "_") = false) (ha : (part f.type xs f.offset).run P w = .ok a w) (hb : (part f.type ys f.offset).run P w = .ok b w) (he : (Op.equalIn d f.type a b).run P w = .ok r w) (hr : (Op.eqFields d xs ys fs).run P w = .ok s w) : (Op.eqFields d xs ys (f :: fs)).run P w = .ok (r && s) w := by
  have hn' : f.name ≠ "_" := by simpa using hn
  rw [Op.eqFields]
  simp only [if_pos hn', Sem.run_bind, ha, hb, he, Result.andThen_ok]
  cases r
  · simp
  · simpa using hr
theorem eqA_of {t : TypeId} {fs : Array Field} (hu : P.underlying t = some (.struct fs)) (hp : P.stoodInHeld t = false) (h : (Op.eqFields d xs ys fs.toList).run P w = .ok r w) : (Op.equalIn (d + 1) t (.agg xs) (.agg ys)).run P w = .ok r w := by
  have hf : P.fieldsOf t = fs := by simp [Program.fieldsOf, hu]
  rw [run_equalIn_struct (P := P) w d t xs ys (by rw [hf]; exact hu) hp, hf]
  exact h
end

/-! ### append of one element onto a row of the call's own -/
section
variable {P : Program} {ops : Array Oper} {rest : List Oper} {o : Oper} {a : Act} {Q : Exit → Act → World → Prop} {W : World}
theorem app1 (base : Nat) (t e : TypeId) (z : Value) (size bytes : Nat) (hgd : o.guard = none) (s x : Operand)
    (ho : o.op = .call { callee := .builtin .append, args := #[s, x], argTypes := #[t, t] })
    (ht : P.underlying t = some (.slice e)) (hinfo : (P.info? e).map (fun i => (i.zero, i.size, i.bytes)) = some (some z, size, bytes)) (hz : z.cells.size = size) (hsz : 0 < size) (hb0 : 0 < bytes)
    (v : Value) (n : Nat) (xs : List Value) (new : Array Value) (hn : new.size = size) (hs : a.eval s = v) (hx : a.eval x = .slice (some ⟨W.heap.size, 0, none⟩) 1 1) (h1 : ∀ u ∈ new.toList, u.oneCell' = true)
    (HO : W.ownsRow base e size v n xs) (hbase : base ≤ W.heap.size) (hl : (n + 1) * bytes ≤ 140737488355328)
    (h : ∀ v1 w1, w1.ownsRow base e size v1 (n + 1) (xs ++ new.toList) → W.grownBy w1 v.ownBlock → (v1.ownBlock = v.ownBlock ∨ ∃ b, v1.ownBlock = some b ∧ W.heap.size ≤ b) → wpList P ops Q rest (a.put o.dst v1) w1) :
    wpList P ops Q (o :: rest) a (W.alloc (.cells new e)) := by
  obtain ⟨i0, hi, hzz⟩ := Option.map_eq_some_iff.1 hinfo
  simp only [Prod.mk.injEq] at hzz
  obtain ⟨hz0, hz1, hz2⟩ := hzz
  have hlen : n + 1 ≤ 140737488355328 := Nat.le_trans (Nat.le_mul_of_pos_right _ hb0) hl
  refine wpList_append_own_at (W.alloc (.cells new e)) hgd s x t ho base e i0 z size bytes ht hi hz0 hz1 hz2 hz hsz v n xs hs (HO.alloc _) ⟨W.heap.size, 0, none⟩ 1 1 new.toList hx (by simp [hn])
    (World.news_of_block (cs := new) (t := e) (fr := (0, 0)) (heap_alloc_new W _)) h1 (by simp only [maxLen]; omega) hl (by simp; omega) ?_
  intro v1 w1 hown hg _ hat
  refine h v1 w1 hown (World.grownBy.trans (World.grownBy_alloc W _ _) hg) ?_
  rcases hat with hat | hat
  · exact .inl hat
  · exact .inr ⟨_, hat, by simp⟩
end

namespace Kd
section
variable {α : Type} {d : Kd α} {e : TypeId} {ok ok' : Nat → Prop} {w w' : World} {base : Nat} {v : Value} {xs : List α}
theorem Own.nil (d : Kd α) (e : TypeId) (ok : Nat → Prop) (w : World) (base : Nat) : d.Own e ok w base (.slice none 0 0) [] :=
  ⟨fun k hk => by simp [Value.ownBlock] at hk, [], rfl, World.ownsRow_nil w base e d.sz, fun i x cs h => by simp at h⟩
theorem Own.step (h : d.Own e ok w base v xs) (hk : ∀ k, ok k → k < w.heap.size → w'.heap[k]? = w.heap[k]?) (hz : w.heap.size ≤ w'.heap.size) : d.Own e ok w' base v xs := by
  obtain ⟨h0, css, hl, ho, hK⟩ := h
  exact ⟨h0, css, hl, own_move ho (fun k hv => hk k (h0 k hv) (own_lt ho k hv).2), fun i x cs hx hcs => d.keep (fun k ho hlt => hk k ho.1 hlt) hz (hK i x cs hx hcs)⟩
theorem Own.below (h : d.Own e ok w base v xs) (hb : Below w.heap.size w w') : d.Own e ok w' base v xs := h.step (fun k _ hk => hb.block k hk) hb.size
theorem Own.frm (h : d.Own e ok w base v xs) (hb : Frm ok w w') : d.Own e ok w' base v xs := h.step hb.block hb.size
theorem Own.far (h : d.Own e ok w base v xs) {p : Addr} (hp : ∀ k, ok k → k < w.heap.size → k ≠ p.block) (u : Value) : d.Own e ok (w.setCell p u) base v xs :=
  h.step (fun k ho hlt => Below.heap_setCell w p u k (hp k ho hlt)) (by simp [World.setCell])
theorem Own.alloc (h : d.Own e ok w base v xs) (o : Obj) : d.Own e ok (w.alloc o) base v xs := h.step (fun k _ hk => Below.heap_alloc w o k hk) (by simp)
theorem Own.drewN (h : d.Own e ok w base v xs) (n : Nat) : d.Own e ok (w.drewN n) base v xs := h.step (fun _ _ _ => rfl) (Nat.le_refl _)
theorem Own.mono (h : d.Own e ok w base v xs) (hk : ∀ k, ok k → k < w.heap.size → ok' k) : d.Own e ok' w base v xs := by
  obtain ⟨h0, css, hl, ho, hK⟩ := h
  exact ⟨fun k hv => hk k (h0 k hv) (own_lt ho k hv).2, css, hl, ho, fun i x cs hx hcs => d.mono (fun k ho hlt => ⟨hk k ho.1 hlt, ho.2⟩) (hK i x cs hx hcs)⟩
theorem Own.base_ge (h : d.Own e ok w base v xs) (k : Nat) (hk : v.ownBlock = some k) : base ≤ k ∧ k < w.heap.size := by
  obtain ⟨_, css, _, ho, _⟩ := h
  exact own_lt ho k hk
theorem Own.form (h : d.Own e ok w base v xs) : ∃ A c, v = .slice A xs.length c ∧ xs.length ≤ c := by
  obtain ⟨_, css, _, ho, _⟩ := h
  rcases ho.2 with ⟨rfl, h0⟩ | ⟨g, cap, cur, rfl, _, _, hc, _⟩
  · exact ⟨none, 0, by rw [h0], by omega⟩
  · exact ⟨_, cap, rfl, hc⟩
theorem flatten_get {α : Type} : ∀ (css : List (List α)) (sz : Nat) (_ : ∀ c ∈ css, c.length = sz) (i j : Nat) (cs : List α), css[i]? = some cs → j < sz → css.flatten[i * sz + j]? = cs[j]?
  | [], _, _, _, _, _, h, _ => by simp at h
  | c :: css, sz, hl, 0, j, cs, h, hj => by
    simp at h; subst h
    rw [List.flatten_cons, List.getElem?_append_left (by rw [hl c List.mem_cons_self]; omega)]
    simp
  | c :: css, sz, hl, i + 1, j, cs, h, hj => by
    have hc := hl c List.mem_cons_self
    rw [List.flatten_cons, List.getElem?_append_right (by rw [hc, Nat.add_mul]; omega), hc]
    rw [show (i + 1) * sz + j - sz = i * sz + j from by rw [Nat.add_mul]; omega]
    exact flatten_get css sz (fun c hc => hl c (List.mem_cons_of_mem _ hc)) i j cs (by simpa using h) hj
theorem Own.reads (h : d.Own e ok w base v xs) (hn : xs.length ≤ 140737488355328) : ∃ A c, v = .slice A xs.length c ∧ xs.length ≤ c ∧ d.C ok w A xs.length xs := by
  obtain ⟨h0, css, hl, ho, hK⟩ := h
  have hsz : ∀ c ∈ css, c.length = d.sz := by
    intro c hc
    obtain ⟨i, hi, rfl⟩ := List.getElem_of_mem hc
    exact d.len (hK i xs[i] css[i] (List.getElem?_eq_getElem (by omega)) (List.getElem?_eq_getElem hi))
  rcases ho.2 with ⟨rfl, h0'⟩ | ⟨g, cap, cur, rfl, hb, hh, hcap, hm, hcs, ht⟩
  · have : xs = [] := List.eq_nil_of_length_eq_zero h0'
    subst this
    exact ⟨none, 0, rfl, Nat.le_refl _, C_nil d ok w none⟩
  · refine ⟨_, cap, rfl, hcap, rfl, hn, fun _ => ⟨_, rfl, h0 g rfl, fun j x hj => ?_⟩⟩
    have hjl : j < css.length := by rw [hl]; exact (List.getElem?_eq_some_iff.1 hj).1
    refine ⟨css[j], d.mono (fun k ho _ => ho.1) (hK j x _ hj (List.getElem?_eq_getElem hjl)), fun i u hu => ?_⟩
    have hi : i < d.sz := by
      have := (List.getElem?_eq_some_iff.1 hu).1
      rwa [hsz _ (List.getElem_mem hjl)] at this
    refine ho.cells (g := g) rfl _ u ?_
    rw [flatten_get css d.sz hsz j i css[j] (List.getElem?_eq_getElem hjl) hi]
    exact hu
end
section
variable {P : Program} {ops : Array Oper} {rest : List Oper} {o : Oper} {a : Act} {Q : Exit → Act → World → Prop} {W : World} {α : Type} {d : Kd α} {ok : Nat → Prop}
theorem own_append (base : Nat) (t e : TypeId) (z : Value) (bytes : Nat) (hgd : o.guard = none) (s x : Operand)
    (ho : o.op = .call { callee := .builtin .append, args := #[s, x], argTypes := #[t, t] })
    (ht : P.underlying t = some (.slice e)) (hinfo : (P.info? e).map (fun i => (i.zero, i.size, i.bytes)) = some (some z, d.sz, bytes)) (hz : z.cells.size = d.sz) (hsz : 0 < d.sz) (hb0 : 0 < bytes)
    (v : Value) (xs : List α) (y : α) (new : Array Value) (hs : a.eval s = v) (hx : a.eval x = .slice (some ⟨W.heap.size, 0, none⟩) 1 1)
    (HO : d.Own e ok W base v xs) (hy : d.K (fun k => ok k ∧ some k ≠ v.ownBlock) W y new.toList) (hok : ∀ k, W.heap.size ≤ k → ok k) (hbase : base ≤ W.heap.size) (hl : (xs.length + 1) * bytes ≤ 140737488355328)
    (h : ∀ v1 w1, d.Own e ok w1 base v1 (xs ++ [y]) → W.grownBy w1 v.ownBlock → (v1.ownBlock = v.ownBlock ∨ ∃ b, v1.ownBlock = some b ∧ W.heap.size ≤ b) → wpList P ops Q rest (a.put o.dst v1) w1) :
    wpList P ops Q (o :: rest) a (W.alloc (.cells new e)) := by
  obtain ⟨h0, css, hlen, hown, hK⟩ := HO
  refine app1 base t e z d.sz bytes hgd s x ho ht hinfo hz hsz hb0 v xs.length css.flatten new (by rw [← Array.length_toList]; exact d.len hy) hs hx (d.one hy) hown hbase hl ?_
  intro v1 w1 hown1 hg hat
  have hbl : ∀ k, some k ≠ v.ownBlock → k < W.heap.size → some k ≠ v1.ownBlock := by
    intro k hk hlt e
    rcases hat with h1 | ⟨b, h1, h2⟩
    · rw [h1] at e; exact hk e
    · rw [h1] at e; injection e with e; omega
  refine h v1 w1 ⟨fun k hk => ?_, css ++ [new.toList], by simp [hlen], by simpa using hown1, fun i x cs hx hcs => ?_⟩ hg hat
  · rcases hat with h1 | ⟨b, h1, h2⟩
    · rw [h1] at hk; exact h0 k hk
    · rw [h1] at hk; injection hk with hk; exact hok k (by omega)
  · have move : ∀ {x : α} {cs : List Value}, d.K (fun k => ok k ∧ some k ≠ v.ownBlock) W x cs → d.K (fun k => ok k ∧ some k ≠ v1.ownBlock) w1 x cs := fun {x cs} hh =>
      d.mono (ok := fun k => ok k ∧ some k ≠ v.ownBlock ∧ some k ≠ v1.ownBlock) (fun k hk _ => ⟨hk.1, hk.2.2⟩)
        (d.keep (w := W) (fun k hk hlt => hg.block k hlt hk.2.1) hg.size (d.mono (fun k hk hlt => ⟨hk.1, hk.2, hbl k hk.2 hlt⟩) hh))
    rcases Nat.lt_or_ge i xs.length with hi | hi
    · rw [List.getElem?_append_left hi] at hx
      rw [List.getElem?_append_left (by omega)] at hcs
      exact move (hK i x cs hx hcs)
    · rw [List.getElem?_append_right hi] at hx
      rw [List.getElem?_append_right (by omega), hlen] at hcs
      have hi0 : i - xs.length = 0 := by
        have := (List.getElem?_eq_some_iff.1 hx).1
        simp at this
        omega
      rw [hi0] at hx hcs
      simp at hx hcs
      subst hx hcs
      exact move hy
end
end Kd

theorem str_eq {a b : ByteArray} : (a.toList == b.toList) = true ↔ a = b := by
  rw [beq_iff_eq, ByteArray.toList_eq, ByteArray.toList_eq]
  exact ⟨fun h => ByteArray.ext (Array.toList_inj.mp h), fun h => by rw [h]⟩
theorem str_ne {a b : ByteArray} : (a.toList == b.toList) = false ↔ a ≠ b := by
  rw [← Bool.not_eq_true, not_congr str_eq]
theorem eq_of_getD {α : Type} (z : α) {xs ys : List α} (hl : xs.length = ys.length) (h : ∀ j, j < xs.length → xs.getD j z = ys.getD j z) : xs = ys := by
  refine List.ext_getElem hl fun j h1 h2 => ?_
  have := h j h1
  rwa [List.getD_eq_getElem?_getD, List.getD_eq_getElem?_getD, List.getElem?_eq_getElem h1, List.getElem?_eq_getElem h2] at this
theorem getD_lt {α : Type} (z : α) {xs : List α} {k : Nat} (h : k < xs.length) : xs.getD k z = xs[k] := by
  rw [List.getD_eq_getElem?_getD, List.getElem?_eq_getElem h]; rfl
theorem take_snoc {α : Type} (z : α) {xs : List α} {k : Nat} (h : k < xs.length) : xs.take (k + 1) = xs.take k ++ [xs.getD k z] := by
  rw [List.take_succ_eq_append_getElem h, getD_lt z h]

/-! ### a store into an element of a row of the call's own; rows of different types -/
theorem own_type_ne {w : World} {b b' : Nat} {e e' : TypeId} {s s' n n' : Nat} {v v' : Value} {xs xs' : List Value} (h : w.ownsRow b e s v n xs) (h' : w.ownsRow b' e' s' v' n' xs') (hne : e ≠ e') (k : Nat) (hk : v.ownBlock = some k) : some k ≠ v'.ownBlock := by
  rcases h.2 with ⟨rfl, _⟩ | ⟨g, cap, cur, rfl, _, hh, _⟩
  · simp [Value.ownBlock] at hk
  · have hg : g = k := by simpa [Value.ownBlock] using hk
    subst hg
    intro e2
    rcases h'.2 with ⟨rfl, _⟩ | ⟨g', cap', cur', rfl, _, hh', _⟩
    · simp [Value.ownBlock] at e2
    · have : g = g' := by simpa [Value.ownBlock] using e2
      subst this
      rw [hh] at hh'
      injection hh' with hh'
      injection hh' with _ ht
      exact hne ht
theorem own_blk_ne {w : World} {g : Nat} {t : TypeId} {cs : Array Value} {base : Nat} {e : TypeId} {size n : Nat} {v : Value} {xs : List Value} (h : w.ownsRow base e size v n xs) (hg : Blk w g t cs) (hne : e ≠ t) : v.ownBlock ≠ some g := by
  rcases h.2 with ⟨rfl, _⟩ | ⟨g', cap, cur, rfl, _, hh, _⟩
  · simp [Value.ownBlock]
  · intro he
    have : g' = g := by simpa [Value.ownBlock] using he
    subst this
    unfold Blk at hg
    rw [hg] at hh
    injection hh with hh
    injection hh with _ ht
    exact hne ht.symm
theorem flatten_set6 : ∀ (css : List (List Value)) (_ : ∀ c ∈ css, c.length = 6) (i : Nat) (_ : i < css.length) (a0 a1 a2 a3 a4 a5 : Value),
    ((((((css.flatten.set (i * 6) a0).set (i * 6 + 1) a1).set (i * 6 + 2) a2).set (i * 6 + 3) a3).set (i * 6 + 4) a4).set (i * 6 + 5) a5) = (css.set i [a0, a1, a2, a3, a4, a5]).flatten
  | [], _, i, hi, _, _, _, _, _, _ => absurd hi (by simp)
  | c :: css, hl, 0, _, a0, a1, a2, a3, a4, a5 => by
    have hc := hl c List.mem_cons_self
    match c, hc with
    | [x0, x1, x2, x3, x4, x5], _ => simp
  | c :: css, hl, i + 1, hi, a0, a1, a2, a3, a4, a5 => by
    have hc := hl c List.mem_cons_self
    have ih := flatten_set6 css (fun c h => hl c (List.mem_cons_of_mem _ h)) i (by simpa using hi) a0 a1 a2 a3 a4 a5
    have step : ∀ (l : List Value) (j : Nat) (u : Value), (c ++ l).set ((i + 1) * 6 + j) u = c ++ l.set (i * 6 + j) u := by
      intro l j u
      rw [List.set_append_right _ _ (by rw [hc]; omega), hc, show (i + 1) * 6 + j - 6 = i * 6 + j from by omega]
    have step0 : ∀ (l : List Value) (u : Value), (c ++ l).set ((i + 1) * 6) u = c ++ l.set (i * 6) u := fun l u => step l 0 u
    rw [List.flatten_cons, step0, step, step, step, step, step, ih, List.set_cons_succ, List.flatten_cons]
namespace Kd
section
variable {α : Type} {d : Kd α} {e : TypeId} {ok : Nat → Prop} {w : World} {base g n cap : Nat} {xs : List α}
theorem Own.lens {v : Value} (h : d.Own e ok w base v xs) : ∃ css : List (List Value), css.length = xs.length ∧ (∀ c ∈ css, c.length = d.sz) ∧ w.ownsRow base e d.sz v xs.length css.flatten ∧
    ∀ (i : Nat) (x : α) (cs : List Value), xs[i]? = some x → css[i]? = some cs → d.K (fun k => ok k ∧ some k ≠ v.ownBlock) w x cs := by
  obtain ⟨h0, css, hl, ho, hK⟩ := h
  refine ⟨css, hl, fun c hc => ?_, ho, hK⟩
  obtain ⟨i, hi, rfl⟩ := List.getElem_of_mem hc
  exact d.len (hK i xs[i] css[i] (List.getElem?_eq_getElem (by omega)) (List.getElem?_eq_getElem hi))
theorem Own.set6 (h6 : d.sz = 6) (h : d.Own e ok w base (.slice (some ⟨g, 0, none⟩) n cap) xs) (i : Nat) (hi : i < xs.length) (x : α) (a0 a1 a2 a3 a4 a5 : Value) (hx : d.K (fun k => ok k ∧ some k ≠ some g) w x [a0, a1, a2, a3, a4, a5]) :
    d.Own e ok ((((((w.setCell ⟨g, i * 6, none⟩ a0).setCell ⟨g, i * 6 + 1, none⟩ a1).setCell ⟨g, i * 6 + 2, none⟩ a2).setCell ⟨g, i * 6 + 3, none⟩ a3).setCell ⟨g, i * 6 + 4, none⟩ a4).setCell ⟨g, i * 6 + 5, none⟩ a5) base (.slice (some ⟨g, 0, none⟩) n cap) (xs.set i x) := by
  have h0 := h.1
  obtain ⟨css, hl, hlen, ho, hK⟩ := h.lens
  have hn : xs.length = n := by
    rcases ho.2 with ⟨h1, h2⟩ | ⟨g', cap', cur, h1, _⟩
    · simp at h1
    · injection h1 with _ h1
      exact h1.symm
  rw [h6] at hlen ho
  rw [← hn] at ho ⊢
  have hs := ((((((ho.stored (i * 6) a0).1.stored (i * 6 + 1) a1).1.stored (i * 6 + 2) a2).1.stored (i * 6 + 3) a3).1.stored (i * 6 + 4) a4).1.stored (i * 6 + 5) a5).1
  rw [flatten_set6 css hlen i (by omega)] at hs
  have hfar : ∀ k, k ≠ g → ((((((w.setCell ⟨g, i * 6, none⟩ a0).setCell ⟨g, i * 6 + 1, none⟩ a1).setCell ⟨g, i * 6 + 2, none⟩ a2).setCell ⟨g, i * 6 + 3, none⟩ a3).setCell ⟨g, i * 6 + 4, none⟩ a4).setCell ⟨g, i * 6 + 5, none⟩ a5).heap[k]? = w.heap[k]? := fun k hg => by
    rw [Below.heap_setCell _ _ _ _ hg, Below.heap_setCell _ _ _ _ hg, Below.heap_setCell _ _ _ _ hg, Below.heap_setCell _ _ _ _ hg, Below.heap_setCell _ _ _ _ hg, Below.heap_setCell _ _ _ _ hg]
  have hsz : w.heap.size ≤ ((((((w.setCell ⟨g, i * 6, none⟩ a0).setCell ⟨g, i * 6 + 1, none⟩ a1).setCell ⟨g, i * 6 + 2, none⟩ a2).setCell ⟨g, i * 6 + 3, none⟩ a3).setCell ⟨g, i * 6 + 4, none⟩ a4).setCell ⟨g, i * 6 + 5, none⟩ a5).heap.size := by simp [World.setCell]
  generalize ((((((w.setCell ⟨g, i * 6, none⟩ a0).setCell ⟨g, i * 6 + 1, none⟩ a1).setCell ⟨g, i * 6 + 2, none⟩ a2).setCell ⟨g, i * 6 + 3, none⟩ a3).setCell ⟨g, i * 6 + 4, none⟩ a4).setCell ⟨g, i * 6 + 5, none⟩ a5) = W at *
  have hK' : ∀ {x : α} {cs : List Value}, d.K (fun k => ok k ∧ some k ≠ some g) w x cs → d.K (fun k => ok k ∧ some k ≠ some g) W x cs := fun hh =>
    d.keep (fun k hk _ => hfar k (fun e => hk.2 (by rw [e]))) hsz hh
  refine ⟨h0, css.set i [a0, a1, a2, a3, a4, a5], by simp [hl], by rw [List.length_set, h6]; exact hs, fun j y cs hy hcs => ?_⟩
  by_cases hj : j = i
  · subst hj
    rw [List.getElem?_set_self (by omega)] at hy
    rw [List.getElem?_set_self (by omega)] at hcs
    injection hy with hy
    injection hcs with hcs
    rw [← hy, ← hcs]
    exact hK' hx
  · rw [List.getElem?_set_ne (by omega)] at hy
    rw [List.getElem?_set_ne (by omega)] at hcs
    exact hK' (hK j y cs hy hcs)
end
end Kd

/-- The six cells of an element of a row of the call's own, and that they may be written. -/
theorem Kd.Own.cells6 {α : Type} {d : Kd α} {e : TypeId} {ok : Nat → Prop} {w : World} {base g n cap : Nat} {xs : List α} (h6 : d.sz = 6) (h : d.Own e ok w base (.slice (some ⟨g, 0, none⟩) n cap) xs) (i : Nat) (hi : i < xs.length) :
    ∃ u0 u1 u2 u3 u4 u5, w.cell? ⟨g, i * 6, none⟩ = some u0 ∧ w.cell? ⟨g, i * 6 + 1, none⟩ = some u1 ∧ w.cell? ⟨g, i * 6 + 2, none⟩ = some u2 ∧ w.cell? ⟨g, i * 6 + 3, none⟩ = some u3 ∧ w.cell? ⟨g, i * 6 + 4, none⟩ = some u4 ∧ w.cell? ⟨g, i * 6 + 5, none⟩ = some u5
      ∧ ∀ j, w.frozen? ⟨g, j, none⟩ = false := by
  obtain ⟨css, hl, hlen, ho, hK⟩ := h.lens
  have hn : xs.length = n := by
    rcases ho.2 with ⟨h1, h2⟩ | ⟨g', cap', cur, h1, _⟩
    · simp at h1
    · injection h1 with _ h1
      exact h1.symm
  subst hn
  have hil : i < css.length := by omega
  have hc6 := hlen css[i] (List.getElem_mem hil)
  have hg : ∀ j u, css[i][j]? = some u → j < 6 → w.cell? ⟨g, i * 6 + j, none⟩ = some u := by
    intro j u hu hj
    have := ho.cells (g := g) rfl (i * 6 + j) u (by rw [← h6]; rw [flatten_get css d.sz hlen i j css[i] (List.getElem?_eq_getElem hil) (by omega)]; exact hu)
    rw [add_zero', Nat.zero_add] at this
    exact this
  rw [h6] at hc6
  obtain ⟨u0, u1, u2, u3, u4, u5, hcs⟩ : ∃ u0 u1 u2 u3 u4 u5, css[i] = [u0, u1, u2, u3, u4, u5] := by
    match hcc : css[i], hc6 with
    | [u0, u1, u2, u3, u4, u5], _ => exact ⟨u0, u1, u2, u3, u4, u5, rfl⟩
  rw [hcs] at hg
  exact ⟨u0, u1, u2, u3, u4, u5, hg 0 u0 rfl (by omega), hg 1 u1 rfl (by omega), hg 2 u2 rfl (by omega), hg 3 u3 rfl (by omega), hg 4 u4 rfl (by omega), hg 5 u5 rfl (by omega), fun j => ho.frozenAt j⟩

theorem Kd.Own.int_self {kk : IntKind} {e : TypeId} {ok : Nat → Prop} {w : World} {base : Nat} {v : Value} {xs : List Int} (h : (Kd.int kk).Own e ok w base v xs) : (Kd.int kk).Own e (fun k => v.ownBlock = some k ∧ ok k) w base v xs := by
  obtain ⟨h0, css, hl, ho, hK⟩ := h
  exact ⟨fun k hk => ⟨hk, h0 k hk⟩, css, hl, ho, fun i x cs hx hcs => hK i x cs hx hcs⟩
/-- A row is not that of another type. -/
theorem Kd.Own.type_ne {α β : Type} {d : Kd α} {d' : Kd β} {e e' : TypeId} {ok ok' : Nat → Prop} {w : World} {b b' : Nat} {v v' : Value} {xs : List α} {ys : List β} (h : d.Own e ok w b v xs) (h' : d'.Own e' ok' w b' v' ys) (hne : e ≠ e') (k : Nat) (hk : v.ownBlock = some k) : some k ≠ v'.ownBlock := by
  obtain ⟨_, css, _, ho, _⟩ := h
  obtain ⟨_, css', _, ho', _⟩ := h'
  exact own_type_ne ho ho' hne k hk
/-- Six stores into one block: what is in the others. -/
theorem six_far (w : World) (g o : Nat) (a0 a1 a2 a3 a4 a5 : Value) (k : Nat) (hg : k ≠ g) : ((((((w.setCell ⟨g, o, none⟩ a0).setCell ⟨g, o + 1, none⟩ a1).setCell ⟨g, o + 2, none⟩ a2).setCell ⟨g, o + 3, none⟩ a3).setCell ⟨g, o + 4, none⟩ a4).setCell ⟨g, o + 5, none⟩ a5).heap[k]? = w.heap[k]? := by
  rw [Below.heap_setCell _ _ _ _ hg, Below.heap_setCell _ _ _ _ hg, Below.heap_setCell _ _ _ _ hg, Below.heap_setCell _ _ _ _ hg, Below.heap_setCell _ _ _ _ hg, Below.heap_setCell _ _ _ _ hg]

/-- A literal of strings reads as it says. -/
theorem strs_of_blk {w : World} {g : Nat} {t : TypeId} {cs : Array Value} (h : Blk w g t cs) (xs : List ByteArray) (hc : cs.toList = xs.map Value.string) (hn : xs.length ≤ 140737488355328) : Kd.string.C (fun k => k = g) w (some ⟨g, 0, none⟩) xs.length xs := by
  refine ⟨rfl, hn, fun _ => ⟨_, rfl, rfl, fun j x hj => ⟨[.string x], rfl, fun i u hu => ?_⟩⟩⟩
  match i, hu with
  | 0, hu =>
    simp at hu
    subst hu
    show w.cell? ((⟨g, 0, none⟩ : Addr).add (j * 1 + 0)) = _
    rw [add_zero', h.cell, ← Array.getElem?_toList, hc]
    simp [hj]
theorem ints_of_blk {w : World} {g : Nat} {t : TypeId} {cs : Array Value} (h : Blk w g t cs) (xs : List Int) (hc : cs.toList = xs.map (Value.int .i64)) (hn : xs.length ≤ 140737488355328) : (Kd.int .i64).C (fun k => k = g) w (some ⟨g, 0, none⟩) xs.length xs := by
  refine ⟨rfl, hn, fun _ => ⟨_, rfl, rfl, fun j x hj => ⟨[.int .i64 x], rfl, fun i u hu => ?_⟩⟩⟩
  match i, hu with
  | 0, hu =>
    simp at hu
    subst hu
    show w.cell? ((⟨g, 0, none⟩ : Addr).add (j * 1 + 0)) = _
    rw [add_zero', h.cell, ← Array.getElem?_toList, hc]
    simp [hj]

/-! ### the same append, as one step of a region that draws its order -/
namespace Kd
section
variable {P : Program} {α : Type} {d : Kd α} {ok : Nat → Prop} {w : World}
theorem own_append_run (base : Nat) (t ty e : TypeId) (z : Value) (bytes : Nat)
    (ht : P.underlying t = some (.slice e)) (hinfo : (P.info? e).map (fun i => (i.zero, i.size, i.bytes)) = some (some z, d.sz, bytes)) (hz : z.cells.size = d.sz) (hsz : 0 < d.sz) (hb0 : 0 < bytes)
    (v : Value) (xs : List α) (y : α) (ad : Addr) (news : List Value) (HO : d.Own e ok w base v xs) (hn : ∀ j u, news[j]? = some u → w.cell? (ad.add j) = some u)
    (hy : d.K (fun k => ok k ∧ some k ≠ v.ownBlock) w y news) (hok : ∀ k, w.heap.size ≤ k → ok k) (hbase : base ≤ w.heap.size) (hl : (xs.length + 1) * bytes ≤ 140737488355328) :
    ∃ v1 w1, (Builtin.append_ #[t, t] ty #[v, .slice (some ad) 1 1]).run P w = .ok v1 w1 ∧ d.Own e ok w1 base v1 (xs ++ [y]) ∧ w.grownBy w1 v.ownBlock ∧ (v1.ownBlock = v.ownBlock ∨ ∃ b, v1.ownBlock = some b ∧ w.heap.size ≤ b) := by
  obtain ⟨i0, hi, hzz⟩ := Option.map_eq_some_iff.1 hinfo
  simp only [Prod.mk.injEq] at hzz
  obtain ⟨hz0, hz1, hz2⟩ := hzz
  have hlen : xs.length + 1 ≤ 140737488355328 := Nat.le_trans (Nat.le_mul_of_pos_right _ hb0) hl
  obtain ⟨h0, css, hcl, hown, hK⟩ := HO
  obtain ⟨v1, w1, hr, hown1, hg, _, hat0⟩ := run_append_own_at (P := P) w base t ty e i0 z d.sz bytes ht hi hz0 hz1 hz2 hz hsz v xs.length css.flatten hown ad 1 1 news (by rw [d.len hy]; omega) hn (d.one hy) (by simp only [maxLen]; omega) hl hbase
  have hat : v1.ownBlock = v.ownBlock ∨ ∃ b, v1.ownBlock = some b ∧ w.heap.size ≤ b := by
    rcases hat0 with h | h
    · exact .inl h
    · exact .inr ⟨_, h, Nat.le_refl _⟩
  have hbl : ∀ k, some k ≠ v.ownBlock → k < w.heap.size → some k ≠ v1.ownBlock := by
    intro k hk hlt e
    rcases hat with h1 | ⟨b, h1, h2⟩
    · rw [h1] at e; exact hk e
    · rw [h1] at e; injection e with e; omega
  refine ⟨v1, w1, hr, ⟨fun k hk => ?_, css ++ [news], by simp [hcl], by simpa using hown1, fun i x cs hx hcs => ?_⟩, hg, hat⟩
  · rcases hat with h1 | ⟨b, h1, h2⟩
    · rw [h1] at hk; exact h0 k hk
    · rw [h1] at hk; injection hk with hk; exact hok k (by omega)
  · have move : ∀ {x : α} {cs : List Value}, d.K (fun k => ok k ∧ some k ≠ v.ownBlock) w x cs → d.K (fun k => ok k ∧ some k ≠ v1.ownBlock) w1 x cs := fun {x cs} hh =>
      d.mono (ok := fun k => ok k ∧ some k ≠ v.ownBlock ∧ some k ≠ v1.ownBlock) (fun k hk _ => ⟨hk.1, hk.2.2⟩)
        (d.keep (w := w) (fun k hk hlt => hg.block k hlt hk.2.1) hg.size (d.mono (fun k hk hlt => ⟨hk.1, hk.2, hbl k hk.2 hlt⟩) hh))
    rcases Nat.lt_or_ge i xs.length with hi | hi
    · rw [List.getElem?_append_left hi] at hx
      rw [List.getElem?_append_left (by omega)] at hcs
      exact move (hK i x cs hx hcs)
    · rw [List.getElem?_append_right hi] at hx
      rw [List.getElem?_append_right (by omega), hcl] at hcs
      have hi0 : i - xs.length = 0 := by
        have := (List.getElem?_eq_some_iff.1 hx).1
        simp at this
        omega
      rw [hi0] at hx hcs
      simp at hx hcs
      subst hx hcs
      exact move hy
theorem step_own_append {ops : Array Oper} {o : Oper} {a : Act} {K : Act → World → Prop} {Q : Exit → Act → World → Prop} {E : Prop} (base : Nat) (t e : TypeId) (z : Value) (bytes : Nat) (hgd : o.guard = none) (s x : Operand)
    (ho : o.op = .call { callee := .builtin .append, args := #[s, x], argTypes := #[t, t] })
    (ht : P.underlying t = some (.slice e)) (hinfo : (P.info? e).map (fun i => (i.zero, i.size, i.bytes)) = some (some z, d.sz, bytes)) (hz : z.cells.size = d.sz) (hsz : 0 < d.sz) (hb0 : 0 < bytes)
    (v : Value) (xs : List α) (y : α) (ad : Addr) (news : List Value) (hs : a.eval s = v) (hx : a.eval x = .slice (some ad) 1 1) (HO : d.Own e ok w base v xs) (hn : ∀ j u, news[j]? = some u → w.cell? (ad.add j) = some u)
    (hy : d.K (fun k => ok k ∧ some k ≠ v.ownBlock) w y news) (hok : ∀ k, w.heap.size ≤ k → ok k) (hbase : base ≤ w.heap.size) (hl : (xs.length + 1) * bytes ≤ 140737488355328)
    (h : ∀ v1 w1, d.Own e ok w1 base v1 (xs ++ [y]) → w.grownBy w1 v.ownBlock → (v1.ownBlock = v.ownBlock ∨ ∃ b, v1.ownBlock = some b ∧ w.heap.size ≤ b) → K (a.put o.dst v1) w1) :
    if Region.wanted o (yielded ops a.tmps) = true then Oper.wp P o a w K Q else E := by
  have hw : Region.wanted o (yielded ops a.tmps) = true := by simp [Region.wanted, hgd]
  rw [if_pos hw]
  obtain ⟨v1, w1, hr, h1, h2, h3⟩ := own_append_run (P := P) base t o.type e z bytes ht hinfo hz hsz hb0 v xs y ad news HO hn hy hok hbase hl
  unfold Oper.wp execOp
  simp only [ho, resolve, invoke, builtin, Sem.run_bind, Sem.run_pure, Result.andThen_ok, List.map_toArray, List.map_cons, List.map_nil, hs, hx, hr]
  exact h v1 w1 h1 h2 h3
end
end Kd

/-- Behind an append: what was there, and was not the row, is not the new row either. -/
theorem own_at_ne {v v1 : Value} {n k : Nat} (hat : v1.ownBlock = v.ownBlock ∨ ∃ b, v1.ownBlock = some b ∧ n ≤ b) (hk : some k ≠ v.ownBlock) (hl : k < n) : some k ≠ v1.ownBlock := by
  rcases hat with h | ⟨b, h, hb⟩
  · rw [h]; exact hk
  · rw [h]; intro e; injection e with e; omega

/-! ### a store into one cell of an element -/
theorem flatten_set1 {α : Type} : ∀ (css : List (List α)) (sz : Nat) (_ : ∀ c ∈ css, c.length = sz) (i j : Nat) (u : α) (c : List α), css[i]? = some c → j < sz → css.flatten.set (i * sz + j) u = (css.set i (c.set j u)).flatten
  | [], _, _, _, _, _, _, h, _ => by simp at h
  | c :: css, sz, hl, 0, j, u, c', h, hj => by
    simp at h
    subst h
    have hc := hl c List.mem_cons_self
    rw [List.flatten_cons, Nat.zero_mul, Nat.zero_add, List.set_append_left _ _ (by omega), List.set_cons_zero, List.flatten_cons]
  | c :: css, sz, hl, i + 1, j, u, c', h, hj => by
    have hc := hl c List.mem_cons_self
    rw [List.flatten_cons, List.set_append_right _ _ (by rw [hc, Nat.add_mul]; omega), hc, show (i + 1) * sz + j - sz = i * sz + j from by rw [Nat.add_mul]; omega,
      flatten_set1 css sz (fun c h => hl c (List.mem_cons_of_mem _ h)) i j u c' (by simpa using h) hj, List.set_cons_succ, List.flatten_cons]
theorem Kd.Own.put {α : Type} {d : Kd α} {e : TypeId} {ok : Nat → Prop} {w : World} {base g n cap : Nat} {xs : List α} (h : d.Own e ok w base (.slice (some ⟨g, 0, none⟩) n cap) xs) (i j : Nat) (hi : i < xs.length) (hj : j < d.sz) (u : Value) (x : α)
    (hx : ∀ cs, d.K (fun k => ok k ∧ some k ≠ some g) w xs[i] cs → d.K (fun k => ok k ∧ some k ≠ some g) w x (cs.set j u)) : d.Own e ok (w.setCell ⟨g, i * d.sz + j, none⟩ u) base (.slice (some ⟨g, 0, none⟩) n cap) (xs.set i x) := by
  have h0 := h.1
  obtain ⟨css, hl, hlen, ho, hK⟩ := h.lens
  have hn : xs.length = n := by
    rcases ho.2 with ⟨h1, h2⟩ | ⟨g', cap', cur, h1, _⟩
    · simp at h1
    · injection h1 with _ h1
      exact h1.symm
  subst hn
  have hil : i < css.length := by omega
  have hs := (ho.stored (i * d.sz + j) u).1
  rw [flatten_set1 css d.sz hlen i j u css[i] (List.getElem?_eq_getElem hil) hj] at hs
  have hfar : ∀ k, k ≠ g → (w.setCell ⟨g, i * d.sz + j, none⟩ u).heap[k]? = w.heap[k]? := fun k hg => Below.heap_setCell _ _ _ _ hg
  have hsz : w.heap.size ≤ (w.setCell ⟨g, i * d.sz + j, none⟩ u).heap.size := by simp [World.setCell]
  generalize w.setCell ⟨g, i * d.sz + j, none⟩ u = W at *
  have hK' : ∀ {x : α} {cs : List Value}, d.K (fun k => ok k ∧ some k ≠ some g) w x cs → d.K (fun k => ok k ∧ some k ≠ some g) W x cs := fun hh =>
    d.keep (fun k hk _ => hfar k (fun e => hk.2 (by rw [e]))) hsz hh
  refine ⟨h0, css.set i (css[i].set j u), by simp [hl], by rw [List.length_set]; exact hs, fun m y cs hy hcs => ?_⟩
  by_cases hm : m = i
  · subst hm
    rw [List.getElem?_set_self (by omega)] at hy
    rw [List.getElem?_set_self (by omega)] at hcs
    injection hy with hy
    injection hcs with hcs
    rw [← hy, ← hcs]
    exact hK' (hx _ (hK m xs[m] css[m] (List.getElem?_eq_getElem hi) (List.getElem?_eq_getElem hil)))
  · rw [List.getElem?_set_ne (by omega)] at hy
    rw [List.getElem?_set_ne (by omega)] at hcs
    exact hK' (hK m y cs hy hcs)
/-- The cells of an element of a row of the call's own. -/
theorem Kd.Own.cellsAt {α : Type} {d : Kd α} {e : TypeId} {ok : Nat → Prop} {w : World} {base g n cap : Nat} {xs : List α} (h : d.Own e ok w base (.slice (some ⟨g, 0, none⟩) n cap) xs) (i : Nat) (hi : i < xs.length) :
    ∃ cs, d.K (fun k => ok k ∧ some k ≠ some g) w xs[i] cs ∧ (∀ j u, cs[j]? = some u → w.cell? ⟨g, i * d.sz + j, none⟩ = some u) ∧ ∀ j, w.frozen? ⟨g, j, none⟩ = false := by
  obtain ⟨css, hl, hlen, ho, hK⟩ := h.lens
  have hn : xs.length = n := by
    rcases ho.2 with ⟨h1, h2⟩ | ⟨g', cap', cur, h1, _⟩
    · simp at h1
    · injection h1 with _ h1
      exact h1.symm
  subst hn
  have hil : i < css.length := by omega
  refine ⟨css[i], hK i xs[i] css[i] (List.getElem?_eq_getElem hi) (List.getElem?_eq_getElem hil), fun j u hu => ?_, fun j => ho.frozenAt j⟩
  have hjs : j < d.sz := by
    have := (List.getElem?_eq_some_iff.1 hu).1
    rwa [hlen _ (List.getElem_mem hil)] at this
  have := ho.cells (g := g) rfl (i * d.sz + j) u (by rw [flatten_get css d.sz hlen i j css[i] (List.getElem?_eq_getElem hil) hjs]; exact hu)
  rw [add_zero', Nat.zero_add] at this
  exact this
end Go.Proofs.YtmeipcnicfaojaaGreatDoor
