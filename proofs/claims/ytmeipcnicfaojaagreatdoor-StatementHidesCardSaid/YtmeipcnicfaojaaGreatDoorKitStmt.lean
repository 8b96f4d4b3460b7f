/- The kit's statements: the walk. What a statement holds is left open; that it is one is told. -/
import Derived.Test.YtmeipcnicfaojaaGreatDoorGrow
namespace Go.Proofs.YtmeipcnicfaojaaGreatDoor
open Go.RowKit

theorem infoAnswer' : (Tryz.prog.info? 50).map (fun i => (i.zero, i.size, i.bytes)) = some (some (.agg #[.string ⟨#[]⟩, .string ⟨#[]⟩, .int .i64 0]), 3, 40) := by kernel_rfl
theorem infoShow : (Tryz.prog.info? 47).map (fun i => (i.zero, i.size, i.bytes)) = some (some (.agg #[.string ⟨#[]⟩, .string ⟨#[]⟩]), 2, 32) := by kernel_rfl

/-- A statement that is being made: block T holds it. -/
structure SSt (D : Nat) (w0 : World) (cf : Array Value) (T : Nat) (ok : Nat → Prop) (r : ByteArray) (d y : Int) (va vc vs : Value) (ans : List Answer) (cond : List Term) (shows : List Show_) (w : World) : Prop where
  dice : DiceOk D w
  frm : Frm (But D) w0 w
  fb : Blk w w0.heap.size 37 cf
  rb : Blk w (w0.heap.size + 1) 33 #[.string ⟨#[]⟩, .int .i64 0, .int .i64 0, .slice none 0 0, .slice none 0 0, .slice none 0 0]
  sb : Blk w T 33 #[.string r, .int .i64 d, .int .i64 y, va, vc, vs]
  oa : kAnswer.Own 50 ok w (T + 1) va ans
  os : kShow_.Own 47 ok w (T + 1) vs shows
  kc : ∃ A c, vc = .slice A cond.length c ∧ cond.length ≤ c ∧ kTerm.C (fun k => w0.heap.size + 1 < k ∧ k < T) w A cond.length cond
/-- The same, block T not yet told that the answers are v1. -/
structure SSt2 (D : Nat) (w0 : World) (cf : Array Value) (T : Nat) (ok : Nat → Prop) (r : ByteArray) (d y : Int) (va v1 vc vs : Value) (ans : List Answer) (cond : List Term) (shows : List Show_) (w : World) : Prop where
  dice : DiceOk D w
  frm : Frm (But D) w0 w
  fb : Blk w w0.heap.size 37 cf
  rb : Blk w (w0.heap.size + 1) 33 #[.string ⟨#[]⟩, .int .i64 0, .int .i64 0, .slice none 0 0, .slice none 0 0, .slice none 0 0]
  sb : Blk w T 33 #[.string r, .int .i64 d, .int .i64 y, va, vc, vs]
  oa : kAnswer.Own 50 ok w (T + 1) v1 ans
  os : kShow_.Own 47 ok w (T + 1) vs shows
  kc : ∃ A c, vc = .slice A cond.length c ∧ cond.length ≤ c ∧ kTerm.C (fun k => w0.heap.size + 1 < k ∧ k < T) w A cond.length cond
/-- The same, block T not yet told that the shows are v1. -/
structure SSt3 (D : Nat) (w0 : World) (cf : Array Value) (T : Nat) (ok : Nat → Prop) (r : ByteArray) (d y : Int) (va vc vs v1 : Value) (ans : List Answer) (cond : List Term) (shows : List Show_) (w : World) : Prop where
  dice : DiceOk D w
  frm : Frm (But D) w0 w
  fb : Blk w w0.heap.size 37 cf
  rb : Blk w (w0.heap.size + 1) 33 #[.string ⟨#[]⟩, .int .i64 0, .int .i64 0, .slice none 0 0, .slice none 0 0, .slice none 0 0]
  sb : Blk w T 33 #[.string r, .int .i64 d, .int .i64 y, va, vc, vs]
  oa : kAnswer.Own 50 ok w (T + 1) va ans
  os : kShow_.Own 47 ok w (T + 1) v1 shows
  kc : ∃ A c, vc = .slice A cond.length c ∧ cond.length ≤ c ∧ kTerm.C (fun k => w0.heap.size + 1 < k ∧ k < T) w A cond.length cond
/-- A word out of a literal of two, three, .. -/
theorem word_lit (D : Nat) (w0 W : World) (n : Nat) (xs : List ByteArray) (cs : Array Value) (m : Nat) (hd : DiceOk D w0) (hb : Below w0.heap.size w0 W) (hn : w0.heap.size ≤ n) (hB : Blk W n 9 cs) (hc : cs.toList = xs.map Value.string) (hm : m = xs.length) (h1 : 1 ≤ xs.length) (h2 : xs.length ≤ 1000) :
    Calls Tryz.prog 35 #[.pointer (some ⟨D, 0, none⟩), .slice (some ⟨n, 0, none⟩) m m] W fun e w' => ∃ s, e = .returned (.string s) ∧ DiceOk D w' ∧ Frm (But D) W w' := by
  subst hm
  refine (word_any D W (hd.keep hb) (some ⟨n, 0, none⟩) xs.length xs (Kd.C_mono (by decide) (fun k hk _ => ?_) (strs_of_blk hB xs hc (by omega))) h1 h2).mono ?_
  · have := hd.lt
    have : k = n := hk
    show k ≠ D
    omega
  · rintro e w' ⟨s, _, h⟩
    exact ⟨s, h⟩
theorem word_lit' (D : Nat) (w0 W : World) (n : Nat) (xs : List ByteArray) (cs : Array Value) (m : Nat) (hd : DiceOk D w0) (hb : Below w0.heap.size w0 W) (hn : w0.heap.size ≤ n) (hB : Blk W n 9 cs) (hc : cs.toList = xs.map Value.string) (hm : m = xs.length) (h1 : 1 ≤ xs.length) (h2 : xs.length ≤ 1000) :
    Calls Tryz.prog 35 #[.pointer (some ⟨D, 0, none⟩), .slice (some ⟨n, 0, none⟩) m m] W fun e w' => ∃ s, s ∈ xs ∧ e = .returned (.string s) ∧ DiceOk D w' ∧ Frm (But D) W w' := by
  subst hm
  refine word_any D W (hd.keep hb) (some ⟨n, 0, none⟩) xs.length xs (Kd.C_mono (by decide) (fun k hk _ => ?_) (strs_of_blk hB xs hc (by omega))) h1 h2
  have := hd.lt
  have : k = n := hk
  show k ≠ D
  omega
/-- What is known of an answer, of a show, of a statement that the dice make. -/
def okAns (f : Form) (a : Answer) : Prop := (∃ i, i < f.flds.length ∧ a.fld = (f.flds.getD i zFld).name) ∧ a.txt.size ≤ 16 ∧ 0 ≤ a.num ∧ a.num < 10
def okShow (s : Show_) : Prop := s.fld.size ≤ 16 ∧ (s.role = ⟨#[99, 111, 117, 110, 115, 101, 108, 108, 111, 114]⟩ ∨ s.role = ⟨#[98, 111, 97, 114, 100]⟩)
def okAnss (f : Form) (l : List Answer) : Prop := ∀ a ∈ l, okAns f a
def okShows (l : List Show_) : Prop := ∀ s ∈ l, okShow s
structure kitStmtOk (f : Form) (x : Stmt) : Prop where
  resp : x.resp.size ≤ 16
  resp0 : 0 < x.resp.size
  dept0 : 0 ≤ x.dept
  dept : x.dept < 4
  day0 : 730000 ≤ x.day
  day : x.day < 732000
  ans : okAnss f x.ans
  shows : okShows x.shows
theorem okAnss.snoc {f : Form} {l : List Answer} (h : okAnss f l) {a : Answer} (ha : okAns f a) : okAnss f (l ++ [a]) := by
  intro x hx
  rcases List.mem_append.1 hx with h1 | h1
  · exact h x h1
  · rw [List.mem_singleton.1 h1]; exact ha
theorem okShows.snoc {l : List Show_} (h : okShows l) {a : Show_} (ha : okShow a) : okShows (l ++ [a]) := by
  intro x hx
  rcases List.mem_append.1 hx with h1 | h1
  · exact h x h1
  · rw [List.mem_singleton.1 h1]; exact ha
section
variable {D : Nat} {w0 w w' : World} {cf : Array Value} {T : Nat} {ok ok' : Nat → Prop} {r : ByteArray} {d y : Int} {va vc vs : Value} {ans : List Answer} {cond : List Term} {shows : List Show_}
theorem SSt.step (h : SSt D w0 cf T ok r d y va vc vs ans cond shows w) (hD : D < w0.heap.size) (hT : w0.heap.size < T) (hok : ∀ k, ok k → T < k) (hf : Frm (But D) w w') (hd : DiceOk D w') : SSt D w0 cf T ok r d y va vc vs ans cond shows w' := by
  obtain ⟨A, c, e, hl, hC⟩ := h.kc
  exact ⟨hd, h.frm.trans hf, h.fb.frm hf (by show _ ≠ D; omega), h.rb.frm hf (by show _ ≠ D; omega), h.sb.frm hf (by show _ ≠ D; omega), h.oa.frm (hf.mono fun k hk _ => by have := hok k hk; show k ≠ D; omega),
    h.os.frm (hf.mono fun k hk _ => by have := hok k hk; show k ≠ D; omega), A, c, e, hl, Kd.C_frm hC (hf.mono fun k hk _ => by show k ≠ D; omega)⟩
theorem SSt.mono (h : SSt D w0 cf T ok r d y va vc vs ans cond shows w) (hk : ∀ k, ok k → k < w.heap.size → ok' k) : SSt D w0 cf T ok' r d y va vc vs ans cond shows w := ⟨h.dice, h.frm, h.fb, h.rb, h.sb, h.oa.mono hk, h.os.mono hk, h.kc⟩
theorem SSt.keep (h : SSt D w0 cf T ok r d y va vc vs ans cond shows w) (hD : D < w0.heap.size) (hT : w0.heap.size < T) (hok : ∀ k, ok k → T < k) (hb : Below w.heap.size w w') : SSt D w0 cf T ok r d y va vc vs ans cond shows w' := h.step hD hT hok (Frm.of_below hb) (h.dice.keep hb)
/-- A store into a later block that is no row. -/
theorem SSt.set_ (h : SSt D w0 cf T ok r d y va vc vs ans cond shows w) (hD : D < w0.heap.size) (hT : w0.heap.size + 1 < T) {p : Addr} (hp : T < p.block) (hk : ∀ k, ok k → k ≠ p.block) (u : Value) : SSt D w0 cf T ok r d y va vc vs ans cond shows (w.setCell p u) := by
  obtain ⟨A, c, e, hl, hC⟩ := h.kc
  exact ⟨h.dice.set_ (by omega) u, ⟨h.frm.os, h.frm.tape, h.frm.output, by simpa [World.setCell] using h.frm.size, fun k ho hl => (Below.heap_setCell w p u k (by omega)).trans (h.frm.block k ho hl)⟩, h.fb.far (by omega) u, h.rb.far (by omega) u, h.sb.far (by omega) u,
    h.oa.far (fun k ho _ => hk k ho) u, h.os.far (fun k ho _ => hk k ho) u, A, c, e, hl, Kd.C_keep (fun k hk _ => Below.heap_setCell w p u k (by omega)) (by simp [World.setCell]) hC⟩
/-- The answers' row has been appended to: the statement does not say so yet. -/
theorem SSt.append (h : SSt D w0 cf T ok r d y va vc vs ans cond shows w) (hok : ∀ k, ok k → T < k) (hD : D < w0.heap.size) (hT : w0.heap.size + 1 < T) {v1 : Value} {ans' : List Answer} (hown : kAnswer.Own 50 ok w' (T + 1) v1 ans') (hg : w.grownBy w' va.ownBlock) :
    SSt2 D w0 cf T ok r d y va v1 vc vs ans' cond shows w' := by
  have hva : ∀ k, va.ownBlock = some k → T < k := fun k hk => hok k (h.oa.1 k hk)
  have hne : ∀ k, k ≤ T → some k ≠ va.ownBlock := fun k hk e => by have := hva k e.symm; omega
  obtain ⟨A, c, e, hl, hC⟩ := h.kc
  refine ⟨?_, ⟨hg.os.trans h.frm.os, hg.tape.trans h.frm.tape, hg.output.trans h.frm.output, Nat.le_trans h.frm.size hg.size, fun k ho hl => (hg.block k (Nat.lt_of_lt_of_le hl h.frm.size) (hne k (by omega))).trans (h.frm.block k ho hl)⟩,
    h.fb.grown hg (hne _ (by omega)), h.rb.grown hg (hne _ (by omega)), h.sb.grown hg (hne _ (Nat.le_refl _)), hown, ?_, A, c, e, hl, Kd.C_keep (fun k hk hl => hg.block k hl (hne k (by omega))) hg.size hC⟩
  · obtain ⟨A, c, i, ys, h1, h2, h3, h4, h5⟩ := h.dice
    exact ⟨A, c, i, ys, h1.grown hg (hne D (by omega)), h2, h3, h4, Kd.C_keep (fun k hk hl => hg.block k hl (hne k (by omega))) hg.size h5⟩
  · obtain ⟨h0, css, hcl, ho, hK⟩ := h.os
    refine ⟨h0, css, hcl, own_move ho (fun k hk => hg.block k (own_lt ho k hk).2 ?_), fun i x cs hx hcs => hK i x cs hx hcs⟩
    exact Kd.Own.type_ne ⟨h0, css, hcl, ho, hK⟩ h.oa (by decide) k hk
theorem SSt2.put3 {v1 : Value} (h : SSt2 D w0 cf T ok r d y va v1 vc vs ans cond shows w) (hD : D < w0.heap.size) (hT : w0.heap.size + 1 < T) (hok : ∀ k, ok k → T < k) (u : Value) (hu : u = v1) : SSt D w0 cf T ok r d y v1 vc vs ans cond shows (w.setCell ⟨T, 3, none⟩ u) := by
  subst hu
  obtain ⟨A, c, e, hl, hC⟩ := h.kc
  have hb : (⟨T, 3, none⟩ : Addr).block = T := rfl
  exact ⟨h.dice.set_ (by rw [hb]; omega) u, ⟨h.frm.os, h.frm.tape, h.frm.output, by simpa [World.setCell] using h.frm.size, fun k ho hl => (Below.heap_setCell w _ u k (by rw [hb]; omega)).trans (h.frm.block k ho hl)⟩, h.fb.far (by rw [hb]; omega) u, h.rb.far (by rw [hb]; omega) u, h.sb.set_ 3 u,
    h.oa.far (fun k ho _ => by have := hok k ho; rw [hb]; omega) u, h.os.far (fun k ho _ => by have := hok k ho; rw [hb]; omega) u, A, c, e, hl, Kd.C_keep (fun k hk _ => Below.heap_setCell w _ u k (by rw [hb]; omega)) (by simp [World.setCell]) hC⟩
/-- The shows' row has been appended to: the statement does not say so yet. -/
theorem SSt.append5 (h : SSt D w0 cf T ok r d y va vc vs ans cond shows w) (hok : ∀ k, ok k → T < k) (hD : D < w0.heap.size) (hT : w0.heap.size + 1 < T) {v1 : Value} {shows' : List Show_} (hown : kShow_.Own 47 ok w' (T + 1) v1 shows') (hg : w.grownBy w' vs.ownBlock) :
    SSt3 D w0 cf T ok r d y va vc vs v1 ans cond shows' w' := by
  have hva : ∀ k, vs.ownBlock = some k → T < k := fun k hk => hok k (h.os.1 k hk)
  have hne : ∀ k, k ≤ T → some k ≠ vs.ownBlock := fun k hk e => by have := hva k e.symm; omega
  obtain ⟨A, c, e, hl, hC⟩ := h.kc
  refine ⟨?_, ⟨hg.os.trans h.frm.os, hg.tape.trans h.frm.tape, hg.output.trans h.frm.output, Nat.le_trans h.frm.size hg.size, fun k ho hl => (hg.block k (Nat.lt_of_lt_of_le hl h.frm.size) (hne k (by omega))).trans (h.frm.block k ho hl)⟩,
    h.fb.grown hg (hne _ (by omega)), h.rb.grown hg (hne _ (by omega)), h.sb.grown hg (hne _ (Nat.le_refl _)), ?_, hown, A, c, e, hl, Kd.C_keep (fun k hk hl => hg.block k hl (hne k (by omega))) hg.size hC⟩
  · obtain ⟨A, c, i, ys, h1, h2, h3, h4, h5⟩ := h.dice
    exact ⟨A, c, i, ys, h1.grown hg (hne D (by omega)), h2, h3, h4, Kd.C_keep (fun k hk hl => hg.block k hl (hne k (by omega))) hg.size h5⟩
  · obtain ⟨h0, css, hcl, ho, hK⟩ := h.oa
    refine ⟨h0, css, hcl, own_move ho (fun k hk => hg.block k (own_lt ho k hk).2 ?_), fun i x cs hx hcs => hK i x cs hx hcs⟩
    exact Kd.Own.type_ne ⟨h0, css, hcl, ho, hK⟩ h.os (by decide) k hk
theorem SSt3.put5 {v1 : Value} (h : SSt3 D w0 cf T ok r d y va vc vs v1 ans cond shows w) (hD : D < w0.heap.size) (hT : w0.heap.size + 1 < T) (hok : ∀ k, ok k → T < k) (u : Value) (hu : u = v1) : SSt D w0 cf T ok r d y va vc v1 ans cond shows (w.setCell ⟨T, 5, none⟩ u) := by
  subst hu
  obtain ⟨A, c, e, hl, hC⟩ := h.kc
  have hb : (⟨T, 5, none⟩ : Addr).block = T := rfl
  exact ⟨h.dice.set_ (by rw [hb]; omega) u, ⟨h.frm.os, h.frm.tape, h.frm.output, by simpa [World.setCell] using h.frm.size, fun k ho hl => (Below.heap_setCell w _ u k (by rw [hb]; omega)).trans (h.frm.block k ho hl)⟩, h.fb.far (by rw [hb]; omega) u, h.rb.far (by rw [hb]; omega) u, h.sb.set_ 5 u,
    h.oa.far (fun k ho _ => by have := hok k ho; rw [hb]; omega) u, h.os.far (fun k ho _ => by have := hok k ho; rw [hb]; omega) u, A, c, e, hl, Kd.C_keep (fun k hk _ => Below.heap_setCell w _ u k (by rw [hb]; omega)) (by simp [World.setCell]) hC⟩
/-- What lies in a new block. -/
theorem cells_new (W : World) (t : TypeId) (cs : List Value) (n : Nat) (hn : n = W.heap.size) : ∀ (jj : Nat) (u : Value), cs[jj]? = some u → (W.alloc (.cells cs.toArray t)).cell? ((⟨n, 0, none⟩ : Addr).add jj) = some u := by
  intro jj u hu
  rw [add_zero', Nat.zero_add, (Blk.new' W t cs.toArray n hn).cell]
  simpa using hu
/-- The statement is stored into the result, and handed back. -/
theorem SSt.fin (h : SSt D w0 cf T ok r d y va vc vs ans cond shows w) (hD : D < w0.heap.size) (hT : w0.heap.size + 1 < T) (hok : ∀ k, ok k → T < k) (ha : ans.length ≤ 32) (hc : cond.length ≤ 4) (hs : shows.length ≤ 3)
    (f : Form) (hkit : kitStmtOk f ⟨r, d, y, ans, cond, shows⟩) (hf : ∀ k, k ≠ w0.heap.size + 1 → w'.heap[k]? = w.heap[k]?) (hz : w'.heap.size = w.heap.size) (ho : w'.os = w.os) (ht : w'.tape = w.tape) (hu : w'.output = w.output) :
    ∃ x ds, Ending.returned (.agg #[.string r, .int .i64 d, .int .i64 y, va, vc, vs]) = .returned (.agg ds) ∧ kStmt.K (fun k => w0.heap.size ≤ k) w' x ds.toList ∧ x.ans.length ≤ 32 ∧ x.cond.length ≤ 4 ∧ x.shows.length ≤ 3 ∧ kitStmtOk f x ∧ DiceOk D w' ∧ Frm (But D) w0 w' := by
  obtain ⟨A, c, rfl, hl, hC⟩ := h.kc
  obtain ⟨A3, c3, rfl, l3, g3⟩ := h.oa.reads (by omega)
  obtain ⟨A5, c5, rfl, l5, g5⟩ := h.os.reads (by omega)
  refine ⟨⟨r, d, y, ans, cond, shows⟩, _, rfl, kStmt_mk _ _ ⟨r, d, y, ans, cond, shows⟩ l3 ?_ hl ?_ l5 ?_, ha, hc, hs, hkit, ?_, ?_⟩
  · exact Kd.C_mono (by decide) (fun k hk _ => by have := hok k hk; omega) (Kd.C_keep (fun k hk _ => hf k (by have := hok k hk; omega)) (by omega) g3)
  · exact Kd.C_mono (by decide) (fun k hk _ => by omega) (Kd.C_keep (fun k hk _ => hf k (by omega)) (by omega) hC)
  · exact Kd.C_mono (by decide) (fun k hk _ => by have := hok k hk; omega) (Kd.C_keep (fun k hk _ => hf k (by have := hok k hk; omega)) (by omega) g5)
  · obtain ⟨A, c, i, ys, h1, h2, h3, h4, h5⟩ := h.dice
    exact ⟨A, c, i, ys, (hf D (by omega)).trans h1, h2, h3, h4, Kd.C_keep (fun k hk _ => hf k (by omega)) (by omega) h5⟩
  · exact ⟨ho.trans h.frm.os, ht.trans h.frm.tape, hu.trans h.frm.output, by have := h.frm.size; omega, fun k hk hl => (hf k (by omega)).trans (h.frm.block k hk hl)⟩
end

set_option maxRecDepth 100000 in
set_option maxHeartbeats 8000000 in
theorem statement_any (D : Nat) (w : World) (f : Form) (cs : List Value) (hd : DiceOk D w) (hf : kForm.K (But D) w f cs) (hl : f.flds.length ≤ 32) :
    Calls Tryz.prog 12 #[.pointer (some ⟨D, 0, none⟩), .agg cs.toArray] w fun e w' =>
      ∃ x ds, e = .returned (.agg ds) ∧ kStmt.K (fun k => w.heap.size ≤ k) w' x ds.toList ∧ x.ans.length ≤ 32 ∧ x.cond.length ≤ 4 ∧ x.shows.length ≤ 3 ∧ kitStmtOk f x ∧ DiceOk D w' ∧ Frm (But D) w w' := by
  obtain ⟨A1, c1, rfl, l1, g1⟩ := kForm_open hf
  have HD := Lib.hid hd; have HG := Lib.hid g1
  have hDw := hd.lt
  clear hd hf g1
  have hB := Lib.hid ((((Below.refl w.heap.size w).alloc (Nat.le_refl _) (.cells #[.string f.title, .slice A1 f.flds.length c1] 37)).alloc (by simp) (.cells #[.string ⟨#[]⟩, .int .i64 0, .int .i64 0, .slice none 0 0, .slice none 0 0, .slice none 0 0] 33)).alloc (by simp; omega) (.cells #[.string ⟨#[82, 111, 98, 101, 114, 116]⟩, .string ⟨#[66, 111, 98]⟩, .string ⟨#[65, 110, 110]⟩] 9))
  have hF := Lib.hid (((Blk.new w 37 #[.string f.title, .slice A1 f.flds.length c1]).alloc (.cells #[.string ⟨#[]⟩, .int .i64 0, .int .i64 0, .slice none 0 0, .slice none 0 0, .slice none 0 0] 33)).alloc (.cells #[.string ⟨#[82, 111, 98, 101, 114, 116]⟩, .string ⟨#[66, 111, 98]⟩, .string ⟨#[65, 110, 110]⟩] 9))
  have hR := Lib.hid ((Blk.new' (w.alloc (.cells #[.string f.title, .slice A1 f.flds.length c1] 37)) 33 #[.string ⟨#[]⟩, .int .i64 0, .int .i64 0, .slice none 0 0, .slice none 0 0, .slice none 0 0] (w.heap.size + 1) (by simp)).alloc (.cells #[.string ⟨#[82, 111, 98, 101, 114, 116]⟩, .string ⟨#[66, 111, 98]⟩, .string ⟨#[65, 110, 110]⟩] 9))
  have hS := Lib.hid (strs_of_blk (Blk.new' ((w.alloc (.cells #[.string f.title, .slice A1 f.flds.length c1] 37)).alloc (.cells #[.string ⟨#[]⟩, .int .i64 0, .int .i64 0, .slice none 0 0, .slice none 0 0, .slice none 0 0] 33)) 9 #[.string ⟨#[82, 111, 98, 101, 114, 116]⟩, .string ⟨#[66, 111, 98]⟩, .string ⟨#[65, 110, 110]⟩] (w.heap.size + 1 + 1) (by simp)) [⟨#[82, 111, 98, 101, 114, 116]⟩, ⟨#[66, 111, 98]⟩, ⟨#[65, 110, 110]⟩] rfl (by decide))
  go_enter Tryz.func12, Tryz.ntmps12
  go_wp2_with fail
  refine (word_any D _ (HD.out.keep hB.out) (some ⟨w.heap.size + 1 + 1, 0, none⟩) 3 [⟨#[82, 111, 98, 101, 114, 116]⟩, ⟨#[66, 111, 98]⟩, ⟨#[65, 110, 110]⟩] (Kd.C_mono (by decide) (fun k hk _ => by show k ≠ D; omega) hS.out) (by decide) (by decide)).mono ?_
  rintro e w1 ⟨nm, hnm, rfl, hd1, hf1⟩
  have HN : Hid (nm.size ≤ 16 ∧ 0 < nm.size) := by simp only [List.mem_cons, List.not_mem_nil, or_false] at hnm; rcases hnm with h | h | h <;> (rw [h]; exact ⟨by decide, by decide⟩)
  clear hnm
  have F1 := Lib.hid ((Frm.of_below hB.out).trans hf1)
  have D1 := Lib.hid hd1
  have FB1 := Lib.hid (hF.out.frm hf1 (by show _ ≠ D; omega))
  have RB1 := Lib.hid (hR.out.frm hf1 (by show _ ≠ D; omega))
  have z1 : w.heap.size + 1 + 1 < w1.heap.size := by have := hf1.size; simp at this; omega
  clear hd1 hf1 hB hF hR hS
  go_wp2_with fail
  refine (next_any D 4 _ D1.out (by omega) (by omega)).mono ?_
  rintro e w2 ⟨r2, r20, r21, rfl, hd2, hf2⟩
  go_wp2_with fail
  refine (next_any D 2000 _ hd2 (by omega) (by omega)).mono ?_
  rintro e w3 ⟨r3, r30, r31, rfl, hd3, hf3⟩
  have D3 := Lib.hid hd3; have F3 := Lib.hid (hf2.trans hf3)
  have HR : Hid (0 ≤ r2 ∧ r2 < 4 ∧ 0 ≤ r3 ∧ r3 < 2000) := ⟨r20, r21, r30, r31⟩
  clear hd2 hd3 hf2 hf3
  go_wp2_with fail
  refine (condition_any D _ D3.out).mono ?_
  rintro e w4 ⟨A4, c4, xs, rfl, hc4, hl4, hC4, hd4, hf4⟩
  have z4 : w3.heap.size ≤ w4.heap.size := hf4.size
  have z3 : w1.heap.size ≤ w3.heap.size := F3.out.size
  have S4 : Hid (∀ va vs, va = Value.slice none 0 0 → vs = Value.slice none 0 0 → SSt D w #[.string f.title, .slice A1 f.flds.length c1] w4.heap.size (fun k => w4.heap.size < k) nm r2 (730000 + r3) va (.slice A4 xs.length c4) vs [] xs []
      (w4.alloc (.cells #[.string nm, .int .i64 r2, .int .i64 (730000 + r3), .slice none 0 0, .slice A4 xs.length c4, .slice none 0 0] 33))) := by
    rintro va vs rfl rfl
    have hb := (Below.refl w4.heap.size w4).alloc (Nat.le_refl _) (.cells #[.string nm, .int .i64 r2, .int .i64 (730000 + r3), .slice none 0 0, .slice A4 xs.length c4, .slice none 0 0] 33)
    have ff := F3.out.trans hf4
    refine ⟨hd4.keep hb, (F1.out.trans ff).trans (Frm.of_below hb), (FB1.out.frm ff (by show _ ≠ D; omega)).keep hb, (RB1.out.frm ff (by show _ ≠ D; omega)).keep hb, Blk.new _ _ _, Kd.Own.nil _ _ _ _ _, Kd.Own.nil _ _ _ _ _, A4, c4, rfl, hc4, ?_⟩
    exact Kd.C_below (Kd.C_mono (by decide) (fun k hk hl => ⟨by omega, hl⟩) hC4) hb
  have G4 := Lib.hid (Kd.C_frm HG.out ((F1.out.trans (F3.out.trans hf4)).trans (Frm.of_below ((Below.refl w4.heap.size w4).alloc (Nat.le_refl _) (.cells #[.string nm, .int .i64 r2, .int .i64 (730000 + r3), .slice none 0 0, .slice A4 xs.length c4, .slice none 0 0] 33)))))
  have HL4 := Lib.hid hl4
  have q0 := S4.out _ _ rfl rfl |>.fb.cell 1
  clear hc4 hl4 hC4 hd4 hf4
  go_wp2_with fail
  obtain ⟨cf, S4⟩ : ∃ cf, Hid (∀ va vs, va = Value.slice none 0 0 → vs = Value.slice none 0 0 → SSt D w cf w4.heap.size (fun k => w4.heap.size < k) nm r2 (730000 + r3) va (.slice A4 xs.length c4) vs [] xs []
      (w4.alloc (.cells #[.string nm, .int .i64 r2, .int .i64 (730000 + r3), .slice none 0 0, .slice A4 xs.length c4, .slice none 0 0] 33))) := ⟨_, S4⟩
  have hT : w.heap.size + 1 < w4.heap.size := by omega
  have hok4 : Hid (∀ k, w4.heap.size < k → w4.heap.size < k) := fun _ h => h
  go_loopw [24] (fun v24 wr => ∃ (k : Nat) (va : Value) (ans : List Answer), k ≤ f.flds.length ∧ v24 = .int .i64 k ∧ ans.length ≤ k ∧ w4.heap.size < wr.heap.size ∧ Hid (okAnss f ans)
    ∧ Hid (SSt D w cf w4.heap.size (fun k => w4.heap.size < k) nm r2 (730000 + r3) va (.slice A4 xs.length c4) (.slice none 0 0) ans xs [] wr)) (fun v24 _ => f.flds.length - (intOf v24).toNat)
  case atStart => exact ⟨0, _, [], Nat.zero_le _, rfl, Nat.le_refl _, by simp, (fun _ h => by cases h), S4.out _ _ rfl rfl⟩
  case round =>
    obtain ⟨k, va, ans, hk, rfl, hal, hzr, HOA, GS⟩ := hrel
    clear q0 G4
    obtain ⟨Aa, na, ca, rfl⟩ : ∃ A n c, va = .slice A n c := (by obtain ⟨A, c, e, _⟩ := GS.out.oa.form; exact ⟨A, _, c, e⟩)
    by_cases hlt : k < f.flds.length
    · obtain ⟨ad, A5, c5, rfl, _, e0, e1, e2, e3, e4, e5, l5, g5⟩ := at_Fld (Kd.C_frm HG.out GS.out.frm) k hlt
      generalize hx : f.flds.getD k zFld = x at e0 e1 e2 e3 e4 e5 l5 g5
      have Hx := Lib.hid hx
      clear hx g5
      obtain ⟨xn, xk, xb, xl, xm, xo⟩ := x
      simp only at e0 e1 e2 e3 e4 e5 l5
      go_upto_region 5 with fail
      have S5 := Lib.hid (GS.out.keep hDw (by omega) hok4.out ((Below.refl wr.heap.size wr).alloc (Nat.le_refl _) (.cells #[.string xn, .int .i64 xk, .bool xb, .int .i64 xl, .int .i64 xm, .slice A5 xo.length c5] 65)))
      have B5 := Lib.hid (Blk.new wr 65 #[.string xn, .int .i64 xk, .bool xb, .int .i64 xl, .int .i64 xm, .slice A5 xo.length c5])
      have n2 := B5.out.cell 2
      clear e0 e1 e2 e3 e4 e5
      go_cut [35] (fun v35 wx => ∃ b : Bool, v35 = .bool b ∧ Hid (SSt D w cf w4.heap.size (fun k => w4.heap.size < k) nm r2 (730000 + r3) (.slice Aa na ca) (.slice A4 xs.length c4) (.slice none 0 0) ans xs [] wx) ∧ Hid (Blk wx wr.heap.size 65 #[.string xn, .int .i64 xk, .bool xb, .int .i64 xl, .int .i64 xm, .slice A5 xo.length c5]) ∧ w4.heap.size < wx.heap.size)
      case first =>
        cases xb
        all_goals go_wp2_with (
          (go_at_call 37
           refine (next_any D 3 _ S5.out.dice (by omega) (by omega)).mono ?_
           rintro e w6 ⟨q, _, _, rfl, hd6, hf6⟩
           have S6 := Lib.hid (S5.out.step hDw (by omega) hok4.out hf6 hd6)
           have B6 := Lib.hid (B5.out.frm hf6 (by show _ ≠ D; omega))
           have z6 := Lib.hid hf6.size
           clear hd6 hf6))
        all_goals go_meet
        all_goals first
          | exact ⟨_, rfl, S6.out, B6.out, by have := z6.out; simp at this; omega⟩
          | exact ⟨_, rfl, S5.out, B5.out, by simp; omega⟩
      obtain ⟨b, rfl, S6, B6, z6⟩ := hcut
      clear S5 B5 n2 GS
      have n0 := B6.out.cell 0
      have n1 := B6.out.cell 1
      have nz := B6.out.lt
      cases b
      · go_upto_block 2 with fail
        obtain ⟨wx, rfl⟩ : ∃ wx : World, wx = wc := ⟨_, rfl⟩
        have S8 := Lib.hid (SSt.mono (ok' := fun k => w4.heap.size < k ∧ k ≠ wx.heap.size) S6.out (fun k hk hl => ⟨hk, by omega⟩) |>.keep hDw (by omega) (fun k hk => hk.1) ((Below.refl wx.heap.size wx).alloc (Nat.le_refl _) (.cells #[.string xn, .string ⟨#[]⟩, .int .i64 0] 50)))
        have B8 := Lib.hid (Blk.new wx 50 #[.string xn, .string ⟨#[]⟩, .int .i64 0])
        have hok8 : Hid (∀ k, (w4.heap.size < k ∧ k ≠ wx.heap.size) → w4.heap.size < k) := fun _ h => h.1
        have m1 := B8.out.cell 1
        have m2 := B8.out.cell 2
        have h1 := B8.out.frozen 1
        have h2 := B8.out.frozen 2
        clear S6 B6 n0 n1
        go_cut [] (fun wy => ∃ (t : ByteArray) (n : Int), Hid (t.size ≤ 16 ∧ 0 ≤ n ∧ n < 10) ∧ Hid (SSt D w cf w4.heap.size (fun k => w4.heap.size < k ∧ k ≠ wx.heap.size) nm r2 (730000 + r3) (.slice Aa na ca) (.slice A4 xs.length c4) (.slice none 0 0) ans xs [] wy) ∧ Hid (Blk wy wx.heap.size 50 #[.string xn, .string t, .int .i64 n]) ∧ w4.heap.size < wy.heap.size)
        case first =>
          go_wp2_with fail
          · have hb := (Below.refl (wx.alloc (.cells #[.string xn, .string ⟨#[]⟩, .int .i64 0] 50)).heap.size (wx.alloc (.cells #[.string xn, .string ⟨#[]⟩, .int .i64 0] 50))).alloc (Nat.le_refl _) (.cells #[.string ⟨#[]⟩, .string ⟨#[97, 32, 116, 101, 120, 116]⟩, .string ⟨#[109, 111, 114, 101, 32, 119, 111, 114, 100, 115]⟩, .string ⟨#[195, 164]⟩] 9)
            have hw := strs_of_blk (Blk.new' (wx.alloc (.cells #[.string xn, .string ⟨#[]⟩, .int .i64 0] 50)) 9 #[.string ⟨#[]⟩, .string ⟨#[97, 32, 116, 101, 120, 116]⟩, .string ⟨#[109, 111, 114, 101, 32, 119, 111, 114, 100, 115]⟩, .string ⟨#[195, 164]⟩] (wx.heap.size + 1) (by simp)) [⟨#[]⟩, ⟨#[97, 32, 116, 101, 120, 116]⟩, ⟨#[109, 111, 114, 101, 32, 119, 111, 114, 100, 115]⟩, ⟨#[195, 164]⟩] rfl (by decide)
            have S10 := Lib.hid (S8.out.keep hDw (by omega) hok8.out hb)
            have B10 := Lib.hid (B8.out.keep hb)
            have hw' := Lib.hid hw
            clear hb hw
            refine (word_any D _ S10.out.dice (some ⟨wx.heap.size + 1, 0, none⟩) 4 [⟨#[]⟩, ⟨#[97, 32, 116, 101, 120, 116]⟩, ⟨#[109, 111, 114, 101, 32, 119, 111, 114, 100, 115]⟩, ⟨#[195, 164]⟩] (Kd.C_mono (by decide) (fun k hk _ => by show k ≠ D; omega) hw'.out) (by decide) (by decide)).mono ?_
            rintro e w11 ⟨q, hq, rfl, hd11, hf11⟩
            have HQ : Hid (q.size ≤ 16 ∧ (0 : Int) ≤ 0 ∧ (0 : Int) < 10) := by simp only [List.mem_cons, List.not_mem_nil, or_false] at hq; exact ⟨by rcases hq with h | h | h | h <;> (rw [h]; decide), by decide, by decide⟩
            clear hq
            have S11 := Lib.hid (S10.out.step hDw (by omega) hok8.out hf11 hd11)
            have B11 := Lib.hid (B10.out.frm hf11 (by show _ ≠ D; omega))
            have z11 := Lib.hid hf11.size
            clear hd11 hf11 S10 B10 hw' m1 m2 h1 h2
            have m1 := B11.out.cell 1
            have h1 := B11.out.frozen 1
            go_wp2_with fail
            go_meet
            exact ⟨q, 0, HQ.out, S11.out.set_ hDw hT (by show _ < wx.heap.size; omega) (fun k hk => hk.2) _, B11.out.set_ 1 _, by have := z11.out; simp at this; simp [World.setCell]; omega⟩
          · have hb := (Below.refl (wx.alloc (.cells #[.string xn, .string ⟨#[]⟩, .int .i64 0] 50)).heap.size (wx.alloc (.cells #[.string xn, .string ⟨#[]⟩, .int .i64 0] 50))).alloc (Nat.le_refl _) (.cells #[.string ⟨#[119, 111, 114, 100, 115]⟩, .string ⟨#[97, 99, 116, 115]⟩] 9)
            have hw := strs_of_blk (Blk.new' (wx.alloc (.cells #[.string xn, .string ⟨#[]⟩, .int .i64 0] 50)) 9 #[.string ⟨#[119, 111, 114, 100, 115]⟩, .string ⟨#[97, 99, 116, 115]⟩] (wx.heap.size + 1) (by simp)) [⟨#[119, 111, 114, 100, 115]⟩, ⟨#[97, 99, 116, 115]⟩] rfl (by decide)
            have S10 := Lib.hid (S8.out.keep hDw (by omega) hok8.out hb)
            have B10 := Lib.hid (B8.out.keep hb)
            have hw' := Lib.hid hw
            clear hb hw
            refine (word_any D _ S10.out.dice (some ⟨wx.heap.size + 1, 0, none⟩) 2 [⟨#[119, 111, 114, 100, 115]⟩, ⟨#[97, 99, 116, 115]⟩] (Kd.C_mono (by decide) (fun k hk _ => by show k ≠ D; omega) hw'.out) (by decide) (by decide)).mono ?_
            rintro e w11 ⟨q, hq, rfl, hd11, hf11⟩
            have HQ : Hid (q.size ≤ 16 ∧ (0 : Int) ≤ 0 ∧ (0 : Int) < 10) := by simp only [List.mem_cons, List.not_mem_nil, or_false] at hq; exact ⟨by rcases hq with h | h <;> (rw [h]; decide), by decide, by decide⟩
            clear hq
            have S11 := Lib.hid (S10.out.step hDw (by omega) hok8.out hf11 hd11)
            have B11 := Lib.hid (B10.out.frm hf11 (by show _ ≠ D; omega))
            have z11 := Lib.hid hf11.size
            clear hd11 hf11 S10 B10 hw' m1 m2 h1 h2
            have m1 := B11.out.cell 1
            have h1 := B11.out.frozen 1
            go_wp2_with fail
            go_meet
            exact ⟨q, 0, HQ.out, S11.out.set_ hDw hT (by show _ < wx.heap.size; omega) (fun k hk => hk.2) _, B11.out.set_ 1 _, by have := z11.out; simp at this; simp [World.setCell]; omega⟩
          · refine (next_any D 10 _ S8.out.dice (by omega) (by omega)).mono ?_
            rintro e w11 ⟨q, hq0, hq1, rfl, hd11, hf11⟩
            have HQ : Hid ((⟨#[]⟩ : ByteArray).size ≤ 16 ∧ 0 ≤ q ∧ q < 10) := ⟨by decide, hq0, hq1⟩
            clear hq0 hq1
            have S11 := Lib.hid (S8.out.step hDw (by omega) hok8.out hf11 hd11)
            have B11 := Lib.hid (B8.out.frm hf11 (by show _ ≠ D; omega))
            have z11 := Lib.hid hf11.size
            clear hd11 hf11 m1 m2 h1 h2
            have m2 := B11.out.cell 2
            have h2 := B11.out.frozen 2
            go_wp2_with fail
            go_meet
            exact ⟨⟨#[]⟩, q, HQ.out, S11.out.set_ hDw hT (by show _ < wx.heap.size; omega) (fun k hk => hk.2) _, B11.out.set_ 2 _, by have := z11.out; simp at this; simp [World.setCell]; omega⟩
        obtain ⟨t, n, HTN, S9, B9, z9⟩ := hcut
        clear S8 B8 m1 m2 h1 h2
        obtain ⟨wy, rfl⟩ : ∃ wy : World, wy = wc := ⟨_, rfl⟩
        have m0 := B9.out.cell 0
        have m1 := B9.out.cell 1
        have m2 := B9.out.cell 2
        have m3 := S9.out.sb.cell 3
        go_wp2_with (
          (at_builtin
           refine Kd.own_append (d := kAnswer) (w4.heap.size + 1) 27 50 (.agg #[.string ⟨#[]⟩, .string ⟨#[]⟩, .int .i64 0]) 40 rfl (.tmp 57) (.tmp 59) rfl Tryz.underlying27 infoAnswer' rfl (by decide) (by decide) (.slice Aa na ca) ans ⟨xn, t, n⟩ #[.string xn, .string t, .int .i64 n] rfl rfl S9.out.oa (by exact kAnswer_mk _ _ ⟨xn, t, n⟩) (fun k hk => ⟨by omega, by have := B9.out.lt; omega⟩) z9 (by omega) ?_
           intro v1 w12 hown hg hat
           obtain ⟨A9, n9, c9, rfl⟩ : ∃ A n c, v1 = .slice A n c := (by obtain ⟨A, c, e, _⟩ := hown.form; exact ⟨A, _, c, e⟩)
           have hgr := Lib.hid (S9.out.append (fun k hk => hk.1) hDw hT hown hg)
           have hz12 := Lib.hid hg.size
           have o3 := hgr.out.sb.cell 3
           have r3 := hgr.out.sb.frozen 3
           clear hown hg hat))
        go_roundw
        case rel => exact ⟨k + 1, _, _, by omega, by go_num, by simp; omega, by have := hz12.out; simp [World.setCell]; omega, HOA.out.snoc ⟨⟨k, hlt, by rw [Hx.out]⟩, HTN.out⟩, (hgr.out.put3 hDw hT (fun k hk => hk.1) _ rfl).mono (fun k hk _ => hk.1)⟩
        case measure => simp [intOf]; omega
      · go_wp2_with fail
        go_roundw
        case rel => exact ⟨k + 1, .slice Aa na ca, ans, by omega, by go_num, by omega, z6, HOA.out, S6.out⟩
        case measure => simp [intOf]; omega
    · have L0 := Lib.hid hal
      clear HG HD F1 D1 FB1 RB1 D3 F3 S4
      go_wp2_with fail
      refine (next_any D 4 _ GS.out.dice (by omega) (by omega)).mono ?_
      rintro e w20 ⟨n3, n30, n31, rfl, hd20, hf20⟩
      have G20 := Lib.hid (GS.out.step hDw (by omega) hok4.out hf20 hd20)
      have z20 : w4.heap.size < w20.heap.size := Nat.lt_of_lt_of_le hzr hf20.size
      clear hd20 hf20 GS
      obtain ⟨n3, rfl⟩ := Int.eq_ofNat_of_zero_le n30
      have hn3 : n3 < 4 := by omega
      clear n30 n31
      go_wp2_with fail
      go_loopw [65] (fun v65 wz => ∃ (j : Nat) (vs : Value) (shows : List Show_), j ≤ n3 ∧ v65 = .int .i64 j ∧ shows.length = j ∧ w4.heap.size < wz.heap.size ∧ Hid (okShows shows)
        ∧ Hid (SSt D w cf w4.heap.size (fun k => w4.heap.size < k) nm r2 (730000 + r3) (.slice Aa na ca) (.slice A4 xs.length c4) vs ans xs shows wz)) (fun v65 _ => n3 - (intOf v65).toNat)
      case atStart => exact ⟨0, _, [], Nat.zero_le _, rfl, rfl, z20, (fun _ h => by cases h), G20.out⟩
      case round =>
        obtain ⟨j, vs, shows, hj, rfl, hsl, hzz, HOS, GZ⟩ := hrel
        clear G20
        obtain ⟨Az, nz, cz, rfl⟩ : ∃ A n c, vs = .slice A n c := (by obtain ⟨A, c, e, _⟩ := GZ.out.os.form; exact ⟨A, _, c, e⟩)
        by_cases hlt2 : j < n3
        · go_upto_block 4 with fail
          obtain ⟨sj, hsj, HSJ⟩ : ∃ sj, (#[Value.string ⟨#[119, 104, 97, 116]⟩, .string ⟨#[114, 101, 115, 112, 111, 110, 100, 101, 110, 116]⟩, .string ⟨#[100, 97, 121]⟩, .string ⟨#[100, 101, 112, 97, 114, 116, 109, 101, 110, 116]⟩] : Array Value)[j]? = some (.string sj) ∧ Hid (sj.size ≤ 16) := by
            rcases (by omega : j = 0 ∨ j = 1 ∨ j = 2) with rfl | rfl | rfl <;> exact ⟨_, rfl, by show _ ≤ _; decide⟩
          have c5 := GZ.out.sb.cell 5
          have L5 := Lib.hid hsl
          have hDz : D < wr.heap.size := by omega
          have hj4 : ((j : Nat) : Int) < 4 := by omega
          have HT0 := Lib.hid hT
          go_cut [] (fun wx => ∃ (v1 : Value) (sh : Show_), Hid (okShow sh) ∧ Hid (SSt D w cf w4.heap.size (fun k => w4.heap.size < k) nm r2 (730000 + r3) (.slice Aa na ca) (.slice A4 xs.length c4) v1 ans xs (shows ++ [sh]) wx) ∧ w4.heap.size < wx.heap.size)
          case first =>
            clear hsl
            go_upto_region 18 with fail
            go_region_law ((first
              | (refine Kd.step_own_append (d := kShow_) (ok := fun k => w4.heap.size < k) (w4.heap.size + 1) 31 47 (.agg #[.string ⟨#[]⟩, .string ⟨#[]⟩]) 32 rfl (.tmp 69) (.tmp 78) rfl Tryz.underlying31 infoShow rfl (by decide) (by decide) (.slice Az nz cz) shows ⟨sj, q⟩ _ [.string sj, .string q] rfl rfl
                   (S11.out.os.below (by repeat' first | exact Below.refl _ _ | refine Below.alloc ?_ (by first | exact Nat.le_refl _ | (simp; done) | (simp; omega)) _)) (cells_new _ _ _ _ (by simp)) (kShow__mk _ _ ⟨sj, q⟩) (fun k hk => Nat.lt_of_lt_of_le z11 (Nat.le_trans (by first | exact Nat.le_refl _ | (simp; done) | (simp; omega)) hk)) (by first | exact z11 | (simp; omega)) (by have := L5.out; omega) ?_
                 intro v9 w9 hown hg hat
                 obtain ⟨A9, n9, c9, rfl⟩ : ∃ A n c, v9 = .slice A n c := (by obtain ⟨A, c, e, _⟩ := hown.form; exact ⟨A, _, c, e⟩)
                 have G9 := Lib.hid ((S11.out.keep hDw (by omega) hok4.out (by repeat' first | exact Below.refl _ _ | refine Below.alloc ?_ (by first | exact Nat.le_refl _ | (simp; done) | (simp; omega)) _)).append5 hok4.out hDw HT0.out hown hg)
                 have z9 : Hid (w4.heap.size < w9.heap.size) := Nat.lt_of_lt_of_le (by first | exact z11 | (simp; omega)) hg.size
                 have p9 := G9.out.sb.cell 5
                 have f9 := G9.out.sb.frozen 5
                 clear hown hg hat)
              | (go_simp
                 go_at_call 35
                 refine (word_lit' D wr _ _ [⟨#[99, 111, 117, 110, 115, 101, 108, 108, 111, 114]⟩, ⟨#[98, 111, 97, 114, 100]⟩] #[Value.string ⟨#[99, 111, 117, 110, 115, 101, 108, 108, 111, 114]⟩, .string ⟨#[98, 111, 97, 114, 100]⟩] 2 GZ.out.dice ?_ ?_ ?_ rfl rfl (by decide) (by decide)).mono ?_
                 · repeat' first | exact Below.refl _ _ | refine Below.drew ?_ | refine Below.alloc ?_ (by first | exact Nat.le_refl _ | (simp; done) | (simp; omega)) _
                 · omega
                 · first | exact Blk.drew (Blk.new' _ _ _ _ (by simp)) | exact Blk.drew (Blk.alloc (Blk.new' _ _ _ _ (by simp)) _)
                 rintro e w11 ⟨q, hq, rfl, hd11, hf11⟩
                 have HQ : Hid (q = ⟨#[99, 111, 117, 110, 115, 101, 108, 108, 111, 114]⟩ ∨ q = ⟨#[98, 111, 97, 114, 100]⟩) := by show _ ∨ _; simpa only [List.mem_cons, List.not_mem_nil, or_false] using hq
                 clear hq
                 have S11 := Lib.hid ((GZ.out.keep hDw (by omega) hok4.out (by repeat' first | exact Below.refl _ _ | refine Below.drew ?_ | refine Below.alloc ?_ (by first | exact Nat.le_refl _ | (simp; done) | (simp; omega)) _)).step hDw (by omega) hok4.out hf11 hd11)
                 have z11 : w4.heap.size < w11.heap.size := (by have := hf11.size; simp at this; omega)
                 have zr11 : wr.heap.size < w11.heap.size := (by have := hf11.size; simp at this; omega)
                 have c11 := S11.out.sb.cell 5
                 first
                   | have m11 := hf11.cell (by show _ ≠ D; simp; omega) ((((Blk.new' wr 9 #[Value.string ⟨#[119, 104, 97, 116]⟩, .string ⟨#[114, 101, 115, 112, 111, 110, 100, 101, 110, 116]⟩, .string ⟨#[100, 97, 121]⟩, .string ⟨#[100, 101, 112, 97, 114, 116, 109, 101, 110, 116]⟩] wr.heap.size rfl).alloc (.cells #[Value.string ⟨#[99, 111, 117, 110, 115, 101, 108, 108, 111, 114]⟩, .string ⟨#[98, 111, 97, 114, 100]⟩] 9)).drew.cell j).trans hsj)
                   | have m11 := hf11.cell (by show _ ≠ D; simp; omega) (((Blk.new' (wr.alloc (.cells #[Value.string ⟨#[99, 111, 117, 110, 115, 101, 108, 108, 111, 114]⟩, .string ⟨#[98, 111, 97, 114, 100]⟩] 9)) 9 #[Value.string ⟨#[119, 104, 97, 116]⟩, .string ⟨#[114, 101, 115, 112, 111, 110, 100, 101, 110, 116]⟩, .string ⟨#[100, 97, 121]⟩, .string ⟨#[100, 101, 112, 97, 114, 116, 109, 101, 110, 116]⟩] (wr.heap.size + 1) (by simp)).drew.cell j).trans hsj)
                   | skip
                 clear hd11 hf11)))
            all_goals
              go_wp2_with fail
              go_meet
              exact ⟨_, ⟨sj, q⟩, ⟨HSJ.out, HQ.out⟩, G9.out.put5 hDw HT0.out hok4.out _ rfl, by have := z9.out; simpa [World.setCell] using this⟩
          obtain ⟨v1, sh, HSH, GY, zY⟩ := hcut
          clear GZ c5
          go_wp2_with fail
          go_roundw
          case rel => exact ⟨j + 1, v1, _, by omega, by go_num, by simp; omega, zY, HOS.out.snoc HSH.out, GY.out⟩
          case measure => simp [intOf]; omega
        · have q0 := GZ.out.sb.cell 0
          have q1 := GZ.out.sb.cell 1
          have q2 := GZ.out.sb.cell 2
          have q3 := GZ.out.sb.cell 3
          have q4 := GZ.out.sb.cell 4
          have q5 := GZ.out.sb.cell 5
          have rr0 := GZ.out.rb.cell 0
          have rr1 := GZ.out.rb.cell 1
          have rr2 := GZ.out.rb.cell 2
          have rr3 := GZ.out.rb.cell 3
          have rr4 := GZ.out.rb.cell 4
          have rr5 := GZ.out.rb.cell 5
          have f0 := GZ.out.rb.frozen 0
          have f1 := GZ.out.rb.frozen 1
          have f2 := GZ.out.rb.frozen 2
          have f3 := GZ.out.rb.frozen 3
          have f4 := GZ.out.rb.frozen 4
          have f5 := GZ.out.rb.frozen 5
          go_wp2_with fail
          refine bodyPost_ret (v := .agg #[.string nm, .int .i64 r2, .int .i64 (730000 + r3), .slice Aa na ca, .slice A4 xs.length c4, .slice Az nz cz]) (by simp [results, Tryz.results12, go_sem, rr0, rr1, rr2, rr3, rr4, rr5]) rfl ?_
          exact GZ.out.fin hDw hT hok4.out (by have := L0.out; omega) (by have := HL4.out; omega) (by omega) f ⟨HN.out.1, HN.out.2, HR.out.1, HR.out.2.1, by have := HR.out.2.2.1; show (730000 : Int) ≤ 730000 + r3; omega, by have := HR.out.2.2.2; show 730000 + r3 < (732000 : Int); omega, HOA.out, HOS.out⟩ (six_far _ _ 0 _ _ _ _ _ _) (by simp [World.setCell]) (by simp [World.setCell]) (by simp [World.setCell]) (by simp [World.setCell])
end Go.Proofs.YtmeipcnicfaojaaGreatDoor
