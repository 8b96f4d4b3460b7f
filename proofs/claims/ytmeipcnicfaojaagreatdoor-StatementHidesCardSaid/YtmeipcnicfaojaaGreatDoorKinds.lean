/- The structs of statements as plain data, and what their cells say. -/
import Derived.Test.YtmeipcnicfaojaaGreatDoorBase
namespace Go.Proofs.YtmeipcnicfaojaaGreatDoor
open Go.RowKit
/-! #### Answer -/
structure Answer where
  fld : ByteArray
  txt : ByteArray
  num : Int
def zAnswer : Answer := ⟨(⟨#[]⟩ : ByteArray), (⟨#[]⟩ : ByteArray), (0 : Int)⟩
def kAnswer : Kd Answer := Kd.iso (Kd.pair (Kd.string) (Kd.pair (Kd.string) (Kd.int .i64))) (fun x : Answer => (x.fld, x.txt, x.num))
theorem kAnswer_open {ok : Nat → Prop} {w : World} {x : Answer} {cs : List Value} (h : kAnswer.K ok w x cs) : cs = [.string x.fld, .string x.txt, .int .i64 x.num] := by
  obtain ⟨_, _, rfl, rfl, ⟨_, _, rfl, rfl, rfl⟩⟩ := h
  exact rfl
theorem kAnswer_mk (ok : Nat → Prop) (w : World) (x : Answer) : kAnswer.K ok w x [.string x.fld, .string x.txt, .int .i64 x.num] := ⟨_, _, rfl, rfl, ⟨_, _, rfl, rfl, rfl⟩⟩
theorem at_Answer {ok : Nat → Prop} {w : World} {A : Option Addr} {n : Nat} {xs : List Answer} (h : kAnswer.C ok w A n xs) (i : Nat) (hi : i < n) : ∃ ad, A = some ad ∧ ok ad.block ∧ w.cell? (ad.add (i * 3)) = some (.string (xs.getD i zAnswer).fld) ∧ w.cell? ⟨(ad.add (i * 3)).block, (ad.add (i * 3)).off + 1, none⟩ = some (.string (xs.getD i zAnswer).txt) ∧ w.cell? ⟨(ad.add (i * 3)).block, (ad.add (i * 3)).off + 2, none⟩ = some (.int .i64 (xs.getD i zAnswer).num) := by
  obtain ⟨ad, cs, e, ho, hK, hc0⟩ := Kd.C_get h zAnswer i hi
  have hc : ∀ j u, cs[j]? = some u → w.cell? (ad.add (i * 3 + j)) = some u := hc0
  obtain rfl := kAnswer_open hK
  exact ⟨ad, e, ho, hc 0 _ rfl, by rw [← add_field _ _ 1 (by omega)]; exact hc 1 _ rfl, by rw [← add_field _ _ 2 (by omega)]; exact hc 2 _ rfl⟩

/-! #### Show_ -/
structure Show_ where
  fld : ByteArray
  role : ByteArray
def zShow_ : Show_ := ⟨(⟨#[]⟩ : ByteArray), (⟨#[]⟩ : ByteArray)⟩
def kShow_ : Kd Show_ := Kd.iso (Kd.pair (Kd.string) (Kd.string)) (fun x : Show_ => (x.fld, x.role))
theorem kShow__open {ok : Nat → Prop} {w : World} {x : Show_} {cs : List Value} (h : kShow_.K ok w x cs) : cs = [.string x.fld, .string x.role] := by
  obtain ⟨_, _, rfl, rfl, rfl⟩ := h
  exact rfl
theorem kShow__mk (ok : Nat → Prop) (w : World) (x : Show_) : kShow_.K ok w x [.string x.fld, .string x.role] := ⟨_, _, rfl, rfl, rfl⟩
theorem at_Show_ {ok : Nat → Prop} {w : World} {A : Option Addr} {n : Nat} {xs : List Show_} (h : kShow_.C ok w A n xs) (i : Nat) (hi : i < n) : ∃ ad, A = some ad ∧ ok ad.block ∧ w.cell? (ad.add (i * 2)) = some (.string (xs.getD i zShow_).fld) ∧ w.cell? ⟨(ad.add (i * 2)).block, (ad.add (i * 2)).off + 1, none⟩ = some (.string (xs.getD i zShow_).role) := by
  obtain ⟨ad, cs, e, ho, hK, hc0⟩ := Kd.C_get h zShow_ i hi
  have hc : ∀ j u, cs[j]? = some u → w.cell? (ad.add (i * 2 + j)) = some u := hc0
  obtain rfl := kShow__open hK
  exact ⟨ad, e, ho, hc 0 _ rfl, by rw [← add_field _ _ 1 (by omega)]; exact hc 1 _ rfl⟩

/-! #### Term -/
structure Term where
  kind : Int
  num : Int
  years : Int
  fld : ByteArray
  txt : ByteArray
  args : (List Int)
def zTerm : Term := ⟨(0 : Int), (0 : Int), (0 : Int), (⟨#[]⟩ : ByteArray), (⟨#[]⟩ : ByteArray), []⟩
def kTerm : Kd Term := Kd.iso (Kd.pair (Kd.int .i64) (Kd.pair (Kd.int .i64) (Kd.pair (Kd.int .i64) (Kd.pair (Kd.string) (Kd.pair (Kd.string) (Kd.slice (Kd.int .i64) (by decide))))))) (fun x : Term => (x.kind, x.num, x.years, x.fld, x.txt, x.args))
theorem kTerm_open {ok : Nat → Prop} {w : World} {x : Term} {cs : List Value} (h : kTerm.K ok w x cs) : ∃ A5 c5, cs = [.int .i64 x.kind, .int .i64 x.num, .int .i64 x.years, .string x.fld, .string x.txt, .slice A5 x.args.length c5] ∧ x.args.length ≤ c5 ∧ (Kd.int .i64).C ok w A5 x.args.length x.args := by
  obtain ⟨_, _, rfl, rfl, ⟨_, _, rfl, rfl, ⟨_, _, rfl, rfl, ⟨_, _, rfl, rfl, ⟨_, _, rfl, rfl, ⟨A5, c5, rfl, l5, g5⟩⟩⟩⟩⟩⟩ := h
  exact ⟨A5, c5, rfl, l5, g5⟩
theorem kTerm_mk (ok : Nat → Prop) (w : World) (x : Term) {A5 : Option Addr} {c5 : Nat} (l5 : x.args.length ≤ c5) (g5 : (Kd.int .i64).C ok w A5 x.args.length x.args) : kTerm.K ok w x [.int .i64 x.kind, .int .i64 x.num, .int .i64 x.years, .string x.fld, .string x.txt, .slice A5 x.args.length c5] := ⟨_, _, rfl, rfl, ⟨_, _, rfl, rfl, ⟨_, _, rfl, rfl, ⟨_, _, rfl, rfl, ⟨_, _, rfl, rfl, ⟨A5, c5, rfl, l5, g5⟩⟩⟩⟩⟩⟩
theorem at_Term {ok : Nat → Prop} {w : World} {A : Option Addr} {n : Nat} {xs : List Term} (h : kTerm.C ok w A n xs) (i : Nat) (hi : i < n) : ∃ ad A5 c5, A = some ad ∧ ok ad.block ∧ w.cell? (ad.add (i * 6)) = some (.int .i64 (xs.getD i zTerm).kind) ∧ w.cell? ⟨(ad.add (i * 6)).block, (ad.add (i * 6)).off + 1, none⟩ = some (.int .i64 (xs.getD i zTerm).num) ∧ w.cell? ⟨(ad.add (i * 6)).block, (ad.add (i * 6)).off + 2, none⟩ = some (.int .i64 (xs.getD i zTerm).years) ∧ w.cell? ⟨(ad.add (i * 6)).block, (ad.add (i * 6)).off + 3, none⟩ = some (.string (xs.getD i zTerm).fld) ∧ w.cell? ⟨(ad.add (i * 6)).block, (ad.add (i * 6)).off + 4, none⟩ = some (.string (xs.getD i zTerm).txt) ∧ w.cell? ⟨(ad.add (i * 6)).block, (ad.add (i * 6)).off + 5, none⟩ = some (.slice A5 (xs.getD i zTerm).args.length c5) ∧ (xs.getD i zTerm).args.length ≤ c5 ∧ (Kd.int .i64).C ok w A5 (xs.getD i zTerm).args.length (xs.getD i zTerm).args := by
  obtain ⟨ad, cs, e, ho, hK, hc0⟩ := Kd.C_get h zTerm i hi
  have hc : ∀ j u, cs[j]? = some u → w.cell? (ad.add (i * 6 + j)) = some u := hc0
  obtain ⟨A5, c5, rfl, l5, g5⟩ := kTerm_open hK
  exact ⟨ad, A5, c5, e, ho, hc 0 _ rfl, by rw [← add_field _ _ 1 (by omega)]; exact hc 1 _ rfl, by rw [← add_field _ _ 2 (by omega)]; exact hc 2 _ rfl, by rw [← add_field _ _ 3 (by omega)]; exact hc 3 _ rfl, by rw [← add_field _ _ 4 (by omega)]; exact hc 4 _ rfl, by rw [← add_field _ _ 5 (by omega)]; exact hc 5 _ rfl, l5, g5⟩

/-! #### Fld -/
structure Fld where
  name : ByteArray
  kind : Int
  needed : Bool
  least : Int
  most : Int
  opts : (List ByteArray)
def zFld : Fld := ⟨(⟨#[]⟩ : ByteArray), (0 : Int), false, (0 : Int), (0 : Int), []⟩
def kFld : Kd Fld := Kd.iso (Kd.pair (Kd.string) (Kd.pair (Kd.int .i64) (Kd.pair (Kd.bool) (Kd.pair (Kd.int .i64) (Kd.pair (Kd.int .i64) (Kd.slice (Kd.string) (by decide))))))) (fun x : Fld => (x.name, x.kind, x.needed, x.least, x.most, x.opts))
theorem kFld_open {ok : Nat → Prop} {w : World} {x : Fld} {cs : List Value} (h : kFld.K ok w x cs) : ∃ A5 c5, cs = [.string x.name, .int .i64 x.kind, .bool x.needed, .int .i64 x.least, .int .i64 x.most, .slice A5 x.opts.length c5] ∧ x.opts.length ≤ c5 ∧ (Kd.string).C ok w A5 x.opts.length x.opts := by
  obtain ⟨_, _, rfl, rfl, ⟨_, _, rfl, rfl, ⟨_, _, rfl, rfl, ⟨_, _, rfl, rfl, ⟨_, _, rfl, rfl, ⟨A5, c5, rfl, l5, g5⟩⟩⟩⟩⟩⟩ := h
  exact ⟨A5, c5, rfl, l5, g5⟩
theorem kFld_mk (ok : Nat → Prop) (w : World) (x : Fld) {A5 : Option Addr} {c5 : Nat} (l5 : x.opts.length ≤ c5) (g5 : (Kd.string).C ok w A5 x.opts.length x.opts) : kFld.K ok w x [.string x.name, .int .i64 x.kind, .bool x.needed, .int .i64 x.least, .int .i64 x.most, .slice A5 x.opts.length c5] := ⟨_, _, rfl, rfl, ⟨_, _, rfl, rfl, ⟨_, _, rfl, rfl, ⟨_, _, rfl, rfl, ⟨_, _, rfl, rfl, ⟨A5, c5, rfl, l5, g5⟩⟩⟩⟩⟩⟩
theorem at_Fld {ok : Nat → Prop} {w : World} {A : Option Addr} {n : Nat} {xs : List Fld} (h : kFld.C ok w A n xs) (i : Nat) (hi : i < n) : ∃ ad A5 c5, A = some ad ∧ ok ad.block ∧ w.cell? (ad.add (i * 6)) = some (.string (xs.getD i zFld).name) ∧ w.cell? ⟨(ad.add (i * 6)).block, (ad.add (i * 6)).off + 1, none⟩ = some (.int .i64 (xs.getD i zFld).kind) ∧ w.cell? ⟨(ad.add (i * 6)).block, (ad.add (i * 6)).off + 2, none⟩ = some (.bool (xs.getD i zFld).needed) ∧ w.cell? ⟨(ad.add (i * 6)).block, (ad.add (i * 6)).off + 3, none⟩ = some (.int .i64 (xs.getD i zFld).least) ∧ w.cell? ⟨(ad.add (i * 6)).block, (ad.add (i * 6)).off + 4, none⟩ = some (.int .i64 (xs.getD i zFld).most) ∧ w.cell? ⟨(ad.add (i * 6)).block, (ad.add (i * 6)).off + 5, none⟩ = some (.slice A5 (xs.getD i zFld).opts.length c5) ∧ (xs.getD i zFld).opts.length ≤ c5 ∧ (Kd.string).C ok w A5 (xs.getD i zFld).opts.length (xs.getD i zFld).opts := by
  obtain ⟨ad, cs, e, ho, hK, hc0⟩ := Kd.C_get h zFld i hi
  have hc : ∀ j u, cs[j]? = some u → w.cell? (ad.add (i * 6 + j)) = some u := hc0
  obtain ⟨A5, c5, rfl, l5, g5⟩ := kFld_open hK
  exact ⟨ad, A5, c5, e, ho, hc 0 _ rfl, by rw [← add_field _ _ 1 (by omega)]; exact hc 1 _ rfl, by rw [← add_field _ _ 2 (by omega)]; exact hc 2 _ rfl, by rw [← add_field _ _ 3 (by omega)]; exact hc 3 _ rfl, by rw [← add_field _ _ 4 (by omega)]; exact hc 4 _ rfl, by rw [← add_field _ _ 5 (by omega)]; exact hc 5 _ rfl, l5, g5⟩

/-! #### Form -/
structure Form where
  title : ByteArray
  flds : (List Fld)
def zForm : Form := ⟨(⟨#[]⟩ : ByteArray), []⟩
def kForm : Kd Form := Kd.iso (Kd.pair (Kd.string) (Kd.slice kFld (by decide))) (fun x : Form => (x.title, x.flds))
theorem kForm_open {ok : Nat → Prop} {w : World} {x : Form} {cs : List Value} (h : kForm.K ok w x cs) : ∃ A1 c1, cs = [.string x.title, .slice A1 x.flds.length c1] ∧ x.flds.length ≤ c1 ∧ kFld.C ok w A1 x.flds.length x.flds := by
  obtain ⟨_, _, rfl, rfl, ⟨A1, c1, rfl, l1, g1⟩⟩ := h
  exact ⟨A1, c1, rfl, l1, g1⟩
theorem kForm_mk (ok : Nat → Prop) (w : World) (x : Form) {A1 : Option Addr} {c1 : Nat} (l1 : x.flds.length ≤ c1) (g1 : kFld.C ok w A1 x.flds.length x.flds) : kForm.K ok w x [.string x.title, .slice A1 x.flds.length c1] := ⟨_, _, rfl, rfl, ⟨A1, c1, rfl, l1, g1⟩⟩
theorem at_Form {ok : Nat → Prop} {w : World} {A : Option Addr} {n : Nat} {xs : List Form} (h : kForm.C ok w A n xs) (i : Nat) (hi : i < n) : ∃ ad A1 c1, A = some ad ∧ ok ad.block ∧ w.cell? (ad.add (i * 2)) = some (.string (xs.getD i zForm).title) ∧ w.cell? ⟨(ad.add (i * 2)).block, (ad.add (i * 2)).off + 1, none⟩ = some (.slice A1 (xs.getD i zForm).flds.length c1) ∧ (xs.getD i zForm).flds.length ≤ c1 ∧ kFld.C ok w A1 (xs.getD i zForm).flds.length (xs.getD i zForm).flds := by
  obtain ⟨ad, cs, e, ho, hK, hc0⟩ := Kd.C_get h zForm i hi
  have hc : ∀ j u, cs[j]? = some u → w.cell? (ad.add (i * 2 + j)) = some u := hc0
  obtain ⟨A1, c1, rfl, l1, g1⟩ := kForm_open hK
  exact ⟨ad, A1, c1, e, ho, hc 0 _ rfl, by rw [← add_field _ _ 1 (by omega)]; exact hc 1 _ rfl, l1, g1⟩

/-! #### Stmt -/
structure Stmt where
  resp : ByteArray
  dept : Int
  day : Int
  ans : (List Answer)
  cond : (List Term)
  shows : (List Show_)
def zStmt : Stmt := ⟨(⟨#[]⟩ : ByteArray), (0 : Int), (0 : Int), [], [], []⟩
def kStmt : Kd Stmt := Kd.iso (Kd.pair (Kd.string) (Kd.pair (Kd.int .i64) (Kd.pair (Kd.int .i64) (Kd.pair (Kd.slice kAnswer (by decide)) (Kd.pair (Kd.slice kTerm (by decide)) (Kd.slice kShow_ (by decide))))))) (fun x : Stmt => (x.resp, x.dept, x.day, x.ans, x.cond, x.shows))
theorem kStmt_open {ok : Nat → Prop} {w : World} {x : Stmt} {cs : List Value} (h : kStmt.K ok w x cs) : ∃ A3 c3 A4 c4 A5 c5, cs = [.string x.resp, .int .i64 x.dept, .int .i64 x.day, .slice A3 x.ans.length c3, .slice A4 x.cond.length c4, .slice A5 x.shows.length c5] ∧ x.ans.length ≤ c3 ∧ kAnswer.C ok w A3 x.ans.length x.ans ∧ x.cond.length ≤ c4 ∧ kTerm.C ok w A4 x.cond.length x.cond ∧ x.shows.length ≤ c5 ∧ kShow_.C ok w A5 x.shows.length x.shows := by
  obtain ⟨_, _, rfl, rfl, ⟨_, _, rfl, rfl, ⟨_, _, rfl, rfl, ⟨_, _, rfl, ⟨A3, c3, rfl, l3, g3⟩, ⟨_, _, rfl, ⟨A4, c4, rfl, l4, g4⟩, ⟨A5, c5, rfl, l5, g5⟩⟩⟩⟩⟩⟩ := h
  exact ⟨A3, c3, A4, c4, A5, c5, rfl, l3, g3, l4, g4, l5, g5⟩
theorem kStmt_mk (ok : Nat → Prop) (w : World) (x : Stmt) {A3 : Option Addr} {c3 : Nat} (l3 : x.ans.length ≤ c3) (g3 : kAnswer.C ok w A3 x.ans.length x.ans) {A4 : Option Addr} {c4 : Nat} (l4 : x.cond.length ≤ c4) (g4 : kTerm.C ok w A4 x.cond.length x.cond) {A5 : Option Addr} {c5 : Nat} (l5 : x.shows.length ≤ c5) (g5 : kShow_.C ok w A5 x.shows.length x.shows) : kStmt.K ok w x [.string x.resp, .int .i64 x.dept, .int .i64 x.day, .slice A3 x.ans.length c3, .slice A4 x.cond.length c4, .slice A5 x.shows.length c5] := ⟨_, _, rfl, rfl, ⟨_, _, rfl, rfl, ⟨_, _, rfl, rfl, ⟨_, _, rfl, ⟨A3, c3, rfl, l3, g3⟩, ⟨_, _, rfl, ⟨A4, c4, rfl, l4, g4⟩, ⟨A5, c5, rfl, l5, g5⟩⟩⟩⟩⟩⟩
theorem at_Stmt {ok : Nat → Prop} {w : World} {A : Option Addr} {n : Nat} {xs : List Stmt} (h : kStmt.C ok w A n xs) (i : Nat) (hi : i < n) : ∃ ad A3 c3 A4 c4 A5 c5, A = some ad ∧ ok ad.block ∧ w.cell? (ad.add (i * 6)) = some (.string (xs.getD i zStmt).resp) ∧ w.cell? ⟨(ad.add (i * 6)).block, (ad.add (i * 6)).off + 1, none⟩ = some (.int .i64 (xs.getD i zStmt).dept) ∧ w.cell? ⟨(ad.add (i * 6)).block, (ad.add (i * 6)).off + 2, none⟩ = some (.int .i64 (xs.getD i zStmt).day) ∧ w.cell? ⟨(ad.add (i * 6)).block, (ad.add (i * 6)).off + 3, none⟩ = some (.slice A3 (xs.getD i zStmt).ans.length c3) ∧ w.cell? ⟨(ad.add (i * 6)).block, (ad.add (i * 6)).off + 4, none⟩ = some (.slice A4 (xs.getD i zStmt).cond.length c4) ∧ w.cell? ⟨(ad.add (i * 6)).block, (ad.add (i * 6)).off + 5, none⟩ = some (.slice A5 (xs.getD i zStmt).shows.length c5) ∧ (xs.getD i zStmt).ans.length ≤ c3 ∧ kAnswer.C ok w A3 (xs.getD i zStmt).ans.length (xs.getD i zStmt).ans ∧ (xs.getD i zStmt).cond.length ≤ c4 ∧ kTerm.C ok w A4 (xs.getD i zStmt).cond.length (xs.getD i zStmt).cond ∧ (xs.getD i zStmt).shows.length ≤ c5 ∧ kShow_.C ok w A5 (xs.getD i zStmt).shows.length (xs.getD i zStmt).shows := by
  obtain ⟨ad, cs, e, ho, hK, hc0⟩ := Kd.C_get h zStmt i hi
  have hc : ∀ j u, cs[j]? = some u → w.cell? (ad.add (i * 6 + j)) = some u := hc0
  obtain ⟨A3, c3, A4, c4, A5, c5, rfl, l3, g3, l4, g4, l5, g5⟩ := kStmt_open hK
  exact ⟨ad, A3, c3, A4, c4, A5, c5, e, ho, hc 0 _ rfl, by rw [← add_field _ _ 1 (by omega)]; exact hc 1 _ rfl, by rw [← add_field _ _ 2 (by omega)]; exact hc 2 _ rfl, by rw [← add_field _ _ 3 (by omega)]; exact hc 3 _ rfl, by rw [← add_field _ _ 4 (by omega)]; exact hc 4 _ rfl, by rw [← add_field _ _ 5 (by omega)]; exact hc 5 _ rfl, l3, g3, l4, g4, l5, g5⟩

theorem at_int {k : IntKind} {ok : Nat → Prop} {w : World} {A : Option Addr} {n : Nat} {xs : List Int} (h : (Kd.int k).C ok w A n xs) (i : Nat) (hi : i < n) : ∃ ad, A = some ad ∧ ok ad.block ∧ w.cell? (ad.add i) = some (.int k (xs.getD i 0)) := by
  obtain ⟨ad, cs, e, ho, hK, hc0⟩ := Kd.C_get h (0 : Int) i hi
  have hc : ∀ j u, cs[j]? = some u → w.cell? (ad.add (i * 1 + j)) = some u := hc0
  have hK' : cs = [.int k (xs.getD i 0)] := hK
  subst hK'
  exact ⟨ad, e, ho, by have hq := hc 0 _ rfl; rwa [Nat.mul_one, Nat.add_zero] at hq⟩
theorem at_str {ok : Nat → Prop} {w : World} {A : Option Addr} {n : Nat} {xs : List ByteArray} (h : Kd.string.C ok w A n xs) (i : Nat) (hi : i < n) : ∃ ad, A = some ad ∧ ok ad.block ∧ w.cell? (ad.add i) = some (.string (xs.getD i ⟨#[]⟩)) := by
  obtain ⟨ad, cs, e, ho, hK, hc0⟩ := Kd.C_get h (⟨#[]⟩ : ByteArray) i hi
  have hc : ∀ j u, cs[j]? = some u → w.cell? (ad.add (i * 1 + j)) = some u := hc0
  have hK' : cs = [.string (xs.getD i ⟨#[]⟩)] := hK
  subst hK'
  exact ⟨ad, e, ho, by have hq := hc 0 _ rfl; rwa [Nat.mul_one, Nat.add_zero] at hq⟩
end Go.Proofs.YtmeipcnicfaojaaGreatDoor
