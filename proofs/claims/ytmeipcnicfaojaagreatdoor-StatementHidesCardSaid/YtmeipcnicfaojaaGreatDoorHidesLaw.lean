/- StatementHides: what the law says, of plain data. -/
import Derived.Test.YtmeipcnicfaojaaGreatDoorKitStmt
import Derived.Test.YtmeipcnicfaojaaGreatDoorVis
import Derived.Test.YtmeipcnicfaojaaGreatDoorSame
namespace Go.Proofs.YtmeipcnicfaojaaGreatDoor
open Go.RowKit

def bBoard : ByteArray := ⟨#[98, 111, 97, 114, 100]⟩
def bCoun : ByteArray := ⟨#[99, 111, 117, 110, 115, 101, 108, 108, 111, 114]⟩
def bNobody : ByteArray := ⟨#[110, 111, 98, 111, 100, 121]⟩
def bDay : ByteArray := ⟨#[100, 97, 121]⟩
def Stmt.more (s : Stmt) (f : ByteArray) : Stmt := { s with shows := s.shows ++ [⟨f, ⟨#[98, 111, 97, 114, 100]⟩⟩] }

theorem sees_more (s : Stmt) (f r g : ByteArray) : (s.more f).sees r g = (s.sees r g || (g.toList == f.toList && (r.toList == bBoard.toList))) := by
  simp [Stmt.sees, Stmt.more, List.any_append, Show_.same, bBoard]
theorem sees_more_coun (s : Stmt) (f g : ByteArray) : (s.more f).sees bCoun g = s.sees bCoun g := by
  rw [sees_more]
  have : (bCoun.toList == bBoard.toList) = false := by decide +kernel
  rw [this]
  simp
theorem sees_nobody (s : Stmt) (h : okShows s.shows) (g : ByteArray) : s.sees bNobody g = false := by
  unfold Stmt.sees
  rw [List.any_eq_false]
  intro x hx
  have h1 := (h x hx).2
  have e1 : (bNobody.toList == bCoun.toList) = false := by decide +kernel
  have e2 : (bNobody.toList == bBoard.toList) = false := by decide +kernel
  unfold bCoun at e1
  unfold bBoard at e2
  rcases h1 with h1 | h1 <;> simp only [Show_.same, h1, e1, e2, Bool.and_false] <;> simp
theorem visible_nobody (s : Stmt) (h : okShows s.shows) : s.visible bNobody = zStmt := by
  unfold Stmt.visible zStmt
  simp only [sees_nobody s h]
  simp
theorem visible_coun (s : Stmt) (f : ByteArray) : (s.more f).visible bCoun = s.visible bCoun := by
  unfold Stmt.visible
  simp only [sees_more_coun]
  rfl
theorem resp_kept (s : Stmt) (f : ByteArray) (h : (s.visible bBoard).resp ≠ ⟨#[]⟩) : ((s.more f).visible bBoard).resp = (s.visible bBoard).resp := by
  simp only [Stmt.visible] at h ⊢
  rw [sees_more]
  split at h
  · rename_i h1
    rw [h1]
    simp [Stmt.more]
  · exact absurd rfl h
theorem day_shown (s : Stmt) : ((s.more bDay).visible bBoard).day = s.day := by
  simp only [Stmt.visible]
  rw [sees_more]
  have : (bDay.toList == bDay.toList && (bBoard.toList == bBoard.toList)) = true := by decide +kernel
  unfold bDay at this ⊢
  rw [this]
  simp [Stmt.more]
theorem in_more (s : Stmt) (f : ByteArray) (x : Answer) (h : x ∈ (s.visible bBoard).ans) : x ∈ ((s.more f).visible bBoard).ans := by
  simp only [Stmt.visible, List.mem_filter] at h ⊢
  refine ⟨h.1, ?_⟩
  rw [sees_more, h.2]
  simp
def ansSame (x y : Answer) : Bool := x.fld.toList == y.fld.toList && (x.txt.toList == y.txt.toList && (x.num == y.num))
def showFor (x : Answer) (w : Show_) : Bool := w.fld.toList == x.fld.toList && (w.role.toList == bBoard.toList)
theorem any_in (xs : List Answer) (x : Answer) (h : x ∈ xs) : xs.any (ansSame x) = true := by
  rw [List.any_eq_true]
  exact ⟨x, h, by simp [ansSame]⟩
theorem any_allowed (s : Stmt) (x : Answer) (h : x ∈ (s.visible bBoard).ans) : s.shows.any (showFor x) = true := by
  simp only [Stmt.visible, List.mem_filter] at h
  have h2 := h.2
  unfold Stmt.sees at h2
  rw [List.any_eq_true] at h2 ⊢
  obtain ⟨w, hw, he⟩ := h2
  refine ⟨w, hw, ?_⟩
  simp only [Show_.same, Bool.and_eq_true, beq_iff_eq] at he
  simp only [showFor, Bool.and_eq_true, beq_iff_eq]
  exact ⟨he.1.symm, he.2.symm⟩
theorem any_take_succ {α : Type} (p : α → Bool) (z : α) (xs : List α) (k : Nat) (hk : k < xs.length) : (xs.take (k + 1)).any p = ((xs.take k).any p || p (xs.getD k z)) := by
  rw [List.take_succ_eq_append_getElem hk, List.any_append, List.getD_eq_getElem?_getD, List.getElem?_eq_getElem hk]
  simp
end Go.Proofs.YtmeipcnicfaojaaGreatDoor
