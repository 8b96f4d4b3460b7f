/- What a statement is written as: the walk. How its condition prints is handed in. -/
import Derived.Test.YtmeipcnicfaojaaGreatDoorCodec
import Derived.Test.YtmeipcnicfaojaaGreatDoorVis
namespace Go.Proofs.YtmeipcnicfaojaaGreatDoor
open Go.RowKit

def ansB (b : ByteArray) (a : Answer) : ByteArray := wInt (wText (wText b a.fld) a.txt) a.num
def showB (b : ByteArray) (x : Show_) : ByteArray := wText (wText b x.fld) x.role
def headB (s : Stmt) : ByteArray := wInt (wInt (wInt (wText ⟨#[]⟩ s.resp) s.dept) s.day) (s.ans.length : Int)
def midB (s : Stmt) (text : ByteArray) : ByteArray := wInt (wText (s.ans.foldl ansB (headB s)) text) (s.shows.length : Int)
def stmtB (s : Stmt) (text : ByteArray) : ByteArray := s.shows.foldl showB (midB s text)
/-- No text of the statement is very long. -/
structure Modest (s : Stmt) : Prop where
  resp : s.resp.size ≤ 1048576
  ans : ∀ a ∈ s.ans, a.fld.size ≤ 1048576 ∧ a.txt.size ≤ 1048576
  shows : ∀ a ∈ s.shows, a.fld.size ≤ 1048576 ∧ a.role.size ≤ 1048576

theorem ansB_size (b : ByteArray) (a : Answer) (h : a.fld.size ≤ 1048576 ∧ a.txt.size ≤ 1048576) : (ansB b a).size ≤ b.size + 2097182 := by
  have h1 := wText_size b a.fld
  have h2 := wText_size (wText b a.fld) a.txt
  have h3 := wInt_size (wText (wText b a.fld) a.txt) a.num
  unfold ansB
  omega
theorem showB_size (b : ByteArray) (a : Show_) (h : a.fld.size ≤ 1048576 ∧ a.role.size ≤ 1048576) : (showB b a).size ≤ b.size + 2097182 := by
  have h1 := wText_size b a.fld
  have h2 := wText_size (wText b a.fld) a.role
  unfold showB
  omega
theorem fold_size {α : Type} (f : ByteArray → α → ByteArray) (P : α → Prop) (hf : ∀ b a, P a → (f b a).size ≤ b.size + 2097182) : ∀ (xs : List α) (b : ByteArray), (∀ a ∈ xs, P a) → (xs.foldl f b).size ≤ b.size + xs.length * 2097182
  | [], b, _ => by simp
  | a :: xs, b, h => by
    have h1 := hf b a (h a List.mem_cons_self)
    have h2 := fold_size f P hf xs (f b a) (fun x hx => h x (List.mem_cons_of_mem _ hx))
    simp only [List.foldl_cons, List.length_cons]
    omega
theorem headB_size {s : Stmt} (h : Modest s) : (headB s).size ≤ 1048616 := by
  have h0 := h.resp
  have h1 := wText_size ⟨#[]⟩ s.resp
  have h2 := wInt_size (wText ⟨#[]⟩ s.resp) s.dept
  have h3 := wInt_size (wInt (wText ⟨#[]⟩ s.resp) s.dept) s.day
  have h4 := wInt_size (wInt (wInt (wText ⟨#[]⟩ s.resp) s.dept) s.day) (s.ans.length : Int)
  have h5 : (⟨#[]⟩ : ByteArray).size = 0 := rfl
  unfold headB
  omega
theorem midAns_size {s : Stmt} (h : Modest s) (hl : s.ans.length ≤ 256) (k : Nat) : ((s.ans.take k).foldl ansB (headB s)).size ≤ 537927208 := by
  have h1 := headB_size h
  have h2 := fold_size ansB (fun a => a.fld.size ≤ 1048576 ∧ a.txt.size ≤ 1048576) ansB_size (s.ans.take k) (headB s) (fun a ha => h.ans a (List.mem_of_mem_take ha))
  have h3 : (s.ans.take k).length ≤ 256 := by simp; omega
  have h4 := Nat.mul_le_mul_right 2097182 h3
  omega
theorem midB_size {s : Stmt} {text : ByteArray} (h : Modest s) (hl : s.ans.length ≤ 256) (ht : text.size ≤ 1048576) : (midB s text).size ≤ 538975804 := by
  have h1 := midAns_size h hl s.ans.length
  rw [List.take_length] at h1
  have h2 := wText_size (s.ans.foldl ansB (headB s)) text
  have h3 := wInt_size (wText (s.ans.foldl ansB (headB s)) text) (s.shows.length : Int)
  unfold midB
  omega
theorem midShow_size {s : Stmt} {text : ByteArray} (h : Modest s) (hl : s.ans.length ≤ 256) (hs : s.shows.length ≤ 256) (ht : text.size ≤ 1048576) (k : Nat) : ((s.shows.take k).foldl showB (midB s text)).size ≤ 1075854396 := by
  have h1 := midB_size h hl ht
  have h2 := fold_size showB (fun a => a.fld.size ≤ 1048576 ∧ a.role.size ≤ 1048576) showB_size (s.shows.take k) (midB s text) (fun a ha => h.shows a (List.mem_of_mem_take ha))
  have h3 : (s.shows.take k).length ≤ 256 := by simp; omega
  have h4 := Nat.mul_le_mul_right 2097182 h3
  omega
theorem blkS {w W : World} {g : Nat} {t : TypeId} {a0 a1 a2 a3 a4 a5 : Value} (h : Blk w g t #[a0, a1, a2, a3, a4, a5]) (hb : Below w.heap.size w W) :
    W.cell? ⟨g, 0, none⟩ = some a0 ∧ W.cell? ⟨g, 1, none⟩ = some a1 ∧ W.cell? ⟨g, 2, none⟩ = some a2 ∧ W.cell? ⟨g, 3, none⟩ = some a3 ∧ W.cell? ⟨g, 5, none⟩ = some a5 ∧ Hid (Below w.heap.size w W) :=
  ⟨(h.keep hb).cell 0, (h.keep hb).cell 1, (h.keep hb).cell 2, (h.keep hb).cell 3, (h.keep hb).cell 5, hb⟩

theorem blkS3 {w W : World} {g : Nat} {t : TypeId} {a0 a1 a2 : Value} (h : Blk w g t #[a0, a1, a2]) (hb : Below w.heap.size w W) :
    W.cell? ⟨g, 0, none⟩ = some a0 ∧ W.cell? ⟨g, 1, none⟩ = some a1 ∧ W.cell? ⟨g, 2, none⟩ = some a2 ∧ Hid (Below w.heap.size w W) := ⟨(h.keep hb).cell 0, (h.keep hb).cell 1, (h.keep hb).cell 2, hb⟩
theorem blkS2 {w W : World} {g : Nat} {t : TypeId} {a0 a1 : Value} (h : Blk w g t #[a0, a1]) (hb : Below w.heap.size w W) :
    W.cell? ⟨g, 0, none⟩ = some a0 ∧ W.cell? ⟨g, 1, none⟩ = some a1 ∧ Hid (Below w.heap.size w W) := ⟨(h.keep hb).cell 0, (h.keep hb).cell 1, hb⟩

set_option maxRecDepth 100000 in
set_option maxHeartbeats 4000000 in
theorem bytes_any (w : World) (s : Stmt) (cs : List Value) (text : ByteArray) (hs : kStmt.K (fun _ => True) w s cs) (hm : Modest s) (ht : text.size ≤ 1048576)
    (hP : ∀ (A : Option Addr) (c : Nat) (W : World), cs[4]? = some (.slice A s.cond.length c) → Below w.heap.size w W → Calls Tryz.prog 39 #[.agg #[.slice A s.cond.length c]] W fun e w' => e = .returned (.tuple #[.string text, .int .i64 0]) ∧ Below W.heap.size W w') :
    Calls Tryz.prog 14 #[.agg cs.toArray] w fun e w' => Below w.heap.size w w' ∧
      e = .returned (.tuple (if max s.ans.length s.shows.length ≤ 256 ∧ (stmtB s text).size ≤ 16384 then #[.string (stmtB s text), .int .i64 0] else #[.string ⟨#[]⟩, .int .i64 3])) := by
  obtain ⟨A3, c3, A4, c4, A5, c5, rfl, l3, g3, l4, g4, l5, g5⟩ := kStmt_open hs
  generalize hres : (if max s.ans.length s.shows.length ≤ 256 ∧ (stmtB s text).size ≤ 16384 then (#[.string (stmtB s text), .int .i64 0] : Array Value) else #[.string ⟨#[]⟩, .int .i64 3]) = res
  have HR := Lib.hid hres
  have P0 := Lib.hid (hP A4 c4)
  have G3 := Lib.hid g3; have G5 := Lib.hid g5; have M := Lib.hid hm
  clear hs hP g3 g4 g5 hm hres
  go_enter Tryz.func14, Tryz.ntmps14
  go_wp2_with fail
  refine (P0.out _ rfl (by (repeat' first | exact Below.refl _ _ | refine Below.drew ?_ | refine below_drewN ?_ _ | refine Below.alloc ?_ (by first | exact Nat.le_refl _ | (simp; done) | (simp; omega)) _ | refine Below.setCell ?_ (by first | (simp; done) | (simp; omega)) _))).mono ?_
  rintro e w1 ⟨rfl, hB⟩
  have hb0 : Below w.heap.size w (w.alloc (.cells #[.string s.resp, .int .i64 s.dept, .int .i64 s.day, .slice A3 s.ans.length c3, .slice A4 s.cond.length c4, .slice A5 s.shows.length c5] 33)) := by (repeat' first | exact Below.refl _ _ | refine Below.drew ?_ | refine below_drewN ?_ _ | refine Below.alloc ?_ (by first | exact Nat.le_refl _ | (simp; done) | (simp; omega)) _ | refine Below.setCell ?_ (by first | (simp; done) | (simp; omega)) _)
  have B1 := Lib.hid (below_seq hb0 hB)
  have K1 := Lib.hid ((Blk.new w 33 #[.string s.resp, .int .i64 s.dept, .int .i64 s.day, .slice A3 s.ans.length c3, .slice A4 s.cond.length c4, .slice A5 s.shows.length c5]).keep hB)
  have q3 := K1.out.cell 3
  have q5 := K1.out.cell 5
  clear hB hb0
  obtain ⟨m, hmx, hm⟩ : ∃ m : Nat, (if s.ans.length < s.shows.length then (s.shows.length : Int) else (s.ans.length : Int)) = (m : Int) ∧ Hid (m = max s.ans.length s.shows.length) := ⟨_, by split <;> omega, rfl⟩
  by_cases hmax : m ≤ 256
  · have h1 : s.ans.length ≤ 256 := by have := hm.out; omega
    have h2 : s.shows.length ≤ 256 := by have := hm.out; omega
    have hsz0 : (⟨#[]⟩ : ByteArray).size = 0 := rfl
    have z0 := M.out.resp
    have z1 := wText_size ⟨#[]⟩ s.resp
    have z2 := wInt_size (wText ⟨#[]⟩ s.resp) s.dept
    have z3 := wInt_size (wInt (wText ⟨#[]⟩ s.resp) s.dept) s.day
    go_upto_region 6 with fail
    go_cut [6] (fun v6 wx => v6 = .string (wInt (wInt (wText ⟨#[]⟩ s.resp) s.dept) s.day) ∧ Hid (Below w1.heap.size w1 wx))
    case first =>
      go_region_held3 (fun W => W.cell? ⟨w.heap.size, 0, none⟩ = some (.string s.resp) ∧ W.cell? ⟨w.heap.size, 1, none⟩ = some (.int .i64 s.dept) ∧ W.cell? ⟨w.heap.size, 2, none⟩ = some (.int .i64 s.day) ∧ W.cell? ⟨w.heap.size, 3, none⟩ = some (.slice A3 s.ans.length c3) ∧ W.cell? ⟨w.heap.size, 5, none⟩ = some (.slice A5 s.shows.length c5) ∧ Hid (Below w1.heap.size w1 W))
        (first | exact blkS K1.out Bc.out | exact blkS K1.out Bb.out | exact blkS K1.out Ba.out | exact blkS K1.out (Below.refl _ _).drew) (first
        | (go_at_call 41
           refine (puttext_any _ _ _ (by omega) (by omega)).mono ?_
           rintro e wx ⟨rfl, hbx⟩
           have Ba := Lib.hid (below_seq (Below.refl _ _).drew hbx)
           clear hbx)
        | (go_at_call 40
           refine (putint_any _ _ _ (by omega)).mono ?_
           rintro e wx ⟨rfl, hbx⟩
           first
             | have Bc := Lib.hid (below_seq Bb.out hbx)
             | have Bb := Lib.hid (below_seq Ba.out hbx)
           clear hbx))
      all_goals
        go_wp2_with fail
        go_meet
        exact ⟨rfl, Bc.out⟩
    obtain ⟨rfl, Bx⟩ := hcut
    have BB := Lib.hid (below_seq B1.out Bx.out)
    have KK := Lib.hid (K1.out.keep Bx.out)
    have q3 := KK.out.cell 3
    have q5 := KK.out.cell 5
    go_wp2_with fail
    refine (putint_any _ _ (s.ans.length : Int) (by omega)).mono ?_
    rintro e w2 ⟨rfl, hb2⟩
    have BB2 := Lib.hid (below_seq BB.out hb2)
    have KK2 := Lib.hid (KK.out.keep hb2)
    have hzz := hb2.size
    have hz0 : w.heap.size < wc.heap.size := KK.out.lt
    have hz2 : w.heap.size < w2.heap.size := Nat.lt_of_lt_of_le hz0 hzz
    clear hb2 q3 q5 BB KK Bx
    have q3 := KK2.out.cell 3
    go_wp2_with fail
    go_loopw [6, 47] (fun v6 v47 wr => ∃ k : Nat, k ≤ s.ans.length ∧ v47 = .int .i64 k ∧ v6 = .string ((s.ans.take k).foldl ansB (headB s)) ∧ w.heap.size < wr.heap.size ∧ Hid (Below w.heap.size w wr) ∧ Hid (Blk wr w.heap.size 33 #[.string s.resp, .int .i64 s.dept, .int .i64 s.day, .slice A3 s.ans.length c3, .slice A4 s.cond.length c4, .slice A5 s.shows.length c5])) (fun _ v47 _ => s.ans.length - (intOf v47).toNat)
    case atStart => exact ⟨0, Nat.zero_le _, rfl, rfl, hz2, BB2.out, KK2.out⟩
    case round =>
      obtain ⟨k, hk, rfl, rfl, hzr, BR, KR⟩ := hrel
      clear q3 z1 z2 z3 z0
      have zk := midAns_size M.out h1 k
      by_cases hlt : k < s.ans.length
      · obtain ⟨ad, rfl, _, e0, e1, e2⟩ := at_Answer (Kd.C_below G3.out BR.out) k hlt
        have hma := M.out.ans (s.ans.getD k zAnswer) (by rw [getD_lt _ hlt]; exact List.getElem_mem hlt)
        have htk := Lib.hid (take_snoc zAnswer hlt)
        generalize hx : s.ans.getD k zAnswer = x at e0 e1 e2 hma htk
        clear hx
        go_upto_region 11 with fail
        have K8 := Lib.hid (Blk.new wr 50 #[.string x.fld, .string x.txt, .int .i64 x.num])
        have B8 := Lib.hid (below_seq BR.out ((Below.refl wr.heap.size wr).alloc (Nat.le_refl _) (.cells #[.string x.fld, .string x.txt, .int .i64 x.num] 50)))
        have R8 := Lib.hid (KR.out.alloc (.cells #[.string x.fld, .string x.txt, .int .i64 x.num] 50))
        have hz8 : w.heap.size < (wr.alloc (.cells #[.string x.fld, .string x.txt, .int .i64 x.num] 50)).heap.size := by simp; omega
        generalize wr.alloc (.cells #[.string x.fld, .string x.txt, .int .i64 x.num] 50) = W8 at *
        generalize wr.heap.size = g8 at *
        generalize hacc : (s.ans.take k).foldl ansB (headB s) = acc at *
        have y1 := wText_size acc x.fld
        have y2 := wText_size (wText acc x.fld) x.txt
        clear e0 e1 e2
        go_region_held3 (fun W => W.cell? ⟨g8, 0, none⟩ = some (.string x.fld) ∧ W.cell? ⟨g8, 1, none⟩ = some (.string x.txt) ∧ W.cell? ⟨g8, 2, none⟩ = some (.int .i64 x.num) ∧ Hid (Below W8.heap.size W8 W))
          (first | exact blkS3 K8.out Bc.out | exact blkS3 K8.out Bb.out | exact blkS3 K8.out Ba.out | exact blkS3 K8.out (Below.refl _ _).drew) (first
          | (go_at_call 41
             refine (puttext_any _ _ _ (by omega) (by omega)).mono ?_
             rintro e wx ⟨rfl, hbx⟩
             first
               | have Bb := Lib.hid (below_seq Ba.out hbx)
               | have Ba := Lib.hid (below_seq (Below.refl _ _).drew hbx)
             clear hbx)
          | (go_at_call 40
             refine (putint_any _ _ _ (by omega)).mono ?_
             rintro e wx ⟨rfl, hbx⟩
             have Bc := Lib.hid (below_seq Bb.out hbx)
             clear hbx))
        all_goals
          have hzc := Nat.lt_of_lt_of_le hz8 Bc.out.size
          go_wp2_with fail
          go_roundw
          case rel => exact ⟨k + 1, by omega, by go_num, by rw [htk.out, List.foldl_append, hacc]; rfl, hzc, below_seq B8.out Bc.out, R8.out.keep Bc.out⟩
          case measure => simp [intOf]; omega
      · have hke : k = s.ans.length := by omega
        subst hke
        rw [List.take_length] at zk ⊢
        have KRh := Lib.hid KR.out
        generalize hacc : s.ans.foldl ansB (headB s) = acc at *
        have HA := Lib.hid hacc
        have y1 := wText_size acc text
        clear KK2 hacc
        go_upto_region 13 with fail
        go_region_held3 (fun W => W.cell? ⟨w.heap.size, 0, none⟩ = some (.string s.resp) ∧ W.cell? ⟨w.heap.size, 1, none⟩ = some (.int .i64 s.dept) ∧ W.cell? ⟨w.heap.size, 2, none⟩ = some (.int .i64 s.day) ∧ W.cell? ⟨w.heap.size, 3, none⟩ = some (.slice A3 s.ans.length c3) ∧ W.cell? ⟨w.heap.size, 5, none⟩ = some (.slice A5 s.shows.length c5) ∧ Hid (Below wr.heap.size wr W))
          (first | exact blkS KR.out Bb.out | exact blkS KR.out Ba.out | exact blkS KR.out (Below.refl _ _).drew) (first
          | (go_at_call 41
             refine (puttext_any _ _ _ (by omega) (by omega)).mono ?_
             rintro e wx ⟨rfl, hbx⟩
             have Ba := Lib.hid (below_seq (Below.refl _ _).drew hbx)
             clear hbx)
          | (go_at_call 40
             refine (putint_any _ _ _ (by omega)).mono ?_
             rintro e wx ⟨rfl, hbx⟩
             have Bb := Lib.hid (below_seq Ba.out hbx)
             clear hbx))
        all_goals
          have B13 := Lib.hid (below_seq BR.out Bb.out)
          have K13 := Lib.hid (KR.out.keep Bb.out)
          have hz13 : w.heap.size < wx.heap.size := K13.out.lt
          have q5 := K13.out.cell 5
          clear Ba Bb
          go_wp2_with fail
          have hmid : midB s text = wInt (wText acc text) (s.shows.length : Int) := by rw [midB, HA.out]
          have HM := Lib.hid hmid
          clear hmid y1 zk
          go_loopw [6, 72] (fun v6 v72 wz => ∃ k : Nat, k ≤ s.shows.length ∧ v72 = .int .i64 k ∧ v6 = .string ((s.shows.take k).foldl showB (midB s text)) ∧ w.heap.size < wz.heap.size ∧ Hid (Below w.heap.size w wz)) (fun _ v72 _ => s.shows.length - (intOf v72).toNat)
          case atStart => exact ⟨0, Nat.zero_le _, rfl, by rw [HM.out]; rfl, hz13, B13.out⟩
          case round =>
            obtain ⟨k, hk, rfl, rfl, hzz, BZ⟩ := hrel
            clear q5
            have zk := midShow_size (text := text) M.out h1 h2 ht k
            by_cases hlt2 : k < s.shows.length
            · obtain ⟨ad, rfl, _, e0, e1⟩ := at_Show_ (Kd.C_below G5.out BZ.out) k hlt2
              have hma := M.out.shows (s.shows.getD k zShow_) (by rw [getD_lt _ hlt2]; exact List.getElem_mem hlt2)
              have htk := Lib.hid (take_snoc zShow_ hlt2)
              generalize hx : s.shows.getD k zShow_ = x at e0 e1 hma htk
              clear hx
              go_upto_region 17 with fail
              have K8 := Lib.hid (Blk.new wr 47 #[.string x.fld, .string x.role])
              have B8 := Lib.hid (below_seq BZ.out ((Below.refl wr.heap.size wr).alloc (Nat.le_refl _) (.cells #[.string x.fld, .string x.role] 47)))
              have hz8 : w.heap.size < (wr.alloc (.cells #[.string x.fld, .string x.role] 47)).heap.size := by simp; omega
              generalize wr.alloc (.cells #[.string x.fld, .string x.role] 47) = W8 at *
              generalize wr.heap.size = g8 at *
              generalize hacc : (s.shows.take k).foldl showB (midB s text) = acc2 at *
              have y1 := wText_size acc2 x.fld
              clear e0 e1
              go_region_held3 (fun W => W.cell? ⟨g8, 0, none⟩ = some (.string x.fld) ∧ W.cell? ⟨g8, 1, none⟩ = some (.string x.role) ∧ Hid (Below W8.heap.size W8 W))
                (first | exact blkS2 K8.out Bb.out | exact blkS2 K8.out Ba.out | exact blkS2 K8.out (Below.refl _ _).drew) (first
                | (go_at_call 41
                   refine (puttext_any _ _ _ (by omega) (by omega)).mono ?_
                   rintro e wx ⟨rfl, hbx⟩
                   first
                     | have Bb := Lib.hid (below_seq Ba.out hbx)
                     | have Ba := Lib.hid (below_seq (Below.refl _ _).drew hbx)
                   clear hbx))
              have hzc := Nat.lt_of_lt_of_le hz8 Bb.out.size
              go_wp2_with fail
              go_roundw
              case rel => exact ⟨k + 1, by omega, by go_num, by rw [htk.out, List.foldl_append, hacc]; rfl, hzc, below_seq B8.out Bb.out⟩
              case measure => simp [intOf]; omega
            · have hke : k = s.shows.length := by omega
              subst hke
              rw [List.take_length]
              by_cases hsz : (stmtB s text).size ≤ 16384
              · have hsz' : (List.foldl showB (midB s text) s.shows).size ≤ 16384 := hsz
                go_wp2_with fail
                go_ret2
                refine ⟨BZ.out, ?_⟩
                rw [← HR.out, if_pos ⟨by have := hm.out; omega, hsz⟩]
                rfl
              · have hsz' : ¬ (List.foldl showB (midB s text) s.shows).size ≤ 16384 := hsz
                go_wp2_with fail
                go_ret2
                refine ⟨BZ.out, ?_⟩
                rw [← HR.out, if_neg (fun h => hsz h.2)]
                rfl
  · go_wp2_with fail
    go_ret2
    refine ⟨B1.out, ?_⟩
    rw [← HR.out, if_neg (fun h => hmax (by rw [hm.out]; exact h.1))]
    rfl
end Go.Proofs.YtmeipcnicfaojaaGreatDoor
