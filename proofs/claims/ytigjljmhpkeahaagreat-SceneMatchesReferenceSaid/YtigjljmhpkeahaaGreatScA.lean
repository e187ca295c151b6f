
/- Answers, scenes and said answers in memory. -/
import Derived.Test.YtigjljmhpkeahaaGreatRw
import Derived.Test.YtigjljmhpkeahaaGreatGv
import Derived.Test.YtigjljmhpkeahaaGreatScP
namespace Go.Proofs.YtigjljmhpkeahaaGreat
open Go.RowKit

def encA (a : An) : List Value := [.int .i64 a.au, .bool a.ls, .int .i64 a.ou, .int .i64 a.bk, .int .i64 a.lo, .int .i64 a.hi]
theorem encA_length (a : An) : (encA a).length = 6 := rfl
theorem encA_one (a : An) : ∀ u ∈ encA a, u.oneCell' = true := by
 intro u hu
 simp [encA] at hu
 rcases hu with rfl | rfl | rfl | rfl | rfl | rfl <;> rfl
def AnRow (w : World) (v : Value) (l : List An) : Prop := Rws encA 6 an0 w v l
def AnAt (w : World) (b o : Nat) (a : An) : Prop :=
 w.cell? ⟨b, o, none⟩ = some (.int .i64 a.au) ∧ w.cell? ⟨b, o + 1, none⟩ = some (.bool a.ls) ∧ w.cell? ⟨b, o + 2, none⟩ = some (.int .i64 a.ou) ∧ w.cell? ⟨b, o + 3, none⟩ = some (.int .i64 a.bk) ∧ w.cell? ⟨b, o + 4, none⟩ = some (.int .i64 a.lo) ∧ w.cell? ⟨b, o + 5, none⟩ = some (.int .i64 a.hi)
theorem AnAt.el {w : World} {b o : Nat} {a : An} (h : ElAt encA w b o a) : AnAt w b o a := ⟨h 0 _ rfl, h 1 _ rfl, h 2 _ rfl, h 3 _ rfl, h 4 _ rfl, h 5 _ rfl⟩
theorem AnRow.below {w w' : World} {v : Value} {l : List An} (h : AnRow w v l) {B : Nat} (hB : w.heap.size ≤ B) (hb : Below B w w') : AnRow w' v l := Rws.below h hB hb
theorem AnRow.len {w : World} {v : Value} {l : List An} (h : AnRow w v l) : ∃ a cap, v = .slice a l.length cap ∧ l.length ≤ cap ∧ cap ≤ 9223372036854775807 := Rws.len h
theorem AnRow.at0 {w : World} {v : Value} {l : List An} (h : AnRow w v l) (hl : 0 < l.length) : ∃ b off cap, v = .slice (some ⟨b, off, none⟩) l.length cap ∧ l.length ≤ cap ∧ cap ≤ 9223372036854775807 ∧ b < w.heap.size ∧ ∀ i, i < l.length → AnAt w b (off + i * 6) (anAt l i) := by
 obtain ⟨b, off, cap, h1, h2, h3, h4, h5⟩ := Rws.at0 h hl
 exact ⟨b, off, cap, h1, h2, h3, h4, fun i hi => AnAt.el (h5 i hi)⟩
def OwnAn (w : World) (base : Nat) (v : Value) (c : List An) : Prop := Owns 59 encA 6 w base v c
theorem OwnAn.row {w : World} {base : Nat} {v : Value} {c : List An} (h : OwnAn w base v c) : AnRow w v c := Owns.row encA_length an0 (by omega) h
theorem OwnAn.nil (w : World) (base : Nat) : OwnAn w base (.slice none 0 0) [] := Owns.nil w base
theorem OwnAn.val {w : World} {base : Nat} {v : Value} {c : List An} (h : OwnAn w base v c) : ∃ a cap, v = .slice a c.length cap ∧ c.length ≤ cap ∧ cap ≤ 9223372036854775807 := Owns.val h
theorem OwnAn.app {w : World} {base : Nat} {v : Value} {c : List An} {a : An} (h : w.ownsRow base 59 6 v (c.length + 1) (c.flatMap encA ++ encA a)) : OwnAn w base v (c ++ [a]) := Owns.app h
theorem infoAn : (Tryz.prog.info? 59).map (fun i => (i.zero, i.size, i.bytes)) = some (some (.agg #[.int .i64 0, .bool false, .int .i64 0, .int .i64 0, .int .i64 0, .int .i64 0]), 6, 48) := by kernel_rfl
structure Sd where
 a : An
 p : Pr
 t : Int
def sd0 : Sd := ⟨an0, pr0, 0⟩
def sdAt (l : List Sd) (i : Nat) : Sd := l.getD i sd0
def encS (s : Sd) : List Value := [.int .i64 s.a.au, .bool s.a.ls, .int .i64 s.a.ou, .int .i64 s.a.bk, .int .i64 s.a.lo, .int .i64 s.a.hi, .int .i64 s.p.au, .int .i64 s.p.er, .int .i64 s.p.co, .int .i64 s.p.at_, .int .i64 s.p.ol, .int .i64 s.p.oh, .int .i64 s.p.bl, .int .i64 s.p.bh, .int .i64 s.t]
theorem encS_length (a : Sd) : (encS a).length = 15 := rfl
theorem encS_one (a : Sd) : ∀ u ∈ encS a, u.oneCell' = true := by
 intro u hu
 simp [encS] at hu
 rcases hu with rfl | rfl | rfl | rfl | rfl | rfl | rfl | rfl | rfl | rfl | rfl | rfl | rfl | rfl | rfl <;> rfl
def SdAt (w : World) (b o : Nat) (s : Sd) : Prop :=
 (w.cell? ⟨b, o, none⟩ = some (.int .i64 s.a.au) ∧ w.cell? ⟨b, o + 1, none⟩ = some (.bool s.a.ls) ∧ w.cell? ⟨b, o + 2, none⟩ = some (.int .i64 s.a.ou) ∧ w.cell? ⟨b, o + 3, none⟩ = some (.int .i64 s.a.bk) ∧ w.cell? ⟨b, o + 4, none⟩ = some (.int .i64 s.a.lo) ∧ w.cell? ⟨b, o + 5, none⟩ = some (.int .i64 s.a.hi)) ∧
 (w.cell? ⟨b, o + 6, none⟩ = some (.int .i64 s.p.au) ∧ w.cell? ⟨b, o + 7, none⟩ = some (.int .i64 s.p.er) ∧ w.cell? ⟨b, o + 8, none⟩ = some (.int .i64 s.p.co) ∧ w.cell? ⟨b, o + 9, none⟩ = some (.int .i64 s.p.at_) ∧ w.cell? ⟨b, o + 10, none⟩ = some (.int .i64 s.p.ol) ∧ w.cell? ⟨b, o + 11, none⟩ = some (.int .i64 s.p.oh) ∧ w.cell? ⟨b, o + 12, none⟩ = some (.int .i64 s.p.bl) ∧ w.cell? ⟨b, o + 13, none⟩ = some (.int .i64 s.p.bh)) ∧ w.cell? ⟨b, o + 14, none⟩ = some (.int .i64 s.t)
theorem SdAt.el {w : World} {b o : Nat} {a : Sd} (h : ElAt encS w b o a) : SdAt w b o a :=
 ⟨⟨h 0 _ rfl, h 1 _ rfl, h 2 _ rfl, h 3 _ rfl, h 4 _ rfl, h 5 _ rfl⟩, ⟨h 6 _ rfl, h 7 _ rfl, h 8 _ rfl, h 9 _ rfl, h 10 _ rfl, h 11 _ rfl, h 12 _ rfl, h 13 _ rfl⟩, h 14 _ rfl⟩
def SdRow (w : World) (v : Value) (l : List Sd) : Prop := Rws encS 15 sd0 w v l
theorem SdRow.below {w w' : World} {v : Value} {l : List Sd} (h : SdRow w v l) {B : Nat} (hB : w.heap.size ≤ B) (hb : Below B w w') : SdRow w' v l := Rws.below h hB hb
theorem SdRow.len {w : World} {v : Value} {l : List Sd} (h : SdRow w v l) : ∃ a cap, v = .slice a l.length cap ∧ l.length ≤ cap ∧ cap ≤ 9223372036854775807 := Rws.len h
theorem SdRow.at0 {w : World} {v : Value} {l : List Sd} (h : SdRow w v l) (hl : 0 < l.length) : ∃ b off cap, v = .slice (some ⟨b, off, none⟩) l.length cap ∧ l.length ≤ cap ∧ cap ≤ 9223372036854775807 ∧ b < w.heap.size ∧ ∀ i, i < l.length → SdAt w b (off + i * 15) (sdAt l i) := by
 obtain ⟨b, off, cap, h1, h2, h3, h4, h5⟩ := Rws.at0 h hl
 exact ⟨b, off, cap, h1, h2, h3, h4, fun i hi => SdAt.el (h5 i hi)⟩
def OwnSd (w : World) (base : Nat) (v : Value) (c : List Sd) : Prop := Owns 88 encS 15 w base v c
theorem OwnSd.row {w : World} {base : Nat} {v : Value} {c : List Sd} (h : OwnSd w base v c) : SdRow w v c := Owns.row encS_length sd0 (by omega) h
theorem OwnSd.nil (w : World) (base : Nat) : OwnSd w base (.slice none 0 0) [] := Owns.nil w base
theorem OwnSd.val {w : World} {base : Nat} {v : Value} {c : List Sd} (h : OwnSd w base v c) : ∃ a cap, v = .slice a c.length cap ∧ c.length ≤ cap ∧ cap ≤ 9223372036854775807 := Owns.val h
theorem OwnSd.app {w : World} {base : Nat} {v : Value} {c : List Sd} {a : Sd} (h : w.ownsRow base 88 15 v (c.length + 1) (c.flatMap encS ++ encS a)) : OwnSd w base v (c ++ [a]) := Owns.app h
theorem infoSd : (Tryz.prog.info? 88).map (fun i => (i.zero, i.size, i.bytes)) = some (some (.agg #[.int .i64 0, .bool false, .int .i64 0, .int .i64 0, .int .i64 0, .int .i64 0, .int .i64 0, .int .i64 0, .int .i64 0, .int .i64 0, .int .i64 0, .int .i64 0, .int .i64 0, .int .i64 0, .int .i64 0]), 15, 120) := by kernel_rfl
def valA (a : An) : Value := .agg #[.int .i64 a.au, .bool a.ls, .int .i64 a.ou, .int .i64 a.bk, .int .i64 a.lo, .int .i64 a.hi]
def valS (s : Sd) : Value := .agg #[.int .i64 s.a.au, .bool s.a.ls, .int .i64 s.a.ou, .int .i64 s.a.bk, .int .i64 s.a.lo, .int .i64 s.a.hi, .int .i64 s.p.au, .int .i64 s.p.er, .int .i64 s.p.co, .int .i64 s.p.at_, .int .i64 s.p.ol, .int .i64 s.p.oh, .int .i64 s.p.bl, .int .i64 s.p.bh, .int .i64 s.t]
set_option maxRecDepth 100000 in
set_option maxHeartbeats 400000 in
theorem scWithin_any (n lo hi : Int) (w : World) : Calls Tryz.prog 31 #[.int .i64 n, .int .i64 lo, .int .i64 hi] w fun e w' => e = .returned (.bool (inB n lo hi)) ∧ w = w' := by
 go_enter Tryz.func31, Tryz.ntmps31
 go_wp2
 all_goals go_ret
 all_goals exact ⟨ret_bool (by unfold inB; rw [Bool.eq_iff_iff]; simp only [decide_eq_true_eq, Bool.false_eq_true, false_iff]; omega), rfl⟩
set_option maxRecDepth 100000 in
set_option maxHeartbeats 400000 in
theorem R32time_any (n : Int) (w : World) : Calls Tryz.prog 41 #[.int .i64 n] w fun e w' => e = .returned (.bool (timeB n)) ∧ w = w' := by
 go_enter Tryz.func41, Tryz.ntmps41
 go_wp2
 all_goals go_ret
 all_goals exact ⟨ret_bool (by unfold timeB; rw [Bool.eq_iff_iff]; simp only [decide_eq_true_eq, Bool.false_eq_true, false_iff]; omega), rfl⟩
set_option maxRecDepth 100000 in
set_option maxHeartbeats 400000 in
theorem R32delay_any (n : Int) (w : World) : Calls Tryz.prog 117 #[.int .i64 n] w fun e w' => e = .returned (.bool (inB n 0 1000000)) ∧ w = w' := by
 go_enter Tryz.func117, Tryz.ntmps117
 go_wp2
 all_goals go_ret
 all_goals exact ⟨ret_bool (by unfold inB; rw [Bool.eq_iff_iff]; simp only [decide_eq_true_eq, Bool.false_eq_true, false_iff]; omega), rfl⟩
end Go.Proofs.YtigjljmhpkeahaaGreat
