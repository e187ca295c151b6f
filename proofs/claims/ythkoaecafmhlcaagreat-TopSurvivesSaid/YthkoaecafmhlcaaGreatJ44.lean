/- Parts TuL TuM of the proof, joined. -/
import Derived.Test.YthkoaecafmhlcaaGreatTuK
import Derived.Test.YthkoaecafmhlcaaGreatTuJ
import Derived.Test.YthkoaecafmhlcaaGreatJ04
import Derived.Test.YthkoaecafmhlcaaGreatJ02
/- TopSurvives in plain: sizes of three copies, who leads on, what stands while the copies are gathered. -/
namespace Go.Proofs.YthkoaecafmhlcaaGreat
open Go.RowKit
theorem med_le (a b c : Int) : iAt (srtI [a, b, c]) 1 ≤ mx a b ∧ iAt (srtI [a, b, c]) 1 ≤ mx a c ∧ iAt (srtI [a, b, c]) 1 ≤ mx b c := by
 have hp : (srtI [a, b, c]).Perm [a, b, c] := List.mergeSort_perm _ _
 have hs : (srtI [a, b, c]).Pairwise (fun x y => decide (x ≤ y) = true) := List.pairwise_mergeSort (le := fun x y => decide (x ≤ y)) (fun x y z h1 h2 => by simp at *; omega) (fun x y => by simp; omega) _
 have hl : (srtI [a, b, c]).length = 3 := srtI_length _
 match h : srtI [a, b, c], hl with
 | [x, y, z], _ =>
  rw [h] at hp hs
  simp only [List.pairwise_cons, List.mem_cons, List.not_mem_nil, or_false, decide_eq_true_eq] at hs
  have h1 : x ≤ y := hs.1 y (.inl rfl)
  have h2 : y ≤ z := hs.2.1 z rfl
  show y ≤ _ ∧ y ≤ _ ∧ y ≤ _
  have hc := hp.countP_eq (fun t => decide (t < y))
  simp only [List.countP_cons, List.countP_nil] at hc
  have e1 : decide (y < y) = false := decide_eq_false (by omega)
  have e2 : decide (z < y) = false := decide_eq_false (by omega)
  rw [e1, e2] at hc
  have ha := mx_spec a b
  have hb := mx_spec a c
  have hd := mx_spec b c
  have hx : (if decide (x < y) = true then 1 else 0) ≤ 1 := by split <;> omega
  refine ⟨Int.not_lt.1 fun hh => ?_, Int.not_lt.1 fun hh => ?_, Int.not_lt.1 fun hh => ?_⟩
  ·rw [decide_eq_true (show a < y by omega), decide_eq_true (show b < y by omega)] at hc
   simp only [Bool.false_eq_true, if_false, if_true] at hc hx
   omega
  ·rw [decide_eq_true (show a < y by omega), decide_eq_true (show c < y by omega)] at hc
   simp only [Bool.false_eq_true, if_false, if_true] at hc hx
   omega
  ·rw [decide_eq_true (show b < y by omega), decide_eq_true (show c < y by omega)] at hc
   simp only [Bool.false_eq_true, if_false, if_true] at hc hx
   omega
theorem topTs_lt {D : List Tx} (h : GoodD D) {k : Nat} (hk : k < D.length) : topTs (D.take k) < (txAt D k).ts := by
 cases k with
 | zero =>
  have := (h.2 _ (txAt_mem hk)).2
  show (0 : Int) < _
  omega
 | succ k =>
  rw [List.take_succ_eq_append_getElem (show k < D.length by omega), topTs_snoc, txAt_lt hk]
  exact List.pairwise_iff_getElem.1 h.1 k (k + 1) (by omega) hk (by omega)
def cps (D : List Tx) (js : List Nat) : List Cp := (List.range js.length).map fun (i : Nat) => (⟨(i : Int) + 1, D.take (js.getD i 0)⟩ : Cp)
theorem cps_length (D : List Tx) (js : List Nat) : (cps D js).length = js.length := by simp [cps]
theorem cps_snoc (D : List Tx) (js : List Nat) (j : Nat) : cps D (js ++ [j]) = cps D js ++ [⟨(js.length : Int) + 1, D.take j⟩] := by
 unfold cps
 rw [List.length_append, List.length_singleton, List.range_succ, List.map_append, List.map_singleton]
 congr 1
 ·refine List.map_congr_left fun i hi => ?_
  have hi := List.mem_range.1 hi
  simp [List.getD_eq_getElem?_getD, List.getElem?_append_left hi]
 ·simp [List.getD_eq_getElem?_getD]
theorem cps_at (D : List Tx) (js : List Nat) {i : Nat} (hi : i < js.length) : cpAt (cps D js) i = ⟨(i : Int) + 1, D.take (js.getD i 0)⟩ := by
 rw [cpAt_lt (by rw [cps_length]; exact hi)]
 simp [cps]
def prt (P : Nat → Value) (js : List Nat) : List Value := (List.range 3).map fun i => if i < js.length then P (js.getD i 0) else .slice none 0 0
theorem prt_at (P : Nat → Value) (js : List Nat) {i : Nat} (hi : i < js.length) (h3 : i < 3) : (prt P js)[i]? = some (P (js.getD i 0)) := by
 simp [prt, h3, hi]
theorem prt_none (P : Nat → Value) (js : List Nat) {i : Nat} (hi : js.length ≤ i) (h3 : i < 3) : (prt P js)[i]? = some (.slice none 0 0) := by
 simp [prt, h3, show ¬ i < js.length by omega]
theorem prt_length (P : Nat → Value) (js : List Nat) : (prt P js).length = 3 := by simp [prt]
theorem prt_set (P : Nat → Value) (js : List Nat) (j : Nat) (_h : js.length < 3) : (prt P js).set js.length (P j) = prt P (js ++ [j]) := by
 refine List.ext_getElem? fun i => ?_
 by_cases h3 : i < 3
 ·rcases Nat.lt_trichotomy i js.length with h1 | rfl | h1
  ·rw [List.getElem?_set_ne (by omega), prt_at P js h1 h3, prt_at P (js ++ [j]) (by simp; omega) h3]
   simp [List.getD_eq_getElem?_getD, List.getElem?_append_left h1]
  ·rw [List.getElem?_set_self (by rw [prt_length]; exact h3), prt_at P (js ++ [j]) (by simp) h3]
   simp [List.getD_eq_getElem?_getD]
  ·rw [List.getElem?_set_ne (by omega), prt_none P js (by omega) h3, prt_none P (js ++ [j]) (by simp; omega) h3]
 ·rw [List.getElem?_eq_none (by rw [List.length_set, prt_length]; omega), List.getElem?_eq_none (by rw [prt_length]; omega)]
theorem cps_ok {D : List Tx} (hG : GoodD D) (hD : D.length ≤ 12) (js : List Nat) (h3 : js.length = 3) (hj : ∀ j, j ∈ js → j ≤ D.length) : CpOk (cps D js) D := by
 have hm : ∀ i, i < js.length → js.getD i 0 ≤ D.length := fun i hi => hj _ (by simp [List.getD_eq_getElem?_getD, List.getElem?_eq_getElem hi])
 refine ⟨by rw [cps_length]; omega, fun i hi => ?_, fun i hi => ?_, fun i hi => ?_, hG, by omega⟩
 ·rw [cps_length] at hi
  rw [cps_at D js hi]
  refine ⟨by show (1 : Int) ≤ (i : Int) + 1; omega, fun h0 => ?_⟩
  rw [cps_at D js (show i - 1 < js.length by omega)]
  show ((i - 1 : Nat) : Int) + 1 < (i : Int) + 1
  omega
 ·rw [cps_length] at hi
  rw [cps_at D js hi]
  show (i : Int) + 1 ≤ 64
  omega
 ·rw [cps_length] at hi
  rw [cps_at D js hi]
  have h1 := hm i hi
  show D.take (D.take (js.getD i 0)).length = D.take (js.getD i 0) ∧ (D.take (js.getD i 0)).length ≤ D.length
  rw [List.length_take, Nat.min_eq_left h1]
  exact ⟨rfl, h1⟩
def alv (r k : Nat) : List Int := ((List.range k).filter fun n => decide (n ≠ r)).map fun (n : Nat) => (n : Int) + 1
theorem alv_succ (r k : Nat) : alv r (k + 1) = if k = r then alv r k else alv r k ++ [(k : Int) + 1] := by
 unfold alv
 rw [List.range_succ, List.filter_append, List.map_append]
 by_cases h : k = r
 ·rw [if_pos h]
  simp [h]
 ·rw [if_neg h]
  simp [h]
theorem alv_len (r k : Nat) : (alv r k).length ≤ k := by
 unfold alv
 rw [List.length_map]
 exact Nat.le_trans (List.length_filter_le _ _) (by simp)
theorem elect_plain {D : List Tx} (js : List Nat) (h3 : js.length = 3) (r : Nat) (hr : r < 3) : ∃ ix iy e, ix < iy ∧ iy < 3 ∧ alv r 3 = [(cpAt (cps D js) ix).id, (cpAt (cps D js) iy).id] ∧ e < 3 ∧ e ≠ r ∧ elW (cpAt (cps D js) ix) (cpAt (cps D js) iy) = (e : Int) + 1 ∧
  iAt (srtI (szC (cps D js))) 1 ≤ ((D.take (js.getD e 0)).length : Int) := by
 have hsz : szC (cps D js) = [((D.take (js.getD 0 0)).length : Int), ((D.take (js.getD 1 0)).length : Int), ((D.take (js.getD 2 0)).length : Int)] := by
  match js, h3 with
  | [a, b, c], _ => rfl
 obtain ⟨m1, m2, m3⟩ := med_le ((D.take (js.getD 0 0)).length : Int) ((D.take (js.getD 1 0)).length : Int) ((D.take (js.getD 2 0)).length : Int)
 rw [← hsz] at m1 m2 m3
 have key : ∀ ix iy : Nat, ix < 3 → iy < 3 → ix ≠ r → iy ≠ r → iAt (srtI (szC (cps D js))) 1 ≤ mx ((D.take (js.getD ix 0)).length : Int) ((D.take (js.getD iy 0)).length : Int) → ∃ e, e < 3 ∧ e ≠ r ∧ elW (cpAt (cps D js) ix) (cpAt (cps D js) iy) = (e : Int) + 1 ∧ iAt (srtI (szC (cps D js))) 1 ≤ ((D.take (js.getD e 0)).length : Int) := by
  intro ix iy h1 h2 n1 n2 hm
  rw [cps_at D js (by omega), cps_at D js (by omega)]
  unfold elW
  dsimp only
  by_cases hc : (D.take (js.getD ix 0)).length < (D.take (js.getD iy 0)).length
  ·refine ⟨iy, h2, n2, by rw [if_pos hc], ?_⟩
   unfold mx at hm
   rw [if_pos (by omega)] at hm
   exact hm
  ·refine ⟨ix, h1, n1, by rw [if_neg hc], ?_⟩
   unfold mx at hm
   rw [if_neg (by omega)] at hm
   exact hm
 have hid : ∀ i : Nat, i < 3 → (cpAt (cps D js) i).id = (i : Int) + 1 := fun i hi => by rw [cps_at D js (by omega)]
 match r, hr with
 | 0, _ =>
  obtain ⟨e, h1, h2, h4, h5⟩ := key 1 2 (by omega) (by omega) (by omega) (by omega) m3
  exact ⟨1, 2, e, by omega, by omega, by rw [hid 1 (by omega), hid 2 (by omega)]; rfl, h1, h2, h4, h5⟩
 | 1, _ =>
  obtain ⟨e, h1, h2, h4, h5⟩ := key 0 2 (by omega) (by omega) (by omega) (by omega) m2
  exact ⟨0, 2, e, by omega, by omega, by rw [hid 0 (by omega), hid 2 (by omega)]; rfl, h1, h2, h4, h5⟩
 | 2, _ =>
  obtain ⟨e, h1, h2, h4, h5⟩ := key 0 1 (by omega) (by omega) (by omega) (by omega) m1
  exact ⟨0, 1, e, by omega, by omega, by rw [hid 0 (by omega), hid 1 (by omega)]; rfl, h1, h2, h4, h5⟩
def OwnCp (w : World) (base : Nat) (v : Value) (l : List Cp) : Prop := ∃ xs : List Cv, xs.map (·.c) = l ∧ Owns 52 encC 2 w base v xs ∧ ∀ x, x ∈ xs → OwnTx w base x.lv x.c.log
theorem OwnCp.nil (w : World) (base : Nat) : OwnCp w base (.slice none 0 0) [] := ⟨[], rfl, Owns.nil w base, fun x hx => by simp at hx⟩
theorem OwnCp.row {w : World} {base : Nat} {v : Value} {l : List Cp} (h : OwnCp w base v l) : CpR w v l := by
 obtain ⟨xs, h1, h2, h3⟩ := h
 exact ⟨xs, h1, h2.row encC_length cv0 (by omega), fun x hx => (h3 x hx).ty.row⟩
theorem OwnCp.same {w w' : World} {base : Nat} {v : Value} {l : List Cp} (h : OwnCp w base v l) (hz : w.heap.size ≤ w'.heap.size) (hb : ∀ q, base ≤ q → q < w.heap.size → w'.heap[q]? = w.heap[q]?) : OwnCp w' base v l := by
 obtain ⟨xs, h1, h2, h3⟩ := h
 have hl := World.ownsRow.lt h2
 exact ⟨xs, h1, owns_same h2 fun k hk => hb k (hl k hk).1 (hl k hk).2, fun x hx => (h3 x hx).same hz hb⟩
theorem OwnCp.below {w w' : World} {base : Nat} {v : Value} {l : List Cp} (h : OwnCp w base v l) (b : Below w.heap.size w w') : OwnCp w' base v l := h.same b.size fun q _ hq => b.block q hq
theorem OwnCp.set {w : World} {base : Nat} {v : Value} {l : List Cp} (h : OwnCp w base v l) {p : Addr} (hp : p.block < base) (u : Value) : OwnCp (w.setCell p u) base v l :=
 h.same (by simp [World.setCell]) fun q hq _ => Below.heap_setCell _ _ _ q (by omega)
theorem OwnCp.push {w5 w6 : World} {base : Nat} {v v6 : Value} {xs : List Cv} {x : Cv} {tmp : Obj} (h2 : Owns 52 encC 2 w5 base v xs) (h3 : ∀ y, y ∈ xs → OwnTx w5 base y.lv y.c.log) (hx : OwnTx w5 base x.lv x.c.log)
  (hg : (w5.alloc tmp).grownBy w6 v.ownBlock) (hown : w6.ownsRow base 52 2 v6 (xs.length + 1) (xs.flatMap encC ++ encC x)) : OwnCp w6 base v6 (xs.map (·.c) ++ [x.c]) := by
 have k1 : KT 52 w5 (w5.alloc tmp) := KT.below (Below.alloc (Below.refl _ _) (Nat.le_refl _) _) (Nat.le_refl _)
 have k2 : KT 52 (w5.alloc tmp) w6 := KT.grown hg fun q hq => by
  obtain ⟨c, fz, hc⟩ := owns_block h2 q hq
  exact ⟨c, fz, (Below.heap_alloc _ _ _ (Array.getElem?_eq_some_iff.1 hc).1).trans hc⟩
 have k := k1.trans k2
 refine ⟨xs ++ [x], by simp, Owns.app hown, fun y hy => ?_⟩
 rw [List.mem_append, List.mem_singleton] at hy
 rcases hy with hy | rfl
 ·exact (h3 y hy).kt k (by decide) (by decide) (by decide)
 ·exact hx.kt k (by decide) (by decide) (by decide)
theorem infoCp : (Tryz.prog.info? 52).map (fun i => (i.zero, i.size, i.bytes)) = some (some (.agg #[.int .i64 0, .slice none 0 0]), 2, 32) := by kernel_rfl
theorem index_a3_0 (c0 c1 c2 : Int) (w : World) : (Instr.index 24 (.agg #[.int .u16 c0, .int .u16 c1, .int .u16 c2]) (.int .i64 ((0 : Nat) : Int))).run Tryz.prog w = .ok (.int .u16 c0) w := by
 kernel_rfl
theorem index_a3_1 (c0 c1 c2 : Int) (w : World) : (Instr.index 24 (.agg #[.int .u16 c0, .int .u16 c1, .int .u16 c2]) (.int .i64 ((1 : Nat) : Int))).run Tryz.prog w = .ok (.int .u16 c1) w := by
 kernel_rfl
theorem index_a3_2 (c0 c1 c2 : Int) (w : World) : (Instr.index 24 (.agg #[.int .u16 c0, .int .u16 c1, .int .u16 c2]) (.int .i64 ((2 : Nat) : Int))).run Tryz.prog w = .ok (.int .u16 c2) w := by
 kernel_rfl
theorem index_a3 (c0 c1 c2 : Int) (k : Nat) (hk : k < 3) (w : World) : (Instr.index 24 (.agg #[.int .u16 c0, .int .u16 c1, .int .u16 c2]) (.int .i64 k)).run Tryz.prog w = .ok (.int .u16 ([c0, c1, c2].getD k 0)) w := by
 have h : k = 0 ∨ k = 1 ∨ k = 2 := by omega
 rcases h with h | h | h
 ·rw [h]; exact index_a3_0 c0 c1 c2 w
 ·rw [h]; exact index_a3_1 c0 c1 c2 w
 ·rw [h]; exact index_a3_2 c0 c1 c2 w
end Go.Proofs.YthkoaecafmhlcaaGreat
/- The law's arguments: deeds, a deed by value, three numbers. -/
namespace Go.Proofs.YthkoaecafmhlcaaGreat
open Go.ChangeShapes Go.WideShapes Go.ChangeAt Go.RowKit Go.Joins Go.Deep
def IsN (k : IntKind) (m : Int) (v : Value) : Prop := ∃ n : Int, v = .int k n ∧ 0 ≤ n ∧ n ≤ m
section
variable {H : Type} {enc : TypeId × Value → H} {W : World} {base : Nat}
theorem CellP.u16 {t : TypeId} {P : Program} {w : World} {b0 : Nat} {spare : Nat → Bool} {held : Bool} (ht : P.underlying t = some (.int .u16)) : CellP enc P w b0 spare held t 0 (IsN .u16 65535) := by
 intro fuel cs x h
 obtain ⟨n, rfl, _, hw⟩ := DataW.trod_int ht h
 exact ⟨_, rfl, n, rfl, by simpa [Lit.wf, IntKind.min, IntKind.max, IntKind.signed, IntKind.bits] using hw⟩
theorem CellP.u32 {t : TypeId} {P : Program} {w : World} {b0 : Nat} {spare : Nat → Bool} {held : Bool} (ht : P.underlying t = some (.int .u32)) : CellP enc P w b0 spare held t 0 (IsN .u32 4294967295) := by
 intro fuel cs x h
 obtain ⟨n, rfl, _, hw⟩ := DataW.trod_int ht h
 exact ⟨_, rfl, n, rfl, by simpa [Lit.wf, IntKind.min, IntKind.max, IntKind.signed, IntKind.bits] using hw⟩
set_option maxRecDepth 100000 in
theorem cells_Sn : CellP enc Tryz.prog W 0 (fun _ => true) true 25 0 fun v => ∃ l, SRow W v l := by
 have c1 : CellP enc Tryz.prog W 0 (fun _ => true) true 3 0 IsI64 := CellP.int Tryz.underlying3
 have k0 := CellP.field Tryz.underlying113 0 _ rfl (of_decide_eq_true (by kernel_rfl)) c1
 have k1 := CellP.field Tryz.underlying113 1 _ rfl (of_decide_eq_true (by kernel_rfl)) c1
 have h := CellP.rows (enc := enc) (P := Tryz.prog) (w := W) (base := 0) (spare := fun _ => true) (held := true) encS (0, 0) (fun _ => True) (fun _ => IsI64) Tryz.underlying25 (by kernel_rfl) (by omega) (fun j hj => by
  rcases (show j = 0 ∨ j = 1 by omega) with rfl | rfl
  ·exact k0
  ·exact k1) encS_length fun G hG => by
  obtain ⟨n0, e0, -⟩ := hG 0 (by omega)
  obtain ⟨n1, e1, -⟩ := hG 1 (by omega)
  refine ⟨(n0, n1), fun j hj => ?_, trivial⟩
  rcases (show j = 0 ∨ j = 1 by omega) with rfl | rfl
  ·rw [e0]; rfl
  ·rw [e1]; rfl
 intro fuel cs x hx
 obtain ⟨v, hv, l, h1, -⟩ := h fuel cs x hx
 exact ⟨v, hv, l, h1⟩
set_option maxRecDepth 100000 in
theorem cells_Wr : CellP enc Tryz.prog W 0 (fun _ => true) true 26 0 fun v => ∃ l, WRow W v l := by
 have c1 : CellP enc Tryz.prog W 0 (fun _ => true) true 3 0 IsI64 := CellP.int Tryz.underlying3
 have c2 : CellP enc Tryz.prog W 0 (fun _ => true) true 4 0 IsBl := CellP.bool Tryz.underlying4
 have k0 := CellP.field Tryz.underlying74 0 _ rfl (of_decide_eq_true (by kernel_rfl)) c1
 have k1 := CellP.field Tryz.underlying74 1 _ rfl (of_decide_eq_true (by kernel_rfl)) c1
 have k2 := CellP.field Tryz.underlying74 2 _ rfl (of_decide_eq_true (by kernel_rfl)) c2
 have h := CellP.rows (enc := enc) (P := Tryz.prog) (w := W) (base := 0) (spare := fun _ => true) (held := true) encW wr0 (fun _ => True) (fun j => if j = 2 then IsBl else IsI64) Tryz.underlying26 (by kernel_rfl) (by omega) (fun j hj => by
  rcases (show j = 0 ∨ j = 1 ∨ j = 2 by omega) with rfl | rfl | rfl
  ·exact k0
  ·exact k1
  ·exact k2) encW_length fun G hG => by
  obtain ⟨n0, e0, -⟩ := hG 0 (by omega)
  obtain ⟨n1, e1, -⟩ := hG 1 (by omega)
  obtain ⟨b2, e2⟩ := hG 2 (by omega)
  refine ⟨⟨n0, n1, b2⟩, fun j hj => ?_, trivial⟩
  rcases (show j = 0 ∨ j = 1 ∨ j = 2 by omega) with rfl | rfl | rfl
  ·rw [e0]; rfl
  ·rw [e1]; rfl
  ·rw [e2]; rfl
 intro fuel cs x hx
 obtain ⟨v, hv, l, h1, -⟩ := h fuel cs x hx
 exact ⟨v, hv, l, h1⟩
def phD (W : World) (j : Nat) (v : Value) : Prop := if j = 2 then (∃ l, SRow W v l) else if j = 3 then (∃ l, WRow W v l) else if j = 4 then IsN .u32 4294967295 v else if j = 5 then IsN .u16 65535 v else if j = 6 then IsN .u16 65535 v else if j = 7 then IsBl v else IsI64 v
set_option maxRecDepth 100000 in
theorem cellsD : ∀ j, j < 8 → CellP enc Tryz.prog W 0 (fun _ => true) true 31 j (phD W j) := by
 have c1 : CellP enc Tryz.prog W 0 (fun _ => true) true 3 0 IsI64 := CellP.int Tryz.underlying3
 have c2 : CellP enc Tryz.prog W 0 (fun _ => true) true 4 0 IsBl := CellP.bool Tryz.underlying4
 have c3 : CellP enc Tryz.prog W 0 (fun _ => true) true 29 0 (IsN .u32 4294967295) := CellP.u32 Tryz.underlying29
 have c4 : CellP enc Tryz.prog W 0 (fun _ => true) true 23 0 (IsN .u16 65535) := CellP.u16 Tryz.underlying23
 have t0 := CellP.field Tryz.underlying28 0 _ rfl (of_decide_eq_true (by kernel_rfl)) c1
 have t1 := CellP.field Tryz.underlying28 1 _ rfl (of_decide_eq_true (by kernel_rfl)) c1
 have t2 := CellP.field Tryz.underlying28 2 _ rfl (of_decide_eq_true (by kernel_rfl)) (cells_Sn (enc := enc) (W := W))
 have t3 := CellP.field Tryz.underlying28 3 _ rfl (of_decide_eq_true (by kernel_rfl)) (cells_Wr (enc := enc) (W := W))
 have k0 := CellP.field Tryz.underlying31 0 _ rfl (of_decide_eq_true (by kernel_rfl)) t0
 have k1 := CellP.field Tryz.underlying31 0 _ rfl (of_decide_eq_true (by kernel_rfl)) t1
 have k2 := CellP.field Tryz.underlying31 0 _ rfl (of_decide_eq_true (by kernel_rfl)) t2
 have k3 := CellP.field Tryz.underlying31 0 _ rfl (of_decide_eq_true (by kernel_rfl)) t3
 have k4 := CellP.field Tryz.underlying31 1 _ rfl (of_decide_eq_true (by kernel_rfl)) c3
 have k5 := CellP.field Tryz.underlying31 2 _ rfl (of_decide_eq_true (by kernel_rfl)) c4
 have k6 := CellP.field Tryz.underlying31 3 _ rfl (of_decide_eq_true (by kernel_rfl)) c4
 have k7 := CellP.field Tryz.underlying31 4 _ rfl (of_decide_eq_true (by kernel_rfl)) c2
 intro j hj
 rcases (show j = 0 ∨ j = 1 ∨ j = 2 ∨ j = 3 ∨ j = 4 ∨ j = 5 ∨ j = 6 ∨ j = 7 by omega) with rfl | rfl | rfl | rfl | rfl | rfl | rfl | rfl
 ·exact k0
 ·exact k1
 ·exact k2
 ·exact k3
 ·exact k4
 ·exact k5
 ·exact k6
 ·exact k7
def DdOk (W : World) (x : Dd) : Prop := TvRd W x.rv x.wv x.t ∧ DdN x
set_option maxRecDepth 100000 in
theorem cells_Dds : CellP enc Tryz.prog W 0 (fun _ => true) true 22 0 fun v => ∃ l, DdR W v l := by
 have h := CellP.rows (enc := enc) (P := Tryz.prog) (w := W) (base := 0) (spare := fun _ => true) (held := true) encD dd0 (DdOk W) (phD W) Tryz.underlying22 (by kernel_rfl) (by omega) cellsD encD_length fun G hG => by
  obtain ⟨n0, e0, -⟩ := hG 0 (by omega)
  obtain ⟨n1, e1, -⟩ := hG 1 (by omega)
  obtain ⟨l2, h2⟩ := hG 2 (by omega)
  obtain ⟨l3, h3⟩ := hG 3 (by omega)
  obtain ⟨n4, e4, b4⟩ := hG 4 (by omega)
  obtain ⟨n5, e5, b5⟩ := hG 5 (by omega)
  obtain ⟨n6, e6, b6⟩ := hG 6 (by omega)
  obtain ⟨n7, e7⟩ := hG 7 (by omega)
  refine ⟨⟨G 2, G 3, ⟨n0, n1, l2, l3⟩, n4, n5, n6, n7⟩, fun j hj => ?_, ⟨h2, h3⟩, b4, b5, b6⟩
  rcases (show j = 0 ∨ j = 1 ∨ j = 2 ∨ j = 3 ∨ j = 4 ∨ j = 5 ∨ j = 6 ∨ j = 7 by omega) with rfl | rfl | rfl | rfl | rfl | rfl | rfl | rfl
  ·rw [e0]; rfl
  ·rw [e1]; rfl
  ·rfl
  ·rfl
  ·rw [e4]; rfl
  ·rw [e5]; rfl
  ·rw [e6]; rfl
  ·rw [e7]; rfl
 intro fuel cs x hx
 obtain ⟨v, hv, l, h1, h2⟩ := h fuel cs x hx
 exact ⟨v, hv, l, h1, h2⟩
set_option maxRecDepth 100000 in
theorem open_dds {v : Value} {d : DataW H} {p : List MemPlace} (hok : Value.okWide Tryz.prog W .any base 22 v) (h : DataW.Trod enc Tryz.prog W 0 (fun _ => true) true 22 v d p) : ∃ l : List Dd, DdR W v l := by
 obtain ⟨a, n, c, rfl⟩ := okWide_slice Tryz.underlying22 hok
 obtain ⟨fuel, hf⟩ := h
 obtain ⟨u, e, l, hl⟩ := cells_Dds _ _ _ hf
 simp only [Value.cells, List.getElem?_cons_zero, Option.some.injEq] at e
 subst e
 exact ⟨l, hl⟩
theorem arr8 {cs : Array Value} (h : cs.size = 8) : ∃ a b c d e f g i, cs = #[a, b, c, d, e, f, g, i] := by
 obtain ⟨l⟩ := cs
 match l, h with
 | [a, b, c, d, e, f, g, i], _ => exact ⟨a, b, c, d, e, f, g, i, rfl⟩
def DdV (W : World) (v : Value) (x : Dd) : Prop := v = .agg (encD x).toArray ∧ DdOk W x
set_option maxRecDepth 100000 in
theorem open_dd {v : Value} {d : DataW H} {p : List MemPlace} (hok : Value.okWide Tryz.prog W .any base 31 v) (h : DataW.Trod enc Tryz.prog W 0 (fun _ => true) true 31 v d p) : ∃ x : Dd, DdV W v x := by
 obtain ⟨cs, rfl, hsz, hc⟩ := open_agg (phD W) Tryz.underlying31 (by kernel_rfl) cellsD hok h
 obtain ⟨a0, a1, a2, a3, a4, a5, a6, a7, rfl⟩ := arr8 hsz
 obtain ⟨u0, e0, n0, q0, -⟩ := hc 0 (by omega)
 obtain ⟨u1, e1, n1, q1, -⟩ := hc 1 (by omega)
 obtain ⟨u2, e2, l2, h2⟩ := hc 2 (by omega)
 obtain ⟨u3, e3, l3, h3⟩ := hc 3 (by omega)
 obtain ⟨u4, e4, n4, q4, b4⟩ := hc 4 (by omega)
 obtain ⟨u5, e5, n5, q5, b5⟩ := hc 5 (by omega)
 obtain ⟨u6, e6, n6, q6, b6⟩ := hc 6 (by omega)
 obtain ⟨u7, e7, n7, q7⟩ := hc 7 (by omega)
 simp only [List.getElem?_toArray, List.getElem?_cons_zero, List.getElem?_cons_succ, Option.some.injEq] at e0 e1 e2 e3 e4 e5 e6 e7
 subst e0 e1 e2 e3 e4 e5 e6 e7 q0 q1 q4 q5 q6 q7
 exact ⟨⟨_, _, ⟨n0, n1, l2, l3⟩, n4, n5, n6, n7⟩, rfl, ⟨h2, h3⟩, b4, b5, b6⟩
structure U3 where
 a : Int
 b : Int
 c : Int
def U3Ok (_W : World) (v : Value) (x : U3) : Prop := v = .agg #[.int .u16 x.a, .int .u16 x.b, .int .u16 x.c] ∧ (0 ≤ x.a ∧ x.a ≤ 65535) ∧ (0 ≤ x.b ∧ x.b ≤ 65535) ∧ 0 ≤ x.c ∧ x.c ≤ 65535
theorem wf_u16x {x : Int} (h : (Lit.int .u16 x).wf = true) : 0 ≤ x ∧ x ≤ 65535 := by simpa [Lit.wf, IntKind.min, IntKind.max, IntKind.signed, IntKind.bits] using h
set_option maxRecDepth 100000 in
theorem open_u3 {v : Value} {d : DataW H} {p : List MemPlace} (hok : Value.okWide Tryz.prog W .any base 24 v) (h : DataW.Trod enc Tryz.prog W 0 (fun _ => true) true 24 v d p) : ∃ x : U3, U3Ok W v x := by
 simp only [Value.okWide, Tryz.underlying24] at hok
 obtain ⟨cs, rfl, hsz, -⟩ := hok
 obtain ⟨fuel, hf⟩ := h
 have hc : Tryz.prog.cellsOf 23 = 1 := by kernel_rfl
 have key : ∀ j, j < 3 → CellInt enc Tryz.prog W 0 (fun _ => true) true 24 j .u16 := fun j hj => by
  have := CellInt.elem (enc := enc) (w := W) (base := 0) (spare := fun _ => true) (held := true) (j := 0) (k := .u16) Tryz.underlying24 j hj (by rw [hc]; decide) (CellInt.int Tryz.underlying23)
  rw [hc, Nat.mul_one, Nat.add_zero] at this
  exact this
 obtain ⟨n0, h0, w0⟩ := key 0 (by decide) _ _ _ hf
 obtain ⟨n1, h1, w1⟩ := key 1 (by decide) _ _ _ hf
 obtain ⟨n2, h2, w2⟩ := key 2 (by decide) _ _ _ hf
 have hs : cs.size = 3 := by rw [hsz]; kernel_rfl
 obtain ⟨l⟩ := cs
 match l, hs with
 | [a, b, c], _ =>
  simp only [Value.cells, List.getElem?_cons_zero, List.getElem?_cons_succ, Option.some.injEq] at h0 h1 h2
  subst h0 h1 h2
  exact ⟨⟨n0, n1, n2⟩, rfl, wf_u16x w0, wf_u16x w1, wf_u16x w2⟩
end
end Go.Proofs.YthkoaecafmhlcaaGreat
