
/- Package scene: Worst. -/
import Derived.Test.YtigjljmhpkeahaaGreatScF
import Derived.Test.YtigjljmhpkeahaaGreatScQ
import Derived.Test.YtigjljmhpkeahaaGreatScD
namespace Go.Proofs.YtigjljmhpkeahaaGreat
open Go.RowKit

def ButX (N x : Nat) (A B : World) : Prop := A.heap.size ≤ B.heap.size ∧ ∀ k, k < N → k ≠ x → B.heap[k]? = A.heap[k]?
theorem ButX.refl (N x : Nat) (A : World) : ButX N x A A := ⟨Nat.le_refl _, fun _ _ _ => rfl⟩
theorem ButX.trans {N x : Nat} {A B C : World} (h : ButX N x A B) (k : ButX N x B C) : ButX N x A C := ⟨Nat.le_trans h.1 k.1, fun q h1 h2 => (k.2 q h1 h2).trans (h.2 q h1 h2)⟩
theorem ButX.below {N M x : Nat} {A B C : World} (h : ButX N x A B) (k : Below M B C) (hm : N ≤ M) : ButX N x A C := h.trans ⟨k.size, fun q h1 _ => k.block q (by omega)⟩
theorem ButX.set {N x : Nat} {A B : World} (h : ButX N x A B) {p : Addr} (hp : p.block = x) (u : Value) : ButX N x A (B.setCell p u) :=
 h.trans ⟨by simp [World.setCell], fun q _ h2 => Below.heap_setCell B p u q (fun e => by omega)⟩
theorem ButX.grown {N x : Nat} {A B C : World} {row : Option Nat} (h : ButX N x A B) (hg : B.grownBy C row) (hn : N ≤ B.heap.size) (hr : ∀ r, row = some r → N ≤ r) : ButX N x A C :=
 h.trans ⟨hg.size, fun q h1 _ => hg.block q (by omega) (fun e => by have := hr q e.symm; omega)⟩
theorem owns_but {w w' : World} {base e size n : Nat} {v : Value} {xs : List Value} (h : w.ownsRow base e size v n xs) (hb : ∀ k, v.ownBlock = some k → w'.heap[k]? = w.heap[k]?) : w'.ownsRow base e size v n xs := by
 refine ⟨h.1, ?_⟩
 rcases h.2 with h1 | ⟨g, cap, cur, hv, hg, hc, r⟩
 ·exact .inl h1
 ·exact .inr ⟨g, cap, cur, hv, hg, (hb g (by rw [hv]; rfl)).trans hc, r⟩
theorem step_enter {P : Program} {ops : Array Oper} {o : Oper} {a : Act} {w : World} {K : Act → World → Prop} {Q : Exit → Act → World → Prop} {E : Prop}
  (hg : o.guard = none) (f : FuncId) (args : Array Value) (hr : (execOp a.eval o).run P w = .ok (.enter f args) w) {R : Ending → World → Prop} (hC : Calls P f args w R) (hK : ∀ e w', R e w' → ∃ u, e = .returned u ∧ K (a.put o.dst u) w') :
  if Region.wanted o (yielded ops a.tmps) = true then Oper.wp P o a w K Q else E := by
 have hw : Region.wanted o (yielded ops a.tmps) = true := by simp [Region.wanted, hg]
 rw [if_pos hw]
 unfold Oper.wp
 rw [hr, Oper.upon_enter]
 refine hC.mono ?_
 intro e w' h
 obtain ⟨u, rfl, hk⟩ := hK e w' h
 exact hk
theorem placeLen {l : List Int} {f lost x : Int} (h : placeEr l f lost x = 0) : (placeL l f lost x).length = l.length := by rw [(place_ok h).2.2.2.2, plLie_length]
theorem timeB_inB (n : Int) : timeB n = inB n 0 3000000000000000 := by unfold timeB inB; rfl
theorem step_callc {P : Program} {ops : Array Oper} {o : Oper} {a : Act} {w : World} {K : Act → World → Prop} {Q : Exit → Act → World → Prop} {E : Prop}
  (hg : o.guard = none) (g x : Operand) (ts : Array TypeId) (hop : o.op = Op.call { callee := Callee.value g, args := #[x], argTypes := ts }) (f : FuncId) (caps : Array Value) (v : Value) (hgv : a.eval g = .func (.func f) #[] caps) (hx : a.eval x = v)
  (eg : ∀ args w, (callFunc f args).run P w = .ok (.enter f args) w) {R : Ending → World → Prop} (hC : Calls P f (#[v] ++ caps) w R) (hK : ∀ e w', R e w' → ∃ u, e = .returned u ∧ K (a.put o.dst u) w') :
  if Region.wanted o (yielded ops a.tmps) = true then Oper.wp P o a w K Q else E := by
 refine step_enter hg f (#[v] ++ caps) ?_ hC hK
 unfold execOp
 rw [hop]
 show (do let d ← Deferred.ofValue (a.eval g) (#[x].map a.eval); invoke d.target d.args : Sem Next).run P w = _
 rw [hgv]
 simp [Deferred.ofValue, invoke, eg, go_sem]
 subst hx
 cases x <;> first | rfl | simp [Act.eval]
theorem Owns9 {w : World} {base e size n : Nat} {v : Value} {xs : List Value} (h : w.ownsRow base e size v n xs) : ∃ a cap, v = .slice a n cap ∧ n ≤ cap ∧ cap ≤ 9223372036854775807 := by
 rcases h.2 with ⟨hv, h0⟩ | ⟨g, cap, cur, hv, hg, hc, hn, hm, _⟩
 ·exact ⟨none, 0, by rw [hv, h0], by omega, by omega⟩
 ·exact ⟨_, cap, hv, hn, hm⟩
def M4 (V : World) (xb : Nat) (u : Value) (ev t c : Int) : Prop := V.cell? ⟨xb, 0, none⟩ = some u ∧ V.cell? ⟨xb, 1, none⟩ = some (.int .i64 ev) ∧ V.cell? ⟨xb, 2, none⟩ = some (.int .i64 t) ∧ V.cell? ⟨xb, 4, none⟩ = some (.int .i64 c)
theorem M4.of {V W : World} {xb : Nat} {u : Value} {ev t c : Int} (h : M4 V xb u ev t c) (hb : W.heap[xb]? = V.heap[xb]?) : M4 W xb u ev t c := by
 have k : ∀ o, W.cell? ⟨xb, o, none⟩ = V.cell? ⟨xb, o, none⟩ := fun o => World.cell?_of_block (a := ⟨xb, o, none⟩) hb
 exact ⟨(k 0).trans h.1, (k 1).trans h.2.1, (k 2).trans h.2.2.1, (k 4).trans h.2.2.2⟩
theorem M4.set {V : World} {xb : Nat} {u : Value} {ev t c : Int} (h : M4 V xb u ev t c) (x : Value) : M4 (V.setCell ⟨xb, 3, none⟩ x) xb u ev t c :=
 ⟨set_other _ h.1 (by intro h; simp at h), set_other _ h.2.1 (by intro h; simp at h), set_other _ h.2.2.1 (by intro h; simp at h), set_other _ h.2.2.2 (by intro h; simp at h)⟩
def ScRet (w w' : World) (x : Sc) (uv av : Value) : Prop := OwnIs w' w.heap.size uv x.use ∧ OwnAn w' w.heap.size av x.an
def valSc (x : Sc) (uv av : Value) : Value := .agg #[uv, .int .i64 x.ev, .int .i64 x.at_, av, .int .i64 x.ct]
theorem ScRet.none (w w' : World) : ScRet w w' sc0 (.slice none 0 0) (.slice none 0 0) := ⟨OwnIs.nil _ _, OwnAn.nil _ _⟩
def WorstPost (w : World) (s : Si) (use : List Int) (ev t : Int) (e : Ending) (w' : World) : Prop :=
 ∃ uv av, e = .returned (.tuple #[valSc (wsS s use ev t) uv av, .int .i64 (wsEr s use ev t)]) ∧ ScRet w w' (wsS s use ev t) uv av ∧ Below w.heap.size w w'
theorem wsT_snoc (ps : List Pr) (use bad gone : List Int) (place : List Iv) (t : Int) (k : Nat) : wsT ps use bad gone place t (k + 1) = wsT ps use bad gone place t k ++ [wsG ps use bad gone place t k] := rfl
set_option maxRecDepth 100000 in
set_option maxHeartbeats 1500000 in
theorem scWorst_any (r f lo tm : Int) (pv : Value) (ps : List Pr) (uv : Value) (use : List Int) (ev at_ : Int) (w : World) (hp : PrRow w pv ps) (hu : IsRow w uv use) :
  Calls Tryz.prog 14 #[.agg #[.int .i64 r, .int .i64 f, .int .i64 lo, .int .i64 tm, pv], .agg #[uv, .int .i64 ev], .int .i64 at_] w (WorstPost w ⟨r, f, lo, tm, ps⟩ use ev at_) := by
 have hR : ∀ W : World, Below w.heap.size w W → PrRow W pv ps ∧ IsRow W uv use := fun W hW => ⟨hp.below (Nat.le_refl _) hW, hu.below (Nat.le_refl _) hW⟩
 have HR := hide hR
 obtain ⟨W0, hW0⟩ : ∃ W : World, W = (((w.alloc (.cells #[.int .i64 r, .int .i64 f, .int .i64 lo, .int .i64 tm, pv] 24)).alloc (.cells #[uv, .int .i64 ev] 27)).alloc (.cells #[.int .i64 at_] 3)).alloc (.cells #[.slice none 0 0, .int .i64 0, .int .i64 0, .slice none 0 0, .int .i64 0] 30) := ⟨_, rfl⟩
 have hS : ∀ V : World, Below (w.heap.size + 4) W0 V → WsBox V w.heap.size r f lo tm pv uv ev at_ ∧ (V.cell? ⟨w.heap.size + 3, 0, none⟩ = some (.slice none 0 0) ∧ V.cell? ⟨w.heap.size + 3, 1, none⟩ = some (.int .i64 0) ∧ V.cell? ⟨w.heap.size + 3, 2, none⟩ = some (.int .i64 0) ∧ V.cell? ⟨w.heap.size + 3, 3, none⟩ = some (.slice none 0 0) ∧ V.cell? ⟨w.heap.size + 3, 4, none⟩ = some (.int .i64 0)) ∧
   (V.frozen? ⟨w.heap.size + 3, 0, none⟩ = false ∧ V.frozen? ⟨w.heap.size + 3, 1, none⟩ = false ∧ V.frozen? ⟨w.heap.size + 3, 2, none⟩ = false ∧ V.frozen? ⟨w.heap.size + 3, 3, none⟩ = false ∧ V.frozen? ⟨w.heap.size + 3, 4, none⟩ = false) ∧ w.heap.size + 4 ≤ V.heap.size ∧ Below w.heap.size w V := by
  intro V hV
  have bW : Below w.heap.size w W0 := by rw [hW0]; ((with_reducible repeat' first | exact .refl _ _ | refine .alloc ?_ ?_ _ | refine .setCell ?_ ?_ _ | refine .drew ?_ | refine below_drewN ?_ _) <;> first | omega | simp <;> omega)
  have zW : W0.heap.size = w.heap.size + 4 := by rw [hW0]; simp
  have hz := hV.size
  have h3 := bk hV (w.heap.size + 3) (by omega)
  refine ⟨WsBox.of (V := W0) ?_ (by omega) hV, ⟨(h3.1 _).trans ?_, (h3.1 _).trans ?_, (h3.1 _).trans ?_, (h3.1 _).trans ?_, (h3.1 _).trans ?_⟩, ⟨(h3.2 _).trans ?_, (h3.2 _).trans ?_, (h3.2 _).trans ?_, (h3.2 _).trans ?_, (h3.2 _).trans ?_⟩, by omega, bW.trans (hV.mono (by omega))⟩
  ·rw [hW0]; refine ⟨⟨?_, ?_, ?_, ?_, ?_⟩, ?_, ?_, ?_⟩ <;> simp [go_sem]
  all_goals rw [hW0]; simp [go_sem]
 have HS := hide hS
 clear hR hS hp hu
 cases h1 : rgB ⟨r, f, lo, tm, ps⟩ use ev with
 | false =>
  have he : wsEr ⟨r, f, lo, tm, ps⟩ use ev at_ = 1 := by unfold wsEr; rw [if_neg (by rw [h1]; simp)]
  have hs : wsS ⟨r, f, lo, tm, ps⟩ use ev at_ = sc0 := by unfold wsS; rw [if_neg (by rw [he]; omega)]
  unfold WorstPost
  rw [he, hs]
  clear he hs
  go_enter Tryz.func14, Tryz.ntmps14
  go_upto_region 1 with fail
  rw [← hW0]
  clear hW0
  have B0 : Below (w.heap.size + 4) W0 W0 := Below.refl _ _
  obtain ⟨⟨⟨y0, y1, y2, y3, y4⟩, x0, x1, x2⟩, ⟨v0, v1, v2, v3, v4⟩, ⟨f0, f1, f2, f3, f4⟩, z0, b0⟩ := HS.out W0 B0
  go_wp2_with (go_at_call 29; (with_reducible refine (wdRight_any r f lo tm _ ps _ use ev _ (HR.out _ b0).1 (HR.out _ b0).2).mono ?_); rintro e w1 ⟨rfl, k1⟩; rw [h1]; have B1 : Below (w.heap.size + 4) W0 w1 := B0.trans (k1.mono z0); clear y0 y1 y2 y3 y4 x0 x1 x2 v0 v1 v2 v3 v4 f0 f1 f2 f3 f4 z0 b0; obtain ⟨⟨⟨y0, y1, y2, y3, y4⟩, x0, x1, x2⟩, ⟨v0, v1, v2, v3, v4⟩, ⟨f0, f1, f2, f3, f4⟩, z0, b0⟩ := HS.out w1 B1)
  have d := stores_at (w.heap.size + 3) [.slice none 0 0, .int .i64 0, .int .i64 0, .slice none 0 0, .int .i64 0] 0 (w1) (ex5 v0 v1 v2 v3 v4); have d0 : (((((w1.setCell ⟨w.heap.size + 3, 0, none⟩ (.slice none 0 0)).setCell ⟨w.heap.size + 3, 1, none⟩ (.int .i64 0)).setCell ⟨w.heap.size + 3, 2, none⟩ (.int .i64 0)).setCell ⟨w.heap.size + 3, 3, none⟩ (.slice none 0 0)).setCell ⟨w.heap.size + 3, 4, none⟩ (.int .i64 0)).cell? ⟨w.heap.size + 3, 0, none⟩ = some (.slice none 0 0) := d 0 _ rfl; have d1 : (((((w1.setCell ⟨w.heap.size + 3, 0, none⟩ (.slice none 0 0)).setCell ⟨w.heap.size + 3, 1, none⟩ (.int .i64 0)).setCell ⟨w.heap.size + 3, 2, none⟩ (.int .i64 0)).setCell ⟨w.heap.size + 3, 3, none⟩ (.slice none 0 0)).setCell ⟨w.heap.size + 3, 4, none⟩ (.int .i64 0)).cell? ⟨w.heap.size + 3, 1, none⟩ = some (.int .i64 0) := d 1 _ rfl; have d2 : (((((w1.setCell ⟨w.heap.size + 3, 0, none⟩ (.slice none 0 0)).setCell ⟨w.heap.size + 3, 1, none⟩ (.int .i64 0)).setCell ⟨w.heap.size + 3, 2, none⟩ (.int .i64 0)).setCell ⟨w.heap.size + 3, 3, none⟩ (.slice none 0 0)).setCell ⟨w.heap.size + 3, 4, none⟩ (.int .i64 0)).cell? ⟨w.heap.size + 3, 2, none⟩ = some (.int .i64 0) := d 2 _ rfl; have d3 : (((((w1.setCell ⟨w.heap.size + 3, 0, none⟩ (.slice none 0 0)).setCell ⟨w.heap.size + 3, 1, none⟩ (.int .i64 0)).setCell ⟨w.heap.size + 3, 2, none⟩ (.int .i64 0)).setCell ⟨w.heap.size + 3, 3, none⟩ (.slice none 0 0)).setCell ⟨w.heap.size + 3, 4, none⟩ (.int .i64 0)).cell? ⟨w.heap.size + 3, 3, none⟩ = some (.slice none 0 0) := d 3 _ rfl; have d4 : (((((w1.setCell ⟨w.heap.size + 3, 0, none⟩ (.slice none 0 0)).setCell ⟨w.heap.size + 3, 1, none⟩ (.int .i64 0)).setCell ⟨w.heap.size + 3, 2, none⟩ (.int .i64 0)).setCell ⟨w.heap.size + 3, 3, none⟩ (.slice none 0 0)).setCell ⟨w.heap.size + 3, 4, none⟩ (.int .i64 0)).cell? ⟨w.heap.size + 3, 4, none⟩ = some (.int .i64 0) := d 4 _ rfl
  exact bodyPost_ret (v := .tuple #[.agg #[.slice none 0 0, .int .i64 0, .int .i64 0, .slice none 0 0, .int .i64 0], .int .i64 1]) (by simp [results, Tryz.results14, go_sem, d0, d1, d2, d3, d4]) rfl ⟨_, _, rfl, ScRet.none _ _, (by ((with_reducible repeat' first | exact .refl _ _ | exact b0 | refine .alloc ?_ ?_ _ | refine .setCell ?_ ?_ _ | refine .drew ?_ | refine below_drewN ?_ _ | refine Below.trans ?_ (b0.mono ?_)) <;> first | omega | simp <;> omega))⟩
 | true =>
  cases h2 : inB at_ 0 3000000000000000 with
  | false =>
   have he : wsEr ⟨r, f, lo, tm, ps⟩ use ev at_ = 1 := by unfold wsEr; rw [if_neg (by rw [timeB_inB, h2]; simp)]
   have hs : wsS ⟨r, f, lo, tm, ps⟩ use ev at_ = sc0 := by unfold wsS; rw [if_neg (by rw [he]; omega)]
   unfold WorstPost
   rw [he, hs]
   clear he hs
   go_enter Tryz.func14, Tryz.ntmps14
   go_upto_region 1 with fail
   rw [← hW0]
   clear hW0
   have B0 : Below (w.heap.size + 4) W0 W0 := Below.refl _ _
   obtain ⟨⟨⟨y0, y1, y2, y3, y4⟩, x0, x1, x2⟩, ⟨v0, v1, v2, v3, v4⟩, ⟨f0, f1, f2, f3, f4⟩, z0, b0⟩ := HS.out W0 B0
   go_wp2_with (first | (go_at_call 29; (with_reducible refine (wdRight_any r f lo tm _ ps _ use ev _ (HR.out _ b0).1 (HR.out _ b0).2).mono ?_); rintro e w1 ⟨rfl, k1⟩; rw [h1]; have B1 : Below (w.heap.size + 4) W0 w1 := B0.trans (k1.mono z0); clear y0 y1 y2 y3 y4 x0 x1 x2 v0 v1 v2 v3 v4 f0 f1 f2 f3 f4 z0 b0; obtain ⟨⟨⟨y0, y1, y2, y3, y4⟩, x0, x1, x2⟩, ⟨v0, v1, v2, v3, v4⟩, ⟨f0, f1, f2, f3, f4⟩, z0, b0⟩ := HS.out w1 B1) | (go_at_call 31; refine (scWithin_any _ _ _ _).mono ?_; rintro e w' ⟨rfl, rfl⟩))
   have d := stores_at (w.heap.size + 3) [.slice none 0 0, .int .i64 0, .int .i64 0, .slice none 0 0, .int .i64 0] 0 (w1) (ex5 v0 v1 v2 v3 v4); have d0 : (((((w1.setCell ⟨w.heap.size + 3, 0, none⟩ (.slice none 0 0)).setCell ⟨w.heap.size + 3, 1, none⟩ (.int .i64 0)).setCell ⟨w.heap.size + 3, 2, none⟩ (.int .i64 0)).setCell ⟨w.heap.size + 3, 3, none⟩ (.slice none 0 0)).setCell ⟨w.heap.size + 3, 4, none⟩ (.int .i64 0)).cell? ⟨w.heap.size + 3, 0, none⟩ = some (.slice none 0 0) := d 0 _ rfl; have d1 : (((((w1.setCell ⟨w.heap.size + 3, 0, none⟩ (.slice none 0 0)).setCell ⟨w.heap.size + 3, 1, none⟩ (.int .i64 0)).setCell ⟨w.heap.size + 3, 2, none⟩ (.int .i64 0)).setCell ⟨w.heap.size + 3, 3, none⟩ (.slice none 0 0)).setCell ⟨w.heap.size + 3, 4, none⟩ (.int .i64 0)).cell? ⟨w.heap.size + 3, 1, none⟩ = some (.int .i64 0) := d 1 _ rfl; have d2 : (((((w1.setCell ⟨w.heap.size + 3, 0, none⟩ (.slice none 0 0)).setCell ⟨w.heap.size + 3, 1, none⟩ (.int .i64 0)).setCell ⟨w.heap.size + 3, 2, none⟩ (.int .i64 0)).setCell ⟨w.heap.size + 3, 3, none⟩ (.slice none 0 0)).setCell ⟨w.heap.size + 3, 4, none⟩ (.int .i64 0)).cell? ⟨w.heap.size + 3, 2, none⟩ = some (.int .i64 0) := d 2 _ rfl; have d3 : (((((w1.setCell ⟨w.heap.size + 3, 0, none⟩ (.slice none 0 0)).setCell ⟨w.heap.size + 3, 1, none⟩ (.int .i64 0)).setCell ⟨w.heap.size + 3, 2, none⟩ (.int .i64 0)).setCell ⟨w.heap.size + 3, 3, none⟩ (.slice none 0 0)).setCell ⟨w.heap.size + 3, 4, none⟩ (.int .i64 0)).cell? ⟨w.heap.size + 3, 3, none⟩ = some (.slice none 0 0) := d 3 _ rfl; have d4 : (((((w1.setCell ⟨w.heap.size + 3, 0, none⟩ (.slice none 0 0)).setCell ⟨w.heap.size + 3, 1, none⟩ (.int .i64 0)).setCell ⟨w.heap.size + 3, 2, none⟩ (.int .i64 0)).setCell ⟨w.heap.size + 3, 3, none⟩ (.slice none 0 0)).setCell ⟨w.heap.size + 3, 4, none⟩ (.int .i64 0)).cell? ⟨w.heap.size + 3, 4, none⟩ = some (.int .i64 0) := d 4 _ rfl
   exact bodyPost_ret (v := .tuple #[.agg #[.slice none 0 0, .int .i64 0, .int .i64 0, .slice none 0 0, .int .i64 0], .int .i64 1]) (by simp [results, Tryz.results14, go_sem, d0, d1, d2, d3, d4]) rfl ⟨_, _, rfl, ScRet.none _ _, (by ((with_reducible repeat' first | exact .refl _ _ | exact b0 | refine .alloc ?_ ?_ _ | refine .setCell ?_ ?_ _ | refine .drew ?_ | refine below_drewN ?_ _ | refine Below.trans ?_ (b0.mono ?_)) <;> first | omega | simp <;> omega))⟩
  | true =>
   have hrg := (rgB_iff _ _ _).1 h1
   have hsi := (siN_iff _).1 ((siB_iff _).1 hrg.1).1
   have hsp := rg_spOk h1
   have hse := spEr_ok hsp
   have hwl := wdL_length ps use
   have hul : use.length ≤ 16 := (by have := (spOk_iff _ _ _).1 hsp; rw [wdL_length] at this; omega)
   have hu1 : 1 ≤ use.length := by have := hrg.2.2.2.2; simp only at this hsi; omega
   have hwe : wsEr ⟨r, f, lo, tm, ps⟩ use ev at_ = if placeEr (wdL ps use) f lo at_ = 0 ∧ lateB (wsL ⟨r, f, lo, tm, ps⟩ use at_) use.length = false then 0 else 3 := by unfold wsEr; rw [if_pos ⟨h1, by rw [timeB_inB, h2]⟩]
   simp only at hsp hse
   have Hsi := hide (And.intro hrg (And.intro hsi (And.intro hsp (And.intro hwe hwl))))
   clear hrg hsi hsp hwe hwl
   go_enter Tryz.func14, Tryz.ntmps14
   go_upto_region 1 with fail
   rw [← hW0]
   clear hW0
   have B0 : Below (w.heap.size + 4) W0 W0 := Below.refl _ _
   obtain ⟨⟨⟨y0, y1, y2, y3, y4⟩, x0, x1, x2⟩, ⟨v0, v1, v2, v3, v4⟩, ⟨f0, f1, f2, f3, f4⟩, z0, b0⟩ := HS.out W0 B0
   go_upto_region 3 with (first | (go_at_call 29; (with_reducible refine (wdRight_any r f lo tm _ ps _ use ev _ (HR.out _ b0).1 (HR.out _ b0).2).mono ?_); rintro e w1 ⟨rfl, k1⟩; rw [h1]; have B1 : Below (w.heap.size + 4) W0 w1 := B0.trans (k1.mono z0); clear y0 y1 y2 y3 y4 x0 x1 x2 v0 v1 v2 v3 v4 f0 f1 f2 f3 f4 z0 b0; obtain ⟨⟨⟨y0, y1, y2, y3, y4⟩, x0, x1, x2⟩, ⟨v0, v1, v2, v3, v4⟩, ⟨f0, f1, f2, f3, f4⟩, z0, b0⟩ := HS.out w1 B1) | (go_at_call 31; refine (scWithin_any _ _ _ _).mono ?_; rintro e w' ⟨rfl, rfl⟩))
   go_upto_region 4 with (go_at_call 32; (with_reducible refine (scWidths_any r f lo tm _ ps _ use ev _ (HR.out _ b0).1 (HR.out _ b0).2 h1).mono ?_); rintro e w2 ⟨ov, rfl, hov, k2⟩)
   have B2 : Below (w.heap.size + 4) W0 w2 := B1.trans (k2.mono z0)
   clear y0 y1 y2 y3 y4 x0 x1 x2 v0 v1 v2 v3 v4 f0 f1 f2 f3 f4 z0 b0
   obtain ⟨⟨⟨y0, y1, y2, y3, y4⟩, x0, x1, x2⟩, ⟨v0, v1, v2, v3, v4⟩, ⟨f0, f1, f2, f3, f4⟩, z0, b0⟩ := HS.out w2 B2
   have Hov := hide hov.row
   have hP := fun V h => Pick_any ov (wdL ps use) f lo V h
   have hPl := fun V h => Place_any ov (wdL ps use) f lo at_ V h
   unfold PickPost at hP
   unfold PlacePost at hPl
   rw [hse] at hP
   have HP := hide hP
   have HPl := hide hPl
   clear hov k1 k2 hP hPl hse
   go_upto_region 5 with (go_at_call 33; (with_reducible refine (HP.out _ Hov.out).mono ?_); rintro e w3 ⟨bv, gv, rfl, hbv, hgv, k3⟩; obtain ⟨ba, bc, hbe, -, -⟩ := hbv.val; obtain ⟨ga, gc, hge, -, -⟩ := hgv.val; subst hbe; subst hge)
   obtain ⟨W4, hW4⟩ : ∃ W : World, W = (w3.alloc (.cells #[.slice ba (pickL (wdL ps use) f lo).length bc] 25)).alloc (.cells #[.slice ga (goneL (wdL ps use) f lo).length gc] 25) := ⟨_, rfl⟩
   rw [← hW4]
   have b34 : Below w3.heap.size w3 W4 := by rw [hW4]; ((with_reducible repeat' first | exact .refl _ _ | refine .alloc ?_ ?_ _ | refine .setCell ?_ ?_ _ | refine .drew ?_ | refine below_drewN ?_ _) <;> first | omega | simp <;> omega)
   have z4 : W4.heap.size = w3.heap.size + 2 := by rw [hW4]; simp
   have cb : W4.cell? ⟨w3.heap.size, 0, none⟩ = some (.slice ba (pickL (wdL ps use) f lo).length bc) := by rw [hW4]; simp [go_sem]
   have cg : W4.cell? ⟨w3.heap.size + 1, 0, none⟩ = some (.slice ga (goneL (wdL ps use) f lo).length gc) := by rw [hW4]; simp [go_sem]
   have B3 : Below (w.heap.size + 4) W0 w3 := B2.trans (k3.mono z0)
   have B4 : Below (w.heap.size + 4) W0 W4 := B3.trans (b34.mono (by have := k3.size; omega))
   have Hbv := hide (hbv.row.below (Nat.le_refl _) b34)
   have Hgv := hide (hgv.row.below (Nat.le_refl _) b34)
   have Hov4 := hide (Hov.out.below (Nat.le_refl _) (k3.trans (b34.mono k3.size)))
   have K3 := hide (And.intro k3 b34)
   have hzz := k3.size
   clear hW4 y0 y1 y2 y3 y4 x0 x1 x2 v0 v1 v2 v3 v4 f0 f1 f2 f3 f4 b0 hbv hgv b34 k3 B2 B3
   obtain ⟨hbx, ⟨v0, v1, v2, v3, v4⟩, ⟨f0, f1, f2, f3, f4⟩, z4', b0⟩ := HS.out W4 B4
   obtain ⟨⟨y0, y1, y2, y3, y4⟩, x0, x1, x2⟩ := id hbx
   go_upto_region 6 with (go_at_call 34; (with_reducible refine (HPl.out _ Hov4.out).mono ?_); rintro e w5 ⟨plv, rfl, hplv, k5⟩; obtain ⟨pla, plc, hple, -, -⟩ := hplv.val; subst hple)
   have B5 : Below (w.heap.size + 4) W0 w5 := B4.trans (k5.mono z4')
   obtain ⟨W5, hW5⟩ : ∃ W : World, W = w5.alloc (.cells #[.slice pla (placeL (wdL ps use) f lo at_).length plc] 74) := ⟨_, rfl⟩
   rw [← hW5]
   have b45 : Below w5.heap.size w5 W5 := by rw [hW5]; ((with_reducible repeat' first | exact .refl _ _ | refine .alloc ?_ ?_ _ | refine .setCell ?_ ?_ _ | refine .drew ?_ | refine below_drewN ?_ _) <;> first | omega | simp <;> omega)
   have z5 : W5.heap.size = w5.heap.size + 1 := by rw [hW5]; simp
   have cp : W5.cell? ⟨w5.heap.size, 0, none⟩ = some (.slice pla (placeL (wdL ps use) f lo at_).length plc) := by rw [hW5]; simp [go_sem]
   have k45 : Below W4.heap.size W4 W5 := k5.trans (b45.mono k5.size)
   have B6 : Below (w.heap.size + 4) W0 W5 := B5.trans (b45.mono (by have := k5.size; omega))
   have hgr5 := hplv.row.below (Nat.le_refl _) b45
   have h5z := k5.size
   have cb5 := ((bk k45 w3.heap.size (by omega)).1 0).trans cb
   have cg5 := ((bk k45 (w3.heap.size + 1) (by omega)).1 0).trans cg
   have Hbv5 := Hbv.out.below (Nat.le_refl _) k45
   have Hgv5 := Hgv.out.below (Nat.le_refl _) k45
   clear hW5 y0 y1 y2 y3 y4 x0 x1 x2 v0 v1 v2 v3 v4 f0 f1 f2 f3 f4 b0 hbx hplv b45 k5 B4 B5 cb cg Hbv Hgv Hov4 Hov
   obtain ⟨hbx, ⟨v0, v1, v2, v3, v4⟩, ⟨f0, f1, f2, f3, f4⟩, z6, b0⟩ := HS.out W5 B6
   have hst : WsAt W5 w.heap.size (w3.heap.size + 1) w5.heap.size w3.heap.size r f lo tm pv ps uv use ev at_ _ (goneL (wdL ps use) f lo) _ (placeL (wdL ps use) f lo at_) _ (pickL (wdL ps use) f lo) :=
    ⟨⟨hbx, HR.out _ b0⟩, ⟨cg5, Hgv5⟩, ⟨cp, hgr5⟩, cb5, Hbv5⟩
   obtain ⟨⟨y0, y1, y2, y3, y4⟩, x0, x1, x2⟩ := id hbx
   have Hst := hide (And.intro hst B6)
   have z5a : w5.heap.size < W5.heap.size := by omega
   have z5b : w3.heap.size + 1 < W5.heap.size := by omega
   have z5c : w3.heap.size < W5.heap.size := by omega
   have HZ := hide (And.intro z4 (And.intro z5 (And.intro hzz h5z)))
   clear hbx hgr5 cb5 cg5 Hbv5 Hgv5 cp k45 hst B6 z4 z5 hzz h5z z4'
   by_cases h3 : placeEr (wdL ps use) f lo at_ = 0
   ·have dne : (placeEr (wdL ps use) f lo at_ != 0) = false := by rw [h3]; rfl
    have H3 := hide h3
    have hrg := Hsi.out.1
    have hsi := Hsi.out.2.1
    have we : IntKind.i64.wrap (ev + tm) = ev + tm := IntWalk.i64_in _ (by omega)
    have hT : ∀ W : World, Below W5.heap.size W5 W → W.cell? ⟨w.heap.size, 3, none⟩ = some (.int .i64 tm) ∧ W.cell? ⟨w.heap.size + 1, 0, none⟩ = some uv ∧ W.cell? ⟨w.heap.size + 1, 1, none⟩ = some (.int .i64 ev) ∧ W.cell? ⟨w.heap.size + 2, 0, none⟩ = some (.int .i64 at_) := fun W hW => (by have hx := (Hst.out.1.1.1).of (Nat.le_of_succ_le z6) hW; exact ⟨hx.1.2.2.2.1, hx.2.1, hx.2.2.1, hx.2.2.2⟩)
    have HT := hide hT
    have Hur := hide (HR.out _ b0).2
    have z6' : w.heap.size + 4 ≤ W5.heap.size := z6
    clear h3 hT hrg hsi f0 f1 f2 f3 f4 v0 v1 v2 v3 v4
    go_upto_region 9 with fail
    go_cut [15] (fun s15 wx => ∃ xb ca cc, s15 = .pointer (some ⟨xb, 0, none⟩) ∧ (wx.cell? ⟨xb, 0, none⟩ = some (.slice ca use.length cc) ∧ wx.cell? ⟨xb, 1, none⟩ = some (.int .i64 ev) ∧ wx.cell? ⟨xb, 2, none⟩ = some (.int .i64 at_) ∧ wx.cell? ⟨xb, 3, none⟩ = some (.slice none 0 0) ∧ wx.cell? ⟨xb, 4, none⟩ = some (.int .i64 (ev + tm))) ∧ wx.frozen? ⟨xb, 3, none⟩ = false ∧ OwnIs wx W5.heap.size (.slice ca use.length cc) use ∧ (∀ q, (Value.slice ca use.length cc).ownBlock = some q → q ≠ xb) ∧ W5.heap.size ≤ xb ∧ xb < wx.heap.size ∧ Below W5.heap.size W5 wx)
    case first =>
     have zd : W5.drew.heap.size = W5.heap.size := rfl
     go_region_held3 (fun W => W.cell? ⟨w.heap.size, 3, none⟩ = some (.int .i64 tm) ∧ W.cell? ⟨w.heap.size + 1, 0, none⟩ = some uv ∧ W.cell? ⟨w.heap.size + 1, 1, none⟩ = some (.int .i64 ev) ∧ W.cell? ⟨w.heap.size + 2, 0, none⟩ = some (.int .i64 at_)) (exact HT.out _ (by ((with_reducible repeat' first | exact .refl _ _ | exact k6 | refine .alloc ?_ ?_ _ | refine .setCell ?_ ?_ _ | refine .drew ?_ | refine below_drewN ?_ _ | refine Below.trans ?_ (k6.mono ?_)) <;> first | omega | simp <;> omega)))
      (first | (go_at_call 37; (with_reducible refine (CloneI_any _ use _ (Hur.out.below (Nat.le_refl _) (by ((with_reducible repeat' first | exact .refl _ _ | refine .alloc ?_ ?_ _ | refine .setCell ?_ ?_ _ | refine .drew ?_ | refine below_drewN ?_ _) <;> first | omega | simp <;> omega))) hu1 (by omega)).mono ?_); rintro e w6 ⟨cv, rfl, hcv, k6⟩; obtain ⟨ca, cc, hce, -, -⟩ := hcv.val; subst hce; (first | (have tt := made5 k6; obtain ⟨t0, t1, t2, t3, t4, g0, g1, g2, g3, g4, tz⟩ := tt) | (have tt := made5D k6; obtain ⟨t0, t1, t2, t3, t4, g0, g1, g2, g3, g4, tz⟩ := tt) | (have tz : W5.heap.size ≤ w6.heap.size := k6.size))))
     all_goals have hown1 : OwnIs w6 W5.heap.size (.slice ca use.length cc) use := World.ownsRow.mono hcv (by simp)
     all_goals have hlow := World.ownsRow.lt hcv
     all_goals go_wp2
     all_goals go_meet
     ·refine ⟨w6.heap.size, ca, cc, rfl, ⟨by simp, by simp, by simp, by simp, by simp⟩, by simp [go_sem], World.ownsRow.alloc hown1 _, fun q hq => ?_, tz, by simp, (by ((with_reducible repeat' first | exact .refl _ _ | exact k6 | refine .alloc ?_ ?_ _ | refine .setCell ?_ ?_ _ | refine .drew ?_ | refine below_drewN ?_ _ | refine Below.trans ?_ (k6.mono ?_)) <;> first | omega | simp <;> omega))⟩
      have := (hlow q hq).2
      omega
     ·have d := stores_at (W5.heap.size) [.slice ca use.length cc, .int .i64 ev, .int .i64 at_, .slice none 0 0, .int .i64 (ev + tm)] 0 (w6) (ex5 t0 t1 t2 t3 t4); have d0 : (((((w6.setCell ⟨W5.heap.size, 0, none⟩ (.slice ca use.length cc)).setCell ⟨W5.heap.size, 1, none⟩ (.int .i64 ev)).setCell ⟨W5.heap.size, 2, none⟩ (.int .i64 at_)).setCell ⟨W5.heap.size, 3, none⟩ (.slice none 0 0)).setCell ⟨W5.heap.size, 4, none⟩ (.int .i64 (ev + tm))).cell? ⟨W5.heap.size, 0, none⟩ = some (.slice ca use.length cc) := d 0 _ rfl; have d1 : (((((w6.setCell ⟨W5.heap.size, 0, none⟩ (.slice ca use.length cc)).setCell ⟨W5.heap.size, 1, none⟩ (.int .i64 ev)).setCell ⟨W5.heap.size, 2, none⟩ (.int .i64 at_)).setCell ⟨W5.heap.size, 3, none⟩ (.slice none 0 0)).setCell ⟨W5.heap.size, 4, none⟩ (.int .i64 (ev + tm))).cell? ⟨W5.heap.size, 1, none⟩ = some (.int .i64 ev) := d 1 _ rfl; have d2 : (((((w6.setCell ⟨W5.heap.size, 0, none⟩ (.slice ca use.length cc)).setCell ⟨W5.heap.size, 1, none⟩ (.int .i64 ev)).setCell ⟨W5.heap.size, 2, none⟩ (.int .i64 at_)).setCell ⟨W5.heap.size, 3, none⟩ (.slice none 0 0)).setCell ⟨W5.heap.size, 4, none⟩ (.int .i64 (ev + tm))).cell? ⟨W5.heap.size, 2, none⟩ = some (.int .i64 at_) := d 2 _ rfl; have d3 : (((((w6.setCell ⟨W5.heap.size, 0, none⟩ (.slice ca use.length cc)).setCell ⟨W5.heap.size, 1, none⟩ (.int .i64 ev)).setCell ⟨W5.heap.size, 2, none⟩ (.int .i64 at_)).setCell ⟨W5.heap.size, 3, none⟩ (.slice none 0 0)).setCell ⟨W5.heap.size, 4, none⟩ (.int .i64 (ev + tm))).cell? ⟨W5.heap.size, 3, none⟩ = some (.slice none 0 0) := d 3 _ rfl; have d4 : (((((w6.setCell ⟨W5.heap.size, 0, none⟩ (.slice ca use.length cc)).setCell ⟨W5.heap.size, 1, none⟩ (.int .i64 ev)).setCell ⟨W5.heap.size, 2, none⟩ (.int .i64 at_)).setCell ⟨W5.heap.size, 3, none⟩ (.slice none 0 0)).setCell ⟨W5.heap.size, 4, none⟩ (.int .i64 (ev + tm))).cell? ⟨W5.heap.size, 4, none⟩ = some (.int .i64 (ev + tm)) := d 4 _ rfl
      have hne : ∀ q, (Value.slice ca use.length cc).ownBlock = some q → q ≠ W5.heap.size := fun q hq => by
       have := (hlow q hq).1
       simp at this
       omega
      refine ⟨W5.heap.size, ca, cc, rfl, ⟨d0, d1, d2, d3, d4⟩, by simp [go_sem, g3], ?_, hne, Nat.le_refl _, by simpa [World.setCell] using tz, (by ((with_reducible repeat' first | exact .refl _ _ | exact k6 | refine .alloc ?_ ?_ _ | refine .setCell ?_ ?_ _ | refine .drew ?_ | refine below_drewN ?_ _ | refine Below.trans ?_ (k6.mono ?_)) <;> first | omega | simp <;> omega))⟩
      exact ownsRow_setCell_ne (ownsRow_setCell_ne (ownsRow_setCell_ne (ownsRow_setCell_ne (ownsRow_setCell_ne hown1 (p := ⟨W5.heap.size, 0, none⟩) hne _) (p := ⟨W5.heap.size, 1, none⟩) hne _) (p := ⟨W5.heap.size, 2, none⟩) hne _) (p := ⟨W5.heap.size, 3, none⟩) hne _) (p := ⟨W5.heap.size, 4, none⟩) hne _
    case rest =>
     obtain ⟨xb, ca, cc, rfl, ⟨m0, m1, m2, m3, m4⟩, fr3, hown, hne, hxb0, hxb, Bc⟩ := hcut
     obtain ⟨wa, hwa⟩ : ∃ W : World, W = wc := ⟨_, rfl⟩
     subst hwa
     obtain ⟨ua, uc, huv, q1, q2, -⟩ := id Hur.out
     subst huv
     have hx0 := (HT.out wa Bc).2.1
     have Hxb := hide (And.intro hown hne)
     have hM4 : Hid (M4 wa xb (.slice ca use.length cc) ev at_ (ev + tm)) := hide ⟨m0, m1, m2, m4⟩
     have HBc := hide Bc
     clear y0 y1 y2 y3 y4 x0 x1 x2 b0 hown hne m0 m1 m2 m4
     go_wp2_with fail
     clear hx0
     go_loopw [71] (fun s71 wx => ∃ (k : Nat) (av : Option Addr) (ac : Nat), k ≤ use.length ∧ s71 = .int .i64 k ∧ wx.cell? ⟨xb, 3, none⟩ = some (.slice av k ac) ∧ wx.frozen? ⟨xb, 3, none⟩ = false ∧ Hid (OwnAn wx wa.heap.size (.slice av k ac) (wsT ps use (pickL (wdL ps use) f lo) (goneL (wdL ps use) f lo) (placeL (wdL ps use) f lo at_) at_ k)) ∧ Below W5.heap.size W5 wx ∧ ButX wa.heap.size xb wa wx ∧ Hid (M4 wx xb (.slice ca use.length cc) ev at_ (ev + tm))) (fun s71 _ => use.length - (intOf s71).toNat)
     case atStart => exact ⟨0, none, 0, Nat.zero_le _, rfl, m3, fr3, hide (OwnAn.nil _ _), Bc, ButX.refl _ _ _, hM4⟩
     case round =>
      obtain ⟨k, av, ac, hk, rfl, c3, fr, Hown, hB, hX, HM⟩ := hrel
      by_cases hlt : k < use.length
      ·have hkp : k < (placeL (wdL ps use) f lo at_).length := by rw [placeLen H3.out, wdL_length]; exact hlt
       have hin := Hsi.out.1.2.2.1 k hlt
       have hpr := (prB_iff _ _ _).1 (rg_pr h1 hlt)
       have hat : 0 ≤ at_ ∧ at_ ≤ 3000000000000000 := by simpa [inB] using h2
       have hpl : (k : Int) ∉ goneL (wdL ps use) f lo → (0 ≤ (ivAt (placeL (wdL ps use) f lo at_) k).1 ∧ (ivAt (placeL (wdL ps use) f lo at_) k).1 ≤ 3000000000000000) ∧ (0 ≤ (ivAt (placeL (wdL ps use) f lo at_) k).2 ∧ (ivAt (placeL (wdL ps use) f lo at_) k).2 ≤ 3000000000000000) := fun hg => by
        have := place_in H3.out k (by rw [wdL_length]; exact hlt) hg
        omega
       have HW := hide (fun (V : World) (hV : Below W5.heap.size W5 V) => Worst1_any k w.heap.size (w3.heap.size + 1) w5.heap.size w3.heap.size r f lo tm pv ps (.slice ua use.length uc) use ev at_ _ (goneL (wdL ps use) f lo) _ (placeL (wdL ps use) f lo at_) _ (pickL (wdL ps use) f lo) V (Hst.out.1.of (Nat.le_of_succ_le z6) hV) (by have := hV.size; omega) hlt hkp hin (by simp only at hpr; omega) hpl hat)
       clear hkp hin hpr hat hpl
       obtain ⟨A, hA⟩ : ∃ A, A = wsG ps use (pickL (wdL ps use) f lo) (goneL (wdL ps use) f lo) (placeL (wdL ps use) f lo at_) at_ k := ⟨_, rfl⟩
       rw [← hA] at HW
       have hsn := wsT_snoc ps use (pickL (wdL ps use) f lo) (goneL (wdL ps use) f lo) (placeL (wdL ps use) f lo at_) at_ k
       rw [← hA] at hsn
       have hlk := wsT_length ps use (pickL (wdL ps use) f lo) (goneL (wdL ps use) f lo) (placeL (wdL ps use) f lo at_) at_ k
       obtain ⟨L, hL⟩ : ∃ L, L = wsT ps use (pickL (wdL ps use) f lo) (goneL (wdL ps use) f lo) (placeL (wdL ps use) f lo at_) at_ k := ⟨_, rfl⟩
       rw [← hL] at hsn hlk Hown
       obtain ⟨i0, hi0, hz0, hz1, hz2⟩ := info_parts infoAn
       have hown' := Hown.out
       unfold OwnAn Owns at hown'
       rw [hlk] at hown'
       have hlow := World.ownsRow.lt hown'
       have Hsn := hide hsn
       have Hlk := hide hlk
       have Hown2 := hide hown'
       have Hlow := hide hlow
       have HB := hide hB
       have HX := hide hX
       have hxr : xb < wr.heap.size := Nat.lt_of_lt_of_le hxb hX.1
       have hxw : wa.heap.size ≤ wr.heap.size := hX.1
       clear hA hL hsn hlk hown' hlow Hown hB hX
       go_upto_region 13 with fail
       go_region_law (first
        | (refine step_callc rfl (.tmp 76) (.tmp 77) #[3] rfl 35 #[.pointer (some ⟨w.heap.size, 0, none⟩), .pointer (some ⟨w.heap.size + 1, 0, none⟩), .pointer (some ⟨w3.heap.size + 1, 0, none⟩), .pointer (some ⟨w5.heap.size, 0, none⟩), .pointer (some ⟨w3.heap.size, 0, none⟩), .pointer (some ⟨w.heap.size + 2, 0, none⟩)] (.int .i64 k) (by simp [Act.eval, Act.put]) (by simp [Act.eval, Act.put]) (enters_of Tryz.func35 (by kernel_rfl) rfl) (HW.out _ (by ((with_reducible repeat' first | exact .refl _ _ | exact HB.out | refine .alloc ?_ ?_ _ | refine .setCell ?_ ?_ _ | refine .drew ?_ | refine below_drewN ?_ _ | refine Below.trans ?_ (HB.out.mono ?_)) <;> first | omega | simp <;> omega))) ?_; rintro e w6 ⟨rfl, k6⟩; have kk : Below wr.heap.size wr w6 := (by ((with_reducible repeat' first | exact .refl _ _ | exact k6 | refine .alloc ?_ ?_ _ | refine .setCell ?_ ?_ _ | refine .drew ?_ | refine below_drewN ?_ _ | refine Below.trans ?_ (k6.mono ?_)) <;> first | omega | simp <;> omega)); have c36 := ((bk kk xb hxr).1 3).trans c3; have fr6 := ((bk kk xb hxr).2 3).trans fr; have hx6 := Nat.lt_of_lt_of_le hxr kk.size; have hz6 := kk.size; have Hown6 := hide (ownsRow_below Hown2.out kk); have Kk := hide kk; clear kk k6; refine ⟨_, rfl, ?_⟩; unfold valA)
        | (refine step_append_own rfl (.tmp 75) (.tmp 79) 28 rfl wa.heap.size 59 i0 (.agg #[.int .i64 0, .bool false, .int .i64 0, .int .i64 0, .int .i64 0, .int .i64 0]) 6 48 Tryz.underlying28 hi0 hz0 hz1 hz2 rfl (by decide) (.slice av k ac) k _ (by simp [Act.eval]) (World.ownsRow.alloc Hown6.out _) ⟨w6.heap.size, 0, none⟩ 1 1 (encA A) (by simp [Act.eval]) rfl (cells_new w6 (encA A) 59) (encA_one _) (by unfold maxLen; omega) (by omega) (by simp; omega) ?_; intro v9 w9 hown9 hg9; obtain ⟨a9, ac9, hv9⟩ : ∃ a9 ac9, v9 = .slice a9 (k + 1) ac9 := (by obtain ⟨x, y, z, -⟩ := Owns9 hown9; exact ⟨x, y, z⟩); subst hv9; have hb9 := hg9.block xb (by simp; omega) (fun e => by have := (Hlow.out _ e.symm).1; omega); have c39 : w9.cell? ⟨xb, 3, none⟩ = some (.slice av k ac) := (World.cell?_of_block (a := ⟨xb, 3, none⟩) hb9).trans (by simp [go_sem, c36, hx6]); have fr9 : w9.frozen? ⟨xb, 3, none⟩ = false := (World.frozen?_of_block (a := ⟨xb, 3, none⟩) hb9).trans (by simp [go_sem, fr6, hx6]); have HR9 := hide (And.intro hown9 (And.intro hg9 Kk.out)); have HM9 := hide (((HM.out.of (Kk.out.block xb hxr)).of (W := w6.alloc (.cells #[.int .i64 A.au, .bool A.ls, .int .i64 A.ou, .int .i64 A.bk, .int .i64 A.lo, .int .i64 A.hi] 59)) (Below.heap_alloc _ _ _ hx6)).of hb9); clear hown9 hg9 hb9))
       all_goals
        obtain ⟨hown9, hg9, kk9⟩ := HR9.out
        have hne9 : ∀ q, (Value.slice a9 (k + 1) ac9).ownBlock = some q → q ≠ xb := fun q hq => by have := (World.ownsRow.lt hown9 q hq).1; omega
        have hown10 := hide (OwnAn.app (by rw [Hlk.out]; exact ownsRow_setCell_ne hown9 (p := ⟨xb, 3, none⟩) hne9 (.slice a9 (k + 1) ac9)) : OwnAn (w9.setCell ⟨xb, 3, none⟩ (.slice a9 (k + 1) ac9)) wa.heap.size (.slice a9 (k + 1) ac9) (L ++ [A]))
        have hB9 : Below W5.heap.size W5 (w9.setCell ⟨xb, 3, none⟩ (.slice a9 (k + 1) ac9)) := ((((HB.out.trans (kk9.mono (by omega))).alloc (by omega) _).grown hg9 (by simp; omega) (fun r h => Nat.le_trans (by omega) (Hlow.out r h).1)).setCell (p := ⟨xb, 3, none⟩) hxb0 _)
        have hX9 : ButX wa.heap.size xb wa (w9.setCell ⟨xb, 3, none⟩ (.slice a9 (k + 1) ac9)) := (((HX.out.below kk9 hxw).below ((Below.refl _ _).alloc (Nat.le_refl _) _) (by omega)).grown hg9 (by simp; omega) (fun r h => (Hlow.out r h).1)).set (p := ⟨xb, 3, none⟩) rfl _
        have hc9 : (w9.setCell ⟨xb, 3, none⟩ (.slice a9 (k + 1) ac9)).cell? ⟨xb, 3, none⟩ = some (.slice a9 (k + 1) ac9) := set_same _ c39
        have hf9 : (w9.setCell ⟨xb, 3, none⟩ (.slice a9 (k + 1) ac9)).frozen? ⟨xb, 3, none⟩ = false := by simp [go_sem, fr9]
        have HM10 := hide (HM9.out.set (.slice a9 (k + 1) ac9))
        have HQ := hide (And.intro hB9 hX9)
        clear hB9 hX9 hown9 hg9 kk9
        go_wp2
        go_roundw
        case rel => exact ⟨k + 1, a9, ac9, by omega, by go_num, hc9, hf9, by rw [Hsn.out]; exact hown10, HQ.out.1, HQ.out.2, HM10⟩
        case measure => simp [intOf]; omega
      ·obtain rfl : k = use.length := by omega
       have hlk := wsT_length ps use (pickL (wdL ps use) f lo) (goneL (wdL ps use) f lo) (placeL (wdL ps use) f lo at_) at_ use.length
       have hLd : wsL ⟨r, f, lo, tm, ps⟩ use at_ = wsT ps use (pickL (wdL ps use) f lo) (goneL (wdL ps use) f lo) (placeL (wdL ps use) f lo at_) at_ use.length := rfl
       rw [← hLd] at hlk Hown
       have HLd := hide hLd
       generalize wsL ⟨r, f, lo, tm, ps⟩ use at_ = L at *
       have hrow : AnRow wr (.slice av use.length ac) L := Hown.out.row
       have hC := fun W h => ContainsFuncAn_any (.slice av use.length ac) L W h
       rw [hlk] at hC
       have HC := hide hC
       have Hrow := hide hrow
       have BW : Below (w.heap.size + 4) W0 wr := Hst.out.2.trans (hB.mono z6)
       have Hlk := hide hlk
       have hwe := Hsi.out.2.2.2.1
       have HX := hide hX
       clear hC hrow hlk hX hLd
       obtain ⟨-, ⟨v0, v1, v2, v3, v4⟩, ⟨f0, f1, f2, f3, f4⟩, z0, b0⟩ := HS.out wr BW
       have hxr : xb < wr.heap.size := Nat.lt_of_lt_of_le hxb HX.out.1
       cases hlate : lateB L use.length with
       | true =>
        have he : wsEr ⟨r, f, lo, tm, ps⟩ use ev at_ = 3 := by rw [hwe, if_neg (fun h => by have := h.2; rw [hlate] at this; cases this)]
        have hs : wsS ⟨r, f, lo, tm, ps⟩ use ev at_ = sc0 := by unfold wsS; rw [if_neg (by rw [he]; omega)]
        have He := hide (And.intro he hs)
        clear he hs hwe
        go_wp2_with (go_at_call 39; (with_reducible refine (HC.out _ Hrow.out).mono ?_); rintro e w9 ⟨rfl, k9⟩; rw [hlate]; clear v0 v1 v2 v3 v4 f0 f1 f2 f3 f4 z0 b0; have B9 : Below (w.heap.size + 4) W0 w9 := BW.trans (k9.mono (HS.out wr BW).2.2.2.1); obtain ⟨-, ⟨v0, v1, v2, v3, v4⟩, ⟨f0, f1, f2, f3, f4⟩, z0, b0⟩ := HS.out w9 B9)
        have d := stores_at (w.heap.size + 3) [.slice none 0 0, .int .i64 0, .int .i64 0, .slice none 0 0, .int .i64 0] 0 (w9) (ex5 v0 v1 v2 v3 v4); have d0 : (((((w9.setCell ⟨w.heap.size + 3, 0, none⟩ (.slice none 0 0)).setCell ⟨w.heap.size + 3, 1, none⟩ (.int .i64 0)).setCell ⟨w.heap.size + 3, 2, none⟩ (.int .i64 0)).setCell ⟨w.heap.size + 3, 3, none⟩ (.slice none 0 0)).setCell ⟨w.heap.size + 3, 4, none⟩ (.int .i64 0)).cell? ⟨w.heap.size + 3, 0, none⟩ = some (.slice none 0 0) := d 0 _ rfl; have d1 : (((((w9.setCell ⟨w.heap.size + 3, 0, none⟩ (.slice none 0 0)).setCell ⟨w.heap.size + 3, 1, none⟩ (.int .i64 0)).setCell ⟨w.heap.size + 3, 2, none⟩ (.int .i64 0)).setCell ⟨w.heap.size + 3, 3, none⟩ (.slice none 0 0)).setCell ⟨w.heap.size + 3, 4, none⟩ (.int .i64 0)).cell? ⟨w.heap.size + 3, 1, none⟩ = some (.int .i64 0) := d 1 _ rfl; have d2 : (((((w9.setCell ⟨w.heap.size + 3, 0, none⟩ (.slice none 0 0)).setCell ⟨w.heap.size + 3, 1, none⟩ (.int .i64 0)).setCell ⟨w.heap.size + 3, 2, none⟩ (.int .i64 0)).setCell ⟨w.heap.size + 3, 3, none⟩ (.slice none 0 0)).setCell ⟨w.heap.size + 3, 4, none⟩ (.int .i64 0)).cell? ⟨w.heap.size + 3, 2, none⟩ = some (.int .i64 0) := d 2 _ rfl; have d3 : (((((w9.setCell ⟨w.heap.size + 3, 0, none⟩ (.slice none 0 0)).setCell ⟨w.heap.size + 3, 1, none⟩ (.int .i64 0)).setCell ⟨w.heap.size + 3, 2, none⟩ (.int .i64 0)).setCell ⟨w.heap.size + 3, 3, none⟩ (.slice none 0 0)).setCell ⟨w.heap.size + 3, 4, none⟩ (.int .i64 0)).cell? ⟨w.heap.size + 3, 3, none⟩ = some (.slice none 0 0) := d 3 _ rfl; have d4 : (((((w9.setCell ⟨w.heap.size + 3, 0, none⟩ (.slice none 0 0)).setCell ⟨w.heap.size + 3, 1, none⟩ (.int .i64 0)).setCell ⟨w.heap.size + 3, 2, none⟩ (.int .i64 0)).setCell ⟨w.heap.size + 3, 3, none⟩ (.slice none 0 0)).setCell ⟨w.heap.size + 3, 4, none⟩ (.int .i64 0)).cell? ⟨w.heap.size + 3, 4, none⟩ = some (.int .i64 0) := d 4 _ rfl
        exact bodyPost_ret (v := .tuple #[.agg #[.slice none 0 0, .int .i64 0, .int .i64 0, .slice none 0 0, .int .i64 0], .int .i64 3]) (by simp [results, Tryz.results14, go_sem, d0, d1, d2, d3, d4]) rfl ⟨_, _, by rw [He.out.1, He.out.2]; rfl, by rw [He.out.2]; exact ScRet.none _ _, (by ((with_reducible repeat' first | exact .refl _ _ | exact b0 | refine .alloc ?_ ?_ _ | refine .setCell ?_ ?_ _ | refine .drew ?_ | refine below_drewN ?_ _ | refine Below.trans ?_ (b0.mono ?_)) <;> first | omega | simp <;> omega))⟩
       | false =>
        have he : wsEr ⟨r, f, lo, tm, ps⟩ use ev at_ = 0 := by rw [hwe, if_pos ⟨H3.out, hlate⟩]
        have hs := wsS_eq he
        have hLe := HLd.out
        have He := hide (And.intro he hs)
        clear he hs hwe
        go_wp2_with (go_at_call 39; (with_reducible refine (HC.out _ Hrow.out).mono ?_); rintro e w9 ⟨rfl, k9⟩; rw [hlate]; clear v0 v1 v2 v3 v4 f0 f1 f2 f3 f4 z0 b0; have B9 : Below (w.heap.size + 4) W0 w9 := BW.trans (k9.mono (HS.out wr BW).2.2.2.1); obtain ⟨-, ⟨v0, v1, v2, v3, v4⟩, ⟨f0, f1, f2, f3, f4⟩, z0, b0⟩ := HS.out w9 B9; obtain ⟨m0, m1, m2, m4⟩ := HM.out.of (k9.block xb hxr); have m3 := ((bk k9 xb hxr).1 3).trans c3; have Hk9 := hide k9; clear k9)
        have d := stores_at (w.heap.size + 3) [.slice ca use.length cc, .int .i64 ev, .int .i64 at_, .slice av use.length ac, .int .i64 (ev + tm)] 0 (w9) (ex5 v0 v1 v2 v3 v4); have d0 : (((((w9.setCell ⟨w.heap.size + 3, 0, none⟩ (.slice ca use.length cc)).setCell ⟨w.heap.size + 3, 1, none⟩ (.int .i64 ev)).setCell ⟨w.heap.size + 3, 2, none⟩ (.int .i64 at_)).setCell ⟨w.heap.size + 3, 3, none⟩ (.slice av use.length ac)).setCell ⟨w.heap.size + 3, 4, none⟩ (.int .i64 (ev + tm))).cell? ⟨w.heap.size + 3, 0, none⟩ = some (.slice ca use.length cc) := d 0 _ rfl; have d1 : (((((w9.setCell ⟨w.heap.size + 3, 0, none⟩ (.slice ca use.length cc)).setCell ⟨w.heap.size + 3, 1, none⟩ (.int .i64 ev)).setCell ⟨w.heap.size + 3, 2, none⟩ (.int .i64 at_)).setCell ⟨w.heap.size + 3, 3, none⟩ (.slice av use.length ac)).setCell ⟨w.heap.size + 3, 4, none⟩ (.int .i64 (ev + tm))).cell? ⟨w.heap.size + 3, 1, none⟩ = some (.int .i64 ev) := d 1 _ rfl; have d2 : (((((w9.setCell ⟨w.heap.size + 3, 0, none⟩ (.slice ca use.length cc)).setCell ⟨w.heap.size + 3, 1, none⟩ (.int .i64 ev)).setCell ⟨w.heap.size + 3, 2, none⟩ (.int .i64 at_)).setCell ⟨w.heap.size + 3, 3, none⟩ (.slice av use.length ac)).setCell ⟨w.heap.size + 3, 4, none⟩ (.int .i64 (ev + tm))).cell? ⟨w.heap.size + 3, 2, none⟩ = some (.int .i64 at_) := d 2 _ rfl; have d3 : (((((w9.setCell ⟨w.heap.size + 3, 0, none⟩ (.slice ca use.length cc)).setCell ⟨w.heap.size + 3, 1, none⟩ (.int .i64 ev)).setCell ⟨w.heap.size + 3, 2, none⟩ (.int .i64 at_)).setCell ⟨w.heap.size + 3, 3, none⟩ (.slice av use.length ac)).setCell ⟨w.heap.size + 3, 4, none⟩ (.int .i64 (ev + tm))).cell? ⟨w.heap.size + 3, 3, none⟩ = some (.slice av use.length ac) := d 3 _ rfl; have d4 : (((((w9.setCell ⟨w.heap.size + 3, 0, none⟩ (.slice ca use.length cc)).setCell ⟨w.heap.size + 3, 1, none⟩ (.int .i64 ev)).setCell ⟨w.heap.size + 3, 2, none⟩ (.int .i64 at_)).setCell ⟨w.heap.size + 3, 3, none⟩ (.slice av use.length ac)).setCell ⟨w.heap.size + 3, 4, none⟩ (.int .i64 (ev + tm))).cell? ⟨w.heap.size + 3, 4, none⟩ = some (.int .i64 (ev + tm)) := d 4 _ rfl
        have hu9 : OwnIs w9 w.heap.size (.slice ca use.length cc) use := by
         refine World.ownsRow.mono (owns_but Hxb.out.1 fun q hq => ?_) (Nat.le_trans (by omega) z6)
         have hlt := (World.ownsRow.lt Hxb.out.1 q hq).2
         have hlt2 := HX.out.1
         exact (Hk9.out.block q (by omega)).trans (HX.out.2 q hlt (Hxb.out.2 q hq))
        have ha9 : OwnAn w9 w.heap.size (.slice av use.length ac) L := by
         have := World.ownsRow.mono (ownsRow_below Hown.out Hk9.out) (base' := w.heap.size) (by have := HBc.out.size; omega)
         exact this
        have hsz3 : w.heap.size ≤ w.heap.size + 3 := by omega
        have hnu : ∀ q, (Value.slice ca use.length cc).ownBlock = some q → q ≠ w.heap.size + 3 := fun q hq => by have := (World.ownsRow.lt Hxb.out.1 q hq).1; omega
        have hna : ∀ q, (Value.slice av use.length ac).ownBlock = some q → q ≠ w.heap.size + 3 := fun q hq => by have := (World.ownsRow.lt Hown.out q hq).1; have := HBc.out.size; omega
        exact bodyPost_ret (v := .tuple #[.agg #[.slice ca use.length cc, .int .i64 ev, .int .i64 at_, .slice av use.length ac, .int .i64 (ev + tm)], .int .i64 0]) (by simp [results, Tryz.results14, go_sem, d0, d1, d2, d3, d4]) rfl ⟨_, _, by rw [He.out.1, He.out.2]; rfl, by rw [He.out.2]; exact ⟨stores_owns (n := w.heap.size + 3) hnu [.slice ca use.length cc, .int .i64 ev, .int .i64 at_, .slice av use.length ac, .int .i64 (ev + tm)] 0 w9 hu9, by have hL : L = wsL ⟨r, f, lo, tm, ps⟩ use at_ := HLd.out; simp only; rw [← hL]; exact stores_owns (n := w.heap.size + 3) hna [.slice ca use.length cc, .int .i64 ev, .int .i64 at_, .slice av use.length ac, .int .i64 (ev + tm)] 0 w9 ha9⟩, (by ((with_reducible repeat' first | exact .refl _ _ | exact b0 | refine .alloc ?_ ?_ _ | refine .setCell ?_ ?_ _ | refine .drew ?_ | refine below_drewN ?_ _ | refine Below.trans ?_ (b0.mono ?_)) <;> first | omega | simp <;> omega))⟩
   ·have dne : (placeEr (wdL ps use) f lo at_ != 0) = true := by rw [bne_iff_ne]; exact h3
    have he : wsEr ⟨r, f, lo, tm, ps⟩ use ev at_ = 3 := by rw [Hsi.out.2.2.2.1, if_neg (fun h => h3 h.1)]
    have hs : wsS ⟨r, f, lo, tm, ps⟩ use ev at_ = sc0 := by unfold wsS; rw [if_neg (by rw [he]; omega)]
    have He := hide (And.intro he hs)
    clear he hs h3
    go_wp2_with fail
    have d := stores_at (w.heap.size + 3) [.slice none 0 0, .int .i64 0, .int .i64 0, .slice none 0 0, .int .i64 0] 0 (W5) (ex5 v0 v1 v2 v3 v4); have d0 : (((((W5.setCell ⟨w.heap.size + 3, 0, none⟩ (.slice none 0 0)).setCell ⟨w.heap.size + 3, 1, none⟩ (.int .i64 0)).setCell ⟨w.heap.size + 3, 2, none⟩ (.int .i64 0)).setCell ⟨w.heap.size + 3, 3, none⟩ (.slice none 0 0)).setCell ⟨w.heap.size + 3, 4, none⟩ (.int .i64 0)).cell? ⟨w.heap.size + 3, 0, none⟩ = some (.slice none 0 0) := d 0 _ rfl; have d1 : (((((W5.setCell ⟨w.heap.size + 3, 0, none⟩ (.slice none 0 0)).setCell ⟨w.heap.size + 3, 1, none⟩ (.int .i64 0)).setCell ⟨w.heap.size + 3, 2, none⟩ (.int .i64 0)).setCell ⟨w.heap.size + 3, 3, none⟩ (.slice none 0 0)).setCell ⟨w.heap.size + 3, 4, none⟩ (.int .i64 0)).cell? ⟨w.heap.size + 3, 1, none⟩ = some (.int .i64 0) := d 1 _ rfl; have d2 : (((((W5.setCell ⟨w.heap.size + 3, 0, none⟩ (.slice none 0 0)).setCell ⟨w.heap.size + 3, 1, none⟩ (.int .i64 0)).setCell ⟨w.heap.size + 3, 2, none⟩ (.int .i64 0)).setCell ⟨w.heap.size + 3, 3, none⟩ (.slice none 0 0)).setCell ⟨w.heap.size + 3, 4, none⟩ (.int .i64 0)).cell? ⟨w.heap.size + 3, 2, none⟩ = some (.int .i64 0) := d 2 _ rfl; have d3 : (((((W5.setCell ⟨w.heap.size + 3, 0, none⟩ (.slice none 0 0)).setCell ⟨w.heap.size + 3, 1, none⟩ (.int .i64 0)).setCell ⟨w.heap.size + 3, 2, none⟩ (.int .i64 0)).setCell ⟨w.heap.size + 3, 3, none⟩ (.slice none 0 0)).setCell ⟨w.heap.size + 3, 4, none⟩ (.int .i64 0)).cell? ⟨w.heap.size + 3, 3, none⟩ = some (.slice none 0 0) := d 3 _ rfl; have d4 : (((((W5.setCell ⟨w.heap.size + 3, 0, none⟩ (.slice none 0 0)).setCell ⟨w.heap.size + 3, 1, none⟩ (.int .i64 0)).setCell ⟨w.heap.size + 3, 2, none⟩ (.int .i64 0)).setCell ⟨w.heap.size + 3, 3, none⟩ (.slice none 0 0)).setCell ⟨w.heap.size + 3, 4, none⟩ (.int .i64 0)).cell? ⟨w.heap.size + 3, 4, none⟩ = some (.int .i64 0) := d 4 _ rfl
    exact bodyPost_ret (v := .tuple #[.agg #[.slice none 0 0, .int .i64 0, .int .i64 0, .slice none 0 0, .int .i64 0], .int .i64 3]) (by simp [results, Tryz.results14, go_sem, d0, d1, d2, d3, d4]) rfl ⟨_, _, by rw [He.out.1, He.out.2]; rfl, by rw [He.out.2]; exact ScRet.none _ _, (by ((with_reducible repeat' first | exact .refl _ _ | exact b0 | refine .alloc ?_ ?_ _ | refine .setCell ?_ ?_ _ | refine .drew ?_ | refine below_drewN ?_ _ | refine Below.trans ?_ (b0.mono ?_)) <;> first | omega | simp <;> omega))⟩
end Go.Proofs.YtigjljmhpkeahaaGreat
