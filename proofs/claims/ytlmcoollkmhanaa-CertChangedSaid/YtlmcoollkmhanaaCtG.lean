
/- Package cert: cases, walked: a loop over an iterator in a loop over an iterator. -/
import Derived.Test.YtlmcoollkmhanaaCtF
import Derived.BigRegionIn
import Derived.Stop.RegionWithIn
namespace Go.Proofs.Ytlmcoollkmhanaa
open Go.RowKit Go.Shelf
attribute [local go_sem] Oper.semAt_some

theorem chR_len_le : ∀ (l : List Int) (k : Nat), (chR l k).length ≤ 2 ^ l.length
 | l, 0 => by rw [chR_zero]; exact Nat.one_le_two_pow
 | [], k + 1 => by rw [chR_nil]; simp
 | a :: l, k + 1 => by
  have h1 := chR_len_le l k
  have h2 := chR_len_le l (k + 1)
  rw [chR_cons, List.length_append, List.length_map, List.length_cons, Nat.pow_succ]
  omega
theorem plFrom_len (wo : List Int) (n a : Nat) : (plFrom wo n a).length ≤ n := by
 unfold plFrom
 have h := List.length_filter_le (fun i : Int => !decide (i ∈ wo)) ((List.range' a (n - a)).map fun i : Nat => (i : Int))
 rw [List.length_map, List.length_range'] at h
 omega
theorem ch_256 (wo : List Int) {n : Nat} (k : Nat) (hn : n ≤ 8) : (chR (plFrom wo n 0) k).length ≤ 256 := by
 have h1 := chR_len_le (plFrom wo n 0) k
 have h2 := Nat.pow_le_pow_right (n := 2) (by omega) (Nat.le_trans (plFrom_len wo n 0) hn)
 omega
theorem CaSt.cells {w : World} {r f lo tm : Int} {pv uv : Value} {ev : Int} {N : Nat → Prop} {cs : List Cs} {V : World} (h : CaSt w r f lo tm pv uv ev N cs V) :
  (V.cell? ⟨w.heap.size, 0, none⟩ = some (.int .i64 r) ∧ V.cell? ⟨w.heap.size, 1, none⟩ = some (.int .i64 f) ∧ V.cell? ⟨w.heap.size, 2, none⟩ = some (.int .i64 lo) ∧ V.cell? ⟨w.heap.size, 3, none⟩ = some (.int .i64 tm) ∧ V.cell? ⟨w.heap.size, 4, none⟩ = some pv) ∧
   (V.cell? ⟨w.heap.size + 1, 0, none⟩ = some uv ∧ V.cell? ⟨w.heap.size + 1, 1, none⟩ = some (.int .i64 ev)) ∧
   ((V.cell? ⟨w.heap.size + 1 + 1, 0, none⟩ = some (.slice none 0 0) ∧ V.frozen? ⟨w.heap.size + 1 + 1, 0, none⟩ = false) ∧ V.cell? ⟨w.heap.size + 1 + 1 + 1, 0, none⟩ = some (.int .i64 0) ∧ V.frozen? ⟨w.heap.size + 1 + 1 + 1, 0, none⟩ = false) ∧
   (∃ ov, V.cell? ⟨w.heap.size + 1 + 1 + 1 + 1, 0, none⟩ = some ov ∧ V.frozen? ⟨w.heap.size + 1 + 1 + 1 + 1, 0, none⟩ = false ∧ OwnCs V (w.heap.size + 5) N ov cs) := ⟨h.2.1, h.2.2.1, h.2.2.2.1, h.2.2.2.2.1⟩
def caL (s : Si) (use : List Int) (ev : Int) (ls : List (List Int)) : List Cs := ls.flatMap fun li => csOf s use ev li (chR (plFrom li use.length 0) s.lo.toNat)
def AxB (B0 : Nat) (x : Value × List Int) (Bx : Nat) (W : World) : Prop := (IsRow W x.1 x.2 ∧ ∀ q, x.1.ownBlock = some q → B0 ≤ q ∧ ∃ c fz, W.heap[q]? = some (.cells c 3 fz)) ∧ W.heap[Bx]? = some (.cells #[x.1] 25 (0, 0))
theorem AxB.own {B0 B : Nat} {x : Value × List Int} {Bx : Nat} : OwnFrom B (fun (_ : Unit) W => AxB B0 x Bx W) := by
 rintro _ X Y row ⟨⟨h1, h2⟩, h3⟩ hg hr
 have keep : ∀ (q : Nat) (o : Obj), X.heap[q]? = some o → o.isCells = true → Y.heap[q]? = some o := fun q o hq hc => (hg.block q (Array.getElem?_eq_some_iff.1 hq).1 fun e => by
  obtain ⟨_, o', ho, hn⟩ := hr q e.symm
  rw [hq] at ho; cases ho; rw [hn] at hc; cases hc).trans hq
 refine ⟨⟨isrow_same31 h1 hg.size fun q hq => ?_, fun q hq => ?_⟩, keep _ _ h3 rfl⟩
 ·obtain ⟨_, c, fz, h4⟩ := h2 q hq
  exact (keep _ _ h4 rfl).trans h4.symm
 ·obtain ⟨h5, c, fz, h4⟩ := h2 q hq
  exact ⟨h5, c, fz, keep _ _ h4 rfl⟩
theorem caL_len (s : Si) (use : List Int) (ev : Int) (h8 : use.length ≤ 8) : ∀ ls : List (List Int), (caL s use ev ls).length ≤ ls.length * 256
 | [] => by simp [caL]
 | li :: ls => by
  have h1 := caL_len s use ev h8 ls
  have h2 := ch_256 li s.lo.toNat h8
  have e : caL s use ev (li :: ls) = csOf s use ev li (chR (plFrom li use.length 0) s.lo.toNat) ++ caL s use ev ls := by simp [caL]
  rw [e, List.length_append, csOf, List.length_map, List.length_cons]
  omega
theorem AxB.below {B0 : Nat} {x : Value × List Int} {Bx : Nat} {V W : World} (h : AxB B0 x Bx V) (hb : Below V.heap.size V W) : AxB B0 x Bx W := by
 refine ⟨⟨h.1.1.below (Nat.le_refl _) hb, fun q hq => ?_⟩, (hb.block Bx (Array.getElem?_eq_some_iff.1 h.2).1).trans h.2⟩
 obtain ⟨h5, c, fz, h4⟩ := h.1.2 q hq
 exact ⟨h5, c, fz, (hb.block q (Array.getElem?_eq_some_iff.1 h4).1).trans h4⟩
theorem keepN_walk {N : Nat → Prop} {X Y : World} {row : Option Nat} {B : Nat} (hg : X.grownBy Y row) (hr : ∀ r, row = some r → B ≤ r ∧ ∃ o : Obj, X.heap[r]? = some o ∧ o.isCells = false) : KeepN N X Y :=
 ⟨hg.size, fun q o hq hc _ => (hg.block q (Array.getElem?_eq_some_iff.1 hq).1 fun e => by
  obtain ⟨_, o', ho, hn⟩ := hr q e.symm
  rw [hq] at ho; cases ho; rw [hn] at hc; cases hc).trans hq⟩
theorem wpOpsIn_inRound31 {F : Fence} {n : Nat} {P : Program} {ops : Array Oper} {Q : Exit → Act → World → Prop} (l : Nat) (hd : ∀ (i : Nat) (o : Oper), ops[i]? = some o → ∀ c, o.op ≠ Op.defer c) : ∀ (is : List Nat) (a : Act) (w : World), wpOpsIn F n P ops Q is a w → wpOpsIn (F.inRound l) n P ops Q is a w
 | [], _, _, h => h
 | i :: rest, a, w, h => by
  have ih : ∀ (a : Act) (w : World), wpOpsIn F n P ops Q rest a w → wpOpsIn (F.inRound l) n P ops Q rest a w := fun a w => wpOpsIn_inRound31 l hd rest a w
  simp only [wpOpsIn] at h ⊢
  cases ho : ops[i]? with
  | none => simp only [ho] at h ⊢; exact ih _ _ h
  | some o =>
   simp only [ho] at h ⊢
   by_cases hw : Region.wanted o (yielded ops a.tmps) = true
   ·rw [if_pos hw] at h ⊢
    have h := Oper.wpIn_mono (K' := wpOpsIn (F.inRound l) n P ops Q rest) ih h
    unfold Oper.wpIn at h ⊢
    rw [Oper.semAt_plain _ _ _ (hd i o ho)] at h ⊢
    refine ⟨h.1, ?_⟩
    have h2 := h.2
    generalize (execOp a.eval o).run P w = r at h2 ⊢
    cases r with
    | ok x w' => cases x <;> exact h2
    | halt x w' => cases x <;> exact h2
   ·rw [if_neg hw] at h ⊢
    exact ⟨h.1, ih _ _ h.2⟩
theorem wpIn_region_anyR {F : Fence} {n : Nat} {P : Program} {ops : Array Oper} {Q : Exit → Act → World → Prop} {id : Nat} {a : Act} {w : World} {l l' : Nat} (hm : P.follows .mixedOrders = true)
  (hd : (ops.toList.all fun o : Oper => match o.op with | Op.defer _ => false | _ => true) = true)
  (h : wpAnyIn F n P .any ops Q ops.size (Array.replicate ops.size false) a w.drew) : (Code.region id ops true).wpIn ((F.inRound l).inRound l') n P Q a w := by
 have hd' : ∀ (i : Nat) (o : Oper), ops[i]? = some o → ∀ c, o.op ≠ Op.defer c := fun i o ho c e => by
  have h1 := List.all_eq_true.1 hd o (Array.mem_toList_iff.2 (Array.mem_of_getElem? ho))
  rw [e] at h1
  cases h1
 exact wpIn_region_draw fun t => by
  simp only [Region.schedule, hm, Bool.true_or, if_true]
  exact wpOpsIn_inRound31 l' hd' _ _ _ (wpOpsIn_inRound31 l hd' _ _ _ (wpAnyIn_sound ops.size t _ a _ h))
theorem wpIn_append_run {F : Fence} {n : Nat} {P : Program} {o : Oper} {a : Act} {w w' : World} {K : Act → World → Prop} {Q : Exit → Act → World → Prop} (s x : Operand) (t : TypeId) (v v' vx : Value)
  (hop : o.op = Op.call { callee := Callee.builtin Builtin.append, args := #[s, x], argTypes := #[t, t] }) (hs : a.eval s = v) (hx : a.eval x = vx)
  (hrun : (Builtin.append_ #[t, t] o.type #[v, vx]).run P w = .ok v' w') (h : K (a.put o.dst v') w') : o.wpIn F n P a w K Q := by
 unfold Oper.wpIn
 refine ⟨?_, ?_⟩
 ·simp [Oper.about, hop, resolve, Target.leads, Sem.run_pure]
 ·rw [Oper.semAt_plain F _ _ (by rw [hop]; intro c hc'; cases hc')]
  simp [execOp, hop, resolve, invoke, builtin, hs, hx, hrun, Result.andThen]
  exact h
theorem OwnCs.low {V : World} {base : Nat} {N : Nat → Prop} {v : Value} {cs : List Cs} (h : OwnCs V base N v cs) : OwnCs V base (fun q => q < base) v cs := by
 obtain ⟨xs, h1, h2, h3, h4⟩ := h
 exact ⟨xs, h1, h2, fun q hq hh => by have := (World.ownsRow.lt h2 q hq).1; omega, fun x hx => ⟨⟨⟨(h4 x hx).1.1.1, fun q hq => ⟨fun hh => by have := (h4 x hx).2.1 q hq; omega, ((h4 x hx).1.1.2 q hq).2⟩⟩, ⟨(h4 x hx).1.2.1, fun q hq => ⟨fun hh => by have := (h4 x hx).2.2 q hq; omega, ((h4 x hx).1.2.2 q hq).2⟩⟩⟩, (h4 x hx).2⟩⟩
theorem set_same {W : World} {p : Addr} {u : Value} (v : Value) (h : W.cell? p = some u) : (W.setCell p v).cell? p = some v := World.cell?_setCell_same' _ _ _ (by rw [h]; rfl)
theorem set_other {W : World} {p q : Addr} {u : Value} (v : Value) (h : W.cell? q = some u) (hne : q ≠ p) : (W.setCell p v).cell? q = some u := (World.cell?_setCell_other _ _ _ _ (fun e => hne (by first | exact e | exact e.symm))).trans h
def CaIn (w W : World) (r f lo tm : Int) (pv : Value) (ps : List Pr) (uv : Value) (use : List Int) (ev : Int) (B1 : Nat) (H K0 : Nat → Prop) (cs : List Cs) (x : Value × List Int) (Bx : Nat) (HV : Nat → Prop) (ys : List (Value × List Int)) (V : World) : Prop :=
 CaSt w r f lo tm pv uv ev (fun q => H q ∨ HV q) (cs ++ csOf ⟨r, f, lo, tm, ps⟩ use ev x.2 (ys.map (·.2))) V ∧ AxB B1 x Bx V ∧ (∀ q, HV q → W.heap.size ≤ q) ∧ KeepsFrom B1 W V ∧ KeepH (fun q => H q ∨ K0 q) W V ∧ W.heap.size ≤ V.heap.size
set_option maxRecDepth 100000 in
set_option maxHeartbeats 4000000 in
theorem cases_any (r f lo tm : Int) (pv : Value) (ps : List Pr) (uv : Value) (use : List Int) (ev : Int) (w : World) (hp : PrRow w pv ps) (hu : IsRow w uv use) (hr : rgB ⟨r, f, lo, tm, ps⟩ use ev = true) (h8 : use.length ≤ 8) :
  Calls Try.prog 21 #[.agg #[.int .i64 r, .int .i64 f, .int .i64 lo, .int .i64 tm, pv], .agg #[uv, .int .i64 ev]] w fun e w' => ∃ ov, e = .returned (.tuple #[ov, .int .i64 0]) ∧ OwnCs w' (w.heap.size + 5) (fun _ => False) ov (csL ⟨r, f, lo, tm, ps⟩ use ev) ∧ (∀ q, ov.ownBlock = some q → w.heap.size ≤ q ∧ q < w'.heap.size) ∧ Below w.heap.size w w' := by
 have hrg := (rgB_iff _ _ _).1 hr
 have hsi := (siN_iff _).1 ((siB_iff _).1 hrg.1).1
 simp only at hsi
 obtain ⟨F, hF⟩ : ∃ F : Nat, f = (F : Int) := ⟨f.toNat, by omega⟩
 obtain ⟨L, hL⟩ : ∃ L : Nat, lo = (L : Int) := ⟨lo.toNat, by omega⟩
 subst hF hL
 have hF5 : F ≤ 5 := by omega
 have hL16 : L ≤ 16 := by omega
 obtain ⟨ua, uc, rfl, u1, u2, -⟩ := id hu
 refine (callsIn_wide (n := 8)).1 ?_
 refine callsIn_of_wp_marks Try.func21 rfl trivial ?_ rfl
 simp only [Try.ntmps21, List.size_toArray, List.length_cons, List.length_nil, Nat.reduceAdd, Nat.reduceSub, Array.replicate_succ, Array.replicate_zero, List.push_toArray, List.append_toArray, List.nil_append, List.cons_append]
 gi_wp2_with fail
 obtain ⟨U0, hU0⟩ : ∃ U : World, U = ((((w.alloc (.cells #[.int .i64 r, .int .i64 (F : Int), .int .i64 (L : Int), .int .i64 tm, pv] 24)).alloc (.cells #[.slice ua use.length uc, .int .i64 ev] 27)).alloc (.cells #[.slice none 0 0] 33)).alloc (.cells #[.int .i64 0] 30)).alloc (.cells #[.slice none 0 0] 33) := ⟨_, rfl⟩
 rw [← hU0]
 have zU : U0.heap.size = w.heap.size + 5 := by rw [hU0]; simp
 have bU : Below w.heap.size w U0 := by rw [hU0]; ((with_reducible repeat' first | exact .refl _ _ | refine .alloc ?_ ?_ _ | refine .setCell ?_ ?_ _ | refine .drew ?_ | refine below_drewN ?_ _) <;> first | omega | simp <;> omega)
 have cU : CaSt w r F L tm pv (.slice ua use.length uc) ev (fun q => w.heap.size + 5 ≤ q) [] U0 := by
  refine ⟨bU, ⟨?_, ?_, ?_, ?_, ?_⟩, ⟨?_, ?_⟩, ⟨⟨?_, ?_⟩, ?_, ?_⟩, ⟨.slice none 0 0, ?_, ?_, OwnCs.nil _ _ _⟩, fun q h1 h2 => by omega⟩ <;> (rw [hU0]; simp [go_sem])
 clear hU0
 refine ⟨trivial, (callsIn_wide.2 (choose_any _ _ _ [] _ (IsRow.nil _))).mono ?_⟩
 rintro e w1 ⟨rfl, ⟨hc1, hc2, hc3⟩, z1, b1⟩
 have bw1 : Below w.heap.size w w1 := bU.trans (b1.mono (by omega))
 have cW : CaSt w r F L tm pv (.slice ua use.length uc) ev (ChH0 (U0.heap.size + 1) U0.heap.size (U0.heap.size + 2)) [] w1 :=
  cU.move (b1.mono (by omega)) (KeepN.of_below b1) fun q hq hh => by rcases hh with rfl | rfl | rfl <;> omega
 rw [zU] at hc1 hc2 hc3 cW
 have HCW := hide cW
 clear cU cW b1 bU
 gi_wp2_with fail
 have HP := hide hp
 have HU := hide hu
 have HR := hide hr
 have HB := hide bw1
 clear hp hu hr hrg bw1
 refine wpIn_rangeFunc_hg rfl (by omega) (gf := 62) (lb := #[.pointer (some ⟨w.heap.size + 5 + 1, 0, none⟩), .pointer (some ⟨w.heap.size + 5, 0, none⟩), .pointer (some ⟨w.heap.size + 5 + 2, 0, none⟩)]) rfl trivial (enters_of Try.func62 (by kernel_rfl) rfl)
  (encs := chEnc) (G := ChG w1.heap.size fun l => l ∈ chR (plFrom [] use.length 0) F) (S := fun xs => xs.map (·.2) = chR (plFrom [] use.length 0) F) (N := 256) (K0 := fun q => (Value.slice none 0 0).ownBlock = some q) (H0 := ChH0 (w.heap.size + 5 + 1) (w.heap.size + 5) (w.heap.size + 5 + 2)) (w0 := w1)
  (choose_seq 7 256 (by omega) _ _ _ F use.length (.slice none 0 0) [] w1.heap.size w1 (Nat.le_refl _) (by omega) (by omega) (ch_256 [] F h8) ⟨hc1, hc2, hc3⟩ (IsRow.nil _) (fun q hq => by simp [Value.ownBlock] at hq))
  (fun q hq => by simp [Value.ownBlock] at hq) (Below.refl _ _) (fun q hq => by rcases hq with rfl | rfl | rfl <;> omega) (fun _ => rfl)
  (Carry w.heap.size fun HV xs V => CaSt w r F L tm pv (.slice ua use.length uc) ev HV (caL ⟨r, F, L, tm, ps⟩ use ev (xs.map (·.2))) V) (Carry.own (by omega)) (Carry.start HCW.out (by omega) (fun q hq => by rcases hq with rfl | rfl | rfl <;> omega))
  (fun _ x a' W => x.2 ∈ chR (plFrom [] use.length 0) F ∧ ∃ Bx, w.heap.size + 5 ≤ Bx ∧ AxB w1.heap.size x Bx W ∧ a' = { tmps := #[.agg #[.int .i64 r, .int .i64 F, .int .i64 L, .int .i64 tm, pv], .agg #[.slice ua use.length uc, .int .i64 ev], .pointer (some ⟨w.heap.size, 0, none⟩), .pointer (some ⟨w.heap.size + 1, 0, none⟩), .pointer (some ⟨w.heap.size + 1 + 1, 0, none⟩), .pointer (some ⟨w.heap.size + 1 + 1 + 1, 0, none⟩), .pointer (some ⟨w.heap.size + 1 + 1 + 1 + 1, 0, none⟩), .pointer (some ⟨Bx, 0, none⟩), undef, undef, undef, .pointer (some ⟨w.heap.size + 1, 0, none⟩), .slice ua use.length uc, .int .i64 use.length, .pointer (some ⟨w.heap.size, 1, none⟩), .int .i64 F, .func (.func 62) #[] #[.pointer (some ⟨w.heap.size + 5 + 1, 0, none⟩), .pointer (some ⟨w.heap.size + 5, 0, none⟩), .pointer (some ⟨w.heap.size + 5 + 2, 0, none⟩)], x.1, undef, undef, undef, undef, undef, undef, undef, undef, undef, undef, undef, undef, undef, undef, undef, undef, undef, undef, undef, undef, undef, undef, undef, undef, undef, undef, undef, undef], defers := [] })
  (fun _ x a' _ X Y row ⟨h0, Bx, h1, h2, h3⟩ hg hr => ⟨h0, Bx, h1, AxB.own (B := w1.heap.size) () X Y row h2 hg hr, h3⟩) ?assign ?body ?done
 case assign =>
  rintro q H pre x W K hI hG hlt hK
  obtain ⟨g1, g2, g3⟩ := hG
  have hz : w.heap.size + 5 ≤ W.heap.size := by
   obtain ⟨V, HV, hc, hBV, -⟩ := hI
   obtain ⟨-, -, -, ov, e0, -⟩ := hc.cells
   have h1 := World.block_lt_of_cell? _ _ e0
   have h2 := hBV.size
   simp only at h1
   omega
  have hI2 := (Carry.own (B := w1.heap.size) (by omega)).alloc (.cells #[x.1] 25) hI
  obtain ⟨xa, xc, hxv, -⟩ := id g1
  have hA : AxB w1.heap.size x W.heap.size (W.alloc (.cells #[x.1] 25)) := ⟨⟨g1.below (Nat.le_refl _) (by ((with_reducible repeat' first | exact .refl _ _ | refine .alloc ?_ ?_ _ | refine .setCell ?_ ?_ _ | refine .drew ?_ | refine below_drewN ?_ _) <;> first | omega | simp <;> omega)), fun q hq => by
   obtain ⟨⟨_, h1⟩, c, fz, h2⟩ := g2 q hq
   exact ⟨h1, c, fz, (Below.heap_alloc _ _ _ (Array.getElem?_eq_some_iff.1 h2).1).trans h2⟩⟩, World.alloc_heap_new W _⟩
  have hKH : KeepH (fun r => H r ∨ (Value.slice none 0 0).ownBlock = some r) W (W.alloc (.cells #[x.1] 25)) := ⟨by simp, fun r hr => Below.heap_alloc _ _ _ (by
   rcases hr with h | h
   ·exact hlt r h
   ·simp [Value.ownBlock] at h)⟩
  obtain ⟨x1, x2⟩ := x
  simp only at hxv
  subst hxv
  simp only [chEnc]
  gi_wp2
  exact hK _ _ ((KeepsOthers.alloc _ _).from _) hKH hI2 ⟨g3, W.heap.size, hz, hA, rfl⟩
 case body =>
  rintro q H pre x a' W hq hrec hHlt hnq hI ⟨hxm, Bx, hBx, hAx, rfl⟩ hlen
  have cW : CaSt w r F L tm pv (.slice ua use.length uc) ev H (caL ⟨r, F, L, tm, ps⟩ use ev (pre.map (·.2))) W := by
   obtain ⟨V, HV, hc, hBV, hbV, hHV, hk⟩ := hI
   exact hc.move hBV hk fun r hr hh => (hHV r hh).2.resolve_right (by omega)
  obtain ⟨⟨a0, a1, a2, a3, a4⟩, ⟨e0, e1⟩, -, -⟩ := cW.cells
  have kBx : W.cell? ⟨Bx, 0, none⟩ = some x.1 := by
   have h := hAx.2
   simp [World.cell?, h]
  have hrowx := hAx.1.1
  obtain ⟨xa, xc, hxv, -⟩ := id hrowx
  have HcW := hide cW
  have HAx := hide hAx
  have HI := hide hI
  have Hrx := hide hrowx
  clear cW hAx hI hrowx hc1 hc2 hc3
  obtain ⟨x1, x2⟩ := x
  simp only at hxv kBx hxm
  subst hxv
  gi_wp2_with fail
  refine ⟨trivial, (CallsIn.inRound q (callsIn_wide.2 (choose_any _ _ _ x2 _ Hrx.out))).mono ?_⟩
  rintro e w2 ⟨rfl, ⟨hd1, hd2, hd3⟩, z2, b2⟩
  obtain ⟨r₀, hr₀⟩ := hrec
  have hr₂ : w2.heap[q]? = some (.loop r₀) := (b2.block q (Array.getElem?_eq_some_iff.1 hr₀).1).trans hr₀
  have hxb : ∀ q', (Value.slice xa x2.length xc).ownBlock = some q' → q' < W.heap.size := fun q' hq' => by
   obtain ⟨-, c, fz, h⟩ := HAx.out.1.2 q' hq'
   exact (Array.getElem?_eq_some_iff.1 h).1
  have hwW : w.heap.size ≤ W.heap.size := HcW.out.1.size
  have cIn : CaIn w W r F L tm pv ps (.slice ua use.length uc) use ev w1.heap.size H (fun q => (Value.slice none 0 0).ownBlock = some q) (caL ⟨r, F, L, tm, ps⟩ use ev (pre.map (·.2))) (.slice xa x2.length xc, x2) Bx (ChH0 (W.heap.size + 1) W.heap.size (W.heap.size + 2)) [] w2 := by
   refine ⟨?_, HAx.out.below b2, fun r hr => by rcases hr with rfl | rfl | rfl <;> omega, (KeepsOthers.of_grownBy (grown_below b2) (fun r o h => by cases h)).from _, ⟨b2.size, fun r hr => b2.block r ?_⟩, b2.size⟩
   ·rw [show csOf (⟨r, F, L, tm, ps⟩ : Si) use ev x2 (([] : List (Value × List Int)).map (·.2)) = [] from rfl, List.append_nil]
    exact HcW.out.move (b2.mono hwW) (KeepN.of_below b2) fun r hr hh => hh.resolve_right (by rintro (rfl | rfl | rfl) <;> omega)
   ·rcases hr with h | h
    ·exact hHlt r h
    ·simp [Value.ownBlock] at h
  have HcIn := hide cIn
  clear cIn
  gi_wp2_with fail
  refine wpIn_rangeFunc_hgN (l₀ := q) rfl hr₂ (by omega) (gf := 62) (lb := #[.pointer (some ⟨W.heap.size + 1, 0, none⟩), .pointer (some ⟨W.heap.size, 0, none⟩), .pointer (some ⟨W.heap.size + 2, 0, none⟩)]) rfl trivial (enters_of Try.func62 (by kernel_rfl) rfl)
   (encs := chEnc) (G := ChG w2.heap.size fun l => l ∈ chR (plFrom x2 use.length 0) L) (S := fun ys => ys.map (·.2) = chR (plFrom x2 use.length 0) L) (N := 256) (K0 := fun q => (Value.slice xa x2.length xc).ownBlock = some q) (H0 := ChH0 (W.heap.size + 1) W.heap.size (W.heap.size + 2)) (w0 := w2)
   (SeqHG.inRound q (choose_seq 5 256 (by omega) _ _ _ L use.length (.slice xa x2.length xc) x2 w2.heap.size w2 (Nat.le_refl _) (by omega) (by omega) (ch_256 x2 L h8) ⟨hd1, hd2, hd3⟩ (Hrx.out.below (Nat.le_refl _) b2) (fun q' hq' => by have := hxb q' hq'; omega)))
   (fun q' hq' => by have := hxb q' hq'; omega) (Below.refl _ _) (fun q' hq' => by rcases hq' with rfl | rfl | rfl <;> omega) (fun _ => rfl)
   (Carry W.heap.size (CaIn w W r F L tm pv ps (.slice ua use.length uc) use ev w1.heap.size H (fun q => (Value.slice none 0 0).ownBlock = some q) (caL ⟨r, F, L, tm, ps⟩ use ev (pre.map (·.2))) (.slice xa x2.length xc, x2) Bx)) (Carry.own (by omega)) (Carry.start HcIn.out (by omega) (fun q' hq' => by rcases hq' with rfl | rfl | rfl <;> omega))
   (fun Hin y a' V => y.2 ∈ chR (plFrom x2 use.length 0) L ∧ RwT Hin V y.1 y.2 ∧ (∀ q', y.1.ownBlock = some q' → w2.heap.size ≤ q') ∧ a' = { tmps := #[.agg #[.int .i64 r, .int .i64 F, .int .i64 L, .int .i64 tm, pv], .agg #[.slice ua use.length uc, .int .i64 ev], .pointer (some ⟨w.heap.size, 0, none⟩), .pointer (some ⟨w.heap.size + 1, 0, none⟩), .pointer (some ⟨w.heap.size + 1 + 1, 0, none⟩), .pointer (some ⟨w.heap.size + 1 + 1 + 1, 0, none⟩), .pointer (some ⟨w.heap.size + 1 + 1 + 1 + 1, 0, none⟩), .pointer (some ⟨Bx, 0, none⟩), y.1, undef, undef, .pointer (some ⟨w.heap.size + 1, 0, none⟩), .slice ua use.length uc, .int .i64 use.length, .pointer (some ⟨w.heap.size, 1, none⟩), .int .i64 F, .func (.func 62) #[] #[.pointer (some ⟨w.heap.size + 5 + 1, 0, none⟩), .pointer (some ⟨w.heap.size + 5, 0, none⟩), .pointer (some ⟨w.heap.size + 5 + 2, 0, none⟩)], .slice xa x2.length xc, .pointer (some ⟨w.heap.size + 1, 0, none⟩), .slice ua use.length uc, .int .i64 use.length, .pointer (some ⟨w.heap.size, 2, none⟩), .int .i64 L, .slice xa x2.length xc, .func (.func 62) #[] #[.pointer (some ⟨W.heap.size + 1, 0, none⟩), .pointer (some ⟨W.heap.size, 0, none⟩), .pointer (some ⟨W.heap.size + 2, 0, none⟩)], y.1, undef, undef, undef, undef, undef, undef, undef, undef, undef, undef, undef, undef, undef, undef, undef, undef, undef, undef, undef, undef], defers := [] })
   ?ax2 ?assign2 ?body2 ?done2
  case ax2 =>
   rintro Hin y a' _ X Y row ⟨h0, h1, h2, h3⟩ hg hr
   exact ⟨h0, h1.move (keepN_walk hg hr) (fun _ _ h => h), h2, h3⟩
  case assign2 =>
   rintro q2 Hin ys y V K hIn hG hlt2 hK
   obtain ⟨g1, g2, g3⟩ := hG
   obtain ⟨ya, yc, hyv, -⟩ := id g1
   obtain ⟨y1, y2⟩ := y
   simp only at hyv
   subst hyv
   simp only [chEnc]
   gi_wp2
   exact hK _ _ (KeepsFrom.refl _ _) (KeepH.refl _ _) hIn ⟨g3, ⟨g1, fun q' hq' => ⟨(g2 q' hq').1.1, (g2 q' hq').2⟩⟩, fun q' hq' => (g2 q' hq').1.2, rfl⟩
  case body2 =>
   rintro q2 Hin ys y a' W3 hq2 hrec2 hHlt2 hnq2 hI2 ⟨hym, hRy, hyb, rfl⟩ hlen2
   obtain ⟨c3, hA3, hHin, hk3, hK3, hz3⟩ : CaIn w W r F L tm pv ps (.slice ua use.length uc) use ev w1.heap.size H (fun q => (Value.slice none 0 0).ownBlock = some q) (caL ⟨r, F, L, tm, ps⟩ use ev (pre.map (·.2))) (.slice xa x2.length xc, x2) Bx Hin ys W3 := by
    obtain ⟨V, HV, ⟨hcV, hAV, hHV, hkV, hKV, hzV⟩, hBV, hbV, hHV2, hkN⟩ := hI2
    have hz := hBV.size
    refine ⟨hcV.move (hBV.mono hwW) ⟨hz, fun q' o hq' ho hn => hkN.2 q' o hq' ho fun hh => hn (.inr hh)⟩ (fun q' hq' hh => ?_), ?_, fun r hr => (hHV2 r hr).1, ⟨by omega, fun k o hk h0 ho => (hBV.block k (Array.getElem?_eq_some_iff.1 h0).1).trans (hkV.same k o hk h0 ho)⟩, ⟨by omega, fun k hk => (hBV.block k (by
      rcases hk with h | h
      ·exact hHlt k h
      ·simp [Value.ownBlock] at h)).trans (hKV.2 k hk)⟩, by omega⟩
    ·rcases hh with h | h
     ·exact .inl h
     ·exact .inr ((hHV2 q' h).2.resolve_right (by omega))
    ·have hl1 : ∀ q', (Value.slice xa x2.length xc).ownBlock = some q' → W3.heap[q']? = V.heap[q']? := fun q' hq' => hBV.block q' (hxb q' hq')
     have hBx2 : Bx < W.heap.size := (Array.getElem?_eq_some_iff.1 HAx.out.2).1
     refine ⟨⟨isrow_same31 hAV.1.1 hz hl1, fun q' hq' => ?_⟩, (hBV.block Bx hBx2).trans hAV.2⟩
     obtain ⟨h1, c, fz, h2⟩ := hAV.1.2 q' hq'
     exact ⟨h1, c, fz, (hl1 q' hq').trans h2⟩
   have hlm : lmB ⟨r, F, L, tm, ps⟩ use ev x2 y.2 = true := by
    unfold lmB
    rw [HR.out, Bool.true_and, coB_iff]
    have h1 := (mem_choice [] use.length F x2).1 hxm
    have h2 := (mem_choice x2 use.length L y.2).1 hym
    exact ⟨h1.1, h2.1, (cmB_iff _ _).2 fun z hz hz2 => h2.2 z hz2 hz⟩
   have hLE : lmE ⟨r, F, L, tm, ps⟩ use ev x2 y.2 = 0 := by unfold lmE; rw [if_pos hlm]
   have hLV : lmV ⟨r, F, L, tm, ps⟩ use ev x2 y.2 = lim ⟨r, F, L, tm, ps⟩ use ev x2 y.2 := by unfold lmV; rw [if_pos hlm]
   have c3 : CaSt w r F L tm pv (.slice ua use.length uc) ev (fun q' => H q' ∨ Hin q') (caL ⟨r, F, L, tm, ps⟩ use ev (pre.map (·.2)) ++ csOf ⟨r, F, L, tm, ps⟩ use ev x2 (ys.map (·.2))) W3 := c3
   obtain ⟨⟨a0, a1, a2, a3, a4⟩, ⟨e0, e1⟩, -, ov, o0, o1, o2⟩ := c3.cells
   have kBx3 : W3.cell? ⟨Bx, 0, none⟩ = some (.slice xa x2.length xc) := by
    have h := hA3.2
    simp [World.cell?, h]
   have hLi := Limit_any r F L tm pv ps (.slice ua use.length uc) use ev (.slice xa x2.length xc) x2 y.1 y.2 W3 (HP.out.below (Nat.le_refl _) c3.1) (HU.out.below (Nat.le_refl _) c3.1) hA3.1.1 hRy.1
   rw [hLE, hLV] at hLi
   obtain ⟨ya, yc, hyv, -⟩ := id hRy.1
   have Hc3 := hide c3
   have HA3 := hide hA3
   have HRy := hide hRy
   have Hk3 := hide (And.intro hk3 hK3)
   have HHin := hide hHin
   have HLi := hide hLi
   have HI2 := hide hI2
   obtain ⟨oa, oc, hov, oq1, oq2⟩ := o2.len
   have Ho2 := hide o2
   clear c3 hA3 hRy hk3 hK3 hHin hLi hI2 hlm hLE hLV o2
   obtain ⟨y1, y2⟩ := y
   simp only at hyv hyb hym
   subst hyv hov
   gi_wp2_with fail
   refine ⟨trivial, (CallsIn.inRound q2 (CallsIn.inRound q (callsIn_wide.2 HLi.out))).mono ?_⟩
   rintro e w4 ⟨rfl, b4⟩
   generalize hlim : lim ⟨r, F, L, tm, ps⟩ use ev x2 y2 = X at *
   have hCl1 := caL_len (⟨r, F, L, tm, ps⟩ : Si) use ev h8 (pre.map (·.2))
   have hCl2 : (csOf (⟨r, F, L, tm, ps⟩ : Si) use ev x2 (ys.map (·.2))).length = ys.length := by rw [csOf, List.length_map, List.length_map]
   have hCSs : csOf (⟨r, F, L, tm, ps⟩ : Si) use ev x2 ((ys ++ [((Value.slice ya y2.length yc, y2) : Value × List Int)]).map (fun z => z.2)) = csOf (⟨r, F, L, tm, ps⟩ : Si) use ev x2 (ys.map (fun z => z.2)) ++ [⟨x2, y2, X⟩] := by
    rw [← hlim]; simp [csOf]
   have HCSs := hide hCSs
   have HX := hide hlim
   obtain ⟨CS, hCS⟩ : ∃ CS, CS = caL ⟨r, F, L, tm, ps⟩ use ev (pre.map (·.2)) ++ csOf ⟨r, F, L, tm, ps⟩ use ev x2 (ys.map (·.2)) := ⟨_, rfl⟩
   have hCSl : CS.length ≤ 66000 := by
    rw [hCS, List.length_append, hCl2]
    rw [List.length_map] at hCl1
    omega
   have HCS := hide hCS
   rw [← hCS] at Hc3 Ho2 o0 oq1
   clear hCS
   have hx2F : x2.length ≤ 1000 := by
    have h := ((isB_iff _ _ _).1 ((mem_choice [] use.length F x2).1 hxm).1).2.2
    omega
   obtain ⟨xs, hx1, hx2, hx3, hx4⟩ := Ho2.out
   have hxl : xs.length = CS.length := by rw [← hx1, List.length_map]
   have hW5 : w.heap.size + 5 ≤ W.heap.size := by
    obtain ⟨-, -, -, ov', h, -⟩ := HcW.out.cells
    have h2 := World.block_lt_of_cell? _ _ h
    simp only at h2
    omega
   have hW35 : w.heap.size + 5 ≤ W3.heap.size := by omega
   obtain ⟨i0, hi0, hz0, hz1, hz2⟩ := info_parts infoCs
   have zd : w4.drew.heap.size = w4.heap.size := rfl
   have z4 := b4.size
   have hN3 : ∀ q', (H q' ∨ Hin q') → q' < W3.heap.size := fun q' h => h.elim (fun h => by have := hHlt q' h; omega) (hHlt2 q')
   have hApp : ∀ (a5 : Option Addr) (c5 : Nat) (w5 : World) (bb : Nat), W3.heap.size ≤ bb → OwnIs w5 bb (.slice a5 x2.length c5) x2 → Below W3.heap.size W3 w5 → ∃ (a6 : Option Addr) (c6 : Nat) (w6 : World),
     (Builtin.append_ #[33, 33] 33 #[.slice oa CS.length oc, .slice (some ⟨w5.heap.size, 0, none⟩) 1 1]).run Try.prog (w5.alloc (.cells #[.slice a5 x2.length c5, .slice ya y2.length yc, .int .i64 X] 44)) = .ok (.slice a6 (CS.length + 1) c6) w6 ∧
     (w6.cell? ⟨w.heap.size + 1 + 1 + 1 + 1, 0, none⟩ = some (.slice oa CS.length oc) ∧ w6.frozen? ⟨w.heap.size + 1 + 1 + 1 + 1, 0, none⟩ = false) ∧
     CaSt w r F L tm pv (.slice ua use.length uc) ev (fun q' => H q' ∨ Hin q') (CS ++ [⟨x2, y2, X⟩]) (w6.setCell ⟨w.heap.size + 4, 0, none⟩ (.slice a6 (CS.length + 1) c6)) ∧ W3.heap.size ≤ (w6.setCell ⟨w.heap.size + 4, 0, none⟩ (.slice a6 (CS.length + 1) c6)).heap.size ∧
     ∀ q', q' < W3.heap.size → (∀ k, (Value.slice oa CS.length oc).ownBlock = some k → q' ≠ k) → q' ≠ w.heap.size + 4 → (w6.setCell ⟨w.heap.size + 4, 0, none⟩ (.slice a6 (CS.length + 1) c6)).heap[q']? = W3.heap[q']? := by
    intro a5 c5 w5 bb hbb ho5 b5
    have hx2' : w5.ownsRow (w.heap.size + 5) 44 3 (.slice oa CS.length oc) CS.length (xs.flatMap encC) := by
     have h := ownsRow_below hx2 b5
     rwa [hxl] at h
    have h61 : RwT (fun q' => H q' ∨ Hin q') w5 (.slice a5 x2.length c5) x2 := ⟨ho5.row, fun q' hq' => ⟨fun hh => by have h1 := (World.ownsRow.lt ho5 q' hq').1; have h2 := hN3 q' hh; omega, Lib.ownsRow_kind ho5 q' hq'⟩⟩
    have h62' : RwT (fun q' => H q' ∨ Hin q') W3 (.slice ya y2.length yc) y2 := ⟨HRy.out.1, fun q' hq' => ⟨fun hh => hh.elim (fun h => by have h1 := hHlt q' h; have h2 := hyb q' hq'; have := b2.size; omega) (HRy.out.2 q' hq').1, (HRy.out.2 q' hq').2⟩⟩
    have h62 := h62'.move (KeepN.of_below b5) fun _ _ h => h
    have hlen : (encC (⟨.slice a5 x2.length c5, .slice ya y2.length yc, ⟨x2, y2, X⟩⟩ : Cv)).length = 1 * 3 := rfl
    have hz5 := b5.size
    have hwz : w.heap.size + 5 ≤ w5.heap.size := by
     have h := World.block_lt_of_cell? _ _ o0
     simp only at h
     omega
    obtain ⟨v6, w6, hrun, hown6, hg6, -⟩ := run_append_own (P := Try.prog) (w5.alloc (.cells #[.slice a5 x2.length c5, .slice ya y2.length yc, .int .i64 X] 44)) (w.heap.size + 5) 33 33 44 i0 _ 3 56 Try.underlying33 hi0 hz0 hz1 hz2 rfl (by decide) _ CS.length _ (World.ownsRow.alloc hx2' _) ⟨w5.heap.size, 0, none⟩ 1 1 (encC (⟨.slice a5 x2.length c5, .slice ya y2.length yc, ⟨x2, y2, X⟩⟩ : Cv)) hlen (cells_new w5 (encC (⟨.slice a5 x2.length c5, .slice ya y2.length yc, ⟨x2, y2, X⟩⟩ : Cv)) 44) (encC_one h61 h62) (by unfold maxLen; omega) (by omega) (by simp; omega)
    have hblk := append_block (w.heap.size + 5) 44 i0 _ 3 56 Try.underlying33 hi0 hz0 hz1 hz2 rfl (by decide) (World.ownsRow.alloc hx2' _) ⟨w5.heap.size, 0, none⟩ 1 1 (encC (⟨.slice a5 x2.length c5, .slice ya y2.length yc, ⟨x2, y2, X⟩⟩ : Cv)) hlen (cells_new w5 (encC (⟨.slice a5 x2.length c5, .slice ya y2.length yc, ⟨x2, y2, X⟩⟩ : Cv)) 44) (encC_one h61 h62) (by unfold maxLen; omega) (by omega) hrun
    have hcs := cs_step (x6 := (⟨.slice a5 x2.length c5, .slice ya y2.length yc, ⟨x2, y2, X⟩⟩ : Cv)) (cs := CS) Hc3.out o0 hx1 hx2 hx3 hx4 hN3 b5 hg6 (by rw [hxl]; exact hown6) hblk h61 h62 ⟨fun q' hq' => by have := (World.ownsRow.lt ho5 q' hq').1; have := hz3; omega, fun q' hq' => by have := hyb q' hq'; have := b2.size; omega⟩
    obtain ⟨a6, c6, rfl⟩ := ownsRow_val hown6
    have hb4 : w6.heap[w.heap.size + 4]? = W3.heap[w.heap.size + 4]? := ((hg6.block _ (by simp; omega) (fun e => by have := (World.ownsRow.lt hx2 _ e.symm).1; omega)).trans (Below.heap_alloc _ _ _ (by omega))).trans (b5.block _ (World.block_lt_of_cell? _ _ o0))
    exact ⟨a6, c6, w6, hrun, ⟨(World.cell?_of_block (a := ⟨w.heap.size + 4, 0, none⟩) hb4).trans o0, (World.frozen?_of_block (a := ⟨w.heap.size + 4, 0, none⟩) hb4).trans o1⟩, hcs⟩
   have FIN : ∀ (a6 : Option Addr) (c6 : Nat) (w6 : World) (aa : Act),
     (CaSt w r F L tm pv (.slice ua use.length uc) ev (fun q' => H q' ∨ Hin q') (CS ++ [⟨x2, y2, X⟩]) (w6.setCell ⟨w.heap.size + 4, 0, none⟩ (.slice a6 (CS.length + 1) c6)) ∧ W3.heap.size ≤ (w6.setCell ⟨w.heap.size + 4, 0, none⟩ (.slice a6 (CS.length + 1) c6)).heap.size ∧
     ∀ q', q' < W3.heap.size → (∀ k, (Value.slice oa CS.length oc).ownBlock = some k → q' ≠ k) → q' ≠ w.heap.size + 4 → (w6.setCell ⟨w.heap.size + 4, 0, none⟩ (.slice a6 (CS.length + 1) c6)).heap[q']? = W3.heap[q']?) →
     hidPost w2.heap.size (fun q => (Value.slice xa x2.length xc).ownBlock = some q) (Carry W.heap.size (CaIn w W r F L tm pv ps (.slice ua use.length uc) use ev w1.heap.size H (fun q => (Value.slice none 0 0).ownBlock = some q) (caL ⟨r, F, L, tm, ps⟩ use ev (pre.map (·.2))) (.slice xa x2.length xc, x2) Bx)) Hin (ys ++ [(.slice ya y2.length yc, y2)]) W3 .normal aa (w6.setCell ⟨w.heap.size + 4, 0, none⟩ (.slice a6 (CS.length + 1) c6)) := by
    intro a6 c6 w6 aa
    generalize w6.setCell ⟨w.heap.size + 4, 0, none⟩ (.slice a6 (CS.length + 1) c6) = Wf
    rintro ⟨c, hz, hs⟩
    obtain ⟨⟨hk3, hK3⟩, hA3⟩ := And.intro Hk3.out HA3.out
    have hg5 : ∀ q', q' < w.heap.size + 5 → ¬ (H q' ∨ Hin q') := c.2.2.2.2.2
    have kov : ∀ k, (Value.slice oa CS.length oc).ownBlock = some k → ∃ c fz, W3.heap[k]? = some (.cells c 44 fz) := fun k hk => Lib.ownsRow_kind hx2 k hk
    have hs1 : ∀ q' o, W3.heap[q']? = some o → (∀ c fz, o ≠ .cells c 44 fz) → q' ≠ w.heap.size + 4 → Wf.heap[q']? = some o := by
     intro q' o h1 h2 h3
     refine (hs q' (Array.getElem?_eq_some_iff.1 h1).1 (fun k hk e => ?_) h3).trans h1
     subst e
     obtain ⟨c', fz, h4⟩ := kov _ hk
     rw [h1] at h4
     exact h2 c' fz (Option.some.inj h4)
    have hs2 : ∀ q', (H q' ∨ Hin q') → q' < W3.heap.size → Wf.heap[q']? = W3.heap[q']? := fun q' h h2 => hs q' h2 (fun k hk e => by subst e; exact hx3 _ hk h) (fun e => hg5 q' (by omega) h)
    have hw1 : w.heap.size + 5 ≤ w1.heap.size := by omega
    have kf : ∀ B, w.heap.size + 5 ≤ B → KeepsFrom B W3 Wf := fun B hB => ⟨hz, fun k o hk h1 h2 => hs1 k o h1 (fun c fz e => by subst e; cases h2) (by omega)⟩
    have hxr : ∀ q', (Value.slice xa x2.length xc).ownBlock = some q' → Wf.heap[q']? = W3.heap[q']? := fun q' hq' => by
     obtain ⟨h1, c', fz, h2⟩ := hA3.1.2 q' hq'
     exact (hs1 q' _ h2 (fun c'' fz' e => by simp only [Obj.cells.injEq] at e; exact absurd e.2.1 (by decide)) (by omega)).trans h2.symm
    refine ⟨kf _ (by omega), ⟨hz, fun k hk => ?_⟩, Carry.start ?_ (by omega) HHin.out⟩
    ·rcases hk with h | h
     ·exact hs2 k (.inr h) (hHlt2 k h)
     ·exact hxr k h
    ·refine ⟨?_, ⟨⟨isrow_same31 hA3.1.1 hz hxr, fun q' hq' => ?_⟩, hs1 _ _ hA3.2 (fun c'' fz' e => by simp only [Obj.cells.injEq] at e; exact absurd e.2.1 (by decide)) (by omega)⟩, HHin.out, hk3.trans (kf _ hw1), ⟨Nat.le_trans hK3.1 hz, fun k hk => ?_⟩, by omega⟩
     ·rw [HCS.out, List.append_assoc] at c
      simp only
      rw [show csOf (⟨r, F, L, tm, ps⟩ : Si) use ev x2 ((ys ++ [((Value.slice ya y2.length yc, y2) : Value × List Int)]).map (fun z => z.2)) = _ from HCSs.out]
      exact c
     ·obtain ⟨h1, c', fz, h2⟩ := hA3.1.2 q' hq'
      exact ⟨h1, c', fz, (hxr q' hq').trans h2⟩
     ·rcases hk with h | h
      ·exact (hs2 k (.inl h) (by have := hHlt k h; omega)).trans (hK3.2 k (.inl h))
      ·simp [Value.ownBlock] at h
   have HApp := hide hApp
   have HFIN := hide FIN
   clear FIN
   have HCl := hide (fun V (hV : Below W3.heap.size W3 V) => CloneW_any _ x2 V (HA3.out.1.1.below (Nat.le_refl _) hV) hx2F)
   have hg4 : w.heap.size + 1 + 1 + 1 + 1 < W3.heap.size := by omega
   have hBx3 : Bx < W3.heap.size := (Array.getElem?_eq_some_iff.1 HA3.out.2).1
   have o0w := (b4.cell (p := ⟨w.heap.size + 1 + 1 + 1 + 1, 0, none⟩) hg4).trans o0
   have kBxw := (b4.cell (p := ⟨Bx, 0, none⟩) hBx3).trans kBx3
   clear hApp a0 a1 a2 a3 a4 e0 e1 o0 o1 kBx3 kBx hx1 hx2 hx3 hx4 hCl1 hCl2 hCSs hN3
   gi_wp2_with fail
   refine wpIn_region_anyR (F := Fence.wide) (by kernel_rfl) (by kernel_rfl) ?_
   refine wpAnyIn_take (i := 3) (v := .slice ya y2.length yc) rfl rfl (by kernel_rfl) (by kernel_rfl) (by kernel_rfl) (fun _ _ _ h => h) ⟨Or.inl ⟨by rfl, by intro w; go_simp⟩, fun _ => rfl⟩ ?_
   refine wpAnyIn_take (i := 4) (v := .int .i64 X) rfl rfl (by kernel_rfl) (by kernel_rfl) (by kernel_rfl) (fun _ _ _ h => h) ⟨Or.inl ⟨by rfl, by intro w; go_simp⟩, fun _ => rfl⟩ ?_
   refine wpAnyIn_ready (rs := [0, 1]) (by kernel_rfl) (by simp) ?_
   refine AllReadyIn.cons rfl (fun K hK => ?_) (AllReadyIn.cons rfl (fun K hK => ?_) AllReadyIn.nil)
   ·go_simp; refine hK _ _ ?_; clear hK K
    refine wpAnyIn_ready (rs := [1]) (by kernel_rfl) (by simp) ?_
    refine AllReadyIn.cons rfl (fun K hK => ?_) AllReadyIn.nil
    go_simp; refine hK _ _ ?_; clear hK K
    refine wpAnyIn_ready (rs := [2]) (by kernel_rfl) (by simp) ?_
    refine AllReadyIn.cons rfl (fun K hK => ?_) AllReadyIn.nil
    go_simp
    refine ⟨trivial, (callsIn_wide.2 (HCl.out _ (by ((with_reducible repeat' first | exact .refl _ _ | exact b4 | refine .alloc ?_ ?_ _ | refine .setCell ?_ ?_ _ | refine .drew ?_ | refine below_drewN ?_ _ | refine Below.trans ?_ (b4.mono ?_)) <;> first | omega | simp <;> omega)))).mono ?_⟩
    rintro e w5 ⟨v5, rfl, ho5, k5⟩
    obtain ⟨a5, c5, hv5, -, -⟩ := ho5.val
    subst hv5
    have k35 : Below W3.heap.size W3 w5 := (by ((with_reducible repeat' first | exact .refl _ _ | exact b4 | exact k5 | refine .alloc ?_ ?_ _ | refine .setCell ?_ ?_ _ | refine .drew ?_ | refine below_drewN ?_ _ | refine Below.trans ?_ (b4.mono ?_) | refine Below.trans ?_ (k5.mono ?_)) <;> first | omega | simp <;> omega))
    obtain ⟨a6, c6, w6, hrun, ⟨o6, of6⟩, hF⟩ := HApp.out a5 c5 w5 _ (show W3.heap.size ≤ w4.drew.heap.size from z4) ho5 k35
    have o5 := (k5.cell (p := ⟨w.heap.size + 1 + 1 + 1 + 1, 0, none⟩) (show w.heap.size + 1 + 1 + 1 + 1 < w4.drew.heap.size from Nat.lt_of_lt_of_le hg4 z4)).trans o0w
    have o5a : (w5.alloc (.cells #[.slice a5 x2.length c5, .slice ya y2.length yc, .int .i64 X] 44)).cell? ⟨w.heap.size + 1 + 1 + 1 + 1, 0, none⟩ = some (.slice oa CS.length oc) := (World.cell?_of_block (a := ⟨w.heap.size + 1 + 1 + 1 + 1, 0, none⟩) (Below.heap_alloc _ _ _ (World.block_lt_of_cell? _ _ o5))).trans o5
    have HF := hide hF
    clear hF
    refine hK _ _ ?_
    clear hK K
    refine wpAnyIn_take (i := 5) (v := .agg #[.slice a5 x2.length c5, .slice ya y2.length yc, .int .i64 X]) rfl rfl (by kernel_rfl) (by kernel_rfl) (by kernel_rfl) (fun _ _ _ h => h) ⟨Or.inl ⟨by rfl, by intro w; go_simp⟩, fun _ => rfl⟩ ?_
    refine wpAnyIn_ready (rs := [6]) (by kernel_rfl) (by simp) ?_
    refine AllReadyIn.cons rfl (fun K hK => ?_) AllReadyIn.nil
    go_simp; refine hK _ _ ?_; clear hK K
    refine wpAnyIn_ready (rs := [7]) (by kernel_rfl) (by simp) ?_
    refine AllReadyIn.cons rfl (fun K hK => ?_) AllReadyIn.nil
    rw [if_pos (by rfl)]
    refine wpIn_append_run _ _ _ (.slice oa CS.length oc) (.slice a6 (CS.length + 1) c6) (.slice (some ⟨w5.heap.size, 0, none⟩) 1 1) rfl (by rfl) (by rfl) hrun (hK _ _ ?_)
    clear hK K
    refine wpAnyIn_ready (rs := [8]) (by kernel_rfl) (by simp) ?_
    refine AllReadyIn.cons rfl (fun K hK => ?_) AllReadyIn.nil
    go_simp; refine hK _ _ ?_; clear hK K
    refine wpAnyIn_done (by kernel_rfl) ?_ _
    exact HFIN.out _ _ _ { tmps := #[], defers := [] } HF.out
   ·go_simp; refine hK _ _ ?_; clear hK K
    refine wpAnyIn_ready (rs := [0, 2]) (by kernel_rfl) (by simp) ?_
    refine AllReadyIn.cons rfl (fun K hK => ?_) (AllReadyIn.cons rfl (fun K hK => ?_) AllReadyIn.nil)
    ·go_simp; refine hK _ _ ?_; clear hK K
     refine wpAnyIn_ready (rs := [2]) (by kernel_rfl) (by simp) ?_
     refine AllReadyIn.cons rfl (fun K hK => ?_) AllReadyIn.nil
     go_simp
     refine ⟨trivial, (callsIn_wide.2 (HCl.out _ (by ((with_reducible repeat' first | exact .refl _ _ | exact b4 | refine .alloc ?_ ?_ _ | refine .setCell ?_ ?_ _ | refine .drew ?_ | refine below_drewN ?_ _ | refine Below.trans ?_ (b4.mono ?_)) <;> first | omega | simp <;> omega)))).mono ?_⟩
     rintro e w5 ⟨v5, rfl, ho5, k5⟩
     obtain ⟨a5, c5, hv5, -, -⟩ := ho5.val
     subst hv5
     have k35 : Below W3.heap.size W3 w5 := (by ((with_reducible repeat' first | exact .refl _ _ | exact b4 | exact k5 | refine .alloc ?_ ?_ _ | refine .setCell ?_ ?_ _ | refine .drew ?_ | refine below_drewN ?_ _ | refine Below.trans ?_ (b4.mono ?_) | refine Below.trans ?_ (k5.mono ?_)) <;> first | omega | simp <;> omega))
     obtain ⟨a6, c6, w6, hrun, ⟨o6, of6⟩, hF⟩ := HApp.out a5 c5 w5 _ (show W3.heap.size ≤ w4.drew.heap.size from z4) ho5 k35
     have o5 := (k5.cell (p := ⟨w.heap.size + 1 + 1 + 1 + 1, 0, none⟩) (show w.heap.size + 1 + 1 + 1 + 1 < w4.drew.heap.size from Nat.lt_of_lt_of_le hg4 z4)).trans o0w
     have o5a : (w5.alloc (.cells #[.slice a5 x2.length c5, .slice ya y2.length yc, .int .i64 X] 44)).cell? ⟨w.heap.size + 1 + 1 + 1 + 1, 0, none⟩ = some (.slice oa CS.length oc) := (World.cell?_of_block (a := ⟨w.heap.size + 1 + 1 + 1 + 1, 0, none⟩) (Below.heap_alloc _ _ _ (World.block_lt_of_cell? _ _ o5))).trans o5
     have HF := hide hF
     clear hF
     refine hK _ _ ?_
     clear hK K
     refine wpAnyIn_take (i := 5) (v := .agg #[.slice a5 x2.length c5, .slice ya y2.length yc, .int .i64 X]) rfl rfl (by kernel_rfl) (by kernel_rfl) (by kernel_rfl) (fun _ _ _ h => h) ⟨Or.inl ⟨by rfl, by intro w; go_simp⟩, fun _ => rfl⟩ ?_
     refine wpAnyIn_ready (rs := [6]) (by kernel_rfl) (by simp) ?_
     refine AllReadyIn.cons rfl (fun K hK => ?_) AllReadyIn.nil
     go_simp; refine hK _ _ ?_; clear hK K
     refine wpAnyIn_ready (rs := [7]) (by kernel_rfl) (by simp) ?_
     refine AllReadyIn.cons rfl (fun K hK => ?_) AllReadyIn.nil
     rw [if_pos (by rfl)]
     refine wpIn_append_run _ _ _ (.slice oa CS.length oc) (.slice a6 (CS.length + 1) c6) (.slice (some ⟨w5.heap.size, 0, none⟩) 1 1) rfl (by rfl) (by rfl) hrun (hK _ _ ?_)
     clear hK K
     refine wpAnyIn_ready (rs := [8]) (by kernel_rfl) (by simp) ?_
     refine AllReadyIn.cons rfl (fun K hK => ?_) AllReadyIn.nil
     go_simp; refine hK _ _ ?_; clear hK K
     refine wpAnyIn_done (by kernel_rfl) ?_ _
     exact HFIN.out _ _ _ { tmps := #[], defers := [] } HF.out
    ·go_simp
     refine ⟨trivial, (callsIn_wide.2 (HCl.out _ (by ((with_reducible repeat' first | exact .refl _ _ | exact b4 | refine .alloc ?_ ?_ _ | refine .setCell ?_ ?_ _ | refine .drew ?_ | refine below_drewN ?_ _ | refine Below.trans ?_ (b4.mono ?_)) <;> first | omega | simp <;> omega)))).mono ?_⟩
     rintro e w5 ⟨v5, rfl, ho5, k5⟩
     obtain ⟨a5, c5, hv5, -, -⟩ := ho5.val
     subst hv5
     have k35 : Below W3.heap.size W3 w5 := (by ((with_reducible repeat' first | exact .refl _ _ | exact b4 | exact k5 | refine .alloc ?_ ?_ _ | refine .setCell ?_ ?_ _ | refine .drew ?_ | refine below_drewN ?_ _ | refine Below.trans ?_ (b4.mono ?_) | refine Below.trans ?_ (k5.mono ?_)) <;> first | omega | simp <;> omega))
     obtain ⟨a6, c6, w6, hrun, ⟨o6, of6⟩, hF⟩ := HApp.out a5 c5 w5 _ (show W3.heap.size ≤ w4.drew.heap.size from z4) ho5 k35
     have o5 := (k5.cell (p := ⟨w.heap.size + 1 + 1 + 1 + 1, 0, none⟩) (show w.heap.size + 1 + 1 + 1 + 1 < w4.drew.heap.size from Nat.lt_of_lt_of_le hg4 z4)).trans o0w
     have o5a : (w5.alloc (.cells #[.slice a5 x2.length c5, .slice ya y2.length yc, .int .i64 X] 44)).cell? ⟨w.heap.size + 1 + 1 + 1 + 1, 0, none⟩ = some (.slice oa CS.length oc) := (World.cell?_of_block (a := ⟨w.heap.size + 1 + 1 + 1 + 1, 0, none⟩) (Below.heap_alloc _ _ _ (World.block_lt_of_cell? _ _ o5))).trans o5
     have HF := hide hF
     clear hF
     refine hK _ _ ?_
     clear hK K
     refine wpAnyIn_take (i := 5) (v := .agg #[.slice a5 x2.length c5, .slice ya y2.length yc, .int .i64 X]) rfl rfl (by kernel_rfl) (by kernel_rfl) (by kernel_rfl) (fun _ _ _ h => h) ⟨Or.inl ⟨by rfl, by intro w; go_simp⟩, fun _ => rfl⟩ ?_
     refine wpAnyIn_ready (rs := [0, 6]) (by kernel_rfl) (by simp) ?_
     refine AllReadyIn.cons rfl (fun K hK => ?_) (AllReadyIn.cons rfl (fun K hK => ?_) AllReadyIn.nil)
     ·go_simp; refine hK _ _ ?_; clear hK K
      refine wpAnyIn_ready (rs := [6]) (by kernel_rfl) (by simp) ?_
      refine AllReadyIn.cons rfl (fun K hK => ?_) AllReadyIn.nil
      go_simp; refine hK _ _ ?_; clear hK K
      refine wpAnyIn_ready (rs := [7]) (by kernel_rfl) (by simp) ?_
      refine AllReadyIn.cons rfl (fun K hK => ?_) AllReadyIn.nil
      rw [if_pos (by rfl)]
      refine wpIn_append_run _ _ _ (.slice oa CS.length oc) (.slice a6 (CS.length + 1) c6) (.slice (some ⟨w5.heap.size, 0, none⟩) 1 1) rfl (by rfl) (by rfl) hrun (hK _ _ ?_)
      clear hK K
      refine wpAnyIn_ready (rs := [8]) (by kernel_rfl) (by simp) ?_
      refine AllReadyIn.cons rfl (fun K hK => ?_) AllReadyIn.nil
      go_simp; refine hK _ _ ?_; clear hK K
      refine wpAnyIn_done (by kernel_rfl) ?_ _
      exact HFIN.out _ _ _ { tmps := #[], defers := [] } HF.out
     ·go_simp; refine hK _ _ ?_; clear hK K
      refine wpAnyIn_ready (rs := [0]) (by kernel_rfl) (by simp) ?_
      refine AllReadyIn.cons rfl (fun K hK => ?_) AllReadyIn.nil
      go_simp; refine hK _ _ ?_; clear hK K
      refine wpAnyIn_ready (rs := [7]) (by kernel_rfl) (by simp) ?_
      refine AllReadyIn.cons rfl (fun K hK => ?_) AllReadyIn.nil
      rw [if_pos (by rfl)]
      refine wpIn_append_run _ _ _ (.slice oa CS.length oc) (.slice a6 (CS.length + 1) c6) (.slice (some ⟨w5.heap.size, 0, none⟩) 1 1) rfl (by rfl) (by rfl) hrun (hK _ _ ?_)
      clear hK K
      refine wpAnyIn_ready (rs := [8]) (by kernel_rfl) (by simp) ?_
      refine AllReadyIn.cons rfl (fun K hK => ?_) AllReadyIn.nil
      go_simp; refine hK _ _ ?_; clear hK K
      refine wpAnyIn_done (by kernel_rfl) ?_ _
      exact HFIN.out _ _ _ { tmps := #[], defers := [] } HF.out
  case done2 =>
   rintro Hin ys W' hys ⟨V, HV, ⟨hcV, hAV, hHV, hkV, hKV, hzV⟩, hBV, hbV, hHV2, hkN⟩
   have hz := hBV.size
   have e1 : KeepsFrom w1.heap.size W W' := ⟨by omega, fun k o hk h0 ho => (hBV.block k (Array.getElem?_eq_some_iff.1 h0).1).trans (hkV.same k o hk h0 ho)⟩
   have e2 : KeepH (fun q => H q ∨ (Value.slice none 0 0).ownBlock = some q) W W' := ⟨by omega, fun k hk => (hBV.block k (by
    rcases hk with h | h
    ·exact hHlt k h
    ·simp [Value.ownBlock] at h)).trans (hKV.2 k hk)⟩
   have hH0 : ∀ r, H r → w.heap.size ≤ r := by
    obtain ⟨_, _, -, -, -, h, -⟩ := HI.out
    exact fun r hr => (h r hr).1
   have e3 : CaSt w r F L tm pv (.slice ua use.length uc) ev H (caL ⟨r, F, L, tm, ps⟩ use ev (pre.map (·.2) ++ [x2])) W' := by
    have h := hcV.move (M := H) (hBV.mono hwW) ⟨hz, fun q' o hq' ho hn => hkN.2 q' o hq' ho fun hh => hn (.inr hh)⟩ (fun q' _ hh => .inl hh)
    simp only at h
    rw [hys] at h
    unfold caL at h ⊢
    rw [List.flatMap_append]
    simpa using h
   have e4 : Carry w.heap.size (fun HV xs V => CaSt w r F L tm pv (.slice ua use.length uc) ev HV (caL ⟨r, F, L, tm, ps⟩ use ev (xs.map (·.2))) V) H (pre ++ [(.slice xa x2.length xc, x2)]) W' :=
    Carry.start (by rw [List.map_append]; exact e3) (by omega) hH0
   exact ⟨e1, e2, e4⟩
 case done =>
  rintro D H ys W hD hys hIW hK
  have hw1 : w.heap.size + 5 ≤ w1.heap.size := by omega
  have cW : CaSt w r F L tm pv (.slice ua use.length uc) ev H (csL ⟨r, F, L, tm, ps⟩ use ev) W := by
   obtain ⟨V, HV, hc, hBV, hbV, hHV, hk⟩ := hIW
   have h := hc.move hBV hk fun r hr hh => (hHV r hh).2.resolve_right (by omega)
   rw [show (caL ⟨r, F, L, tm, ps⟩ use ev (ys.map (·.2))) = csL ⟨r, F, L, tm, ps⟩ use ev by rw [hys]; rfl] at h
   exact h
  obtain ⟨-, -, ⟨⟨m0, n0⟩, m1, n1⟩, ov, o0, o1, o2⟩ := cW.cells
  have o3 := o2.row
  obtain ⟨oa, oc, hov, -, -⟩ := o2.len
  have hob : ∀ q, ov.ownBlock = some q → w.heap.size + 5 ≤ q ∧ q < W.heap.size := by
   obtain ⟨xs, hx1, hx2, -⟩ := id o2
   exact World.ownsRow.lt hx2
  have bW := cW.1
  subst hov
  have O2 := hide o2
  have O3 := hide o3
  have BW := hide bW
  clear hIW cW o2 o3 bW hc1 hc2 hc3 hys
  gi_wp2
  have hKV : (((W.setCell ⟨w.heap.size + 1 + 1, 0, none⟩ (.slice oa (csL ⟨r, F, L, tm, ps⟩ use ev).length oc)).setCell ⟨w.heap.size + 1 + 1 + 1, 0, none⟩ (.int .i64 0))).heap[D]? = some (.deferred (some [])) :=
   ((KeepsOthers.setCell W ⟨w.heap.size + 1 + 1, 0, none⟩ (.slice oa (csL ⟨r, F, L, tm, ps⟩ use ev).length oc)).trans (KeepsOthers.setCell _ ⟨w.heap.size + 1 + 1 + 1, 0, none⟩ (.int .i64 0))).same D _ hK rfl
  have d0 : (((W.setCell ⟨w.heap.size + 1 + 1, 0, none⟩ (.slice oa (csL ⟨r, F, L, tm, ps⟩ use ev).length oc)).setCell ⟨w.heap.size + 1 + 1 + 1, 0, none⟩ (.int .i64 0))).cell? ⟨w.heap.size + 1 + 1, 0, none⟩ = some (.slice oa (csL ⟨r, F, L, tm, ps⟩ use ev).length oc) :=
   set_other _ (set_same _ m0) (by intro h; simp at h)
  have d1 : (((W.setCell ⟨w.heap.size + 1 + 1, 0, none⟩ (.slice oa (csL ⟨r, F, L, tm, ps⟩ use ev).length oc)).setCell ⟨w.heap.size + 1 + 1 + 1, 0, none⟩ (.int .i64 0))).cell? ⟨w.heap.size + 1 + 1 + 1, 0, none⟩ = some (.int .i64 0) :=
   set_same _ (set_other _ m1 (by intro h; simp at h))
  have dz : (((W.setCell ⟨w.heap.size + 1 + 1, 0, none⟩ (.slice oa (csL ⟨r, F, L, tm, ps⟩ use ev).length oc)).setCell ⟨w.heap.size + 1 + 1 + 1, 0, none⟩ (.int .i64 0))).heap.size = W.heap.size := by simp [World.setCell]
  have dk : ∀ q, w.heap.size + 5 ≤ q → (((W.setCell ⟨w.heap.size + 1 + 1, 0, none⟩ (.slice oa (csL ⟨r, F, L, tm, ps⟩ use ev).length oc)).setCell ⟨w.heap.size + 1 + 1 + 1, 0, none⟩ (.int .i64 0))).heap[q]? = W.heap[q]? := fun q hq => by
   rw [Below.heap_setCell _ _ _ q (by simp only; omega), Below.heap_setCell _ _ _ q (by simp only; omega)]
  have dB : Below w.heap.size w (((W.setCell ⟨w.heap.size + 1 + 1, 0, none⟩ (.slice oa (csL ⟨r, F, L, tm, ps⟩ use ev).length oc)).setCell ⟨w.heap.size + 1 + 1 + 1, 0, none⟩ (.int .i64 0))) :=
   (BW.out.setCell (p := ⟨w.heap.size + 1 + 1, 0, none⟩) (by show w.heap.size ≤ w.heap.size + 1 + 1; omega) _).setCell (p := ⟨w.heap.size + 1 + 1 + 1, 0, none⟩) (by show w.heap.size ≤ w.heap.size + 1 + 1 + 1; omega) _
  generalize ((W.setCell ⟨w.heap.size + 1 + 1, 0, none⟩ (.slice oa (csL ⟨r, F, L, tm, ps⟩ use ev).length oc)).setCell ⟨w.heap.size + 1 + 1 + 1, 0, none⟩ (.int .i64 0)) = V at *
  have hpu : ∀ r, some D = some r → ∃ o : Obj, V.heap[r]? = some o ∧ o.isCells = false := fun r e => by cases e; exact ⟨_, hKV, rfl⟩
  have c0 := cell_kept d0 (grownBy_putObj' V D (.deferred none)) hpu
  have c1 := cell_kept d1 (grownBy_putObj' V D (.deferred none)) hpu
  refine ⟨by simp, .inl ⟨_, _, rfl, run_takeDeferred hKV, ?_⟩⟩
  have e3 : Below w.heap.size w (V.putObj D (.deferred none)) := dB.grown (grownBy_putObj' V D (.deferred none)) dB.size (fun q e => by cases e; omega)
  have hsz := (grownBy_putObj' V D (.deferred none)).size
  have hkn : KeepN (fun q => q < w.heap.size + 5) W (V.putObj D (.deferred none)) := ⟨by omega, fun q o hq hc hn => by
   have h1 : V.heap[q]? = some o := (dk q (by omega)).trans hq
   rw [World.putObj_heap_other (fun e => ?_)]
   ·exact h1
   ·subst e
    rw [hKV] at h1
    cases h1
    cases hc⟩
  have hrow := OwnCs.move (M := fun _ => False) O2.out.low hkn (fun _ _ h => h.elim)
  generalize V.putObj D (.deferred none) = U at *
  refine ⟨.tuple #[.slice oa (csL ⟨r, F, L, tm, ps⟩ use ev).length oc, .int .i64 0], by simp [results, Try.results21, go_sem, c0, c1], _, rfl, hrow, fun q hq => ?_, e3⟩
  have := hob q hq
  exact ⟨by omega, by omega⟩
end Go.Proofs.Ytlmcoollkmhanaa
