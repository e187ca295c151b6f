/- Package journal: Load. -/
import Derived.Test.YthkoaecafmhlcaaGreatJ37
namespace Go.Proofs.YthkoaecafmhlcaaGreat
open Go.RowKit Go.Shelf
attribute [local go_sem] Oper.semAt_some
theorem wpOpsIn_inRound1 {F : Fence} {n : Nat} {P : Program} {ops : Array Oper} {Q : Exit → Act → World → Prop} (l : Nat) (hd : ∀ (i : Nat) (o : Oper), ops[i]? = some o → ∀ c, o.op ≠ Op.defer c) : ∀ (is : List Nat) (a : Act) (w : World), wpOpsIn F n P ops Q is a w → wpOpsIn (F.inRound l) n P ops Q is a w
 | [], _, _, h => h
 | i :: rest, a, w, h => by
  have ih : ∀ (a : Act) (w : World), wpOpsIn F n P ops Q rest a w → wpOpsIn (F.inRound l) n P ops Q rest a w := fun a w => wpOpsIn_inRound1 l hd rest a w
  simp only [wpOpsIn] at h ⊢
  cases ho : ops[i]? with
  | none => simp only [ho] at h ⊢; exact ih _ _ h
  | some o =>
   simp only [ho] at h ⊢
   by_cases hw : Region.wanted o (yielded ops a.tmps) = true
   ·rw [if_pos hw] at h ⊢
    have h := Oper.wpIn_mono (K' := wpOpsIn (F.inRound l) n P ops Q rest) ih h
    unfold Oper.wpIn at h ⊢
    rw [Oper.semAt_plain _ _ _ (hd i o ho)] at h ⊢
    refine ⟨h.1, ?_⟩
    have h2 := h.2
    generalize (execOp a.eval o).run P w = r at h2 ⊢
    cases r with
    | ok x w' => cases x <;> exact h2
    | halt x w' => cases x <;> exact h2
   ·rw [if_neg hw] at h ⊢
    exact ⟨h.1, ih _ _ h.2⟩
theorem wpIn_region_anyR1 {F : Fence} {n : Nat} {P : Program} {ops : Array Oper} {Q : Exit → Act → World → Prop} {id : Nat} {a : Act} {w : World} {l : Nat} (hm : P.follows .mixedOrders = true)
  (hd : (ops.toList.all fun o : Oper => match o.op with | Op.defer _ => false | _ => true) = true)
  (h : wpAnyIn F n P .any ops Q ops.size (Array.replicate ops.size false) a w.drew) : (Code.region id ops true).wpIn (F.inRound l) n P Q a w := by
 have hd' : ∀ (i : Nat) (o : Oper), ops[i]? = some o → ∀ c, o.op ≠ Op.defer c := fun i o ho c e => by
  have h1 := List.all_eq_true.1 hd o (Array.mem_toList_iff.2 (Array.mem_of_getElem? ho))
  rw [e] at h1
  cases h1
 exact wpIn_region_draw fun t => by
  simp only [Region.schedule, hm, Bool.true_or, if_true]
  exact wpOpsIn_inRound1 l hd' _ _ _ (wpAnyIn_sound ops.size t _ a _ h)
theorem wpIn_append_run {F : Fence} {n : Nat} {P : Program} {o : Oper} {a : Act} {w w' : World} {K : Act → World → Prop} {Q : Exit → Act → World → Prop} (s x : Operand) (t : TypeId) (v v' vx : Value)
  (hop : o.op = Op.call { callee := Callee.builtin Builtin.append, args := #[s, x], argTypes := #[t, t] }) (hs : a.eval s = v) (hx : a.eval x = vx)
  (hrun : (Builtin.append_ #[t, t] o.type #[v, vx]).run P w = .ok v' w') (h : K (a.put o.dst v') w') : o.wpIn F n P a w K Q := by
 unfold Oper.wpIn
 refine ⟨?_, ?_⟩
 ·simp [Oper.about, hop, resolve, Target.leads, Sem.run_pure]
 ·rw [Oper.semAt_plain F _ _ (by rw [hop]; intro c hc'; cases hc')]
  simp [execOp, hop, resolve, invoke, builtin, hs, hx, hrun, Result.andThen]
  exact h
theorem LdS.append {w1 W0 : World} {b10 : Nat} {H : Nat → Prop} {x : Tv} {xs : List Tv} {v8 : Value} {n9 : Int} {rv : Value} {W : World} {q : Nat} (h : LdS w1 W0 b10 H x xs v8 n9 rv W) (hq : BxC W q (encT x)) (hx : xs.length ≤ 100000) :
  ∃ a6 c6 w6, (Builtin.append_ #[35, 35] 35 #[rv, .slice (some ⟨q, 0, none⟩) 1 1]).run Tryz.prog W = .ok (.slice a6 (xs.length + 1) c6) w6 ∧ LdS w1 W0 b10 H x (xs ++ [x]) v8 n9 (.slice a6 (xs.length + 1) c6) w6 := by
 obtain ⟨i0, hi, hz0, hz1, hz2⟩ := info_parts infoTx
 have hl1 := bx_lt h.i.x9
 obtain ⟨v6, w6, hrun, hown, hg, _⟩ := run_append_own (P := Tryz.prog) (w := W) (w1.heap.size + 2) 35 35 28 i0 (.agg #[.int .i64 0, .int .i64 0, .slice none 0 0, .slice none 0 0]) 4 64 Tryz.underlying35 hi hz0 hz1 hz2 rfl (by decide) rv xs.length (xs.flatMap encT) h.i.own
  ⟨q, 0, none⟩ 1 1 (encT x) rfl (bx_cells hq) (encT_one h.ty.1) (by unfold maxLen; omega) (by omega) (by omega)
 have hnew := append_block (P := Tryz.prog) (w := W) (w1.heap.size + 2) 28 i0 (.agg #[.int .i64 0, .int .i64 0, .slice none 0 0, .slice none 0 0]) 4 64 Tryz.underlying35 hi hz0 hz1 hz2 rfl (by decide) h.i.own
  ⟨q, 0, none⟩ 1 1 (encT x) rfl (bx_cells hq) (encT_one h.ty.1) (by unfold maxLen; omega) (by omega) hrun
 obtain ⟨a6, c6, rfl⟩ := ownsRow_val hown
 exact ⟨a6, c6, w6, hrun, h.push hown hg hnew⟩
theorem LdI.fin {w1 : World} {H : Nat → Prop} {xs : List Tv} {v8 : Value} {n9 : Int} {rv : Value} {W U : World} {b : Nat} (h : LdI w1 H xs v8 n9 rv W) (hb : b ≤ w1.heap.size + 2) (hz : W.heap.size ≤ U.heap.size) (hs : ∀ q o, W.heap[q]? = some o → o.isCells = true → w1.heap.size + 2 ≤ q → U.heap[q]? = some o) : OwnTx U b rv (xs.map (·.t)) := by
 have hl := World.ownsRow.lt h.own
 refine ⟨xs, rfl, (show Owns 28 encT 4 U (w1.heap.size + 2) rv xs from owns_same h.own fun k hk => ?_).mono hb, fun x hx => ⟨(h.el x hx).1.same hz (fun hl q hq => ?_) (fun hl q hq => ?_), (h.el x hx).2.1.mono hb⟩⟩
 ·obtain ⟨c, fz, hc⟩ := owns_block h.own k hk
  exact (hs k _ hc rfl (hl k hk).1).trans hc.symm
 ·obtain ⟨c, fz, hc⟩ := (h.el x hx).1.1.2 hl q hq
  exact (hs q _ hc rfl ((h.el x hx).2.1.1 q hq)).trans hc.symm
 ·obtain ⟨c, fz, hc⟩ := (h.el x hx).1.2.2 hl q hq
  exact (hs q _ hc rfl ((h.el x hx).2.1.2 q hq)).trans hc.symm
def LdJ (w1 : World) (H : Nat → Prop) (xs : List Tv) (W : World) : Prop := ∃ rv, LdI w1 H xs rv (logB (xs.map (·.t))).length rv W ∧ ∀ x, x ∈ xs → Fm x.t
theorem LdJ.own {w1 : World} {C : Nat} (hC : w1.heap.size + 2 ≤ C) : OwnH C (LdJ w1) := by
 rintro H H' xs W W' row ⟨rv, h, hf⟩ hg hr hH'
 exact ⟨rv, h.walk hC hg hr hH', hf⟩
set_option maxRecDepth 100000 in
set_option maxHeartbeats 4000000 in
theorem Load_any (v : Value) (D : List Tx) (last : List Int) (m : Nat) (w : World) (h : BRow w v (logB D ++ (frm last).take m)) (hG : GoodD D) (hD : D.length ≤ 2000) (hl : OkL last) (hm : m < (frm last).length) (hM : (logB D ++ (frm last).take m).length ≤ 100000) :
  Calls Tryz.prog 9 #[v] w fun e w' => (∃ ov, e = .returned (.tuple #[ov, .int .i64 (logB D).length, .int .i64 0]) ∧ OwnTx w' w.heap.size ov D) ∧ Below w.heap.size w w' := by
 have HG := hide hG
 have HF := hide (fun (V : World) (hV : Below w.heap.size w V) => Frames_any v (D.map itx) last m V (h.below (Nat.le_refl _) hV) (fun l hl => by obtain ⟨t, ht, rfl⟩ := List.mem_map.1 hl; exact okL_itx (hG.2 t ht).1) hl hm hM)
 have hMl : (logB D).length ≤ 100000 := by rw [List.length_append] at hM; omega
 have hat : atL (D.map itx) (D.map itx).length = (logB D).length := by rw [atL_map, List.length_map, List.take_length]
 rw [hat] at HF
 obtain ⟨va, vc, rfl, -⟩ := h.len
 generalize (logB D ++ (frm last).take m).length = M at *
 clear h hG hl hm hM hat
 refine (callsIn_wide (n := 6)).1 ?_
 refine callsIn_of_wp_marks Tryz.func9 rfl trivial ?_ rfl
 simp only [Tryz.ntmps9, List.size_toArray, List.length_cons, List.length_nil, Nat.reduceAdd, Nat.reduceSub, Array.replicate_succ, Array.replicate_zero, List.push_toArray, List.append_toArray, List.nil_append, List.cons_append]
 gi_wp2_with fail
 obtain ⟨U0, hU0⟩ : ∃ U : World, U = ((w.alloc (.cells #[.slice none 0 0] 35)).alloc (.cells #[.int .i64 0] 3)).alloc (.cells #[.int .i64 0] 43) := ⟨_, rfl⟩
 rw [← hU0]
 have zU : U0.heap.size = w.heap.size + 3 := by rw [hU0]; simp
 have bU : Below w.heap.size w U0 := by rw [hU0]; ((with_reducible repeat' first | exact .refl _ _ | refine .alloc ?_ ?_ _ | refine .setCell ?_ ?_ _ | refine .drew ?_ | refine below_drewN ?_ _) <;> first | omega | simp <;> omega)
 have x2 : BxC U0 w.heap.size [.slice none 0 0] := by rw [hU0]; exact ((BxC.made w [.slice none 0 0] _).alloc _).alloc _
 have x3 : BxC U0 (w.heap.size + 1) [.int .i64 0] := by
  have h_ := (BxC.made (w.alloc (.cells #[.slice none 0 0] 35)) [.int .i64 0] 3).alloc (.cells #[.int .i64 0] 43)
  rw [World.size_alloc] at h_
  rw [hU0]; exact h_
 have x4 : BxC U0 (w.heap.size + 1 + 1) [.int .i64 0] := by
  have h_ := BxC.made ((w.alloc (.cells #[.slice none 0 0] 35)).alloc (.cells #[.int .i64 0] 3)) [.int .i64 0] 43
  rw [World.size_alloc, World.size_alloc] at h_
  rw [hU0]; exact h_
 clear hU0
 refine ⟨trivial, (callsIn_wide.2 (HF.out _ bU)).mono ?_⟩
 rintro e w1 ⟨⟨fv, rfl, ho⟩, b1⟩
 have z1 := b1.size
 have hfl := ho.len
 rw [List.length_map] at hfl
 obtain ⟨fa, fc, rfl, -, -⟩ := hfl
 have HX := hide (And.intro (x2.below (by omega) b1) (And.intro (x3.below (by omega) b1) (x4.below (by omega) b1)))
 have HO := hide ho
 have HB1 := hide (bU.trans (b1.mono (by omega)))
 rw [zU] at z1
 clear x2 x3 x4 ho bU b1 zU
 gi_wp2_with fail
 refine ⟨trivial, (callsIn_wide.2 (records_any _ _ _ _)).mono ?_⟩
 rintro e w3 ⟨rfl, hw3⟩
 gi_wp2_with fail
 obtain ⟨W2, hW2⟩ : ∃ V, V = (w1.alloc (.cells #[.slice none 0 0] 35)).alloc (.cells #[.int .i64 0] 3) := ⟨_, rfl⟩
 obtain ⟨W3, hW3⟩ : ∃ V, V = W2.alloc (.cells #[.slice fa D.length fc] 79) := ⟨_, rfl⟩
 rw [← hW2, ← hW3]
 have z2 : W2.heap.size = w1.heap.size + 2 := by rw [hW2]; simp
 have z3 : W3.heap.size = w1.heap.size + 3 := by rw [hW3]; simp [z2]
 have b13 : Below w1.heap.size w1 W3 := by rw [hW3, hW2]; ((with_reducible repeat' first | exact .refl _ _ | refine .alloc ?_ ?_ _ | refine .setCell ?_ ?_ _ | refine .drew ?_ | refine below_drewN ?_ _) <;> first | omega | simp <;> omega)
 have x8 : BxC W3 w1.heap.size [.slice none 0 0] := by rw [hW3, hW2]; exact ((BxC.made w1 _ _).alloc _).alloc _
 have x9 : BxC W3 (w1.heap.size + 1) [.int .i64 0] := by
  have h_ := (BxC.made (w1.alloc (.cells #[.slice none 0 0] 35)) [.int .i64 0] 3).alloc (.cells #[.slice fa D.length fc] 79)
  rw [World.size_alloc] at h_
  rw [hW3, hW2]; exact h_
 have hfb : W3.cell? ⟨w1.heap.size + 2, 0, none⟩ = some (.slice fa D.length fc) := by rw [hW3, ← z2]; simp [go_sem]
 have hI0 : LdJ w1 (fun _ => False) [] W3 := ⟨.slice none 0 0, ⟨x8, x9, Owns.nil _ _, fun x hx => by simp at hx, (fun h => h), (fun h => h), (fun r e => by simp [Value.ownBlock] at e), (fun r h => h.elim), b13⟩, fun x hx => by simp at hx⟩
 have hseq := recs_hg 5 (by omega) (w1.heap.size + 2) (.slice fa D.length fc) D U0.heap.size (fun q => q < w1.heap.size) W3 hfb (fun V hV hz => HO.out.same (by omega) fun q _ hq => (hV q hq).trans (b13.block q hq)) (fun q hq => by omega) HG.out (by omega)
 clear hW2 hW3 x8 x9 z2
 have HB := hide b13
 refine wpIn_rangeFunc_hg rfl (by omega) (gf := 58) (lb := #[.pointer (some ⟨w1.heap.size + 1 + 1, 0, none⟩)]) rfl trivial (enters_of Tryz.func58 (by kernel_rfl) rfl)
  (encs := encTv) (G := RecG W3.heap.size) (S := fun ys => ys.map (·.t) = D) (N := D.length) (K0 := fun q => q < w1.heap.size) (H0 := fun _ => False) (w0 := W3) hseq (fun r hr => by omega) (Below.refl _ _) (fun r hr => hr.elim) (fun _ => rfl)
  (LdJ w1) (LdJ.own (by omega)) hI0
  (fun H x a' W => RecG W3.heap.size H x W ∧ ∃ Bx, (w1.heap.size + 2 ≤ Bx ∧ BxC W Bx (encT x) ∧ ∃ rv, W.cell? ⟨w1.heap.size, 0, none⟩ = some rv ∧ rv.ownBlock ≠ some Bx) ∧ a' = { tmps := #[.slice va M vc, undef, .pointer (some ⟨w.heap.size, 0, none⟩), .pointer (some ⟨w.heap.size + 1, 0, none⟩), .pointer (some ⟨w.heap.size + 1 + 1, 0, none⟩), .slice fa D.length fc, .int .i64 (logB D).length, .int .i64 0, .pointer (some ⟨w1.heap.size, 0, none⟩), .pointer (some ⟨w1.heap.size + 1, 0, none⟩), .pointer (some ⟨Bx, 0, none⟩), undef, undef, .tuple #[.slice fa D.length fc, .int .i64 (logB D).length, .int .i64 0], .slice va M vc, .tuple #[.slice fa D.length fc, .int .i64 (logB D).length, .int .i64 0], .slice fa D.length fc, .int .i64 (logB D).length, .int .i64 0, .int .i64 0, .bool false, undef, .slice fa D.length fc, .func (.func 58) #[] #[.pointer (some ⟨w1.heap.size + 1 + 1, 0, none⟩)], valT x.rv x.wv x.t, undef, undef, undef, undef, undef, undef, undef, undef, undef, undef, undef, undef, undef, undef, undef, undef, undef, undef, undef], defers := [] })
  ?ax ?assign ?body ?done
 case ax =>
  rintro H x a' _ X Y row ⟨⟨g1, g2, g3, g4⟩, Bx, ⟨h1, h2, rv, h3, h4⟩, h5⟩ hg hr
  have hr' := fun r e => (hr r e).2
  have hb : ∀ (q : Nat) (o : Obj), X.heap[q]? = some o → o.isCells = true → Y.heap[q]? = X.heap[q]? := fun q o ho hc => hg.block q (Array.getElem?_eq_some_iff.1 ho).1 fun e => by
   obtain ⟨o', ho', hn⟩ := hr' q e.symm
   rw [ho] at ho'; cases ho'; rw [hc] at hn; cases hn
  refine ⟨⟨g1.same hg.size (fun hl q hq => ?_) (fun hl q hq => ?_), g2, g3, g4⟩, Bx, ⟨h1, ?_, rv, cell_kept h3 hg hr', h4⟩, h5⟩
  ·obtain ⟨c, fz, hc⟩ := g1.1.2 hl q hq
   exact hb q _ hc rfl
  ·obtain ⟨c, fz, hc⟩ := g1.2.2 hl q hq
   exact hb q _ hc rfl
  ·obtain ⟨o, ho, hc⟩ := cells_of_cell (h2.1 0 _ rfl)
   exact h2.same hg.size (hb Bx o ho hc)
 case assign =>
  rintro q H pre x W K hI hG hlt hK
  obtain ⟨rv, hL, hf⟩ := id hI
  obtain ⟨xr, xw, ⟨ti, tt, rl, wl⟩⟩ := x
  have hm := bx_lt hL.x9
  have hlo := World.ownsRow.lt hL.own
  have ba : Below W.heap.size W (W.alloc (.cells #[.int .i64 ti, .int .i64 tt, xr, xw] 28)) := (by ((with_reducible repeat' first | exact .refl _ _ | refine .alloc ?_ ?_ _ | refine .setCell ?_ ?_ _ | refine .drew ?_ | refine below_drewN ?_ _) <;> first | omega | simp <;> omega))
  have hA : RecG W3.heap.size H ⟨xr, xw, ⟨ti, tt, rl, wl⟩⟩ (W.alloc (.cells #[.int .i64 ti, .int .i64 tt, xr, xw] 28)) := ⟨hG.1.below (Nat.le_refl _) ba, hG.2⟩
  have hbx : BxC (W.alloc (.cells #[.int .i64 ti, .int .i64 tt, xr, xw] 28)) W.heap.size (encT ⟨xr, xw, ⟨ti, tt, rl, wl⟩⟩) := BxC.made W _ _
  have h8 : (W.alloc (.cells #[.int .i64 ti, .int .i64 tt, xr, xw] 28)).cell? ⟨w1.heap.size, 0, none⟩ = some rv := (hL.below ba).x8.1 0 _ rfl
  have hKH : KeepH (fun r => H r ∨ r < w1.heap.size) W (W.alloc (.cells #[.int .i64 ti, .int .i64 tt, xr, xw] 28)) := ⟨by simp, fun r hr => Below.heap_alloc _ _ _ (by
   rcases hr with h | h
   ·exact hlt r h
   ·omega)⟩
  have hJ : LdJ w1 H pre (W.alloc (.cells #[.int .i64 ti, .int .i64 tt, xr, xw] 28)) := ⟨rv, hL.below ba, hf⟩
  have HJ := hide hJ
  have HA := hide hA
  have HH := hide hlo
  obtain ⟨ra, rc, hxr, -⟩ := id hG.1.1.1
  obtain ⟨wa, wc, hxw, -⟩ := id hG.1.2.1
  dsimp only at hxr hxw
  subst hxr hxw
  clear hL hJ hA hlo hI
  dsimp only [encTv, valT]
  gi_wp2
  exact hK _ _ ((KeepsOthers.alloc _ _).from _) hKH HJ.out ⟨HA.out, W.heap.size, ⟨by omega, hbx, rv, h8, fun e => by have := (HH.out _ e).2; omega⟩, rfl⟩
 case body =>
  rintro q H pre x a' W hq hrec hHlt hnq hI ⟨hG, Bx, ⟨hB1, hB2, rv0, hB3, hB4⟩, rfl⟩ hlen
  obtain ⟨rv, hL, hf⟩ := hI
  have hrv := hL.x8.1 0 _ rfl
  rw [hB3] at hrv
  cases hrv
  obtain ⟨xr, xw, ⟨ti, tt, rl, wl⟩⟩ := x
  obtain ⟨ra, rc, hxr, -⟩ := id hG.1.1.1
  obtain ⟨wa, wc, hxw, -⟩ := id hG.1.2.1
  dsimp only at hxr hxw
  subst hxr hxw
  have d0 := hB2.1 0 _ rfl
  have d1 := hB2.1 1 _ rfl
  have d2 := hB2.1 2 _ rfl
  have d3 := hB2.1 3 _ rfl
  have hFm := hG.2.2.2
  have hTR := hG.1.rd
  have HI := hide (ints_any _ _ _ W hTR hFm.2.2.2.2.1 hFm.2.2.2.2.2)
  have hS : LdS w1 W Bx H ⟨.slice ra rl.length rc, .slice wa wl.length wc, ⟨ti, tt, rl, wl⟩⟩ pre rv0 (logB (pre.map (·.t))).length rv0 W := ⟨hL, hB2, hB1, hB4, ⟨hG.1, hG.2.1.mono (by omega), hG.2.2.1⟩, KeepsOthers.refl _, KeepH.refl _ _, hHlt⟩
  have HS := hide hS
  have HFm := hide hFm
  have HHf := hide hf
  have hil := itx_len _ hFm.2.2.2.2.1 hFm.2.2.2.2.2
  have hsm := sml_itx hFm
  have hub := frm_ub hFm
  have hpb := logB_len (pre.map (·.t)) (fun y hy => by obtain ⟨z, hz, rfl⟩ := List.mem_map.1 hy; exact hf z hz)
  rw [List.length_map] at hpb
  have HE := hide (show ((logB (pre.map (·.t))).length + (frm (itx ⟨ti, tt, rl, wl⟩)).length : Nat) = (logB ((pre ++ [(⟨.slice ra rl.length rc, .slice wa wl.length wc, ⟨ti, tt, rl, wl⟩⟩ : Tv)]).map (·.t))).length from by rw [List.map_append, List.map_singleton, logB_snoc, List.length_append])
  clear hS hL hG hB2 hB3 hFm hTR hf
  dsimp only [valT] at HI ⊢
  gi_wp2_with fail
  refine ⟨trivial, (CallsIn.inRound q (callsIn_wide.2 HI.out)).mono ?_⟩
  rintro e w4 ⟨⟨iv, rfl, hio⟩, b4⟩
  have HFr := hide (Frame_any iv _ w4 hio.row (by omega) hsm)
  obtain ⟨ia, ic, rfl⟩ := ownsRow_val hio
  clear hio d0 d1 d2 d3
  gi_wp2_with fail
  refine ⟨trivial, (CallsIn.inRound q (callsIn_wide.2 HFr.out)).mono ?_⟩
  rintro e w5 ⟨⟨bv, rfl, hbo⟩, b5⟩
  obtain ⟨ba, bc, rfl⟩ := ownsRow_val hbo
  have b45 : Below W.heap.size W w5.drew := (b4.trans (b5.mono b4.size)).drew
  have S := HS.out.below b45
  obtain ⟨n0, hn0⟩ : ∃ n, n = (logB (pre.map (·.t))).length := ⟨_, rfl⟩
  obtain ⟨nb, hnb⟩ : ∃ n, n = (frm (itx ⟨ti, tt, rl, wl⟩)).length := ⟨_, rfl⟩
  obtain ⟨n1, hn1⟩ : ∃ n, n = n0 + nb := ⟨_, rfl⟩
  rw [← hn0] at hpb S HE
  rw [← hnb] at hub HE ⊢
  rw [← hn1] at HE
  have ww : IntKind.i64.wrap ((n0 : Int) + (nb : Int)) = (n1 : Int) := by rw [IntKind.wrap_i64]; omega
  have HHn := hide (And.intro hn0 (And.intro hnb hn1))
  clear hn0 hnb hn1 hbo b4 b5 HS HI HFr b45 hil hsm hub
  have hFIN : ∀ (V : World) (aa : Act) (a6 : Option Addr) (c6 : Nat), LdS w1 W Bx H ⟨.slice ra rl.length rc, .slice wa wl.length wc, ⟨ti, tt, rl, wl⟩⟩ (pre ++ [⟨.slice ra rl.length rc, .slice wa wl.length wc, ⟨ti, tt, rl, wl⟩⟩]) (.slice a6 (pre.length + 1) c6) n1 (.slice a6 (pre.length + 1) c6) V →
    hidPost W3.heap.size (fun q => q < w1.heap.size) (LdJ w1) H (pre ++ [⟨.slice ra rl.length rc, .slice wa wl.length wc, ⟨ti, tt, rl, wl⟩⟩]) W .normal aa V := by
   intro V aa a6 c6 s
   refine ⟨s.kf.from _, s.kh, .slice a6 (pre.length + 1) c6, ?_, fun y hy => ?_⟩
   ·rw [← HE.out]; exact s.i
   ·rw [List.mem_append, List.mem_singleton] at hy
    rcases hy with hy | rfl
    ·exact HHf.out y hy
    ·exact HFm.out
  have HFIN := hide hFIN
  clear hFIN
  gi_wp2_with fail
  refine wpIn_region_anyR1 (by kernel_rfl) (by kernel_rfl) ?_
  obtain ⟨V0, hV0⟩ : ∃ V, V = w5.drew := ⟨_, rfl⟩
  rw [← hV0] at S ⊢
  clear hV0
  have c8 := S.i.x8.1 0 _ rfl
  have f8 := S.i.x8.2.1
  have l8 := bx_lt S.i.x8
  have c9 := S.i.x9.1 0 _ rfl
  have f9 := S.i.x9.2.1
  have l9 := bx_lt S.i.x9
  have d0 := S.x10.1 0 _ rfl
  have d1 := S.x10.1 1 _ rfl
  have d2 := S.x10.1 2 _ rfl
  have d3 := S.x10.1 3 _ rfl
  have l10 := bx_lt S.x10
  refine wpAnyIn_take (i := 5) (v := .slice ba nb bc) rfl rfl (by kernel_rfl) (by kernel_rfl) (by kernel_rfl) (fun _ _ _ h => h) ⟨Or.inl ⟨by rfl, by intro w; go_simp⟩, fun _ => rfl⟩ ?_
  refine wpAnyIn_take (i := 6) (v := .int .i64 nb) rfl rfl (by kernel_rfl) (by kernel_rfl) (by kernel_rfl) (fun _ _ _ h => h) ⟨Or.inl ⟨by rfl, by intro w; go_simp⟩, fun _ => rfl⟩ ?_
  refine wpAnyIn_ready (rs := [0, 1, 4]) (by kernel_rfl) (by simp) ?_
  refine AllReadyIn.cons rfl (fun K hK => ?_) (AllReadyIn.cons rfl (fun K hK => ?_) (AllReadyIn.cons rfl (fun K hK => ?_) AllReadyIn.nil))
  ·go_simp; refine hK _ _ ?_; clear hK K
   refine wpAnyIn_ready (rs := [1, 4]) (by kernel_rfl) (by simp) ?_
   refine AllReadyIn.cons rfl (fun K hK => ?_) (AllReadyIn.cons rfl (fun K hK => ?_) AllReadyIn.nil)
   ·go_simp; refine hK _ _ ?_; clear hK K
    refine wpAnyIn_ready (rs := [2, 4]) (by kernel_rfl) (by simp) ?_
    refine AllReadyIn.cons rfl (fun K hK => ?_) (AllReadyIn.cons rfl (fun K hK => ?_) AllReadyIn.nil)
    ·go_simp; refine hK _ _ ?_; clear hK K
     obtain ⟨V3, hV3⟩ : ∃ V, V = V0.alloc (.cells #[.int .i64 ti, .int .i64 tt, .slice ra rl.length rc, .slice wa wl.length wc] 28) := ⟨_, rfl⟩
     rw [← hV3]
     have S2 := S.below (W' := V3) (by rw [hV3]; ((with_reducible repeat' first | exact .refl _ _ | refine .alloc ?_ ?_ _ | refine .setCell ?_ ?_ _ | refine .drew ?_ | refine below_drewN ?_ _) <;> first | omega | simp <;> omega))
     have QB : BxC V3 V0.heap.size (encT ⟨.slice ra rl.length rc, .slice wa wl.length wc, ⟨ti, tt, rl, wl⟩⟩) := by rw [hV3]; exact BxC.made V0 _ _
     clear c8 f8 l8 c9 f9 l9 d0 d1 d2 d3 l10
     clear S hV3
     have S := S2
     clear S2
     have c8 := S.i.x8.1 0 _ rfl
     have f8 := S.i.x8.2.1
     have l8 := bx_lt S.i.x8
     have c9 := S.i.x9.1 0 _ rfl
     have f9 := S.i.x9.2.1
     have l9 := bx_lt S.i.x9
     have d0 := S.x10.1 0 _ rfl
     have d1 := S.x10.1 1 _ rfl
     have d2 := S.x10.1 2 _ rfl
     have d3 := S.x10.1 3 _ rfl
     have l10 := bx_lt S.x10
     refine wpAnyIn_ready (rs := [3, 4]) (by kernel_rfl) (by simp) ?_
     refine AllReadyIn.cons rfl (fun K hK => ?_) (AllReadyIn.cons rfl (fun K hK => ?_) AllReadyIn.nil)
     ·rw [if_pos (by rfl)]
      obtain ⟨a6, c6, V4, hrun, S2⟩ := S.append QB (by omega)
      refine wpIn_append_run _ _ _ rv0 (.slice a6 (pre.length + 1) c6) _ rfl (by rfl) (by rfl) hrun (hK _ _ ?_)
      clear c8 f8 l8 c9 f9 l9 d0 d1 d2 d3 l10
      clear hK K S QB hrun
      have S := S2
      clear S2
      have c8 := S.i.x8.1 0 _ rfl
      have f8 := S.i.x8.2.1
      have l8 := bx_lt S.i.x8
      have c9 := S.i.x9.1 0 _ rfl
      have f9 := S.i.x9.2.1
      have l9 := bx_lt S.i.x9
      have d0 := S.x10.1 0 _ rfl
      have d1 := S.x10.1 1 _ rfl
      have d2 := S.x10.1 2 _ rfl
      have d3 := S.x10.1 3 _ rfl
      have l10 := bx_lt S.x10
      refine wpAnyIn_ready (rs := [4, 8]) (by kernel_rfl) (by simp) ?_
      refine AllReadyIn.cons rfl (fun K hK => ?_) (AllReadyIn.cons rfl (fun K hK => ?_) AllReadyIn.nil)
      ·go_simp; refine hK _ _ ?_; clear hK K
       refine wpAnyIn_take (i := 7) (v := .int .i64 n1) rfl rfl (by kernel_rfl) (by kernel_rfl) (by kernel_rfl) (fun _ _ _ h => h) ⟨Or.inl ⟨by rfl, by intro w; go_simp⟩, fun _ => rfl⟩ ?_
       refine wpAnyIn_ready (rs := [8]) (by kernel_rfl) (by simp) ?_
       refine AllReadyIn.cons rfl (fun K hK => ?_) AllReadyIn.nil
       go_simp; refine hK _ _ ?_; clear hK K
       obtain ⟨V6, hV6⟩ : ∃ V, V = V4.setCell ⟨w1.heap.size, 0, none⟩ (.slice a6 (pre.length + 1) c6) := ⟨_, rfl⟩
       rw [← hV6]
       have S2 : LdS w1 W Bx H ⟨.slice ra rl.length rc, .slice wa wl.length wc, ⟨ti, tt, rl, wl⟩⟩ (pre ++ [⟨.slice ra rl.length rc, .slice wa wl.length wc, ⟨ti, tt, rl, wl⟩⟩]) (.slice a6 (pre.length + 1) c6) n0 (.slice a6 (pre.length + 1) c6) V6 := by rw [hV6]; exact S.set8 _
       clear c8 f8 l8 c9 f9 l9 d0 d1 d2 d3 l10
       clear S hV6
       have S := S2
       clear S2
       have c8 := S.i.x8.1 0 _ rfl
       have f8 := S.i.x8.2.1
       have l8 := bx_lt S.i.x8
       have c9 := S.i.x9.1 0 _ rfl
       have f9 := S.i.x9.2.1
       have l9 := bx_lt S.i.x9
       have d0 := S.x10.1 0 _ rfl
       have d1 := S.x10.1 1 _ rfl
       have d2 := S.x10.1 2 _ rfl
       have d3 := S.x10.1 3 _ rfl
       have l10 := bx_lt S.x10
       refine wpAnyIn_ready (rs := [9]) (by kernel_rfl) (by simp) ?_
       refine AllReadyIn.cons rfl (fun K hK => ?_) AllReadyIn.nil
       go_simp; refine hK _ _ ?_; clear hK K
       clear c8 f8 l8 c9 f9 l9 d0 d1 d2 d3 l10
       refine wpAnyIn_done (by kernel_rfl) ?_ _
       exact HFIN.out _ { tmps := #[], defers := [] } _ _ (S.set9 n1)
      ·go_simp; refine hK _ _ ?_; clear hK K
       obtain ⟨V5, hV5⟩ : ∃ V, V = V4.setCell ⟨w1.heap.size, 0, none⟩ (.slice a6 (pre.length + 1) c6) := ⟨_, rfl⟩
       rw [← hV5]
       have S2 : LdS w1 W Bx H ⟨.slice ra rl.length rc, .slice wa wl.length wc, ⟨ti, tt, rl, wl⟩⟩ (pre ++ [⟨.slice ra rl.length rc, .slice wa wl.length wc, ⟨ti, tt, rl, wl⟩⟩]) (.slice a6 (pre.length + 1) c6) n0 (.slice a6 (pre.length + 1) c6) V5 := by rw [hV5]; exact S.set8 _
       clear c8 f8 l8 c9 f9 l9 d0 d1 d2 d3 l10
       clear S hV5
       have S := S2
       clear S2
       have c8 := S.i.x8.1 0 _ rfl
       have f8 := S.i.x8.2.1
       have l8 := bx_lt S.i.x8
       have c9 := S.i.x9.1 0 _ rfl
       have f9 := S.i.x9.2.1
       have l9 := bx_lt S.i.x9
       have d0 := S.x10.1 0 _ rfl
       have d1 := S.x10.1 1 _ rfl
       have d2 := S.x10.1 2 _ rfl
       have d3 := S.x10.1 3 _ rfl
       have l10 := bx_lt S.x10
       refine wpAnyIn_ready (rs := [4]) (by kernel_rfl) (by simp) ?_
       refine AllReadyIn.cons rfl (fun K hK => ?_) AllReadyIn.nil
       go_simp; refine hK _ _ ?_; clear hK K
       refine wpAnyIn_take (i := 7) (v := .int .i64 n1) rfl rfl (by kernel_rfl) (by kernel_rfl) (by kernel_rfl) (fun _ _ _ h => h) ⟨Or.inl ⟨by rfl, by intro w; go_simp⟩, fun _ => rfl⟩ ?_
       refine wpAnyIn_ready (rs := [9]) (by kernel_rfl) (by simp) ?_
       refine AllReadyIn.cons rfl (fun K hK => ?_) AllReadyIn.nil
       go_simp; refine hK _ _ ?_; clear hK K
       clear c8 f8 l8 c9 f9 l9 d0 d1 d2 d3 l10
       refine wpAnyIn_done (by kernel_rfl) ?_ _
       exact HFIN.out _ { tmps := #[], defers := [] } _ _ (S.set9 n1)
     ·go_simp; refine hK _ _ ?_; clear hK K
      refine wpAnyIn_take (i := 7) (v := .int .i64 n1) rfl rfl (by kernel_rfl) (by kernel_rfl) (by kernel_rfl) (fun _ _ _ h => h) ⟨Or.inl ⟨by rfl, by intro w; go_simp⟩, fun _ => rfl⟩ ?_
      refine wpAnyIn_ready (rs := [3]) (by kernel_rfl) (by simp) ?_
      refine AllReadyIn.cons rfl (fun K hK => ?_) AllReadyIn.nil
      rw [if_pos (by rfl)]
      obtain ⟨a6, c6, V5, hrun, S2⟩ := S.append QB (by omega)
      refine wpIn_append_run _ _ _ rv0 (.slice a6 (pre.length + 1) c6) _ rfl (by rfl) (by rfl) hrun (hK _ _ ?_)
      clear c8 f8 l8 c9 f9 l9 d0 d1 d2 d3 l10
      clear hK K S QB hrun
      have S := S2
      clear S2
      have c8 := S.i.x8.1 0 _ rfl
      have f8 := S.i.x8.2.1
      have l8 := bx_lt S.i.x8
      have c9 := S.i.x9.1 0 _ rfl
      have f9 := S.i.x9.2.1
      have l9 := bx_lt S.i.x9
      have d0 := S.x10.1 0 _ rfl
      have d1 := S.x10.1 1 _ rfl
      have d2 := S.x10.1 2 _ rfl
      have d3 := S.x10.1 3 _ rfl
      have l10 := bx_lt S.x10
      refine wpAnyIn_ready (rs := [8]) (by kernel_rfl) (by simp) ?_
      refine AllReadyIn.cons rfl (fun K hK => ?_) AllReadyIn.nil
      go_simp; refine hK _ _ ?_; clear hK K
      obtain ⟨V6, hV6⟩ : ∃ V, V = V5.setCell ⟨w1.heap.size, 0, none⟩ (.slice a6 (pre.length + 1) c6) := ⟨_, rfl⟩
      rw [← hV6]
      have S2 : LdS w1 W Bx H ⟨.slice ra rl.length rc, .slice wa wl.length wc, ⟨ti, tt, rl, wl⟩⟩ (pre ++ [⟨.slice ra rl.length rc, .slice wa wl.length wc, ⟨ti, tt, rl, wl⟩⟩]) (.slice a6 (pre.length + 1) c6) n0 (.slice a6 (pre.length + 1) c6) V6 := by rw [hV6]; exact S.set8 _
      clear c8 f8 l8 c9 f9 l9 d0 d1 d2 d3 l10
      clear S hV6
      have S := S2
      clear S2
      have c8 := S.i.x8.1 0 _ rfl
      have f8 := S.i.x8.2.1
      have l8 := bx_lt S.i.x8
      have c9 := S.i.x9.1 0 _ rfl
      have f9 := S.i.x9.2.1
      have l9 := bx_lt S.i.x9
      have d0 := S.x10.1 0 _ rfl
      have d1 := S.x10.1 1 _ rfl
      have d2 := S.x10.1 2 _ rfl
      have d3 := S.x10.1 3 _ rfl
      have l10 := bx_lt S.x10
      refine wpAnyIn_ready (rs := [9]) (by kernel_rfl) (by simp) ?_
      refine AllReadyIn.cons rfl (fun K hK => ?_) AllReadyIn.nil
      go_simp; refine hK _ _ ?_; clear hK K
      clear c8 f8 l8 c9 f9 l9 d0 d1 d2 d3 l10
      refine wpAnyIn_done (by kernel_rfl) ?_ _
      exact HFIN.out _ { tmps := #[], defers := [] } _ _ (S.set9 n1)
    ·go_simp; refine hK _ _ ?_; clear hK K
     refine wpAnyIn_take (i := 7) (v := .int .i64 n1) rfl rfl (by kernel_rfl) (by kernel_rfl) (by kernel_rfl) (fun _ _ _ h => h) ⟨Or.inl ⟨by rfl, by intro w; go_simp⟩, fun _ => rfl⟩ ?_
     refine wpAnyIn_ready (rs := [2]) (by kernel_rfl) (by simp) ?_
     refine AllReadyIn.cons rfl (fun K hK => ?_) AllReadyIn.nil
     go_simp; refine hK _ _ ?_; clear hK K
     obtain ⟨V4, hV4⟩ : ∃ V, V = V0.alloc (.cells #[.int .i64 ti, .int .i64 tt, .slice ra rl.length rc, .slice wa wl.length wc] 28) := ⟨_, rfl⟩
     rw [← hV4]
     have S2 := S.below (W' := V4) (by rw [hV4]; ((with_reducible repeat' first | exact .refl _ _ | refine .alloc ?_ ?_ _ | refine .setCell ?_ ?_ _ | refine .drew ?_ | refine below_drewN ?_ _) <;> first | omega | simp <;> omega))
     have QB : BxC V4 V0.heap.size (encT ⟨.slice ra rl.length rc, .slice wa wl.length wc, ⟨ti, tt, rl, wl⟩⟩) := by rw [hV4]; exact BxC.made V0 _ _
     clear c8 f8 l8 c9 f9 l9 d0 d1 d2 d3 l10
     clear S hV4
     have S := S2
     clear S2
     have c8 := S.i.x8.1 0 _ rfl
     have f8 := S.i.x8.2.1
     have l8 := bx_lt S.i.x8
     have c9 := S.i.x9.1 0 _ rfl
     have f9 := S.i.x9.2.1
     have l9 := bx_lt S.i.x9
     have d0 := S.x10.1 0 _ rfl
     have d1 := S.x10.1 1 _ rfl
     have d2 := S.x10.1 2 _ rfl
     have d3 := S.x10.1 3 _ rfl
     have l10 := bx_lt S.x10
     refine wpAnyIn_ready (rs := [3]) (by kernel_rfl) (by simp) ?_
     refine AllReadyIn.cons rfl (fun K hK => ?_) AllReadyIn.nil
     rw [if_pos (by rfl)]
     obtain ⟨a6, c6, V5, hrun, S2⟩ := S.append QB (by omega)
     refine wpIn_append_run _ _ _ rv0 (.slice a6 (pre.length + 1) c6) _ rfl (by rfl) (by rfl) hrun (hK _ _ ?_)
     clear c8 f8 l8 c9 f9 l9 d0 d1 d2 d3 l10
     clear hK K S QB hrun
     have S := S2
     clear S2
     have c8 := S.i.x8.1 0 _ rfl
     have f8 := S.i.x8.2.1
     have l8 := bx_lt S.i.x8
     have c9 := S.i.x9.1 0 _ rfl
     have f9 := S.i.x9.2.1
     have l9 := bx_lt S.i.x9
     have d0 := S.x10.1 0 _ rfl
     have d1 := S.x10.1 1 _ rfl
     have d2 := S.x10.1 2 _ rfl
     have d3 := S.x10.1 3 _ rfl
     have l10 := bx_lt S.x10
     refine wpAnyIn_ready (rs := [8]) (by kernel_rfl) (by simp) ?_
     refine AllReadyIn.cons rfl (fun K hK => ?_) AllReadyIn.nil
     go_simp; refine hK _ _ ?_; clear hK K
     obtain ⟨V6, hV6⟩ : ∃ V, V = V5.setCell ⟨w1.heap.size, 0, none⟩ (.slice a6 (pre.length + 1) c6) := ⟨_, rfl⟩
     rw [← hV6]
     have S2 : LdS w1 W Bx H ⟨.slice ra rl.length rc, .slice wa wl.length wc, ⟨ti, tt, rl, wl⟩⟩ (pre ++ [⟨.slice ra rl.length rc, .slice wa wl.length wc, ⟨ti, tt, rl, wl⟩⟩]) (.slice a6 (pre.length + 1) c6) n0 (.slice a6 (pre.length + 1) c6) V6 := by rw [hV6]; exact S.set8 _
     clear c8 f8 l8 c9 f9 l9 d0 d1 d2 d3 l10
     clear S hV6
     have S := S2
     clear S2
     have c8 := S.i.x8.1 0 _ rfl
     have f8 := S.i.x8.2.1
     have l8 := bx_lt S.i.x8
     have c9 := S.i.x9.1 0 _ rfl
     have f9 := S.i.x9.2.1
     have l9 := bx_lt S.i.x9
     have d0 := S.x10.1 0 _ rfl
     have d1 := S.x10.1 1 _ rfl
     have d2 := S.x10.1 2 _ rfl
     have d3 := S.x10.1 3 _ rfl
     have l10 := bx_lt S.x10
     refine wpAnyIn_ready (rs := [9]) (by kernel_rfl) (by simp) ?_
     refine AllReadyIn.cons rfl (fun K hK => ?_) AllReadyIn.nil
     go_simp; refine hK _ _ ?_; clear hK K
     clear c8 f8 l8 c9 f9 l9 d0 d1 d2 d3 l10
     refine wpAnyIn_done (by kernel_rfl) ?_ _
     exact HFIN.out _ { tmps := #[], defers := [] } _ _ (S.set9 n1)
   ·go_simp; refine hK _ _ ?_; clear hK K
    refine wpAnyIn_take (i := 7) (v := .int .i64 n1) rfl rfl (by kernel_rfl) (by kernel_rfl) (by kernel_rfl) (fun _ _ _ h => h) ⟨Or.inl ⟨by rfl, by intro w; go_simp⟩, fun _ => rfl⟩ ?_
    refine wpAnyIn_ready (rs := [1]) (by kernel_rfl) (by simp) ?_
    refine AllReadyIn.cons rfl (fun K hK => ?_) AllReadyIn.nil
    go_simp; refine hK _ _ ?_; clear hK K
    refine wpAnyIn_ready (rs := [2]) (by kernel_rfl) (by simp) ?_
    refine AllReadyIn.cons rfl (fun K hK => ?_) AllReadyIn.nil
    go_simp; refine hK _ _ ?_; clear hK K
    obtain ⟨V4, hV4⟩ : ∃ V, V = V0.alloc (.cells #[.int .i64 ti, .int .i64 tt, .slice ra rl.length rc, .slice wa wl.length wc] 28) := ⟨_, rfl⟩
    rw [← hV4]
    have S2 := S.below (W' := V4) (by rw [hV4]; ((with_reducible repeat' first | exact .refl _ _ | refine .alloc ?_ ?_ _ | refine .setCell ?_ ?_ _ | refine .drew ?_ | refine below_drewN ?_ _) <;> first | omega | simp <;> omega))
    have QB : BxC V4 V0.heap.size (encT ⟨.slice ra rl.length rc, .slice wa wl.length wc, ⟨ti, tt, rl, wl⟩⟩) := by rw [hV4]; exact BxC.made V0 _ _
    clear c8 f8 l8 c9 f9 l9 d0 d1 d2 d3 l10
    clear S hV4
    have S := S2
    clear S2
    have c8 := S.i.x8.1 0 _ rfl
    have f8 := S.i.x8.2.1
    have l8 := bx_lt S.i.x8
    have c9 := S.i.x9.1 0 _ rfl
    have f9 := S.i.x9.2.1
    have l9 := bx_lt S.i.x9
    have d0 := S.x10.1 0 _ rfl
    have d1 := S.x10.1 1 _ rfl
    have d2 := S.x10.1 2 _ rfl
    have d3 := S.x10.1 3 _ rfl
    have l10 := bx_lt S.x10
    refine wpAnyIn_ready (rs := [3]) (by kernel_rfl) (by simp) ?_
    refine AllReadyIn.cons rfl (fun K hK => ?_) AllReadyIn.nil
    rw [if_pos (by rfl)]
    obtain ⟨a6, c6, V5, hrun, S2⟩ := S.append QB (by omega)
    refine wpIn_append_run _ _ _ rv0 (.slice a6 (pre.length + 1) c6) _ rfl (by rfl) (by rfl) hrun (hK _ _ ?_)
    clear c8 f8 l8 c9 f9 l9 d0 d1 d2 d3 l10
    clear hK K S QB hrun
    have S := S2
    clear S2
    have c8 := S.i.x8.1 0 _ rfl
    have f8 := S.i.x8.2.1
    have l8 := bx_lt S.i.x8
    have c9 := S.i.x9.1 0 _ rfl
    have f9 := S.i.x9.2.1
    have l9 := bx_lt S.i.x9
    have d0 := S.x10.1 0 _ rfl
    have d1 := S.x10.1 1 _ rfl
    have d2 := S.x10.1 2 _ rfl
    have d3 := S.x10.1 3 _ rfl
    have l10 := bx_lt S.x10
    refine wpAnyIn_ready (rs := [8]) (by kernel_rfl) (by simp) ?_
    refine AllReadyIn.cons rfl (fun K hK => ?_) AllReadyIn.nil
    go_simp; refine hK _ _ ?_; clear hK K
    obtain ⟨V6, hV6⟩ : ∃ V, V = V5.setCell ⟨w1.heap.size, 0, none⟩ (.slice a6 (pre.length + 1) c6) := ⟨_, rfl⟩
    rw [← hV6]
    have S2 : LdS w1 W Bx H ⟨.slice ra rl.length rc, .slice wa wl.length wc, ⟨ti, tt, rl, wl⟩⟩ (pre ++ [⟨.slice ra rl.length rc, .slice wa wl.length wc, ⟨ti, tt, rl, wl⟩⟩]) (.slice a6 (pre.length + 1) c6) n0 (.slice a6 (pre.length + 1) c6) V6 := by rw [hV6]; exact S.set8 _
    clear c8 f8 l8 c9 f9 l9 d0 d1 d2 d3 l10
    clear S hV6
    have S := S2
    clear S2
    have c8 := S.i.x8.1 0 _ rfl
    have f8 := S.i.x8.2.1
    have l8 := bx_lt S.i.x8
    have c9 := S.i.x9.1 0 _ rfl
    have f9 := S.i.x9.2.1
    have l9 := bx_lt S.i.x9
    have d0 := S.x10.1 0 _ rfl
    have d1 := S.x10.1 1 _ rfl
    have d2 := S.x10.1 2 _ rfl
    have d3 := S.x10.1 3 _ rfl
    have l10 := bx_lt S.x10
    refine wpAnyIn_ready (rs := [9]) (by kernel_rfl) (by simp) ?_
    refine AllReadyIn.cons rfl (fun K hK => ?_) AllReadyIn.nil
    go_simp; refine hK _ _ ?_; clear hK K
    clear c8 f8 l8 c9 f9 l9 d0 d1 d2 d3 l10
    refine wpAnyIn_done (by kernel_rfl) ?_ _
    exact HFIN.out _ { tmps := #[], defers := [] } _ _ (S.set9 n1)
  ·go_simp; refine hK _ _ ?_; clear hK K
   refine wpAnyIn_ready (rs := [0, 2, 4]) (by kernel_rfl) (by simp) ?_
   refine AllReadyIn.cons rfl (fun K hK => ?_) (AllReadyIn.cons rfl (fun K hK => ?_) (AllReadyIn.cons rfl (fun K hK => ?_) AllReadyIn.nil))
   ·go_simp; refine hK _ _ ?_; clear hK K
    refine wpAnyIn_ready (rs := [2, 4]) (by kernel_rfl) (by simp) ?_
    refine AllReadyIn.cons rfl (fun K hK => ?_) (AllReadyIn.cons rfl (fun K hK => ?_) AllReadyIn.nil)
    ·go_simp; refine hK _ _ ?_; clear hK K
     obtain ⟨V3, hV3⟩ : ∃ V, V = V0.alloc (.cells #[.int .i64 ti, .int .i64 tt, .slice ra rl.length rc, .slice wa wl.length wc] 28) := ⟨_, rfl⟩
     rw [← hV3]
     have S2 := S.below (W' := V3) (by rw [hV3]; ((with_reducible repeat' first | exact .refl _ _ | refine .alloc ?_ ?_ _ | refine .setCell ?_ ?_ _ | refine .drew ?_ | refine below_drewN ?_ _) <;> first | omega | simp <;> omega))
     have QB : BxC V3 V0.heap.size (encT ⟨.slice ra rl.length rc, .slice wa wl.length wc, ⟨ti, tt, rl, wl⟩⟩) := by rw [hV3]; exact BxC.made V0 _ _
     clear c8 f8 l8 c9 f9 l9 d0 d1 d2 d3 l10
     clear S hV3
     have S := S2
     clear S2
     have c8 := S.i.x8.1 0 _ rfl
     have f8 := S.i.x8.2.1
     have l8 := bx_lt S.i.x8
     have c9 := S.i.x9.1 0 _ rfl
     have f9 := S.i.x9.2.1
     have l9 := bx_lt S.i.x9
     have d0 := S.x10.1 0 _ rfl
     have d1 := S.x10.1 1 _ rfl
     have d2 := S.x10.1 2 _ rfl
     have d3 := S.x10.1 3 _ rfl
     have l10 := bx_lt S.x10
     refine wpAnyIn_ready (rs := [3, 4]) (by kernel_rfl) (by simp) ?_
     refine AllReadyIn.cons rfl (fun K hK => ?_) (AllReadyIn.cons rfl (fun K hK => ?_) AllReadyIn.nil)
     ·rw [if_pos (by rfl)]
      obtain ⟨a6, c6, V4, hrun, S2⟩ := S.append QB (by omega)
      refine wpIn_append_run _ _ _ rv0 (.slice a6 (pre.length + 1) c6) _ rfl (by rfl) (by rfl) hrun (hK _ _ ?_)
      clear c8 f8 l8 c9 f9 l9 d0 d1 d2 d3 l10
      clear hK K S QB hrun
      have S := S2
      clear S2
      have c8 := S.i.x8.1 0 _ rfl
      have f8 := S.i.x8.2.1
      have l8 := bx_lt S.i.x8
      have c9 := S.i.x9.1 0 _ rfl
      have f9 := S.i.x9.2.1
      have l9 := bx_lt S.i.x9
      have d0 := S.x10.1 0 _ rfl
      have d1 := S.x10.1 1 _ rfl
      have d2 := S.x10.1 2 _ rfl
      have d3 := S.x10.1 3 _ rfl
      have l10 := bx_lt S.x10
      refine wpAnyIn_ready (rs := [4, 8]) (by kernel_rfl) (by simp) ?_
      refine AllReadyIn.cons rfl (fun K hK => ?_) (AllReadyIn.cons rfl (fun K hK => ?_) AllReadyIn.nil)
      ·go_simp; refine hK _ _ ?_; clear hK K
       refine wpAnyIn_take (i := 7) (v := .int .i64 n1) rfl rfl (by kernel_rfl) (by kernel_rfl) (by kernel_rfl) (fun _ _ _ h => h) ⟨Or.inl ⟨by rfl, by intro w; go_simp⟩, fun _ => rfl⟩ ?_
       refine wpAnyIn_ready (rs := [8]) (by kernel_rfl) (by simp) ?_
       refine AllReadyIn.cons rfl (fun K hK => ?_) AllReadyIn.nil
       go_simp; refine hK _ _ ?_; clear hK K
       obtain ⟨V6, hV6⟩ : ∃ V, V = V4.setCell ⟨w1.heap.size, 0, none⟩ (.slice a6 (pre.length + 1) c6) := ⟨_, rfl⟩
       rw [← hV6]
       have S2 : LdS w1 W Bx H ⟨.slice ra rl.length rc, .slice wa wl.length wc, ⟨ti, tt, rl, wl⟩⟩ (pre ++ [⟨.slice ra rl.length rc, .slice wa wl.length wc, ⟨ti, tt, rl, wl⟩⟩]) (.slice a6 (pre.length + 1) c6) n0 (.slice a6 (pre.length + 1) c6) V6 := by rw [hV6]; exact S.set8 _
       clear c8 f8 l8 c9 f9 l9 d0 d1 d2 d3 l10
       clear S hV6
       have S := S2
       clear S2
       have c8 := S.i.x8.1 0 _ rfl
       have f8 := S.i.x8.2.1
       have l8 := bx_lt S.i.x8
       have c9 := S.i.x9.1 0 _ rfl
       have f9 := S.i.x9.2.1
       have l9 := bx_lt S.i.x9
       have d0 := S.x10.1 0 _ rfl
       have d1 := S.x10.1 1 _ rfl
       have d2 := S.x10.1 2 _ rfl
       have d3 := S.x10.1 3 _ rfl
       have l10 := bx_lt S.x10
       refine wpAnyIn_ready (rs := [9]) (by kernel_rfl) (by simp) ?_
       refine AllReadyIn.cons rfl (fun K hK => ?_) AllReadyIn.nil
       go_simp; refine hK _ _ ?_; clear hK K
       clear c8 f8 l8 c9 f9 l9 d0 d1 d2 d3 l10
       refine wpAnyIn_done (by kernel_rfl) ?_ _
       exact HFIN.out _ { tmps := #[], defers := [] } _ _ (S.set9 n1)
      ·go_simp; refine hK _ _ ?_; clear hK K
       obtain ⟨V5, hV5⟩ : ∃ V, V = V4.setCell ⟨w1.heap.size, 0, none⟩ (.slice a6 (pre.length + 1) c6) := ⟨_, rfl⟩
       rw [← hV5]
       have S2 : LdS w1 W Bx H ⟨.slice ra rl.length rc, .slice wa wl.length wc, ⟨ti, tt, rl, wl⟩⟩ (pre ++ [⟨.slice ra rl.length rc, .slice wa wl.length wc, ⟨ti, tt, rl, wl⟩⟩]) (.slice a6 (pre.length + 1) c6) n0 (.slice a6 (pre.length + 1) c6) V5 := by rw [hV5]; exact S.set8 _
       clear c8 f8 l8 c9 f9 l9 d0 d1 d2 d3 l10
       clear S hV5
       have S := S2
       clear S2
       have c8 := S.i.x8.1 0 _ rfl
       have f8 := S.i.x8.2.1
       have l8 := bx_lt S.i.x8
       have c9 := S.i.x9.1 0 _ rfl
       have f9 := S.i.x9.2.1
       have l9 := bx_lt S.i.x9
       have d0 := S.x10.1 0 _ rfl
       have d1 := S.x10.1 1 _ rfl
       have d2 := S.x10.1 2 _ rfl
       have d3 := S.x10.1 3 _ rfl
       have l10 := bx_lt S.x10
       refine wpAnyIn_ready (rs := [4]) (by kernel_rfl) (by simp) ?_
       refine AllReadyIn.cons rfl (fun K hK => ?_) AllReadyIn.nil
       go_simp; refine hK _ _ ?_; clear hK K
       refine wpAnyIn_take (i := 7) (v := .int .i64 n1) rfl rfl (by kernel_rfl) (by kernel_rfl) (by kernel_rfl) (fun _ _ _ h => h) ⟨Or.inl ⟨by rfl, by intro w; go_simp⟩, fun _ => rfl⟩ ?_
       refine wpAnyIn_ready (rs := [9]) (by kernel_rfl) (by simp) ?_
       refine AllReadyIn.cons rfl (fun K hK => ?_) AllReadyIn.nil
       go_simp; refine hK _ _ ?_; clear hK K
       clear c8 f8 l8 c9 f9 l9 d0 d1 d2 d3 l10
       refine wpAnyIn_done (by kernel_rfl) ?_ _
       exact HFIN.out _ { tmps := #[], defers := [] } _ _ (S.set9 n1)
     ·go_simp; refine hK _ _ ?_; clear hK K
      refine wpAnyIn_take (i := 7) (v := .int .i64 n1) rfl rfl (by kernel_rfl) (by kernel_rfl) (by kernel_rfl) (fun _ _ _ h => h) ⟨Or.inl ⟨by rfl, by intro w; go_simp⟩, fun _ => rfl⟩ ?_
      refine wpAnyIn_ready (rs := [3]) (by kernel_rfl) (by simp) ?_
      refine AllReadyIn.cons rfl (fun K hK => ?_) AllReadyIn.nil
      rw [if_pos (by rfl)]
      obtain ⟨a6, c6, V5, hrun, S2⟩ := S.append QB (by omega)
      refine wpIn_append_run _ _ _ rv0 (.slice a6 (pre.length + 1) c6) _ rfl (by rfl) (by rfl) hrun (hK _ _ ?_)
      clear c8 f8 l8 c9 f9 l9 d0 d1 d2 d3 l10
      clear hK K S QB hrun
      have S := S2
      clear S2
      have c8 := S.i.x8.1 0 _ rfl
      have f8 := S.i.x8.2.1
      have l8 := bx_lt S.i.x8
      have c9 := S.i.x9.1 0 _ rfl
      have f9 := S.i.x9.2.1
      have l9 := bx_lt S.i.x9
      have d0 := S.x10.1 0 _ rfl
      have d1 := S.x10.1 1 _ rfl
      have d2 := S.x10.1 2 _ rfl
      have d3 := S.x10.1 3 _ rfl
      have l10 := bx_lt S.x10
      refine wpAnyIn_ready (rs := [8]) (by kernel_rfl) (by simp) ?_
      refine AllReadyIn.cons rfl (fun K hK => ?_) AllReadyIn.nil
      go_simp; refine hK _ _ ?_; clear hK K
      obtain ⟨V6, hV6⟩ : ∃ V, V = V5.setCell ⟨w1.heap.size, 0, none⟩ (.slice a6 (pre.length + 1) c6) := ⟨_, rfl⟩
      rw [← hV6]
      have S2 : LdS w1 W Bx H ⟨.slice ra rl.length rc, .slice wa wl.length wc, ⟨ti, tt, rl, wl⟩⟩ (pre ++ [⟨.slice ra rl.length rc, .slice wa wl.length wc, ⟨ti, tt, rl, wl⟩⟩]) (.slice a6 (pre.length + 1) c6) n0 (.slice a6 (pre.length + 1) c6) V6 := by rw [hV6]; exact S.set8 _
      clear c8 f8 l8 c9 f9 l9 d0 d1 d2 d3 l10
      clear S hV6
      have S := S2
      clear S2
      have c8 := S.i.x8.1 0 _ rfl
      have f8 := S.i.x8.2.1
      have l8 := bx_lt S.i.x8
      have c9 := S.i.x9.1 0 _ rfl
      have f9 := S.i.x9.2.1
      have l9 := bx_lt S.i.x9
      have d0 := S.x10.1 0 _ rfl
      have d1 := S.x10.1 1 _ rfl
      have d2 := S.x10.1 2 _ rfl
      have d3 := S.x10.1 3 _ rfl
      have l10 := bx_lt S.x10
      refine wpAnyIn_ready (rs := [9]) (by kernel_rfl) (by simp) ?_
      refine AllReadyIn.cons rfl (fun K hK => ?_) AllReadyIn.nil
      go_simp; refine hK _ _ ?_; clear hK K
      clear c8 f8 l8 c9 f9 l9 d0 d1 d2 d3 l10
      refine wpAnyIn_done (by kernel_rfl) ?_ _
      exact HFIN.out _ { tmps := #[], defers := [] } _ _ (S.set9 n1)
    ·go_simp; refine hK _ _ ?_; clear hK K
     refine wpAnyIn_take (i := 7) (v := .int .i64 n1) rfl rfl (by kernel_rfl) (by kernel_rfl) (by kernel_rfl) (fun _ _ _ h => h) ⟨Or.inl ⟨by rfl, by intro w; go_simp⟩, fun _ => rfl⟩ ?_
     refine wpAnyIn_ready (rs := [2]) (by kernel_rfl) (by simp) ?_
     refine AllReadyIn.cons rfl (fun K hK => ?_) AllReadyIn.nil
     go_simp; refine hK _ _ ?_; clear hK K
     obtain ⟨V4, hV4⟩ : ∃ V, V = V0.alloc (.cells #[.int .i64 ti, .int .i64 tt, .slice ra rl.length rc, .slice wa wl.length wc] 28) := ⟨_, rfl⟩
     rw [← hV4]
     have S2 := S.below (W' := V4) (by rw [hV4]; ((with_reducible repeat' first | exact .refl _ _ | refine .alloc ?_ ?_ _ | refine .setCell ?_ ?_ _ | refine .drew ?_ | refine below_drewN ?_ _) <;> first | omega | simp <;> omega))
     have QB : BxC V4 V0.heap.size (encT ⟨.slice ra rl.length rc, .slice wa wl.length wc, ⟨ti, tt, rl, wl⟩⟩) := by rw [hV4]; exact BxC.made V0 _ _
     clear c8 f8 l8 c9 f9 l9 d0 d1 d2 d3 l10
     clear S hV4
     have S := S2
     clear S2
     have c8 := S.i.x8.1 0 _ rfl
     have f8 := S.i.x8.2.1
     have l8 := bx_lt S.i.x8
     have c9 := S.i.x9.1 0 _ rfl
     have f9 := S.i.x9.2.1
     have l9 := bx_lt S.i.x9
     have d0 := S.x10.1 0 _ rfl
     have d1 := S.x10.1 1 _ rfl
     have d2 := S.x10.1 2 _ rfl
     have d3 := S.x10.1 3 _ rfl
     have l10 := bx_lt S.x10
     refine wpAnyIn_ready (rs := [3]) (by kernel_rfl) (by simp) ?_
     refine AllReadyIn.cons rfl (fun K hK => ?_) AllReadyIn.nil
     rw [if_pos (by rfl)]
     obtain ⟨a6, c6, V5, hrun, S2⟩ := S.append QB (by omega)
     refine wpIn_append_run _ _ _ rv0 (.slice a6 (pre.length + 1) c6) _ rfl (by rfl) (by rfl) hrun (hK _ _ ?_)
     clear c8 f8 l8 c9 f9 l9 d0 d1 d2 d3 l10
     clear hK K S QB hrun
     have S := S2
     clear S2
     have c8 := S.i.x8.1 0 _ rfl
     have f8 := S.i.x8.2.1
     have l8 := bx_lt S.i.x8
     have c9 := S.i.x9.1 0 _ rfl
     have f9 := S.i.x9.2.1
     have l9 := bx_lt S.i.x9
     have d0 := S.x10.1 0 _ rfl
     have d1 := S.x10.1 1 _ rfl
     have d2 := S.x10.1 2 _ rfl
     have d3 := S.x10.1 3 _ rfl
     have l10 := bx_lt S.x10
     refine wpAnyIn_ready (rs := [8]) (by kernel_rfl) (by simp) ?_
     refine AllReadyIn.cons rfl (fun K hK => ?_) AllReadyIn.nil
     go_simp; refine hK _ _ ?_; clear hK K
     obtain ⟨V6, hV6⟩ : ∃ V, V = V5.setCell ⟨w1.heap.size, 0, none⟩ (.slice a6 (pre.length + 1) c6) := ⟨_, rfl⟩
     rw [← hV6]
     have S2 : LdS w1 W Bx H ⟨.slice ra rl.length rc, .slice wa wl.length wc, ⟨ti, tt, rl, wl⟩⟩ (pre ++ [⟨.slice ra rl.length rc, .slice wa wl.length wc, ⟨ti, tt, rl, wl⟩⟩]) (.slice a6 (pre.length + 1) c6) n0 (.slice a6 (pre.length + 1) c6) V6 := by rw [hV6]; exact S.set8 _
     clear c8 f8 l8 c9 f9 l9 d0 d1 d2 d3 l10
     clear S hV6
     have S := S2
     clear S2
     have c8 := S.i.x8.1 0 _ rfl
     have f8 := S.i.x8.2.1
     have l8 := bx_lt S.i.x8
     have c9 := S.i.x9.1 0 _ rfl
     have f9 := S.i.x9.2.1
     have l9 := bx_lt S.i.x9
     have d0 := S.x10.1 0 _ rfl
     have d1 := S.x10.1 1 _ rfl
     have d2 := S.x10.1 2 _ rfl
     have d3 := S.x10.1 3 _ rfl
     have l10 := bx_lt S.x10
     refine wpAnyIn_ready (rs := [9]) (by kernel_rfl) (by simp) ?_
     refine AllReadyIn.cons rfl (fun K hK => ?_) AllReadyIn.nil
     go_simp; refine hK _ _ ?_; clear hK K
     clear c8 f8 l8 c9 f9 l9 d0 d1 d2 d3 l10
     refine wpAnyIn_done (by kernel_rfl) ?_ _
     exact HFIN.out _ { tmps := #[], defers := [] } _ _ (S.set9 n1)
   ·go_simp; refine hK _ _ ?_; clear hK K
    obtain ⟨V2, hV2⟩ : ∃ V, V = V0.alloc (.cells #[.int .i64 ti, .int .i64 tt, .slice ra rl.length rc, .slice wa wl.length wc] 28) := ⟨_, rfl⟩
    rw [← hV2]
    have S2 := S.below (W' := V2) (by rw [hV2]; ((with_reducible repeat' first | exact .refl _ _ | refine .alloc ?_ ?_ _ | refine .setCell ?_ ?_ _ | refine .drew ?_ | refine below_drewN ?_ _) <;> first | omega | simp <;> omega))
    have QB : BxC V2 V0.heap.size (encT ⟨.slice ra rl.length rc, .slice wa wl.length wc, ⟨ti, tt, rl, wl⟩⟩) := by rw [hV2]; exact BxC.made V0 _ _
    clear c8 f8 l8 c9 f9 l9 d0 d1 d2 d3 l10
    clear S hV2
    have S := S2
    clear S2
    have c8 := S.i.x8.1 0 _ rfl
    have f8 := S.i.x8.2.1
    have l8 := bx_lt S.i.x8
    have c9 := S.i.x9.1 0 _ rfl
    have f9 := S.i.x9.2.1
    have l9 := bx_lt S.i.x9
    have d0 := S.x10.1 0 _ rfl
    have d1 := S.x10.1 1 _ rfl
    have d2 := S.x10.1 2 _ rfl
    have d3 := S.x10.1 3 _ rfl
    have l10 := bx_lt S.x10
    refine wpAnyIn_ready (rs := [0, 4]) (by kernel_rfl) (by simp) ?_
    refine AllReadyIn.cons rfl (fun K hK => ?_) (AllReadyIn.cons rfl (fun K hK => ?_) AllReadyIn.nil)
    ·go_simp; refine hK _ _ ?_; clear hK K
     refine wpAnyIn_ready (rs := [3, 4]) (by kernel_rfl) (by simp) ?_
     refine AllReadyIn.cons rfl (fun K hK => ?_) (AllReadyIn.cons rfl (fun K hK => ?_) AllReadyIn.nil)
     ·rw [if_pos (by rfl)]
      obtain ⟨a6, c6, V4, hrun, S2⟩ := S.append QB (by omega)
      refine wpIn_append_run _ _ _ rv0 (.slice a6 (pre.length + 1) c6) _ rfl (by rfl) (by rfl) hrun (hK _ _ ?_)
      clear c8 f8 l8 c9 f9 l9 d0 d1 d2 d3 l10
      clear hK K S QB hrun
      have S := S2
      clear S2
      have c8 := S.i.x8.1 0 _ rfl
      have f8 := S.i.x8.2.1
      have l8 := bx_lt S.i.x8
      have c9 := S.i.x9.1 0 _ rfl
      have f9 := S.i.x9.2.1
      have l9 := bx_lt S.i.x9
      have d0 := S.x10.1 0 _ rfl
      have d1 := S.x10.1 1 _ rfl
      have d2 := S.x10.1 2 _ rfl
      have d3 := S.x10.1 3 _ rfl
      have l10 := bx_lt S.x10
      refine wpAnyIn_ready (rs := [4, 8]) (by kernel_rfl) (by simp) ?_
      refine AllReadyIn.cons rfl (fun K hK => ?_) (AllReadyIn.cons rfl (fun K hK => ?_) AllReadyIn.nil)
      ·go_simp; refine hK _ _ ?_; clear hK K
       refine wpAnyIn_take (i := 7) (v := .int .i64 n1) rfl rfl (by kernel_rfl) (by kernel_rfl) (by kernel_rfl) (fun _ _ _ h => h) ⟨Or.inl ⟨by rfl, by intro w; go_simp⟩, fun _ => rfl⟩ ?_
       refine wpAnyIn_ready (rs := [8]) (by kernel_rfl) (by simp) ?_
       refine AllReadyIn.cons rfl (fun K hK => ?_) AllReadyIn.nil
       go_simp; refine hK _ _ ?_; clear hK K
       obtain ⟨V6, hV6⟩ : ∃ V, V = V4.setCell ⟨w1.heap.size, 0, none⟩ (.slice a6 (pre.length + 1) c6) := ⟨_, rfl⟩
       rw [← hV6]
       have S2 : LdS w1 W Bx H ⟨.slice ra rl.length rc, .slice wa wl.length wc, ⟨ti, tt, rl, wl⟩⟩ (pre ++ [⟨.slice ra rl.length rc, .slice wa wl.length wc, ⟨ti, tt, rl, wl⟩⟩]) (.slice a6 (pre.length + 1) c6) n0 (.slice a6 (pre.length + 1) c6) V6 := by rw [hV6]; exact S.set8 _
       clear c8 f8 l8 c9 f9 l9 d0 d1 d2 d3 l10
       clear S hV6
       have S := S2
       clear S2
       have c8 := S.i.x8.1 0 _ rfl
       have f8 := S.i.x8.2.1
       have l8 := bx_lt S.i.x8
       have c9 := S.i.x9.1 0 _ rfl
       have f9 := S.i.x9.2.1
       have l9 := bx_lt S.i.x9
       have d0 := S.x10.1 0 _ rfl
       have d1 := S.x10.1 1 _ rfl
       have d2 := S.x10.1 2 _ rfl
       have d3 := S.x10.1 3 _ rfl
       have l10 := bx_lt S.x10
       refine wpAnyIn_ready (rs := [9]) (by kernel_rfl) (by simp) ?_
       refine AllReadyIn.cons rfl (fun K hK => ?_) AllReadyIn.nil
       go_simp; refine hK _ _ ?_; clear hK K
       clear c8 f8 l8 c9 f9 l9 d0 d1 d2 d3 l10
       refine wpAnyIn_done (by kernel_rfl) ?_ _
       exact HFIN.out _ { tmps := #[], defers := [] } _ _ (S.set9 n1)
      ·go_simp; refine hK _ _ ?_; clear hK K
       obtain ⟨V5, hV5⟩ : ∃ V, V = V4.setCell ⟨w1.heap.size, 0, none⟩ (.slice a6 (pre.length + 1) c6) := ⟨_, rfl⟩
       rw [← hV5]
       have S2 : LdS w1 W Bx H ⟨.slice ra rl.length rc, .slice wa wl.length wc, ⟨ti, tt, rl, wl⟩⟩ (pre ++ [⟨.slice ra rl.length rc, .slice wa wl.length wc, ⟨ti, tt, rl, wl⟩⟩]) (.slice a6 (pre.length + 1) c6) n0 (.slice a6 (pre.length + 1) c6) V5 := by rw [hV5]; exact S.set8 _
       clear c8 f8 l8 c9 f9 l9 d0 d1 d2 d3 l10
       clear S hV5
       have S := S2
       clear S2
       have c8 := S.i.x8.1 0 _ rfl
       have f8 := S.i.x8.2.1
       have l8 := bx_lt S.i.x8
       have c9 := S.i.x9.1 0 _ rfl
       have f9 := S.i.x9.2.1
       have l9 := bx_lt S.i.x9
       have d0 := S.x10.1 0 _ rfl
       have d1 := S.x10.1 1 _ rfl
       have d2 := S.x10.1 2 _ rfl
       have d3 := S.x10.1 3 _ rfl
       have l10 := bx_lt S.x10
       refine wpAnyIn_ready (rs := [4]) (by kernel_rfl) (by simp) ?_
       refine AllReadyIn.cons rfl (fun K hK => ?_) AllReadyIn.nil
       go_simp; refine hK _ _ ?_; clear hK K
       refine wpAnyIn_take (i := 7) (v := .int .i64 n1) rfl rfl (by kernel_rfl) (by kernel_rfl) (by kernel_rfl) (fun _ _ _ h => h) ⟨Or.inl ⟨by rfl, by intro w; go_simp⟩, fun _ => rfl⟩ ?_
       refine wpAnyIn_ready (rs := [9]) (by kernel_rfl) (by simp) ?_
       refine AllReadyIn.cons rfl (fun K hK => ?_) AllReadyIn.nil
       go_simp; refine hK _ _ ?_; clear hK K
       clear c8 f8 l8 c9 f9 l9 d0 d1 d2 d3 l10
       refine wpAnyIn_done (by kernel_rfl) ?_ _
       exact HFIN.out _ { tmps := #[], defers := [] } _ _ (S.set9 n1)
     ·go_simp; refine hK _ _ ?_; clear hK K
      refine wpAnyIn_take (i := 7) (v := .int .i64 n1) rfl rfl (by kernel_rfl) (by kernel_rfl) (by kernel_rfl) (fun _ _ _ h => h) ⟨Or.inl ⟨by rfl, by intro w; go_simp⟩, fun _ => rfl⟩ ?_
      refine wpAnyIn_ready (rs := [3]) (by kernel_rfl) (by simp) ?_
      refine AllReadyIn.cons rfl (fun K hK => ?_) AllReadyIn.nil
      rw [if_pos (by rfl)]
      obtain ⟨a6, c6, V5, hrun, S2⟩ := S.append QB (by omega)
      refine wpIn_append_run _ _ _ rv0 (.slice a6 (pre.length + 1) c6) _ rfl (by rfl) (by rfl) hrun (hK _ _ ?_)
      clear c8 f8 l8 c9 f9 l9 d0 d1 d2 d3 l10
      clear hK K S QB hrun
      have S := S2
      clear S2
      have c8 := S.i.x8.1 0 _ rfl
      have f8 := S.i.x8.2.1
      have l8 := bx_lt S.i.x8
      have c9 := S.i.x9.1 0 _ rfl
      have f9 := S.i.x9.2.1
      have l9 := bx_lt S.i.x9
      have d0 := S.x10.1 0 _ rfl
      have d1 := S.x10.1 1 _ rfl
      have d2 := S.x10.1 2 _ rfl
      have d3 := S.x10.1 3 _ rfl
      have l10 := bx_lt S.x10
      refine wpAnyIn_ready (rs := [8]) (by kernel_rfl) (by simp) ?_
      refine AllReadyIn.cons rfl (fun K hK => ?_) AllReadyIn.nil
      go_simp; refine hK _ _ ?_; clear hK K
      obtain ⟨V6, hV6⟩ : ∃ V, V = V5.setCell ⟨w1.heap.size, 0, none⟩ (.slice a6 (pre.length + 1) c6) := ⟨_, rfl⟩
      rw [← hV6]
      have S2 : LdS w1 W Bx H ⟨.slice ra rl.length rc, .slice wa wl.length wc, ⟨ti, tt, rl, wl⟩⟩ (pre ++ [⟨.slice ra rl.length rc, .slice wa wl.length wc, ⟨ti, tt, rl, wl⟩⟩]) (.slice a6 (pre.length + 1) c6) n0 (.slice a6 (pre.length + 1) c6) V6 := by rw [hV6]; exact S.set8 _
      clear c8 f8 l8 c9 f9 l9 d0 d1 d2 d3 l10
      clear S hV6
      have S := S2
      clear S2
      have c8 := S.i.x8.1 0 _ rfl
      have f8 := S.i.x8.2.1
      have l8 := bx_lt S.i.x8
      have c9 := S.i.x9.1 0 _ rfl
      have f9 := S.i.x9.2.1
      have l9 := bx_lt S.i.x9
      have d0 := S.x10.1 0 _ rfl
      have d1 := S.x10.1 1 _ rfl
      have d2 := S.x10.1 2 _ rfl
      have d3 := S.x10.1 3 _ rfl
      have l10 := bx_lt S.x10
      refine wpAnyIn_ready (rs := [9]) (by kernel_rfl) (by simp) ?_
      refine AllReadyIn.cons rfl (fun K hK => ?_) AllReadyIn.nil
      go_simp; refine hK _ _ ?_; clear hK K
      clear c8 f8 l8 c9 f9 l9 d0 d1 d2 d3 l10
      refine wpAnyIn_done (by kernel_rfl) ?_ _
      exact HFIN.out _ { tmps := #[], defers := [] } _ _ (S.set9 n1)
    ·go_simp; refine hK _ _ ?_; clear hK K
     refine wpAnyIn_take (i := 7) (v := .int .i64 n1) rfl rfl (by kernel_rfl) (by kernel_rfl) (by kernel_rfl) (fun _ _ _ h => h) ⟨Or.inl ⟨by rfl, by intro w; go_simp⟩, fun _ => rfl⟩ ?_
     refine wpAnyIn_ready (rs := [0]) (by kernel_rfl) (by simp) ?_
     refine AllReadyIn.cons rfl (fun K hK => ?_) AllReadyIn.nil
     go_simp; refine hK _ _ ?_; clear hK K
     refine wpAnyIn_ready (rs := [3]) (by kernel_rfl) (by simp) ?_
     refine AllReadyIn.cons rfl (fun K hK => ?_) AllReadyIn.nil
     rw [if_pos (by rfl)]
     obtain ⟨a6, c6, V5, hrun, S2⟩ := S.append QB (by omega)
     refine wpIn_append_run _ _ _ rv0 (.slice a6 (pre.length + 1) c6) _ rfl (by rfl) (by rfl) hrun (hK _ _ ?_)
     clear c8 f8 l8 c9 f9 l9 d0 d1 d2 d3 l10
     clear hK K S QB hrun
     have S := S2
     clear S2
     have c8 := S.i.x8.1 0 _ rfl
     have f8 := S.i.x8.2.1
     have l8 := bx_lt S.i.x8
     have c9 := S.i.x9.1 0 _ rfl
     have f9 := S.i.x9.2.1
     have l9 := bx_lt S.i.x9
     have d0 := S.x10.1 0 _ rfl
     have d1 := S.x10.1 1 _ rfl
     have d2 := S.x10.1 2 _ rfl
     have d3 := S.x10.1 3 _ rfl
     have l10 := bx_lt S.x10
     refine wpAnyIn_ready (rs := [8]) (by kernel_rfl) (by simp) ?_
     refine AllReadyIn.cons rfl (fun K hK => ?_) AllReadyIn.nil
     go_simp; refine hK _ _ ?_; clear hK K
     obtain ⟨V6, hV6⟩ : ∃ V, V = V5.setCell ⟨w1.heap.size, 0, none⟩ (.slice a6 (pre.length + 1) c6) := ⟨_, rfl⟩
     rw [← hV6]
     have S2 : LdS w1 W Bx H ⟨.slice ra rl.length rc, .slice wa wl.length wc, ⟨ti, tt, rl, wl⟩⟩ (pre ++ [⟨.slice ra rl.length rc, .slice wa wl.length wc, ⟨ti, tt, rl, wl⟩⟩]) (.slice a6 (pre.length + 1) c6) n0 (.slice a6 (pre.length + 1) c6) V6 := by rw [hV6]; exact S.set8 _
     clear c8 f8 l8 c9 f9 l9 d0 d1 d2 d3 l10
     clear S hV6
     have S := S2
     clear S2
     have c8 := S.i.x8.1 0 _ rfl
     have f8 := S.i.x8.2.1
     have l8 := bx_lt S.i.x8
     have c9 := S.i.x9.1 0 _ rfl
     have f9 := S.i.x9.2.1
     have l9 := bx_lt S.i.x9
     have d0 := S.x10.1 0 _ rfl
     have d1 := S.x10.1 1 _ rfl
     have d2 := S.x10.1 2 _ rfl
     have d3 := S.x10.1 3 _ rfl
     have l10 := bx_lt S.x10
     refine wpAnyIn_ready (rs := [9]) (by kernel_rfl) (by simp) ?_
     refine AllReadyIn.cons rfl (fun K hK => ?_) AllReadyIn.nil
     go_simp; refine hK _ _ ?_; clear hK K
     clear c8 f8 l8 c9 f9 l9 d0 d1 d2 d3 l10
     refine wpAnyIn_done (by kernel_rfl) ?_ _
     exact HFIN.out _ { tmps := #[], defers := [] } _ _ (S.set9 n1)
   ·go_simp; refine hK _ _ ?_; clear hK K
    refine wpAnyIn_take (i := 7) (v := .int .i64 n1) rfl rfl (by kernel_rfl) (by kernel_rfl) (by kernel_rfl) (fun _ _ _ h => h) ⟨Or.inl ⟨by rfl, by intro w; go_simp⟩, fun _ => rfl⟩ ?_
    refine wpAnyIn_ready (rs := [0, 2]) (by kernel_rfl) (by simp) ?_
    refine AllReadyIn.cons rfl (fun K hK => ?_) (AllReadyIn.cons rfl (fun K hK => ?_) AllReadyIn.nil)
    ·go_simp; refine hK _ _ ?_; clear hK K
     refine wpAnyIn_ready (rs := [2]) (by kernel_rfl) (by simp) ?_
     refine AllReadyIn.cons rfl (fun K hK => ?_) AllReadyIn.nil
     go_simp; refine hK _ _ ?_; clear hK K
     obtain ⟨V4, hV4⟩ : ∃ V, V = V0.alloc (.cells #[.int .i64 ti, .int .i64 tt, .slice ra rl.length rc, .slice wa wl.length wc] 28) := ⟨_, rfl⟩
     rw [← hV4]
     have S2 := S.below (W' := V4) (by rw [hV4]; ((with_reducible repeat' first | exact .refl _ _ | refine .alloc ?_ ?_ _ | refine .setCell ?_ ?_ _ | refine .drew ?_ | refine below_drewN ?_ _) <;> first | omega | simp <;> omega))
     have QB : BxC V4 V0.heap.size (encT ⟨.slice ra rl.length rc, .slice wa wl.length wc, ⟨ti, tt, rl, wl⟩⟩) := by rw [hV4]; exact BxC.made V0 _ _
     clear c8 f8 l8 c9 f9 l9 d0 d1 d2 d3 l10
     clear S hV4
     have S := S2
     clear S2
     have c8 := S.i.x8.1 0 _ rfl
     have f8 := S.i.x8.2.1
     have l8 := bx_lt S.i.x8
     have c9 := S.i.x9.1 0 _ rfl
     have f9 := S.i.x9.2.1
     have l9 := bx_lt S.i.x9
     have d0 := S.x10.1 0 _ rfl
     have d1 := S.x10.1 1 _ rfl
     have d2 := S.x10.1 2 _ rfl
     have d3 := S.x10.1 3 _ rfl
     have l10 := bx_lt S.x10
     refine wpAnyIn_ready (rs := [3]) (by kernel_rfl) (by simp) ?_
     refine AllReadyIn.cons rfl (fun K hK => ?_) AllReadyIn.nil
     rw [if_pos (by rfl)]
     obtain ⟨a6, c6, V5, hrun, S2⟩ := S.append QB (by omega)
     refine wpIn_append_run _ _ _ rv0 (.slice a6 (pre.length + 1) c6) _ rfl (by rfl) (by rfl) hrun (hK _ _ ?_)
     clear c8 f8 l8 c9 f9 l9 d0 d1 d2 d3 l10
     clear hK K S QB hrun
     have S := S2
     clear S2
     have c8 := S.i.x8.1 0 _ rfl
     have f8 := S.i.x8.2.1
     have l8 := bx_lt S.i.x8
     have c9 := S.i.x9.1 0 _ rfl
     have f9 := S.i.x9.2.1
     have l9 := bx_lt S.i.x9
     have d0 := S.x10.1 0 _ rfl
     have d1 := S.x10.1 1 _ rfl
     have d2 := S.x10.1 2 _ rfl
     have d3 := S.x10.1 3 _ rfl
     have l10 := bx_lt S.x10
     refine wpAnyIn_ready (rs := [8]) (by kernel_rfl) (by simp) ?_
     refine AllReadyIn.cons rfl (fun K hK => ?_) AllReadyIn.nil
     go_simp; refine hK _ _ ?_; clear hK K
     obtain ⟨V6, hV6⟩ : ∃ V, V = V5.setCell ⟨w1.heap.size, 0, none⟩ (.slice a6 (pre.length + 1) c6) := ⟨_, rfl⟩
     rw [← hV6]
     have S2 : LdS w1 W Bx H ⟨.slice ra rl.length rc, .slice wa wl.length wc, ⟨ti, tt, rl, wl⟩⟩ (pre ++ [⟨.slice ra rl.length rc, .slice wa wl.length wc, ⟨ti, tt, rl, wl⟩⟩]) (.slice a6 (pre.length + 1) c6) n0 (.slice a6 (pre.length + 1) c6) V6 := by rw [hV6]; exact S.set8 _
     clear c8 f8 l8 c9 f9 l9 d0 d1 d2 d3 l10
     clear S hV6
     have S := S2
     clear S2
     have c8 := S.i.x8.1 0 _ rfl
     have f8 := S.i.x8.2.1
     have l8 := bx_lt S.i.x8
     have c9 := S.i.x9.1 0 _ rfl
     have f9 := S.i.x9.2.1
     have l9 := bx_lt S.i.x9
     have d0 := S.x10.1 0 _ rfl
     have d1 := S.x10.1 1 _ rfl
     have d2 := S.x10.1 2 _ rfl
     have d3 := S.x10.1 3 _ rfl
     have l10 := bx_lt S.x10
     refine wpAnyIn_ready (rs := [9]) (by kernel_rfl) (by simp) ?_
     refine AllReadyIn.cons rfl (fun K hK => ?_) AllReadyIn.nil
     go_simp; refine hK _ _ ?_; clear hK K
     clear c8 f8 l8 c9 f9 l9 d0 d1 d2 d3 l10
     refine wpAnyIn_done (by kernel_rfl) ?_ _
     exact HFIN.out _ { tmps := #[], defers := [] } _ _ (S.set9 n1)
    ·go_simp; refine hK _ _ ?_; clear hK K
     obtain ⟨V3, hV3⟩ : ∃ V, V = V0.alloc (.cells #[.int .i64 ti, .int .i64 tt, .slice ra rl.length rc, .slice wa wl.length wc] 28) := ⟨_, rfl⟩
     rw [← hV3]
     have S2 := S.below (W' := V3) (by rw [hV3]; ((with_reducible repeat' first | exact .refl _ _ | refine .alloc ?_ ?_ _ | refine .setCell ?_ ?_ _ | refine .drew ?_ | refine below_drewN ?_ _) <;> first | omega | simp <;> omega))
     have QB : BxC V3 V0.heap.size (encT ⟨.slice ra rl.length rc, .slice wa wl.length wc, ⟨ti, tt, rl, wl⟩⟩) := by rw [hV3]; exact BxC.made V0 _ _
     clear c8 f8 l8 c9 f9 l9 d0 d1 d2 d3 l10
     clear S hV3
     have S := S2
     clear S2
     have c8 := S.i.x8.1 0 _ rfl
     have f8 := S.i.x8.2.1
     have l8 := bx_lt S.i.x8
     have c9 := S.i.x9.1 0 _ rfl
     have f9 := S.i.x9.2.1
     have l9 := bx_lt S.i.x9
     have d0 := S.x10.1 0 _ rfl
     have d1 := S.x10.1 1 _ rfl
     have d2 := S.x10.1 2 _ rfl
     have d3 := S.x10.1 3 _ rfl
     have l10 := bx_lt S.x10
     refine wpAnyIn_ready (rs := [0]) (by kernel_rfl) (by simp) ?_
     refine AllReadyIn.cons rfl (fun K hK => ?_) AllReadyIn.nil
     go_simp; refine hK _ _ ?_; clear hK K
     refine wpAnyIn_ready (rs := [3]) (by kernel_rfl) (by simp) ?_
     refine AllReadyIn.cons rfl (fun K hK => ?_) AllReadyIn.nil
     rw [if_pos (by rfl)]
     obtain ⟨a6, c6, V5, hrun, S2⟩ := S.append QB (by omega)
     refine wpIn_append_run _ _ _ rv0 (.slice a6 (pre.length + 1) c6) _ rfl (by rfl) (by rfl) hrun (hK _ _ ?_)
     clear c8 f8 l8 c9 f9 l9 d0 d1 d2 d3 l10
     clear hK K S QB hrun
     have S := S2
     clear S2
     have c8 := S.i.x8.1 0 _ rfl
     have f8 := S.i.x8.2.1
     have l8 := bx_lt S.i.x8
     have c9 := S.i.x9.1 0 _ rfl
     have f9 := S.i.x9.2.1
     have l9 := bx_lt S.i.x9
     have d0 := S.x10.1 0 _ rfl
     have d1 := S.x10.1 1 _ rfl
     have d2 := S.x10.1 2 _ rfl
     have d3 := S.x10.1 3 _ rfl
     have l10 := bx_lt S.x10
     refine wpAnyIn_ready (rs := [8]) (by kernel_rfl) (by simp) ?_
     refine AllReadyIn.cons rfl (fun K hK => ?_) AllReadyIn.nil
     go_simp; refine hK _ _ ?_; clear hK K
     obtain ⟨V6, hV6⟩ : ∃ V, V = V5.setCell ⟨w1.heap.size, 0, none⟩ (.slice a6 (pre.length + 1) c6) := ⟨_, rfl⟩
     rw [← hV6]
     have S2 : LdS w1 W Bx H ⟨.slice ra rl.length rc, .slice wa wl.length wc, ⟨ti, tt, rl, wl⟩⟩ (pre ++ [⟨.slice ra rl.length rc, .slice wa wl.length wc, ⟨ti, tt, rl, wl⟩⟩]) (.slice a6 (pre.length + 1) c6) n0 (.slice a6 (pre.length + 1) c6) V6 := by rw [hV6]; exact S.set8 _
     clear c8 f8 l8 c9 f9 l9 d0 d1 d2 d3 l10
     clear S hV6
     have S := S2
     clear S2
     have c8 := S.i.x8.1 0 _ rfl
     have f8 := S.i.x8.2.1
     have l8 := bx_lt S.i.x8
     have c9 := S.i.x9.1 0 _ rfl
     have f9 := S.i.x9.2.1
     have l9 := bx_lt S.i.x9
     have d0 := S.x10.1 0 _ rfl
     have d1 := S.x10.1 1 _ rfl
     have d2 := S.x10.1 2 _ rfl
     have d3 := S.x10.1 3 _ rfl
     have l10 := bx_lt S.x10
     refine wpAnyIn_ready (rs := [9]) (by kernel_rfl) (by simp) ?_
     refine AllReadyIn.cons rfl (fun K hK => ?_) AllReadyIn.nil
     go_simp; refine hK _ _ ?_; clear hK K
     clear c8 f8 l8 c9 f9 l9 d0 d1 d2 d3 l10
     refine wpAnyIn_done (by kernel_rfl) ?_ _
     exact HFIN.out _ { tmps := #[], defers := [] } _ _ (S.set9 n1)
  ·go_simp; refine hK _ _ ?_; clear hK K
   refine wpAnyIn_take (i := 7) (v := .int .i64 n1) rfl rfl (by kernel_rfl) (by kernel_rfl) (by kernel_rfl) (fun _ _ _ h => h) ⟨Or.inl ⟨by rfl, by intro w; go_simp⟩, fun _ => rfl⟩ ?_
   refine wpAnyIn_ready (rs := [0, 1]) (by kernel_rfl) (by simp) ?_
   refine AllReadyIn.cons rfl (fun K hK => ?_) (AllReadyIn.cons rfl (fun K hK => ?_) AllReadyIn.nil)
   ·go_simp; refine hK _ _ ?_; clear hK K
    refine wpAnyIn_ready (rs := [1]) (by kernel_rfl) (by simp) ?_
    refine AllReadyIn.cons rfl (fun K hK => ?_) AllReadyIn.nil
    go_simp; refine hK _ _ ?_; clear hK K
    refine wpAnyIn_ready (rs := [2]) (by kernel_rfl) (by simp) ?_
    refine AllReadyIn.cons rfl (fun K hK => ?_) AllReadyIn.nil
    go_simp; refine hK _ _ ?_; clear hK K
    obtain ⟨V4, hV4⟩ : ∃ V, V = V0.alloc (.cells #[.int .i64 ti, .int .i64 tt, .slice ra rl.length rc, .slice wa wl.length wc] 28) := ⟨_, rfl⟩
    rw [← hV4]
    have S2 := S.below (W' := V4) (by rw [hV4]; ((with_reducible repeat' first | exact .refl _ _ | refine .alloc ?_ ?_ _ | refine .setCell ?_ ?_ _ | refine .drew ?_ | refine below_drewN ?_ _) <;> first | omega | simp <;> omega))
    have QB : BxC V4 V0.heap.size (encT ⟨.slice ra rl.length rc, .slice wa wl.length wc, ⟨ti, tt, rl, wl⟩⟩) := by rw [hV4]; exact BxC.made V0 _ _
    clear c8 f8 l8 c9 f9 l9 d0 d1 d2 d3 l10
    clear S hV4
    have S := S2
    clear S2
    have c8 := S.i.x8.1 0 _ rfl
    have f8 := S.i.x8.2.1
    have l8 := bx_lt S.i.x8
    have c9 := S.i.x9.1 0 _ rfl
    have f9 := S.i.x9.2.1
    have l9 := bx_lt S.i.x9
    have d0 := S.x10.1 0 _ rfl
    have d1 := S.x10.1 1 _ rfl
    have d2 := S.x10.1 2 _ rfl
    have d3 := S.x10.1 3 _ rfl
    have l10 := bx_lt S.x10
    refine wpAnyIn_ready (rs := [3]) (by kernel_rfl) (by simp) ?_
    refine AllReadyIn.cons rfl (fun K hK => ?_) AllReadyIn.nil
    rw [if_pos (by rfl)]
    obtain ⟨a6, c6, V5, hrun, S2⟩ := S.append QB (by omega)
    refine wpIn_append_run _ _ _ rv0 (.slice a6 (pre.length + 1) c6) _ rfl (by rfl) (by rfl) hrun (hK _ _ ?_)
    clear c8 f8 l8 c9 f9 l9 d0 d1 d2 d3 l10
    clear hK K S QB hrun
    have S := S2
    clear S2
    have c8 := S.i.x8.1 0 _ rfl
    have f8 := S.i.x8.2.1
    have l8 := bx_lt S.i.x8
    have c9 := S.i.x9.1 0 _ rfl
    have f9 := S.i.x9.2.1
    have l9 := bx_lt S.i.x9
    have d0 := S.x10.1 0 _ rfl
    have d1 := S.x10.1 1 _ rfl
    have d2 := S.x10.1 2 _ rfl
    have d3 := S.x10.1 3 _ rfl
    have l10 := bx_lt S.x10
    refine wpAnyIn_ready (rs := [8]) (by kernel_rfl) (by simp) ?_
    refine AllReadyIn.cons rfl (fun K hK => ?_) AllReadyIn.nil
    go_simp; refine hK _ _ ?_; clear hK K
    obtain ⟨V6, hV6⟩ : ∃ V, V = V5.setCell ⟨w1.heap.size, 0, none⟩ (.slice a6 (pre.length + 1) c6) := ⟨_, rfl⟩
    rw [← hV6]
    have S2 : LdS w1 W Bx H ⟨.slice ra rl.length rc, .slice wa wl.length wc, ⟨ti, tt, rl, wl⟩⟩ (pre ++ [⟨.slice ra rl.length rc, .slice wa wl.length wc, ⟨ti, tt, rl, wl⟩⟩]) (.slice a6 (pre.length + 1) c6) n0 (.slice a6 (pre.length + 1) c6) V6 := by rw [hV6]; exact S.set8 _
    clear c8 f8 l8 c9 f9 l9 d0 d1 d2 d3 l10
    clear S hV6
    have S := S2
    clear S2
    have c8 := S.i.x8.1 0 _ rfl
    have f8 := S.i.x8.2.1
    have l8 := bx_lt S.i.x8
    have c9 := S.i.x9.1 0 _ rfl
    have f9 := S.i.x9.2.1
    have l9 := bx_lt S.i.x9
    have d0 := S.x10.1 0 _ rfl
    have d1 := S.x10.1 1 _ rfl
    have d2 := S.x10.1 2 _ rfl
    have d3 := S.x10.1 3 _ rfl
    have l10 := bx_lt S.x10
    refine wpAnyIn_ready (rs := [9]) (by kernel_rfl) (by simp) ?_
    refine AllReadyIn.cons rfl (fun K hK => ?_) AllReadyIn.nil
    go_simp; refine hK _ _ ?_; clear hK K
    clear c8 f8 l8 c9 f9 l9 d0 d1 d2 d3 l10
    refine wpAnyIn_done (by kernel_rfl) ?_ _
    exact HFIN.out _ { tmps := #[], defers := [] } _ _ (S.set9 n1)
   ·go_simp; refine hK _ _ ?_; clear hK K
    refine wpAnyIn_ready (rs := [0, 2]) (by kernel_rfl) (by simp) ?_
    refine AllReadyIn.cons rfl (fun K hK => ?_) (AllReadyIn.cons rfl (fun K hK => ?_) AllReadyIn.nil)
    ·go_simp; refine hK _ _ ?_; clear hK K
     refine wpAnyIn_ready (rs := [2]) (by kernel_rfl) (by simp) ?_
     refine AllReadyIn.cons rfl (fun K hK => ?_) AllReadyIn.nil
     go_simp; refine hK _ _ ?_; clear hK K
     obtain ⟨V4, hV4⟩ : ∃ V, V = V0.alloc (.cells #[.int .i64 ti, .int .i64 tt, .slice ra rl.length rc, .slice wa wl.length wc] 28) := ⟨_, rfl⟩
     rw [← hV4]
     have S2 := S.below (W' := V4) (by rw [hV4]; ((with_reducible repeat' first | exact .refl _ _ | refine .alloc ?_ ?_ _ | refine .setCell ?_ ?_ _ | refine .drew ?_ | refine below_drewN ?_ _) <;> first | omega | simp <;> omega))
     have QB : BxC V4 V0.heap.size (encT ⟨.slice ra rl.length rc, .slice wa wl.length wc, ⟨ti, tt, rl, wl⟩⟩) := by rw [hV4]; exact BxC.made V0 _ _
     clear c8 f8 l8 c9 f9 l9 d0 d1 d2 d3 l10
     clear S hV4
     have S := S2
     clear S2
     have c8 := S.i.x8.1 0 _ rfl
     have f8 := S.i.x8.2.1
     have l8 := bx_lt S.i.x8
     have c9 := S.i.x9.1 0 _ rfl
     have f9 := S.i.x9.2.1
     have l9 := bx_lt S.i.x9
     have d0 := S.x10.1 0 _ rfl
     have d1 := S.x10.1 1 _ rfl
     have d2 := S.x10.1 2 _ rfl
     have d3 := S.x10.1 3 _ rfl
     have l10 := bx_lt S.x10
     refine wpAnyIn_ready (rs := [3]) (by kernel_rfl) (by simp) ?_
     refine AllReadyIn.cons rfl (fun K hK => ?_) AllReadyIn.nil
     rw [if_pos (by rfl)]
     obtain ⟨a6, c6, V5, hrun, S2⟩ := S.append QB (by omega)
     refine wpIn_append_run _ _ _ rv0 (.slice a6 (pre.length + 1) c6) _ rfl (by rfl) (by rfl) hrun (hK _ _ ?_)
     clear c8 f8 l8 c9 f9 l9 d0 d1 d2 d3 l10
     clear hK K S QB hrun
     have S := S2
     clear S2
     have c8 := S.i.x8.1 0 _ rfl
     have f8 := S.i.x8.2.1
     have l8 := bx_lt S.i.x8
     have c9 := S.i.x9.1 0 _ rfl
     have f9 := S.i.x9.2.1
     have l9 := bx_lt S.i.x9
     have d0 := S.x10.1 0 _ rfl
     have d1 := S.x10.1 1 _ rfl
     have d2 := S.x10.1 2 _ rfl
     have d3 := S.x10.1 3 _ rfl
     have l10 := bx_lt S.x10
     refine wpAnyIn_ready (rs := [8]) (by kernel_rfl) (by simp) ?_
     refine AllReadyIn.cons rfl (fun K hK => ?_) AllReadyIn.nil
     go_simp; refine hK _ _ ?_; clear hK K
     obtain ⟨V6, hV6⟩ : ∃ V, V = V5.setCell ⟨w1.heap.size, 0, none⟩ (.slice a6 (pre.length + 1) c6) := ⟨_, rfl⟩
     rw [← hV6]
     have S2 : LdS w1 W Bx H ⟨.slice ra rl.length rc, .slice wa wl.length wc, ⟨ti, tt, rl, wl⟩⟩ (pre ++ [⟨.slice ra rl.length rc, .slice wa wl.length wc, ⟨ti, tt, rl, wl⟩⟩]) (.slice a6 (pre.length + 1) c6) n0 (.slice a6 (pre.length + 1) c6) V6 := by rw [hV6]; exact S.set8 _
     clear c8 f8 l8 c9 f9 l9 d0 d1 d2 d3 l10
     clear S hV6
     have S := S2
     clear S2
     have c8 := S.i.x8.1 0 _ rfl
     have f8 := S.i.x8.2.1
     have l8 := bx_lt S.i.x8
     have c9 := S.i.x9.1 0 _ rfl
     have f9 := S.i.x9.2.1
     have l9 := bx_lt S.i.x9
     have d0 := S.x10.1 0 _ rfl
     have d1 := S.x10.1 1 _ rfl
     have d2 := S.x10.1 2 _ rfl
     have d3 := S.x10.1 3 _ rfl
     have l10 := bx_lt S.x10
     refine wpAnyIn_ready (rs := [9]) (by kernel_rfl) (by simp) ?_
     refine AllReadyIn.cons rfl (fun K hK => ?_) AllReadyIn.nil
     go_simp; refine hK _ _ ?_; clear hK K
     clear c8 f8 l8 c9 f9 l9 d0 d1 d2 d3 l10
     refine wpAnyIn_done (by kernel_rfl) ?_ _
     exact HFIN.out _ { tmps := #[], defers := [] } _ _ (S.set9 n1)
    ·go_simp; refine hK _ _ ?_; clear hK K
     obtain ⟨V3, hV3⟩ : ∃ V, V = V0.alloc (.cells #[.int .i64 ti, .int .i64 tt, .slice ra rl.length rc, .slice wa wl.length wc] 28) := ⟨_, rfl⟩
     rw [← hV3]
     have S2 := S.below (W' := V3) (by rw [hV3]; ((with_reducible repeat' first | exact .refl _ _ | refine .alloc ?_ ?_ _ | refine .setCell ?_ ?_ _ | refine .drew ?_ | refine below_drewN ?_ _) <;> first | omega | simp <;> omega))
     have QB : BxC V3 V0.heap.size (encT ⟨.slice ra rl.length rc, .slice wa wl.length wc, ⟨ti, tt, rl, wl⟩⟩) := by rw [hV3]; exact BxC.made V0 _ _
     clear c8 f8 l8 c9 f9 l9 d0 d1 d2 d3 l10
     clear S hV3
     have S := S2
     clear S2
     have c8 := S.i.x8.1 0 _ rfl
     have f8 := S.i.x8.2.1
     have l8 := bx_lt S.i.x8
     have c9 := S.i.x9.1 0 _ rfl
     have f9 := S.i.x9.2.1
     have l9 := bx_lt S.i.x9
     have d0 := S.x10.1 0 _ rfl
     have d1 := S.x10.1 1 _ rfl
     have d2 := S.x10.1 2 _ rfl
     have d3 := S.x10.1 3 _ rfl
     have l10 := bx_lt S.x10
     refine wpAnyIn_ready (rs := [0]) (by kernel_rfl) (by simp) ?_
     refine AllReadyIn.cons rfl (fun K hK => ?_) AllReadyIn.nil
     go_simp; refine hK _ _ ?_; clear hK K
     refine wpAnyIn_ready (rs := [3]) (by kernel_rfl) (by simp) ?_
     refine AllReadyIn.cons rfl (fun K hK => ?_) AllReadyIn.nil
     rw [if_pos (by rfl)]
     obtain ⟨a6, c6, V5, hrun, S2⟩ := S.append QB (by omega)
     refine wpIn_append_run _ _ _ rv0 (.slice a6 (pre.length + 1) c6) _ rfl (by rfl) (by rfl) hrun (hK _ _ ?_)
     clear c8 f8 l8 c9 f9 l9 d0 d1 d2 d3 l10
     clear hK K S QB hrun
     have S := S2
     clear S2
     have c8 := S.i.x8.1 0 _ rfl
     have f8 := S.i.x8.2.1
     have l8 := bx_lt S.i.x8
     have c9 := S.i.x9.1 0 _ rfl
     have f9 := S.i.x9.2.1
     have l9 := bx_lt S.i.x9
     have d0 := S.x10.1 0 _ rfl
     have d1 := S.x10.1 1 _ rfl
     have d2 := S.x10.1 2 _ rfl
     have d3 := S.x10.1 3 _ rfl
     have l10 := bx_lt S.x10
     refine wpAnyIn_ready (rs := [8]) (by kernel_rfl) (by simp) ?_
     refine AllReadyIn.cons rfl (fun K hK => ?_) AllReadyIn.nil
     go_simp; refine hK _ _ ?_; clear hK K
     obtain ⟨V6, hV6⟩ : ∃ V, V = V5.setCell ⟨w1.heap.size, 0, none⟩ (.slice a6 (pre.length + 1) c6) := ⟨_, rfl⟩
     rw [← hV6]
     have S2 : LdS w1 W Bx H ⟨.slice ra rl.length rc, .slice wa wl.length wc, ⟨ti, tt, rl, wl⟩⟩ (pre ++ [⟨.slice ra rl.length rc, .slice wa wl.length wc, ⟨ti, tt, rl, wl⟩⟩]) (.slice a6 (pre.length + 1) c6) n0 (.slice a6 (pre.length + 1) c6) V6 := by rw [hV6]; exact S.set8 _
     clear c8 f8 l8 c9 f9 l9 d0 d1 d2 d3 l10
     clear S hV6
     have S := S2
     clear S2
     have c8 := S.i.x8.1 0 _ rfl
     have f8 := S.i.x8.2.1
     have l8 := bx_lt S.i.x8
     have c9 := S.i.x9.1 0 _ rfl
     have f9 := S.i.x9.2.1
     have l9 := bx_lt S.i.x9
     have d0 := S.x10.1 0 _ rfl
     have d1 := S.x10.1 1 _ rfl
     have d2 := S.x10.1 2 _ rfl
     have d3 := S.x10.1 3 _ rfl
     have l10 := bx_lt S.x10
     refine wpAnyIn_ready (rs := [9]) (by kernel_rfl) (by simp) ?_
     refine AllReadyIn.cons rfl (fun K hK => ?_) AllReadyIn.nil
     go_simp; refine hK _ _ ?_; clear hK K
     clear c8 f8 l8 c9 f9 l9 d0 d1 d2 d3 l10
     refine wpAnyIn_done (by kernel_rfl) ?_ _
     exact HFIN.out _ { tmps := #[], defers := [] } _ _ (S.set9 n1)
 case done =>
  rintro Dd H ys W hDd hys ⟨rv, hL, hf⟩ hK
  subst hys
  obtain ⟨oa, oc, rfl, -, -⟩ := hL.own.val
  obtain ⟨x2, x3, x4⟩ := HX.out
  have y2 := x2.below (bx_lt x2) hL.bel
  have y3 := x3.below (bx_lt x3) hL.bel
  have y4 := x4.below (bx_lt x4) hL.bel
  have c2 := y2.1 0 _ rfl
  have f2 := y2.2.1
  have c3 := y3.1 0 _ rfl
  have f3 := y3.2.1
  have c4 := y4.1 0 _ rfl
  have f4 := y4.2.1
  have c8 := hL.x8.1 0 _ rfl
  have c9 := hL.x9.1 0 _ rfl
  have l8 := bx_lt hL.x8
  have l9 := bx_lt hL.x9
  obtain ⟨n0, hn0⟩ : ∃ n, n = (logB (ys.map (·.t))).length := ⟨_, rfl⟩
  rw [← hn0] at c9
  have HN0 := hide hn0
  have HL := hide hL
  have HY := hide (And.intro y2 (And.intro y3 y4))
  clear x2 x3 x4 y2 y3 y4 hL hn0 hseq HX HO
  gi_wp2_with fail
  refine wpIn_wide.2 ?_
  go_region
  gi_wp2_with fail
  obtain ⟨V, hV⟩ : ∃ V : World, V = (((W.setCell ⟨w.heap.size, 0, none⟩ (.slice oa ys.length oc)).setCell ⟨w.heap.size + 1, 0, none⟩ (.int .i64 n0)).setCell ⟨w.heap.size + 1 + 1, 0, none⟩ (.int .i64 0)).drew := ⟨_, rfl⟩
  rw [← hV]
  have hKV : V.heap[Dd]? = some (.deferred (some [])) := by
   rw [hV]
   exact (((KeepsOthers.setCell W _ _).trans (KeepsOthers.setCell _ _ _)).trans (KeepsOthers.setCell _ _ _)).same Dd _ hK rfl
  have v2 : BxC V w.heap.size [.slice oa ys.length oc] := by
   rw [hV]
   exact (((HY.out.1.set 0 _ (by simp)).setNe (p := ⟨w.heap.size + 1, 0, none⟩) (by dsimp only; omega) _).setNe (p := ⟨w.heap.size + 1 + 1, 0, none⟩) (by dsimp only; omega) _).same (Nat.le_refl _) rfl
  have v3 : BxC V (w.heap.size + 1) [.int .i64 n0] := by
   rw [hV]
   exact (((HY.out.2.1.setNe (p := ⟨w.heap.size, 0, none⟩) (by dsimp only; omega) _).set 0 _ (by simp)).setNe (p := ⟨w.heap.size + 1 + 1, 0, none⟩) (by dsimp only; omega) _).same (Nat.le_refl _) rfl
  have v4 : BxC V (w.heap.size + 1 + 1) [.int .i64 0] := by
   rw [hV]
   exact (((HY.out.2.2.setNe (p := ⟨w.heap.size, 0, none⟩) (by dsimp only; omega) _).setNe (p := ⟨w.heap.size + 1, 0, none⟩) (by dsimp only; omega) _).set 0 _ (by simp)).same (Nat.le_refl _) rfl
  have zV : V.heap.size = W.heap.size := by rw [hV]; simp [World.setCell]
  have sV : ∀ q, w.heap.size + 3 ≤ q → V.heap[q]? = W.heap[q]? := fun q hq => by
   rw [hV]
   show (((W.setCell ⟨w.heap.size, 0, none⟩ (.slice oa ys.length oc)).setCell ⟨w.heap.size + 1, 0, none⟩ (.int .i64 n0)).setCell ⟨w.heap.size + 1 + 1, 0, none⟩ (.int .i64 0)).heap[q]? = _
   rw [Below.heap_setCell _ _ _ q (by simp only; omega), Below.heap_setCell _ _ _ q (by simp only; omega), Below.heap_setCell _ _ _ q (by simp only; omega)]
  have bW : Below w.heap.size w W := HB1.out.trans (HL.out.bel.mono (by omega))
  have bV : Below w.heap.size w V := by rw [hV]; exact (((bW.setCell (p := ⟨w.heap.size, 0, none⟩) (Nat.le_refl _) _).setCell (p := ⟨w.heap.size + 1, 0, none⟩) (by show w.heap.size ≤ w.heap.size + 1; omega) _).setCell (p := ⟨w.heap.size + 1 + 1, 0, none⟩) (by show w.heap.size ≤ w.heap.size + 1 + 1; omega) _).drew
  clear hV
  have hpu : ∀ r, some Dd = some r → ∃ o : Obj, V.heap[r]? = some o ∧ o.isCells = false := fun r e => by cases e; exact ⟨_, hKV, rfl⟩
  have e2 := cell_kept (v2.1 0 _ rfl) (grownBy_putObj' V Dd (.deferred none)) hpu
  have e3 := cell_kept (v3.1 0 _ rfl) (grownBy_putObj' V Dd (.deferred none)) hpu
  have e4 := cell_kept (v4.1 0 _ rfl) (grownBy_putObj' V Dd (.deferred none)) hpu
  refine ⟨by simp, .inl ⟨_, _, rfl, run_takeDeferred hKV, ?_⟩⟩
  have bU : Below w.heap.size w (V.putObj Dd (.deferred none)) := bV.grown (grownBy_putObj' V Dd (.deferred none)) bV.size (fun q e => by cases e; omega)
  have hsz := (grownBy_putObj' V Dd (.deferred none)).size
  have hfin := HL.out.fin (b := w.heap.size) (U := V.putObj Dd (.deferred none)) (by omega) (by omega) fun q o hq hc hlo => by
   rw [World.putObj_heap_other (fun e => ?_)]
   ·exact (sV q (by omega)).trans hq
   ·subst e
    rw [sV _ (by omega), hq] at hKV
    cases hKV
    cases hc
  generalize V.putObj Dd (.deferred none) = U at *
  have HN := hide (And.intro HN0.out hfin)
  clear hfin
  refine ⟨.tuple #[.slice oa ys.length oc, .int .i64 n0, .int .i64 0], by simp [results, Tryz.results9, go_sem, e2, e3, e4], ⟨_, by rw [← HN.out.1], HN.out.2⟩, bU⟩
end Go.Proofs.YthkoaecafmhlcaaGreat
