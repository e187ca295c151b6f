/- slices.Insert of one version into a row of the call's own. -/
import Derived.Test.YthkoaecafmhlcaaGreatTsE
import Derived.Lib.Overlaps
import Derived.Lib.AppendZerosOnto
import Derived.Laws.CopyRow
import Derived.Laws.Externs
import Derived.Deep.RegionLaw
namespace Go.Proofs.YthkoaecafmhlcaaGreat
open Go.RowKit Go.Lib
attribute [local go_sem] Oper.semAt_some

section
variable {P : Program}
theorem run_copy_rowK (w : World) (dT sT ty elem : TypeId) (k g o dLen dCap : Nat) (a : Addr) (sLen sCap : Nat) (cur : Array Value) (t : TypeId) (cs : List Value)
  (hu : P.underlying dT = some (.slice elem)) (hs : (P.info? elem).map (·.size) = some k)
  (hg : w.heap[g]? = some (.cells cur t (0, 0))) (n : Nat) (hm : n = Nat.min sLen dLen) (hn : cs.length = n * k)
  (hsrc : ∀ j v, cs[j]? = some v → w.cell? (a.add j) = some v) (hfit : o + cs.length ≤ cur.size) (h1 : ∀ v ∈ cs, v.oneCell' = true) :
  (Builtin.copy_ #[dT, sT] ty #[.slice (some ⟨g, o, none⟩) dLen dCap, .slice (some a) sLen sCap]).run P w =
   .ok (goInt n) (w.setRow g (cur.toList.take o ++ cs ++ cur.toList.drop (o + cs.length)).toArray) := by
 have hl := run_loadCells_list (P := P) w a cs hsrc
 have hst := run_storeCells_at P g o t cs 0 cur w hg (by simpa using hfit) h1
 cases hq : P.info? elem with
 | none => simp [hq] at hs
 | some i =>
  have hi : i.size = k := by simpa [hq] using hs
  simp [Builtin.copy_, run_underlying hu, Builtin.lenOf, Builtin.firstCells, sizeOf, typeInfo, hq, hi, ← hm, ← hn, hl, hst]
theorem wp_copy_runT (w : World) {o : Oper} {a : Act} {K : Act → World → Prop} {Q : Exit → Act → World → Prop} (d s : Operand) (t t' : TypeId)
  (ho : o.op = .call { callee := .builtin .copy, args := #[d, s], argTypes := #[t, t'] }) (v u : Value) (hd : a.eval d = v) (hs : a.eval s = u) {v' : Value} {w' : World}
  (hr : (Builtin.copy_ #[t, t'] o.type #[v, u]).run P w = .ok v' w') (h : K (a.put o.dst v') w') : o.wp P a w K Q := by
 unfold Oper.wp execOp
 simp only [ho, resolve, invoke, builtin, Sem.run_bind, Sem.run_pure, Result.andThen_ok, List.map_toArray, List.map_cons, List.map_nil, hd, hs, hr]
 exact h
theorem wpList_copy_runT (w : World) {ops : Array Oper} {rest : List Oper} {o : Oper} {a : Act} {Q : Exit → Act → World → Prop} (hgd : o.guard = none) (d s : Operand) (t t' : TypeId)
  (ho : o.op = .call { callee := .builtin .copy, args := #[d, s], argTypes := #[t, t'] }) (v u : Value) (hd : a.eval d = v) (hs : a.eval s = u) {v' : Value} {w' : World}
  (hr : (Builtin.copy_ #[t, t'] o.type #[v, u]).run P w = .ok v' w') (h : wpList P ops Q rest (a.put o.dst v') w') : wpList P ops Q (o :: rest) a w :=
 wpList_plain hgd fun _ hK => wp_copy_runT w d s t t' ho v u hd hs hr (hK _ _ h)
theorem step_copy_runT {ops : Array Oper} {o : Oper} {a : Act} {w : World} {K : Act → World → Prop} {Q : Exit → Act → World → Prop} {E : Prop}
  (hg : o.guard = none) (d x : Operand) (dT sT : TypeId) (hop : o.op = Op.call { callee := Callee.builtin Builtin.copy, args := #[d, x], argTypes := #[dT, sT] })
  (v u : Value) (hd : a.eval d = v) (hx : a.eval x = u) {v' : Value} {w' : World} (hr : (Builtin.copy_ #[dT, sT] o.type #[v, u]).run P w = .ok v' w') (hK : K (a.put o.dst v') w') :
  if Region.wanted o (yielded ops a.tmps) = true then Oper.wp P o a w K Q else E := by
 have hw : Region.wanted o (yielded ops a.tmps) = true := by simp [Region.wanted, hg]
 rw [if_pos hw]
 unfold Oper.wp
 simp [execOp, hop, resolve, invoke, builtin, hd, hx, hr, Result.andThen]
 exact hK
end
theorem ins_place {α : Type} (C L e : List α) (a N : Nat) (hC : C.take N = L) (hL : L.length = N) (hN : N + e.length ≤ C.length) (ha : a ≤ N) :
  let C1 := C.take (a + e.length) ++ L.drop a ++ C.drop (a + e.length + (L.drop a).length)
  (C1.take a ++ e ++ C1.drop (a + e.length)).take (N + e.length) = L.take a ++ (e ++ L.drop a) ∧ (C1.take a ++ e ++ C1.drop (a + e.length)).length = C.length := by
 intro C1
 have hC1 : C1 = C.take (a + e.length) ++ L.drop a ++ C.drop (N + e.length) := by
  show C.take (a + e.length) ++ L.drop a ++ C.drop (a + e.length + (L.drop a).length) = _
  rw [List.length_drop, hL, show a + e.length + (N - a) = N + e.length by omega]
 have t1 : C1.take a = L.take a := by
  rw [hC1, List.append_assoc, List.take_append_of_le_length (by rw [List.length_take]; omega), List.take_take, Nat.min_eq_left (by omega), ← hC, List.take_take, Nat.min_eq_left ha]
 have t2 : C1.drop (a + e.length) = L.drop a ++ C.drop (N + e.length) := by
  rw [hC1, List.append_assoc, List.drop_append_of_le_length (by rw [List.length_take]; omega), List.drop_of_length_le (by rw [List.length_take]; omega), List.nil_append]
 rw [t1, t2]
 refine ⟨?_, ?_⟩
 ·rw [← List.append_assoc, ← List.append_assoc, List.append_assoc (L.take a ++ e)] 
  rw [← List.append_assoc, List.take_append_of_le_length (by simp; omega), List.take_of_length_le (by simp; omega), List.append_assoc]
 ·simp
  omega
theorem ins_new {α : Type} (R L e : List α) (a N : Nat) (hR : R.take a = L.take a) (hL : L.length = N) (hN : N + e.length ≤ R.length) (ha : a ≤ N) :
  let R1 := R.take a ++ e ++ R.drop (a + e.length)
  (R1.take (a + e.length) ++ L.drop a ++ R1.drop (a + e.length + (L.drop a).length)).take (N + e.length) = L.take a ++ (e ++ L.drop a) ∧ (R1.take (a + e.length) ++ L.drop a ++ R1.drop (a + e.length + (L.drop a).length)).length = R.length := by
 intro R1
 have hl1 : R1.length = R.length := by simp [R1]; omega
 have t1 : R1.take (a + e.length) = L.take a ++ e := by
  show (R.take a ++ e ++ R.drop (a + e.length)).take (a + e.length) = _
  rw [List.take_append_of_le_length (by simp; omega), List.take_of_length_le (by simp; omega), hR]
 rw [t1]
 refine ⟨?_, ?_⟩
 ·rw [List.append_assoc, List.append_assoc, ← List.append_assoc (L.take a), ← List.append_assoc, List.take_append_of_le_length (by simp; omega), List.take_of_length_le (by simp; omega), List.append_assoc]
 ·simp [hl1]
  omega
theorem src_ver {w : World} {q : Nat} {v : Ver} (hq : w.heap[q]? = some (.cells (encVr v).toArray 64 (0, 0))) : SrcRow w (.slice (some ⟨q, 0, none⟩) 1 1) 1 4 (encVr v) := by
 refine ⟨_, _, rfl, rfl, (fun e => by cases e), fun ad had j u hj => ?_⟩
 cases had
 rw [Addr.add_lit, Nat.zero_add]
 simp [World.cell?, hq, hj]
theorem encVr_one1 (v : Ver) : ∀ u ∈ encVr v, u.oneCell' = true := by
 intro u hu
 simp [encVr] at hu
 rcases hu with rfl | rfl | rfl | rfl <;> rfl
theorem flat_takeV : ∀ (l : List Ver) (i : Nat), (l.flatMap encVr).take (i * 4) = (l.take i).flatMap encVr
 | [], i => by simp
 | a :: l, 0 => by simp
 | a :: l, i + 1 => by
  have e : (i + 1) * 4 = i * 4 + 4 := by omega
  rw [e, List.take_succ_cons, List.flatMap_cons, List.flatMap_cons, ← flat_takeV l i, List.take_append, List.take_of_length_le (by simp [encVr]), encVr_length]
  congr 2
theorem flat_dropV : ∀ (l : List Ver) (i : Nat), (l.flatMap encVr).drop (i * 4) = (l.drop i).flatMap encVr
 | [], i => by simp
 | a :: l, 0 => by simp
 | a :: l, i + 1 => by
  have e : (i + 1) * 4 = 4 + i * 4 := by omega
  rw [e, List.drop_succ_cons, List.flatMap_cons, ← flat_dropV l i, ← List.drop_drop]
  congr 1
set_option maxRecDepth 100000 in
set_option maxHeartbeats 1000000 in
theorem Insert_end (sv : Value) (S : List Ver) (base q : Nat) (v : Ver) (w : World) (hown : Owns 64 encVr 4 w base sv S) (hl : S.length ≤ 5000) (hq : w.heap[q]? = some (.cells (encVr v).toArray 64 (0, 0))) (hb : base ≤ w.heap.size) :
  Calls Tryz.prog 81 #[sv, .int .i64 S.length, .slice (some ⟨q, 0, none⟩) 1 1] w fun e w' => ∃ v', e = .returned v' ∧ Owns 64 encVr 4 w' base v' (S.take S.length ++ v :: S.drop S.length) ∧ w.grownBy w' sv.ownBlock := by
 obtain ⟨i0, hi0, hz0, hz1, hz2⟩ := info_parts infoVer
 obtain ⟨a, cap, rfl, h1, h2⟩ := hown.val
 have HO := hide hown
 have HQ := hide (src_ver hq)
 clear hown hq
 have HF : S.take S.length ++ v :: S.drop S.length = S ++ [v] := by simp
 rw [HF]
 have hz : ¬ ((1 : Int) = 0) := by omega
 have key : ∀ w' v', w'.ownsRow base 64 4 v' (S.length + 1) (S.flatMap encVr ++ encVr v) → Owns 64 encVr 4 w' base v' (S ++ [v]) := fun w' v' h => Owns.app h
 by_cases hc : cap = S.length
 ·subst hc
  go_enter Tryz.func81, Tryz.ntmps81
  go_wp2_with (at_builtin; refine wpList_append_src _ rfl _ _ 36 rfl base 64 i0 (.agg #[.int .i64 0, .int .i64 0, .int .i64 0, .bool false]) 4 32 Tryz.underlying36 hi0 hz0 hz1 hz2 rfl (by decide) _ S.length (S.flatMap encVr) rfl HO.out _ 1 (encVr v) rfl HQ.out (encVr_one1 v) (by unfold maxLen; omega) (by omega) hb ?_; intro v3 w3 hown3 hg3 _)
  go_ret
  exact ⟨_, rfl, key _ _ hown3, hg3⟩
 ·have hcn : ¬ (cap = S.length) := hc
  cases a with
  | none =>
   have h0 : S.length = 0 := by
    rcases Nat.eq_zero_or_pos S.length with h | h
    ·exact h
    ·obtain ⟨g, cap', e, -⟩ := HO.out.form encVr_length ver0 h (by omega)
     simp at e
   obtain rfl : S = [] := List.eq_nil_of_length_eq_zero h0
   simp only [List.length_nil] at *
   go_enter Tryz.func81, Tryz.ntmps81
   go_wp2_with (at_builtin; refine wpList_append_src _ rfl _ _ 36 rfl base 64 i0 (.agg #[.int .i64 0, .int .i64 0, .int .i64 0, .bool false]) 4 32 Tryz.underlying36 hi0 hz0 hz1 hz2 rfl (by decide) _ 0 [] rfl HO.out _ 1 (encVr v) rfl HQ.out (encVr_one1 v) (by unfold maxLen; omega) (by omega) hb ?_; intro v3 w3 hown3 hg3 _)
   go_ret
   exact ⟨_, rfl, key _ _ hown3, hg3⟩
  | some ad =>
   obtain ⟨ab, ao, asp⟩ := ad
   go_enter Tryz.func81, Tryz.ntmps81
   go_wp2_with (at_builtin; refine wpList_append_src _ rfl _ _ 36 rfl base 64 i0 (.agg #[.int .i64 0, .int .i64 0, .int .i64 0, .bool false]) 4 32 Tryz.underlying36 hi0 hz0 hz1 hz2 rfl (by decide) _ S.length (S.flatMap encVr) rfl HO.out _ 1 (encVr v) rfl HQ.out (encVr_one1 v) (by unfold maxLen; omega) (by omega) hb ?_; intro v3 w3 hown3 hg3 _)
   go_ret
   exact ⟨_, rfl, key _ _ hown3, hg3⟩
set_option maxRecDepth 100000 in
set_option maxHeartbeats 1000000 in
theorem Insert_grow (g cap : Nat) (S : List Ver) (base i q : Nat) (v : Ver) (w : World) (hown : Owns 64 encVr 4 w base (.slice (some ⟨g, 0, none⟩) S.length cap) S) (hi : i < S.length) (hroom : cap < S.length + 1) (hl : S.length ≤ 5000) (hq : w.heap[q]? = some (.cells (encVr v).toArray 64 (0, 0))) (hb : base ≤ w.heap.size) :
  Calls Tryz.prog 81 #[.slice (some ⟨g, 0, none⟩) S.length cap, .int .i64 i, .slice (some ⟨q, 0, none⟩) 1 1] w fun e w' => ∃ v', e = .returned v' ∧ Owns 64 encVr 4 w' base v' (S.take i ++ v :: S.drop i) ∧ w.grownBy w' (some g) := by
 obtain ⟨i0, hi0, hz0, hz1, hz2⟩ := info_parts infoVer
 obtain ⟨a, cap', he, h1, h2⟩ := hown.val
 cases he
 have hcap : cap = S.length := by omega
 subst hcap
 have hgl := (World.ownsRow.lt hown g rfl).2
 have hql : q < w.heap.size := (Array.getElem?_eq_some_iff.1 hq).1
 obtain ⟨L, hL⟩ : ∃ L, L = S.flatMap encVr := ⟨_, rfl⟩
 have hLl : L.length = S.length * 4 := by rw [hL]; exact flat_length encVr_length S
 have hLc : ∀ j u, L[j]? = some u → w.cell? ⟨g, j, none⟩ = some u := fun j u hj => by
  have h := World.ownsRow.cellAt hown j (by rw [← hLl]; exact (List.getElem?_eq_some_iff.1 hj).1)
  rw [← hL, hj] at h
  exact h
 have hone : ∀ u ∈ L, u.oneCell' = true := by rw [hL]; exact encVr_one S
 have hsz : (Tryz.prog.info? 64).map (·.size) = some 4 := by rw [hi0]; simp [hz1]
 obtain ⟨n, hn⟩ : ∃ n, n = S.length := ⟨_, rfl⟩
 have hdl : (L.drop (i * 4)).length = (n - i) * 4 := by rw [List.length_drop, hLl, Nat.sub_mul, hn]
 -- the append
 have hold : (Builtin.firstCells i0.size i (.slice (some ⟨g, 0, none⟩) i S.length)).run Tryz.prog w.drew = .ok (L.take (i * 4)).toArray w.drew := by
  rw [hz1]
  exact run_firstCells_some w.drew 4 i ⟨g, 0, none⟩ i S.length (L.take (i * 4)) (by rw [List.length_take, hLl]; omega) (fun j u hj => by
   rw [Addr.add_lit, Nat.zero_add]
   rw [List.getElem?_take] at hj
   split at hj
   ·exact hLc j u hj
   ·cases hj)
 have hrz : ∀ ty, (Builtin.append_ #[36, 3] ty #[.slice (some ⟨g, 0, none⟩) i S.length, .int .i64 ((S.length : Int) + 1 - (i : Int))]).run Tryz.prog w =
   .ok (.slice (some ⟨w.heap.size, 0, none⟩) (S.length + 1) (grownCap w (S.length + 1) S.length 64)) (w.drew.alloc (.cells ((L.take (i * 4)).toArray ++ Builtin.zeroCells (Value.agg #[.int .i64 0, .int .i64 0, .int .i64 0, .bool false]).cells (S.length + 1 - i) ++ Builtin.zeroCells (Value.agg #[.int .i64 0, .int .i64 0, .int .i64 0, .bool false]).cells (grownCap w (S.length + 1) S.length 64 - (S.length + 1))) 64)) := fun ty => by
  have h := Lib.run_append_grow_zeros w 36 3 ty 64 i0 _ .i64 .i64 Tryz.underlying36 Tryz.underlying3 hi0 hz0 (some ⟨g, 0, none⟩) i S.length (L.take (i * 4)) hold (S.length + 1 - i) (by omega) (by omega) (by omega) (by omega) (by rw [hz2]; omega) (by rw [hz2, show i + (S.length + 1 - i) = S.length + 1 by omega]; exact growslice_fits (by omega) (by omega))
  rw [show i + (S.length + 1 - i) = S.length + 1 by omega] at h
  rw [show (S.length : Int) + 1 - (i : Int) = ((S.length + 1 - i : Nat) : Int) by omega]
  exact h
 obtain ⟨G, hG⟩ : ∃ G, G = grownCap w (S.length + 1) S.length 64 := ⟨_, rfl⟩
 have hGn : S.length + 1 ≤ G := by rw [hG]; exact grownCap_ge w _ _ _
 have hG63 : G ≤ maxLen := by rw [hG]; exact grownCap_le_maxLen w (S.length + 1) S.length 64 (by unfold maxLen; omega)
 rw [← hG] at hrz
 obtain ⟨R, hR⟩ : ∃ R : Array Value, R = (L.take (i * 4)).toArray ++ Builtin.zeroCells (Value.agg #[.int .i64 0, .int .i64 0, .int .i64 0, .bool false]).cells (S.length + 1 - i) ++ Builtin.zeroCells (Value.agg #[.int .i64 0, .int .i64 0, .int .i64 0, .bool false]).cells (G - (S.length + 1)) := ⟨_, rfl⟩
 rw [← hR] at hrz
 have hRl : R.size = G * 4 := by
  rw [hR]
  simp only [Array.size_append, List.size_toArray, List.length_take, hLl]
  simp [Builtin.zeroCells, Value.cells]
  omega
 have hRt : R.toList.take (i * 4) = L.take (i * 4) := by
  rw [hR]
  simp only [Array.toList_append]
  rw [List.append_assoc, List.take_append_of_le_length (by simp; omega)]
  exact List.take_of_length_le (by simp; omega)
 obtain ⟨R1, hR1⟩ : ∃ R1 : List Value, R1 = R.toList.take (i * 4) ++ encVr v ++ R.toList.drop (i * 4 + (encVr v).length) := ⟨_, rfl⟩
 have hR1l : R1.length = G * 4 := by rw [hR1]; simp [encVr_length]; omega
 obtain ⟨R2, hR2⟩ : ∃ R2 : List Value, R2 = R1.take (i * 4 + (encVr v).length) ++ L.drop (i * 4) ++ R1.drop (i * 4 + (encVr v).length + (L.drop (i * 4)).length) := ⟨_, rfl⟩
 have hfin := ins_new R.toList L (encVr v) (i * 4) (S.length * 4) hRt hLl (by simp [encVr_length]; omega) (by omega)
 simp only [← hR1, ← hR2] at hfin
 obtain ⟨W1, hW1⟩ : ∃ W1, W1 = w.drew.alloc (.cells R 64) := ⟨_, rfl⟩
 rw [← hW1] at hrz
 have hWn : W1.heap[w.heap.size]? = some (.cells R 64 (0, 0)) := by rw [hW1]; exact World.alloc_heap_new w.drew _
 have hWo : ∀ k, k < w.heap.size → W1.heap[k]? = w.heap[k]? := fun k hk => by rw [hW1]; exact Below.heap_alloc w.drew _ k hk
 have hcpA : ∀ (W : World), W.heap = W1.heap → ∀ ty dc, (Builtin.copy_ #[36, 36] ty #[.slice (some ⟨w.heap.size, i * 4, none⟩) (S.length + 1 - i) dc, .slice (some ⟨q, 0, none⟩) 1 1]).run Tryz.prog W = .ok (goInt 1) (W.setRow w.heap.size R1.toArray) := fun W hWh ty dc => by
  rw [hR1]
  exact run_copy_rowK W _ _ ty 64 4 w.heap.size (i * 4) (S.length + 1 - i) dc ⟨q, 0, none⟩ 1 1 R 64 (encVr v) Tryz.underlying36 hsz (by rw [hWh]; exact hWn) 1 (by simp only [Nat.min_def]; split <;> omega) rfl
   (fun j u hj => by
    rw [Addr.add_lit, Nat.zero_add]
    have : W.heap[q]? = some (.cells (encVr v).toArray 64 (0, 0)) := by rw [hWh, hWo q hql]; exact hq
    simp [World.cell?, this, hj])
   (by rw [hRl, encVr_length]; omega) (encVr_one1 v)
 have hcpB : ∀ (W : World), W.heap = (W1.setRow w.heap.size R1.toArray).heap → ∀ ty dc sc, (Builtin.copy_ #[36, 36] ty #[.slice (some ⟨w.heap.size, (i + 1) * 4, none⟩) (S.length + 1 - (i + 1)) dc, .slice (some ⟨g, i * 4, none⟩) (S.length - i) sc]).run Tryz.prog W = .ok (goInt ((S.length - i : Nat) : Int)) (W.setRow w.heap.size R2.toArray) := fun W hWh ty dc sc => by
  have hrow : W.heap[w.heap.size]? = some (.cells R1.toArray 64 (0, 0)) := by rw [hWh]; exact setRow_heap W1 w.heap.size R R1.toArray 64 (0, 0) hWn
  have h := run_copy_rowK W 36 36 ty 64 4 w.heap.size ((i + 1) * 4) (S.length + 1 - (i + 1)) dc ⟨g, i * 4, none⟩ (S.length - i) sc R1.toArray 64 (L.drop (i * 4)) Tryz.underlying36 hsz hrow (S.length - i) (by simp only [Nat.min_def]; split <;> omega) (by rw [hdl, hn])
   (fun j u hj => by
    rw [Addr.add_lit]
    rw [List.getElem?_drop] at hj
    have e : W.heap[g]? = w.heap[g]? := by rw [hWh, setRow_other W1 w.heap.size g R1.toArray (by omega)]; exact hWo g hgl
    exact (World.cell?_of_block (a := ⟨g, i * 4 + j, none⟩) e).trans (hLc _ u hj))
   (by simp [hR1l, hdl, hn]; omega) (fun u hu => hone u (List.mem_of_mem_drop hu))
  rw [hR2]
  have e4 : (i + 1) * 4 = i * 4 + (encVr v).length := by rw [encVr_length]; omega
  rw [← e4]
  exact h
 have hRow2 : ∀ (W : World), W.heap = ((W1.setRow w.heap.size R1.toArray).setRow w.heap.size R2.toArray).heap → W.heap[w.heap.size]? = some (.cells R2.toArray 64 (0, 0)) := fun W hW => by
  rw [hW]
  exact setRow_heap _ w.heap.size _ R2.toArray 64 (0, 0) (setRow_heap W1 w.heap.size R R1.toArray 64 (0, 0) hWn)
 have hOld2 : ∀ (W : World), W.heap = ((W1.setRow w.heap.size R1.toArray).setRow w.heap.size R2.toArray).heap → ∀ k, k < w.heap.size → W.heap[k]? = w.heap[k]? := fun W hW k hk => by
  rw [hW, setRow_other _ w.heap.size k _ (by omega), setRow_other _ w.heap.size k _ (by omega)]
  exact hWo k hk
 have hz2 : ∀ (W : World), W.heap = ((W1.setRow w.heap.size R1.toArray).setRow w.heap.size R2.toArray).heap → w.heap.size ≤ W.heap.size := fun W hW => by
  rw [hW, hW1]
  simp [World.setRow]
 have hOwn : ∀ (W : World), W.heap = ((W1.setRow w.heap.size R1.toArray).setRow w.heap.size R2.toArray).heap → Owns 64 encVr 4 W base (.slice (some ⟨w.heap.size, 0, none⟩) (S.length + 1) G) (S.take i ++ v :: S.drop i) := fun W hW => by
  have hlen : (S.take i ++ v :: S.drop i).length = S.length + 1 := by simp; omega
  have hflat : (S.take i ++ v :: S.drop i).flatMap encVr = L.take (i * 4) ++ (encVr v ++ L.drop (i * 4)) := by rw [List.flatMap_append, List.flatMap_cons, hL, flat_takeV, flat_dropV]
  unfold Owns
  rw [hlen]
  refine ⟨by rw [flat_length encVr_length, hlen], .inr ⟨w.heap.size, G, R2.toArray, rfl, hb, hRow2 W hW, hGn, hG63, ?_, ?_⟩⟩
  ·rw [List.size_toArray, hfin.2]
   simpa using hRl
  ·rw [hflat, ← hfin.1, encVr_length, show (S.length + 1) * 4 = S.length * 4 + 4 by omega]
 have hgrow : ∀ (W : World), W.os = w.os → W.tape = w.tape → W.output = w.output → W.heap = ((W1.setRow w.heap.size R1.toArray).setRow w.heap.size R2.toArray).heap → w.grownBy W (some g) := fun W h1 h2 h3 hW => ⟨h1, h2, h3, hz2 W hW, fun k hk _ => hOld2 W hW k hk⟩
 have e1 : IntKind.i64.wrap ((i : Int) + 1) = (i : Int) + 1 := by rw [IntKind.wrap_i64]; omega
 have e2 : (0 : Int) ≤ (i : Int) + 1 := by omega
 have e3 : (i : Int) ≤ (S.length : Int) := by omega
 have e4 : ((i : Int) + 1).toNat = i + 1 := by omega
 have e5 : ¬ (S.length = i) := by omega
 have e6 : ¬ (G = i) := by omega
 have e7 : ¬ (G = i + 1) := by omega
 have e8 : (i : Int) + 1 ≤ (S.length : Int) + 1 := by omega
 have e9 : G ≤ 9223372036854775807 := hG63
 have e10 : ¬ ((i : Int) = (S.length : Int)) := by omega
 have mixed : Tryz.prog.follows .mixedOrders = true := by kernel_rfl
 have HOw := hide hOwn
 have HGr := hide hgrow
 subst hW1
 have hE : ((w.alloc (.cells R 64)).drew).heap = (w.drew.alloc (.cells R 64)).heap := rfl
 have hF : ((((w.alloc (.cells R 64)).drew.setRow w.heap.size R1.toArray)).drew).heap = ((w.drew.alloc (.cells R 64)).setRow w.heap.size R1.toArray).heap := rfl
 clear hold hq hL hLc hone hR hRl hRt hR1 hR1l hR2 hfin hWn hWo hRow2 hOld2 hz2 hOwn hgrow hown hG
 go_enter Tryz.func81, Tryz.ntmps81
 go_wp2_with (first
  | (at_builtin; refine Lib.wpList_append_run _ rfl _ _ _ _ rfl _ _ rfl rfl _ _ (hrz _) ?_)
  | (at_builtin; refine wpList_copy_runT _ rfl _ _ 36 36 rfl _ _ rfl rfl (hcpA _ hE _ _) ?_))
 go_region_law (refine step_copy_runT rfl _ _ 36 36 rfl (.slice (some ⟨w.heap.size, (i + 1) * 4, none⟩) (S.length + 1 - (i + 1)) (G - (i + 1))) (.slice (some ⟨g, i * 4, none⟩) (S.length - i) (S.length - i)) (by simp [Act.eval, Act.put]) (by simp [Act.eval, Act.put]) (hcpB _ hF 3 (G - (i + 1)) (S.length - i)) ?_)
 go_wp2_with fail
 go_ret
 exact ⟨_, rfl, HOw.out _ rfl, HGr.out _ rfl rfl rfl rfl⟩
set_option maxRecDepth 100000 in
set_option maxHeartbeats 1000000 in
theorem Insert_shift (g cap : Nat) (S : List Ver) (base i q : Nat) (v : Ver) (w : World) (hown : Owns 64 encVr 4 w base (.slice (some ⟨g, 0, none⟩) S.length cap) S) (hi : i < S.length) (hroom : S.length + 1 ≤ cap) (hl : S.length ≤ 5000) (hq : w.heap[q]? = some (.cells (encVr v).toArray 64 (0, 0))) (hne : q ≠ g) :
  Calls Tryz.prog 81 #[.slice (some ⟨g, 0, none⟩) S.length cap, .int .i64 i, .slice (some ⟨q, 0, none⟩) 1 1] w fun e w' => ∃ v', e = .returned v' ∧ Owns 64 encVr 4 w' base v' (S.take i ++ v :: S.drop i) ∧ w.grownBy w' (some g) := by
 obtain ⟨i0, hi0, hz0, hz1, hz2⟩ := info_parts infoVer
 obtain ⟨a, cap', he, h1, h2⟩ := hown.val
 cases he
 have hgl := (World.ownsRow.lt hown g rfl)
 obtain ⟨L, hL⟩ : ∃ L, L = S.flatMap encVr := ⟨_, rfl⟩
 have hLl : L.length = S.length * 4 := by rw [hL]; exact flat_length encVr_length S
 have hLc : ∀ j u, L[j]? = some u → w.cell? ⟨g, j, none⟩ = some u := fun j u hj => by
  have h := World.ownsRow.cellAt hown j (by rw [← hLl]; exact (List.getElem?_eq_some_iff.1 hj).1)
  rw [← hL, hj] at h
  exact h
 have hone : ∀ u ∈ L, u.oneCell' = true := by rw [hL]; exact encVr_one S
 have hsz : (Tryz.prog.info? 64).map (·.size) = some 4 := by rw [hi0]; simp [hz1]
 have hdl : (L.drop (i * 4)).length = (S.length - i) * 4 := by rw [List.length_drop, hLl, Nat.sub_mul]
 obtain ⟨C, hCg, hCs, hCt⟩ : ∃ C : Array Value, w.heap[g]? = some (.cells C 64 (0, 0)) ∧ C.size = cap * 4 ∧ C.toList.take (S.length * 4) = L := by
  rcases hown.2 with ⟨hv, _⟩ | ⟨g', cap', cur, hv, hg, hc, hn, hm, hcs, ht⟩
  ·simp at hv
  ·simp only [Value.slice.injEq, Option.some.injEq, Addr.mk.injEq, and_true, true_and] at hv
   obtain ⟨rfl, rfl⟩ := hv
   exact ⟨cur, hc, hcs, ht.trans hL.symm⟩
 have hcl : C.toList.length = cap * 4 := by simpa using hCs
 obtain ⟨C1, hC1⟩ : ∃ C1 : List Value, C1 = C.toList.take (i * 4 + (encVr v).length) ++ L.drop (i * 4) ++ C.toList.drop (i * 4 + (encVr v).length + (L.drop (i * 4)).length) := ⟨_, rfl⟩
 have hC1l : C1.length = cap * 4 := by
  rw [hC1]
  simp only [List.length_append, List.length_take, List.length_drop, encVr_length, hLl, hcl]
  omega
 obtain ⟨C2, hC2⟩ : ∃ C2 : List Value, C2 = C1.take (i * 4) ++ encVr v ++ C1.drop (i * 4 + (encVr v).length) := ⟨_, rfl⟩
 have hfin := ins_place C.toList L (encVr v) (i * 4) (S.length * 4) hCt hLl (by rw [hcl, encVr_length]; omega) (by omega)
 simp only [← hC1, ← hC2] at hfin
 have hcpA : ∀ (W : World), W.heap = w.heap → ∀ ty dc sc, (Builtin.copy_ #[36, 36] ty #[.slice (some ⟨g, (i + 1) * 4, none⟩) (S.length + 1 - (i + 1)) dc, .slice (some ⟨g, i * 4, none⟩) (S.length + 1 - i) sc]).run Tryz.prog W = .ok (goInt ((S.length - i : Nat) : Int)) (W.setRow g C1.toArray) := fun W hWh ty dc sc => by
  have h := run_copy_rowK W 36 36 ty 64 4 g ((i + 1) * 4) (S.length + 1 - (i + 1)) dc ⟨g, i * 4, none⟩ (S.length + 1 - i) sc C 64 (L.drop (i * 4)) Tryz.underlying36 hsz (by rw [hWh]; exact hCg) (S.length - i) (by simp only [Nat.min_def]; split <;> omega) hdl
   (fun j u hj => by
    rw [Addr.add_lit]
    rw [List.getElem?_drop] at hj
    exact (World.cell?_of_block (a := ⟨g, i * 4 + j, none⟩) (by rw [hWh])).trans (hLc _ u hj))
   (by rw [hCs, hdl]; omega) (fun u hu => hone u (List.mem_of_mem_drop hu))
  rw [hC1]
  have e4 : (i + 1) * 4 = i * 4 + (encVr v).length := by rw [encVr_length]; omega
  rw [← e4]
  exact h
 have hcpB : ∀ (W : World), W.heap = (w.setRow g C1.toArray).heap → ∀ ty dc, (Builtin.copy_ #[36, 36] ty #[.slice (some ⟨g, i * 4, none⟩) (S.length + 1 - i) dc, .slice (some ⟨q, 0, none⟩) 1 1]).run Tryz.prog W = .ok (goInt 1) (W.setRow g C2.toArray) := fun W hWh ty dc => by
  rw [hC2]
  exact run_copy_rowK W _ _ ty 64 4 g (i * 4) (S.length + 1 - i) dc ⟨q, 0, none⟩ 1 1 C1.toArray 64 (encVr v) Tryz.underlying36 hsz (by rw [hWh]; exact setRow_heap w g C C1.toArray 64 (0, 0) hCg) 1 (by simp only [Nat.min_def]; split <;> omega) rfl
   (fun j u hj => by
    rw [Addr.add_lit, Nat.zero_add]
    have : W.heap[q]? = some (.cells (encVr v).toArray 64 (0, 0)) := by rw [hWh, setRow_other w g q C1.toArray hne]; exact hq
    simp [World.cell?, this, hj])
   (by simp [hC1l, encVr_length]; omega) (encVr_one1 v)
 have hov : ∀ lb cb, (callFunc 123 #[.slice (some ⟨q, 0, none⟩) 1 1, .slice (some ⟨g, (i + 1) * 4, none⟩) lb cb]).run Tryz.prog w = .ok (.value (.bool false)) w := fun lb cb => by
  rw [run_callFunc_extern Tryz.func123 (by kernel_rfl) (by kernel_rfl) (by kernel_rfl) (e := Extern.SlicesOverlaps.overlaps #[36, 36] #[4]) (by kernel_rfl),
   Lib.run_overlaps_apart w 36 4 64 Tryz.underlying36 4 (fun W => by simp [sizeOf, typeInfo, hi0, hz1]) ⟨q, 0, none⟩ ⟨g, (i + 1) * 4, none⟩ 1 1 lb cb hne 64 64 4 (cap * 4) (by simp [World.shape?, hq, encVr]) (by simp [World.shape?, hCg, hCs]) (by omega) (by simp [World.frozen?, hq]) (by simp [World.frozen?, hq])]
  rfl
 have hRow2 : ∀ (W : World), W.heap = ((w.setRow g C1.toArray).setRow g C2.toArray).heap → W.heap[g]? = some (.cells C2.toArray 64 (0, 0)) := fun W hW => by
  rw [hW]
  exact setRow_heap _ g _ C2.toArray 64 (0, 0) (setRow_heap w g C C1.toArray 64 (0, 0) hCg)
 have hOwn : ∀ (W : World), W.heap = ((w.setRow g C1.toArray).setRow g C2.toArray).heap → Owns 64 encVr 4 W base (.slice (some ⟨g, 0, none⟩) (S.length + 1) cap) (S.take i ++ v :: S.drop i) := fun W hW => by
  have hlen : (S.take i ++ v :: S.drop i).length = S.length + 1 := by simp; omega
  have hflat : (S.take i ++ v :: S.drop i).flatMap encVr = L.take (i * 4) ++ (encVr v ++ L.drop (i * 4)) := by rw [List.flatMap_append, List.flatMap_cons, hL, flat_takeV, flat_dropV]
  unfold Owns
  rw [hlen]
  refine ⟨by rw [flat_length encVr_length, hlen], .inr ⟨g, cap, C2.toArray, rfl, hgl.1, hRow2 W hW, hroom, h2, ?_, ?_⟩⟩
  ·rw [List.size_toArray, hfin.2]
   exact hcl
  ·rw [hflat, ← hfin.1, encVr_length, show (S.length + 1) * 4 = S.length * 4 + 4 by omega]
 have hgrow : ∀ (W : World), W.os = w.os → W.tape = w.tape → W.output = w.output → W.heap = ((w.setRow g C1.toArray).setRow g C2.toArray).heap → w.grownBy W (some g) := fun W h1 h2 h3 hW => ⟨h1, h2, h3, by rw [hW]; simp [World.setRow], fun k hk hn => by
  have hkg : k ≠ g := fun e => hn (by rw [e])
  rw [hW, setRow_other _ g k _ hkg, setRow_other _ g k _ hkg]⟩
 have e1 : IntKind.i64.wrap ((i : Int) + 1) = (i : Int) + 1 := by rw [IntKind.wrap_i64]; omega
 have e2 : (0 : Int) ≤ (i : Int) + 1 := by omega
 have e3 : (i : Int) ≤ (S.length : Int) := by omega
 have e3b : (i : Int) ≤ (S.length : Int) + 1 := by omega
 have e4 : ((i : Int) + 1).toNat = i + 1 := by omega
 have e6 : ¬ (cap = i) := by omega
 have e7 : ¬ (cap = i + 1) := by omega
 have e8 : (i : Int) + 1 ≤ (S.length : Int) + 1 := by omega
 have e10 : ¬ ((i : Int) = (S.length : Int)) := by omega
 have e11 : ¬ ((cap : Int) < (S.length : Int) + 1) := by omega
 have e12 : (S.length : Int) + 1 ≤ (cap : Int) := by omega
 have e13 : ((S.length : Int) + 1).toNat = S.length + 1 := by omega
 have mixed : Tryz.prog.follows .mixedOrders = true := by kernel_rfl
 have HOw := hide hOwn
 have HGr := hide hgrow
 have hE : (w.drew).heap = w.heap := rfl
 have hF : (w.drew.setRow g C1.toArray).heap = (w.setRow g C1.toArray).heap := rfl
 clear hq hL hLc hone hCg hCs hCt hcl hC1 hC1l hC2 hfin hRow2 hOwn hgrow hown
 go_enter Tryz.func81, Tryz.ntmps81
 go_wp2_with (simp only [hov])
 go_region_law (refine step_copy_runT rfl _ _ 36 36 rfl (.slice (some ⟨g, (i + 1) * 4, none⟩) (S.length + 1 - (i + 1)) (cap - (i + 1))) (.slice (some ⟨g, i * 4, none⟩) (S.length + 1 - i) (cap - i)) (by simp [Act.eval, Act.put]) (by simp [Act.eval, Act.put]) (hcpA _ hE 3 (cap - (i + 1)) (cap - i)) ?_)
 go_wp2_with (at_builtin; refine wpList_copy_runT _ rfl _ _ 36 36 rfl _ _ rfl rfl (hcpB _ hF _ _) ?_)
 go_ret
 exact ⟨_, rfl, HOw.out _ rfl, HGr.out _ rfl rfl rfl rfl⟩
theorem putV_at (S : List Ver) (v : Ver) : putV S v = S.take (upN S v.key v.ts) ++ v :: S.drop (upN S v.key v.ts) := rfl
theorem Insert_any (sv : Value) (S : List Ver) (base i q : Nat) (v : Ver) (w : World) (hown : Owns 64 encVr 4 w base sv S) (hi : i ≤ S.length) (hl : S.length ≤ 5000) (hq : w.heap[q]? = some (.cells (encVr v).toArray 64 (0, 0))) (hne : ∀ g, sv.ownBlock = some g → g ≠ q) (hb : base ≤ w.heap.size) :
  Calls Tryz.prog 81 #[sv, .int .i64 i, .slice (some ⟨q, 0, none⟩) 1 1] w fun e w' => ∃ v', e = .returned v' ∧ Owns 64 encVr 4 w' base v' (S.take i ++ v :: S.drop i) ∧ w.grownBy w' sv.ownBlock := by
 rcases Nat.lt_or_ge i S.length with h | h
 ·obtain ⟨g, cap, rfl, h1, h2, h3, h4, h5⟩ := hown.form encVr_length ver0 (by omega) (by omega)
  rcases Nat.lt_or_ge cap (S.length + 1) with h6 | h6
  ·exact Insert_grow g cap S base i q v w hown h h6 hl hq hb
  ·exact Insert_shift g cap S base i q v w hown h h6 hl hq (fun e => hne g rfl e.symm)
 ·obtain rfl : i = S.length := by omega
  exact Insert_end sv S base q v w hown hl hq hb
end Go.Proofs.YthkoaecafmhlcaaGreat
