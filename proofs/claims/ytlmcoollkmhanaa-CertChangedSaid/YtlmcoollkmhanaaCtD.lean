
/- Package cert: choose as an iterator that hides its own and vouches its lists. -/
import Derived.Test.YtlmcoollkmhanaaCtB
import Derived.Laws.EntriesVeiled
namespace Go.Proofs.Ytlmcoollkmhanaa
open Go.RowKit Go.Shelf
attribute [local go_sem] Oper.semAt_some

set_option maxRecDepth 100000 in
set_option maxHeartbeats 400000 in
theorem choose_any (n k : Int) (wov : Value) (wo : List Int) (w : World) (hw : IsRow w wov wo) :
  Calls Try.prog 39 #[.int .i64 n, .int .i64 k, wov] w fun e w' => e = .returned (.func (.func 62) #[] #[.pointer (some ⟨w.heap.size + 1, 0, none⟩), .pointer (some ⟨w.heap.size, 0, none⟩), .pointer (some ⟨w.heap.size + 2, 0, none⟩)]) ∧
   (w'.cell? ⟨w.heap.size, 0, none⟩ = some (.int .i64 n) ∧ w'.cell? ⟨w.heap.size + 1, 0, none⟩ = some (.int .i64 k) ∧ w'.cell? ⟨w.heap.size + 2, 0, none⟩ = some wov) ∧ w'.heap.size = w.heap.size + 3 ∧ Below w.heap.size w w' := by
 obtain ⟨va, vc, rfl, -⟩ := id hw
 clear hw
 go_enter Try.func39, Try.ntmps39
 go_wp2_with fail
 go_ret
 refine ⟨rfl, ⟨?_, ?_, ?_⟩, ?_, (by ((with_reducible repeat' first | exact .refl _ _ | refine .alloc ?_ ?_ _ | refine .setCell ?_ ?_ _ | refine .drew ?_ | refine below_drewN ?_ _) <;> first | omega | simp <;> omega))⟩ <;> simp [go_sem]
def ChH0 (bk bn bw : Nat) (r : Nat) : Prop := r = bk ∨ r = bn ∨ r = bw
set_option maxRecDepth 100000 in
set_option maxHeartbeats 2000000 in
theorem choose_in (nn N : Nat) (hnn : 2 ≤ nn) (l : Nat) (J : (Nat → Prop) → List (Value × List Int) → World → Prop) (W : World) (hJ : AbidesH W.heap.size J) (bk bn bw k n : Nat) (wov : Value) (wo : List Int) (B0 : Nat) (hB0 : B0 ≤ W.heap.size) (hn : n ≤ 16) (hk : k ≤ 16) (hN : (chR (plFrom wo n 0) k).length ≤ N)
  (hcell : W.cell? ⟨bn, 0, none⟩ = some (.int .i64 n) ∧ W.cell? ⟨bk, 0, none⟩ = some (.int .i64 k) ∧ W.cell? ⟨bw, 0, none⟩ = some wov) (hw : IsRow W wov wo) (hwo : ∀ q, wov.ownBlock = some q → q < W.heap.size)
  (hY : ∀ H pre x W1, J H pre W1 → ChG B0 (fun l => l ∈ chR (plFrom wo n 0) k) H x W1 → pre.length < N → YieldAt Fence.wide (nn - 1) Try.prog l (chEnc x) W1 fun e W' => e = .returned (.bool true) ∧ J H (pre ++ [x]) W' ∧ KeepH (fun r => H r ∨ wov.ownBlock = some r) W1 W') (h0 : J (ChH0 bk bn bw) [] W) :
  CallsIn Fence.wide nn Try.prog 62 #[.func (.yield l) #[] #[], .pointer (some ⟨bk, 0, none⟩), .pointer (some ⟨bn, 0, none⟩), .pointer (some ⟨bw, 0, none⟩)] W fun e W' => (∃ v, e = .returned v) ∧ ∃ H xs, xs.map (·.2) = chR (plFrom wo n 0) k ∧ J H xs W' := by
 obtain ⟨c1, c2, c3⟩ := hcell
 obtain ⟨va, vc, rfl, -⟩ := id hw
 have hbn := World.block_lt_of_cell? _ _ c1
 have hbk := World.block_lt_of_cell? _ _ c2
 have hbw := World.block_lt_of_cell? _ _ c3
 simp only at hbn hbk hbw
 have hn1 : 1 ≤ nn := by omega
 have D : ChD bk W.heap.size bn bw (W.heap.size + 1 + 1) (W.heap.size + 1) (W.heap.size + 3) (.slice va wo.length vc) := ⟨by omega, by omega, by omega, by omega, by omega, by omega, fun q hq => by have := hwo q hq; omega⟩
 obtain ⟨V, hV⟩ : ∃ V : World, V = ((W.alloc (.cells #[.func (.yield l) #[] #[]] 74)).alloc (.cells #[.slice none 0 0] 25)).alloc (.cells #[.func (.func 63) #[] #[.pointer (some ⟨W.heap.size + 1, 0, none⟩), .pointer (some ⟨bk, 0, none⟩), .pointer (some ⟨W.heap.size, 0, none⟩), .pointer (some ⟨bn, 0, none⟩), .pointer (some ⟨bw, 0, none⟩), .pointer (some ⟨W.heap.size + 1 + 1, 0, none⟩)]] 71) := ⟨_, rfl⟩
 have zV : V.heap.size = W.heap.size + 3 := by rw [hV]; simp
 have bV : Below W.heap.size W V := by rw [hV]; ((with_reducible repeat' first | exact .refl _ _ | refine .alloc ?_ ?_ _ | refine .setCell ?_ ?_ _ | refine .drew ?_ | refine below_drewN ?_ _) <;> first | omega | simp <;> omega)
 have hT : ChT bk W.heap.size bn bw (W.heap.size + 1 + 1) (W.heap.size + 1) (W.heap.size + 3) k n (.slice va wo.length vc) wo l V (.slice none 0 0) [] := by
  refine ⟨⟨⟨(bV.cell (p := ⟨bk, 0, none⟩) hbk).trans c2, ?_, (bV.cell (p := ⟨bn, 0, none⟩) hbn).trans c1, (bV.cell (p := ⟨bw, 0, none⟩) hbw).trans c3, ?_⟩, hw.below (Nat.le_refl _) bV⟩, ⟨?_, ?_⟩, OwnIs.nil _ _, by omega⟩ <;> (rw [hV]; simp [go_sem])
 have hJV : J (ChH bk W.heap.size bn bw (W.heap.size + 1 + 1) (W.heap.size + 1) (.slice none 0 0)) [] V := hJ _ _ [] W V none h0 (grown_below bV) (fun r e => by cases e) (fun r hr => by
  rcases hr with hr | hr
  ·rcases hr with rfl | rfl | rfl | rfl | rfl | rfl
   ·exact .inl (.inl rfl)
   ·exact .inr (by omega)
   ·exact .inl (.inr (.inl rfl))
   ·exact .inl (.inr (.inr rfl))
   ·exact .inr (by omega)
   ·exact .inr (by omega)
  ·simp [Value.ownBlock] at hr)
 have hF := further_in nn N _ hnn J W.heap.size B0 hJ bk W.heap.size bn bw (W.heap.size + 1 + 1) (W.heap.size + 1) (W.heap.size + 3) k n _ wo l D (by omega) hn hk hY n 0 (by omega) (Nat.zero_le _) [] (.slice none 0 0) [] V (Nat.zero_le _) hT hJV (by simpa using hN) (fun x hx => by simpa using hx)
 simp only [List.length_nil, Nat.sub_zero, List.nil_append, List.map_id'] at hF
 clear hT hJV bV zV D hY hJ h0 hN hbn hbk hbw c1 c2 c3 hw hwo
 refine callsIn_of_wp Try.func62 rfl trivial ?_ rfl
 simp only [Try.ntmps62, List.size_toArray, List.length_cons, List.length_nil, Nat.reduceAdd, Nat.reduceSub, Array.replicate_succ, Array.replicate_zero, List.push_toArray, List.append_toArray, List.nil_append, List.cons_append]
 gi_wp2_with fail
 rw [← hV]
 clear hV
 refine ⟨trivial, (callsIn_wide.2 (callsIn_wide.1 hF)).mono ?_⟩
 rintro e w1 ⟨rfl, lv', ys, h1, h2, -⟩
 have H1 := hide h1
 have H2 := hide h2
 clear h1 h2 hF
 gi_wp2
 go_end0
 exact ⟨⟨_, rfl⟩, _, ys, H1.out, H2.out⟩
theorem choose_seq (nn N : Nat) (hnn : 2 ≤ nn) (bk bn bw k n : Nat) (wov : Value) (wo : List Int) (B0 : Nat) (w : World) (hB0 : B0 ≤ w.heap.size) (hn : n ≤ 16) (hk : k ≤ 16) (hN : (chR (plFrom wo n 0) k).length ≤ N)
  (hcell : w.cell? ⟨bn, 0, none⟩ = some (.int .i64 n) ∧ w.cell? ⟨bk, 0, none⟩ = some (.int .i64 k) ∧ w.cell? ⟨bw, 0, none⟩ = some wov) (hw : IsRow w wov wo) (hwo : ∀ q, wov.ownBlock = some q → q < w.heap.size) :
  SeqHG Fence.wide nn Try.prog 62 #[.pointer (some ⟨bk, 0, none⟩), .pointer (some ⟨bn, 0, none⟩), .pointer (some ⟨bw, 0, none⟩)] chEnc (ChG B0 fun l => l ∈ chR (plFrom wo n 0) k) (fun xs => xs.map (·.2) = chR (plFrom wo n 0) k) N (fun r => wov.ownBlock = some r) (ChH0 bk bn bw) w := by
 intro l J W hb hJ hY h0
 have hbn := World.block_lt_of_cell? _ _ hcell.1
 have hbk := World.block_lt_of_cell? _ _ hcell.2.1
 have hbw := World.block_lt_of_cell? _ _ hcell.2.2
 exact choose_in nn N hnn l J W hJ bk bn bw k n wov wo B0 (Nat.le_trans hB0 hb.size) hn hk hN ⟨(hb.cell (p := ⟨bn, 0, none⟩) hbn).trans hcell.1, (hb.cell (p := ⟨bk, 0, none⟩) hbk).trans hcell.2.1, (hb.cell (p := ⟨bw, 0, none⟩) hbw).trans hcell.2.2⟩ (hw.below (Nat.le_refl _) hb) (fun q hq => Nat.lt_of_lt_of_le (hwo q hq) hb.size) hY h0
end Go.Proofs.Ytlmcoollkmhanaa
