/- Package spread: the iterator over the possible numbers. -/
import Derived.Test.YtiaahfccebmkdaaSpB
import Derived.RangeFuncNested
import Derived.RangeFuncBound
import Derived.RangeFuncCalls
import Derived.RangeFuncLeaves
import Derived.RangeFuncBox
import Derived.RangeFuncFrom
import Derived.Shelf.Abstract
import Derived.Shelf.AbstractIn
import Derived.Shelf.RegionOpen
import Derived.OwnWalkIn
import Derived.TacticsInMore
import Derived.LoopNIn
import Derived.LoopIn
import Derived.Sort.QuietIn
import Derived.Sort.BigQuietIn
import Derived.Sort.QuietTacIn
import Derived.BigRegionIn
namespace Go.Proofs.Ytiaahfccebmkdaa
open Go.RowKit Go.Shelf
attribute [local go_sem] Oper.semAt_some
attribute [local go_sem ↓] run_max_mx run_min_mn

/-- The blocks of S lie as they lay. -/
def KeepS (S : Nat → Prop) (A B : World) : Prop := A.heap.size ≤ B.heap.size ∧ ∀ q, S q → B.heap[q]? = A.heap[q]?
theorem KeepS.refl (S : Nat → Prop) (A : World) : KeepS S A A := ⟨Nat.le_refl _, fun _ _ => rfl⟩
theorem KeepS.trans {S : Nat → Prop} {A B C : World} (h : KeepS S A B) (k : KeepS S B C) : KeepS S A C := ⟨Nat.le_trans h.1 k.1, fun q h1 => (k.2 q h1).trans (h.2 q h1)⟩
theorem KeepS.cell {S : Nat → Prop} {A B : World} (h : KeepS S A B) {b : Nat} (h1 : S b) (o : Nat) : B.cell? ⟨b, o, none⟩ = A.cell? ⟨b, o, none⟩ := World.cell?_of_block (a := ⟨b, o, none⟩) (h.2 b h1)
theorem KeepS.drewN {S : Nat → Prop} {A B : World} (h : KeepS S A B) (n : Nat) : KeepS S A (B.drewN n) := h
theorem isrow_same {w V : World} {v : Value} {l : List Int} (h : IsRow w v l) (hs : w.heap.size ≤ V.heap.size) (hb : ∀ q, q < w.heap.size → V.heap[q]? = w.heap[q]?) : IsRow V v l := by
  obtain ⟨a, cap, rfl, h1, h2, h3⟩ := h
  refine ⟨a, cap, rfl, h1, h2, fun i hi => ?_⟩
  obtain ⟨b, off, rfl, h4, h5⟩ := h3 i hi
  exact ⟨b, off, rfl, by omega, (World.cell?_of_block (a := ⟨b, off + i, none⟩) (hb b h4)).trans h5⟩
theorem GameAt.same {w V : World} {gb : Nat} {l : List Int} {m k : Nat} {f : Int} (h : GameAt w gb l m k f) (hs : w.heap.size ≤ V.heap.size) (hb : ∀ q, q < w.heap.size → V.heap[q]? = w.heap[q]?) : GameAt V gb l m k f := by
  obtain ⟨⟨v, h1, h2⟩, ⟨b, off, cap, h3, h4, h5, h6, h7⟩, h8, h9, h10, h11⟩ := h
  have hg := fun o => World.cell?_of_block (a := ⟨gb, o, none⟩) (hb gb h11)
  exact ⟨⟨v, (hg 0).trans h1, isrow_same h2 hs hb⟩, ⟨b, off, cap, (hg 1).trans h3, h4, h5, by omega, fun i hi => (World.cell?_of_block (a := ⟨b, off + i, none⟩) (hb b h6)).trans (h7 i hi)⟩,
    (hg 2).trans h8, (hg 3).trans h9, (hg 4).trans h10, by omega⟩
def upto (D : List Int) (k j0 t : Nat) : List (Int × Int) := (List.range t).map fun s => (((j0 + s : Nat) : Int), vJ D k (j0 + s))
theorem upto_succ (D : List Int) (k j0 t : Nat) : upto D k j0 (t + 1) = upto D k j0 t ++ [(((j0 + t : Nat) : Int), vJ D k (j0 + t))] := by unfold upto; rw [List.range_succ]; simp
theorem upto_length (D : List Int) (k j0 t : Nat) : (upto D k j0 t).length = t := by simp [upto]
theorem upto_prefix (D : List Int) (k j0 : Nat) {s t : Nat} (h : s ≤ t) : upto D k j0 s <+: upto D k j0 t := by
  obtain ⟨d, rfl⟩ : ∃ d, t = s + d := ⟨t - s, by omega⟩
  refine ⟨(List.range d).map fun i => (((j0 + (s + i) : Nat) : Int), vJ D k (j0 + (s + i))), ?_⟩
  unfold upto
  rw [List.range_add, List.map_append, List.map_map]; rfl
theorem values_arms (k j _m : Nat) (D : List Int) (hj : 0 < j) : vJ D k j = mn (iAt D (k - 1) + iAt D (2 * k - j - 1)) (iAt D (j - 1)) := by unfold vJ; rw [if_pos hj]
set_option maxRecDepth 100000 in
set_option maxHeartbeats 2000000 in
theorem values_in (n : Nat) (hn : 2 ≤ n) (l Bn gb : Nat) (ws : List Int) (m k : Nat) (f : Int) (w0 : World) (hG : GameAt w0 gb ws m k f) (hk1 : 1 ≤ k) (hkm : k ≤ m) (hml : m ≤ ws.length) (hl16 : ws.length ≤ 16) (hwd : ∀ i, 0 ≤ iAt (srt ws) i ∧ iAt (srt ws) i ≤ 1000000000000)
    (_hBn : w0.heap.size ≤ Bn) (J Jx : List (Int × Int) → World → Prop) (W : World) (hs0 : w0.heap.size ≤ W.heap.size) (hb0 : ∀ q, q < w0.heap.size → W.heap[q]? = w0.heap[q]?) (hJ : AbidesFrom W.heap.size J)
    (hY : ∀ pre x W1, J pre W1 → pre.length < k - jLo m k + 1 → YieldAt Fence.wide (n - 1) Try.prog l #[.int .i64 x.1, .int .i64 x.2] W1 fun e W' =>
      (e = .returned (.bool true) ∧ J (pre ++ [x]) W' ∧ KeepS (fun q => q < w0.heap.size ∨ q = Bn) W1 W') ∨ (e = .returned (.bool false) ∧ Jx (pre ++ [x]) W'))
    (hc : W.cell? ⟨Bn, 0, none⟩ = some (.pointer (some ⟨gb, 0, none⟩))) (h0 : J [] W) :
    CallsIn Fence.wide n Try.prog 86 #[.func (.yield l) #[] #[], .pointer (some ⟨Bn, 0, none⟩)] W fun e W' => (∃ v, e = .returned v) ∧
      ((∃ ys, ys = upto (srt ws) k (jLo m k) (k - jLo m k + 1) ∧ J ys W') ∨ (∃ pre, pre <+: upto (srt ws) k (jLo m k) (k - jLo m k + 1) ∧ Jx pre W')) := by
  have hn1 : 1 ≤ n := by omega
  have hBW := World.block_lt_of_cell? _ _ hc
  have hG0 := hG.same hs0 hb0
  have g2 := hG0.m
  have g3 := hG0.k
  have ww1 : IntKind.i64.wrap (2 * (k : Int)) = 2 * k := IntWalk.i64_in _ (by omega)
  have ww2 : IntKind.i64.wrap (2 * (k : Int) - m) = 2 * k - m := IntWalk.i64_in _ (by omega)
  have hj0 : mx 0 (2 * (k : Int) - m) = (jLo m k : Nat) := by unfold jLo; have := mx_spec 0 (2 * (k : Int) - m); omega
  have hjk : jLo m k ≤ k := by unfold jLo; omega
  have hjm : 2 * k - m ≤ jLo m k := by unfold jLo; omega
  generalize jLo m k = j0 at *
  refine callsIn_of_wp Try.func86 rfl trivial ?_ rfl
  simp only [Try.ntmps86, List.size_toArray, List.length_cons, List.length_nil, Nat.reduceAdd, Nat.reduceSub, Array.replicate_succ, Array.replicate_zero, List.push_toArray, List.append_toArray, List.nil_append, List.cons_append]
  gi_wp2
  gi_quiet (fail)
  gi_wp2
  have Hj0 := hide hj0
  have Ww2 := hide ww2
  clear hj0 g2 g3 ww2
  gi_loopw [3] (fun i wr => ∃ (t : Nat) (pre : List (Int × Int)), t ≤ k - j0 + 1 ∧ i = .int .i64 ((j0 + t : Nat) : Int) ∧ Hid (pre = upto (srt ws) k j0 t) ∧ J pre wr ∧ KeepS (fun q => q < w0.heap.size ∨ q = Bn) W wr) (fun i _ => k + 1 - (intOf i).toNat)
  case atStart => exact ⟨0, [], Nat.zero_le _, congrArg (Value.int .i64) (by simp), hide rfl, hJ [] W _ none h0 (grown_drewN (World.grownBy.refl _ _) _) (fun r h => by cases h), (KeepS.refl _ _).drewN _⟩
  case round =>
    obtain ⟨t, pre, ht, rfl, Hp, hJs, hK⟩ := hrel
    have hcr := (hK.cell (b := Bn) (.inr rfl) 0).trans hc
    have hGr := hG.same (V := wr) (Nat.le_trans hs0 hK.1) (fun q hq => (hK.2 q (.inl hq)).trans (hb0 q hq))
    have g3 := hGr.k
    obtain ⟨j, hj⟩ : ∃ j, j = j0 + t := ⟨_, rfl⟩
    rw [← hj]
    by_cases hlt : t < k - j0 + 1
    · have hjk2 : j ≤ k := by omega
      obtain ⟨q, hq⟩ : ∃ q, q = 2 * k - j := ⟨_, rfl⟩
      have hq1 : 1 ≤ q := by omega
      have hq2 : q ≤ m := by omega
      have ww3 : IntKind.i64.wrap (2 * (k : Int) - j) = q := by rw [IntWalk.i64_in _ (by omega)]; omega
      have d1 := hwd (k - 1)
      have d2 := hwd (q - 1)
      have ww4 : IntKind.i64.wrap (iAt (srt ws) (k - 1) + iAt (srt ws) (q - 1)) = iAt (srt ws) (k - 1) + iAt (srt ws) (q - 1) := IntWalk.i64_in _ (by omega)
      have Hv : Hid (vJ (srt ws) k j = if 0 < j then mn (iAt (srt ws) (k - 1) + iAt (srt ws) (q - 1)) (iAt (srt ws) (j - 1)) else iAt (srt ws) (k - 1) + iAt (srt ws) (q - 1)) := by
        show vJ (srt ws) k j = _
        unfold vJ; rw [← hq]
      have Hpn : Hid (pre ++ [((j : Int), vJ (srt ws) k j)] = upto (srt ws) k j0 (t + 1)) := by
        show _ = _
        rw [Hp.out, upto_succ, ← hj]
      have Hq := hide hq
      have Hj := hide hj
      clear hq hj
      by_cases hjp : 0 < j
      · have hv1 : vJ (srt ws) k j = mn (iAt (srt ws) (k - 1) + iAt (srt ws) (q - 1)) (iAt (srt ws) (j - 1)) := by rw [Hv.out, if_pos hjp]
        have Hv1 := hide hv1
        clear hv1
        gi_wp2
        refine wpIn_wide.2 ?_
        go_quiet ((go_at_call 87; exact Calls.quiet_of (w_any gb _ ws m k f _ (hGr.below (Nat.le_refl _) (below_drewN (Below.refl _ _) _)) (by omega) (by omega) hml (by omega))))
        gi_wp2_with fail
        refine ⟨trivial, (callsIn_wide.2 (w_any gb j ws m k f _ (hGr.below (Nat.le_refl _) (below_drewN (Below.refl _ _) _)) (by omega) (by omega) hml (by omega))).mono ?_⟩
        rintro e w' ⟨rfl, n2, rfl⟩
        have hJ2 := hJ pre wr (wr.drewN (nq + n2)) none hJs (grown_drewN (World.grownBy.refl _ _) _) (fun r h => by cases h)
        obtain ⟨fn, tmps, assign, body, hy, hR⟩ := hY pre ((j : Int), vJ (srt ws) k j) (wr.drewN (nq + n2)) hJ2 (by rw [Hp.out, upto_length]; omega)
        rw [Hv1.out] at hy
        dsimp only at hy
        gi_wp2
        refine hR.mono ?_
        rintro e W3 (⟨rfl, hJ3, hk3⟩ | ⟨rfl, hJx3⟩)
        · gi_wp2
          go_roundw
          case rel =>
            have := Hj.out
            exact ⟨t + 1, _, by omega, congrArg (Value.int .i64) (by omega), Hpn, hJ3, hK.trans ((KeepS.drewN (KeepS.refl _ _) _).trans hk3)⟩
          case measure => simp [intOf]; omega
        · gi_wp2
          refine bodyPost_ret (results_none rfl _ _ _) rfl ?_
          exact ⟨⟨_, rfl⟩, .inr ⟨_, by rw [Hpn.out]; exact upto_prefix _ _ _ (by omega), hJx3⟩⟩
      · have hv1 : vJ (srt ws) k j = iAt (srt ws) (k - 1) + iAt (srt ws) (q - 1) := by rw [Hv.out, if_neg hjp]
        have Hv1 := hide hv1
        have hj00 : j = 0 := by omega
        have Hj00 := hide hj00
        have hjz : decide (0 < j) = false := decide_eq_false hjp
        have hjz2 : decide ((0 : Int) < j) = false := decide_eq_false (by omega)
        clear hv1 hj00
        gi_wp2
        refine wpIn_wide.2 ?_
        go_quiet ((go_at_call 87; exact Calls.quiet_of (w_any gb _ ws m k f _ (hGr.below (Nat.le_refl _) (below_drewN (Below.refl _ _) _)) (by omega) (by omega) hml (by omega))))
        have hJ2 := hJ pre wr (wr.drewN nq) none hJs (grown_drewN (World.grownBy.refl _ _) _) (fun r h => by cases h)
        obtain ⟨fn, tmps, assign, body, hy, hR⟩ := hY pre ((j : Int), vJ (srt ws) k j) (wr.drewN nq) hJ2 (by rw [Hp.out, upto_length]; omega)
        rw [Hv1.out] at hy
        dsimp only at hy
        gi_wp2
        refine hR.mono ?_
        rintro e W3 (⟨rfl, hJ3, hk3⟩ | ⟨rfl, hJx3⟩)
        · gi_wp2
          go_roundw
          case rel =>
            have := Hj.out
            exact ⟨t + 1, _, by omega, congrArg (Value.int .i64) (by omega), Hpn, hJ3, hK.trans ((KeepS.drewN (KeepS.refl _ _) _).trans hk3)⟩
          case measure => simp [intOf]; omega
        · gi_wp2
          refine bodyPost_ret (results_none rfl _ _ _) rfl ?_
          exact ⟨⟨_, rfl⟩, .inr ⟨_, by rw [Hpn.out]; exact upto_prefix _ _ _ (by omega), hJx3⟩⟩
    · gi_wp2
      go_end0
      exact ⟨⟨_, rfl⟩, .inl ⟨pre, by rw [Hp.out, show t = k - j0 + 1 by omega], hJs⟩⟩
end Go.Proofs.Ytiaahfccebmkdaa
