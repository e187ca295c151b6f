/- Parts TtE TtF TtG of the proof, joined. -/
import Derived.Test.YthkoaecafmhlcaaGreatJ24
/- Package codec: first, on a frame that is cut. -/
namespace Go.Proofs.YthkoaecafmhlcaaGreat
open Go.RowKit
attribute [local simp] size_drewT
set_option maxHeartbeats 2000000 in
set_option maxRecDepth 100000 in
set_option maxHeartbeats 400000 in
theorem first_cut (v : Value) (l : List Int) (k : Nat) (w : World) (h : BRow w v ((frm l).take k)) (hl : l.length ≤ 1000) (hs : Sml l) (hk : k < (frm l).length) :
  Calls Tryz.prog 57 #[v] w fun e w' => e = .returned (.tuple #[.slice none 0 0, .int .i64 0, .bool false]) ∧ Below w.heap.size w w' := by
 obtain ⟨he, he0⟩ := encN_len hl hs
 have hM : ((frm l).take k).length = k := by rw [List.length_take]; omega
 rw [frm_len] at hk
 by_cases hk3 : k < 3
 ·obtain ⟨a, cap, rfl, -⟩ := h.len
  rw [hM]
  have I3 : decide ((k : Int) < 3) = true := decide_eq_true (by omega)
  clear h hM
  go_enter Tryz.func57, Tryz.ntmps57
  go_wp2_with fail
  refine bodyPost_ret (v := .tuple #[.slice none 0 0, .int .i64 0, .bool false]) (by simp [results, Tryz.results57, go_sem]) rfl ⟨rfl, Below.refl _ _⟩
 ·obtain ⟨b, off, cap, rfl, hcap, hmax, hlt0, hel⟩ := h.at0 (by omega)
  have hat : ∀ i, i < k → w.cell? ⟨b, off + i, none⟩ = some (.int .u8 ((frm l).getD i 0)) := fun i hi => by
   have h2 := hel i (by omega) 0 _ rfl
   rw [Nat.mul_one, Nat.add_zero] at h2
   rw [h2]
   congr 2
   simp [List.getD_eq_getElem?_getD, hi]
  rw [hM] at hcap ⊢
  obtain ⟨N, hN⟩ : ∃ N, N = (encN l).length := ⟨_, rfl⟩
  have g0 : (frm l).getD 0 0 = 0 := by show (((encN l).length / 65536 % 256 : Nat) : Int) = 0; omega
  have g1 : (frm l).getD 1 0 = (N : Int) / 256 := by rw [hN]; show (((encN l).length / 256 % 256 : Nat) : Int) = _; omega
  have g2 : (frm l).getD 2 0 = (N : Int) % 256 := by rw [hN]; show (((encN l).length % 256 : Nat) : Int) = _; omega
  have y0 : w.cell? ⟨b, off, none⟩ = some (.int .u8 0) := by rw [← g0]; exact hat 0 (by omega)
  have y1 : w.cell? ⟨b, off + 1, none⟩ = some (.int .u8 ((N : Int) / 256)) := by rw [← g1]; exact hat 1 (by omega)
  have y2 : w.cell? ⟨b, off + 2, none⟩ = some (.int .u8 ((N : Int) % 256)) := by rw [← g2]; exact hat 2 (by omega)
  rw [← hN] at he he0 hk
  have o1 := or_hd N he
  have o2 := or_hd0 ((N : Int) / 256 * 256) (by omega)
  have I0 : (0 : Int) < (k : Int) := by omega
  have I1 : (1 : Int) < (k : Int) := by omega
  have I2 : (2 : Int) < (k : Int) := by omega
  have I3 : decide ((k : Int) < 3) = false := decide_eq_false (by omega)
  obtain ⟨Q, hQ⟩ : ∃ q, q = N + 11 := ⟨_, rfl⟩
  have I5 : decide ((k : Int) < (Q : Int)) = true := decide_eq_true (by omega)
  have I6 : decide (k < Q) = true := decide_eq_true (by omega)
  have ww1 : IntKind.i64.wrap ((N : Int) + 11) = (Q : Int) := by rw [IntKind.wrap_i64]; omega
  clear hM hat g0 g1 g2 hN hQ h hel hk3
  have mixed : Tryz.prog.follows Departure.mixedOrders = true := by kernel_rfl
  go_enter Tryz.func57, Tryz.ntmps57
  go_upto_region 3 with fail
  go_quiet ((fail))
  go_upto_region 4 with fail
  go_quiet ((fail))
  go_wp2_with fail
  refine bodyPost_ret (v := .tuple #[.slice none 0 0, .int .i64 0, .bool false]) (by simp [results, Tryz.results57, go_sem]) rfl ⟨rfl, below_drewN (below_drewN (Below.refl _ _) _) _⟩
end Go.Proofs.YthkoaecafmhlcaaGreat
/- Rows of lists that a call makes. Package codec: Frames. -/
namespace Go.Proofs.YthkoaecafmhlcaaGreat
open Go.RowKit
theorem isrow_same31 {W V : World} {v : Value} {l : List Int} (h : IsRow W v l) (hz : W.heap.size ≤ V.heap.size) (hb : ∀ q, v.ownBlock = some q → V.heap[q]? = W.heap[q]?) : IsRow V v l := by
 obtain ⟨a, cap, rfl, h1, h2, h3⟩ := h
 refine ⟨a, cap, rfl, h1, h2, fun i hi => ?_⟩
 obtain ⟨b, off, rfl, h4, h5⟩ := h3 i hi
 exact ⟨b, off, rfl, Nat.lt_of_lt_of_le h4 hz, (World.cell?_of_block (a := ⟨b, off + i, none⟩) (hb b rfl)).trans h5⟩
theorem owns_same {w w' : World} {base e size n : Nat} {v : Value} {xs : List Value} (h : w.ownsRow base e size v n xs) (hb : ∀ k, v.ownBlock = some k → w'.heap[k]? = w.heap[k]?) : w'.ownsRow base e size v n xs := by
 refine ⟨h.1, ?_⟩
 rcases h.2 with h1 | ⟨g, cap, cur, hv, hg, hc, r⟩
 ·exact .inl h1
 ·exact .inr ⟨g, cap, cur, hv, hg, (hb g (by rw [hv]; rfl)).trans hc, r⟩
def encV (x : Value × List Int) : List Value := [x.1]
def rv0 : Value × List Int := (.slice none 0 0, [])
theorem encV_length (x : Value × List Int) : (encV x).length = 1 := rfl
def NewI (w : World) (base : Nat) (v : Value) (l : List Int) : Prop := IsRow w v l ∧ ∀ q, v.ownBlock = some q → base ≤ q ∧ ∃ c fz, w.heap[q]? = some (.cells c 3 fz)
theorem NewI.of_own {w : World} {base : Nat} {v : Value} {l : List Int} (h : OwnIs w base v l) : NewI w base v l := by
 refine ⟨h.row, fun q hq => ?_⟩
 rcases h.2 with ⟨hv, _⟩ | ⟨g, cap, cur, hv, hg, hc, r⟩
 ·rw [hv] at hq; simp [Value.ownBlock] at hq
 ·rw [hv] at hq
  have e : g = q := by simpa [Value.ownBlock] using hq
  subst e
  exact ⟨hg, _, _, hc⟩
theorem NewI.mono {w : World} {base b2 : Nat} {v : Value} {l : List Int} (h : NewI w base v l) (hb : b2 ≤ base) : NewI w b2 v l := ⟨h.1, fun q hq => ⟨Nat.le_trans hb (h.2 q hq).1, (h.2 q hq).2⟩⟩
theorem NewI.lt {w : World} {base : Nat} {v : Value} {l : List Int} (h : NewI w base v l) : ∀ q, v.ownBlock = some q → q < w.heap.size := fun q hq => by
 obtain ⟨c, fz, hc⟩ := (h.2 q hq).2
 exact (Array.getElem?_eq_some_iff.1 hc).1
theorem NewI.same {w w' : World} {base : Nat} {v : Value} {l : List Int} (h : NewI w base v l) (hz : w.heap.size ≤ w'.heap.size) (hb : ∀ q, v.ownBlock = some q → w'.heap[q]? = w.heap[q]?) : NewI w' base v l :=
 ⟨isrow_same31 h.1 hz hb, fun q hq => ⟨(h.2 q hq).1, by obtain ⟨c, fz, hc⟩ := (h.2 q hq).2; exact ⟨c, fz, (hb q hq).trans hc⟩⟩⟩
def OwnLr (w : World) (base : Nat) (v : Value) (l : List (List Int)) : Prop := ∃ xs : List (Value × List Int), xs.map (·.2) = l ∧ Owns 55 encV 1 w base v xs ∧ ∀ x, x ∈ xs → NewI w base x.1 x.2
theorem OwnLr.nil (w : World) (base : Nat) : OwnLr w base (.slice none 0 0) [] := ⟨[], rfl, Owns.nil w base, fun x hx => by simp at hx⟩
theorem OwnLr.same {w w' : World} {base : Nat} {v : Value} {l : List (List Int)} (h : OwnLr w base v l) (hz : w.heap.size ≤ w'.heap.size) (hb : ∀ q, base ≤ q → q < w.heap.size → w'.heap[q]? = w.heap[q]?) : OwnLr w' base v l := by
 obtain ⟨xs, h1, h2, h3⟩ := h
 have ho := World.ownsRow.lt h2
 exact ⟨xs, h1, owns_same h2 fun k hk => hb k (ho k hk).1 (ho k hk).2, fun x hx => (h3 x hx).same hz fun q hq => hb q ((h3 x hx).2 q hq).1 ((h3 x hx).lt q hq)⟩
theorem OwnLr.below {w w' : World} {base B : Nat} {v : Value} {l : List (List Int)} (h : OwnLr w base v l) (hB : w.heap.size ≤ B) (hb : Below B w w') : OwnLr w' base v l :=
 h.same hb.size fun q _ hq => hb.block q (by omega)
theorem ints_ne {w : World} {base n : Nat} {v : Value} {xs : List Value} (h : w.ownsRow base 55 1 v n xs) {q : Nat} {c fz} (hq : w.heap[q]? = some (.cells c 3 fz)) : v.ownBlock ≠ some q := by
 intro e
 rcases h.2 with ⟨hv, _⟩ | ⟨g, cap, cur, hv, hg, hc, r⟩
 ·rw [hv] at e; simp [Value.ownBlock] at e
 ·rw [hv] at e
  have e2 : g = q := by simpa [Value.ownBlock] using e
  subst e2
  rw [hc] at hq
  simp at hq
theorem OwnLr.push {w5 w6 : World} {base : Nat} {ov v6 : Value} {xs : List (Value × List Int)} {x : Value × List Int} {tmp : Obj} (h2 : Owns 55 encV 1 w5 base ov xs) (h3 : ∀ y, y ∈ xs → NewI w5 base y.1 y.2) (hx : NewI w5 base x.1 x.2)
  (hg : (w5.alloc tmp).grownBy w6 ov.ownBlock) (hown : w6.ownsRow base 55 1 v6 (xs.length + 1) (xs.flatMap encV ++ encV x)) : OwnLr w6 base v6 (xs.map (·.2) ++ [x.2]) := by
 have hz := hg.size
 simp only [World.size_alloc] at hz
 have mv : ∀ y : Value × List Int, NewI w5 base y.1 y.2 → NewI w6 base y.1 y.2 := fun y hy => hy.same (by omega) fun q hq => by
  obtain ⟨c, fz, hc⟩ := (hy.2 q hq).2
  have hlt := hy.lt q hq
  exact (hg.block q (by simp; omega) (ints_ne h2 hc).symm).trans (Below.heap_alloc _ _ _ hlt)
 refine ⟨xs ++ [x], by simp, Owns.app hown, fun y hy => ?_⟩
 rw [List.mem_append, List.mem_singleton] at hy
 rcases hy with hy | rfl
 ·exact mv y (h3 y hy)
 ·exact mv _ hx
def Fst (w : World) (base : Nat) (L : List (List Int)) (i : Nat) (v7 v8 v9 : Value) : Prop :=
 (i < L.length ∧ NewI w base v7 (L.getD i []) ∧ v8 = .int .i64 (frm (L.getD i [])).length ∧ v9 = .bool true) ∨ (i = L.length ∧ v7 = .slice none 0 0 ∧ v8 = .int .i64 0 ∧ v9 = .bool false)
def OkL (l : List Int) : Prop := l.length ≤ 1000 ∧ Sml l
def atL (L : List (List Int)) (i : Nat) : Nat := ((L.take i).flatMap frm).length
theorem getD_ltL {L : List (List Int)} {k : Nat} (h : k < L.length) : L.getD k [] = L[k] := by simp [List.getD_eq_getElem?_getD, List.getElem?_eq_getElem h]
theorem atL_succ {L : List (List Int)} {i : Nat} (h : i < L.length) : atL L (i + 1) = atL L i + (frm (L.getD i [])).length := by
 unfold atL
 rw [List.take_succ_eq_append_getElem h, List.flatMap_append, List.length_append, getD_ltL h]
 simp
theorem drop_atL (L : List (List Int)) (t : List Int) (i : Nat) : (L.flatMap frm ++ t).drop (atL L i) = (L.drop i).flatMap frm ++ t := by
 have : L.flatMap frm = (L.take i).flatMap frm ++ (L.drop i).flatMap frm := by rw [← List.flatMap_append, List.take_append_drop]
 rw [this, List.append_assoc]
 exact List.drop_left
theorem first_at (v : Value) (L : List (List Int)) (last : List Int) (k i : Nat) (V : World) (hi : i ≤ L.length) (h : BRow V v ((L.flatMap frm ++ (frm last).take k).drop (atL L i))) (hL : ∀ l, l ∈ L → OkL l) (hl : OkL last) (hk : k < (frm last).length) (hM : (L.flatMap frm ++ (frm last).take k).length ≤ 100000) :
  Calls Tryz.prog 57 #[v] V fun e w' => (∃ v7 v8 v9, e = .returned (.tuple #[v7, v8, v9]) ∧ Fst w' V.heap.size L i v7 v8 v9) ∧ Below V.heap.size V w' := by
 have hlen : ((L.flatMap frm ++ (frm last).take k).drop (atL L i)).length ≤ 100000 := by rw [List.length_drop]; omega
 rw [drop_atL] at h hlen
 by_cases hlt : i < L.length
 ·rw [List.drop_eq_getElem_cons hlt, List.flatMap_cons, List.append_assoc] at h hlen
  have ho := hL _ (List.getElem_mem hlt)
  refine (first_whole v L[i] _ V h ho.1 ho.2 hlen).mono ?_
  rintro e w' ⟨⟨ov, rfl, o⟩, b⟩
  exact ⟨⟨_, _, _, rfl, .inl ⟨hlt, by rw [getD_ltL hlt]; exact NewI.of_own o, by rw [getD_ltL hlt], rfl⟩⟩, b⟩
 ·obtain rfl : i = L.length := by omega
  rw [List.drop_length, List.flatMap_nil, List.nil_append] at h
  refine (first_cut v last k V h hl.1 hl.2 hk).mono ?_
  rintro e w' ⟨rfl, b⟩
  exact ⟨⟨_, _, _, rfl, .inr ⟨rfl, rfl, rfl, rfl⟩⟩, b⟩
theorem infoLs0 : (Tryz.prog.info? 55).map (fun i => (i.zero, i.size, i.bytes)) = some (some (.slice none 0 0), 1, 24) := by kernel_rfl
end Go.Proofs.YthkoaecafmhlcaaGreat
/- Package codec: Frames. -/
namespace Go.Proofs.YthkoaecafmhlcaaGreat
open Go.RowKit
theorem atL_le (L : List (List Int)) (t : List Int) (i : Nat) : atL L i ≤ (L.flatMap frm ++ t).length := by
  have : L.flatMap frm = (L.take i).flatMap frm ++ (L.drop i).flatMap frm := by rw [← List.flatMap_append, List.take_append_drop]
  rw [this, List.append_assoc, List.length_append]
  exact Nat.le_add_right _ _
theorem brow_from {w : World} {b off M cap A : Nat} {l : List Int} (h : BRow w (.slice (some ⟨b, off, none⟩) M cap) l) (hM : M = l.length) (hA : A ≤ M) : BRow w (.slice (some ⟨b, off + A, none⟩) (M - A) (cap - A)) (l.drop A) := by
  subst hM
  exact Rws.drop h A (off + A) hA (by rw [Nat.mul_one])
theorem atL_ge (L : List (List Int)) : ∀ i, i ≤ L.length → i ≤ atL L i
  | 0, _ => Nat.zero_le _
  | i + 1, h => by
    have h1 := atL_ge L i (by omega)
    have h2 := atL_succ (L := L) (i := i) (by omega)
    have h3 := frm_len (L.getD i [])
    omega
theorem Fst.mono {w : World} {b b2 : Nat} {L : List (List Int)} {i : Nat} {v7 v8 v9 : Value} (h : Fst w b L i v7 v8 v9) (hb : b2 ≤ b) : Fst w b2 L i v7 v8 v9 := by
  rcases h with ⟨h1, h2, h3, h4⟩ | h
  · exact .inl ⟨h1, h2.mono hb, h3, h4⟩
  · exact .inr h
set_option maxHeartbeats 2000000 in
set_option maxRecDepth 100000 in
set_option maxHeartbeats 400000 in
theorem Frames_any (v : Value) (L : List (List Int)) (last : List Int) (k : Nat) (w : World) (h : BRow w v (L.flatMap frm ++ (frm last).take k)) (hL : ∀ l, l ∈ L → OkL l) (hl : OkL last) (hk : k < (frm last).length) (hM : (L.flatMap frm ++ (frm last).take k).length ≤ 100000) :
    Calls Tryz.prog 23 #[v] w fun e w' => (∃ ov, e = .returned (.tuple #[ov, .int .i64 (atL L L.length), .int .i64 0]) ∧ OwnLr w' w.heap.size ov L) ∧ Below w.heap.size w w' := by
  obtain ⟨i0, hi0, hz0, hz1, hz2⟩ := info_parts infoLs0
  have HF := hide (fun (V : World) (vv : Value) (i : Nat) (hi : i ≤ L.length) (hV : BRow V vv _) => first_at vv L last k i V hi hV hL hl hk hM)
  have HR := hide (fun (V : World) (hV : Below w.heap.size w V) => h.below (Nat.le_refl _) hV)
  have h0 := HF.out w v 0 (Nat.zero_le _) h
  have HF0 := hide h0
  have HA := hide (atL_le L ((frm last).take k))
  generalize hbs : L.flatMap frm ++ (frm last).take k = bs at *
  clear hbs h0 h hk hl hL
  obtain ⟨a, cap, hv, hcap, hmax⟩ := (HR.out w (Below.refl _ _)).len
  obtain ⟨M, hMM⟩ : ∃ M, M = bs.length := ⟨_, rfl⟩
  rw [← hMM] at hM hv hcap HA
  subst hv
  have HMM := hide hMM
  have I3 : decide ((100000 : Int) < (M : Int)) = false := decide_eq_false (by omega)
  clear hMM
  go_enter Tryz.func23, Tryz.ntmps23
  go_wp2_with (go_at_call 57; (with_reducible refine HF0.out.mono ?_); rintro e w1 ⟨⟨v7, v8, v9, rfl, f1⟩, b1⟩)
  go_loopw [5, 6, 7, 8, 9] (fun s5 s6 s7 s8 s9 wx => ∃ i : Nat, i ≤ L.length ∧ s6 = .int .i64 (atL L i) ∧ Hid (OwnLr wx w.heap.size s5 (L.take i)) ∧ Hid (Fst wx w.heap.size L i s7 s8 s9) ∧ Below w.heap.size w wx) (fun _ s6 _ _ _ _ => M + 1 - (intOf s6).toNat)
  case atStart => exact ⟨0, Nat.zero_le _, rfl, hide (OwnLr.nil _ _), hide f1, b1⟩
  case round =>
    clear f1 b1
    obtain ⟨i, hi, rfl, HO, HT, hB⟩ := hrel
    rcases HT.out with ⟨hlt, hn7, rfl, rfl⟩ | ⟨rfl, rfl, rfl, rfl⟩
    · have hs1 := atL_succ hlt
      have hA1 := HA.out (i + 1)
      have hfl := frm_len (L.getD i [])
      obtain ⟨xs, hx1, hx2, hx3⟩ := HO.out
      obtain ⟨oa, oc, rfl⟩ := ownsRow_val hx2
      have hxl : xs.length = i := by rw [← List.length_map (f := (·.2)), hx1, List.length_take]; omega
      obtain ⟨X, hX⟩ : ∃ X, X = L.getD i [] := ⟨_, rfl⟩
      rw [← hX] at hn7 hs1 hfl ⊢
      obtain ⟨a7, c7, rfl, -, -, -⟩ := id hn7.1
      have hge := atL_ge L i hi
      obtain ⟨A0, hA0⟩ : ∃ A, A = atL L i := ⟨_, rfl⟩
      obtain ⟨A1, hA1e⟩ : ∃ A, A = atL L (i + 1) := ⟨_, rfl⟩
      obtain ⟨n0, hn0⟩ : ∃ n, n = (frm X).length := ⟨_, rfl⟩
      rw [← hA0] at hs1 hge ⊢
      rw [← hA1e] at hs1 hA1
      rw [← hn0] at hs1 hfl ⊢
      have HA1 := hide hA1e
      have hMl := HMM.out
      obtain ⟨b, off, cap', e, -, -, hlt0, -⟩ := (HR.out wr hB).at0 (by omega)
      simp only [Value.slice.injEq] at e
      obtain ⟨rfl, -, rfl⟩ := e
      have hT1 : L.take (i + 1) = xs.map (·.2) ++ [X] := by rw [hx1, hX, List.take_succ_eq_append_getElem hlt, getD_ltL hlt]
      have HT1 := hide hT1
      have HX2 := hide hx2
      have HX3 := hide hx3
      have HN7 := hide hn7
      have Hlow := hide (fun r (e : (Value.slice oa xs.length oc).ownBlock = some r) => (World.ownsRow.lt hx2 r e).1)
      have hsr : SrcRow (wr.alloc (.cells #[.slice a7 X.length c7] 55)) (.slice (some ⟨wr.heap.size, 0, none⟩) 1 1) 1 1 [.slice a7 X.length c7] :=
        ⟨_, _, rfl, rfl, (fun h => by cases h), fun ad h => by cases h; exact cells_new wr [.slice a7 X.length c7] _⟩
      have HSR := hide hsr
      have hzB := hB.size
      have ww : IntKind.i64.wrap ((A0 : Int) + (n0 : Int)) = (A1 : Int) := by rw [IntKind.wrap_i64]; omega
      have hxb : xs.length ≤ 100000 := by omega
      have hrw0 : ∀ V : World, Below w.heap.size w V → BRow V (.slice (some ⟨b, off + A1, none⟩) (M - A1) (cap - A1)) (bs.drop (atL L (i + 1))) := fun V hV => by
        rw [← HA1.out]; exact brow_from (HR.out V hV) hMl hA1
      have J1 : (0 : Int) ≤ (A1 : Int) := by omega
      have J2 : (A1 : Int) ≤ (M : Int) := by omega
      have J3 : (M : Int) ≤ (cap : Int) := by omega
      have hA01 : A0 < A1 := by omega
      clear hfl hs1 hx1 hx2 hx3 hn7 hT1 hsr hX hA0 hA1e hn0 hxl HO HT hMl
      by_cases hcA : cap = A1
      · obtain rfl : M = cap := by omega
        subst hcA
        have hrw : ∀ V : World, Below w.heap.size w V → BRow V (.slice (some ⟨b, off, none⟩) 0 0) (bs.drop (atL L (i + 1))) := fun V hV => by
          have h_ := (hrw0 V hV).len
          obtain ⟨a_, c_, e_, -, -⟩ := h_
          have : bs.drop (atL L (i + 1)) = [] := List.eq_nil_of_length_eq_zero (by simp only [Value.slice.injEq] at e_; omega)
          rw [this]
          exact rws_empty V _ 0 (by omega)
        clear hrw0
        have hF1 : ∀ V : World, Below w.heap.size w V → _ := fun V hV => HF.out V (.slice (some ⟨b, off, none⟩) 0 0) (i + 1) (by omega) (hrw V hV)
        have HFn := hide hF1
        clear hF1 hrw
        go_wp2_with (first
          | (at_builtin
             refine wpList_append_src _ rfl _ _ 79 rfl w.heap.size 55 i0 (.slice none 0 0) 1 24 Tryz.underlying79 hi0 hz0 hz1 hz2 rfl (by decide) _ xs.length (xs.flatMap encV) rfl (World.ownsRow.alloc HX2.out _) _ 1 [.slice a7 X.length c7] rfl HSR.out (by simp [Value.oneCell']) (by unfold maxLen; omega) (by omega) (by simp; omega) ?_
             intro v6 w6 hown6 hg6 _
             obtain ⟨a6, c6, rfl⟩ := ownsRow_val hown6
             have b6 : Below w.heap.size w w6 := Below.grown (hB.alloc hzB _) hg6 (by simp; omega) (fun r e => Hlow.out r e)
             have z6 := b6.size
             have HO6 := hide (OwnLr.push (x := (.slice a7 X.length c7, X)) HX2.out HX3.out HN7.out hg6 hown6)
             clear hown6 hg6)
          | (go_at_call 57
             (with_reducible refine (HFn.out _ b6).mono ?_)
             rintro e w8 ⟨⟨y7, y8, y9, rfl, f8⟩, b8⟩
             have HF8 := hide f8
             clear f8))
        go_roundw
        case rel => exact ⟨i + 1, by omega, by rw [← HA1.out], hide (by rw [HT1.out]; exact HO6.out.below (Nat.le_refl _) b8), hide (HF8.out.mono z6), b6.trans (b8.mono z6)⟩
        case measure => simp [intOf]; omega
      · have hrw := hrw0
        clear hrw0
        have hF1 : ∀ V : World, Below w.heap.size w V → _ := fun V hV => HF.out V (.slice (some ⟨b, off + A1, none⟩) (M - A1) (cap - A1)) (i + 1) (by omega) (hrw V hV)
        have HFn := hide hF1
        clear hF1 hrw
        go_wp2_with (first
          | (at_builtin
             refine wpList_append_src _ rfl _ _ 79 rfl w.heap.size 55 i0 (.slice none 0 0) 1 24 Tryz.underlying79 hi0 hz0 hz1 hz2 rfl (by decide) _ xs.length (xs.flatMap encV) rfl (World.ownsRow.alloc HX2.out _) _ 1 [.slice a7 X.length c7] rfl HSR.out (by simp [Value.oneCell']) (by unfold maxLen; omega) (by omega) (by simp; omega) ?_
             intro v6 w6 hown6 hg6 _
             obtain ⟨a6, c6, rfl⟩ := ownsRow_val hown6
             have b6 : Below w.heap.size w w6 := Below.grown (hB.alloc hzB _) hg6 (by simp; omega) (fun r e => Hlow.out r e)
             have z6 := b6.size
             have HO6 := hide (OwnLr.push (x := (.slice a7 X.length c7, X)) HX2.out HX3.out HN7.out hg6 hown6)
             clear hown6 hg6)
          | (go_at_call 57
             (with_reducible refine (HFn.out _ b6).mono ?_)
             rintro e w8 ⟨⟨y7, y8, y9, rfl, f8⟩, b8⟩
             have HF8 := hide f8
             clear f8))
        go_roundw
        case rel => exact ⟨i + 1, by omega, by rw [← HA1.out], hide (by rw [HT1.out]; exact HO6.out.below (Nat.le_refl _) b8), hide (HF8.out.mono z6), b6.trans (b8.mono z6)⟩
        case measure => simp [intOf]; omega
    · go_wp2_with fail
      refine bodyPost_ret (v := .tuple #[u5, .int .i64 (atL L L.length), .int .i64 0]) (by simp [results, Tryz.results23, go_sem]) rfl ⟨⟨u5, rfl, by have := HO.out; rwa [List.take_length] at this⟩, hB⟩
end Go.Proofs.YthkoaecafmhlcaaGreat
