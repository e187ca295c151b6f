/- Package outlier: Sets, Sure. -/
import Derived.Test.YtodkmbjhdckjiaaDoorOuH
namespace Go.Proofs.YtodkmbjhdckjiaaDoor
open Go.RowKit Go.Shelf
theorem tab_pos {w : World} (h : TabAt 0 Lib.deBruijn32tab w) : 0 < w.heap.size := World.block_lt_of_cell? _ _ (h 0 (by decide))
theorem tab_below {B : Nat} {w w' : World} (h : TabAt 0 Lib.deBruijn32tab w) (hB : w.heap.size ≤ B) (hb : Below B w w') : TabAt 0 Lib.deBruijn32tab w' := fun j hj => (hb.cell (p := ⟨0, j, none⟩) (Nat.lt_of_lt_of_le (tab_pos h) hB)).trans (h j hj)
theorem bitsL_mem (s : Nat) (z : Int) : z ∈ bitsL s ↔ ∃ i : Nat, i < 32 ∧ z = i ∧ s.testBit i = true := bitsTo_mem s 32 z
theorem bitsTo_sorted (x : Nat) : ∀ k, (bitsTo x k).Pairwise (· < ·)
  | 0 => List.Pairwise.nil
  | k + 1 => by
    unfold bitsTo
    split
    · refine List.pairwise_append.2 ⟨bitsTo_sorted x k, List.pairwise_singleton _ _, fun z hz y hy => ?_⟩
      rw [List.mem_singleton] at hy
      obtain ⟨j, hj, h2, _⟩ := (bitsTo_mem x k z).1 hz
      omega
    · exact bitsTo_sorted x k
theorem bitsL_inj {s t : Nat} (hs : s < 65536) (ht : t < 65536) (h : bitsL s = bitsL t) : s = t := by
  apply Nat.eq_of_testBit_eq
  intro i
  by_cases hi : i < 32
  · have key : ∀ x y : Nat, bitsL x = bitsL y → x.testBit i = true → y.testBit i = true := fun x y e hx => by
      have h1 := (bitsL_mem x i).2 ⟨i, hi, rfl, hx⟩
      rw [e] at h1
      obtain ⟨j, _, e2, e3⟩ := (bitsL_mem y i).1 h1
      have : i = j := by omega
      rw [this]; exact e3
    cases h1 : s.testBit i with
    | true => rw [key s t h h1]
    | false =>
      cases h2 : t.testBit i with
      | false => rfl
      | true => rw [key t s h.symm h2] at h1; cases h1
  · have h2 : 65536 ≤ 2 ^ i := Nat.le_trans (by decide : 65536 ≤ 2 ^ 32) (Nat.pow_le_pow_right (by decide) (by omega))
    rw [Nat.testBit_lt_two_pow (by omega), Nat.testBit_lt_two_pow (by omega)]
theorem SmSpec.len {l : List Iv} {k : Nat} {S : List Nat} (h : SmSpec l k S) : S.length ≤ k := by
  have hs : S.Nodup := h.2.2.1
  obtain ⟨d, _, h2⟩ := h.2.2.2.2
  have := hs.length_le_of_subset (l₂ := (List.range k).map fun i => msk l (iLo l i)) (fun s hs => by
    obtain ⟨i, h3, h4, _⟩ := (h2 s).1 hs
    exact List.mem_map.2 ⟨i, List.mem_range.2 h3, h4.symm⟩)
  simpa using this
/-- What is sorted, of the lists of the smallest sets, is the lists of the specification. -/
theorem sets_done {l : List Iv} {S : List Nat} (hl : ouOk l = true) (h : SmSpec l l.length S) {ll : List (List Int)} (hp : ll.Perm (S.map bitsL)) (hs : ll.Pairwise (fun a b => ¬ LtI b a)) : ll = setsL l := by
  have hn := ((ouOk_iff l).1 hl).1
  have hd := h.done hl
  refine SetSpec.unique ⟨?_, fun z => ?_⟩ (setsL_spec hl)
  · have hnd : (S.map bitsL).Pairwise (· ≠ ·) := by
      rw [List.pairwise_map]
      exact List.Pairwise.imp_of_mem (fun {a b} ha hb hab e => hab (bitsL_inj (h.2.2.2.1 a ha) (h.2.2.2.1 b hb) e)) h.2.2.1
    have hnd2 : ll.Pairwise (· ≠ ·) := hp.symm.pairwise hnd (fun h => h.symm)
    refine List.Pairwise.imp (fun {a b} (hab : ¬ LtI b a ∧ a ≠ b) => ?_) (List.pairwise_and_iff.2 ⟨hs, hnd2⟩)
    unfold LtI at *
    have h1 := cmpI_neg b a
    have h2 : cmpI b a ≠ 0 := fun e => hab.2 (cmpI_eq e).symm
    omega
  · rw [hp.mem_iff, List.mem_map]
    constructor
    · rintro ⟨s, h1, rfl⟩
      obtain ⟨i, h2, h3, h4⟩ := (hd s).1 h1
      exact ⟨i, h2, by rw [h3, bits_msk _ hn.2], h4⟩
    · rintro ⟨i, h2, h3, h4⟩
      exact ⟨msk l (iLo l i), (hd _).2 ⟨i, h2, rfl, h4⟩, by rw [bits_msk _ hn.2, h3]⟩
def andTo (S : List Nat) : Nat → Nat
  | 0 => 4294967295
  | k + 1 => andTo S k &&& S.getD k 0
theorem andTo_lt (S : List Nat) : ∀ k, andTo S k < 4294967296
  | 0 => by simp [andTo]
  | k + 1 => Nat.lt_of_le_of_lt Nat.and_le_left (andTo_lt S k)
theorem andTo_bit (S : List Nat) (i : Nat) (hi : i < 32) : ∀ k, ((andTo S k).testBit i = true ↔ ∀ j, j < k → (S.getD j 0).testBit i = true)
  | 0 => by
    have : (4294967295 : Nat).testBit i = true := by
      rw [show (4294967295 : Nat) = 2 ^ 32 - 1 by decide, Nat.testBit_two_pow_sub_one]; simpa using hi
    simp [andTo, this]
  | k + 1 => by
    rw [andTo, Nat.testBit_and, Bool.and_eq_true, andTo_bit S i hi k]
    constructor
    · rintro ⟨h1, h2⟩ j hj
      rcases Nat.lt_or_ge j k with h | h
      · exact h1 j h
      · obtain rfl : j = k := by omega
        exact h2
    · intro h; exact ⟨fun j hj => h j (by omega), h k (by omega)⟩
theorem sure_done {l : List Iv} {S : List Nat} (hl : ouOk l = true) (h : SmSpec l l.length S) : bitsL (andTo S S.length) = sureL l ∧ andTo S S.length < 65536 := by
  have hn := ((ouOk_iff l).1 hl).1
  have hd := h.done hl
  have hp := h.pos.2 (by omega)
  refine ⟨?_, ?_⟩
  · unfold sureL; rw [if_pos hl]
    refine rise_unique (bitsTo_sorted _ _) (suTo_sorted _ _) fun z => ?_
    rw [bitsL_mem, suTo_mem]
    constructor
    · rintro ⟨i, h1, rfl, h2⟩
      rw [andTo_bit _ _ h1] at h2
      have hz : ∀ y ∈ setsL l, (i : Int) ∈ y := fun y hy => by
        obtain ⟨k, h3, rfl, h4⟩ := ((setsL_spec hl).2 y).1 hy
        have h5 := (hd _).2 ⟨k, h3, rfl, h4⟩
        obtain ⟨j, hj, he⟩ := List.getElem_of_mem h5
        have h6 := h2 j hj
        rw [List.getD_eq_getElem?_getD, List.getElem?_eq_getElem hj, Option.getD_some, he] at h6
        rw [← bits_msk _ hn.2, bitsL_mem]
        exact ⟨i, h1, rfl, h6⟩
      obtain ⟨y, hy⟩ := List.exists_mem_of_length_pos (setsL_pos hl)
      obtain ⟨k, h3, rfl, h4⟩ := ((setsL_spec hl).2 y).1 hy
      obtain ⟨q, h5, h6, _⟩ := (woL_mem _ _ _).1 (hz _ hy)
      exact ⟨i, by omega, rfl, hz⟩
    · rintro ⟨i, h1, rfl, h2⟩
      refine ⟨i, by omega, rfl, (andTo_bit _ _ (by omega) _).2 fun j hj => ?_⟩
      obtain ⟨k, h3, h4, h5⟩ := (hd _).1 (getD_mem hj)
      have h6 := h2 _ (((setsL_spec hl).2 _).2 ⟨k, h3, rfl, h5⟩)
      rw [← bits_msk _ hn.2, bitsL_mem] at h6
      obtain ⟨q, _, e2, e3⟩ := h6
      have : i = q := by omega
      rw [h4, this]; exact e3
  · obtain ⟨k, hk⟩ : ∃ k, S.length = k + 1 := ⟨S.length - 1, by omega⟩
    rw [hk, andTo]
    exact Nat.lt_of_le_of_lt Nat.and_le_right (h.2.2.2.1 _ (getD_mem (by omega)))
theorem setsL_no {l : List Iv} (h : ouOk l = false) : setsL l = [] := by simp [setsL, h]
theorem sureL_no {l : List Iv} (h : ouOk l = false) : sureL l = [] := by simp [sureL, h]
set_option maxRecDepth 100000 in
set_option maxHeartbeats 1000000 in
theorem Sets_any (v : Value) (l : List Iv) (w : World) (hv : IvRow w v l) (hT : TabAt 0 Lib.deBruijn32tab w) :
    Calls Tryd.prog 12 #[v] w fun e w' => ∃ sv, e = .returned (.tuple #[sv, .int .i64 (ouEr l)]) ∧ RrRow w' sv (setsL l) ∧ Below w.heap.size w w' := by
  obtain ⟨i0, hi, hz0, hz1, hz2⟩ := info_parts infoRr
  cases hok : ouOk l with
  | true =>
    have hpos := ((ouOk_iff l).1 hok).1
    have he : ouEr l = 0 := by simp [ouEr, hok]; omega
    have Hok := hide hok
    clear hok
    go_enter Tryd.func12, Tryd.ntmps12
    go_wp2_with (go_at_call 25; refine (Ocheck_any _ l _ hv).mono ?_; rintro e w1 ⟨rfl, b1⟩; rw [he])
    refine (smallest_any _ l _ (hv.below (Nat.le_refl _) b1) Hok.out).mono ?_
    rintro e w2 ⟨sv, S, rfl, ho, hS, b2⟩
    have z1 := b1.size
    have z2 := b2.size
    have hSn := hS.len
    have hSp := hS.pos.2 (by omega)
    have B2 : Below w.heap.size w w2 := (by ((repeat' (first | exact Below.refl _ _ | exact b1 | exact b2 | refine Below.alloc ?_ ?_ _ | refine Below.setCell ?_ ?_ _ | refine Below.drew ?_ | refine below_drewN ?_ _ | refine Below.trans ?_ (b1.mono ?_) | refine Below.trans ?_ (b2.mono ?_))) <;> (first | omega | (simp; done) | (simp; omega))))
    obtain ⟨g, cap, rfl, g1, g2, g3, g4, g5⟩ := ho.form hSp
    have Hlt := hide hS.2.2.2.1
    have HS := hide hS
    clear hS
    go_wp2_with fail
    go_loopw [5, 16] (fun out i wr => ∃ k : Nat, k ≤ S.length ∧ i = .int .i64 k ∧ OwnRr wr w2.heap.size out ((S.take k).map bitsL) ∧ Below w2.heap.size w2 wr) (fun _ i _ => S.length - (intOf i).toNat)
    case atStart => exact ⟨0, Nat.zero_le _, rfl, OwnRr.nil _ _, Below.refl _ _⟩
    case round =>
      obtain ⟨k, hk, rfl, hown, hB⟩ := hrel
      by_cases hlt : k < S.length
      · have h6 := (hB.cell (p := ⟨g, k, none⟩) g2).trans (g5 k hlt)
        have hs := Hlt.out _ (getD_mem hlt)
        have hz := hB.size
        have Hn := hide (show (S.take (k + 1)).map bitsL = (S.take k).map bitsL ++ [bitsL (S.getD k 0)] by
          rw [List.take_succ_eq_append_getElem hlt, List.map_append, List.getD_eq_getElem?_getD, List.getElem?_eq_getElem hlt]; rfl)
        generalize S.getD k 0 = s at *
        obtain ⟨oa, ocap, rfl, hc1, hc2⟩ := hown.val
        have hlk : ((S.take k).map bitsL).length = k := by simp; omega
        have hT2 : TabAt 0 Lib.deBruijn32tab wr := tab_below hT (Nat.le_refl _) (by ((repeat' (first | exact Below.refl _ _ | exact B2 | exact hB | refine Below.alloc ?_ ?_ _ | refine Below.setCell ?_ ?_ _ | refine Below.drew ?_ | refine below_drewN ?_ _ | refine Below.trans ?_ (B2.mono ?_) | refine Below.trans ?_ (hB.mono ?_))) <;> (first | omega | (simp; done) | (simp; omega))))
        rw [hlk] at hown hc1 ⊢
        have Hrow := hide hown
        clear g5 hown
        go_wp2_with fail
        refine (list_any s hs _ (tab_pos hT2) hT2).mono ?_
        rintro e w3 ⟨lv, rfl, hlv, b3⟩
        obtain ⟨us, hul, hous, hur⟩ := OwnRr.below Hrow.out (Nat.le_refl _) b3
        rw [hlk] at hul hous hur
        have hlow := World.ownsRow.lt hous
        have hlow0 : ∀ r, (Value.slice oa k ocap).ownBlock = some r → r < wr.heap.size := fun r hr => by
          obtain ⟨us', _, ho', _⟩ := Hrow.out
          rw [hlk] at ho'
          exact (World.ownsRow.lt ho' r hr).2
        have hlvr := hlv.row
        have hlvb := World.ownsRow.lt hlv
        have z3 := b3.size
        obtain ⟨la, lcap, rfl, _, _⟩ := hlv.val
        have Hul := hide hul
        have Hur := hide hur
        clear hul hur hlk
        go_wp2_with (at_builtin; refine wpList_append_new rfl _ _ 27 rfl w2.heap.size 31 i0 (.slice none 0 0) 1 24 Tryd.underlying27 hi hz0 hz1 hz2 rfl (by decide) _ k us rfl (World.ownsRow.alloc hous _) ⟨w3.heap.size, 0, none⟩ 1 1 [.slice la (bitsL s).length lcap] rfl rfl (cells_new w3 [.slice la (bitsL s).length lcap] _) (by simp [Value.oneCell']) (by unfold maxLen; omega) (by omega) (by simp; omega) ?_; intro v4 w4 hown4 hg4 hn4)
        go_roundw
        case rel =>
          have bA : Below w3.heap.size w3 (w3.alloc (.cells #[.slice la (bitsL s).length lcap] 31)) := (by ((repeat' (first | exact Below.refl _ _ | refine Below.alloc ?_ ?_ _ | refine Below.setCell ?_ ?_ _ | refine Below.drew ?_ | refine below_drewN ?_ _)) <;> (first | omega | (simp; done) | (simp; omega))))
          have hlk2 : ((S.take k).map bitsL).length = k := by simp; omega
          refine ⟨k + 1, by omega, by go_num, ?_, ?_⟩
          · rw [Hn.out]
            refine OwnRr.app (W := w3.alloc (.cells #[.slice la (bitsL s).length lcap] 31)) (us := us) (by rw [hlk2]; exact Hul.out) (by rw [hlk2]; exact hown4) hg4 hn4 (fun i hi => ?_) (hlvr.below (Nat.le_refl _) bA) (fun _ r hr e => ?_)
            · rw [hlk2] at hi
              exact ⟨(Hur.out i hi).1.below (Nat.le_refl _) bA, (Hur.out i hi).2⟩
            · have h1 := hlow0 r e
              have h2 := (hlvb r hr).1
              omega
          · exact (((hB.trans (b3.mono hz)).alloc (by omega) _).grown hg4 (by simp; omega) (fun r h => (hlow r h).1))
        case measure => simp [intOf]; omega
      · obtain rfl : k = S.length := by omega
        rw [List.take_length] at hown
        have hz := hB.size
        clear g5
        go_wp2_with fail
        refine (SortR_any _ _ w2.heap.size _ hown hz (by simp; omega)).mono ?_
        rintro e w5 ⟨rfl, ⟨ll, hp, hs, hrr⟩, b5⟩
        have hfin := sets_done Hok.out HS.out hp hs
        subst hfin
        go_wp2_with fail
        first | go_ret2 | go_ret3
        refine ⟨_, by rw [he]; rfl, hrr, (by ((repeat' (first | exact Below.refl _ _ | exact B2 | exact hB | exact b5 | refine Below.alloc ?_ ?_ _ | refine Below.setCell ?_ ?_ _ | refine Below.drew ?_ | refine below_drewN ?_ _ | refine Below.trans ?_ (B2.mono ?_) | refine Below.trans ?_ (hB.mono ?_) | refine Below.trans ?_ (b5.mono ?_))) <;> (first | omega | (simp; done) | (simp; omega))))⟩
  | false =>
    have hne : ouEr l ≠ 0 := by unfold ouEr; split <;> simp [hok]
    have hne' : (ouEr l != 0) = true := by simpa using hne
    have Hok := hide hok
    clear hne hok
    go_enter Tryd.func12, Tryd.ntmps12
    go_wp2_with (go_at_call 25; refine (Ocheck_any _ l _ hv).mono ?_; rintro e w1 ⟨rfl, b1⟩)
    refine bodyPost_ret (v := .tuple #[.slice none 0 0, .int .i64 (ouEr l)]) (by simp [results, Tryd.results12, go_sem]) rfl ⟨_, rfl, by rw [setsL_no Hok.out]; exact RrRow.nil _, ?_⟩
    ((repeat' (first | exact Below.refl _ _ | exact b1 | refine Below.alloc ?_ ?_ _ | refine Below.setCell ?_ ?_ _ | refine Below.drew ?_ | refine below_drewN ?_ _ | refine Below.trans ?_ (b1.mono ?_))) <;> (first | omega | (simp; done) | (simp; omega)))
set_option maxRecDepth 100000 in
set_option maxHeartbeats 1000000 in
theorem Sure_any (v : Value) (l : List Iv) (w : World) (hv : IvRow w v l) (hT : TabAt 0 Lib.deBruijn32tab w) :
    Calls Tryd.prog 15 #[v] w fun e w' => ∃ sv, e = .returned (.tuple #[sv, .int .i64 (ouEr l)]) ∧ IsRow w' sv (sureL l) ∧ Below w.heap.size w w' := by
  cases hok : ouOk l with
  | true =>
    have hpos := ((ouOk_iff l).1 hok).1
    have he : ouEr l = 0 := by simp [ouEr, hok]; omega
    have Hok := hide hok
    clear hok
    go_enter Tryd.func15, Tryd.ntmps15
    go_wp2_with (go_at_call 25; refine (Ocheck_any _ l _ hv).mono ?_; rintro e w1 ⟨rfl, b1⟩; rw [he])
    refine (smallest_any _ l _ (hv.below (Nat.le_refl _) b1) Hok.out).mono ?_
    rintro e w2 ⟨sv, S, rfl, ho, hS, b2⟩
    have z1 := b1.size
    have z2 := b2.size
    have hSn := hS.len
    have hSp := hS.pos.2 (by omega)
    have B2 : Below w.heap.size w w2 := (by ((repeat' (first | exact Below.refl _ _ | exact b1 | exact b2 | refine Below.alloc ?_ ?_ _ | refine Below.setCell ?_ ?_ _ | refine Below.drew ?_ | refine below_drewN ?_ _ | refine Below.trans ?_ (b1.mono ?_) | refine Below.trans ?_ (b2.mono ?_))) <;> (first | omega | (simp; done) | (simp; omega))))
    obtain ⟨g, cap, rfl, g1, g2, g3, g4, g5⟩ := ho.form hSp
    have Hlt := hide hS.2.2.2.1
    obtain ⟨f1, f2⟩ := sure_done Hok.out hS
    have F1 := hide f1
    clear hS f1
    go_wp2_with fail
    go_loop [5, 16] (fun s i => ∃ k : Nat, k ≤ S.length ∧ i = .int .i64 k ∧ s = .int .u32 (andTo S k : Nat)) (fun _ i => S.length - (intOf i).toNat)
    case atStart => exact ⟨0, Nat.zero_le _, rfl, rfl⟩
    case round =>
      obtain ⟨k, hk, rfl, rfl⟩ := hrel
      by_cases hlt : k < S.length
      · have h6 := g5 k hlt
        have hs := Hlt.out _ (getD_mem hlt)
        have ha := andTo_lt S k
        have Hn := hide (show andTo S (k + 1) = andTo S k &&& S.getD k 0 from rfl)
        have hand := bits_and_u32_nat (andTo S k) (S.getD k 0) ha (by omega)
        rw [← show andTo S (k + 1) = andTo S k &&& S.getD k 0 from rfl] at hand
        obtain ⟨y, hy⟩ : ∃ y, y = andTo S (k + 1) := ⟨_, rfl⟩
        rw [← hy] at hand
        have Hy := hide hy
        generalize S.getD k 0 = s at *
        generalize andTo S k = q at *
        clear g5 hy f2
        go_wp2_with fail
        go_round
        case rel => exact ⟨k + 1, by omega, by go_num, by rw [← Hy.out]⟩
        case measure => simp [intOf]; omega
      · obtain rfl : k = S.length := by omega
        have hT2 : TabAt 0 Lib.deBruijn32tab w2 := tab_below hT (Nat.le_refl _) B2
        clear g5
        generalize andTo S S.length = q at *
        go_wp2_with fail
        refine (list_any q f2 _ (tab_pos hT2) hT2).mono ?_
        rintro e w3 ⟨lv, rfl, hlv, b3⟩
        have hr := hlv.row
        rw [F1.out] at hr
        go_wp2_with fail
        first | go_ret2 | go_ret3
        exact ⟨_, by rw [he]; rfl, hr, (by ((repeat' (first | exact Below.refl _ _ | exact B2 | exact b3 | refine Below.alloc ?_ ?_ _ | refine Below.setCell ?_ ?_ _ | refine Below.drew ?_ | refine below_drewN ?_ _ | refine Below.trans ?_ (B2.mono ?_) | refine Below.trans ?_ (b3.mono ?_))) <;> (first | omega | (simp; done) | (simp; omega))))⟩
  | false =>
    have hne : ouEr l ≠ 0 := by unfold ouEr; split <;> simp [hok]
    have hne' : (ouEr l != 0) = true := by simpa using hne
    have Hok := hide hok
    clear hne hok
    go_enter Tryd.func15, Tryd.ntmps15
    go_wp2_with (go_at_call 25; refine (Ocheck_any _ l _ hv).mono ?_; rintro e w1 ⟨rfl, b1⟩)
    refine bodyPost_ret (v := .tuple #[.slice none 0 0, .int .i64 (ouEr l)]) (by simp [results, Tryd.results15, go_sem]) rfl ⟨_, rfl, by rw [sureL_no Hok.out]; exact IsRow.nil _, ?_⟩
    ((repeat' (first | exact Below.refl _ _ | exact b1 | refine Below.alloc ?_ ?_ _ | refine Below.setCell ?_ ?_ _ | refine Below.drew ?_ | refine below_drewN ?_ _ | refine Below.trans ?_ (b1.mono ?_))) <;> (first | omega | (simp; done) | (simp; omega)))
end Go.Proofs.YtodkmbjhdckjiaaDoor
