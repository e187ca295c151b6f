/- Package watch: alarms. -/
import Derived.Test.YthklljlachljgaaWtB
import Derived.Laws.IdiomCopy
namespace Go.Proofs.Ythklljlachljgaa
open Go.RowKit
attribute [local go_sem ↓] run_max_mx run_min_mn run_eql_iv run_neq_iv run_eql_al run_neq_al
theorem ivEq_al (a b : Int) : ivEq a b 0 0 = !isAl (a, b) := by simp [isAl, ivEq]
set_option maxRecDepth 100000 in
set_option maxHeartbeats 400000 in
theorem alarm1_any (a b : Int) (w : World) : Calls Try.prog 42 #[.agg #[.int .i64 a, .int .i64 b]] w fun e w' => e = .returned (.bool (!isAl (a, b))) ∧ Below w.heap.size w w' := by
  go_enter Try.func42, Try.ntmps42
  go_wp2
  go_ret
  exact ⟨ret_bool (by first | exact ivEq_al a b | simp [isAl, ivEq]), (by ((repeat' (first | exact Below.refl _ _ | refine Below.alloc ?_ ?_ _ | refine Below.setCell ?_ ?_ _ | refine Below.drew ?_ | refine below_drewN ?_ _)) <;> (first | omega | (simp; done) | (simp; omega))))⟩
set_option maxRecDepth 100000 in
set_option maxHeartbeats 400000 in
theorem found_any (k : Int) (is : Bool) (w : World) : Calls Try.prog 24 #[.int .i64 k, .bool is] w fun e w' => e = .returned (.agg #[.int .i64 (if is = true then k else 0), .int .i64 0]) ∧ Below w.heap.size w w' := by
  cases is with
  | true =>
    go_enter Try.func24, Try.ntmps24
    go_wp2
    refine bodyPost_ret (v := .agg #[.int .i64 k, .int .i64 0]) (by simp [results, Try.results24, go_sem]) rfl ⟨rfl, ?_⟩
    ((repeat' (first | exact Below.refl _ _ | refine Below.alloc ?_ ?_ _ | refine Below.setCell ?_ ?_ _ | refine Below.drew ?_ | refine below_drewN ?_ _)) <;> (first | omega | (simp; done) | (simp; omega)))
  | false =>
    go_enter Try.func24, Try.ntmps24
    go_wp2
    refine bodyPost_ret (v := .agg #[.int .i64 0, .int .i64 0]) (by simp [results, Try.results24, go_sem]) rfl ⟨rfl, ?_⟩
    ((repeat' (first | exact Below.refl _ _ | refine Below.alloc ?_ ?_ _ | refine Below.setCell ?_ ?_ _ | refine Below.drew ?_ | refine below_drewN ?_ _)) <;> (first | omega | (simp; done) | (simp; omega)))
set_option maxRecDepth 100000 in
set_option maxHeartbeats 400000 in
theorem IndexA_any (v : Value) (l : List Iv) (w : World) (hv : IvRow w v l) :
    Calls Try.prog 47 #[v, .func (.func 42) #[] #[]] w fun e w' => (∃ r : Int, e = .returned (.int .i64 r) ∧ ((r = -1 ∧ l.filter isAl = l) ∨ ∃ k : Nat, r = k ∧ k < l.length ∧ (l.take k).filter isAl = l.take k ∧ isAl (iLo l k, iHi l k) = false)) ∧ Below w.heap.size w w' := by
  obtain ⟨a, cap, rfl, h1, h2, h3⟩ := hv
  go_enter Try.func47, Try.ntmps47
  go_wp2
  go_loopw [8] (fun i wr => ∃ k : Nat, k ≤ l.length ∧ i = .int .i64 k ∧ Hid ((l.take k).filter isAl = l.take k) ∧ Below w.heap.size w wr) (fun i _ => l.length - (intOf i).toNat)
  case atStart => exact ⟨0, Nat.zero_le _, rfl, hide rfl, Below.refl _ _⟩
  case round =>
    obtain ⟨k, hk, rfl, Hall, hB⟩ := hrel
    by_cases hlt : k < l.length
    · obtain ⟨b, off, rfl, h4, h5, h6⟩ := h3 k hlt
      have h5' := (hB.cell (p := ⟨b, off + k * 2, none⟩) h4).trans h5
      have h6' := (hB.cell (p := ⟨b, off + k * 2 + 1, none⟩) h4).trans h6
      clear h5 h6 h3
      have hz := hB.size
      cases hval : isAl (iLo l k, iHi l k) with
      | true =>
        have Hn := hide (show (l.take (k + 1)).filter isAl = l.take (k + 1) by rw [take_snoc_iv l k hlt, List.filter_append, Hall.out]; simp [hval])
        go_wp2_with (go_at_call 42; refine (alarm1_any _ _ _).mono ?_; rintro e w' ⟨rfl, hb⟩; rw [hval])
        go_roundw
        case rel => exact ⟨k + 1, by omega, by go_num, Hn, (by ((repeat' (first | exact Below.refl _ _ | exact hB | exact hb | refine Below.alloc ?_ ?_ _ | refine Below.setCell ?_ ?_ _ | refine Below.drew ?_ | refine below_drewN ?_ _ | refine Below.trans ?_ (hB.mono ?_) | refine Below.trans ?_ (hb.mono ?_))) <;> (first | omega | (simp; done) | (simp; omega))))⟩
        case measure => simp [intOf]; omega
      | false =>
        go_wp2_with (go_at_call 42; refine (alarm1_any _ _ _).mono ?_; rintro e w' ⟨rfl, hb⟩; rw [hval])
        go_ret
        exact ⟨⟨_, rfl, .inr ⟨k, rfl, hlt, Hall.out, hval⟩⟩, (by ((repeat' (first | exact Below.refl _ _ | exact hB | exact hb | refine Below.alloc ?_ ?_ _ | refine Below.setCell ?_ ?_ _ | refine Below.drew ?_ | refine below_drewN ?_ _ | refine Below.trans ?_ (hB.mono ?_) | refine Below.trans ?_ (hb.mono ?_))) <;> (first | omega | (simp; done) | (simp; omega))))⟩
    · obtain rfl : k = l.length := by omega
      go_wp2
      go_ret
      exact ⟨⟨_, rfl, .inl ⟨rfl, by have := Hall.out; rwa [List.take_length] at this⟩⟩, hB⟩
theorem encL_set (c : List Iv) (i : Nat) (p : Iv) (hi : i < c.length) : ((encL c).set (i * 2) (.int .i64 p.1)).set (i * 2 + 1) (.int .i64 p.2) = encL (c.set i p) := by
  induction c generalizing i with
  | nil => simp at hi
  | cons q c ih =>
    have e : encL (q :: c) = .int .i64 q.1 :: .int .i64 q.2 :: encL c := rfl
    cases i with
    | zero => rfl
    | succ i =>
      rw [e, show (i + 1) * 2 = i * 2 + 1 + 1 by omega]
      simp only [List.set_cons_succ]
      rw [ih i (by simpa using hi)]; rfl
theorem OwnP.set {T : TypeId} {w : World} {base g cap : Nat} {c : List Iv} (h : OwnP T w base (.slice (some ⟨g, 0, none⟩) c.length cap) c) (i : Nat) (hi : i < c.length) (p : Iv) :
    OwnP T ((w.setCell ⟨g, i * 2, none⟩ (.int .i64 p.1)).setCell ⟨g, i * 2 + 1, none⟩ (.int .i64 p.2)) base (.slice (some ⟨g, 0, none⟩) (c.set i p).length cap) (c.set i p) := by
  unfold OwnP
  rw [List.length_set, ← encL_set c i p hi]
  exact (World.ownsRow.stored (World.ownsRow.stored h (i * 2) (.int .i64 p.1)).1 (i * 2 + 1) (.int .i64 p.2)).1
theorem encL_take (c : List Iv) (i : Nat) : (encL c).take (i * 2) = encL (c.take i) := by
  induction c generalizing i with
  | nil => simp [encL]
  | cons q c ih =>
    have e : encL (q :: c) = .int .i64 q.1 :: .int .i64 q.2 :: encL c := rfl
    cases i with
    | zero => simp [encL]
    | succ i =>
      rw [e, show (i + 1) * 2 = i * 2 + 1 + 1 by omega, List.take_succ_cons, List.take_succ_cons, ih i]; rfl
theorem ownsRow_setCells {base e size n g cap : Nat} : ∀ (vs : List Value) (o : Nat) (w : World) (xs : List Value), w.ownsRow base e size (.slice (some ⟨g, 0, none⟩) n cap) n xs →
    ∃ ys, (w.setCells g o vs).ownsRow base e size (.slice (some ⟨g, 0, none⟩) n cap) n ys ∧ ys.take o = xs.take o
  | [], o, w, xs, h => ⟨xs, h, rfl⟩
  | v :: r, o, w, xs, h => by
    obtain ⟨ys, h1, h2⟩ := ownsRow_setCells r (o + 1) (w.setCell ⟨g, o, none⟩ v) (xs.set o v) (World.ownsRow.stored h o v).1
    refine ⟨ys, h1, ?_⟩
    have h3 := congrArg (List.take o) h2
    rw [List.take_take, List.take_take, Nat.min_eq_left (Nat.le_succ o)] at h3
    rw [h3, List.take_set_of_le (Nat.le_refl o)]
theorem ownsRow_cut {w : World} {base e size n g cap i : Nat} {xs : List Value} (h : w.ownsRow base e size (.slice (some ⟨g, 0, none⟩) n cap) n xs) (hi : i ≤ n) : w.ownsRow base e size (.slice (some ⟨g, 0, none⟩) i cap) i (xs.take (i * size)) := by
  refine ⟨?_, ?_⟩
  · have := h.1
    rw [List.length_take, this]
    exact Nat.min_eq_left (Nat.mul_le_mul_right size hi)
  · rcases h.2 with ⟨hv, h0⟩ | ⟨g', cap', cur, hv, hg, hc, hn, hm, hs, ht⟩
    · simp at hv
    · simp only [Value.slice.injEq, Option.some.injEq, Addr.mk.injEq, and_true] at hv
      obtain ⟨rfl, -, rfl⟩ := hv
      refine .inr ⟨g, cap, cur, rfl, hg, hc, Nat.le_trans hi hn, hm, hs, ?_⟩
      rw [← ht, List.take_take, Nat.min_eq_left (Nat.mul_le_mul_right size hi)]
theorem run_clear_two (w : World) (b o n c ty : Nat) (hn : 0 < n) (hc : ∀ j, j < n * 2 → (w.cell? ⟨b, o + j, none⟩).isSome = true) (hf : ∀ j, j < n * 2 → w.frozen? ⟨b, o + j, none⟩ = false) :
    (Builtin.clear_ #[27] ty #[.slice (some ⟨b, o, none⟩) n c]).run Try.prog w = .ok (.tuple #[]) (w.setCells b o (List.replicate (n * 2) (.int .i64 0))) := by
  have hv : (zeroValue 39).run Try.prog w = .ok (.agg #[.int .i64 0, .int .i64 0]) w := by kernel_rfl
  have hzc : (Builtin.zeroCells (Value.agg #[.int .i64 0, .int .i64 0]).cells n).toList = List.replicate (n * 2) (.int .i64 0) := by
    simp [Builtin.zeroCells, Value.cells]
    apply List.ext_getElem
    · simp
    · intro i h1 h2
      simp
      rcases Nat.mod_two_eq_zero_or_one i with h | h <;> simp [h]
  have hst := run_storeCells_cells (P := Try.prog) b o (List.replicate (n * 2) (.int .i64 0)) 0 w (by simpa using hc) (by simpa using hf) (by intro v hv'; rw [List.eq_of_mem_replicate hv']; rfl)
  simp only [Nat.add_zero] at hst
  obtain ⟨m, rfl⟩ : ∃ m, n = m + 1 := ⟨n - 1, by omega⟩
  simp [Builtin.clear_, run_underlying Try.underlying27, hv, hzc, hst]
theorem below_setCells {B g : Nat} (hg : B ≤ g) : ∀ (vs : List Value) (o : Nat) (a w : World), Below B a w → Below B a (w.setCells g o vs)
  | [], _, _, _, h => h
  | v :: r, o, a, _w, h => below_setCells hg r (o + 1) a _ (h.setCell (p := ⟨g, o, none⟩) hg v)
theorem at_drop {c d : List Iv} {j : Nat} (h : d.drop j = c.drop j) (_hl : d.length = c.length) (_hj : j < c.length) : iLo d j = iLo c j ∧ iHi d j = iHi c j := by
  have e : d[j]? = c[j]? := by
    have := congrArg (fun l => l[0]?) h
    simpa using this
  simp [iLo, iHi, List.getD_eq_getElem?_getD, e]
theorem drop_next {c d : List Iv} {j : Nat} (h : d.drop j = c.drop j) : d.drop (j + 1) = c.drop (j + 1) := by
  have := congrArg (List.drop 1) h
  rwa [List.drop_drop, List.drop_drop] at this
theorem keep_yes {c d : List Iv} {i j : Nat} (hl : d.length = c.length) (hij : i < j) (hj : j < c.length) (ht : d.take i = (c.take j).filter isAl) (hd : d.drop j = c.drop j) (hp : isAl (iLo c j, iHi c j) = true) :
    (d.set i (iLo c j, iHi c j)).take (i + 1) = (c.take (j + 1)).filter isAl ∧ (d.set i (iLo c j, iHi c j)).drop (j + 1) = c.drop (j + 1) := by
  constructor
  · rw [take_snoc_iv _ i (by simp; omega), List.take_set_of_le (Nat.le_refl i), ht, take_snoc_iv c j hj, List.filter_append]
    rw [show [(iLo c j, iHi c j)].filter isAl = [(iLo c j, iHi c j)] by simp [hp]]
    congr 2
    simp [iLo, iHi, List.getD_eq_getElem?_getD, show i < d.length by omega]
  · rw [List.drop_set_of_lt (by omega)]; exact drop_next hd
theorem keep_no {c d : List Iv} {i j : Nat} (hj : j < c.length) (ht : d.take i = (c.take j).filter isAl) (hd : d.drop j = c.drop j) (hp : isAl (iLo c j, iHi c j) = false) :
    d.take i = (c.take (j + 1)).filter isAl ∧ d.drop (j + 1) = c.drop (j + 1) := by
  refine ⟨?_, drop_next hd⟩
  rw [take_snoc_iv c j hj, List.filter_append, ← ht]; simp [hp]
theorem del_done {w : World} {base g cap i : Nat} {c d : List Iv} {T : TypeId} (vs : List Value) (h : OwnP T w base (.slice (some ⟨g, 0, none⟩) d.length cap) d) (hl : d.length = c.length) (hi : i ≤ c.length) (ht : d.take i = (c.take c.length).filter isAl) :
    OwnP T (w.setCells g (i * 2) vs) base (.slice (some ⟨g, 0, none⟩) i cap) (c.filter isAl) := by
  rw [List.take_length] at ht
  have hlen : (c.filter isAl).length = i := by rw [← ht, List.length_take]; omega
  obtain ⟨ys, h1, h2⟩ := ownsRow_setCells vs (i * 2) w (encL d) h
  have h3 := ownsRow_cut h1 (show i ≤ d.length by omega)
  rw [h2, encL_take, ht] at h3
  unfold OwnP
  rw [hlen]
  exact h3
abbrev OwnAl (w : World) (base : Nat) (v : Value) (c : List Iv) : Prop := OwnP 39 w base v c
set_option maxRecDepth 100000 in
set_option maxHeartbeats 1000000 in
theorem DeleteA_any (v : Value) (c : List Iv) (base : Nat) (w : World) (hv : OwnAl w base v c) (hb : base ≤ w.heap.size) (hc : c.length ≤ 1000) :
    Calls Try.prog 40 #[v, .func (.func 42) #[] #[]] w fun e w' => ∃ v', e = .returned v' ∧ OwnAl w' base v' (c.filter isAl) ∧ Below base w w' := by
  have hrow := hv.row
  obtain ⟨a, cap, rfl, g1, g2⟩ := hv.val
  go_enter Try.func40, Try.ntmps40
  go_wp2_with fail
  refine (IndexA_any _ c _ hrow).mono ?_
  rintro e w1 ⟨⟨r, rfl, hr⟩, b1⟩
  have hv1 := hv.below (Nat.le_refl _) b1
  have z1 := b1.size
  have B1 : Below base w w1 := b1.mono hb
  rcases hr with ⟨rfl, hf⟩ | ⟨k, rfl, hk, hf, hno⟩
  · have HF := hide hf
    clear hf hrow
    go_wp2_with fail
    go_ret
    exact ⟨_, rfl, by rw [HF.out]; exact hv1, B1⟩
  · obtain ⟨g, cap', hvv, hbg, hg⟩ := World.ownsRow.form hv1 (by omega)
    cases hvv
    have hne : ((k : Int) == -1) = false := by rw [beq_eq_false_iff_ne]; omega
    have H0 : Hid (c.take k = (c.take (k + 1)).filter isAl) := by
      show _ = _
      rw [take_snoc_iv c k hk, List.filter_append, hf]; simp [hno]
    clear hrow hf hno
    go_wp2_with fail
    clear hne
    go_loopw [5, 6] (fun s5 s6 wr => ∃ (i j : Nat) (d : List Iv), i < j ∧ j ≤ c.length ∧ s5 = .int .i64 i ∧ s6 = .int .i64 j ∧ Hid (d.length = c.length) ∧ OwnAl wr base (.slice (some ⟨g, 0, none⟩) d.length cap) d ∧ Hid (d.take i = (c.take j).filter isAl) ∧ Hid (d.drop j = c.drop j) ∧ Below base w wr) (fun _ s6 _ => c.length - (intOf s6).toNat)
    case atStart => exact ⟨k, k + 1, c, by omega, by omega, rfl, by go_num, hide rfl, hv1, H0, hide rfl, B1⟩
    case round =>
      obtain ⟨i, j, d, hij, hj, rfl, rfl, Hl, hown, Ht, Hd, hB⟩ := hrel
      have hz := hB.size
      have Hl' := Hl.out
      by_cases hlt : j < c.length
      · have hat := at_drop Hd.out Hl.out hlt
        have hr := hown.row
        obtain ⟨a', cap', hva, _, _, r3⟩ := hr
        cases hva
        obtain ⟨b', off', e, q4, q5, q6⟩ := r3 j (by omega)
        cases e
        rw [hat.1, Nat.zero_add] at q5
        rw [hat.2, Nat.zero_add] at q6
        have q7 := World.ownsRow.frozenAt hown (i * 2)
        have q8 := World.ownsRow.frozenAt hown (i * 2 + 1)
        obtain ⟨u0, k0⟩ : ∃ u, wr.cell? ⟨g, i * 2, none⟩ = some u := ⟨_, (World.ownsRow.cellAt hown (i * 2) (by omega)).trans (List.getElem?_eq_getElem (by rw [encL_length]; omega))⟩
        obtain ⟨u1, k1⟩ : ∃ u, wr.cell? ⟨g, i * 2 + 1, none⟩ = some u := ⟨_, (World.ownsRow.cellAt hown (i * 2 + 1) (by omega)).trans (List.getElem?_eq_getElem (by rw [encL_length]; omega))⟩
        have hgw := World.block_lt_of_cell? _ _ k0
        have hgw2 : g < wr.heap.size := hgw
        have hown0 := hown
        rw [Hl.out] at hown
        clear hat q7 q8 hgw Hl'
        have q7 := World.ownsRow.frozenAt hown0 (i * 2)
        have q8 := World.ownsRow.frozenAt hown0 (i * 2 + 1)
        have hjc : j < cap := by omega
        have hic : i < c.length := by omega
        clear hown
        cases hval : isAl (iLo c j, iHi c j) with
        | true =>
          have Hk := hide (keep_yes Hl.out hij hlt Ht.out Hd.out hval)
          go_wp2_with (go_at_call 42; refine (alarm1_any _ _ _).mono ?_; rintro e w2 ⟨rfl, hb⟩; rw [hval]; obtain ⟨cc, ff⟩ := bk hb g (by simp; omega); obtain ⟨cb, fb⟩ := bk hb wr.heap.size (by simp))
          go_roundw
          case rel =>
            have hB2 : Below wr.heap.size wr w2 := (by ((repeat' (first | exact Below.refl _ _ | exact hb | refine Below.alloc ?_ ?_ _ | refine Below.setCell ?_ ?_ _ | refine Below.drew ?_ | refine below_drewN ?_ _ | refine Below.trans ?_ (hb.mono ?_))) <;> (first | omega | (simp; done) | (simp; omega))))
            have ho2 := hown0.below (Nat.le_refl _) hB2
            refine ⟨i + 1, j + 1, _, by omega, by omega, by go_num, by go_num, hide (by rw [List.length_set]; exact Hl.out), OwnP.set ho2 i (by rw [Hl.out]; exact hic) (iLo c j, iHi c j), hide Hk.out.1, hide Hk.out.2, ?_⟩
            exact ((hB.trans (hB2.mono (by omega))).setCell (p := ⟨g, i * 2, none⟩) hbg _).setCell (p := ⟨g, i * 2 + 1, none⟩) hbg _
          case measure => simp [intOf]; omega
        | false =>
          have Hk := hide (keep_no hlt Ht.out Hd.out hval)
          go_wp2_with (go_at_call 42; refine (alarm1_any _ _ _).mono ?_; rintro e w2 ⟨rfl, hb⟩; rw [hval]; obtain ⟨cc, ff⟩ := bk hb g (by simp; omega); obtain ⟨cb, fb⟩ := bk hb wr.heap.size (by simp))
          go_roundw
          case rel =>
            have hB2 : Below wr.heap.size wr w2 := (by ((repeat' (first | exact Below.refl _ _ | exact hb | refine Below.alloc ?_ ?_ _ | refine Below.setCell ?_ ?_ _ | refine Below.drew ?_ | refine below_drewN ?_ _ | refine Below.trans ?_ (hb.mono ?_))) <;> (first | omega | (simp; done) | (simp; omega))))
            have ho2 := hown0.below (Nat.le_refl _) hB2
            exact ⟨i, j + 1, d, by omega, by omega, rfl, by go_num, Hl, ho2, hide Hk.out.1, hide Hk.out.2, hB.trans (hB2.mono (by omega))⟩
          case measure => simp [intOf]; omega
      · obtain rfl : j = c.length := by omega
        have hfin := fun vs => del_done vs hown Hl.out (by omega) Ht.out
        have Hfin := hide hfin
        have hcell : ∀ t, t < (c.length - i) * 2 → (wr.cell? ⟨g, i * 2 + t, none⟩).isSome = true := fun t ht => by
          rw [(World.ownsRow.cellAt hown (i * 2 + t) (by omega)).trans (List.getElem?_eq_getElem (by rw [encL_length]; omega))]; rfl
        have hclr := fun ty => run_clear_two wr g (i * 2) (c.length - i) (cap - i) ty (by omega) hcell (fun t _ => World.ownsRow.frozenAt hown _)
        have hic : i < c.length := by omega
        have hicap : i < cap := by omega
        rw [Hl.out] at hown
        clear hfin hcell Hl' hown
        go_wp2_with fail
        go_ret
        exact ⟨_, rfl, Hfin.out _, below_setCells hbg _ _ _ _ hB⟩
end Go.Proofs.Ythklljlachljgaa
