/- CombineMore: for every list and numbers the statement answers true and leaves its arguments as they were. No condition. -/
import Derived.Test.YtbocjiepobccpaaCbL
import Derived.Test.YtbocjiepobccpaaCbQ
import Derived.Test.YtbocjiepobccpaaFr
import Derived.IntWalk
namespace Go.Proofs.Ytbocjiepobccpaa
open Go.RowKit
attribute [local go_sem ↓] run_max_mx run_min_mn run_eql_iv run_neq_iv
theorem dep_rev (l : List Iv) (t : Int) : dep l.reverse t l.reverse.length = dep l t l.length := by rw [dep_count, dep_count, List.countP_reverse]
theorem listB_rev (l : List Iv) : listB l.reverse = listB l := by rw [Bool.eq_iff_iff, listB_iff2, listB_iff2]; simp
theorem take_rev (l : List Iv) (k : Nat) (hk : k < l.length) : l.reverse.take (k + 1) = l.reverse.take k ++ [(iLo l (l.length - 1 - k), iHi l (l.length - 1 - k))] := by
  have h1 : k < l.reverse.length := by simpa using hk
  rw [List.take_succ_eq_append_getElem h1, List.getElem_reverse, lo_at l _ (by omega), hi_at l _ (by omega)]
theorem setOk_rev (l : List Iv) (f : Int) : setOk l.reverse f = setOk l f := by unfold setOk; rw [listB_rev, List.length_reverse]
theorem setL_rev (l : List Iv) (f : Int) : setL l.reverse f = setL l f := by
  cases h : setOk l f with
  | false => rw [setL_no h, setL_no (by rw [setOk_rev]; exact h)]
  | true =>
    have h1 := setL_spec h
    have h2 := setL_spec (l := l.reverse) (f := f) (by rw [setOk_rev]; exact h)
    refine Sep.unique _ _ h2.1 h1.1 fun t => ?_
    rw [h2.2 t, h1.2 t, dep_rev, List.length_reverse]
theorem cb_rev (l : List Iv) (f : Int) : cbLo l.reverse f = cbLo l f ∧ cbHi l.reverse f = cbHi l f ∧ cbEr l.reverse f = cbEr l f := by
  unfold cbLo cbHi cbEr setEr
  rw [setL_rev, setOk_rev, listB_rev, List.length_reverse]
  exact ⟨rfl, rfl, rfl⟩
theorem sorted_unique : ∀ (a b : List Int), a.Pairwise (· < ·) → b.Pairwise (· < ·) → (∀ x, x ∈ a ↔ x ∈ b) → a = b
  | [], [], _, _, _ => rfl
  | [], y :: b, _, _, h => absurd ((h y).2 List.mem_cons_self) (by simp)
  | x :: a, [], _, _, h => absurd ((h x).1 List.mem_cons_self) (by simp)
  | x :: a, y :: b, ha, hb, h => by
    have ha' := List.pairwise_cons.1 ha
    have hb' := List.pairwise_cons.1 hb
    have e : x = y := by
      rcases List.mem_cons.1 ((h x).1 List.mem_cons_self) with e | hx
      · exact e
      · rcases List.mem_cons.1 ((h y).2 List.mem_cons_self) with e | hy
        · exact e.symm
        · have := ha'.1 y hy; have := hb'.1 x hx; omega
    subst e
    rw [sorted_unique a b ha'.2 hb'.2 fun z => ?_]
    constructor
    · intro hz
      rcases List.mem_cons.1 ((h z).1 (List.mem_cons_of_mem _ hz)) with e | hz'
      · have := ha'.1 z hz; omega
      · exact hz'
    · intro hz
      rcases List.mem_cons.1 ((h z).2 (List.mem_cons_of_mem _ hz)) with e | hz'
      · have := hb'.1 z hz; omega
      · exact hz'
theorem iv_rev (l : List Iv) (k : Nat) (hk : k < l.length) : iLo l.reverse k = iLo l (l.length - 1 - k) ∧ iHi l.reverse k = iHi l (l.length - 1 - k) := by
  rw [lo_at l.reverse k (by simpa using hk), hi_at l.reverse k (by simpa using hk), lo_at l _ (by omega), hi_at l _ (by omega), List.getElem_reverse]
  exact ⟨rfl, rfl⟩
theorem outTo_rev (l c : List Iv) : outTo l c l.length = ((outTo l.reverse c l.length).map fun x => (l.length : Int) - 1 - x).reverse := by
  refine sorted_unique _ _ (outTo_sorted l c _) ?_ fun x => ?_
  · rw [List.pairwise_reverse, List.pairwise_map]
    exact (outTo_sorted l.reverse c _).imp fun h => by omega
  · rw [List.mem_reverse, List.mem_map]
    constructor
    · intro h
      obtain ⟨j, h1, h2, h3⟩ := (outTo_mem l c _ x).1 h
      refine ⟨(l.length : Int) - 1 - x, (outTo_mem _ _ _ _).2 ⟨l.length - 1 - j, by omega, by omega, ?_⟩, by omega⟩
      rw [(iv_rev l _ (by omega)).1, (iv_rev l _ (by omega)).2, show l.length - 1 - (l.length - 1 - j) = j by omega]
      exact h3
    · rintro ⟨y, h, rfl⟩
      obtain ⟨j, h1, h2, h3⟩ := (outTo_mem _ c _ y).1 h
      rw [(iv_rev l _ h1).1, (iv_rev l _ h1).2] at h3
      exact (outTo_mem _ _ _ _).2 ⟨l.length - 1 - j, by omega, by omega, h3⟩
theorem outL_rev (l : List Iv) (f : Int) : (outL l.reverse f).length = (outL l f).length ∧ ∀ k, k < (outL l f).length → iAt (outL l f) k + iAt (outL l.reverse f) ((outL l f).length - 1 - k) = l.length - 1 := by
  have e : outL l f = ((outL l.reverse f).map fun x => (l.length : Int) - 1 - x).reverse := by
    unfold outL
    rw [setL_rev]
    split
    · rfl
    · rw [outTo_rev, List.length_reverse]
  have el : (outL l f).length = (outL l.reverse f).length := by rw [e]; simp
  refine ⟨el.symm, fun k hk => ?_⟩
  have hk2 : (outL l f).length - 1 - k < (outL l.reverse f).length := by omega
  rw [iAt_lt _ _ hk, iAt_lt _ _ hk2]
  have h3 : (outL l f)[k]'hk = (l.length : Int) - 1 - (outL l.reverse f)[(outL l f).length - 1 - k]'hk2 := by
    have h4 : (outL l f)[k]? = (((outL l.reverse f).map fun x => (l.length : Int) - 1 - x).reverse)[k]? := by rw [← e]
    rw [List.getElem?_eq_getElem hk, List.getElem?_reverse (by simp; omega), List.length_map, List.getElem?_map, ← el, List.getElem?_eq_getElem hk2] at h4
    simpa using h4
  rw [h3]; omega
theorem outL_bd {l : List Iv} {f : Int} {k : Nat} (hk : k < (outL l f).length) : 0 ≤ iAt (outL l f) k ∧ iAt (outL l f) k < l.length := by
  have hm := iAt_mem hk
  generalize iAt (outL l f) k = x at *
  unfold outL at hm
  split at hm
  · cases hm
  · obtain ⟨j, h1, h2, _⟩ := (outTo_mem _ _ _ _).1 hm
    omega
theorem cb_more {l : List Iv} {n m : Int} (hl : listB l = true) (h0 : 0 ≤ n) (hnm : n ≤ m) (hm : m < l.length) (he : cbEr l n = 0) : cbEr l m = 0 ∧ cbLo l m ≤ cbLo l n ∧ cbHi l n ≤ cbHi l m := by
  have ok1 : setOk l n = true := (setOk_iff l n).2 ⟨hl, h0, by omega⟩
  have ok2 : setOk l m = true := (setOk_iff l m).2 ⟨hl, by omega, hm⟩
  have hp := (cbEr_zero he).2
  have he := (setL_spec ok1).1.ends_mem hp
  have k1 := (mem_setL ok2 _).2 (Int.le_trans ((mem_setL ok1 _).1 he.1) hnm)
  have k2 := (mem_setL ok2 _).2 (Int.le_trans ((mem_setL ok1 _).1 he.2) hnm)
  exact ⟨cbEr_mem k1, (cb_has k1).1, (cb_has k2).2⟩
theorem cell_two_new' (w : World) (x y : Value) (t : TypeId) : ∀ j u, [x, y][j]? = some u → (w.alloc (.cells #[x, y] t)).cell? ((⟨w.heap.size, 0, none⟩ : Addr).add j) = some u := cells_new w [x, y] t
set_option maxRecDepth 100000 in
set_option maxHeartbeats 2000000 in
theorem CbMore_any (w : World) (v : Value) (l : List Iv) (hv : IvRow w v l) (f : Int) (hf : 0 ≤ f ∧ f ≤ 255) (mo : Int) (hmo : 0 ≤ mo ∧ mo ≤ 255) :
    Calls Try.prog 8 #[v, .int .u8 f, .int .u8 mo] w fun e w' => e = .returned (.bool true) ∧ Below w.heap.size w w' := by
  have hv' := hv
  obtain ⟨a, cap, rfl, h1, h2, h3⟩ := hv
  by_cases hl : listB l = true
  case neg =>
    have hl' : listB l = false := by simpa using hl
    clear h3
    go_enter Try.func8, Try.ntmps8
    go_wp2_with fail
    refine (head_any _).mono ?_
    rintro e w1 ⟨rfl, b1⟩
    go_wp2_with fail
    refine (RList_any _ l _ (hv'.below (Nat.le_refl _) b1)).mono ?_
    rintro e w2 ⟨rfl, b2⟩
    rw [hl']
    go_wp2_with fail
    go_ret
    have := b1.size
    exact ⟨rfl, (by ((repeat' (first | exact Below.refl _ _ | exact b1 | exact b2 | refine Below.alloc ?_ ?_ _ | refine Below.setCell ?_ ?_ _ | refine Below.drew ?_ | refine below_drewN ?_ _ | refine Below.trans ?_ (b1.mono ?_) | refine Below.trans ?_ (b2.mono ?_))) <;> (first | omega | (simp; done) | (simp; omega))))⟩
  by_cases hfl : f + mo < l.length
  case neg =>
    clear h3
    go_enter Try.func8, Try.ntmps8
    go_wp2_with fail
    refine (head_any _).mono ?_
    rintro e w1 ⟨rfl, b1⟩
    go_wp2_with fail
    refine (RList_any _ l _ (hv'.below (Nat.le_refl _) b1)).mono ?_
    rintro e w2 ⟨rfl, b2⟩
    rw [hl]
    go_wp2_with fail
    go_ret
    have := b1.size
    exact ⟨rfl, (by ((repeat' (first | exact Below.refl _ _ | exact b1 | exact b2 | refine Below.alloc ?_ ?_ _ | refine Below.setCell ?_ ?_ _ | refine Below.drew ?_ | refine below_drewN ?_ _ | refine Below.trans ?_ (b1.mono ?_) | refine Below.trans ?_ (b2.mono ?_))) <;> (first | omega | (simp; done) | (simp; omega))))⟩
  obtain ⟨i0, hi, hz0, hz1, hz2⟩ := info_parts infoIv
  have hl64 := ((listB_iff l).1 hl).1
  have Hl := hide hl
  have Hrev := hide (cb_rev l f)
  have HoL := hide (outL_rev l f)
  have Hbd := hide (fun k (hk : k < (outL l f).length) => outL_bd hk)
  have Hbd2 := hide (fun k (hk : k < (outL l.reverse f).length) => outL_bd hk)
  have Hm := hide (cb_more (l := l) (n := f) (m := f + mo) hl hf.1 (by omega) hfl)
  go_enter Try.func8, Try.ntmps8
  go_wp2_with fail
  refine (head_any _).mono ?_
  rintro e w1 ⟨rfl, b1⟩
  go_wp2_with fail
  refine (RList_any _ l _ (hv'.below (Nat.le_refl _) b1)).mono ?_
  rintro e w2 ⟨rfl, b2⟩
  rw [hl]
  have z1 := b1.size
  have hB2 : Below w.heap.size w w2 := (by ((repeat' (first | exact Below.refl _ _ | exact b1 | exact b2 | refine Below.alloc ?_ ?_ _ | refine Below.setCell ?_ ?_ _ | refine Below.drew ?_ | refine below_drewN ?_ _ | refine Below.trans ?_ (b1.mono ?_) | refine Below.trans ?_ (b2.mono ?_))) <;> (first | omega | (simp; done) | (simp; omega))))
  have z2 := hB2.size
  clear hl
  go_wp2_with fail
  go_loopw [10, 11] (fun t i wr => ∃ k : Nat, k ≤ l.length ∧ i = .int .i64 k ∧ OwnIv wr w.heap.size t (l.reverse.take k) ∧ Below w.heap.size w wr) (fun _ i _ => l.length - (intOf i).toNat)
  case atStart => exact ⟨0, Nat.zero_le _, rfl, OwnP.nil _ _, hB2⟩
  case round =>
    obtain ⟨k, hk, rfl, hown, hB⟩ := hrel
    have hz := hB.size
    have hrow := hv'.below (Nat.le_refl _) hB
    by_cases hlt : k < l.length
    · obtain ⟨j, hj⟩ : ∃ j, j = l.length - 1 - k := ⟨_, rfl⟩
      have hjl : j < l.length := by omega
      have hji : (l.length : Int) - 1 - k = j := by omega
      obtain ⟨b, off, rfl, h4, h5, h6⟩ := h3 j hjl
      have h5' := (hB.cell (p := ⟨b, off + j * 2, none⟩) h4).trans h5
      have h6' := (hB.cell (p := ⟨b, off + j * 2 + 1, none⟩) h4).trans h6
      have hlen : (l.reverse.take k).length = k := by simp; omega
      have hlowb := fun k h => (hown.lt k h).1
      have htk := take_rev l k hlt
      rw [← hj] at htk
      have Htk := hide htk
      clear htk h3 hj
      go_wp2_with (at_builtin; (refine wpList_append_own _ rfl _ _ 22 rfl w.heap.size 29 i0 (.agg #[.int .i64 0, .int .i64 0]) 2 16 Try.underlying22 hi hz0 hz1 hz2 rfl (by decide) _ (l.reverse.take k).length (encL (l.reverse.take k)) rfl (World.ownsRow.alloc hown _) ⟨wr.heap.size, 0, none⟩ 1 1 [.int .i64 (iLo l j), .int .i64 (iHi l j)] rfl rfl (cell_two_new' _ _ _ _) (by simp [Value.oneCell']) (by unfold maxLen; omega) (by omega) (by simp; omega) ?_); intro v3 w3 hown3 hg3 _; have hB3 : Below w.heap.size w w3 := ((hB.alloc (by omega) _).grown hg3 (by simp; omega) hlowb))
      go_roundw
      case rel => exact ⟨k + 1, by omega, by simp, by rw [Htk.out]; exact OwnP.app hown3, hB3⟩
      case measure => simp [intOf]; omega
    · obtain rfl : k = l.length := by omega
      have hlr : (l.reverse.take l.length) = l.reverse := by rw [List.take_of_length_le (by simp)]
      rw [hlr] at hown
      have hrr := hown.row
      clear h3 hlr hown
      go_wp2_with fail
      refine (Combine_any _ l _ _ hrow).mono ?_
      rintro e w3 ⟨rfl, b3⟩
      go_wp2_with fail
      have b3' : Below wr.heap.size wr (w3.alloc (.cells #[.int .i64 (cbLo l f), .int .i64 (cbHi l f)] 29)) := by have := b3.size; exact (by ((repeat' (first | exact Below.refl _ _ | exact b3 | refine Below.alloc ?_ ?_ _ | refine Below.setCell ?_ ?_ _ | refine Below.drew ?_ | refine below_drewN ?_ _ | refine Below.trans ?_ (b3.mono ?_))) <;> (first | omega | (simp; done) | (simp; omega))))
      refine (Combine_any _ l _ _ (hrow.below (Nat.le_refl _) b3')).mono ?_
      rintro e w4 ⟨rfl, b4⟩
      have b4' : Below wr.heap.size wr w4 := b3'.trans (b4.mono b3'.size)
      have y3 := (bk b4 w3.heap.size (by simp)).1
      have z4 := b4.size
      simp only [World.size_alloc] at z4
      go_wp2_with fail
      have hA4 : Below wr.heap.size wr (w4.alloc (.cells #[.int .i64 (cbLo l (f + mo)), .int .i64 (cbHi l (f + mo))] 29)) := by have := b4'.size; exact (by ((repeat' (first | exact Below.refl _ _ | exact b4' | refine Below.alloc ?_ ?_ _ | refine Below.setCell ?_ ?_ _ | refine Below.drew ?_ | refine below_drewN ?_ _ | refine Below.trans ?_ (b4'.mono ?_))) <;> (first | omega | (simp; done) | (simp; omega))))
      refine (Combine_any _ l.reverse _ _ (hrr.below (Nat.le_refl _) hA4)).mono ?_
      rintro e w5 ⟨rfl, b5⟩
      rw [Hrev.out.1, Hrev.out.2.1, Hrev.out.2.2]
      have b5' : Below wr.heap.size wr w5 := hA4.trans (b5.mono hA4.size)
      have y4 := (bk b5 w4.heap.size (by simp)).1
      have y3' := (bk b5 w3.heap.size (by simp; omega)).1
      have z5 := b5.size
      simp only [World.size_alloc] at z5
      go_wp2_with fail
      have hA5 : Below wr.heap.size wr (w5.alloc (.cells #[.int .i64 (cbLo l f), .int .i64 (cbHi l f)] 29)) := by have := b5'.size; exact (by ((repeat' (first | exact Below.refl _ _ | exact b5' | refine Below.alloc ?_ ?_ _ | refine Below.setCell ?_ ?_ _ | refine Below.drew ?_ | refine below_drewN ?_ _ | refine Below.trans ?_ (b5'.mono ?_))) <;> (first | omega | (simp; done) | (simp; omega))))
      refine (Outside_any _ l _ _ (hrow.below (Nat.le_refl _) hA5)).mono ?_
      rintro e w6 ⟨ov, rfl, ho, b6⟩
      have b6' : Below wr.heap.size wr w6 := hA5.trans (b6.mono hA5.size)
      have y5 := (bk b6 w5.heap.size (by simp)).1
      have y4' := (bk b6 w4.heap.size (by simp; omega)).1
      have y3'' := (bk b6 w3.heap.size (by simp; omega)).1
      have z6 := b6.size
      simp only [World.size_alloc] at z6
      go_wp2_with fail
      refine (Outside_any _ l.reverse _ _ (hrr.below (Nat.le_refl _) b6')).mono ?_
      rintro e w7 ⟨pv, rfl, hp, b7⟩
      rw [Hrev.out.2.2]
      have b7' : Below wr.heap.size wr w7 := b6'.trans (b7.mono b6'.size)
      have x5 := (bk b7 w5.heap.size (by omega)).1
      have x4 := (bk b7 w4.heap.size (by omega)).1
      have x3 := (bk b7 w3.heap.size (by omega)).1
      have z7 := b7.size
      have ho7 := ho.row.below (Nat.le_refl _) b7
      have hp7 := hp.row
      obtain ⟨oa, ocap, rfl, o1, o2, o3⟩ := ho7
      obtain ⟨pa, pcap, rfl, p1, p2, p3⟩ := hp7
      have d0 : w7.cell? ⟨w3.heap.size, 0, none⟩ = some (.int .i64 (cbLo l f)) := by rw [x3, y3'', World.cell?_alloc_old _ _ _ (by show w3.heap.size ≠ _; omega), y3', World.cell?_alloc_old _ _ _ (by show w3.heap.size ≠ _; omega), y3]; simp
      have d1 : w7.cell? ⟨w3.heap.size, 1, none⟩ = some (.int .i64 (cbHi l f)) := by rw [x3, y3'', World.cell?_alloc_old _ _ _ (by show w3.heap.size ≠ _; omega), y3', World.cell?_alloc_old _ _ _ (by show w3.heap.size ≠ _; omega), y3]; simp
      have d2 : w7.cell? ⟨w4.heap.size, 0, none⟩ = some (.int .i64 (cbLo l (f + mo))) := by rw [x4, y4', World.cell?_alloc_old _ _ _ (by show w4.heap.size ≠ _; omega), y4]; simp
      have d3 : w7.cell? ⟨w4.heap.size, 1, none⟩ = some (.int .i64 (cbHi l (f + mo))) := by rw [x4, y4', World.cell?_alloc_old _ _ _ (by show w4.heap.size ≠ _; omega), y4]; simp
      have d4 : w7.cell? ⟨w5.heap.size, 0, none⟩ = some (.int .i64 (cbLo l f)) := by rw [x5, y5]; simp
      have d5 : w7.cell? ⟨w5.heap.size, 1, none⟩ = some (.int .i64 (cbHi l f)) := by rw [x5, y5]; simp
      have hB7 : Below w.heap.size w w7 := hB.trans (b7'.mono hz)
      have hne : ivEq (cbLo l f) (cbHi l f) (cbLo l f) (cbHi l f) = true := by simp [ivEq]
      have hlen := HoL.out.1
      rw [hlen] at p1 p3 ⊢
      have hbd := outL_length l f
      generalize hN : (outL l f).length = N at *
      clear ho hp x3 x4 x5 y3 y3' y3'' y4 y4' y5 hlen b1 b2 b3 b3' b4 b4' b5 b5' b6 b6' b7 hB2 hA4 hA5 hrow hrr
      go_wp2_with fail
      go_loopw [22] (fun i wx => ∃ k : Nat, k ≤ N ∧ i = .int .i64 k ∧ ∃ nq, wx = w7.drewN nq) (fun i _ => N - (intOf i).toNat)
      case atStart => exact ⟨0, Nat.zero_le _, rfl, 0, rfl⟩
      case round =>
        obtain ⟨k, hk, rfl, nq, rfl⟩ := hrel
        by_cases hlt : k < N
        · obtain ⟨q, hq⟩ : ∃ q, q = N - 1 - k := ⟨_, rfl⟩
          obtain ⟨b, off, rfl, h4, h5⟩ := o3 k (by omega)
          obtain ⟨b', off', rfl, h4', h5'⟩ := p3 q (by omega)
          have hs := HoL.out.2 k (by omega)
          rw [← hq] at hs
          have c1 := Hbd.out k (by omega)
          have c2 := Hbd2.out q (by have := HoL.out.1; omega)
          have w1 : IntKind.i64.wrap ((N : Int) - 1) = (N : Int) - 1 := IntWalk.i64_in _ (by omega)
          have w2 : IntKind.i64.wrap ((N : Int) - 1 - k) = q := by rw [IntWalk.i64_in _ (by omega)]; omega
          have w3 : IntKind.i64.wrap (iAt (outL l f) k + iAt (outL l.reverse f) q) = (l.length : Int) - 1 := by rw [IntWalk.i64_in _ (by omega)]; exact hs
          have w4 : IntKind.i64.wrap ((l.length : Int) - 1) = (l.length : Int) - 1 := IntWalk.i64_in _ (by omega)
          have w5 : q < N := by omega
          clear hs hq
          go_wp2_with fail
          go_quiet (fail)
          go_wp2_with fail
          go_roundw
          case rel => exact ⟨k + 1, by omega, by go_num, _, rfl⟩
          case measure => simp [intOf]; omega
        · clear o3 p3
          by_cases he : cbEr l f = 0
          · have hm := Hm.out he
            rw [he, hm.1]
            have hm1 := hm.2.1
            have hm2 := hm.2.2
            clear hm he
            go_wp2_with fail
            go_ret
            exact ⟨ret_bool (by first | (simp; done) | (simp; omega)), below_drewN hB7 _⟩
          · have he' : (cbEr l f != 0) = true := by rw [bne_iff_ne]; exact he
            clear he
            go_wp2_with fail
            go_ret
            exact ⟨ret_bool (by simp), below_drewN hB7 _⟩
set_option maxRecDepth 100000 in
theorem combineMore_holds : Rows.CombineMoreSaid :=
  OpenClaim.holds_of_wide 8 Try.f8 rfl rfl rfl rfl rfl rfl rfl ⟨rfl, rfl, rfl, rfl, rfl⟩ rfl rfl rfl rfl rfl (by kernel_rfl) Try.func8 (by kernel_rfl)
    (of_decide_eq_true (by kernel_rfl)) (by unfold Func.isWrapper; rw [if_neg (of_decide_eq_false (by kernel_rfl))]; exact ⟨rfl, rfl⟩)
    (fun os started H enc _ => law_lifted started 8 Try.f8 Try.func8 (by kernel_rfl) Rows.combineMoreSpec rfl rfl
      (fun ds h => by match ds, h with | [_, _, _], _ => exact ⟨rfl, rfl, rfl⟩)
      (fun t h => by
        rw [Try.params8] at h
        simp only [List.mem_cons, List.not_mem_nil, or_false] at h
        rcases h with rfl | rfl | rfl <;> exact ⟨by kernel_rfl, of_decide_eq_true (by kernel_rfl)⟩)
      (ChangeSpec.witness6 (enc := enc) (C := Try.checked) false ⟨#[], #[.slice none 0 0, .int .u8 0, .int .u8 0], []⟩ 8 (by kernel_rfl) (by kernel_rfl) (by kernel_rfl) (by kernel_rfl))
      (fun W base args ds p hA hok => by
        rw [Try.params8] at hA hok
        obtain ⟨v0, vs0, d0, ds0, p0, q0, hargs, rfl, rfl, h0, r0⟩ := ChangeShapes.trodAll_cons hA
        obtain ⟨v1, vs1, d1, ds1, p1, q1, rfl, rfl, rfl, h1, r1⟩ := ChangeShapes.trodAll_cons r0
        obtain ⟨v2, vs2, d2, ds2, p2, q2, rfl, rfl, rfl, h2, r2⟩ := ChangeShapes.trodAll_cons r1
        obtain ⟨rfl, rfl, rfl⟩ := ChangeShapes.trodAll_nil r2
        obtain rfl : args = #[v0, v1, v2] := by rw [← Array.toArray_toList (xs := args), hargs]
        obtain ⟨l0, hl0, wl0⟩ := open_ivs (hok 0 _ v0 rfl rfl) h0
        obtain ⟨x1, rfl, hx1⟩ := open_u8 Try.underlying5 (hok 1 _ v1 rfl rfl) h1
        obtain ⟨x2, rfl, hx2⟩ := open_u8 Try.underlying5 (hok 2 _ v2 rfl rfl) h2
        exact CbMore_any W v0 l0 hl0 x1 hx1 x2 hx2))
end Go.Proofs.Ytbocjiepobccpaa
