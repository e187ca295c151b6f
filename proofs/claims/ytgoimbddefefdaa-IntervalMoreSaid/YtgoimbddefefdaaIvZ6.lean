/- IntervalMore: for every list, interval and three numbers the statement answers true and leaves its arguments as they were. No condition. -/
import Derived.Test.YtgoimbddefefdaaIvL
import Derived.Test.YtgoimbddefefdaaFr
import Derived.Deep.RegionLaw
namespace Go.Proofs.Ytgoimbddefefdaa
open Go.RowKit
attribute [local go_sem ↓] run_max_mx run_min_mn run_eql_iv run_neq_iv
theorem step_append_own {P : Program} {ops : Array Oper} {o : Oper} {a : Act} {w : World} {K : Act → World → Prop} {Q : Exit → Act → World → Prop} {E : Prop}
    (hg : o.guard = none) (s x : Operand) (t : TypeId) (hop : o.op = Op.call { callee := Callee.builtin Builtin.append, args := #[s, x], argTypes := #[t, t] })
    (base : Nat) (e : TypeId) (i : TypeInfo) (z : Value) (size bytes : Nat) (h1 : P.underlying t = some (.slice e)) (h2 : P.info? e = some i) (h3 : i.zero = some z) (h4 : i.size = size) (h5 : i.bytes = bytes) (h6 : z.cells.size = size) (h7 : 0 < size)
    (v : Value) (n : Nat) (olds : List Value) (hs : a.eval s = v) (hown : w.ownsRow base e size v n olds)
    (ad : Addr) (m c : Nat) (news : List Value) (hx : a.eval x = .slice (some ad) m c) (hn : news.length = m * size) (hc : ∀ j u, news[j]? = some u → w.cell? (ad.add j) = some u) (h1c : ∀ u ∈ news, u.oneCell' = true)
    (b1 : n + m ≤ maxLen) (b2 : (n + m) * bytes ≤ 140737488355328) (b3 : base ≤ w.heap.size)
    (hK : ∀ v' w', w'.ownsRow base e size v' (n + m) (olds ++ news) → w.grownBy w' v.ownBlock → K (a.put o.dst v') w') :
    if Region.wanted o (yielded ops a.tmps) = true then Oper.wp P o a w K Q else E := by
  have hw : Region.wanted o (yielded ops a.tmps) = true := by simp [Region.wanted, hg]
  rw [if_pos hw]
  obtain ⟨v', w', hrun, r1, r2, _⟩ := run_append_own (P := P) w base t o.type e i z size bytes h1 h2 h3 h4 h5 h6 h7 v n olds hown ad m c news hn hc h1c b1 b2 b3
  unfold Oper.wp
  simp [execOp, hop, resolve, invoke, builtin, hs, hx, hrun, Result.andThen]
  exact hK v' w' r1 r2
theorem lo_at' (l : List Iv) (n : Nat) (h : n < l.length) : iLo l n = l[n].1 := by simp [iLo, List.getD_eq_getElem?_getD, List.getElem?_eq_getElem h]
theorem hi_at' (l : List Iv) (n : Nat) (h : n < l.length) : iHi l n = l[n].2 := by simp [iHi, List.getD_eq_getElem?_getD, List.getElem?_eq_getElem h]
theorem dep_count' (l : List Iv) (t : Int) : dep l t l.length = ((l.countP fun p => hasB p.1 p.2 t : Nat) : Int) := by
  have key : ∀ n, n ≤ l.length → dep l t n = (((l.take n).countP fun p => hasB p.1 p.2 t : Nat) : Int) := by
    intro n
    induction n with
    | zero => intro _; simp [dep]
    | succ n ih =>
      intro hn
      have hlt : n < l.length := hn
      rw [dep, ih (by omega), List.take_add_one, List.getElem?_eq_getElem hlt, List.countP_append, lo_at' l n hlt, hi_at' l n hlt]
      simp only [Option.toList_some, List.countP_cons, List.countP_nil]
      split <;> simp
  simpa using key l.length (Nat.le_refl _)
theorem listB_iff2' (l : List Iv) : listB l = true ↔ l.length ≤ 64 ∧ ∀ p, p ∈ l → 0 ≤ p.1 ∧ p.1 ≤ p.2 ∧ p.2 ≤ 3000000000000000 := by
  rw [listB_iff]
  refine and_congr Iff.rfl ⟨fun h p hp => ?_, fun h k hk => ?_⟩
  · obtain ⟨k, hk, e1, e2⟩ := at_of_mem hp
    have := h k hk; omega
  · obtain ⟨p, hp, e1, e2⟩ := mem_of_at hk
    have := h p hp; omega
theorem dep_pos_iff' (c : List Iv) (t : Int) : 0 < dep c t c.length ↔ mem c t := by
  have key : ∀ n, n ≤ c.length → (0 < dep c t n ↔ ∃ k, k < n ∧ iLo c k ≤ t ∧ t ≤ iHi c k) := by
    intro n
    induction n with
    | zero => intro _; simp [dep]
    | succ n ih =>
      intro hn
      have hb := dep_bd c t n
      have ih := ih (by omega)
      rw [dep]
      by_cases h : hasB (iLo c n) (iHi c n) t = true
      · rw [if_pos h]
        exact ⟨fun _ => ⟨n, by omega, by simpa [hasB] using h⟩, fun _ => by omega⟩
      · rw [if_neg h, Int.add_zero, ih]
        constructor
        · rintro ⟨k, hk, h2⟩; exact ⟨k, by omega, h2⟩
        · rintro ⟨k, hk, h2⟩
          refine ⟨k, ?_, h2⟩
          rcases Nat.lt_or_ge k n with h3 | h3
          · exact h3
          · obtain rfl : k = n := by omega
            exact absurd (by simpa [hasB] using h2) h
  rw [key _ (Nat.le_refl _)]
  constructor
  · rintro ⟨k, hk, h⟩
    obtain ⟨p, hp, e1, e2⟩ := mem_of_at hk
    exact ⟨p, hp, by omega, by omega⟩
  · rintro ⟨p, hp, h⟩
    obtain ⟨k, hk, e1, e2⟩ := at_of_mem hp
    exact ⟨k, hk, by omega, by omega⟩
theorem own_new0 {w : World} {base q : Nat} (T : TypeId) (hh : w.heap[q]? = some (.cells #[] T)) (h : base ≤ q) : OwnP T w base (.slice (some ⟨q, 0, none⟩) 0 0) [] :=
  ⟨rfl, .inr ⟨q, 0, #[], rfl, h, hh, Nat.le_refl _, Nat.zero_le _, rfl, rfl⟩⟩
theorem dep_app (l : List Iv) (p : Iv) (t : Int) : dep (l ++ [p]) t (l ++ [p]).length = dep l t l.length + if hasB p.1 p.2 t = true then 1 else 0 := by
  rw [dep_count', dep_count', List.countP_append]
  simp only [List.countP_cons, List.countP_nil]
  split <;> simp
theorem listB_app (l : List Iv) (p : Iv) (h1 : l.length ≤ 63) (h2 : listB l = true) (h3 : validB p.1 p.2 = true) : listB (l ++ [p]) = true := by
  rw [listB_iff2'] at h2 ⊢
  refine ⟨by simp; omega, fun q hq => ?_⟩
  rcases List.mem_append.1 hq with h | h
  · exact h2.2 q h
  · obtain rfl : q = p := by simpa using h
    exact (validB_iff _ _).1 h3
theorem heap_d1 (W : World) (o : Obj) : ((W.alloc o).drew).heap[W.heap.size]? = some o := World.alloc_heap_new W o
theorem heap_d2 (W : World) (o o2 : Obj) : (((W.alloc o).alloc o2).drew).heap[W.heap.size]? = some o := by
  show ((W.alloc o).alloc o2).heap[W.heap.size]? = some o
  rw [Below.heap_alloc _ _ _ (by simp)]; exact World.alloc_heap_new W o
theorem heap_d3 (W : World) (o o2 : Obj) : (((W.alloc o).alloc o2).drew).heap[W.heap.size + 1]? = some o2 := by
  have h := World.alloc_heap_new (W.alloc o) o2
  rwa [World.size_alloc] at h
theorem two_cells {w : World} {B : Nat} {x y : Value} (h0 : w.cell? ⟨B, 0, none⟩ = some x) (h1 : w.cell? ⟨B, 1, none⟩ = some y) : ∀ j u, [x, y][j]? = some u → w.cell? ((⟨B, 0, none⟩ : Addr).add j) = some u := by
  intro j u hj
  match j, hj with
  | 0, hj => simp at hj; subst hj; simpa [Addr.add] using h0
  | 1, hj => simp at hj; subst hj; simpa [Addr.add] using h1
theorem encL_one (l : List Iv) : ∀ u ∈ encL l, u.oneCell' = true := by
  intro u hu
  simp only [encL, List.mem_flatMap] at hu
  obtain ⟨p, _, hu⟩ := hu
  simp at hu
  rcases hu with rfl | rfl <;> rfl
theorem ivrow_cells {w : World} {b off n cap : Nat} {l : List Iv} (h : IvRow w (.slice (some ⟨b, off, none⟩) n cap) l) : ∀ j u, (encL l)[j]? = some u → w.cell? ((⟨b, off, none⟩ : Addr).add j) = some u := by
  obtain ⟨a, cap', e, h1, h2, h3⟩ := h
  cases e
  intro j u hj
  have hjl : j < l.length * 2 := by
    rw [← encL_length]
    exact (List.getElem?_eq_some_iff.1 hj).1
  obtain ⟨b', off', e, _, h5, h6⟩ := h3 (j / 2) (by omega)
  cases e
  have h7 := encL_at l (j / 2) (by omega)
  rcases Nat.mod_two_eq_zero_or_one j with h | h
  · have e : j = j / 2 * 2 := by omega
    rw [e] at hj ⊢
    rw [h7.1] at hj
    cases hj
    simp only [Addr.add]
    split
    · rename_i h0; rw [h0] at h5; simpa using h5
    · exact h5
  · have e : j = j / 2 * 2 + 1 := by omega
    rw [e] at hj ⊢
    rw [h7.2] at hj
    cases hj
    simp only [Addr.add]
    split
    · omega
    · exact h6
set_option maxRecDepth 100000 in
set_option maxHeartbeats 2000000 in
theorem More_any (w : World) (v : Value) (l : List Iv) (hv : IvRow w v l) (a1 a2 need : Int) (hn : 0 ≤ need ∧ need ≤ 255) (more : Int) (hm : 0 ≤ more ∧ more ≤ 255) (x : Int) :
    Calls Try.prog 8 #[v, .agg #[.int .i64 a1, .int .i64 a2], .int .u8 need, .int .u8 more, .int .i64 x] w fun e w' => e = .returned (.bool true) ∧ Below w.heap.size w w' := by
  have hv' := hv
  obtain ⟨a, cap, rfl, h1, h2, h3⟩ := hv
  by_cases h63 : (63 : Int) < l.length
  case pos =>
    clear h3
    have h63' : decide ((63 : Int) < l.length) = true := decide_eq_true h63
    go_enter Try.func8, Try.ntmps8
    go_wp2_with fail
    refine (head_any _).mono ?_
    rintro e w1 ⟨rfl, hb1⟩
    go_wp2_with fail
    go_ret
    have hz := hb1.size
    exact ⟨rfl, (by ((repeat' (first | exact Below.refl _ _ | exact hb1 | refine Below.alloc ?_ ?_ _ | refine Below.setCell ?_ ?_ _ | refine Below.drew ?_ | refine below_drewN ?_ _ | refine Below.trans ?_ (hb1.mono ?_))) <;> (first | omega | (simp; done) | (simp; omega))))⟩
  have h63' : decide ((63 : Int) < l.length) = false := decide_eq_false h63
  by_cases hl : listB l = true
  case neg =>
    clear h3
    have hl' : listB l = false := by simpa using hl
    clear hl
    go_enter Try.func8, Try.ntmps8
    go_wp2_with fail
    refine (head_any _).mono ?_
    rintro e w1 ⟨rfl, hb1⟩
    have hB1 : Below w.heap.size w w1 := (by ((repeat' (first | exact Below.refl _ _ | exact hb1 | refine Below.alloc ?_ ?_ _ | refine Below.setCell ?_ ?_ _ | refine Below.drew ?_ | refine below_drewN ?_ _ | refine Below.trans ?_ (hb1.mono ?_))) <;> (first | omega | (simp; done) | (simp; omega))))
    go_wp2_with (go_at_call 26; refine (RList_any _ l _ (hv'.below (Nat.le_refl _) hB1)).mono ?_; rintro e w2 ⟨rfl, hb2⟩)
    go_ret
    have hz := hB1.size
    have hz2 := hb2.size
    exact ⟨rfl, (by ((repeat' (first | exact Below.refl _ _ | exact hB1 | exact hb2 | refine Below.alloc ?_ ?_ _ | refine Below.setCell ?_ ?_ _ | refine Below.drew ?_ | refine below_drewN ?_ _ | refine Below.trans ?_ (hB1.mono ?_) | refine Below.trans ?_ (hb2.mono ?_))) <;> (first | omega | (simp; done) | (simp; omega))))⟩
  by_cases hva : validB a1 a2 = true
  case neg =>
    clear h3
    have hva' : validB a1 a2 = false := by simpa using hva
    clear hva
    go_enter Try.func8, Try.ntmps8
    go_wp2_with fail
    refine (head_any _).mono ?_
    rintro e w1 ⟨rfl, hb1⟩
    obtain ⟨khb1_0, fhb1_0, zhb1_0, zahb1_0, zbhb1_0, zchb1_0, zdhb1_0, zehb1_0⟩ := bk3 hb1 (w.heap.size) (by first | omega | (simp; done) | (simp; omega))
    have hB1 : Below w.heap.size w w1 := (by ((repeat' (first | exact Below.refl _ _ | exact hb1 | refine Below.alloc ?_ ?_ _ | refine Below.setCell ?_ ?_ _ | refine Below.drew ?_ | refine below_drewN ?_ _ | refine Below.trans ?_ (hb1.mono ?_))) <;> (first | omega | (simp; done) | (simp; omega))))
    go_wp2_with (first | (go_at_call 26; refine (RList_any _ l _ (hv'.below (Nat.le_refl _) hB1)).mono ?_; rintro e w2 ⟨rfl, hb2⟩; obtain ⟨g2, f2⟩ := bk hb2 w.heap.size (by assumption)) | (go_at_call 15; refine (RValid_any _ _ _).mono ?_; rintro e w' ⟨rfl, rfl⟩))
    go_ret
    have hz := hB1.size
    have hz2 := hb2.size
    exact ⟨rfl, (by ((repeat' (first | exact Below.refl _ _ | exact hB1 | exact hb2 | refine Below.alloc ?_ ?_ _ | refine Below.setCell ?_ ?_ _ | refine Below.drew ?_ | refine below_drewN ?_ _ | refine Below.trans ?_ (hB1.mono ?_) | refine Below.trans ?_ (hb2.mono ?_))) <;> (first | omega | (simp; done) | (simp; omega))))⟩
  have hnm : 0 ≤ need % 64 ∧ need % 64 < 64 := by omega
  obtain ⟨n, hnn, n1, n2⟩ : ∃ n, n = 1 + need % 64 ∧ 1 ≤ n ∧ n ≤ 64 := ⟨_, rfl, by omega, by omega⟩
  obtain ⟨m, hmm, m1, m2⟩ : ∃ m, m = mn 64 (n + more) ∧ n ≤ m ∧ m ≤ 64 := ⟨_, rfl, by have := mn_spec 64 (n + more); omega, by have := mn_spec 64 (n + more); omega⟩
  obtain ⟨i0, hi, hz0, hz1, hz2⟩ := info_parts infoIv
  have hva2 := hva
  have hlr : listB (l ++ [(a1, a2)]) = true := listB_app l _ (by omega) hl hva2
  have hout : ∀ (L : List Iv) (q : Int), listB L = true → 1 ≤ q → q ≤ 64 → coverEr L q = 0 ∧ ∀ c, CovOut L q c → CovSpec L q c := fun L q hL q1 q2 => by
    have hok : coverOk L q = true := by simp [coverOk, hL]; omega
    exact ⟨by simp [coverEr, hok], fun c h => by unfold CovOut at h; rwa [if_pos hok] at h⟩
  have Her := hide fun q q1 q2 => (hout l q hl q1 q2).1
  have Hout := hide fun q q1 q2 => (hout l q hl q1 q2).2
  have HeL := hide (hout _ n hlr n1 n2).1
  have HoutL := hide (hout _ n hlr n1 n2).2
  clear hout hlr
  go_enter Try.func8, Try.ntmps8
  go_wp2_with fail
  refine (head_any _).mono ?_
  rintro e w1 ⟨rfl, hb1⟩
  obtain ⟨khb1_0, fhb1_0, zhb1_0, zahb1_0, zbhb1_0, zchb1_0, zdhb1_0, zehb1_0⟩ := bk3 hb1 (w.heap.size) (by first | omega | (simp; done) | (simp; omega))
  have hB1 : Below w.heap.size w w1 := (by ((repeat' (first | exact Below.refl _ _ | exact hb1 | refine Below.alloc ?_ ?_ _ | refine Below.setCell ?_ ?_ _ | refine Below.drew ?_ | refine below_drewN ?_ _ | refine Below.trans ?_ (hb1.mono ?_))) <;> (first | omega | (simp; done) | (simp; omega))))
  go_wp2_with (first | (go_at_call 26; refine (RList_any _ l _ (hv'.below (Nat.le_refl _) hB1)).mono ?_; rintro e w2 ⟨rfl, hb2⟩; obtain ⟨g2, f2⟩ := bk hb2 w.heap.size (by assumption)) | (go_at_call 15; refine (RValid_any _ _ _).mono ?_; rintro e w' ⟨rfl, rfl⟩))
  have hz := hB1.size
  have hB2 : Below w.heap.size w w2 := (by ((repeat' (first | exact Below.refl _ _ | exact hB1 | exact hb2 | refine Below.alloc ?_ ?_ _ | refine Below.setCell ?_ ?_ _ | refine Below.drew ?_ | refine below_drewN ?_ _ | refine Below.trans ?_ (hB1.mono ?_) | refine Below.trans ?_ (hb2.mono ?_))) <;> (first | omega | (simp; done) | (simp; omega))))
  have hzB := hB2.size
  rw [← hnn]
  clear hnn
  go_upto_region 6 with fail
  obtain ⟨W, hWe⟩ : ∃ W, W = w2.alloc (.cells #[.int .i64 a1, .int .i64 a2] 24) := ⟨_, rfl⟩
  rw [← hWe]
  have hBW : Below w.heap.size w W := by rw [hWe]; exact (by ((repeat' (first | exact Below.refl _ _ | exact hB2 | refine Below.alloc ?_ ?_ _ | refine Below.setCell ?_ ?_ _ | refine Below.drew ?_ | refine below_drewN ?_ _ | refine Below.trans ?_ (hB2.mono ?_))) <;> (first | omega | (simp; done) | (simp; omega))))
  have hw2s : w.heap.size < w2.heap.size := Nat.lt_of_lt_of_le (by simp) (Nat.le_trans hb1.size hb2.size)
  have hWs : w.heap.size + 1 < W.heap.size := by rw [hWe]; simp; omega
  have y0 : W.cell? ⟨w.heap.size, 0, none⟩ = some (.int .i64 a1) := by rw [hWe]; simp [go_sem, *]
  have y1 : W.cell? ⟨w.heap.size, 1, none⟩ = some (.int .i64 a2) := by rw [hWe]; simp [go_sem, *]
  have hrW := hv'.below (Nat.le_refl _) hBW
  have hRW : Below (w.heap.size + 1) W W := Below.refl _ _
  have hWl : w.heap.size < W.heap.size := by omega
  have hWl2 : w.heap.size < W.heap.size + 1 := by omega
  clear hWe hb1 hb2 hB1 hB2 h3
  go_cut [14] (fun t wr => OwnIv wr (w.heap.size + 1) t (l ++ [(a1, a2)]) ∧ Below (w.heap.size + 1) W wr)
  case first =>
    by_cases hl0 : l.length = 0
    · obtain rfl : l = [] := List.eq_nil_of_length_eq_zero hl0
      rcases a with _ | ad
      all_goals go_region_law (first | (refine step_append_own rfl (.tmp 47) (.tmp 49) 22 rfl (w.heap.size + 1) 24 i0 (.agg #[.int .i64 0, .int .i64 0]) 2 16 Try.underlying22 hi hz0 hz1 hz2 rfl (by decide) _ 0 [] (by simp [Act.eval, Act.put]) (own_new0 _ (heap_d2 W _ _) (by first | omega | (simp; omega) | (simp; done))) ⟨W.heap.size + 1, 0, none⟩ 1 1 [.int .i64 a1, .int .i64 a2] (by simp [Act.eval, Act.put]) rfl (two_cells (by simp [go_sem]) (by simp [go_sem])) (by simp [Value.oneCell']) (by unfold maxLen; omega) (by omega) (by first | omega | (simp; omega) | (simp; done)) ?_; intro v2 X2 hown2 hg2; have hR2 : Below (w.heap.size + 1) W X2 := Below.grown (by ((repeat' (first | exact Below.refl _ _ | exact hRW | refine Below.alloc ?_ ?_ _ | refine Below.setCell ?_ ?_ _ | refine Below.drew ?_ | refine below_drewN ?_ _ | refine Below.trans ?_ (hRW.mono ?_))) <;> (first | omega | (simp; done) | (simp; omega)))) hg2 (by first | omega | (simp; omega) | (simp; done)) (by intro k hk; simp [Value.ownBlock] at hk; omega)) | (refine step_append_own rfl (.tmp 47) (.tmp 49) 22 rfl (w.heap.size + 1) 24 i0 (.agg #[.int .i64 0, .int .i64 0]) 2 16 Try.underlying22 hi hz0 hz1 hz2 rfl (by decide) _ 0 [] (by simp [Act.eval, Act.put]) (own_new0 _ (heap_d3 W _ _) (by first | omega | (simp; omega) | (simp; done))) ⟨W.heap.size, 0, none⟩ 1 1 [.int .i64 a1, .int .i64 a2] (by simp [Act.eval]) rfl (two_cells (by simp [go_sem]) (by simp [go_sem])) (by simp [Value.oneCell']) (by unfold maxLen; omega) (by omega) (by first | omega | (simp; omega) | (simp; done)) ?_; intro v2 X2 hown2 hg2; have hR2 : Below (w.heap.size + 1) W X2 := Below.grown (by ((repeat' (first | exact Below.refl _ _ | exact hRW | refine Below.alloc ?_ ?_ _ | refine Below.setCell ?_ ?_ _ | refine Below.drew ?_ | refine below_drewN ?_ _ | refine Below.trans ?_ (hRW.mono ?_))) <;> (first | omega | (simp; done) | (simp; omega)))) hg2 (by first | omega | (simp; omega) | (simp; done)) (by intro k hk; simp [Value.ownBlock] at hk; omega)))
      all_goals go_wp2_with fail
      all_goals go_meet
      all_goals exact ⟨OwnP.app (by simpa [encL] using hown2), hR2⟩
    obtain ⟨b, off, cap', ha, -⟩ := hrW.at0 (by omega)
    cases ha
    have hl0' : ¬ l = [] := fun h => hl0 (by rw [h]; rfl)
    go_region_law (first | (refine step_append_own rfl (.tmp 45) (.tmp 46) 22 rfl (w.heap.size + 1) 24 i0 (.agg #[.int .i64 0, .int .i64 0]) 2 16 Try.underlying22 hi hz0 hz1 hz2 rfl (by decide) _ 0 [] (by simp [Act.eval, Act.put]) (own_new0 _ (heap_d1 W _) (by first | omega | (simp; omega) | (simp; done))) ⟨b, off, none⟩ l.length cap (encL l) (by simp [Act.eval, Act.put]) (encL_length l) (ivrow_cells (hrW.below (Nat.le_refl _) (by ((repeat' (first | exact Below.refl _ _ | exact hRW | refine Below.alloc ?_ ?_ _ | refine Below.setCell ?_ ?_ _ | refine Below.drew ?_ | refine below_drewN ?_ _ | refine Below.trans ?_ (hRW.mono ?_))) <;> (first | omega | (simp; done) | (simp; omega)))))) (encL_one l) (by unfold maxLen; omega) (by omega) (by first | omega | (simp; omega) | (simp; done)) ?_; intro v1 X1 hown1 hg1; have hR1 : Below (w.heap.size + 1) W X1 := Below.grown (by ((repeat' (first | exact Below.refl _ _ | exact hRW | refine Below.alloc ?_ ?_ _ | refine Below.setCell ?_ ?_ _ | refine Below.drew ?_ | refine below_drewN ?_ _ | refine Below.trans ?_ (hRW.mono ?_))) <;> (first | omega | (simp; done) | (simp; omega)))) hg1 (by first | omega | (simp; omega) | (simp; done)) (by intro k hk; simp [Value.ownBlock] at hk; omega); have q0 := (hR1.cell (p := ⟨w.heap.size, 0, none⟩) (Nat.lt_succ_self _)).trans y0; have q1 := (hR1.cell (p := ⟨w.heap.size, 1, none⟩) (Nat.lt_succ_self _)).trans y1; have zR := hR1.size; have zX := Nat.lt_of_lt_of_le hWl zR; have zg := hg1.size; simp only [World.size_alloc, World.size_drew] at zg) | (refine step_append_own rfl (.tmp 45) (.tmp 46) 22 rfl (w.heap.size + 1) 24 i0 (.agg #[.int .i64 0, .int .i64 0]) 2 16 Try.underlying22 hi hz0 hz1 hz2 rfl (by decide) _ 0 [] (by simp [Act.eval, Act.put]) (own_new0 _ (heap_d2 W _ _) (by first | omega | (simp; omega) | (simp; done))) ⟨b, off, none⟩ l.length cap (encL l) (by simp [Act.eval, Act.put]) (encL_length l) (ivrow_cells (hrW.below (Nat.le_refl _) (by ((repeat' (first | exact Below.refl _ _ | exact hRW | refine Below.alloc ?_ ?_ _ | refine Below.setCell ?_ ?_ _ | refine Below.drew ?_ | refine below_drewN ?_ _ | refine Below.trans ?_ (hRW.mono ?_))) <;> (first | omega | (simp; done) | (simp; omega)))))) (encL_one l) (by unfold maxLen; omega) (by omega) (by first | omega | (simp; omega) | (simp; done)) ?_; intro v1 X1 hown1 hg1; have hR1 : Below (w.heap.size + 1) W X1 := Below.grown (by ((repeat' (first | exact Below.refl _ _ | exact hRW | refine Below.alloc ?_ ?_ _ | refine Below.setCell ?_ ?_ _ | refine Below.drew ?_ | refine below_drewN ?_ _ | refine Below.trans ?_ (hRW.mono ?_))) <;> (first | omega | (simp; done) | (simp; omega)))) hg1 (by first | omega | (simp; omega) | (simp; done)) (by intro k hk; simp [Value.ownBlock] at hk; omega); have q0 := (hR1.cell (p := ⟨w.heap.size, 0, none⟩) (Nat.lt_succ_self _)).trans y0; have q1 := (hR1.cell (p := ⟨w.heap.size, 1, none⟩) (Nat.lt_succ_self _)).trans y1; have zR := hR1.size; have zX := Nat.lt_of_lt_of_le hWl zR; have zg := hg1.size; simp only [World.size_alloc, World.size_drew] at zg; obtain ⟨cO, _⟩ := grown_keeps hg1 (b := W.heap.size + 1) (by simp) (by simp [Value.ownBlock]); have p0 : X1.cell? ⟨W.heap.size + 1, 0, none⟩ = some (.int .i64 a1) := (cO 0).trans (by simp [go_sem]); have p1 : X1.cell? ⟨W.heap.size + 1, 1, none⟩ = some (.int .i64 a2) := (cO 1).trans (by simp [go_sem]); clear cO) | (refine step_append_own rfl (.tmp 45) (.tmp 46) 22 rfl (w.heap.size + 1) 24 i0 (.agg #[.int .i64 0, .int .i64 0]) 2 16 Try.underlying22 hi hz0 hz1 hz2 rfl (by decide) _ 0 [] (by simp [Act.eval, Act.put]) (own_new0 _ (heap_d3 W _ _) (by first | omega | (simp; omega) | (simp; done))) ⟨b, off, none⟩ l.length cap (encL l) (by simp [Act.eval, Act.put]) (encL_length l) (ivrow_cells (hrW.below (Nat.le_refl _) (by ((repeat' (first | exact Below.refl _ _ | exact hRW | refine Below.alloc ?_ ?_ _ | refine Below.setCell ?_ ?_ _ | refine Below.drew ?_ | refine below_drewN ?_ _ | refine Below.trans ?_ (hRW.mono ?_))) <;> (first | omega | (simp; done) | (simp; omega)))))) (encL_one l) (by unfold maxLen; omega) (by omega) (by first | omega | (simp; omega) | (simp; done)) ?_; intro v1 X1 hown1 hg1; have hR1 : Below (w.heap.size + 1) W X1 := Below.grown (by ((repeat' (first | exact Below.refl _ _ | exact hRW | refine Below.alloc ?_ ?_ _ | refine Below.setCell ?_ ?_ _ | refine Below.drew ?_ | refine below_drewN ?_ _ | refine Below.trans ?_ (hRW.mono ?_))) <;> (first | omega | (simp; done) | (simp; omega)))) hg1 (by first | omega | (simp; omega) | (simp; done)) (by intro k hk; simp [Value.ownBlock] at hk; omega); have q0 := (hR1.cell (p := ⟨w.heap.size, 0, none⟩) (Nat.lt_succ_self _)).trans y0; have q1 := (hR1.cell (p := ⟨w.heap.size, 1, none⟩) (Nat.lt_succ_self _)).trans y1; have zR := hR1.size; have zX := Nat.lt_of_lt_of_le hWl zR; have zg := hg1.size; simp only [World.size_alloc, World.size_drew] at zg; obtain ⟨cO, _⟩ := grown_keeps hg1 (b := W.heap.size) (by first | omega | (simp; omega) | (simp; done)) (by simp [Value.ownBlock]); have p0 : X1.cell? ⟨W.heap.size, 0, none⟩ = some (.int .i64 a1) := (cO 0).trans (by simp [go_sem]); have p1 : X1.cell? ⟨W.heap.size, 1, none⟩ = some (.int .i64 a2) := (cO 1).trans (by simp [go_sem]); clear cO) | (refine step_append_own rfl (.tmp 47) (.tmp 49) 22 rfl (w.heap.size + 1) 24 i0 (.agg #[.int .i64 0, .int .i64 0]) 2 16 Try.underlying22 hi hz0 hz1 hz2 rfl (by decide) _ (0 + l.length) ([] ++ encL l) (by simp [Act.eval, Act.put]) hown1 _ 1 1 [.int .i64 a1, .int .i64 a2] (by simp [Act.eval, Act.put]) rfl (two_cells p0 p1) (by simp [Value.oneCell']) (by unfold maxLen; omega) (by omega) (by first | omega | (simp; omega) | (simp; done)) ?_; intro v2 X2 hown2 hg2; have hR2 : Below (w.heap.size + 1) W X2 := Below.grown (by ((repeat' (first | exact Below.refl _ _ | exact hR1 | refine Below.alloc ?_ ?_ _ | refine Below.setCell ?_ ?_ _ | refine Below.drew ?_ | refine below_drewN ?_ _ | refine Below.trans ?_ (hR1.mono ?_))) <;> (first | omega | (simp; done) | (simp; omega)))) hg2 (by first | omega | (simp; omega) | (simp; done)) (by intro k hk; have := (hown1.lt k hk).1; omega)) | (refine step_append_own rfl (.tmp 47) (.tmp 49) 22 rfl (w.heap.size + 1) 24 i0 (.agg #[.int .i64 0, .int .i64 0]) 2 16 Try.underlying22 hi hz0 hz1 hz2 rfl (by decide) _ (0 + l.length) ([] ++ encL l) (by simp [Act.eval, Act.put]) (World.ownsRow.alloc hown1 _) ⟨X1.heap.size, 0, none⟩ 1 1 [.int .i64 a1, .int .i64 a2] (by simp [Act.eval]) rfl (cell_two_new _ _ _ _) (by simp [Value.oneCell']) (by unfold maxLen; omega) (by omega) (by first | omega | (simp; omega) | (simp; done)) ?_; intro v2 X2 hown2 hg2; have hR2 : Below (w.heap.size + 1) W X2 := Below.grown (by ((repeat' (first | exact Below.refl _ _ | exact hR1 | refine Below.alloc ?_ ?_ _ | refine Below.setCell ?_ ?_ _ | refine Below.drew ?_ | refine below_drewN ?_ _ | refine Below.trans ?_ (hR1.mono ?_))) <;> (first | omega | (simp; done) | (simp; omega)))) hg2 (by first | omega | (simp; omega) | (simp; done)) (by intro k hk; have := (hown1.lt k hk).1; omega)))
    all_goals go_wp2_with fail
    all_goals go_meet
    all_goals exact ⟨OwnP.app (by simpa using hown2), hR2⟩
  case rest =>
    obtain ⟨hoL, hRc⟩ := hcut
    have hBc : Below w.heap.size w wc := (hBW).trans (hRc.mono (Nat.le_succ _))
    have hzc := hBc.size
    have hrow := hv'.below (Nat.le_refl _) hBc
    have hLrow := hoL.row
    clear hoL hRc hRW hrW y0 y1 hBW
    go_wp2_with fail
    refine (Cover_any _ l _ _ hrow).mono ?_
    rintro e w3 ⟨bv, b, rfl, ho, hcb, hb3⟩
    have hB3 : Below w.heap.size w w3 := hBc.trans (hb3.mono (by omega))
    have hz3 := hB3.size
    have hrow3 := hrow.below (Nat.le_refl _) hb3
    have hLrow3 := hLrow.below (Nat.le_refl _) hb3
    have hbr3 := ho.row
    rw [Her.out n n1 n2]
    clear hrow hLrow ho
    go_wp2_with fail
    refine (Cover_any _ l _ _ hrow3).mono ?_
    rintro e w4 ⟨cv, c, rfl, ho, hcc, hb4⟩
    have hB4 : Below w.heap.size w w4 := hB3.trans (hb4.mono (by omega))
    have hz4 := hB4.size
    have hLrow4 := hLrow3.below (Nat.le_refl _) hb4
    have hbr4 := hbr3.below (Nat.le_refl _) hb4
    have hcr4 := ho.row
    rw [← hmm, Her.out m (by omega) m2]
    rw [← hmm] at hcc
    clear hrow3 hLrow3 hbr3 ho
    go_wp2_with fail
    refine (Cover_any _ (l ++ [(a1, a2)]) _ _ hLrow4).mono ?_
    rintro e w5 ⟨dv, d, rfl, ho, hcd, hb5⟩
    have hB5 : Below w.heap.size w w5 := hB4.trans (hb5.mono (by omega))
    have hz5 := hB5.size
    have hbr5 := hbr4.below (Nat.le_refl _) hb5
    have hcr5 := hcr4.below (Nat.le_refl _) hb5
    have hdr5 := ho.row
    rw [HeL.out]
    clear hLrow4 hbr4 hcr4 ho
    have kb := (dep_pos_iff' b x).trans ((Hout.out n n1 n2 b hcb).2 x)
    have kc := (dep_pos_iff' c x).trans ((Hout.out m (by omega) m2 c hcc).2 x)
    have kd := (dep_pos_iff' d x).trans ((HoutL.out d hcd).2 x)
    have kl := dep_app l (a1, a2) x
    have kle : dep l x l.length ≤ dep (l ++ [(a1, a2)]) x (l ++ [(a1, a2)]).length := by rw [kl]; split <;> omega
    go_wp2_with fail
    refine (RIn_any _ c x _ hcr5).mono ?_
    rintro e w6 ⟨rfl, hb6⟩
    by_cases pc : 0 < dep c x c.length
    · have pb : 0 < dep b x b.length := kb.2 (by have := kc.1 pc; omega)
      have pd : 0 < dep d x d.length := kd.2 (by have := kb.1 pb; omega)
      rw [decide_eq_true pc]
      clear kb kc kd kl kle
      go_wp2_with fail
      refine (RIn_any _ b x _ (hbr5.below (Nat.le_refl _) hb6)).mono ?_
      rintro e w7 ⟨rfl, hb7⟩
      rw [decide_eq_true pb]
      have hb57 : Below w5.heap.size w5 w7 := hb6.trans (hb7.mono hb6.size)
      go_wp2_with fail
      refine (RIn_any _ b x _ (hbr5.below (Nat.le_refl _) hb57)).mono ?_
      rintro e w8 ⟨rfl, hb8⟩
      rw [decide_eq_true pb]
      have hb58 : Below w5.heap.size w5 w8 := hb57.trans (hb8.mono hb57.size)
      go_wp2_with fail
      refine (RIn_any _ d x _ (hdr5.below (Nat.le_refl _) hb58)).mono ?_
      rintro e w9 ⟨rfl, hb9⟩
      rw [decide_eq_true pd]
      go_wp2_with fail
      go_ret
      exact ⟨rfl, hB5.trans ((hb58.trans (hb9.mono hb58.size)).mono hz5)⟩
    · rw [decide_eq_false pc]
      go_wp2_with fail
      refine (RIn_any _ b x _ (hbr5.below (Nat.le_refl _) hb6)).mono ?_
      rintro e w7 ⟨rfl, hb7⟩
      have hb57 : Below w5.heap.size w5 w7 := hb6.trans (hb7.mono hb6.size)
      by_cases pb : 0 < dep b x b.length
      · have pd : 0 < dep d x d.length := kd.2 (by have := kb.1 pb; omega)
        rw [decide_eq_true pb]
        clear kb kc kd kl kle
        go_wp2_with fail
        refine (RIn_any _ d x _ (hdr5.below (Nat.le_refl _) hb57)).mono ?_
        rintro e w8 ⟨rfl, hb8⟩
        rw [decide_eq_true pd]
        go_wp2_with fail
        go_ret
        exact ⟨rfl, hB5.trans ((hb57.trans (hb8.mono hb57.size)).mono hz5)⟩
      · rw [decide_eq_false pb]
        clear kb kc kd kl kle
        go_wp2_with fail
        go_ret
        exact ⟨rfl, hB5.trans (hb57.mono hz5)⟩
set_option maxRecDepth 100000 in
theorem intervalMore_holds : Rows.IntervalMoreSaid :=
  OpenClaim.holds_of_wide 8 Try.f8 rfl rfl rfl rfl rfl rfl rfl ⟨rfl, rfl, rfl, rfl, rfl⟩ rfl rfl rfl rfl rfl (by kernel_rfl) Try.func8 (by kernel_rfl)
    (of_decide_eq_true (by kernel_rfl)) (by unfold Func.isWrapper; rw [if_neg (of_decide_eq_false (by kernel_rfl))]; exact ⟨rfl, rfl⟩)
    (fun os started H enc _ => law_lifted started 8 Try.f8 Try.func8 (by kernel_rfl) Rows.intervalMoreSpec rfl rfl
      (fun ds h => by match ds, h with | [_, _, _, _, _], _ => exact ⟨rfl, rfl, rfl⟩)
      (fun t h => by
        rw [Try.params8] at h
        simp only [List.mem_cons, List.not_mem_nil, or_false] at h
        rcases h with rfl | rfl | rfl | rfl | rfl <;> exact ⟨by kernel_rfl, of_decide_eq_true (by kernel_rfl)⟩)
      (ChangeSpec.witness6 (enc := enc) (C := Try.checked) false ⟨#[], #[.slice none 0 0, .agg #[.int .i64 0, .int .i64 0], .int .u8 0, .int .u8 0, .int .i64 0], []⟩ 8 (by kernel_rfl) (by kernel_rfl) (by kernel_rfl) (by kernel_rfl))
      (fun W base args ds p hA hok => by
        rw [Try.params8] at hA hok
        obtain ⟨v0, vs0, d0, ds0, p0, q0, hargs, rfl, rfl, h0, r0⟩ := ChangeShapes.trodAll_cons hA
        obtain ⟨v1, vs1, d1, ds1, p1, q1, rfl, rfl, rfl, h1, r1⟩ := ChangeShapes.trodAll_cons r0
        obtain ⟨v2, vs2, d2, ds2, p2, q2, rfl, rfl, rfl, h2, r2⟩ := ChangeShapes.trodAll_cons r1
        obtain ⟨v3, vs3, d3, ds3, p3, q3, rfl, rfl, rfl, h3, r3⟩ := ChangeShapes.trodAll_cons r2
        obtain ⟨v4, vs4, d4, ds4, p4, q4, rfl, rfl, rfl, h4, r4⟩ := ChangeShapes.trodAll_cons r3
        obtain ⟨rfl, rfl, rfl⟩ := ChangeShapes.trodAll_nil r4
        obtain rfl : args = #[v0, v1, v2, v3, v4] := by rw [← Array.toArray_toList (xs := args), hargs]
        obtain ⟨l0, hl0, wl0⟩ := open_ivs (hok 0 _ v0 rfl rfl) h0
        obtain ⟨a1, b1, rfl, ha1, hb1⟩ := open_iv (hok 1 _ v1 rfl rfl) h1
        obtain ⟨x2, rfl, hx2⟩ := open_u8 Try.underlying5 (hok 2 _ v2 rfl rfl) h2
        obtain ⟨x3, rfl, hx3⟩ := open_u8 Try.underlying5 (hok 3 _ v3 rfl rfl) h3
        obtain ⟨x4, rfl, hx4⟩ := open_i64 Try.underlying3 (hok 4 _ v4 rfl rfl) h4
        exact More_any W v0 l0 hl0 a1 b1 x2 hx2 x3 hx3 x4))
end Go.Proofs.Ytgoimbddefefdaa
