/- CombineLies: for every number, list of pairs and list of intervals the statement answers true and leaves its arguments as they were. No condition. -/
import Derived.Test.YtbocjiepobccpaaCbL
import Derived.Test.YtbocjiepobccpaaCbQ
import Derived.Test.YtbocjiepobccpaaFl
import Derived.Deep.RegionLaw
import Derived.IntWalk
namespace Go.Proofs.Ytbocjiepobccpaa
open Go.RowKit
attribute [local go_sem ↓] run_max_mx run_min_mn run_eql_iv run_neq_iv
theorem step_append_own {P : Program} {ops : Array Oper} {o : Oper} {a : Act} {w : World} {K : Act → World → Prop} {Q : Exit → Act → World → Prop} {E : Prop}
    (hg : o.guard = none) (s x : Operand) (t : TypeId) (hop : o.op = Op.call { callee := Callee.builtin Builtin.append, args := #[s, x], argTypes := #[t, t] })
    (base : Nat) (e : TypeId) (i : TypeInfo) (z : Value) (size bytes : Nat) (h1 : P.underlying t = some (.slice e)) (h2 : P.info? e = some i) (h3 : i.zero = some z) (h4 : i.size = size) (h5 : i.bytes = bytes) (h6 : z.cells.size = size) (h7 : 0 < size)
    (v : Value) (n : Nat) (olds : List Value) (hs : a.eval s = v) (hown : w.ownsRow base e size v n olds)
    (ad : Addr) (m c : Nat) (news : List Value) (hx : a.eval x = .slice (some ad) m c) (hn : news.length = m * size) (hc : ∀ j u, news[j]? = some u → w.cell? (ad.add j) = some u) (h1c : ∀ u ∈ news, u.oneCell' = true)
    (b1 : n + m ≤ maxLen) (b2 : (n + m) * bytes ≤ 140737488355328) (b3 : base ≤ w.heap.size)
    (hK : ∀ v' w', w'.ownsRow base e size v' (n + m) (olds ++ news) → w.grownBy w' v.ownBlock → K (a.put o.dst v') w') :
    if Region.wanted o (yielded ops a.tmps) = true then Oper.wp P o a w K Q else E := by
  have hw : Region.wanted o (yielded ops a.tmps) = true := by simp [Region.wanted, hg]
  rw [if_pos hw]
  obtain ⟨v', w', hrun, r1, r2, _⟩ := run_append_own (P := P) w base t o.type e i z size bytes h1 h2 h3 h4 h5 h6 h7 v n olds hown ad m c news hn hc h1c b1 b2 b3
  unfold Oper.wp
  simp [execOp, hop, resolve, invoke, builtin, hs, hx, hrun, Result.andThen]
  exact hK v' w' r1 r2
theorem two_cells {w : World} {B : Nat} {x y : Value} (h0 : w.cell? ⟨B, 0, none⟩ = some x) (h1 : w.cell? ⟨B, 1, none⟩ = some y) : ∀ j u, [x, y][j]? = some u → w.cell? ((⟨B, 0, none⟩ : Addr).add j) = some u := by
  intro j u hj
  match j, hj with
  | 0, hj => simp at hj; subst hj; simpa [Addr.add] using h0
  | 1, hj => simp at hj; subst hj; simpa [Addr.add] using h1
theorem own_new0 {w : World} {base q : Nat} (T : TypeId) (hh : w.heap[q]? = some (.cells #[] T)) (h : base ≤ q) : OwnP T w base (.slice (some ⟨q, 0, none⟩) 0 0) [] :=
  ⟨rfl, .inr ⟨q, 0, #[], rfl, h, hh, Nat.le_refl _, Nat.zero_le _, rfl, rfl⟩⟩
theorem encL_one (l : List Iv) : ∀ u ∈ encL l, u.oneCell' = true := by
  intro u hu
  simp only [encL, List.mem_flatMap] at hu
  obtain ⟨p, _, hu⟩ := hu
  simp at hu
  rcases hu with rfl | rfl <;> rfl
theorem ivrow_cells {w : World} {b off n cap : Nat} {l : List Iv} (h : IvRow w (.slice (some ⟨b, off, none⟩) n cap) l) : ∀ j u, (encL l)[j]? = some u → w.cell? ((⟨b, off, none⟩ : Addr).add j) = some u := by
  obtain ⟨a, cap', e, h1, h2, h3⟩ := h
  cases e
  intro j u hj
  have hjl : j < l.length * 2 := by
    rw [← encL_length]
    exact (List.getElem?_eq_some_iff.1 hj).1
  obtain ⟨b', off', e, _, h5, h6⟩ := h3 (j / 2) (by omega)
  cases e
  have h7 := encL_at l (j / 2) (by omega)
  rcases Nat.mod_two_eq_zero_or_one j with h | h
  · have e : j = j / 2 * 2 := by omega
    rw [e] at hj ⊢
    rw [h7.1] at hj
    cases hj
    simp only [Addr.add]
    split
    · rename_i h0; rw [h0] at h5; simpa using h5
    · exact h5
  · have e : j = j / 2 * 2 + 1 := by omega
    rw [e] at hj ⊢
    rw [h7.2] at hj
    cases hj
    simp only [Addr.add]
    split
    · omega
    · exact h6
/-- The slice value v reads as the list R of pairs of 16 bits. -/
def URow (w : World) (v : Value) (R : List Iv) : Prop :=
  ∃ a cap, v = .slice a R.length cap ∧ R.length ≤ cap ∧ cap ≤ 9223372036854775807 ∧ ∀ i, i < R.length → ∃ b off, a = some ⟨b, off, none⟩ ∧ b < w.heap.size ∧
    w.cell? ⟨b, off + i * 2, none⟩ = some (.int .u16 (iLo R i)) ∧ w.cell? ⟨b, off + i * 2 + 1, none⟩ = some (.int .u16 (iHi R i)) ∧ (0 ≤ iLo R i ∧ iLo R i ≤ 65535) ∧ 0 ≤ iHi R i ∧ iHi R i ≤ 65535
theorem cellsU2 : Try.prog.cellsOf 46 = 2 := by kernel_rfl
theorem cellsU1 : Try.prog.cellsOf 45 = 1 := by kernel_rfl
theorem wf_u16 {x : Int} (h : (Lit.int .u16 x).wf = true) : 0 ≤ x ∧ x ≤ 65535 := by simpa [Lit.wf, IntKind.min, IntKind.max, IntKind.signed, IntKind.bits] using h
theorem open_u2s {H : Type} {enc : TypeId × Value → H} {W : World} {base : Nat} {v : Value} {d : DataW H} {p : List MemPlace} (hok : Value.okWide Try.prog W .any base 44 v) (h : DataW.Trod enc Try.prog W 0 (fun _ => true) true 44 v d p) :
    ∃ R : List Iv, URow W v R := by
  have hc : ∀ j, j < 2 → CellInt enc Try.prog W 0 (fun _ => true) true 46 j .u16 := by
    intro j hj
    have h0 := CellInt.int (enc := enc) (w := W) (base := 0) (spare := fun _ => true) (held := true) Try.underlying45
    have h1 := CellInt.elem Try.underlying46 j hj (by rw [cellsU1]; omega) h0
    rw [cellsU1] at h1
    simpa using h1
  obtain ⟨a, len, cap, G, rfl, hl, hm, hG⟩ := open_flat (fun _ => .u16) Try.underlying44 cellsU2 (by omega) hc hok h
  refine ⟨(List.range len).map fun i => (G i 0, G i 1), a, cap, by simp, by simpa using hl, hm, fun i hi => ?_⟩
  simp only [List.length_map, List.length_range] at hi
  obtain ⟨b, off, h1, h2, h3⟩ := hG i hi
  have e1 : iLo ((List.range len).map fun i => (G i 0, G i 1)) i = G i 0 := by simp [iLo, List.getD_eq_getElem?_getD, hi]
  have e2 : iHi ((List.range len).map fun i => (G i 0, G i 1)) i = G i 1 := by simp [iHi, List.getD_eq_getElem?_getD, hi]
  rw [e1, e2]
  have q0 := h3 0 (by omega)
  have q1 := h3 1 (by omega)
  exact ⟨b, off, h1, h2, q0.1, q1.1, wf_u16 q0.2, wf_u16 q1.2⟩
def rgt (at_ : Int) (R : List Iv) (k : Nat) : List Iv := (R.take k).map fun p => (mx 0 (at_ - p.1), mn 3000000000000000 (at_ + p.2))
theorem rgt_length (at_ : Int) (R : List Iv) (k : Nat) (h : k ≤ R.length) : (rgt at_ R k).length = k := by simp [rgt]; omega
theorem rgt_snoc (at_ : Int) (R : List Iv) (k : Nat) (h : k < R.length) : rgt at_ R (k + 1) = rgt at_ R k ++ [(mx 0 (at_ - iLo R k), mn 3000000000000000 (at_ + iHi R k))] := by
  unfold rgt; rw [take_snoc_iv R k h]; simp
theorem rgt_at (at_ : Int) (R : List Iv) (i : Nat) (h : i < R.length) : iLo (rgt at_ R R.length) i = mx 0 (at_ - iLo R i) ∧ iHi (rgt at_ R R.length) i = mn 3000000000000000 (at_ + iHi R i) := by
  simp [rgt, iLo, iHi, List.getD_eq_getElem?_getD, h]
set_option maxRecDepth 100000 in
set_option maxHeartbeats 2000000 in
theorem CbLies_any (w : World) (x : Int) (hx : 0 ≤ x ∧ x ≤ 18446744073709551615) (rv : Value) (R : List Iv) (hR : URow w rv R) (v : Value) (l : List Iv) (hv : IvRow w v l) :
    Calls Try.prog 9 #[.int .u64 x, rv, v] w fun e w' => e = .returned (.bool true) ∧ Below w.heap.size w w' := by
  have hv' := hv
  obtain ⟨a, cap, rfl, h1, h2, h3⟩ := hv
  obtain ⟨ra, rcap, rfl, r1, r2, r3⟩ := hR
  by_cases hr32 : R.length ≤ 32
  case neg =>
    clear h3 r3
    go_enter Try.func9, Try.ntmps9
    go_wp2_with fail
    refine (head_any _).mono ?_
    rintro e w1 ⟨rfl, b1⟩
    go_wp2_with fail
    go_ret
    exact ⟨rfl, b1⟩
  by_cases hlr : l.length < R.length
  case neg =>
    clear h3 r3
    have hlr2 : R.length ≤ l.length := by omega
    go_enter Try.func9, Try.ntmps9
    go_wp2_with fail
    refine (head_any _).mono ?_
    rintro e w1 ⟨rfl, b1⟩
    go_wp2_with fail
    go_ret
    exact ⟨rfl, b1⟩
  by_cases hl : listB l = true
  case neg =>
    have hl' : listB l = false := by simpa using hl
    clear h3 r3
    go_enter Try.func9, Try.ntmps9
    go_wp2_with fail
    refine (head_any _).mono ?_
    rintro e w1 ⟨rfl, b1⟩
    go_wp2_with fail
    refine (RList_any _ l _ (hv'.below (Nat.le_refl _) b1)).mono ?_
    rintro e w2 ⟨rfl, b2⟩
    rw [hl']
    go_wp2_with fail
    go_ret
    have := b1.size
    exact ⟨rfl, (by ((repeat' (first | exact Below.refl _ _ | exact b1 | exact b2 | refine Below.alloc ?_ ?_ _ | refine Below.setCell ?_ ?_ _ | refine Below.drew ?_ | refine below_drewN ?_ _ | refine Below.trans ?_ (b1.mono ?_) | refine Below.trans ?_ (b2.mono ?_))) <;> (first | omega | (simp; done) | (simp; omega))))⟩
  have hlr3 : decide (R.length ≤ l.length) = false := decide_eq_false (by omega)
  have hr33 : decide ((32 : Int) < R.length) = false := decide_eq_false (by omega)
  obtain ⟨i0, hi, hz0, hz1, hz2⟩ := info_parts infoIv
  obtain ⟨t, htt, t0, t1⟩ : ∃ t, t = x % 3000000000000001 ∧ 0 ≤ t ∧ t ≤ 3000000000000000 := ⟨_, rfl, by omega, by omega⟩
  clear h3
  go_enter Try.func9, Try.ntmps9
  go_wp2_with fail
  refine (head_any _).mono ?_
  rintro e w1 ⟨rfl, b1⟩
  go_wp2_with fail
  refine (RList_any _ l _ (hv'.below (Nat.le_refl _) b1)).mono ?_
  rintro e w2 ⟨rfl, b2⟩
  rw [hl]
  have z1 := b1.size
  have hB2 : Below w.heap.size w w2 := (by ((repeat' (first | exact Below.refl _ _ | exact b1 | exact b2 | refine Below.alloc ?_ ?_ _ | refine Below.setCell ?_ ?_ _ | refine Below.drew ?_ | refine below_drewN ?_ _ | refine Below.trans ?_ (b1.mono ?_) | refine Below.trans ?_ (b2.mono ?_))) <;> (first | omega | (simp; done) | (simp; omega))))
  have z2 := hB2.size
  have Hl := hide hl
  clear hl
  go_wp2_with fail
  rw [← htt]
  clear htt
  go_loopw [9, 10] (fun s i wr => ∃ k : Nat, k ≤ R.length ∧ i = .int .i64 k ∧ OwnIv wr w.heap.size s (rgt t R k) ∧ Below w.heap.size w wr) (fun _ i _ => R.length - (intOf i).toNat)
  case atStart => exact ⟨0, Nat.zero_le _, rfl, OwnP.nil _ _, hB2⟩
  case round =>
    obtain ⟨k, hk, rfl, hown, hB⟩ := hrel
    have hz := hB.size
    have hlk := rgt_length t R k hk
    by_cases hlt : k < R.length
    · obtain ⟨b, off, rfl, h4, h5, h6, u1, u2⟩ := r3 k hlt
      have h5' := (hB.cell (p := ⟨b, off + k * 2, none⟩) h4).trans h5
      have h6' := (hB.cell (p := ⟨b, off + k * 2 + 1, none⟩) h4).trans h6
      have hsn := hide (rgt_snoc t R k hlt)
      have hlow := fun k h => (hown.lt k h).1
      unfold OwnIv OwnP at hown
      rw [hlk] at hown
      have Hlk := hide hlk
      clear h5 h6 r3 hlk
      have ww1 : IntKind.i64.wrap (iLo R k) = iLo R k := IntWalk.i64_in _ (by omega)
      have ww2 : IntKind.i64.wrap (iHi R k) = iHi R k := IntWalk.i64_in _ (by omega)
      have ww3 : IntKind.i64.wrap (t - iLo R k) = t - iLo R k := IntWalk.i64_in _ (by omega)
      have ww4 : IntKind.i64.wrap (t + iHi R k) = t + iHi R k := IntWalk.i64_in _ (by omega)
      go_wp2_with fail
      go_region_law (refine step_append_own rfl (.tmp 41) (.tmp 61) 22 rfl w.heap.size 29 i0 (.agg #[.int .i64 0, .int .i64 0]) 2 16 Try.underlying22 hi hz0 hz1 hz2 rfl (by decide) _ k (encL (rgt t R k)) (by simp [Act.eval, Act.put]) (ownsRow_below (World.ownsRow.alloc hown _) (Below.refl _ _).drew) ⟨wr.heap.size, 0, none⟩ 1 1 [.int .i64 (mx 0 (t - iLo R k)), .int .i64 (mn 3000000000000000 (t + iHi R k))] (by simp [Act.eval, Act.put]) rfl (two_cells (by simp [go_sem]) (by simp [go_sem])) (by simp [Value.oneCell']) (by unfold maxLen; omega) (by omega) (by first | omega | (simp; omega)) ?_; intro v3 w3 hown3 hg3; have hB3 : Below w.heap.size w w3 := Below.grown (by ((repeat' (first | exact Below.refl _ _ | exact hB | refine Below.alloc ?_ ?_ _ | refine Below.setCell ?_ ?_ _ | refine Below.drew ?_ | refine below_drewN ?_ _ | refine Below.trans ?_ (hB.mono ?_))) <;> (first | omega | (simp; done) | (simp; omega)))) hg3 (by first | omega | (simp; omega)) hlow)
      all_goals go_wp2_with fail
      all_goals
        go_roundw
        case rel => exact ⟨k + 1, by omega, by go_num, by rw [hsn.out]; exact OwnP.app (by rw [Hlk.out]; exact hown3), hB3⟩
        case measure => simp [intOf]; omega
    · obtain rfl : k = R.length := by omega
      have hat := fun i (hi : i < R.length) => rgt_at t R i hi
      have hLok : listB (rgt t R R.length) = true := by
        rw [listB_iff, hlk]
        refine ⟨by omega, fun i hi => ?_⟩
        obtain ⟨b, off, _, _, _, _, u1, u2⟩ := r3 i hi
        rw [(hat i hi).1, (hat i hi).2]
        have := mx_spec 0 (t - iLo R i)
        have := mn_spec 3000000000000000 (t + iHi R i)
        omega
      have law := lies_law (ls := l) (L := rgt t R R.length) (t := t) Hl.out hLok (by omega) (by omega) (fun i hi => by
        rw [hlk] at hi
        obtain ⟨b, off, _, _, _, _, u1, u2⟩ := r3 i hi
        rw [(hat i hi).1, (hat i hi).2]
        have := mx_spec 0 (t - iLo R i)
        have := mn_spec 3000000000000000 (t + iHi R i)
        omega)
      obtain ⟨e1, e2, e3, e4, e5⟩ := law
      have E3 := hide e3
      have hLrow := hown.row
      have hrow := hv'.below (Nat.le_refl _) hB
      clear hat r3 hLok hown e3
      generalize rgt t R R.length = L at *
      have hLl : L.length ≤ 32 := by omega
      have hLp : l.length < L.length := by omega
      clear hlk
      go_wp2_with fail
      refine (Hull_any _ L _ hLrow).mono ?_
      rintro e w3 ⟨rfl, b3⟩
      rw [e1]
      have hW : Below wr.heap.size wr (w3.alloc (.cells #[.int .i64 (hullLo L), .int .i64 (hullHi L)] 29)) := by have := b3.size; exact (by ((repeat' (first | exact Below.refl _ _ | exact b3 | refine Below.alloc ?_ ?_ _ | refine Below.setCell ?_ ?_ _ | refine Below.drew ?_ | refine below_drewN ?_ _ | refine Below.trans ?_ (b3.mono ?_))) <;> (first | omega | (simp; done) | (simp; omega))))
      have y0 : (w3.alloc (.cells #[.int .i64 (hullLo L), .int .i64 (hullHi L)] 29)).cell? ⟨w3.heap.size, 0, none⟩ = some (.int .i64 (hullLo L)) := by simp
      have y1 : (w3.alloc (.cells #[.int .i64 (hullLo L), .int .i64 (hullHi L)] 29)).cell? ⟨w3.heap.size, 1, none⟩ = some (.int .i64 (hullHi L)) := by simp
      have zW : w3.heap.size < (w3.alloc (.cells #[.int .i64 (hullLo L), .int .i64 (hullHi L)] 29)).heap.size := by simp
      have hrW := hrow.below (Nat.le_refl _) hW
      have hLW := hLrow.below (Nat.le_refl _) hW
      go_upto_region 11 with fail
      have hBW : Below w.heap.size w (w3.alloc (.cells #[.int .i64 (hullLo L), .int .i64 (hullHi L)] 29)) := hB.trans (hW.mono hz)
      clear hW b3 hB hB2 b1 b2 hrow hLrow
      generalize w3.alloc (.cells #[.int .i64 (hullLo L), .int .i64 (hullHi L)] 29) = W at *
      obtain ⟨Lb, Loff, Lcap, rfl, q1, q2, q3, -⟩ := hLW.at0 (by omega)
      by_cases hl0 : l.length = 0
      · obtain rfl : l = [] := List.eq_nil_of_length_eq_zero hl0
        have e2 : cbEr L 0 = 0 := e2
        have E3 : Hid (hasB (cbLo L 0) (cbHi L 0) t = true) := E3
        have e4 : hullLo L ≤ cbLo L 0 := e4
        have e5 : cbHi L 0 ≤ hullHi L := e5
        rcases a with _ | ad
        all_goals
          go_wp2_with (at_builtin; refine wpList_append_own _ rfl _ _ 22 rfl W.heap.size 29 i0 (.agg #[.int .i64 0, .int .i64 0]) 2 16 Try.underlying22 hi hz0 hz1 hz2 rfl (by decide) _ 0 [] rfl (own_new0 _ (World.alloc_heap_new W _) (Nat.le_refl _)) ⟨Lb, Loff, none⟩ L.length Lcap (encL L) rfl (encL_length L) (ivrow_cells (hLW.below (Nat.le_refl _) (by ((repeat' (first | exact Below.refl _ _ | refine Below.alloc ?_ ?_ _ | refine Below.setCell ?_ ?_ _ | refine Below.drew ?_ | refine below_drewN ?_ _)) <;> (first | omega | (simp; done) | (simp; omega)))))) (encL_one L) (by unfold maxLen; omega) (by omega) (by simp) ?_; intro v4 w4 hown4 hg4 _)
          have hO : OwnIv w4 W.heap.size v4 L := by unfold OwnIv OwnP; simpa using hown4
          have hB4 : Below W.heap.size W w4 := Below.grown (by ((repeat' (first | exact Below.refl _ _ | refine Below.alloc ?_ ?_ _ | refine Below.setCell ?_ ?_ _ | refine Below.drew ?_ | refine below_drewN ?_ _)) <;> (first | omega | (simp; done) | (simp; omega)))) hg4 (by simp) (fun k h => by have h' : some W.heap.size = some k := h; cases h'; exact Nat.le_refl _)
          have hz4 := hB4.size
          refine (Combine_any _ L _ _ hO.row).mono ?_
          rintro e w5 ⟨rfl, b5⟩
          rw [e2]
          have hB5 : Below W.heap.size W w5 := hB4.trans (b5.mono hz4)
          have y0' := (hB5.cell (p := ⟨w3.heap.size, 0, none⟩) zW).trans y0
          have y1' := (hB5.cell (p := ⟨w3.heap.size, 1, none⟩) zW).trans y1
          have hz5 := hB5.size
          have k35 : w3.heap.size < w5.heap.size := by omega
          have k36 : w3.heap.size < w5.heap.size + 1 := by omega
          have e3 := E3.out
          go_wp2_with (go_at_call 22; refine (RHas_any _ _ _ _).mono ?_; rintro e w' ⟨rfl, rfl⟩)
          go_ret
          exact ⟨ret_bool (by first | (simp; done) | (simp; omega)), hBW.trans ((show Below W.heap.size W _ from (by ((repeat' (first | exact Below.refl _ _ | exact hB5 | refine Below.alloc ?_ ?_ _ | refine Below.setCell ?_ ?_ _ | refine Below.drew ?_ | refine below_drewN ?_ _ | refine Below.trans ?_ (hB5.mono ?_))) <;> (first | omega | (simp; done) | (simp; omega))))).mono (by have := hBW.size; omega))⟩
      · obtain ⟨lb, loff, lcap, hla, l1, l2, l3, -⟩ := hrW.at0 (by omega)
        cases hla
        · go_wp2_with (at_builtin; first | (refine wpList_append_own _ rfl _ _ 22 rfl W.heap.size 29 i0 (.agg #[.int .i64 0, .int .i64 0]) 2 16 Try.underlying22 hi hz0 hz1 hz2 rfl (by decide) _ 0 [] rfl (own_new0 _ (World.alloc_heap_new W _) (Nat.le_refl _)) ⟨lb, loff, none⟩ l.length cap (encL l) rfl (encL_length l) (ivrow_cells (hrW.below (Nat.le_refl _) (by ((repeat' (first | exact Below.refl _ _ | refine Below.alloc ?_ ?_ _ | refine Below.setCell ?_ ?_ _ | refine Below.drew ?_ | refine below_drewN ?_ _)) <;> (first | omega | (simp; done) | (simp; omega)))))) (encL_one l) (by unfold maxLen; omega) (by omega) (by simp) ?_; intro v1 X1 hown1 hg1 _; have hR1 : Below W.heap.size W X1 := Below.grown (by ((repeat' (first | exact Below.refl _ _ | refine Below.alloc ?_ ?_ _ | refine Below.setCell ?_ ?_ _ | refine Below.drew ?_ | refine below_drewN ?_ _)) <;> (first | omega | (simp; done) | (simp; omega)))) hg1 (by simp) (fun k h => by have h' : some W.heap.size = some k := h; cases h'; exact Nat.le_refl _); have zR1 := hR1.size) | (refine wpList_append_own _ rfl _ _ 22 rfl W.heap.size 29 i0 (.agg #[.int .i64 0, .int .i64 0]) 2 16 Try.underlying22 hi hz0 hz1 hz2 rfl (by decide) _ (0 + l.length) ([] ++ encL l) rfl hown1 ⟨Lb, Loff, none⟩ L.length Lcap (encL L) rfl (encL_length L) (ivrow_cells (hLW.below (Nat.le_refl _) hR1)) (encL_one L) (by unfold maxLen; omega) (by omega) (by omega) ?_; intro v4 w4 hown4 hg4 _))
          have hO : OwnIv w4 W.heap.size v4 (l ++ L) := by unfold OwnIv OwnP; rw [encL_append, List.length_append]; simpa using hown4
          have hB4 : Below W.heap.size W w4 := Below.grown hR1 hg4 zR1 (fun k h => (hown1.lt k h).1)
          have hz4 := hB4.size
          refine (Combine_any _ (l ++ L) _ _ hO.row).mono ?_
          rintro e w5 ⟨rfl, b5⟩
          rw [e2]
          have hB5 : Below W.heap.size W w5 := hB4.trans (b5.mono hz4)
          have y0' := (hB5.cell (p := ⟨w3.heap.size, 0, none⟩) zW).trans y0
          have y1' := (hB5.cell (p := ⟨w3.heap.size, 1, none⟩) zW).trans y1
          have hz5 := hB5.size
          have k35 : w3.heap.size < w5.heap.size := by omega
          have k36 : w3.heap.size < w5.heap.size + 1 := by omega
          have e3 := E3.out
          go_wp2_with (go_at_call 22; refine (RHas_any _ _ _ _).mono ?_; rintro e w' ⟨rfl, rfl⟩)
          go_ret
          exact ⟨ret_bool (by first | (simp; done) | (simp; omega)), hBW.trans ((show Below W.heap.size W _ from (by ((repeat' (first | exact Below.refl _ _ | exact hB5 | refine Below.alloc ?_ ?_ _ | refine Below.setCell ?_ ?_ _ | refine Below.drew ?_ | refine below_drewN ?_ _ | refine Below.trans ?_ (hB5.mono ?_))) <;> (first | omega | (simp; done) | (simp; omega))))).mono (by have := hBW.size; omega))⟩
set_option maxRecDepth 100000 in
theorem combineLies_holds : Rows.CombineLiesSaid :=
  OpenClaim.holds_of_wide 9 Try.f9 rfl rfl rfl rfl rfl rfl rfl ⟨rfl, rfl, rfl, rfl, rfl⟩ rfl rfl rfl rfl rfl (by kernel_rfl) Try.func9 (by kernel_rfl)
    (of_decide_eq_true (by kernel_rfl)) (by unfold Func.isWrapper; rw [if_neg (of_decide_eq_false (by kernel_rfl))]; exact ⟨rfl, rfl⟩)
    (fun os started H enc _ => law_lifted started 9 Try.f9 Try.func9 (by kernel_rfl) Rows.combineLiesSpec rfl rfl
      (fun ds h => by match ds, h with | [_, _, _], _ => exact ⟨rfl, rfl, rfl⟩)
      (fun t h => by
        rw [Try.params9] at h
        simp only [List.mem_cons, List.not_mem_nil, or_false] at h
        rcases h with rfl | rfl | rfl <;> exact ⟨by kernel_rfl, of_decide_eq_true (by kernel_rfl)⟩)
      (ChangeSpec.witness6 (enc := enc) (C := Try.checked) false ⟨#[], #[.int .u64 0, .slice none 0 0, .slice none 0 0], []⟩ 8 (by kernel_rfl) (by kernel_rfl) (by kernel_rfl) (by kernel_rfl))
      (fun W base args ds p hA hok => by
        rw [Try.params9] at hA hok
        obtain ⟨v0, vs0, d0, ds0, p0, q0, hargs, rfl, rfl, h0, r0⟩ := ChangeShapes.trodAll_cons hA
        obtain ⟨v1, vs1, d1, ds1, p1, q1, rfl, rfl, rfl, h1, r1⟩ := ChangeShapes.trodAll_cons r0
        obtain ⟨v2, vs2, d2, ds2, p2, q2, rfl, rfl, rfl, h2, r2⟩ := ChangeShapes.trodAll_cons r1
        obtain ⟨rfl, rfl, rfl⟩ := ChangeShapes.trodAll_nil r2
        obtain rfl : args = #[v0, v1, v2] := by rw [← Array.toArray_toList (xs := args), hargs]
        obtain ⟨x0, rfl, hx0⟩ := open_u64 Try.underlying43 (hok 0 _ v0 rfl rfl) h0
        obtain ⟨l1, hl1⟩ := open_u2s (hok 1 _ v1 rfl rfl) h1
        obtain ⟨l2, hl2, wl2⟩ := open_ivs (hok 2 _ v2 rfl rfl) h2
        exact CbLies_any W x0 hx0 v1 l1 hl1 v2 l2 hl2))
end Go.Proofs.Ytbocjiepobccpaa
