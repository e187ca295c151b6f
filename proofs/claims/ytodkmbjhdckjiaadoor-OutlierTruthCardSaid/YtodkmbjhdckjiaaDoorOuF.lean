/- Package outlier: the indexes of a set, one by one; as a list. -/
import Derived.Test.YtodkmbjhdckjiaaDoorOuE
import Derived.Test.YtodkmbjhdckjiaaDoorRf
import Derived.RangeFuncBox
import Derived.RangeFuncFrom
import Derived.Shelf.Abstract
import Derived.Shelf.AbstractIn
import Derived.Shelf.RegionOpen
import Derived.OwnWalkIn
import Derived.TacticsInMore
import Derived.LoopNIn
import Derived.LoopIn
import Derived.Sort.QuietIn
import Derived.Sort.BigQuietIn
import Derived.Sort.QuietTacIn
import Derived.BigRegionIn
namespace Go.Proofs.YtodkmbjhdckjiaaDoor
open Go.RowKit Go.Shelf
attribute [local go_sem] Oper.semAt_some

theorem drop_low {s : Nat} (h0 : s ≠ 0) (h : s < 4294967296) : ∃ k m, k = Lib.ctz 32 s ∧ k < 32 ∧ s = 2 ^ k * (2 * m + 1) ∧ s &&& (s - 1) = 2 ^ k * (2 * m) := by
  obtain ⟨m, hm, hk⟩ := Lib.ctzFrom_spec 32 s (by omega) h
  have e : Lib.ctz 32 s = Lib.ctzFrom 32 s := by simp [Lib.ctz, h0]
  rw [← e] at hm hk
  refine ⟨_, m, rfl, hk, hm, ?_⟩
  generalize Lib.ctz 32 s = k at *
  have hp : 0 < 2 ^ k := Nat.two_pow_pos k
  have e1 : s - 1 = 2 ^ k * (2 * m) + (2 ^ k - 1) := by
    rw [hm, Nat.mul_add, Nat.mul_one]; omega
  have t : ∀ q i, (2 ^ k * q).testBit i = if i < k then false else q.testBit (i - k) := fun q i => by
    have := Nat.testBit_two_pow_mul_add q hp i
    rw [Nat.add_zero] at this
    rw [this]; simp
  apply Nat.eq_of_testBit_eq
  intro i
  rw [Nat.testBit_and, e1, Nat.testBit_two_pow_mul_add _ (by omega), hm, t, t]
  by_cases hi : i < k
  · simp [hi]
  · simp only [hi, if_false]
    rcases Nat.eq_zero_or_pos (i - k) with hj | hj
    · rw [hj, Nat.testBit_zero, Nat.testBit_zero]; simp
    · obtain ⟨j, hj2⟩ : ∃ j, i - k = j + 1 := ⟨i - k - 1, by omega⟩
      rw [hj2, Nat.testBit_succ, Nat.testBit_succ, show (2 * m + 1) / 2 = m by omega, show 2 * m / 2 = m by omega]; simp
theorem bitsTo_low (k m : Nat) : ∀ n, bitsTo (2 ^ k * (2 * m + 1)) n = (if k < n then [(k : Int)] else []) ++ bitsTo (2 ^ k * (2 * m)) n
  | 0 => by simp [bitsTo]
  | n + 1 => by
    have ih := bitsTo_low k m n
    have hp : 0 < 2 ^ k := Nat.two_pow_pos k
    have t : ∀ q, (2 ^ k * q).testBit n = if n < k then false else q.testBit (n - k) := fun q => by
      have := Nat.testBit_two_pow_mul_add q hp n
      rw [Nat.add_zero] at this
      rw [this]; simp
    unfold bitsTo
    rw [ih, t, t]
    rcases Nat.lt_trichotomy n k with h | h | h
    · simp [h, show ¬ k < n by omega, show ¬ k < n + 1 by omega]
    · subst h
      have hz : ∀ i, i < n → (2 ^ n * (2 * m)).testBit i = (0 : Nat).testBit i := fun i hi => by
        have := Nat.testBit_two_pow_mul_add (2 * m) hp i
        rw [Nat.add_zero] at this
        rw [this]; simp [hi]
      have e0 : ∀ j, bitsTo 0 j = [] := fun j => by
        induction j with
        | zero => rfl
        | succ j ih => unfold bitsTo; simp [ih]
      rw [bitsTo_eq n hz, e0]
      simp [Nat.testBit_zero]
    · obtain ⟨j, hj⟩ : ∃ j, n - k = j + 1 := ⟨n - k - 1, by omega⟩
      simp only [show ¬ n < k by omega, h, show k < n + 1 by omega, if_false, if_true, hj, Nat.testBit_succ, show (2 * m + 1) / 2 = m by omega, show 2 * m / 2 = m by omega]
      split <;> simp
theorem bitsL_low {s : Nat} (h0 : s ≠ 0) (h : s < 4294967296) : bitsL s = (Lib.ctz 32 s : Int) :: bitsL (s &&& (s - 1)) ∧ s &&& (s - 1) < s := by
  obtain ⟨k, m, e1, e2, e3, e4⟩ := drop_low h0 h
  have hp : 0 < 2 ^ k := Nat.two_pow_pos k
  refine ⟨?_, ?_⟩
  · have hl := bitsTo_low k m 32
    rw [← e3, ← e4, if_pos e2, e1] at hl
    unfold bitsL; rw [hl]; rfl
  · rw [e4]
    have : s = 2 ^ k * (2 * m) + 2 ^ k := by rw [e3, Nat.mul_add, Nat.mul_one]
    omega
theorem bitsL_zero : bitsL 0 = [] := by decide
set_option maxRecDepth 100000 in
set_option maxHeartbeats 400000 in
theorem indexes_any (s : Nat) (w : World) : Calls Tryd.prog 39 #[.int .u32 (s : Int)] w fun e w' =>
    e = .returned (.func (.func 45) #[] #[.pointer (some ⟨w.heap.size, 0, none⟩)]) ∧ w' = w.alloc (.cells #[.int .u32 (s : Int)] 51) := by
  go_enter Tryd.func39, Tryd.ntmps39
  go_wp2_with fail
  go_ret
  exact ⟨rfl, rfl⟩
def cellNat (w : World) (b : Nat) : Nat := match w.cell? ⟨b, 0, none⟩ with | some (.int _ x) => x.toNat | _ => 0
theorem tab_kept {K : Nat → Prop} {A B : World} (h : TabAt 0 Lib.deBruijn32tab A) (hk : KeepH K A B) (h0 : K 0) : TabAt 0 Lib.deBruijn32tab B := fun j hj => (hk.cell h0 j).trans (h j hj)
set_option maxRecDepth 100000 in
set_option maxHeartbeats 2000000 in
theorem idx_hid (n : Nat) (hn : 1 ≤ n) (Bn s : Nat) (hs : s < 65536) (w : World) (hBn : 0 < Bn) (hc : w.cell? ⟨Bn, 0, none⟩ = some (.int .u32 (s : Int))) (hf : w.frozen? ⟨Bn, 0, none⟩ = false) (hT : TabAt 0 Lib.deBruijn32tab w) :
    SeqHid Fence.wide n Tryd.prog 45 #[.pointer (some ⟨Bn, 0, none⟩)] (fun x : Int => #[Value.int .i64 x]) (fun ys => ys = bitsL s) 32 (fun r => r = 0) (fun r => r = Bn) w := by
  intro l J W hW hJ hY h0
  have hBl := World.block_lt_of_cell? _ _ hc
  simp only at hBl
  have hcW := (hW.cell (p := ⟨Bn, 0, none⟩) hBl).trans hc
  have hfW := (hW.frozen (p := ⟨Bn, 0, none⟩) hBl).trans hf
  have hTW : TabAt 0 Lib.deBruijn32tab W := fun j hj => (hW.cell (p := ⟨0, j, none⟩) (by show 0 < w.heap.size; omega)).trans (hT j hj)
  have hBW : Bn < W.heap.size := Nat.lt_of_lt_of_le hBl hW.size
  refine callsIn_of_wp Tryd.func45 rfl trivial ?_ rfl
  simp only [Tryd.ntmps45, List.size_toArray, List.length_cons, List.length_nil, Nat.reduceAdd, Nat.reduceSub, Array.replicate_succ, Array.replicate_zero, List.push_toArray, List.append_toArray, List.nil_append, List.cons_append]
  gi_wp2
  gi_loopw [3] (fun _ wr => ∃ (z : Nat) (pre : List Int), z < 65536 ∧ wr.cell? ⟨Bn, 0, none⟩ = some (.int .u32 (z : Int)) ∧ wr.frozen? ⟨Bn, 0, none⟩ = false ∧ Hid (pre ++ bitsL z = bitsL s) ∧ J (fun r => r = Bn) pre wr ∧ TabAt 0 Lib.deBruijn32tab wr ∧ W.heap.size ≤ wr.heap.size) (fun _ wr => cellNat wr Bn)
  case atStart => exact ⟨s, [], hs, hcW, hfW, hide rfl, h0, hTW, Nat.le_refl _⟩
  case round =>
    obtain ⟨z, pre, hz, hcz, hfz, Hp, hJz, hTz, hsz⟩ := hrel
    by_cases hz0 : z = 0
    · subst hz0
      have Hc := hide hcz
      gi_wp2
      go_end0
      refine ⟨⟨_, rfl⟩, _, pre, ?_, hJz⟩
      have := Hp.out
      rwa [bitsL_zero, List.append_nil] at this
    · have hzb : ((z : Int) != 0) = true := by rw [bne_iff_ne]; omega
      obtain ⟨b1, b2⟩ := bitsL_low hz0 (show z < 4294967296 by omega)
      have hw : ((z : Int) - 1) % 4294967296 = ((z - 1 : Nat) : Int) := by omega
      have hw2 : IntKind.u32.wrap ((z : Int) - 1) = ((z - 1 : Nat) : Int) := by rw [wrap_u32', hw]
      have hand := bits_and_u32_nat z (z - 1) (by omega) (by omega)
      have hzl : z &&& (z - 1) < 65536 := by omega
      have Hpn : Hid ((pre ++ [(Lib.ctz 32 z : Int)]) ++ bitsL (z &&& (z - 1)) = bitsL s) := by
        show _ = _
        rw [List.append_assoc, List.singleton_append, ← b1]; exact Hp.out
      have hlen : pre.length < 32 := by
        have h1 := congrArg List.length Hp.out
        rw [b1] at h1
        have := bitsTo_length s 32
        unfold bitsL at h1 
        simp at h1
        omega
      have htr := Trail_any z wr (by omega) hz0 hTz
      obtain ⟨y, hy⟩ : ∃ y, y = z &&& (z - 1) := ⟨_, rfl⟩
      obtain ⟨c, hcq⟩ : ∃ c, c = Lib.ctz 32 z := ⟨_, rfl⟩
      rw [← hy] at hand b2 Hpn hzl
      rw [← hcq] at Hpn htr
      obtain ⟨z1, hz1⟩ : ∃ z1, z1 = z - 1 := ⟨_, rfl⟩
      rw [← hz1] at hw hw2 hand
      clear b1 hy hcq hz1
      obtain ⟨fn, tmps, assign, body, hyy, hR⟩ := hY _ pre (c : Int) wr hJz hlen
      gi_wp2_with fail
      refine ⟨trivial, (callsIn_wide.2 htr).mono ?_⟩
      rintro e w' ⟨rfl, rfl⟩
      gi_wp2
      refine hR.mono ?_
      rintro e W3 ⟨rfl, hJ3, hk3⟩
      have hc3 := (hk3.cell (b := Bn) (.inl rfl) 0).trans hcz
      have hf3 := (hk3.frozen (b := Bn) (.inl rfl) 0).trans hfz
      have hT3 := tab_kept hTz hk3 (.inr rfl)
      gi_wp2
      go_roundw
      case rel =>
        refine ⟨y, _, hzl, World.cell?_setCell_same' _ _ _ (by simp [hc3]), by simp [hf3], Hpn, hJ _ _ _ _ _ (some Bn) hJ3 (grownBy_setCell' _ _ _) (fun r e => by cases e; exact .inl rfl) (fun r hr => .inl hr), ?_, ?_⟩
        · intro j hj
          exact (World.cell?_setCell_other _ _ _ _ (fun e => by have := congrArg Addr.block e; simp only at this; omega)).trans (hT3 j hj)
        · exact Nat.le_trans hsz (Nat.le_trans hk3.1 (grownBy_setCell' _ _ _).size)
      case measure =>
        have e1 : cellNat (W3.setCell ⟨Bn, 0, none⟩ (.int .u32 (y : Int))) Bn = y := by
          unfold cellNat
          rw [World.cell?_setCell_same' _ _ _ (by simp [hc3])]; simp
        have e2 : cellNat w' Bn = z := by unfold cellNat; rw [hcz]; simp
        first | (rw [e1, e2]; exact b2) | (simp only [e1, e2]; exact b2)
theorem infoIs0 : (Tryd.prog.info? 3).map (fun i => (i.zero, i.size, i.bytes)) = some (some (.int .i64 0), 1, 8) := by kernel_rfl
theorem own_cells0 {w : World} {base : Nat} {v : Value} {c : List Int} (h : OwnIs w base v c) {r : Nat} (hr : v.ownBlock = some r) {o : Obj} (ho' : w.heap[r]? = some o) : o.isCells = true := by
  rcases h.2 with ⟨hv, _⟩ | ⟨g, cap, cur, hv, _, hc, _⟩
  · rw [hv] at hr; cases hr
  · rw [hv] at hr; cases hr
    rw [hc] at ho'; cases ho'; rfl
theorem ownsRow_setCell_below {w : World} {base e size n : Nat} {v : Value} {xs : List Value} (h : w.ownsRow base e size v n xs) {p : Addr} (hp : p.block < base) (u : Value) : (w.setCell p u).ownsRow base e size v n xs := by
  refine World.ownsRow.kept h (row := some p.block) ⟨rfl, rfl, rfl, by simp [World.setCell], fun k _ hk => Below.heap_setCell _ _ _ k (fun e => hk (by rw [e]))⟩ ?_
  cases hv : v.ownBlock with
  | none => exact .inl rfl
  | some q => exact .inr (fun e => by have := (World.ownsRow.lt h q hv).1; cases e; omega)
theorem own_cells1 {w : World} {base e size n : Nat} {v : Value} {xs : List Value} (h : w.ownsRow base e size v n xs) {r : Nat} (hr : v.ownBlock = some r) {o : Obj} (ho' : w.heap[r]? = some o) : o.isCells = true := by
  rcases h.2 with ⟨hv, _⟩ | ⟨g, cap, cur, hv, _, hc, _⟩
  · rw [hv] at hr; cases hr
  · rw [hv] at hr; cases hr
    rw [hc] at ho'; cases ho'; rfl
/-- The list that grows lies in a box; nothing of it is hidden. -/
def LstI (w : World) (H : Nat → Prop) (pre : List Int) (W : World) : Prop :=
  ∃ ov, W.cell? ⟨w.heap.size, 0, none⟩ = some ov ∧ W.frozen? ⟨w.heap.size, 0, none⟩ = false ∧ OwnIs W (w.heap.size + 1) ov pre ∧ ¬ H w.heap.size ∧ (∀ r, ov.ownBlock = some r → ¬ H r) ∧ (∀ r, H r → w.heap.size ≤ r) ∧ w.heap.size < W.heap.size ∧ Below w.heap.size w W
theorem OwnIs.grownOther {w w' : World} {base : Nat} {v : Value} {c : List Int} {row : Option Nat} (h : OwnIs w base v c) (hg : w.grownBy w' row) (hr : ∀ r, v.ownBlock = some r → row ≠ some r) : OwnIs w' base v c := by
  refine World.ownsRow.kept h hg ?_
  cases hv : v.ownBlock with
  | none => exact .inl rfl
  | some r => exact .inr (fun e => hr r hv e.symm)
theorem LstI_own (w : World) (B : Nat) (hB : w.heap.size < B) : OwnH B (LstI w) := by
  rintro H H' pre A C row ⟨ov, h1, h2, h3, h4, h5, h6, h7, h8⟩ hg hr hH'
  have hgs := hg.size
  have hl3 := World.ownsRow.lt h3
  have hbox : some w.heap.size ≠ row := by
    intro e
    rcases hr _ e.symm with h | ⟨h, _⟩
    · exact h4 h
    · omega
  have hrow : ∀ r, ov.ownBlock = some r → row ≠ some r := by
    intro r hv e
    rcases hr _ e with h | ⟨_, o, ho, hc⟩
    · exact h5 r hv h
    · have := own_cells0 h3 hv ho; rw [this] at hc; cases hc
  refine ⟨ov, (World.cell?_of_block (a := ⟨w.heap.size, 0, none⟩) (hg.block _ h7 hbox)).trans h1, (World.frozen?_of_block (a := ⟨w.heap.size, 0, none⟩) (hg.block _ h7 hbox)).trans h2, h3.grownOther hg hrow, ?_, ?_, ?_, by omega, ?_⟩
  · intro h; rcases hH' _ h with h | h
    · exact h4 h
    · omega
  · intro r hv h; rcases hH' _ h with h | h
    · exact h5 r hv h
    · have := (hl3 r hv).2; omega
  · intro r h; rcases hH' _ h with h | h
    · exact h6 r h
    · omega
  · refine h8.grown hg (by omega) (fun r e => ?_)
    rcases hr r e with h | ⟨h, _⟩
    · exact h6 r h
    · omega
set_option maxRecDepth 100000 in
set_option maxHeartbeats 2000000 in
theorem list_any (s : Nat) (hs : s < 65536) (w : World) (hw0 : 0 < w.heap.size) (hT : TabAt 0 Lib.deBruijn32tab w) :
    Calls Tryd.prog 30 #[.int .u32 (s : Int)] w fun e w' => ∃ ov, e = .returned ov ∧ OwnIs w' w.heap.size ov (bitsL s) ∧ Below w.heap.size w w' := by
  obtain ⟨i0, hi, hz0, hz1, hz2⟩ := info_parts infoIs0
  refine (callsIn_wide (n := 4)).1 ?_
  refine callsIn_of_wp_marks Tryd.func30 rfl trivial ?_ rfl
  simp only [Tryd.ntmps30, List.size_toArray, List.length_cons, List.length_nil, Nat.reduceAdd, Nat.reduceSub, Array.replicate_succ, Array.replicate_zero, List.push_toArray, List.append_toArray, List.nil_append, List.cons_append]
  gi_wp2_with fail
  refine ⟨trivial, (callsIn_wide.2 (indexes_any s _)).mono ?_⟩
  rintro e w' ⟨rfl, rfl⟩
  gi_wp2_with fail
  have x2 : ((w.alloc (.cells #[.slice none 0 0] 31)).alloc (.cells #[.int .u32 (s : Int)] 51)).heap.size = w.heap.size + 2 := by simp
  have b0 : Below w.heap.size w ((w.alloc (.cells #[.slice none 0 0] 31)).alloc (.cells #[.int .u32 (s : Int)] 51)) := (by ((repeat' (first | exact Below.refl _ _ | refine Below.alloc ?_ ?_ _ | refine Below.setCell ?_ ?_ _ | refine Below.drew ?_ | refine below_drewN ?_ _)) <;> (first | omega | (simp; done) | (simp; omega))))
  have x1 : LstI w (fun r => r = w.heap.size + 1) [] ((w.alloc (.cells #[.slice none 0 0] 31)).alloc (.cells #[.int .u32 (s : Int)] 51)) :=
    ⟨_, by simp [go_sem], by simp [go_sem], OwnIs.nil _ _, (fun h : w.heap.size = w.heap.size + 1 => by omega), (fun r h => by simp [Value.ownBlock] at h), (fun r (h : r = w.heap.size + 1) => by omega), by omega, b0⟩
  have xc : ((w.alloc (.cells #[.slice none 0 0] 31)).alloc (.cells #[.int .u32 (s : Int)] 51)).cell? ⟨w.heap.size + 1, 0, none⟩ = some (.int .u32 (s : Int)) := by simp [go_sem]
  have xf : ((w.alloc (.cells #[.slice none 0 0] 31)).alloc (.cells #[.int .u32 (s : Int)] 51)).frozen? ⟨w.heap.size + 1, 0, none⟩ = false := by simp [go_sem]
  have xt : TabAt 0 Lib.deBruijn32tab ((w.alloc (.cells #[.slice none 0 0] 31)).alloc (.cells #[.int .u32 (s : Int)] 51)) := fun j hj => (b0.cell (p := ⟨0, j, none⟩) hw0).trans (hT j hj)
  generalize (w.alloc (.cells #[.slice none 0 0] 31)).alloc (.cells #[.int .u32 (s : Int)] 51) = W0 at *
  refine wpIn_rangeFunc_hid rfl (by omega) (gf := 45) (lb := #[.pointer (some ⟨w.heap.size + 1, 0, none⟩)]) rfl trivial (enters_of Tryd.func45 (by kernel_rfl) rfl)
    (idx_hid 3 (by omega) (w.heap.size + 1) s hs W0 (by omega) xc xf xt) (fun r h => by omega) (Below.refl _ _) (fun r h => by omega) (fun _ => rfl) (LstI w) (LstI_own w _ (by omega)) x1
    (fun x a' _ => a' = { tmps := #[.int .u32 (s : Int), undef, .slice none 0 0, .pointer (some ⟨w.heap.size, 0, none⟩), .int .i64 x, .int .u32 (s : Int), .func (.func 45) #[] #[.pointer (some ⟨w.heap.size + 1, 0, none⟩)], .int .i64 x, undef, undef, undef, undef, undef], defers := [] }) (fun x a' _ _ _ _ hs _ _ => hs) ?assign ?body ?done
  case assign =>
    intro l H pre x W K hi hH hK
    gi_wp2
    exact hK _ _ (KeepsFrom.refl _ _) (KeepH.refl _ _) hi rfl
  case body =>
    rintro l H pre x a' W _ _ hH _ ⟨ov, a1, a2, a3, a4, a5, a6, a7, a8⟩ rfl hlen
    obtain ⟨oa, ocap, hov, q1, q2⟩ := a3.val
    have hlow := World.ownsRow.lt a3
    have a3' := a3
    unfold OwnIs at a3'
    subst hov
    have hez := a8.size
    gi_wp2_with (gi_at_builtin; refine wpListIn_append_new _ rfl _ _ 31 rfl (w.heap.size + 1) 3 i0 (.int .i64 0) 1 8 Tryd.underlying31 hi hz0 hz1 hz2 rfl (by decide) _ pre.length (encI pre) rfl (World.ownsRow.alloc a3' _) ⟨W.heap.size, 0, none⟩ 1 1 [.int .i64 x] rfl rfl (cells_new W [.int .i64 x] _) (by simp [Value.oneCell']) (by unfold maxLen; omega) (by omega) (by simp; omega) ?_; intro v4 w4 hown4 hg4 hnew; obtain ⟨a4', cap4, rfl⟩ := ownsRow_val hown4; obtain ⟨p1, p2⟩ := grown_keeps hg4 (b := w.heap.size) (by simp; omega) (fun h => (by have := hlow _ h.symm; omega)))
    have o1 := (old1 W (.cells #[.int .i64 x] 3) a7 0)
    have hz4 := hg4.size
    simp only [World.size_alloc] at hz4
    have hlow4 := World.ownsRow.lt hown4
    refine ⟨((KeepsOthers.alloc W _).trans ((KeepsOthers.of_grownBy hg4 (fun r o hr ho => own_cells1 (World.ownsRow.alloc a3' _) hr ho)).trans (KeepsOthers.setCell _ _ _))).from _, ?_, ?_⟩
    · have hHne : ∀ r, (H r ∨ r = 0) → r < W.heap.size ∧ r ≠ w.heap.size ∧ (Value.slice oa pre.length ocap).ownBlock ≠ some r := by
        rintro r (h | h)
        · exact ⟨hH r h, fun e => a4 (e ▸ h), fun e => a5 r e h⟩
        · exact ⟨by omega, by omega, fun e => by have := (hlow r e).1; omega⟩
      refine ⟨by simp; omega, fun q hq => ?_⟩
      obtain ⟨h1, h2, h3⟩ := hHne q hq
      exact (Below.heap_setCell _ _ _ q h2).trans ((hg4.block q (by simp; omega) (fun e => h3 e.symm)).trans (Below.heap_alloc _ _ _ h1))
    · refine ⟨_, World.cell?_setCell_same' _ _ _ (by rw [p1, o1.1, a1]; rfl), by rw [World.frozen?_setCell, p2, o1.2]; exact a2, ownsRow_setCell_below (OwnIs.app hown4) (by first | omega | simp) _, a4, ?_, a6, by simp; omega, ?_⟩
      · intro r hr hHr
        rcases hnew r hr with h | h
        · exact a5 r h hHr
        · have := hH r hHr; simp only [World.size_alloc] at h; omega
      · exact Below.setCell ((a8.alloc (by omega) _).grown hg4 (by simp; omega) (fun r h => by have := hlow r h; omega)) (Nat.le_refl _) _
  case done =>
    rintro D H ys W hD rfl ⟨ov, a1, a2, a3, a4, a5, a6, a7, a8⟩ hK
    gi_wp2
    refine ⟨by simp, .inl ⟨_, _, rfl, run_takeDeferred hK, ?_⟩⟩
    refine ⟨_, results_tmp rfl _ _ _, ov, rfl, (World.ownsRow.mono (ownsRow_putObj a3 _ hK rfl) (by omega)), a8.grown (grownBy_putObj' W D (.deferred none)) a8.size (fun k e => by cases e; omega)⟩
end Go.Proofs.YtodkmbjhdckjiaaDoor
