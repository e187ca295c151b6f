/- Package combine's Outside and the reference's: which intervals have no time in common with what is possible. -/
import Derived.Test.YthklljlachljgaaCbB
import Derived.Deep.LoopGhost
import Derived.WalkMore
namespace Go.Proofs.Ythklljlachljgaa
open Go.RowKit
attribute [local go_sem ↓] run_max_mx run_min_mn run_eql_iv run_neq_iv

theorem meet_cross {a b c d : Int} (h1 : validB a b = true) (h2 : validB c d = true) : meetOk a b c d = crossB a b c d := by
  unfold meetOk crossB
  rw [valid_mm h1 h2, h1, h2]; simp
theorem anyX_none {a b : Int} {c : List Iv} {j : Nat} (h : anyX a b c j = false) (hj : c.length ≤ j) : anyX a b c c.length = false := by
  cases hh : anyX a b c c.length with
  | false => rfl
  | true =>
    obtain ⟨i, hi, h2⟩ := (anyX_iff a b c _).1 hh
    rw [(anyX_iff a b c j).2 ⟨i, by omega, h2⟩] at h; cases h
theorem anyX_some {a b : Int} {c : List Iv} {j : Nat} (hj : j < c.length) (h : crossB a b (iLo c j) (iHi c j) = true) : anyX a b c c.length = true :=
  (anyX_iff a b c _).2 ⟨j, hj, by simpa [crossB] using h⟩
theorem one_cell (w : World) (x : Value) (t : TypeId) : ∀ j u, [x][j]? = some u → (w.alloc (.cells #[x] t)).cell? ((⟨w.heap.size, 0, none⟩ : Addr).add j) = some u := cells_new w [x] t

set_option maxRecDepth 100000 in
set_option maxHeartbeats 1000000 in
theorem Outside1_any (cv lv : Value) (c l : List Iv) (Bx : Nat) (w : World) (hcr : IvRow w cv c) (hx : w.cell? ⟨Bx, 0, none⟩ = some lv) (hlr : IvRow w lv l) (hcl : c.length ≤ 200) (hll : l.length ≤ 200)
    (hvc : ∀ j, j < c.length → validB (iLo c j) (iHi c j) = true) (hvl : ∀ j, j < l.length → validB (iLo l j) (iHi l j) = true) :
    Calls Try.prog 32 #[cv, .pointer (some ⟨Bx, 0, none⟩)] w fun e w' => ∃ v, e = .returned v ∧ OwnIs w' w.heap.size v (outTo l c l.length) ∧ Below w.heap.size w w' := by
  obtain ⟨i0, hi, hz0, hz1, hz2⟩ := info_parts infoInt
  obtain ⟨a, cap, rfl, h1, h2, h3⟩ := hlr
  obtain ⟨a', cap', rfl, h1', h2', h3'⟩ := hcr
  have Hvc := hide hvc
  have Hvl := hide hvl
  clear hvc hvl
  go_enter Try.func32, Try.ntmps32
  go_wp2
  go_step3
  go_wp2
  go_step3
  go_wp2
  clear hx
  go_loopg [4, 14] l.length (fun g s4 s14 wx => ∃ k : Nat, k + g = l.length ∧ s14 = .int .i64 k ∧ OwnIs wx w.heap.size s4 (outTo l c k) ∧ Below w.heap.size w wx)
  case atStart => exact ⟨0, by omega, rfl, OwnIs.nil _ _, Below.refl _ _⟩
  case round =>
    obtain ⟨k, hkg, rfl, hown, hB⟩ := hrel
    cases gk with
    | zero =>
      obtain rfl : k = l.length := by omega
      go_wp2
      try rw [Exit.noGoto_ret]
      go_ret
      exact ⟨_, rfl, hown, hB⟩
    | succ g =>
      have hlt : k < l.length := by omega
      obtain ⟨b, off, rfl, h4, h5, h6⟩ := h3 k hlt
      have h5' := (hB.cell (p := ⟨b, off + k * 2, none⟩) h4).trans h5
      have h6' := (hB.cell (p := ⟨b, off + k * 2 + 1, none⟩) h4).trans h6
      have hz := hB.size
      clear h5 h6
      have hvk := Hvl.out k hlt
      have Hvk := hide hvk
      clear hvk
      obtain ⟨oa, ocap, hov, ho1, ho2⟩ := hown.val
      have hol := outTo_length l c k
      have hlow := World.ownsRow.lt hown
      subst hov
      go_wp2
      clear h5' h6'
      obtain ⟨wo, hwo⟩ : ∃ wo : World, wo = wr := ⟨_, rfl⟩
      subst hwo
      go_loopg [21] c.length (fun gi s21 wx => ∃ j : Nat, j + gi = c.length ∧ s21 = .int .i64 j ∧ Hid (anyX (iLo l k) (iHi l k) c j = false) ∧ wx.cell? ⟨wo.heap.size, 0, none⟩ = some (.int .i64 (iLo l k)) ∧ wx.cell? ⟨wo.heap.size, 1, none⟩ = some (.int .i64 (iHi l k)) ∧ wo.heap.size < wx.heap.size ∧ Below wo.heap.size wo wx)
      case atStart => exact ⟨0, by omega, rfl, rfl, by simp, by simp, by simp, (by ((repeat' (first | exact Below.refl _ _ | refine Below.alloc ?_ ?_ _ | refine Below.setCell ?_ ?_ _ | refine Below.drew ?_ | refine below_drewN ?_ _)) <;> (first | omega | (simp; done) | (simp; omega))))⟩
      case round =>
        obtain ⟨j, hjg, rfl, Hj, g1, g2, hzw, hBw⟩ := hrel
        have hBB : Below w.heap.size w wr := (by ((repeat' (first | exact Below.refl _ _ | exact hB | exact hBw | refine Below.alloc ?_ ?_ _ | refine Below.setCell ?_ ?_ _ | refine Below.drew ?_ | refine below_drewN ?_ _ | refine Below.trans ?_ (hB.mono ?_) | refine Below.trans ?_ (hBw.mono ?_))) <;> (first | omega | (simp; done) | (simp; omega))))
        have hown2 := hown.below (Nat.le_refl _) hBw
        have hzz := hBB.size
        cases gk with
        | zero =>
          have HF := hide (anyX_none Hj.out (by omega))
          unfold OwnIs at hown2
          go_wp2_with (at_builtin; refine wpList_append_own _ rfl _ _ 24 rfl w.heap.size 3 i0 (.int .i64 0) 1 8 Try.underlying24 hi hz0 hz1 hz2 rfl (by decide) _ (outTo l c k).length (encI (outTo l c k)) rfl (World.ownsRow.alloc hown2 _) ⟨wr.heap.size, 0, none⟩ 1 1 [.int .i64 k] rfl rfl (one_cell _ _ _) (by simp [Value.oneCell']) (by unfold maxLen; omega) (by omega) (by simp; omega) ?_; intro v3 w3 hown3 hg3 _)
          go_roundg g
          case measure => omega
          case rel =>
            have e : outTo l c (k + 1) = outTo l c k ++ [(k : Int)] := by rw [outTo, if_neg (by rw [HF.out]; simp)]
            exact ⟨k + 1, by omega, by go_num, by rw [e]; exact OwnIs.app hown3, ((hBB.alloc (by omega) _).grown hg3 (by simp; omega) (fun r h => (hlow r h).1))⟩
        | succ gi =>
          have hjl : j < c.length := by omega
          obtain ⟨b2, off2, rfl, q4, q5, q6⟩ := h3' j hjl
          have q5' := (hBB.cell (p := ⟨b2, off2 + j * 2, none⟩) q4).trans q5
          have q6' := (hBB.cell (p := ⟨b2, off2 + j * 2 + 1, none⟩) q4).trans q6
          clear q5 q6
          have HC := hide (meet_cross Hvk.out (Hvc.out j hjl))
          by_cases hm : meetOk (iLo l k) (iHi l k) (iLo c j) (iHi c j) = true
          · have Hm := hide hm
            go_wp2_with (go_at_call 23; refine (Meet_any _ _ _ _ _).mono ?_; rintro e w' ⟨rfl, hb⟩; obtain ⟨cc, ff⟩ := bk hb wo.heap.size (by simp; omega); rw [hm])
            go_roundg g
            case measure => omega
            case rel =>
              have e : outTo l c (k + 1) = outTo l c k := by rw [outTo, if_pos (anyX_some hjl (HC.out.symm.trans Hm.out))]
              have hbz := hb.size
              simp only [World.size_alloc] at hbz
              have hB3 : Below wr.heap.size wr w' := (by ((repeat' (first | exact Below.refl _ _ | exact hb | refine Below.alloc ?_ ?_ _ | refine Below.setCell ?_ ?_ _ | refine Below.drew ?_ | refine below_drewN ?_ _ | refine Below.trans ?_ (hb.mono ?_))) <;> (first | omega | (simp; done) | (simp; omega))))
              refine ⟨k + 1, by omega, by go_num, ?_, ?_⟩
              · rw [e]; exact (hown2.below (Nat.le_refl _) hB3).below (Nat.le_refl _) (by ((repeat' (first | exact Below.refl _ _ | refine Below.alloc ?_ ?_ _ | refine Below.setCell ?_ ?_ _ | refine Below.drew ?_ | refine below_drewN ?_ _)) <;> (first | omega | (simp; done) | (simp; omega))))
              · ((repeat' (first | exact Below.refl _ _ | exact hBB | exact hB3 | refine Below.alloc ?_ ?_ _ | refine Below.setCell ?_ ?_ _ | refine Below.drew ?_ | refine below_drewN ?_ _ | refine Below.trans ?_ (hBB.mono ?_) | refine Below.trans ?_ (hB3.mono ?_))) <;> (first | omega | (simp; done) | (simp; omega)))
          · have hm' : meetOk (iLo l k) (iHi l k) (iLo c j) (iHi c j) = false := by simpa using hm
            clear hm
            have Hm := hide hm'
            go_wp2_with (go_at_call 23; refine (Meet_any _ _ _ _ _).mono ?_; rintro e w' ⟨rfl, hb⟩; obtain ⟨cc, ff⟩ := bk hb wo.heap.size (by simp; omega); rw [hm'])
            go_roundg gi
            case measure => omega
            case rel =>
              have hbz := hb.size
              simp only [World.size_alloc] at hbz
              have hB3 : Below wr.heap.size wr w' := (by ((repeat' (first | exact Below.refl _ _ | exact hb | refine Below.alloc ?_ ?_ _ | refine Below.setCell ?_ ?_ _ | refine Below.drew ?_ | refine below_drewN ?_ _ | refine Below.trans ?_ (hb.mono ?_))) <;> (first | omega | (simp; done) | (simp; omega))))
              have hc1 := HC.out
              rw [Hm.out] at hc1
              refine ⟨j + 1, by omega, by go_num, hide (by rw [anyX, Hj.out, ← hc1]; rfl), ?_, ?_, ?_, ?_⟩
              · exact (Below.cell (p := ⟨wo.heap.size, 0, none⟩) (B := wr.heap.size) (by ((repeat' (first | exact Below.refl _ _ | exact hB3 | refine Below.alloc ?_ ?_ _ | refine Below.setCell ?_ ?_ _ | refine Below.drew ?_ | refine below_drewN ?_ _ | refine Below.trans ?_ (hB3.mono ?_))) <;> (first | omega | (simp; done) | (simp; omega)))) hzw).trans g1
              · exact (Below.cell (p := ⟨wo.heap.size, 1, none⟩) (B := wr.heap.size) (by ((repeat' (first | exact Below.refl _ _ | exact hB3 | refine Below.alloc ?_ ?_ _ | refine Below.setCell ?_ ?_ _ | refine Below.drew ?_ | refine below_drewN ?_ _ | refine Below.trans ?_ (hB3.mono ?_))) <;> (first | omega | (simp; done) | (simp; omega)))) hzw).trans g2
              · simp; omega
              · ((repeat' (first | exact Below.refl _ _ | exact hBw | exact hB3 | refine Below.alloc ?_ ?_ _ | refine Below.setCell ?_ ?_ _ | refine Below.drew ?_ | refine below_drewN ?_ _ | refine Below.trans ?_ (hBw.mono ?_) | refine Below.trans ?_ (hB3.mono ?_))) <;> (first | omega | (simp; done) | (simp; omega)))
end Go.Proofs.Ythklljlachljgaa
