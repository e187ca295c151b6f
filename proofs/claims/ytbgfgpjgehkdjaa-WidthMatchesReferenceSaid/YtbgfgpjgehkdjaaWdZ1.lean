/- WidthMatchesReference: for every site, schedule and numbers the statement answers true and leaves its arguments as they were. No condition. -/
import Derived.Test.YtbgfgpjgehkdjaaWdM
import Derived.Test.YtbgfgpjgehkdjaaFg
namespace Go.Proofs.Ytbgfgpjgehkdjaa
open Go.RowKit

set_option maxRecDepth 100000 in
set_option maxHeartbeats 2000000 in
theorem WdMatches_any (w : World) (v : Value) (s : SiA) (hs : SiOk w v s) (u : Value) (c : ScA) (hc : ScOk w u c) (i r n : Int) :
    Calls Try.prog 3 #[v, u, .int .i64 i, .int .i64 r, .int .i64 n] w fun e w' => e = .returned (.bool true) ∧ Below w.heap.size w w' := by
  obtain ⟨sr, sf, slo, stm, pv, ps⟩ := s
  obtain ⟨uv, use, ev⟩ := c
  obtain ⟨rfl, hp, -, -⟩ := hs
  obtain ⟨rfl, hu, -, -⟩ := hc
  simp only at hp hu ⊢
  obtain ⟨pa, pc, rfl, q1, q2⟩ := hp.len
  obtain ⟨ua, uc, rfl, u1, u2, u3⟩ := id hu
  clear u3
  have hP : ∀ W : World, Below w.heap.size w W → PrRow W (.slice pa ps.length pc) ps ∧ IsRow W (.slice ua use.length uc) use := fun W hW => ⟨hp.below (Nat.le_refl _) hW, hu.below (Nat.le_refl _) hW⟩
  have HP := hide hP
  have hS : ∀ W : World, Below (w.heap.size + 2) ((w.alloc (.cells #[.int .i64 sr, .int .i64 sf, .int .i64 slo, .int .i64 stm, .slice pa ps.length pc] 24)).alloc (.cells #[.slice ua use.length uc, .int .i64 ev] 27)) W → W.cell? ⟨w.heap.size, 0, none⟩ = some (.int .i64 sr) ∧ W.cell? ⟨w.heap.size, 1, none⟩ = some (.int .i64 sf) ∧ W.cell? ⟨w.heap.size, 2, none⟩ = some (.int .i64 slo) ∧ W.cell? ⟨w.heap.size, 3, none⟩ = some (.int .i64 stm) ∧ W.cell? ⟨w.heap.size, 4, none⟩ = some (.slice pa ps.length pc) ∧
      W.cell? ⟨w.heap.size + 1, 0, none⟩ = some (.slice ua use.length uc) ∧ W.cell? ⟨w.heap.size + 1, 1, none⟩ = some (.int .i64 ev) := by
    intro W hW
    have hc := (bk hW w.heap.size (by omega)).1
    have hd := (bk hW (w.heap.size + 1) (by omega)).1
    exact ⟨(hc 0).trans (by simp), (hc 1).trans (by simp), (hc 2).trans (by simp), (hc 3).trans (by simp), (hc 4).trans (by simp), (hd 0).trans (by simp), (hd 1).trans (by simp)⟩
  have HS := hide hS
  clear hP hS hp hu
  go_enter Try.func3, Try.ntmps3
  go_wp2_with fail
  refine (head_any _).mono ?_
  rintro e w1 ⟨rfl, b1⟩
  have B1 : Below (w.heap.size + 2) ((w.alloc (.cells #[.int .i64 sr, .int .i64 sf, .int .i64 slo, .int .i64 stm, .slice pa ps.length pc] 24)).alloc (.cells #[.slice ua use.length uc, .int .i64 ev] 27)) w1 := b1.mono (by simp)
  have hL : ∀ W : World, Below (w.heap.size + 2) ((w.alloc (.cells #[.int .i64 sr, .int .i64 sf, .int .i64 slo, .int .i64 stm, .slice pa ps.length pc] 24)).alloc (.cells #[.slice ua use.length uc, .int .i64 ev] 27)) W → Below w.heap.size w W ∧ w.heap.size + 2 ≤ W.heap.size := fun W hW => ⟨(((Below.refl _ _).alloc (Nat.le_refl _) _).alloc (by simp) _).trans (hW.mono (by omega)), by have := hW.size; simpa using this⟩
  have HL := hide hL
  clear b1 hL
  have z1 := (HL.out _ B1).2
  obtain ⟨y0, y1, y2, y3, y4, x0, x1⟩ := HS.out w1 B1
  go_wp2_with fail
  refine (R29Few_any sr sf slo stm _ ps _ use ev _ (HP.out _ (HL.out _ B1).1).1 (HP.out _ (HL.out _ B1).1).2).mono ?_
  rintro e w2 ⟨rfl, b2⟩
  have B2 : Below (w.heap.size + 2) ((w.alloc (.cells #[.int .i64 sr, .int .i64 sf, .int .i64 slo, .int .i64 stm, .slice pa ps.length pc] 24)).alloc (.cells #[.slice ua use.length uc, .int .i64 ev] 27)) w2 := (by ((repeat' (first | with_reducible exact Below.refl _ _ | with_reducible exact b2 | with_reducible exact B1 | with_reducible refine Below.alloc ?_ ?_ _ | with_reducible refine Below.setCell ?_ ?_ _ | with_reducible refine Below.drew ?_ | with_reducible refine below_drewN ?_ _ | with_reducible refine Below.trans ?_ (b2.mono ?_) | with_reducible refine Below.trans ?_ (B1.mono ?_))) <;> (first | omega | (simp; done) | (simp; omega))))
  clear y0 y1 y2 y3 y4 x0 x1 b2 B1
  have z2 := (HL.out _ B2).2
  by_cases hf : ps.length ≤ 20 ∧ use.length ≤ 20
  case neg =>
    rw [decide_eq_false hf]
    go_wp2_with fail
    go_ret
    exact ⟨rfl, (HL.out _ B2).1⟩
  rw [decide_eq_true hf]
  have hun : use.length ≤ 1000000 := by omega
  obtain ⟨y0, y1, y2, y3, y4, x0, x1⟩ := HS.out w2 B2
  have zd : w2.drew.heap.size = w2.heap.size := rfl
  clear hf
  go_wp2_with fail
  go_region_held3 (fun W => W.cell? ⟨w.heap.size, 0, none⟩ = some (.int .i64 sr) ∧ W.cell? ⟨w.heap.size, 1, none⟩ = some (.int .i64 sf) ∧ W.cell? ⟨w.heap.size, 2, none⟩ = some (.int .i64 slo) ∧ W.cell? ⟨w.heap.size, 3, none⟩ = some (.int .i64 stm) ∧ W.cell? ⟨w.heap.size, 4, none⟩ = some (.slice pa ps.length pc) ∧
      W.cell? ⟨w.heap.size + 1, 0, none⟩ = some (.slice ua use.length uc) ∧ W.cell? ⟨w.heap.size + 1, 1, none⟩ = some (.int .i64 ev)) (exact HS.out _ (by ((repeat' (first | with_reducible exact Below.refl _ _ | with_reducible exact b6 | with_reducible exact b5 | with_reducible exact b4 | with_reducible exact b3 | with_reducible exact B2 | with_reducible refine Below.alloc ?_ ?_ _ | with_reducible refine Below.setCell ?_ ?_ _ | with_reducible refine Below.drew ?_ | with_reducible refine below_drewN ?_ _ | with_reducible refine Below.trans ?_ (b6.mono ?_) | with_reducible refine Below.trans ?_ (b5.mono ?_) | with_reducible refine Below.trans ?_ (b4.mono ?_) | with_reducible refine Below.trans ?_ (b3.mono ?_) | with_reducible refine Below.trans ?_ (B2.mono ?_))) <;> (first | omega | (simp; done) | (simp; omega)))))
    (first | (go_at_call 11; (with_reducible refine (wdValid_any sr sf slo stm _ ps _ (HP.out _ (HL.out _ (by ((repeat' (first | with_reducible exact Below.refl _ _ | with_reducible exact b6 | with_reducible exact b5 | with_reducible exact b4 | with_reducible exact b3 | with_reducible exact B2 | with_reducible refine Below.alloc ?_ ?_ _ | with_reducible refine Below.setCell ?_ ?_ _ | with_reducible refine Below.drew ?_ | with_reducible refine below_drewN ?_ _ | with_reducible refine Below.trans ?_ (b6.mono ?_) | with_reducible refine Below.trans ?_ (b5.mono ?_) | with_reducible refine Below.trans ?_ (b4.mono ?_) | with_reducible refine Below.trans ?_ (b3.mono ?_) | with_reducible refine Below.trans ?_ (B2.mono ?_))) <;> (first | omega | (simp; done) | (simp; omega))))).1).1).mono ?_); rintro e w3 ⟨rfl, b3⟩; have z3 := b3.size) | (go_at_call 12; (with_reducible refine (R29Valid_any sr sf slo stm _ ps _ (HP.out _ (HL.out _ (by ((repeat' (first | with_reducible exact Below.refl _ _ | with_reducible exact b6 | with_reducible exact b5 | with_reducible exact b4 | with_reducible exact b3 | with_reducible exact B2 | with_reducible refine Below.alloc ?_ ?_ _ | with_reducible refine Below.setCell ?_ ?_ _ | with_reducible refine Below.drew ?_ | with_reducible refine below_drewN ?_ _ | with_reducible refine Below.trans ?_ (b6.mono ?_) | with_reducible refine Below.trans ?_ (b5.mono ?_) | with_reducible refine Below.trans ?_ (b4.mono ?_) | with_reducible refine Below.trans ?_ (b3.mono ?_) | with_reducible refine Below.trans ?_ (B2.mono ?_))) <;> (first | omega | (simp; done) | (simp; omega))))).1).1).mono ?_); rintro e w4 ⟨rfl, b4⟩; have z4 := b4.size) | (go_at_call 13; (with_reducible refine (wdRight_any sr sf slo stm _ ps _ use ev _ (HP.out _ (HL.out _ (by ((repeat' (first | with_reducible exact Below.refl _ _ | with_reducible exact b6 | with_reducible exact b5 | with_reducible exact b4 | with_reducible exact b3 | with_reducible exact B2 | with_reducible refine Below.alloc ?_ ?_ _ | with_reducible refine Below.setCell ?_ ?_ _ | with_reducible refine Below.drew ?_ | with_reducible refine below_drewN ?_ _ | with_reducible refine Below.trans ?_ (b6.mono ?_) | with_reducible refine Below.trans ?_ (b5.mono ?_) | with_reducible refine Below.trans ?_ (b4.mono ?_) | with_reducible refine Below.trans ?_ (b3.mono ?_) | with_reducible refine Below.trans ?_ (B2.mono ?_))) <;> (first | omega | (simp; done) | (simp; omega))))).1).1 (HP.out _ (HL.out _ (by ((repeat' (first | with_reducible exact Below.refl _ _ | with_reducible exact b6 | with_reducible exact b5 | with_reducible exact b4 | with_reducible exact b3 | with_reducible exact B2 | with_reducible refine Below.alloc ?_ ?_ _ | with_reducible refine Below.setCell ?_ ?_ _ | with_reducible refine Below.drew ?_ | with_reducible refine below_drewN ?_ _ | with_reducible refine Below.trans ?_ (b6.mono ?_) | with_reducible refine Below.trans ?_ (b5.mono ?_) | with_reducible refine Below.trans ?_ (b4.mono ?_) | with_reducible refine Below.trans ?_ (b3.mono ?_) | with_reducible refine Below.trans ?_ (B2.mono ?_))) <;> (first | omega | (simp; done) | (simp; omega))))).1).2).mono ?_); rintro e w5 ⟨rfl, b5⟩; have z5 := b5.size) | (go_at_call 14; (with_reducible refine (R29Right_any sr sf slo stm _ ps _ use ev _ (HP.out _ (HL.out _ (by ((repeat' (first | with_reducible exact Below.refl _ _ | with_reducible exact b6 | with_reducible exact b5 | with_reducible exact b4 | with_reducible exact b3 | with_reducible exact B2 | with_reducible refine Below.alloc ?_ ?_ _ | with_reducible refine Below.setCell ?_ ?_ _ | with_reducible refine Below.drew ?_ | with_reducible refine below_drewN ?_ _ | with_reducible refine Below.trans ?_ (b6.mono ?_) | with_reducible refine Below.trans ?_ (b5.mono ?_) | with_reducible refine Below.trans ?_ (b4.mono ?_) | with_reducible refine Below.trans ?_ (b3.mono ?_) | with_reducible refine Below.trans ?_ (B2.mono ?_))) <;> (first | omega | (simp; done) | (simp; omega))))).1).1 (HP.out _ (HL.out _ (by ((repeat' (first | with_reducible exact Below.refl _ _ | with_reducible exact b6 | with_reducible exact b5 | with_reducible exact b4 | with_reducible exact b3 | with_reducible exact B2 | with_reducible refine Below.alloc ?_ ?_ _ | with_reducible refine Below.setCell ?_ ?_ _ | with_reducible refine Below.drew ?_ | with_reducible refine below_drewN ?_ _ | with_reducible refine Below.trans ?_ (b6.mono ?_) | with_reducible refine Below.trans ?_ (b5.mono ?_) | with_reducible refine Below.trans ?_ (b4.mono ?_) | with_reducible refine Below.trans ?_ (b3.mono ?_) | with_reducible refine Below.trans ?_ (B2.mono ?_))) <;> (first | omega | (simp; done) | (simp; omega))))).1).2 hun).mono ?_); rintro e w6 ⟨rfl, b6⟩; have z6 := b6.size))
  have B6 : Below (w.heap.size + 2) ((w.alloc (.cells #[.int .i64 sr, .int .i64 sf, .int .i64 slo, .int .i64 stm, .slice pa ps.length pc] 24)).alloc (.cells #[.slice ua use.length uc, .int .i64 ev] 27)) w6 := (by ((repeat' (first | with_reducible exact Below.refl _ _ | with_reducible exact b6 | with_reducible exact b5 | with_reducible exact b4 | with_reducible exact b3 | with_reducible exact B2 | with_reducible refine Below.alloc ?_ ?_ _ | with_reducible refine Below.setCell ?_ ?_ _ | with_reducible refine Below.drew ?_ | with_reducible refine below_drewN ?_ _ | with_reducible refine Below.trans ?_ (b6.mono ?_) | with_reducible refine Below.trans ?_ (b5.mono ?_) | with_reducible refine Below.trans ?_ (b4.mono ?_) | with_reducible refine Below.trans ?_ (b3.mono ?_) | with_reducible refine Below.trans ?_ (B2.mono ?_))) <;> (first | omega | (simp; done) | (simp; omega))))
  clear y0 y1 y2 y3 y4 x0 x1 b3 b4 b5 b6 z3 z4 z5 z6 zd B2
  have z6 := (HL.out _ B6).2
  obtain ⟨y0, y1, y2, y3, y4, x0, x1⟩ := HS.out w6 B6
  go_wp2_with fail
  refine (wdPeer_any sr sf slo stm _ ps i _ (HP.out _ (HL.out _ B6).1).1).mono ?_
  rintro e w7 ⟨rfl, b7⟩
  have B7 : Below (w.heap.size + 2) ((w.alloc (.cells #[.int .i64 sr, .int .i64 sf, .int .i64 slo, .int .i64 stm, .slice pa ps.length pc] 24)).alloc (.cells #[.slice ua use.length uc, .int .i64 ev] 27)) w7 := (by ((repeat' (first | with_reducible exact Below.refl _ _ | with_reducible exact b7 | with_reducible exact B6 | with_reducible refine Below.alloc ?_ ?_ _ | with_reducible refine Below.setCell ?_ ?_ _ | with_reducible refine Below.drew ?_ | with_reducible refine below_drewN ?_ _ | with_reducible refine Below.trans ?_ (b7.mono ?_) | with_reducible refine Below.trans ?_ (B6.mono ?_))) <;> (first | omega | (simp; done) | (simp; omega))))
  clear y0 y1 y2 y3 y4 x0 x1 b7 B6 z6
  have z7 := (HL.out _ B7).2
  obtain ⟨y0, y1, y2, y3, y4, x0, x1⟩ := HS.out w7 B7
  go_wp2_with fail
  refine (R29Peer_any sr sf slo stm _ ps i _ (HP.out _ (HL.out _ B7).1).1).mono ?_
  rintro e w8 ⟨rfl, b8⟩
  have B8 : Below (w.heap.size + 2) ((w.alloc (.cells #[.int .i64 sr, .int .i64 sf, .int .i64 slo, .int .i64 stm, .slice pa ps.length pc] 24)).alloc (.cells #[.slice ua use.length uc, .int .i64 ev] 27)) w8 := (by ((repeat' (first | with_reducible exact Below.refl _ _ | with_reducible exact b8 | with_reducible exact B7 | with_reducible refine Below.alloc ?_ ?_ _ | with_reducible refine Below.setCell ?_ ?_ _ | with_reducible refine Below.drew ?_ | with_reducible refine below_drewN ?_ _ | with_reducible refine Below.trans ?_ (b8.mono ?_) | with_reducible refine Below.trans ?_ (B7.mono ?_))) <;> (first | omega | (simp; done) | (simp; omega))))
  clear y0 y1 y2 y3 y4 x0 x1 b8 B7 z7
  have z8 := (HL.out _ B8).2
  obtain ⟨y0, y1, y2, y3, y4, x0, x1⟩ := HS.out w8 B8
  go_wp2_with fail
  refine (wdGrowth_any _ _ _).mono ?_
  rintro e w9 ⟨rfl, b9⟩
  have B9 : Below (w.heap.size + 2) ((w.alloc (.cells #[.int .i64 sr, .int .i64 sf, .int .i64 slo, .int .i64 stm, .slice pa ps.length pc] 24)).alloc (.cells #[.slice ua use.length uc, .int .i64 ev] 27)) w9 := (by ((repeat' (first | with_reducible exact Below.refl _ _ | with_reducible exact b9 | with_reducible exact B8 | with_reducible refine Below.alloc ?_ ?_ _ | with_reducible refine Below.setCell ?_ ?_ _ | with_reducible refine Below.drew ?_ | with_reducible refine below_drewN ?_ _ | with_reducible refine Below.trans ?_ (b9.mono ?_) | with_reducible refine Below.trans ?_ (B8.mono ?_))) <;> (first | omega | (simp; done) | (simp; omega))))
  clear y0 y1 y2 y3 y4 x0 x1 b9 B8 z8
  have z9 := (HL.out _ B9).2
  go_wp2_with fail
  refine (R29Growth_any _ _ _).mono ?_
  rintro e w10 ⟨rfl, b10⟩
  have B10 : Below (w.heap.size + 2) ((w.alloc (.cells #[.int .i64 sr, .int .i64 sf, .int .i64 slo, .int .i64 stm, .slice pa ps.length pc] 24)).alloc (.cells #[.slice ua use.length uc, .int .i64 ev] 27)) w10 := (by ((repeat' (first | with_reducible exact Below.refl _ _ | with_reducible exact b10 | with_reducible exact B9 | with_reducible refine Below.alloc ?_ ?_ _ | with_reducible refine Below.setCell ?_ ?_ _ | with_reducible refine Below.drew ?_ | with_reducible refine below_drewN ?_ _ | with_reducible refine Below.trans ?_ (b10.mono ?_) | with_reducible refine Below.trans ?_ (B9.mono ?_))) <;> (first | omega | (simp; done) | (simp; omega))))
  clear b10 B9 z9
  have z10 := (HL.out _ B10).2
  obtain ⟨y0, y1, y2, y3, y4, x0, x1⟩ := HS.out w10 B10
  go_wp2_with fail
  refine (wdWidthS_any sr sf slo stm _ ps _ use ev _ (HP.out _ (HL.out _ B10).1).1 (HP.out _ (HL.out _ B10).1).2).mono ?_
  rintro e w11 ⟨rfl, b11⟩
  have B11 : Below (w.heap.size + 2) ((w.alloc (.cells #[.int .i64 sr, .int .i64 sf, .int .i64 slo, .int .i64 stm, .slice pa ps.length pc] 24)).alloc (.cells #[.slice ua use.length uc, .int .i64 ev] 27)) w11 := (by ((repeat' (first | with_reducible exact Below.refl _ _ | with_reducible exact b11 | with_reducible exact B10 | with_reducible refine Below.alloc ?_ ?_ _ | with_reducible refine Below.setCell ?_ ?_ _ | with_reducible refine Below.drew ?_ | with_reducible refine below_drewN ?_ _ | with_reducible refine Below.trans ?_ (b11.mono ?_) | with_reducible refine Below.trans ?_ (B10.mono ?_))) <;> (first | omega | (simp; done) | (simp; omega))))
  clear y0 y1 y2 y3 y4 x0 x1 b11 B10 z10
  have z11 := (HL.out _ B11).2
  obtain ⟨y0, y1, y2, y3, y4, x0, x1⟩ := HS.out w11 B11
  go_wp2_with fail
  refine (R29Width_any sr sf slo stm _ ps _ use ev _ (HP.out _ (HL.out _ B11).1).1 (HP.out _ (HL.out _ B11).1).2 hun).mono ?_
  rintro e w12 ⟨rfl, b12⟩
  have B12 : Below (w.heap.size + 2) ((w.alloc (.cells #[.int .i64 sr, .int .i64 sf, .int .i64 slo, .int .i64 stm, .slice pa ps.length pc] 24)).alloc (.cells #[.slice ua use.length uc, .int .i64 ev] 27)) w12 := (by ((repeat' (first | with_reducible exact Below.refl _ _ | with_reducible exact b12 | with_reducible exact B11 | with_reducible refine Below.alloc ?_ ?_ _ | with_reducible refine Below.setCell ?_ ?_ _ | with_reducible refine Below.drew ?_ | with_reducible refine below_drewN ?_ _ | with_reducible refine Below.trans ?_ (b12.mono ?_) | with_reducible refine Below.trans ?_ (B11.mono ?_))) <;> (first | omega | (simp; done) | (simp; omega))))
  clear y0 y1 y2 y3 y4 x0 x1 b12 B11 z11
  go_wp2_with fail
  go_ret
  exact ⟨ret_bool (by simp), (HL.out _ B12).1⟩
set_option maxRecDepth 100000 in
theorem widthMatchesReference_holds : Rows.WidthMatchesReferenceSaid :=
  OpenClaim.holds_of_wide 3 Try.f3 rfl rfl rfl rfl rfl rfl rfl ⟨rfl, rfl, rfl, rfl, rfl⟩ rfl rfl rfl rfl rfl (by kernel_rfl) Try.func3 (by kernel_rfl)
    (of_decide_eq_true (by kernel_rfl)) (by unfold Func.isWrapper; rw [if_neg (of_decide_eq_false (by kernel_rfl))]; exact ⟨rfl, rfl⟩)
    (fun os started H enc _ => law_lifted started 3 Try.f3 Try.func3 (by kernel_rfl) Rows.widthMatchesReferenceSpec rfl rfl
      (fun ds h => by match ds, h with | [_, _, _, _, _], _ => exact ⟨rfl, rfl, rfl⟩)
      (fun t h => by
        rw [Try.params3] at h
        simp only [List.mem_cons, List.not_mem_nil, or_false] at h
        rcases h with rfl | rfl | rfl | rfl | rfl <;> exact ⟨by kernel_rfl, of_decide_eq_true (by kernel_rfl)⟩)
      (ChangeSpec.witness6 (enc := enc) (C := Try.checked) false ⟨#[], #[.agg #[.int .i64 0, .int .i64 0, .int .i64 0, .int .i64 0, .slice none 0 0], .agg #[.slice none 0 0, .int .i64 0], .int .i64 0, .int .i64 0, .int .i64 0], []⟩ 8 (by kernel_rfl) (by kernel_rfl) (by kernel_rfl) (by kernel_rfl))
      (fun W base args ds p hA hok => by
        rw [Try.params3] at hA hok
        obtain ⟨v0, vs0, d0, ds0, p0, q0, hargs, rfl, rfl, h0, r0⟩ := ChangeShapes.trodAll_cons hA
        obtain ⟨v1, vs1, d1, ds1, p1, q1, rfl, rfl, rfl, h1, r1⟩ := ChangeShapes.trodAll_cons r0
        obtain ⟨v2, vs2, d2, ds2, p2, q2, rfl, rfl, rfl, h2, r2⟩ := ChangeShapes.trodAll_cons r1
        obtain ⟨v3, vs3, d3, ds3, p3, q3, rfl, rfl, rfl, h3, r3⟩ := ChangeShapes.trodAll_cons r2
        obtain ⟨v4, vs4, d4, ds4, p4, q4, rfl, rfl, rfl, h4, r4⟩ := ChangeShapes.trodAll_cons r3
        obtain ⟨rfl, rfl, rfl⟩ := ChangeShapes.trodAll_nil r4
        obtain rfl : args = #[v0, v1, v2, v3, v4] := by rw [← Array.toArray_toList (xs := args), hargs]
        obtain ⟨l0, hl0⟩ := open_site (hok 0 _ v0 rfl rfl) h0
        obtain ⟨l1, hl1⟩ := open_sched (hok 1 _ v1 rfl rfl) h1
        obtain ⟨x2, rfl, hx2⟩ := open_i64 Try.underlying3 (hok 2 _ v2 rfl rfl) h2
        obtain ⟨x3, rfl, hx3⟩ := open_i64 Try.underlying3 (hok 3 _ v3 rfl rfl) h3
        obtain ⟨x4, rfl, hx4⟩ := open_i64 Try.underlying3 (hok 4 _ v4 rfl rfl) h4
        exact WdMatches_any W v0 l0 hl0 v1 l1 hl1 x2 x3 x4))
end Go.Proofs.Ytbgfgpjgehkdjaa
