/- Package plan: Narrow. -/
import Derived.Test.YtiaahfccebmkdaaPlK
namespace Go.Proofs.Ytiaahfccebmkdaa
open Go.RowKit

theorem rules_raw (w : World) (r f lo tm : Int) (pv : Value) {w' : World} (h : w' = (w.alloc (.cells #[.int .i64 r, .int .i64 f, .int .i64 lo, .int .i64 tm, pv] 24)).alloc (.cells #[.func (.func 43) #[] #[.pointer (some ⟨w.heap.size, 0, none⟩)], .func (.func 44) #[] #[], .func (.func 46) #[] #[], .func (.func 47) #[] #[], .func (.func 49) #[] #[]] 75)) :
    w'.cell? ⟨w.heap.size + 1, 0, none⟩ = some (.func (.func 43) #[] #[.pointer (some ⟨w.heap.size, 0, none⟩)]) ∧ w'.cell? ⟨w.heap.size + 1, 1, none⟩ = some (.func (.func 44) #[] #[]) ∧ w'.frozen? ⟨w.heap.size + 1, 0, none⟩ = false ∧ w'.frozen? ⟨w.heap.size + 1, 1, none⟩ = false := by
  subst h
  refine ⟨?_, ?_, ?_, ?_⟩ <;> simp [go_sem]
theorem rl_swap {W : World} {rb sb : Nat} (h : RlAt W rb false sb) : RlAt ((W.setCell ⟨rb, 0, none⟩ (.func (.func 44) #[] #[])).setCell ⟨rb, 1, none⟩ (.func (.func 43) #[] #[.pointer (some ⟨sb, 0, none⟩)])).drew rb true sb := by
  intro k hk
  have h0 := h 0 (by omega)
  have h1 := h 1 (by omega)
  rcases (by omega : k = 0 ∨ k = 1 ∨ k = 2 ∨ k = 3 ∨ k = 4) with rfl | rfl | rfl | rfl | rfl
  · exact set_other _ (set_same _ h0) (by intro h; simp at h)
  · exact set_same _ (set_other _ h1 (by intro h; simp at h))
  · exact set_other _ (set_other _ (h 2 (by omega)) (by intro h; simp at h)) (by intro h; simp at h)
  · exact set_other _ (set_other _ (h 3 (by omega)) (by intro h; simp at h)) (by intro h; simp at h)
  · exact set_other _ (set_other _ (h 4 (by omega)) (by intro h; simp at h)) (by intro h; simp at h)
theorem st_swap {W : World} {rb sb : Nat} {r f lo tm : Int} {pv u v : Value} (h : StAt W sb r f lo tm pv) (hn : sb ≠ rb) : StAt ((W.setCell ⟨rb, 0, none⟩ u).setCell ⟨rb, 1, none⟩ v).drew sb r f lo tm pv := by
  have hc : ∀ o x, W.cell? ⟨sb, o, none⟩ = some x → ((W.setCell ⟨rb, 0, none⟩ u).setCell ⟨rb, 1, none⟩ v).drew.cell? ⟨sb, o, none⟩ = some x := fun o x hx => set_other _ (set_other _ hx (by intro h; cases h; exact hn rfl)) (by intro h; cases h; exact hn rfl)
  exact ⟨hc _ _ h.1, hc _ _ h.2.1, hc _ _ h.2.2.1, hc _ _ h.2.2.2.1, hc _ _ h.2.2.2.2⟩
set_option maxRecDepth 100000 in
set_option maxHeartbeats 1600000 in
theorem plN_any (r f lo tm : Int) (pv : Value) (ps : List Pr) (v : Value) (pl : List Int) (w : World) (hp : PrRow w pv ps) (hv : IsRow w v pl) :
    Calls Try.prog 17 #[.agg #[.int .i64 r, .int .i64 f, .int .i64 lo, .int .i64 tm, pv], v] w fun e w' => ∃ uv, e = .returned (.tuple #[.agg #[uv, .int .i64 (accO (nwO ⟨r, f, lo, tm, ps⟩ pl)).ev], .int .i64 (accO (nwO ⟨r, f, lo, tm, ps⟩ pl)).wd, .int .i64 (nwE ⟨r, f, lo, tm, ps⟩ pl)]) ∧
      IsRow w' uv (accO (nwO ⟨r, f, lo, tm, ps⟩ pl)).use ∧ (∀ q, uv.ownBlock = some q → w.heap.size ≤ q) ∧ Below w.heap.size w w' := by
  have hR : ∀ W : World, Below w.heap.size w W → PrRow W pv ps ∧ IsRow W v pl := fun W hW => ⟨hp.below (Nat.le_refl _) hW, hv.below (Nat.le_refl _) hW⟩
  have HR := hide hR
  obtain ⟨pa, pc, rfl, pq1, pq2⟩ := hp.len
  obtain ⟨va, vc, rfl, vq1, vq2, -⟩ := id hv
  obtain ⟨W0, hW0⟩ : ∃ W : World, W = (w.alloc (.cells #[.int .i64 r, .int .i64 f, .int .i64 lo, .int .i64 tm, .slice pa ps.length pc] 24)).alloc (.cells #[.slice none 0 0, .int .i64 0] 29) := ⟨_, rfl⟩
  have zW : W0.heap.size = w.heap.size + 2 := by rw [hW0]; simp
  have bW : Below w.heap.size w W0 := by rw [hW0]; ((repeat' (first | with_reducible exact Below.refl _ _ | with_reducible refine Below.alloc ?_ ?_ _ | with_reducible refine Below.setCell ?_ ?_ _ | with_reducible refine Below.drew ?_ | with_reducible refine below_drewN ?_ _)) <;> (first | omega | (simp; done) | (simp; omega)))
  have hS : ∀ W : World, Below (w.heap.size + 2) W0 W → W.cell? ⟨w.heap.size, 0, none⟩ = some (.int .i64 r) ∧ W.cell? ⟨w.heap.size, 1, none⟩ = some (.int .i64 f) ∧ W.cell? ⟨w.heap.size, 2, none⟩ = some (.int .i64 lo) ∧ W.cell? ⟨w.heap.size, 3, none⟩ = some (.int .i64 tm) ∧ W.cell? ⟨w.heap.size, 4, none⟩ = some (.slice pa ps.length pc) ∧
      W.cell? ⟨w.heap.size + 1, 0, none⟩ = some (.slice none 0 0) ∧ W.cell? ⟨w.heap.size + 1, 1, none⟩ = some (.int .i64 0) ∧ W.frozen? ⟨w.heap.size + 1, 0, none⟩ = false ∧ W.frozen? ⟨w.heap.size + 1, 1, none⟩ = false ∧ Below w.heap.size w W ∧ w.heap.size + 2 ≤ W.heap.size := by
    intro W hW
    obtain ⟨y0, y1, y2, y3, y4, v0, v1, f0, f1⟩ : W0.cell? ⟨w.heap.size, 0, none⟩ = some (.int .i64 r) ∧ W0.cell? ⟨w.heap.size, 1, none⟩ = some (.int .i64 f) ∧ W0.cell? ⟨w.heap.size, 2, none⟩ = some (.int .i64 lo) ∧ W0.cell? ⟨w.heap.size, 3, none⟩ = some (.int .i64 tm) ∧ W0.cell? ⟨w.heap.size, 4, none⟩ = some (.slice pa ps.length pc) ∧ W0.cell? ⟨w.heap.size + 1, 0, none⟩ = some (.slice none 0 0) ∧ W0.cell? ⟨w.heap.size + 1, 1, none⟩ = some (.int .i64 0) ∧ W0.frozen? ⟨w.heap.size + 1, 0, none⟩ = false ∧ W0.frozen? ⟨w.heap.size + 1, 1, none⟩ = false := by
      rw [hW0]; refine ⟨?_, ?_, ?_, ?_, ?_, ?_, ?_, ?_, ?_⟩ <;> simp [go_sem]
    have h0 := (bk hW w.heap.size (by omega)).1
    have h1 := (bk hW (w.heap.size + 1) (by omega)).1
    have h2 := (bk hW (w.heap.size + 1) (by omega)).2
    exact ⟨(h0 _).trans y0, (h0 _).trans y1, (h0 _).trans y2, (h0 _).trans y3, (h0 _).trans y4, (h1 _).trans v0, (h1 _).trans v1, (h2 _).trans f0, (h2 _).trans f1, bW.trans (hW.mono (by omega)), by have := hW.size; omega⟩
  have HS := hide hS
  clear hR hS hp hv
  obtain ⟨E, hE⟩ : ∃ E, E = ckE ⟨r, f, lo, tm, ps⟩ pl := ⟨_, rfl⟩
  by_cases hE0 : E = 0
  · subst hE0
    obtain ⟨-, -, hl, -, hpl⟩ := ckE_zero hE.symm
    have hbo : nwO ⟨r, f, lo, tm, ps⟩ pl = bstO true ⟨r, f, lo, tm, ps⟩ pl 9223372036854775807 := by unfold nwO; rw [← hE]; rfl
    have hbe : nwE ⟨r, f, lo, tm, ps⟩ pl = if (bstO true ⟨r, f, lo, tm, ps⟩ pl 9223372036854775807).isSome then 0 else 20 := by unfold nwE; rw [← hE, hbo]; rfl
    rw [hbo, hbe]
    simp only at hl
    have hK := fun (W : World) sb rb (h : Below w.heap.size w W) (hs : StAt W sb r f lo tm (.slice pa ps.length pc)) (hr : RlAt W rb true sb) (h1 : sb < W.heap.size) (h2 : rb < W.heap.size) => plBest_any true r f lo tm _ ps _ pl 9223372036854775807 sb rb W (HR.out _ h).1 (HR.out _ h).2 hl hpl hs h1 hr h2
    generalize bstO true ⟨r, f, lo, tm, ps⟩ pl 9223372036854775807 = res at *
    cases hS : res.isSome with
    | false =>
      have hacc : accO res = of0 := by cases res with | none => rfl | some x => simp at hS
      rw [if_neg (by simp)]
      rw [hacc]
      simp only [hS] at hK
      clear hacc
      have HK := hide hK
      have HE := hide hE
      clear hbe hbo hE hK hl hpl
      go_enter Try.func17, Try.ntmps17
      go_upto_region 1 with fail
      rw [← hW0]
      clear hW0
      obtain ⟨y0, y1, y2, y3, y4, v0, v1, f0, f1, b0, z0⟩ := HS.out W0 (Below.refl _ _)
      go_wp2_with fail
      refine (plCheck_any r f lo tm _ ps _ pl _ (HR.out _ b0).1 (HR.out _ b0).2).mono ?_
      rintro e w1 ⟨rfl, c1⟩
      rw [← HE.out]
      have B1 : Below (w.heap.size + 2) W0 w1 := (by ((repeat' (first | with_reducible exact Below.refl _ _ | with_reducible exact c1 | with_reducible refine Below.alloc ?_ ?_ _ | with_reducible refine Below.setCell ?_ ?_ _ | with_reducible refine Below.drew ?_ | with_reducible refine below_drewN ?_ _ | with_reducible refine Below.trans ?_ (c1.mono ?_))) <;> (first | omega | (simp; done) | (simp; omega))))
      clear y0 y1 y2 y3 y4 v0 v1 f0 f1 b0 z0
      obtain ⟨y0, y1, y2, y3, y4, v0, v1, f0, f1, b1, z1⟩ := HS.out w1 B1
      go_wp2_with fail
      refine (rules_any r f lo tm _ _).mono ?_
      rintro e w2 ⟨rfl, hw2⟩
      obtain ⟨s1, s2, s3, b2⟩ := rules_at _ r f lo tm _ hw2
      obtain ⟨g0, g1, gf0, gf1⟩ := rules_raw _ r f lo tm _ hw2
      have z1' : w.heap.size + 2 ≤ w1.heap.size := z1
      have B2 : Below (w.heap.size + 2) W0 w2 := (by ((repeat' (first | with_reducible exact Below.refl _ _ | with_reducible exact b2 | with_reducible exact B1 | with_reducible refine Below.alloc ?_ ?_ _ | with_reducible refine Below.setCell ?_ ?_ _ | with_reducible refine Below.drew ?_ | with_reducible refine below_drewN ?_ _ | with_reducible refine Below.trans ?_ (b2.mono ?_) | with_reducible refine Below.trans ?_ (B1.mono ?_))) <;> (first | omega | (simp; done) | (simp; omega))))
      clear hw2 y0 y1 y2 y3 y4 v0 v1 f0 f1 b1
      obtain ⟨sb, hsb⟩ : ∃ sb, sb = w1.heap.size := ⟨_, rfl⟩
      obtain ⟨rb, hrb⟩ : ∃ rb, rb = w1.heap.size + 1 := ⟨_, rfl⟩
      rw [← hrb, ← hsb] at s2
      rw [← hsb] at s1
      rw [← hrb, ← hsb] at g0
      rw [← hrb] at g1 gf0 gf1
      have e1 : w.heap.size + 2 ≤ sb := by omega
      have e2 : sb < rb := by omega
      have e3 : rb < w2.heap.size := by omega
      have S1 := hide s1
      have S2 := hide s2
      rw [← hrb]
      clear s1 s2 s3 hrb hsb z1 z1'
      obtain ⟨y0, y1, y2, y3, y4, v0, v1, f0, f1, b2', z2⟩ := HS.out w2 B2
      go_wp2_with fail
      go_region
      obtain ⟨V, hV⟩ : ∃ V : World, V = ((w2.setCell ⟨rb, 0, none⟩ (.func (.func 44) #[] #[])).setCell ⟨rb, 1, none⟩ (.func (.func 43) #[] #[.pointer (some ⟨sb, 0, none⟩)])).drew := ⟨_, rfl⟩
      have t1 : RlAt V rb true sb := by rw [hV]; exact rl_swap S2.out
      have t2 : StAt V sb r f lo tm (.slice pa ps.length pc) := by rw [hV]; exact st_swap S1.out (by omega)
      have B3 : Below (w.heap.size + 2) W0 V := by rw [hV]; exact ((B2.setCell (p := ⟨rb, 0, none⟩) (by show _ ≤ rb; omega) _).setCell (p := ⟨rb, 1, none⟩) (by show _ ≤ rb; omega) _).drew
      have zV : V.heap.size = w2.heap.size := by rw [hV]; simp [World.setCell, World.drew]
      rw [← hV]
      have zv1 : sb < V.heap.size := by omega
      have zv2 : rb < V.heap.size := by omega
      clear hV g0 g1 gf0 gf1 S1 S2 y0 y1 y2 y3 y4 v0 v1 f0 f1 b2' z2 b2 B2 zV e3
      obtain ⟨y0, y1, y2, y3, y4, v0, v1, f0, f1, b3, z3⟩ := HS.out V B3
      go_wp2_with fail
      refine (HK.out V sb rb b3 t2 t1 zv1 zv2).mono ?_
      rintro e w3 ⟨uv, rfl, hrow, hown, c3⟩
      obtain ⟨ua, uc, huv, -⟩ := id hrow
      subst huv
      have B4 : Below (w.heap.size + 2) W0 w3 := (by ((repeat' (first | with_reducible exact Below.refl _ _ | with_reducible exact c3 | with_reducible exact B3 | with_reducible refine Below.alloc ?_ ?_ _ | with_reducible refine Below.setCell ?_ ?_ _ | with_reducible refine Below.drew ?_ | with_reducible refine below_drewN ?_ _ | with_reducible refine Below.trans ?_ (c3.mono ?_) | with_reducible refine Below.trans ?_ (B3.mono ?_))) <;> (first | omega | (simp; done) | (simp; omega))))
      have hown' : ∀ q, (Value.slice ua (accO res).use.length uc).ownBlock = some q → w.heap.size + 2 ≤ q := fun q hq => by have := hown q hq; omega
      have Hrow := hide hrow
      have Hown := hide hown'
      clear hrow hown hown' y0 y1 y2 y3 y4 v0 v1 f0 f1 t1 t2
      obtain ⟨y0, y1, y2, y3, y4, v0, v1, f0, f1, b4, z4⟩ := HS.out w3 B4
      have za : w.heap.size < w3.heap.size := by omega
      have zb : w.heap.size + 1 < w3.heap.size := by omega
      go_wp2_with fail
      have dz : w.heap.size + 1 < ((w3.setCell ⟨w.heap.size + 1, 0, none⟩ (.slice none 0 0)).setCell ⟨w.heap.size + 1, 1, none⟩ (.int .i64 0)).heap.size := by simpa [World.setCell] using zb
      have d0 : (((w3.setCell ⟨w.heap.size + 1, 0, none⟩ (.slice none 0 0)).setCell ⟨w.heap.size + 1, 1, none⟩ (.int .i64 0)).alloc (.cells #[.slice ua (accO res).use.length uc, .int .i64 (accO res).ev, .int .i64 (accO res).wd] 52)).cell? ⟨w.heap.size + 1, 0, none⟩ = some (.slice none 0 0) := (World.cell?_alloc_lt _ _ _ dz).trans (set_other _ (set_same _ v0) (by intro h; simp at h))
      have d1 : (((w3.setCell ⟨w.heap.size + 1, 0, none⟩ (.slice none 0 0)).setCell ⟨w.heap.size + 1, 1, none⟩ (.int .i64 0)).alloc (.cells #[.slice ua (accO res).use.length uc, .int .i64 (accO res).ev, .int .i64 (accO res).wd] 52)).cell? ⟨w.heap.size + 1, 1, none⟩ = some (.int .i64 0) := (World.cell?_alloc_lt _ _ _ dz).trans (set_same _ (set_other _ v1 (by intro h; simp at h)))
      exact bodyPost_ret (v := .tuple #[.agg #[.slice none 0 0, .int .i64 0], .int .i64 0, .int .i64 20]) (by simp [results, Try.results17, go_sem, d0, d1]) rfl ⟨_, rfl, IsRow.nil _, fun q hq => by simp [Value.ownBlock] at hq, (by ((repeat' (first | with_reducible exact Below.refl _ _ | with_reducible exact b4 | with_reducible refine Below.alloc ?_ ?_ _ | with_reducible refine Below.setCell ?_ ?_ _ | with_reducible refine Below.drew ?_ | with_reducible refine below_drewN ?_ _ | with_reducible refine Below.trans ?_ (b4.mono ?_))) <;> (first | omega | (simp; done) | (simp; omega))))⟩
    | true =>
      rw [if_pos rfl]
      simp only [hS] at hK
      have HK := hide hK
      have HE := hide hE
      clear hbe hbo hE hK hl hpl
      go_enter Try.func17, Try.ntmps17
      go_upto_region 1 with fail
      rw [← hW0]
      clear hW0
      obtain ⟨y0, y1, y2, y3, y4, v0, v1, f0, f1, b0, z0⟩ := HS.out W0 (Below.refl _ _)
      go_wp2_with fail
      refine (plCheck_any r f lo tm _ ps _ pl _ (HR.out _ b0).1 (HR.out _ b0).2).mono ?_
      rintro e w1 ⟨rfl, c1⟩
      rw [← HE.out]
      have B1 : Below (w.heap.size + 2) W0 w1 := (by ((repeat' (first | with_reducible exact Below.refl _ _ | with_reducible exact c1 | with_reducible refine Below.alloc ?_ ?_ _ | with_reducible refine Below.setCell ?_ ?_ _ | with_reducible refine Below.drew ?_ | with_reducible refine below_drewN ?_ _ | with_reducible refine Below.trans ?_ (c1.mono ?_))) <;> (first | omega | (simp; done) | (simp; omega))))
      clear y0 y1 y2 y3 y4 v0 v1 f0 f1 b0 z0
      obtain ⟨y0, y1, y2, y3, y4, v0, v1, f0, f1, b1, z1⟩ := HS.out w1 B1
      go_wp2_with fail
      refine (rules_any r f lo tm _ _).mono ?_
      rintro e w2 ⟨rfl, hw2⟩
      obtain ⟨s1, s2, s3, b2⟩ := rules_at _ r f lo tm _ hw2
      obtain ⟨g0, g1, gf0, gf1⟩ := rules_raw _ r f lo tm _ hw2
      have z1' : w.heap.size + 2 ≤ w1.heap.size := z1
      have B2 : Below (w.heap.size + 2) W0 w2 := (by ((repeat' (first | with_reducible exact Below.refl _ _ | with_reducible exact b2 | with_reducible exact B1 | with_reducible refine Below.alloc ?_ ?_ _ | with_reducible refine Below.setCell ?_ ?_ _ | with_reducible refine Below.drew ?_ | with_reducible refine below_drewN ?_ _ | with_reducible refine Below.trans ?_ (b2.mono ?_) | with_reducible refine Below.trans ?_ (B1.mono ?_))) <;> (first | omega | (simp; done) | (simp; omega))))
      clear hw2 y0 y1 y2 y3 y4 v0 v1 f0 f1 b1
      obtain ⟨sb, hsb⟩ : ∃ sb, sb = w1.heap.size := ⟨_, rfl⟩
      obtain ⟨rb, hrb⟩ : ∃ rb, rb = w1.heap.size + 1 := ⟨_, rfl⟩
      rw [← hrb, ← hsb] at s2
      rw [← hsb] at s1
      rw [← hrb, ← hsb] at g0
      rw [← hrb] at g1 gf0 gf1
      have e1 : w.heap.size + 2 ≤ sb := by omega
      have e2 : sb < rb := by omega
      have e3 : rb < w2.heap.size := by omega
      have S1 := hide s1
      have S2 := hide s2
      rw [← hrb]
      clear s1 s2 s3 hrb hsb z1 z1'
      obtain ⟨y0, y1, y2, y3, y4, v0, v1, f0, f1, b2', z2⟩ := HS.out w2 B2
      go_wp2_with fail
      go_region
      obtain ⟨V, hV⟩ : ∃ V : World, V = ((w2.setCell ⟨rb, 0, none⟩ (.func (.func 44) #[] #[])).setCell ⟨rb, 1, none⟩ (.func (.func 43) #[] #[.pointer (some ⟨sb, 0, none⟩)])).drew := ⟨_, rfl⟩
      have t1 : RlAt V rb true sb := by rw [hV]; exact rl_swap S2.out
      have t2 : StAt V sb r f lo tm (.slice pa ps.length pc) := by rw [hV]; exact st_swap S1.out (by omega)
      have B3 : Below (w.heap.size + 2) W0 V := by rw [hV]; exact ((B2.setCell (p := ⟨rb, 0, none⟩) (by show _ ≤ rb; omega) _).setCell (p := ⟨rb, 1, none⟩) (by show _ ≤ rb; omega) _).drew
      have zV : V.heap.size = w2.heap.size := by rw [hV]; simp [World.setCell, World.drew]
      rw [← hV]
      have zv1 : sb < V.heap.size := by omega
      have zv2 : rb < V.heap.size := by omega
      clear hV g0 g1 gf0 gf1 S1 S2 y0 y1 y2 y3 y4 v0 v1 f0 f1 b2' z2 b2 B2 zV e3
      obtain ⟨y0, y1, y2, y3, y4, v0, v1, f0, f1, b3, z3⟩ := HS.out V B3
      go_wp2_with fail
      refine (HK.out V sb rb b3 t2 t1 zv1 zv2).mono ?_
      rintro e w3 ⟨uv, rfl, hrow, hown, c3⟩
      obtain ⟨ua, uc, huv, -⟩ := id hrow
      subst huv
      have B4 : Below (w.heap.size + 2) W0 w3 := (by ((repeat' (first | with_reducible exact Below.refl _ _ | with_reducible exact c3 | with_reducible exact B3 | with_reducible refine Below.alloc ?_ ?_ _ | with_reducible refine Below.setCell ?_ ?_ _ | with_reducible refine Below.drew ?_ | with_reducible refine below_drewN ?_ _ | with_reducible refine Below.trans ?_ (c3.mono ?_) | with_reducible refine Below.trans ?_ (B3.mono ?_))) <;> (first | omega | (simp; done) | (simp; omega))))
      have hown' : ∀ q, (Value.slice ua (accO res).use.length uc).ownBlock = some q → w.heap.size + 2 ≤ q := fun q hq => by have := hown q hq; omega
      have Hrow := hide hrow
      have Hown := hide hown'
      clear hrow hown hown' y0 y1 y2 y3 y4 v0 v1 f0 f1 t1 t2
      obtain ⟨y0, y1, y2, y3, y4, v0, v1, f0, f1, b4, z4⟩ := HS.out w3 B4
      have za : w.heap.size < w3.heap.size := by omega
      have zb : w.heap.size + 1 < w3.heap.size := by omega
      go_wp2_with fail
      go_region
      go_wp2_with fail
      have Hn : ∀ q, (Value.slice ua (accO res).use.length uc).ownBlock = some q → q ≠ w.heap.size + 1 := fun q hq e => by have := Hown.out q hq; omega
      have dz : w.heap.size + 1 < ((w3.setCell ⟨w.heap.size + 1, 0, none⟩ (.slice ua (accO res).use.length uc)).setCell ⟨w.heap.size + 1, 1, none⟩ (.int .i64 (accO res).ev)).heap.size := by simpa [World.setCell] using zb
      have d0 : (((w3.setCell ⟨w.heap.size + 1, 0, none⟩ (.slice ua (accO res).use.length uc)).setCell ⟨w.heap.size + 1, 1, none⟩ (.int .i64 (accO res).ev)).alloc (.cells #[.slice ua (accO res).use.length uc, .int .i64 (accO res).ev, .int .i64 (accO res).wd] 52)).drew.cell? ⟨w.heap.size + 1, 0, none⟩ = some (.slice ua (accO res).use.length uc) := (World.cell?_alloc_lt _ _ _ dz).trans (set_other _ (set_same _ v0) (by intro h; simp at h))
      have d1 : (((w3.setCell ⟨w.heap.size + 1, 0, none⟩ (.slice ua (accO res).use.length uc)).setCell ⟨w.heap.size + 1, 1, none⟩ (.int .i64 (accO res).ev)).alloc (.cells #[.slice ua (accO res).use.length uc, .int .i64 (accO res).ev, .int .i64 (accO res).wd] 52)).drew.cell? ⟨w.heap.size + 1, 1, none⟩ = some (.int .i64 (accO res).ev) := (World.cell?_alloc_lt _ _ _ dz).trans (set_same _ (set_other _ v1 (by intro h; simp at h)))
      exact bodyPost_ret (v := .tuple #[.agg #[.slice ua (accO res).use.length uc, .int .i64 (accO res).ev], .int .i64 (accO res).wd, .int .i64 0]) (by simp [results, Try.results17, go_sem, d0, d1]) rfl ⟨_, rfl, IsRow.below (w := (w3.setCell ⟨w.heap.size + 1, 0, none⟩ (.slice ua (accO res).use.length uc)).setCell ⟨w.heap.size + 1, 1, none⟩ (.int .i64 (accO res).ev)) (isrow_set (isrow_set Hrow.out _ _ fun _ => Hn) _ _ fun _ => Hn) (Nat.le_refl _) (by ((repeat' (first | with_reducible exact Below.refl _ _ | with_reducible refine Below.alloc ?_ ?_ _ | with_reducible refine Below.setCell ?_ ?_ _ | with_reducible refine Below.drew ?_ | with_reducible refine below_drewN ?_ _)) <;> (first | omega | (simp; done) | (simp; omega)))), fun q hq => by have := Hown.out q hq; omega, (by ((repeat' (first | with_reducible exact Below.refl _ _ | with_reducible exact b4 | with_reducible refine Below.alloc ?_ ?_ _ | with_reducible refine Below.setCell ?_ ?_ _ | with_reducible refine Below.drew ?_ | with_reducible refine below_drewN ?_ _ | with_reducible refine Below.trans ?_ (b4.mono ?_))) <;> (first | omega | (simp; done) | (simp; omega))))⟩
  · have hbo : nwO ⟨r, f, lo, tm, ps⟩ pl = none := by unfold nwO; rw [← hE, if_neg hE0]
    have hbe : nwE ⟨r, f, lo, tm, ps⟩ pl = E := by unfold nwE; rw [← hE, if_neg hE0]
    rw [hbo, hbe]
    have HE := hide hE
    have hEn : (E != 0) = true := by rw [bne_iff_ne]; exact hE0
    clear hbe hbo hE hE0
    go_enter Try.func17, Try.ntmps17
    go_upto_region 1 with fail
    rw [← hW0]
    clear hW0
    obtain ⟨y0, y1, y2, y3, y4, v0, v1, f0, f1, b0, z0⟩ := HS.out W0 (Below.refl _ _)
    go_wp2_with fail
    refine (plCheck_any r f lo tm _ ps _ pl _ (HR.out _ b0).1 (HR.out _ b0).2).mono ?_
    rintro e w1 ⟨rfl, c1⟩
    rw [← HE.out]
    have B1 : Below (w.heap.size + 2) W0 w1 := (by ((repeat' (first | with_reducible exact Below.refl _ _ | with_reducible exact c1 | with_reducible refine Below.alloc ?_ ?_ _ | with_reducible refine Below.setCell ?_ ?_ _ | with_reducible refine Below.drew ?_ | with_reducible refine below_drewN ?_ _ | with_reducible refine Below.trans ?_ (c1.mono ?_))) <;> (first | omega | (simp; done) | (simp; omega))))
    clear y0 y1 y2 y3 y4 v0 v1 f0 f1 b0 z0
    obtain ⟨y0, y1, y2, y3, y4, v0, v1, f0, f1, b1, z1⟩ := HS.out w1 B1
    go_wp2_with fail
    have d0 : ((w1.setCell ⟨w.heap.size + 1, 0, none⟩ (.slice none 0 0)).setCell ⟨w.heap.size + 1, 1, none⟩ (.int .i64 0)).cell? ⟨w.heap.size + 1, 0, none⟩ = some (.slice none 0 0) := set_other _ (set_same _ v0) (by intro h; simp at h)
    have d1 : ((w1.setCell ⟨w.heap.size + 1, 0, none⟩ (.slice none 0 0)).setCell ⟨w.heap.size + 1, 1, none⟩ (.int .i64 0)).cell? ⟨w.heap.size + 1, 1, none⟩ = some (.int .i64 0) := set_same _ (set_other _ v1 (by intro h; simp at h))
    exact bodyPost_ret (v := .tuple #[.agg #[.slice none 0 0, .int .i64 0], .int .i64 0, .int .i64 E]) (by simp [results, Try.results17, go_sem, d0, d1]) rfl ⟨_, rfl, IsRow.nil _, fun q hq => by simp [Value.ownBlock] at hq, (by ((repeat' (first | with_reducible exact Below.refl _ _ | with_reducible exact b1 | with_reducible refine Below.alloc ?_ ?_ _ | with_reducible refine Below.setCell ?_ ?_ _ | with_reducible refine Below.drew ?_ | with_reducible refine below_drewN ?_ _ | with_reducible refine Below.trans ?_ (b1.mono ?_))) <;> (first | omega | (simp; done) | (simp; omega))))⟩
end Go.Proofs.Ytiaahfccebmkdaa
