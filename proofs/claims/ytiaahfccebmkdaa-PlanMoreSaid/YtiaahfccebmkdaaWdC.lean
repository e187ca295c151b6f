/- Package width: what is made of some peers of a site. -/
import Derived.Test.YtiaahfccebmkdaaWdB
import Derived.Deep.RegionHeld3
import Derived.Deep.RegionLaw
import Derived.IntWalk
namespace Go.Proofs.Ytiaahfccebmkdaa
open Go.RowKit
theorem step_append_own {P : Program} {ops : Array Oper} {o : Oper} {a : Act} {w : World} {K : Act → World → Prop} {Q : Exit → Act → World → Prop} {E : Prop}
    (hg : o.guard = none) (s x : Operand) (t : TypeId) (hop : o.op = Op.call { callee := Callee.builtin Builtin.append, args := #[s, x], argTypes := #[t, t] })
    (base : Nat) (e : TypeId) (i : TypeInfo) (z : Value) (size bytes : Nat) (h1 : P.underlying t = some (.slice e)) (h2 : P.info? e = some i) (h3 : i.zero = some z) (h4 : i.size = size) (h5 : i.bytes = bytes) (h6 : z.cells.size = size) (h7 : 0 < size)
    (v : Value) (n : Nat) (olds : List Value) (hs : a.eval s = v) (hown : w.ownsRow base e size v n olds)
    (ad : Addr) (m c : Nat) (news : List Value) (hx : a.eval x = .slice (some ad) m c) (hn : news.length = m * size) (hc : ∀ j u, news[j]? = some u → w.cell? (ad.add j) = some u) (h1c : ∀ u ∈ news, u.oneCell' = true)
    (b1 : n + m ≤ maxLen) (b2 : (n + m) * bytes ≤ 140737488355328) (b3 : base ≤ w.heap.size)
    (hK : ∀ v' w', w'.ownsRow base e size v' (n + m) (olds ++ news) → w.grownBy w' v.ownBlock → K (a.put o.dst v') w') :
    if Region.wanted o (yielded ops a.tmps) = true then Oper.wp P o a w K Q else E := by
  have hw : Region.wanted o (yielded ops a.tmps) = true := by simp [Region.wanted, hg]
  rw [if_pos hw]
  obtain ⟨v', w', hrun, r1, r2, _⟩ := run_append_own (P := P) w base t o.type e i z size bytes h1 h2 h3 h4 h5 h6 h7 v n olds hown ad m c news hn hc h1c b1 b2 b3
  unfold Oper.wp
  simp [execOp, hop, resolve, invoke, builtin, hs, hx, hrun, Result.andThen]
  exact hK v' w' r1 r2
set_option maxRecDepth 100000 in
set_option maxHeartbeats 1000000 in
theorem wdPeersAuth_any (r f lo tm : Int) (pv : Value) (ps : List Pr) (uv : Value) (use : List Int) (w : World) (hp : PrRow w pv ps) (hu : IsRow w uv use) (hul : use.length ≤ 1000) (hin : ∀ j, j < use.length → 0 ≤ iAt use j ∧ iAt use j < ps.length) :
    Calls Try.prog 28 #[.agg #[.int .i64 r, .int .i64 f, .int .i64 lo, .int .i64 tm, pv], uv, .func (.func 57) #[] #[]] w fun e w' => ∃ ov, e = .returned ov ∧ OwnIs w' w.heap.size ov (use.map fun i => Pr.au (pAt ps i.toNat)) ∧ Below w.heap.size w w' := by
  obtain ⟨i0, hi0, hz0, hz1, hz2⟩ := info_parts infoInt
  obtain ⟨pa, pc, rfl, q1, q2, q3⟩ := hp
  obtain ⟨ua, uc, rfl, u1, u2, u3⟩ := hu
  go_enter Try.func28, Try.ntmps28
  go_wp2
  go_loopw [7, 12] (fun s7 s12 wx => ∃ k : Nat, k ≤ use.length ∧ s12 = .int .i64 k ∧ OwnIs wx (w.heap.size + 1) s7 ((use.take k).map fun i => Pr.au (pAt ps i.toNat)) ∧ Below (w.heap.size + 1) (w.alloc (.cells #[.int .i64 r, .int .i64 f, .int .i64 lo, .int .i64 tm, .slice pa ps.length pc] 24)) wx) (fun _ s12 _ => use.length - (intOf s12).toNat)
  case atStart => exact ⟨0, Nat.zero_le _, rfl, by rw [List.take_zero]; exact OwnIs.nil _ _, Below.refl _ _⟩
  case round =>
    obtain ⟨k, hk, rfl, hown, hB⟩ := hrel
    have hBw : Below w.heap.size w wr := ((Below.refl _ _).alloc (Nat.le_refl _) _).trans (hB.mono (by omega))
    have hlk : ((use.take k).map fun i => Pr.au (pAt ps i.toNat)).length = k := by rw [List.length_map, List.length_take]; omega
    by_cases hlt : k < use.length
    · obtain ⟨ub, uo, rfl, u4, u5⟩ := u3 k hlt
      have hki := hin k hlt
      obtain ⟨q, hq⟩ : ∃ q : Nat, iAt use k = q := ⟨(iAt use k).toNat, by omega⟩
      rw [hq] at u5 hki
      have hql : q < ps.length := by omega
      obtain ⟨pb, po, rfl, q4, q5⟩ := q3 q hql
      have u5' := (hBw.cell (p := ⟨ub, uo + k, none⟩) u4).trans u5
      have hzr : w.heap.size + 1 ≤ wr.heap.size := by have := hB.size; simpa using this
      have hsn : (use.take (k + 1)).map (fun i => Pr.au (pAt ps i.toNat)) = ((use.take k).map fun i => Pr.au (pAt ps i.toNat)) ++ [Pr.au (pAt ps q)] := by
        rw [take_snoc_is use k hlt, hq]; simp
      have I1 : (0 : Int) ≤ (q : Int) := by omega
      have I2 : (q : Int) < (ps.length : Int) := by omega
      obtain ⟨oa, ocap, hov, ho1, ho2⟩ := hown.val
      have hlow := World.ownsRow.lt hown
      have hown' := hown
      unfold OwnIs at hown'
      rw [hlk] at hown' hov
      subst hov
      have Hlk := hide hlk
      have Hsn := hide hsn
      have Hq := hide hq
      have q4' : pb < wr.heap.size := Nat.lt_of_lt_of_le q4 hBw.size
      have zd : wr.drew.heap.size = wr.heap.size := rfl
      generalize hP : pAt ps q = p at *
      have HP := hide hP
      have hS : ∀ W : World, Below (w.heap.size + 1) (w.alloc (.cells #[.int .i64 r, .int .i64 f, .int .i64 lo, .int .i64 tm, .slice (some ⟨pb, po, none⟩) ps.length pc] 24)) W → W.cell? ⟨pb, po + q * 8, none⟩ = some (.int .i64 p.au) ∧ W.cell? ⟨pb, po + q * 8 + 1, none⟩ = some (.int .i64 p.er) ∧ W.cell? ⟨pb, po + q * 8 + 2, none⟩ = some (.int .i64 p.co) ∧ W.cell? ⟨pb, po + q * 8 + 3, none⟩ = some (.int .i64 p.at_) ∧ W.cell? ⟨pb, po + q * 8 + 4, none⟩ = some (.int .i64 p.ol) ∧ W.cell? ⟨pb, po + q * 8 + 5, none⟩ = some (.int .i64 p.oh) ∧ W.cell? ⟨pb, po + q * 8 + 6, none⟩ = some (.int .i64 p.bl) ∧ W.cell? ⟨pb, po + q * 8 + 7, none⟩ = some (.int .i64 p.bh) ∧
        W.cell? ⟨w.heap.size, 0, none⟩ = some (.int .i64 r) ∧ W.cell? ⟨w.heap.size, 1, none⟩ = some (.int .i64 f) ∧ W.cell? ⟨w.heap.size, 2, none⟩ = some (.int .i64 lo) ∧ W.cell? ⟨w.heap.size, 3, none⟩ = some (.int .i64 tm) ∧ W.cell? ⟨w.heap.size, 4, none⟩ = some (.slice (some ⟨pb, po, none⟩) ps.length pc) := by
        intro W hW
        obtain ⟨p0, p1, p2, p3, p4, p5, p6, p7⟩ := q5.below (((Below.refl w.heap.size w).alloc (Nat.le_refl _) _).trans (hW.mono (by omega))) q4
        have hc := (bk hW w.heap.size (by omega)).1
        exact ⟨p0, p1, p2, p3, p4, p5, p6, p7, (hc 0).trans (by simp), (hc 1).trans (by simp), (hc 2).trans (by simp), (hc 3).trans (by simp), (hc 4).trans (by simp)⟩
      obtain ⟨p0, p1, p2, p3, p4, p5, p6, p7, y0, y1, y2, y3, y4⟩ := hS wr hB
      have HS := hide hS
      clear hlk hsn hq hown u3 q3 u5 q5 hin hP hS
      go_wp2
      go_region_held3 (fun W => W.cell? ⟨pb, po + q * 8, none⟩ = some (.int .i64 p.au) ∧ W.cell? ⟨pb, po + q * 8 + 1, none⟩ = some (.int .i64 p.er) ∧ W.cell? ⟨pb, po + q * 8 + 2, none⟩ = some (.int .i64 p.co) ∧ W.cell? ⟨pb, po + q * 8 + 3, none⟩ = some (.int .i64 p.at_) ∧ W.cell? ⟨pb, po + q * 8 + 4, none⟩ = some (.int .i64 p.ol) ∧ W.cell? ⟨pb, po + q * 8 + 5, none⟩ = some (.int .i64 p.oh) ∧ W.cell? ⟨pb, po + q * 8 + 6, none⟩ = some (.int .i64 p.bl) ∧ W.cell? ⟨pb, po + q * 8 + 7, none⟩ = some (.int .i64 p.bh) ∧
        W.cell? ⟨w.heap.size, 0, none⟩ = some (.int .i64 r) ∧ W.cell? ⟨w.heap.size, 1, none⟩ = some (.int .i64 f) ∧ W.cell? ⟨w.heap.size, 2, none⟩ = some (.int .i64 lo) ∧ W.cell? ⟨w.heap.size, 3, none⟩ = some (.int .i64 tm) ∧ W.cell? ⟨w.heap.size, 4, none⟩ = some (.slice (some ⟨pb, po, none⟩) ps.length pc)) (exact HS.out _ (by ((repeat' (first | with_reducible exact Below.refl _ _ | with_reducible exact hB3 | with_reducible exact b1 | with_reducible exact hB | with_reducible refine Below.alloc ?_ ?_ _ | with_reducible refine Below.setCell ?_ ?_ _ | with_reducible refine Below.drew ?_ | with_reducible refine below_drewN ?_ _ | with_reducible refine Below.trans ?_ (hB3.mono ?_) | with_reducible refine Below.trans ?_ (b1.mono ?_) | with_reducible refine Below.trans ?_ (hB.mono ?_))) <;> (first | omega | (simp; done) | (simp; omega)))))
        (first | (go_at_call 57; refine (wdAuth_any p r f lo tm _ _).mono ?_; rintro e w1 ⟨rfl, b1⟩; have z1 := b1.size) | ((refine step_append_own rfl (.tmp 16) (.tmp 26) 25 rfl (w.heap.size + 1) 3 i0 (.int .i64 0) 1 8 Try.underlying25 hi0 hz0 hz1 hz2 rfl (by decide) _ k _ (by simp [Act.eval]) (World.ownsRow.alloc (ownsRow_below hown' (by ((repeat' (first | with_reducible exact Below.refl _ _ | with_reducible exact b1 | with_reducible refine Below.alloc ?_ ?_ _ | with_reducible refine Below.setCell ?_ ?_ _ | with_reducible refine Below.drew ?_ | with_reducible refine below_drewN ?_ _ | with_reducible refine Below.trans ?_ (b1.mono ?_))) <;> (first | omega | (simp; done) | (simp; omega))))) _) ⟨w1.heap.size, 0, none⟩ 1 1 [.int .i64 p.au] (by simp [Act.eval]) rfl (cells_new w1 [.int .i64 p.au] _) (by simp [Value.oneCell']) (by unfold maxLen; omega) (by omega) (by have := b1.size; first | omega | (simp; omega)) ?_; intro v3 w3 hown3 hg3; have hB3 : Below (w.heap.size + 1) (w.alloc (.cells #[.int .i64 r, .int .i64 f, .int .i64 lo, .int .i64 tm, .slice (some ⟨pb, po, none⟩) ps.length pc] 24)) w3 := Below.grown (by ((repeat' (first | with_reducible exact Below.refl _ _ | with_reducible exact b1 | with_reducible exact hB | with_reducible refine Below.alloc ?_ ?_ _ | with_reducible refine Below.setCell ?_ ?_ _ | with_reducible refine Below.drew ?_ | with_reducible refine below_drewN ?_ _ | with_reducible refine Below.trans ?_ (b1.mono ?_) | with_reducible refine Below.trans ?_ (hB.mono ?_))) <;> (first | omega | (simp; done) | (simp; omega)))) hg3 (by have := b1.size; first | omega | (simp; omega)) (fun r h => (hlow r h).1))))
      go_wp2
      go_roundw
      case rel => exact ⟨k + 1, by omega, by go_num, by rw [Hsn.out]; exact OwnIs.app (by rw [Hlk.out]; exact hown3), hB3⟩
      case measure => simp [intOf]; omega
    · obtain rfl : k = use.length := by omega
      rw [List.take_length] at hown
      go_wp2_with fail
      go_ret
      exact ⟨_, rfl, World.ownsRow.mono hown (by omega), hBw⟩
set_option maxRecDepth 100000 in
set_option maxHeartbeats 1000000 in
theorem wdPeersWidth_any (r f lo tm : Int) (pv : Value) (ps : List Pr) (uv : Value) (use : List Int) (w : World) (hp : PrRow w pv ps) (hu : IsRow w uv use) (hul : use.length ≤ 1000) (hin : ∀ j, j < use.length → 0 ≤ iAt use j ∧ iAt use j < ps.length) (hok : ∀ j, j < ps.length → (0 ≤ (pAt ps j).er ∧ (pAt ps j).er ≤ 1000000) ∧ (0 ≤ (pAt ps j).ol ∧ (pAt ps j).ol ≤ 1000000) ∧ (0 ≤ (pAt ps j).oh ∧ (pAt ps j).oh ≤ 1000000)) :
    Calls Try.prog 28 #[.agg #[.int .i64 r, .int .i64 f, .int .i64 lo, .int .i64 tm, pv], uv, .func (.func 29) #[] #[]] w fun e w' => ∃ ov, e = .returned ov ∧ OwnIs w' w.heap.size ov (use.map fun i => pWd (pAt ps i.toNat)) ∧ Below w.heap.size w w' := by
  obtain ⟨i0, hi0, hz0, hz1, hz2⟩ := info_parts infoInt
  obtain ⟨pa, pc, rfl, q1, q2, q3⟩ := hp
  obtain ⟨ua, uc, rfl, u1, u2, u3⟩ := hu
  go_enter Try.func28, Try.ntmps28
  go_wp2
  go_loopw [7, 12] (fun s7 s12 wx => ∃ k : Nat, k ≤ use.length ∧ s12 = .int .i64 k ∧ OwnIs wx (w.heap.size + 1) s7 ((use.take k).map fun i => pWd (pAt ps i.toNat)) ∧ Below (w.heap.size + 1) (w.alloc (.cells #[.int .i64 r, .int .i64 f, .int .i64 lo, .int .i64 tm, .slice pa ps.length pc] 24)) wx) (fun _ s12 _ => use.length - (intOf s12).toNat)
  case atStart => exact ⟨0, Nat.zero_le _, rfl, by rw [List.take_zero]; exact OwnIs.nil _ _, Below.refl _ _⟩
  case round =>
    obtain ⟨k, hk, rfl, hown, hB⟩ := hrel
    have hBw : Below w.heap.size w wr := ((Below.refl _ _).alloc (Nat.le_refl _) _).trans (hB.mono (by omega))
    have hlk : ((use.take k).map fun i => pWd (pAt ps i.toNat)).length = k := by rw [List.length_map, List.length_take]; omega
    by_cases hlt : k < use.length
    · obtain ⟨ub, uo, rfl, u4, u5⟩ := u3 k hlt
      have hki := hin k hlt
      obtain ⟨q, hq⟩ : ∃ q : Nat, iAt use k = q := ⟨(iAt use k).toNat, by omega⟩
      rw [hq] at u5 hki
      have hql : q < ps.length := by omega
      obtain ⟨pb, po, rfl, q4, q5⟩ := q3 q hql
      have u5' := (hBw.cell (p := ⟨ub, uo + k, none⟩) u4).trans u5
      have hzr : w.heap.size + 1 ≤ wr.heap.size := by have := hB.size; simpa using this
      have hsn : (use.take (k + 1)).map (fun i => pWd (pAt ps i.toNat)) = ((use.take k).map fun i => pWd (pAt ps i.toNat)) ++ [pWd (pAt ps q)] := by
        rw [take_snoc_is use k hlt, hq]; simp
      have I1 : (0 : Int) ≤ (q : Int) := by omega
      have I2 : (q : Int) < (ps.length : Int) := by omega
      obtain ⟨oa, ocap, hov, ho1, ho2⟩ := hown.val
      have hlow := World.ownsRow.lt hown
      have hown' := hown
      unfold OwnIs at hown'
      rw [hlk] at hown' hov
      subst hov
      have Hlk := hide hlk
      have Hsn := hide hsn
      have Hq := hide hq
      have q4' : pb < wr.heap.size := Nat.lt_of_lt_of_le q4 hBw.size
      have zd : wr.drew.heap.size = wr.heap.size := rfl
      obtain ⟨hk1, hk2, hk3⟩ := hok q hql
      clear hok
      generalize hP : pAt ps q = p at *
      have HP := hide hP
      have hS : ∀ W : World, Below (w.heap.size + 1) (w.alloc (.cells #[.int .i64 r, .int .i64 f, .int .i64 lo, .int .i64 tm, .slice (some ⟨pb, po, none⟩) ps.length pc] 24)) W → W.cell? ⟨pb, po + q * 8, none⟩ = some (.int .i64 p.au) ∧ W.cell? ⟨pb, po + q * 8 + 1, none⟩ = some (.int .i64 p.er) ∧ W.cell? ⟨pb, po + q * 8 + 2, none⟩ = some (.int .i64 p.co) ∧ W.cell? ⟨pb, po + q * 8 + 3, none⟩ = some (.int .i64 p.at_) ∧ W.cell? ⟨pb, po + q * 8 + 4, none⟩ = some (.int .i64 p.ol) ∧ W.cell? ⟨pb, po + q * 8 + 5, none⟩ = some (.int .i64 p.oh) ∧ W.cell? ⟨pb, po + q * 8 + 6, none⟩ = some (.int .i64 p.bl) ∧ W.cell? ⟨pb, po + q * 8 + 7, none⟩ = some (.int .i64 p.bh) ∧
        W.cell? ⟨w.heap.size, 0, none⟩ = some (.int .i64 r) ∧ W.cell? ⟨w.heap.size, 1, none⟩ = some (.int .i64 f) ∧ W.cell? ⟨w.heap.size, 2, none⟩ = some (.int .i64 lo) ∧ W.cell? ⟨w.heap.size, 3, none⟩ = some (.int .i64 tm) ∧ W.cell? ⟨w.heap.size, 4, none⟩ = some (.slice (some ⟨pb, po, none⟩) ps.length pc) := by
        intro W hW
        obtain ⟨p0, p1, p2, p3, p4, p5, p6, p7⟩ := q5.below (((Below.refl w.heap.size w).alloc (Nat.le_refl _) _).trans (hW.mono (by omega))) q4
        have hc := (bk hW w.heap.size (by omega)).1
        exact ⟨p0, p1, p2, p3, p4, p5, p6, p7, (hc 0).trans (by simp), (hc 1).trans (by simp), (hc 2).trans (by simp), (hc 3).trans (by simp), (hc 4).trans (by simp)⟩
      obtain ⟨p0, p1, p2, p3, p4, p5, p6, p7, y0, y1, y2, y3, y4⟩ := hS wr hB
      have HS := hide hS
      clear hlk hsn hq hown u3 q3 u5 q5 hin hP hS
      go_wp2
      go_region_held3 (fun W => W.cell? ⟨pb, po + q * 8, none⟩ = some (.int .i64 p.au) ∧ W.cell? ⟨pb, po + q * 8 + 1, none⟩ = some (.int .i64 p.er) ∧ W.cell? ⟨pb, po + q * 8 + 2, none⟩ = some (.int .i64 p.co) ∧ W.cell? ⟨pb, po + q * 8 + 3, none⟩ = some (.int .i64 p.at_) ∧ W.cell? ⟨pb, po + q * 8 + 4, none⟩ = some (.int .i64 p.ol) ∧ W.cell? ⟨pb, po + q * 8 + 5, none⟩ = some (.int .i64 p.oh) ∧ W.cell? ⟨pb, po + q * 8 + 6, none⟩ = some (.int .i64 p.bl) ∧ W.cell? ⟨pb, po + q * 8 + 7, none⟩ = some (.int .i64 p.bh) ∧
        W.cell? ⟨w.heap.size, 0, none⟩ = some (.int .i64 r) ∧ W.cell? ⟨w.heap.size, 1, none⟩ = some (.int .i64 f) ∧ W.cell? ⟨w.heap.size, 2, none⟩ = some (.int .i64 lo) ∧ W.cell? ⟨w.heap.size, 3, none⟩ = some (.int .i64 tm) ∧ W.cell? ⟨w.heap.size, 4, none⟩ = some (.slice (some ⟨pb, po, none⟩) ps.length pc)) (exact HS.out _ (by ((repeat' (first | with_reducible exact Below.refl _ _ | with_reducible exact hB3 | with_reducible exact b1 | with_reducible exact hB | with_reducible refine Below.alloc ?_ ?_ _ | with_reducible refine Below.setCell ?_ ?_ _ | with_reducible refine Below.drew ?_ | with_reducible refine below_drewN ?_ _ | with_reducible refine Below.trans ?_ (hB3.mono ?_) | with_reducible refine Below.trans ?_ (b1.mono ?_) | with_reducible refine Below.trans ?_ (hB.mono ?_))) <;> (first | omega | (simp; done) | (simp; omega)))))
        (first | (go_at_call 29; refine (wdWidth_any p r f lo tm _ _ hk1 hk2 hk3).mono ?_; rintro e w1 ⟨rfl, b1⟩; have z1 := b1.size) | ((refine step_append_own rfl (.tmp 16) (.tmp 26) 25 rfl (w.heap.size + 1) 3 i0 (.int .i64 0) 1 8 Try.underlying25 hi0 hz0 hz1 hz2 rfl (by decide) _ k _ (by simp [Act.eval]) (World.ownsRow.alloc (ownsRow_below hown' (by ((repeat' (first | with_reducible exact Below.refl _ _ | with_reducible exact b1 | with_reducible refine Below.alloc ?_ ?_ _ | with_reducible refine Below.setCell ?_ ?_ _ | with_reducible refine Below.drew ?_ | with_reducible refine below_drewN ?_ _ | with_reducible refine Below.trans ?_ (b1.mono ?_))) <;> (first | omega | (simp; done) | (simp; omega))))) _) ⟨w1.heap.size, 0, none⟩ 1 1 [.int .i64 (pWd p)] (by simp [Act.eval]) rfl (cells_new w1 [.int .i64 (pWd p)] _) (by simp [Value.oneCell']) (by unfold maxLen; omega) (by omega) (by have := b1.size; first | omega | (simp; omega)) ?_; intro v3 w3 hown3 hg3; have hB3 : Below (w.heap.size + 1) (w.alloc (.cells #[.int .i64 r, .int .i64 f, .int .i64 lo, .int .i64 tm, .slice (some ⟨pb, po, none⟩) ps.length pc] 24)) w3 := Below.grown (by ((repeat' (first | with_reducible exact Below.refl _ _ | with_reducible exact b1 | with_reducible exact hB | with_reducible refine Below.alloc ?_ ?_ _ | with_reducible refine Below.setCell ?_ ?_ _ | with_reducible refine Below.drew ?_ | with_reducible refine below_drewN ?_ _ | with_reducible refine Below.trans ?_ (b1.mono ?_) | with_reducible refine Below.trans ?_ (hB.mono ?_))) <;> (first | omega | (simp; done) | (simp; omega)))) hg3 (by have := b1.size; first | omega | (simp; omega)) (fun r h => (hlow r h).1))))
      go_wp2
      go_roundw
      case rel => exact ⟨k + 1, by omega, by go_num, by rw [Hsn.out]; exact OwnIs.app (by rw [Hlk.out]; exact hown3), hB3⟩
      case measure => simp [intOf]; omega
    · obtain rfl : k = use.length := by omega
      rw [List.take_length] at hown
      go_wp2_with fail
      go_ret
      exact ⟨_, rfl, World.ownsRow.mono hown (by omega), hBw⟩
set_option maxRecDepth 100000 in
set_option maxHeartbeats 1000000 in
theorem wdPeersWrong_any (r f lo tm : Int) (pv : Value) (ps : List Pr) (uv : Value) (use : List Int) (w : World) (hp : PrRow w pv ps) (hu : IsRow w uv use) (hul : use.length ≤ 1000) (hin : ∀ j, j < use.length → 0 ≤ iAt use j ∧ iAt use j < ps.length) (hr : 0 ≤ r ∧ r ≤ 1000000) :
    Calls Try.prog 54 #[.agg #[.int .i64 r, .int .i64 f, .int .i64 lo, .int .i64 tm, pv], uv, .func (.func 56) #[] #[]] w fun e w' => ∃ ov, e = .returned ov ∧ OwnBs w' w.heap.size ov (use.map fun i => (!prB r tm (pAt ps i.toNat))) ∧ Below w.heap.size w w' := by
  obtain ⟨i0, hi0, hz0, hz1, hz2⟩ := info_parts infoBool
  obtain ⟨pa, pc, rfl, q1, q2, q3⟩ := hp
  obtain ⟨ua, uc, rfl, u1, u2, u3⟩ := hu
  go_enter Try.func54, Try.ntmps54
  go_wp2
  go_loopw [7, 12] (fun s7 s12 wx => ∃ k : Nat, k ≤ use.length ∧ s12 = .int .i64 k ∧ OwnBs wx (w.heap.size + 1) s7 ((use.take k).map fun i => (!prB r tm (pAt ps i.toNat))) ∧ Below (w.heap.size + 1) (w.alloc (.cells #[.int .i64 r, .int .i64 f, .int .i64 lo, .int .i64 tm, .slice pa ps.length pc] 24)) wx) (fun _ s12 _ => use.length - (intOf s12).toNat)
  case atStart => exact ⟨0, Nat.zero_le _, rfl, by rw [List.take_zero]; exact OwnBs.nil _ _, Below.refl _ _⟩
  case round =>
    obtain ⟨k, hk, rfl, hown, hB⟩ := hrel
    have hBw : Below w.heap.size w wr := ((Below.refl _ _).alloc (Nat.le_refl _) _).trans (hB.mono (by omega))
    have hlk : ((use.take k).map fun i => (!prB r tm (pAt ps i.toNat))).length = k := by rw [List.length_map, List.length_take]; omega
    by_cases hlt : k < use.length
    · obtain ⟨ub, uo, rfl, u4, u5⟩ := u3 k hlt
      have hki := hin k hlt
      obtain ⟨q, hq⟩ : ∃ q : Nat, iAt use k = q := ⟨(iAt use k).toNat, by omega⟩
      rw [hq] at u5 hki
      have hql : q < ps.length := by omega
      obtain ⟨pb, po, rfl, q4, q5⟩ := q3 q hql
      have u5' := (hBw.cell (p := ⟨ub, uo + k, none⟩) u4).trans u5
      have hzr : w.heap.size + 1 ≤ wr.heap.size := by have := hB.size; simpa using this
      have hsn : (use.take (k + 1)).map (fun i => (!prB r tm (pAt ps i.toNat))) = ((use.take k).map fun i => (!prB r tm (pAt ps i.toNat))) ++ [!prB r tm (pAt ps q)] := by
        rw [take_snoc_is use k hlt, hq]; simp
      have I1 : (0 : Int) ≤ (q : Int) := by omega
      have I2 : (q : Int) < (ps.length : Int) := by omega
      obtain ⟨oa, ocap, hov, ho1, ho2⟩ := hown.val
      have hlow := World.ownsRow.lt hown
      have hown' := hown
      unfold OwnBs at hown'
      rw [hlk] at hown' hov
      subst hov
      have Hlk := hide hlk
      have Hsn := hide hsn
      have Hq := hide hq
      have q4' : pb < wr.heap.size := Nat.lt_of_lt_of_le q4 hBw.size
      have zd : wr.drew.heap.size = wr.heap.size := rfl
      generalize hP : pAt ps q = p at *
      have HP := hide hP
      have hS : ∀ W : World, Below (w.heap.size + 1) (w.alloc (.cells #[.int .i64 r, .int .i64 f, .int .i64 lo, .int .i64 tm, .slice (some ⟨pb, po, none⟩) ps.length pc] 24)) W → W.cell? ⟨pb, po + q * 8, none⟩ = some (.int .i64 p.au) ∧ W.cell? ⟨pb, po + q * 8 + 1, none⟩ = some (.int .i64 p.er) ∧ W.cell? ⟨pb, po + q * 8 + 2, none⟩ = some (.int .i64 p.co) ∧ W.cell? ⟨pb, po + q * 8 + 3, none⟩ = some (.int .i64 p.at_) ∧ W.cell? ⟨pb, po + q * 8 + 4, none⟩ = some (.int .i64 p.ol) ∧ W.cell? ⟨pb, po + q * 8 + 5, none⟩ = some (.int .i64 p.oh) ∧ W.cell? ⟨pb, po + q * 8 + 6, none⟩ = some (.int .i64 p.bl) ∧ W.cell? ⟨pb, po + q * 8 + 7, none⟩ = some (.int .i64 p.bh) ∧
        W.cell? ⟨w.heap.size, 0, none⟩ = some (.int .i64 r) ∧ W.cell? ⟨w.heap.size, 1, none⟩ = some (.int .i64 f) ∧ W.cell? ⟨w.heap.size, 2, none⟩ = some (.int .i64 lo) ∧ W.cell? ⟨w.heap.size, 3, none⟩ = some (.int .i64 tm) ∧ W.cell? ⟨w.heap.size, 4, none⟩ = some (.slice (some ⟨pb, po, none⟩) ps.length pc) := by
        intro W hW
        obtain ⟨p0, p1, p2, p3, p4, p5, p6, p7⟩ := q5.below (((Below.refl w.heap.size w).alloc (Nat.le_refl _) _).trans (hW.mono (by omega))) q4
        have hc := (bk hW w.heap.size (by omega)).1
        exact ⟨p0, p1, p2, p3, p4, p5, p6, p7, (hc 0).trans (by simp), (hc 1).trans (by simp), (hc 2).trans (by simp), (hc 3).trans (by simp), (hc 4).trans (by simp)⟩
      obtain ⟨p0, p1, p2, p3, p4, p5, p6, p7, y0, y1, y2, y3, y4⟩ := hS wr hB
      have HS := hide hS
      clear hlk hsn hq hown u3 q3 u5 q5 hin hP hS
      go_wp2
      go_region_held3 (fun W => W.cell? ⟨pb, po + q * 8, none⟩ = some (.int .i64 p.au) ∧ W.cell? ⟨pb, po + q * 8 + 1, none⟩ = some (.int .i64 p.er) ∧ W.cell? ⟨pb, po + q * 8 + 2, none⟩ = some (.int .i64 p.co) ∧ W.cell? ⟨pb, po + q * 8 + 3, none⟩ = some (.int .i64 p.at_) ∧ W.cell? ⟨pb, po + q * 8 + 4, none⟩ = some (.int .i64 p.ol) ∧ W.cell? ⟨pb, po + q * 8 + 5, none⟩ = some (.int .i64 p.oh) ∧ W.cell? ⟨pb, po + q * 8 + 6, none⟩ = some (.int .i64 p.bl) ∧ W.cell? ⟨pb, po + q * 8 + 7, none⟩ = some (.int .i64 p.bh) ∧
        W.cell? ⟨w.heap.size, 0, none⟩ = some (.int .i64 r) ∧ W.cell? ⟨w.heap.size, 1, none⟩ = some (.int .i64 f) ∧ W.cell? ⟨w.heap.size, 2, none⟩ = some (.int .i64 lo) ∧ W.cell? ⟨w.heap.size, 3, none⟩ = some (.int .i64 tm) ∧ W.cell? ⟨w.heap.size, 4, none⟩ = some (.slice (some ⟨pb, po, none⟩) ps.length pc)) (exact HS.out _ (by ((repeat' (first | with_reducible exact Below.refl _ _ | with_reducible exact hB3 | with_reducible exact b1 | with_reducible exact hB | with_reducible refine Below.alloc ?_ ?_ _ | with_reducible refine Below.setCell ?_ ?_ _ | with_reducible refine Below.drew ?_ | with_reducible refine below_drewN ?_ _ | with_reducible refine Below.trans ?_ (hB3.mono ?_) | with_reducible refine Below.trans ?_ (b1.mono ?_) | with_reducible refine Below.trans ?_ (hB.mono ?_))) <;> (first | omega | (simp; done) | (simp; omega)))))
        (first | (go_at_call 56; refine (wdWrong_any p r f lo tm _ _ hr).mono ?_; rintro e w1 ⟨rfl, b1⟩; have z1 := b1.size) | ((refine step_append_own rfl (.tmp 16) (.tmp 26) 93 rfl (w.heap.size + 1) 4 i0 (.bool false) 1 1 Try.underlying93 hi0 hz0 hz1 hz2 rfl (by decide) _ k _ (by simp [Act.eval]) (World.ownsRow.alloc (ownsRow_below hown' (by ((repeat' (first | with_reducible exact Below.refl _ _ | with_reducible exact b1 | with_reducible refine Below.alloc ?_ ?_ _ | with_reducible refine Below.setCell ?_ ?_ _ | with_reducible refine Below.drew ?_ | with_reducible refine below_drewN ?_ _ | with_reducible refine Below.trans ?_ (b1.mono ?_))) <;> (first | omega | (simp; done) | (simp; omega))))) _) ⟨w1.heap.size, 0, none⟩ 1 1 [.bool (!prB r tm p)] (by simp [Act.eval]) rfl (cells_new w1 [.bool (!prB r tm p)] _) (by simp [Value.oneCell']) (by unfold maxLen; omega) (by omega) (by have := b1.size; first | omega | (simp; omega)) ?_; intro v3 w3 hown3 hg3; have hB3 : Below (w.heap.size + 1) (w.alloc (.cells #[.int .i64 r, .int .i64 f, .int .i64 lo, .int .i64 tm, .slice (some ⟨pb, po, none⟩) ps.length pc] 24)) w3 := Below.grown (by ((repeat' (first | with_reducible exact Below.refl _ _ | with_reducible exact b1 | with_reducible exact hB | with_reducible refine Below.alloc ?_ ?_ _ | with_reducible refine Below.setCell ?_ ?_ _ | with_reducible refine Below.drew ?_ | with_reducible refine below_drewN ?_ _ | with_reducible refine Below.trans ?_ (b1.mono ?_) | with_reducible refine Below.trans ?_ (hB.mono ?_))) <;> (first | omega | (simp; done) | (simp; omega)))) hg3 (by have := b1.size; first | omega | (simp; omega)) (fun r h => (hlow r h).1))))
      go_wp2
      go_roundw
      case rel => exact ⟨k + 1, by omega, by go_num, by rw [Hsn.out]; exact OwnBs.app (by rw [Hlk.out]; exact hown3), hB3⟩
      case measure => simp [intOf]; omega
    · obtain rfl : k = use.length := by omega
      rw [List.take_length] at hown
      go_wp2_with fail
      go_ret
      exact ⟨_, rfl, World.ownsRow.mono hown (by omega), hBw⟩
end Go.Proofs.Ytiaahfccebmkdaa
