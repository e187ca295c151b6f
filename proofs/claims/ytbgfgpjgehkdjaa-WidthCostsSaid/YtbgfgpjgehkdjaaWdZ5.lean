/- WidthCosts: for every site, schedule and cost the statement answers true and leaves its arguments as they were. No condition. -/
import Derived.Test.YtbgfgpjgehkdjaaWdM
import Derived.Test.YtbgfgpjgehkdjaaFg
namespace Go.Proofs.Ytbgfgpjgehkdjaa
open Go.RowKit

/-- A peer with another cost. -/
def ctP (k : Int) (p : Pr) : Pr := ⟨p.au, p.er, k, p.at_, p.ol, p.oh, p.bl, p.bh⟩
def csL (k : Int) (ps : List Pr) (m : Nat) : List Pr := (ps.take m).map (ctP k)
theorem csL_length (k : Int) (ps : List Pr) (m : Nat) (h : m ≤ ps.length) : (csL k ps m).length = m := by simp [csL]; omega
theorem csL_at (k : Int) (ps : List Pr) (m i : Nat) (h : m ≤ ps.length) (hi : i < m) : pAt (csL k ps m) i = ctP k (pAt ps i) := by
  rw [pAt_lt _ _ (by rw [csL_length k ps m h]; exact hi), pAt_lt ps i (by omega)]
  simp [csL]
theorem csL_snoc (k : Int) (ps : List Pr) (i : Nat) (h : i < ps.length) : csL k ps (i + 1) = csL k ps i ++ [ctP k (pAt ps i)] := by
  unfold csL
  rw [List.take_succ_eq_append_getElem h, pAt_lt ps i h, List.map_append]
  rfl
/-- The number of peers that stay: without the last one, if it is not in use. -/
def csM (n : Nat) (use : List Int) : Nat := if iAt use (use.length - 1) = (n : Int) - 1 then n else n - 1
theorem cs_right {s : Si} {use : List Int} {ev k : Int} (h : rgB s use ev = true) (hk : 0 ≤ k ∧ k ≤ 1000000) :
    rgB ⟨s.r, s.f, s.lo, s.tm, csL k s.ps (csM s.ps.length use)⟩ use ev = true ∧ wdt ⟨s.r, s.f, s.lo, s.tm, csL k s.ps (csM s.ps.length use)⟩ use ev = wdt s use ev := by
  obtain ⟨h1, h2, h3, h4, h5⟩ := (rgB_iff _ _ _).1 h
  obtain ⟨h6, h7, h8⟩ := (siB_iff _).1 h1
  have h9 := (siN_iff _).1 h6
  have hul : 1 ≤ use.length := by omega
  have hmn : csM s.ps.length use ≤ s.ps.length := by unfold csM; split <;> omega
  have hr := (risTo_iff use use.length).1 h4
  have hup : ∀ i j, i < j → j < use.length → iAt use i < iAt use j := by
    intro i j hij hj
    induction j with
    | zero => omega
    | succ j ih =>
      have := hr (j + 1) hj
      rw [if_neg (by omega), show j + 1 - 1 = j by omega] at this
      rcases Nat.lt_or_ge i j with h' | h'
      · have := ih h' (by omega); omega
      · obtain rfl : i = j := by omega
        exact this
  have hlt : ∀ j, j < use.length → 0 ≤ iAt use j ∧ iAt use j < (csM s.ps.length use : Nat) := by
    intro j hj
    have hj1 := h3 j hj
    have hl1 := h3 (use.length - 1) (by omega)
    refine ⟨hj1.1, ?_⟩
    unfold csM
    split
    · omega
    · rename_i hne
      rcases Nat.lt_or_ge j (use.length - 1) with h' | h'
      · have := hup j (use.length - 1) h' (by omega); omega
      · obtain rfl : j = use.length - 1 := by omega
        omega
  have hw : wdL (csL k s.ps (csM s.ps.length use)) use = wdL s.ps use := by
    apply ints_ext (by rw [wdL_length, wdL_length])
    intro j hj
    rw [wdL_length] at hj
    have := hlt j hj
    rw [wdL_at _ _ _ hj, wdL_at _ _ _ hj, csL_at k s.ps _ _ hmn (by omega)]
    rfl
  have hR : rgB ⟨s.r, s.f, s.lo, s.tm, csL k s.ps (csM s.ps.length use)⟩ use ev = true := by
    rw [rgB_iff]
    simp only
    refine ⟨?_, h2, ?_, h4, h5⟩
    · rw [siB_iff]
      simp only
      refine ⟨?_, ?_, ?_⟩
      · rw [siN_iff]; simp only; rw [csL_length _ _ _ hmn]; omega
      · intro j hj
        rw [csL_length _ _ _ hmn] at hj
        rw [csL_at k s.ps _ j hmn hj]
        have := (prB_iff _ _ _).1 (h7 j (by omega))
        rw [prB_iff]
        simp only [ctP]
        exact ⟨this.1, this.2.1, this.2.2.1, hk, this.2.2.2.2⟩
      · have h8' := (risTo_iff (auL s.ps) (auL s.ps).length).1 h8
        unfold risB
        rw [risTo_iff]
        intro j hj
        rw [auL_length, csL_length _ _ _ hmn] at hj
        have h10 := h8' j (by rw [auL_length]; omega)
        have e : ∀ i, i < csM s.ps.length use → iAt (auL (csL k s.ps (csM s.ps.length use))) i = iAt (auL s.ps) i := by
          intro i hi
          rw [auL_at _ i (by rw [csL_length _ _ _ hmn]; exact hi), auL_at _ i (by omega), csL_at k s.ps _ i hmn hi]
          rfl
        rw [e j hj]
        by_cases h0 : j = 0
        · rw [if_pos h0] at *; exact h10
        · rw [if_neg h0] at *; rw [e (j - 1) (by omega)]; exact h10
    · rw [csL_length _ _ _ hmn]; exact hlt
  refine ⟨hR, ?_⟩
  unfold wdt
  rw [if_pos hR, if_pos h]
  simp only
  rw [hw]
theorem cells_new2 (w : World) (o : Obj) (cs : List Value) (t : TypeId) : ∀ j u, cs[j]? = some u → ((w.alloc o).alloc (.cells cs.toArray t)).cell? ((⟨w.heap.size + 1, 0, none⟩ : Addr).add j) = some u := by
  have := cells_new (w.alloc o) cs t
  rwa [World.size_alloc] at this
set_option maxRecDepth 100000 in
set_option maxHeartbeats 4000000 in
theorem WdCosts_any (w : World) (v : Value) (s : SiA) (hs : SiOk w v s) (u : Value) (c : ScA) (hc : ScOk w u c) (cu : Int) (hcu : 0 ≤ cu ∧ cu ≤ 4294967295) :
    Calls Try.prog 7 #[v, u, .int .u32 cu] w fun e w' => e = .returned (.bool true) ∧ Below w.heap.size w w' := by
  obtain ⟨r, f, lo, tm, pv, ps⟩ := s
  obtain ⟨uv, use, ev⟩ := c
  obtain ⟨rfl, hp, -, -⟩ := hs
  obtain ⟨rfl, hu, -, -⟩ := hc
  simp only at hp hu ⊢
  obtain ⟨pa, pc, rfl, q1, q2, q3⟩ := id hp
  obtain ⟨ua, uc, rfl, u1, u2, u3⟩ := id hu
  have Hq3 := hide q3
  have Hu3 := hide u3
  clear q3 u3
  have hP : ∀ W : World, Below w.heap.size w W → PrRow W (.slice pa ps.length pc) ps ∧ IsRow W (.slice ua use.length uc) use := fun W hW => ⟨hp.below (Nat.le_refl _) hW, hu.below (Nat.le_refl _) hW⟩
  have HP := hide hP
  have hS : ∀ W : World, Below (w.heap.size + 2) ((w.alloc (.cells #[.int .i64 r, .int .i64 f, .int .i64 lo, .int .i64 tm, .slice pa ps.length pc] 24)).alloc (.cells #[.slice ua use.length uc, .int .i64 ev] 27)) W → W.cell? ⟨w.heap.size, 0, none⟩ = some (.int .i64 r) ∧ W.cell? ⟨w.heap.size, 1, none⟩ = some (.int .i64 f) ∧ W.cell? ⟨w.heap.size, 2, none⟩ = some (.int .i64 lo) ∧ W.cell? ⟨w.heap.size, 3, none⟩ = some (.int .i64 tm) ∧ W.cell? ⟨w.heap.size, 4, none⟩ = some (.slice pa ps.length pc) ∧ W.cell? ⟨w.heap.size + 1, 0, none⟩ = some (.slice ua use.length uc) ∧ W.cell? ⟨w.heap.size + 1, 1, none⟩ = some (.int .i64 ev) := by
    intro W hW
    have hc := (bk hW w.heap.size (by omega)).1
    have hd := (bk hW (w.heap.size + 1) (by omega)).1
    exact ⟨(hc 0).trans (by simp), (hc 1).trans (by simp), (hc 2).trans (by simp), (hc 3).trans (by simp), (hc 4).trans (by simp), (hd 0).trans (by simp), (hd 1).trans (by simp)⟩
  have HS := hide hS
  have hL : ∀ W : World, Below (w.heap.size + 2) ((w.alloc (.cells #[.int .i64 r, .int .i64 f, .int .i64 lo, .int .i64 tm, .slice pa ps.length pc] 24)).alloc (.cells #[.slice ua use.length uc, .int .i64 ev] 27)) W → Below w.heap.size w W ∧ w.heap.size + 2 ≤ W.heap.size := fun W hW => ⟨(((Below.refl _ _).alloc (Nat.le_refl _) _).alloc (by simp) _).trans (hW.mono (by omega)), by have := hW.size; simpa using this⟩
  have HL := hide hL
  clear hP hS hL hp hu
  obtain ⟨K, hKe⟩ : ∃ K : Int, K = cu % 1000001 := ⟨_, rfl⟩
  have hK : 0 ≤ K ∧ K ≤ 1000000 := by omega
  have fK : cu % 1000001 = K := hKe.symm
  have hcu0 : 0 ≤ cu := hcu.1
  clear hKe
  by_cases hf : ps.length ≤ 20 ∧ use.length ≤ 20
  case neg =>
    go_enter Try.func7, Try.ntmps7
    go_wp2_with fail
    refine (head_any _).mono ?_
    rintro e w1 ⟨rfl, b1⟩
    have B1 : Below (w.heap.size + 2) ((w.alloc (.cells #[.int .i64 r, .int .i64 f, .int .i64 lo, .int .i64 tm, .slice pa ps.length pc] 24)).alloc (.cells #[.slice ua use.length uc, .int .i64 ev] 27)) w1 := b1.mono (by simp)
    clear b1
    have z1 := (HL.out _ B1).2
    obtain ⟨y0, y1, y2, y3, y4, x0, x1⟩ := HS.out w1 B1
    go_wp2_with fail
    refine (R29Few_any r f lo tm _ ps _ use ev _ (HP.out _ (HL.out _ B1).1).1 (HP.out _ (HL.out _ B1).1).2).mono ?_
    rintro e w2 ⟨rfl, b2⟩
    rw [decide_eq_false hf]
    have B2 := (HL.out _ B1).1
    go_wp2_with fail
    go_ret
    exact ⟨rfl, (by ((repeat' (first | with_reducible exact Below.refl _ _ | with_reducible exact b2 | with_reducible exact B2 | with_reducible refine Below.alloc ?_ ?_ _ | with_reducible refine Below.setCell ?_ ?_ _ | with_reducible refine Below.drew ?_ | with_reducible refine below_drewN ?_ _ | with_reducible refine Below.trans ?_ (b2.mono ?_) | with_reducible refine Below.trans ?_ (B2.mono ?_))) <;> (first | omega | (simp; done) | (simp; omega))))⟩
  have hun : use.length ≤ 1000000 := by omega
  cases hR : rgB ⟨r, f, lo, tm, ps⟩ use ev with
  | false =>
    go_enter Try.func7, Try.ntmps7
    go_wp2_with fail
    refine (head_any _).mono ?_
    rintro e w1 ⟨rfl, b1⟩
    have B1 : Below (w.heap.size + 2) ((w.alloc (.cells #[.int .i64 r, .int .i64 f, .int .i64 lo, .int .i64 tm, .slice pa ps.length pc] 24)).alloc (.cells #[.slice ua use.length uc, .int .i64 ev] 27)) w1 := b1.mono (by simp)
    clear b1
    have z1 := (HL.out _ B1).2
    obtain ⟨y0, y1, y2, y3, y4, x0, x1⟩ := HS.out w1 B1
    go_wp2_with fail
    refine (R29Few_any r f lo tm _ ps _ use ev _ (HP.out _ (HL.out _ B1).1).1 (HP.out _ (HL.out _ B1).1).2).mono ?_
    rintro e w2 ⟨rfl, b2⟩
    rw [decide_eq_true hf]
    have B2 : Below (w.heap.size + 2) ((w.alloc (.cells #[.int .i64 r, .int .i64 f, .int .i64 lo, .int .i64 tm, .slice pa ps.length pc] 24)).alloc (.cells #[.slice ua use.length uc, .int .i64 ev] 27)) w2 := (by ((repeat' (first | with_reducible exact Below.refl _ _ | with_reducible exact b2 | with_reducible exact B1 | with_reducible refine Below.alloc ?_ ?_ _ | with_reducible refine Below.setCell ?_ ?_ _ | with_reducible refine Below.drew ?_ | with_reducible refine below_drewN ?_ _ | with_reducible refine Below.trans ?_ (b2.mono ?_) | with_reducible refine Below.trans ?_ (B1.mono ?_))) <;> (first | omega | (simp; done) | (simp; omega))))
    clear y0 y1 y2 y3 y4 x0 x1 b2 B1 z1
    have z2 := (HL.out _ B2).2
    obtain ⟨y0, y1, y2, y3, y4, x0, x1⟩ := HS.out w2 B2
    go_wp2_with fail
    refine (R29Right_any r f lo tm _ ps _ use ev _ (HP.out _ (HL.out _ B2).1).1 (HP.out _ (HL.out _ B2).1).2 hun).mono ?_
    rintro e w3 ⟨rfl, b3⟩
    rw [hR]
    have B3 := (HL.out _ B2).1
    go_wp2_with fail
    go_ret
    exact ⟨rfl, (by ((repeat' (first | with_reducible exact Below.refl _ _ | with_reducible exact b3 | with_reducible exact B3 | with_reducible refine Below.alloc ?_ ?_ _ | with_reducible refine Below.setCell ?_ ?_ _ | with_reducible refine Below.drew ?_ | with_reducible refine below_drewN ?_ _ | with_reducible refine Below.trans ?_ (b3.mono ?_) | with_reducible refine Below.trans ?_ (B3.mono ?_))) <;> (first | omega | (simp; done) | (simp; omega))))⟩
  | true =>
    have hlaw := cs_right (k := K) hR hK
    simp only at hlaw
    obtain ⟨hl1, hl2⟩ := hlaw
    have hrg := (rgB_iff _ _ _).1 hR
    have hsi := (siN_iff _).1 ((siB_iff _).1 hrg.1).1
    have hin := hrg.2.2.1
    have hul : 1 ≤ use.length := by have := hrg.2.2.2.2; simp only at this hsi; omega
    simp only at hsi hin
    have hn16 : ps.length ≤ 16 := hsi.2.2.2.2
    have hrb : inB r 0 1000000 = true := by unfold inB; exact decide_eq_true hsi.1
    have hE : wdEr ⟨r, f, lo, tm, ps⟩ use ev = 0 := by unfold wdEr; rw [hR]; rfl
    have hE2 : wdEr ⟨r, f, lo, tm, csL K ps (csM ps.length use)⟩ use ev = 0 := by unfold wdEr; rw [hl1]; rfl
    obtain ⟨uj, huj⟩ : ∃ uj, use.length = uj + 1 := ⟨use.length - 1, by omega⟩
    obtain ⟨la, hla⟩ : ∃ la, la = iAt use (use.length - 1) := ⟨_, rfl⟩
    have hn1 : 1 ≤ ps.length := by have := hin 0 (by omega); omega
    have hm : (csM ps.length use = ps.length ∧ la = (ps.length : Int) - 1) ∨ (csM ps.length use = ps.length - 1 ∧ la ≠ (ps.length : Int) - 1) := by
      unfold csM
      rw [← hla]
      by_cases h0 : la = (ps.length : Int) - 1
      · left; rw [if_pos h0]; exact ⟨rfl, h0⟩
      · right; rw [if_neg h0]; exact ⟨rfl, h0⟩
    generalize csM ps.length use = m at *
    have hml : m ≤ ps.length := by omega
    have Hf := hide hf
    have HR := hide hR
    have HE := hide hE
    have HE2 := hide hE2
    have Hl2 := hide hl2
    have Hm := hide hm
    have Hla := hide hla
    have Huj := hide huj
    obtain ⟨i0, hi0, hz0, hz1, hz2⟩ := info_parts infoPr
    have hu2 : (use.length : Int) - 1 = (uj : Int) := by omega
    have hul2 : uj < use.length := by omega
    have I3 : (0 : Int) ≤ (uj : Int) := by omega
    have I4 : (uj : Int) < (use.length : Int) := by omega
    clear hf hR hl1 hl2 hrg hsi hin hE hE2 hm hla huj
    go_enter Try.func7, Try.ntmps7
    go_wp2_with fail
    refine (head_any _).mono ?_
    rintro e w1 ⟨rfl, b1⟩
    have B1 : Below (w.heap.size + 2) ((w.alloc (.cells #[.int .i64 r, .int .i64 f, .int .i64 lo, .int .i64 tm, .slice pa ps.length pc] 24)).alloc (.cells #[.slice ua use.length uc, .int .i64 ev] 27)) w1 := b1.mono (by simp)
    clear b1
    have z1 := (HL.out _ B1).2
    obtain ⟨y0, y1, y2, y3, y4, x0, x1⟩ := HS.out w1 B1
    go_wp2_with fail
    refine (R29Few_any r f lo tm _ ps _ use ev _ (HP.out _ (HL.out _ B1).1).1 (HP.out _ (HL.out _ B1).1).2).mono ?_
    rintro e w2 ⟨rfl, b2⟩
    rw [decide_eq_true Hf.out]
    have B2 : Below (w.heap.size + 2) ((w.alloc (.cells #[.int .i64 r, .int .i64 f, .int .i64 lo, .int .i64 tm, .slice pa ps.length pc] 24)).alloc (.cells #[.slice ua use.length uc, .int .i64 ev] 27)) w2 := (by ((repeat' (first | with_reducible exact Below.refl _ _ | with_reducible exact b2 | with_reducible exact B1 | with_reducible refine Below.alloc ?_ ?_ _ | with_reducible refine Below.setCell ?_ ?_ _ | with_reducible refine Below.drew ?_ | with_reducible refine below_drewN ?_ _ | with_reducible refine Below.trans ?_ (b2.mono ?_) | with_reducible refine Below.trans ?_ (B1.mono ?_))) <;> (first | omega | (simp; done) | (simp; omega))))
    clear y0 y1 y2 y3 y4 x0 x1 b2 B1 z1
    have z2 := (HL.out _ B2).2
    obtain ⟨y0, y1, y2, y3, y4, x0, x1⟩ := HS.out w2 B2
    go_wp2_with fail
    refine (R29Right_any r f lo tm _ ps _ use ev _ (HP.out _ (HL.out _ B2).1).1 (HP.out _ (HL.out _ B2).1).2 hun).mono ?_
    rintro e w3 ⟨rfl, b3⟩
    rw [HR.out]
    have B3 : Below (w.heap.size + 2) ((w.alloc (.cells #[.int .i64 r, .int .i64 f, .int .i64 lo, .int .i64 tm, .slice pa ps.length pc] 24)).alloc (.cells #[.slice ua use.length uc, .int .i64 ev] 27)) w3 := (by ((repeat' (first | with_reducible exact Below.refl _ _ | with_reducible exact b3 | with_reducible exact B2 | with_reducible refine Below.alloc ?_ ?_ _ | with_reducible refine Below.setCell ?_ ?_ _ | with_reducible refine Below.drew ?_ | with_reducible refine below_drewN ?_ _ | with_reducible refine Below.trans ?_ (b3.mono ?_) | with_reducible refine Below.trans ?_ (B2.mono ?_))) <;> (first | omega | (simp; done) | (simp; omega))))
    clear y0 y1 y2 y3 y4 x0 x1 b3 B2 z2
    have z3 := (HL.out _ B3).2
    obtain ⟨y0, y1, y2, y3, y4, x0, x1⟩ := HS.out w3 B3
    go_wp2_with fail
    go_loopw [9] (fun s9 wx => ∃ (k : Nat) (tv : Value), k ≤ ps.length ∧ s9 = .int .i64 k ∧ wx.cell? ⟨w3.heap.size, 4, none⟩ = some tv ∧ OwnPs wx (w3.heap.size + 1) tv (csL K ps (min k m)) ∧ (wx.cell? ⟨w3.heap.size, 0, none⟩ = some (.int .i64 r) ∧ wx.cell? ⟨w3.heap.size, 1, none⟩ = some (.int .i64 f) ∧ wx.cell? ⟨w3.heap.size, 2, none⟩ = some (.int .i64 lo) ∧ wx.cell? ⟨w3.heap.size, 3, none⟩ = some (.int .i64 tm)) ∧ (∀ o, wx.frozen? ⟨w3.heap.size, o, none⟩ = false) ∧ w3.heap.size + 1 ≤ wx.heap.size ∧ Below (w.heap.size + 2) ((w.alloc (.cells #[.int .i64 r, .int .i64 f, .int .i64 lo, .int .i64 tm, .slice pa ps.length pc] 24)).alloc (.cells #[.slice ua use.length uc, .int .i64 ev] 27)) wx) (fun s9 _ => ps.length - (intOf s9).toNat)
    case atStart => exact ⟨0, .slice none 0 0, Nat.zero_le _, rfl, by simp, by rw [Nat.zero_min]; exact OwnPs.nil _ _, ⟨by simp, by simp, by simp, by simp⟩, by simp, by simp, (by ((repeat' (first | with_reducible exact Below.refl _ _ | with_reducible exact B3 | with_reducible refine Below.alloc ?_ ?_ _ | with_reducible refine Below.setCell ?_ ?_ _ | with_reducible refine Below.drew ?_ | with_reducible refine below_drewN ?_ _ | with_reducible refine Below.trans ?_ (B3.mono ?_))) <;> (first | omega | (simp; done) | (simp; omega))))⟩
    case round =>
      clear y0 y1 y2 y3 y4 x0 x1
      obtain ⟨k, tv, hk, rfl, t4, hown, ⟨t0, t1, t2, t3⟩, tf, hzr, hB⟩ := hrel
      obtain ⟨y0, y1, y2, y3, y4, x0, x1⟩ := HS.out wr hB
      have zr := (HL.out _ hB).2
      by_cases hlt : k < ps.length
      · obtain ⟨pb, po, rfl, q4, q5⟩ := Hq3.out k hlt
        obtain ⟨p0, p1, p2, p3, p4, p5, p6, p7⟩ := q5.below (HL.out _ hB).1 q4
        obtain ⟨ub, uo, rfl, u4, u5⟩ := Hu3.out uj hul2
        have u5' := ((HL.out _ hB).1.cell (p := ⟨ub, uo + uj, none⟩) u4).trans u5
        have q4' : pb < wr.heap.size := Nat.lt_of_lt_of_le q4 (HL.out _ hB).1.size
        have u4' : ub < wr.heap.size := Nat.lt_of_lt_of_le u4 (HL.out _ hB).1.size
        have hue : iAt use uj = la := by rw [Hla.out, Huj.out]; simp
        rw [hue] at u5'
        have I1 : (0 : Int) ≤ (k : Int) := by omega
        have I2 : (k : Int) < (ps.length : Int) := by omega
        have hzA : w3.heap.size < wr.heap.size := by omega
        have hzB : w.heap.size < wr.heap.size := by omega
        have hzC : w.heap.size + 1 < wr.heap.size := by omega
        clear u5 q5 hue
        obtain ⟨oa, ocap, hov, ho1, ho2⟩ := hown.val
        have hlow := World.ownsRow.lt hown
        by_cases ha : k < m
        · have hmin : min k m = k := by omega
          rw [hmin] at hown hov
          have hlk := csL_length K ps k (by omega)
          have hown' := hown
          unfold OwnPs at hown'
          rw [hlk] at hown' hov
          subst hov
          have Hlk := hide hlk
          clear hlk hown hmin
          by_cases hb : k + 1 < ps.length
          · have d1 : decide ((k : Int) < (ps.length : Int) - 1) = true := decide_eq_true (by omega)
            go_wp2_with (at_builtin; refine wpList_append_own _ rfl _ _ 22 rfl (w3.heap.size + 1) 47 i0 (.agg #[.int .i64 0, .int .i64 0, .int .i64 0, .int .i64 0, .int .i64 0, .int .i64 0, .int .i64 0, .int .i64 0]) 8 64 Try.underlying22 hi0 hz0 hz1 hz2 rfl (by decide) _ k (encPs (csL K ps k)) rfl (World.ownsRow.alloc (World.ownsRow.alloc hown' _) _) ⟨wr.heap.size + 1, 0, none⟩ 1 1 (encP (ctP K (pAt ps k))).toList rfl rfl (cells_new2 wr _ (encP (ctP K (pAt ps k))).toList _) (by simp [Value.oneCell', encP]) (by unfold maxLen; omega) (by omega) (by simp; omega) ?_; intro v4 w4 hown4 hg4 _; obtain ⟨c4, f4⟩ := grown_keeps hg4 (b := w3.heap.size) (by simp; omega) (fun h => (by have := hlow _ h.symm; omega)); obtain ⟨a4, cap4, rfl⟩ := ownsRow_val hown4)
            have hz4 := hg4.size
            simp only [World.size_alloc] at hz4
            go_roundw
            case rel =>
              have e1 := fun o => ((c4 o).trans (old1 _ _ (by simp; omega) o).1).trans (old1 wr _ hzA o).1
              have e2 := fun o => ((f4 o).trans (old1 _ _ (by simp; omega) o).2).trans (old1 wr _ hzA o).2
              refine ⟨k + 1, .slice a4 (k + 1) cap4, by omega, by go_num, World.cell?_setCell_same' _ _ _ (by rw [e1, t4]; rfl), ?_, ⟨?_, ?_, ?_, ?_⟩, fun o => ?_, by simp; omega, ?_⟩
              · rw [show min (k + 1) m = k + 1 by omega, csL_snoc K ps k hlt]
                refine ownsRow_setCell_below ?_ (by first | omega | simp) _
                exact OwnPs.app (by rw [Hlk.out]; exact hown4)
              · exact (World.cell?_setCell_other _ _ _ _ (fun e => by simp at e)).trans ((e1 0).trans t0)
              · exact (World.cell?_setCell_other _ _ _ _ (fun e => by simp at e)).trans ((e1 1).trans t1)
              · exact (World.cell?_setCell_other _ _ _ _ (fun e => by simp at e)).trans ((e1 2).trans t2)
              · exact (World.cell?_setCell_other _ _ _ _ (fun e => by simp at e)).trans ((e1 3).trans t3)
              · rw [World.frozen?_setCell, e2]; exact tf o
              · exact Below.setCell ((((hB.alloc (by omega) _).alloc (by simp; omega) _).grown hg4 (by simp; omega) (fun r h => by have := hlow r h; omega))) (by show w.heap.size + 2 ≤ w3.heap.size; omega) _
            case measure => simp [intOf]; omega
          · have d1 : decide ((k : Int) < (ps.length : Int) - 1) = false := decide_eq_false (by omega)
            have d2 : (la == (k : Int)) = true := by rw [beq_iff_eq]; have := Hm.out; omega
            go_wp2_with (at_builtin; refine wpList_append_own _ rfl _ _ 22 rfl (w3.heap.size + 1) 47 i0 (.agg #[.int .i64 0, .int .i64 0, .int .i64 0, .int .i64 0, .int .i64 0, .int .i64 0, .int .i64 0, .int .i64 0]) 8 64 Try.underlying22 hi0 hz0 hz1 hz2 rfl (by decide) _ k (encPs (csL K ps k)) rfl (World.ownsRow.alloc (World.ownsRow.alloc hown' _) _) ⟨wr.heap.size + 1, 0, none⟩ 1 1 (encP (ctP K (pAt ps k))).toList rfl rfl (cells_new2 wr _ (encP (ctP K (pAt ps k))).toList _) (by simp [Value.oneCell', encP]) (by unfold maxLen; omega) (by omega) (by simp; omega) ?_; intro v4 w4 hown4 hg4 _; obtain ⟨c4, f4⟩ := grown_keeps hg4 (b := w3.heap.size) (by simp; omega) (fun h => (by have := hlow _ h.symm; omega)); obtain ⟨a4, cap4, rfl⟩ := ownsRow_val hown4)
            have hz4 := hg4.size
            simp only [World.size_alloc] at hz4
            go_roundw
            case rel =>
              have e1 := fun o => ((c4 o).trans (old1 _ _ (by simp; omega) o).1).trans (old1 wr _ hzA o).1
              have e2 := fun o => ((f4 o).trans (old1 _ _ (by simp; omega) o).2).trans (old1 wr _ hzA o).2
              refine ⟨k + 1, .slice a4 (k + 1) cap4, by omega, by go_num, World.cell?_setCell_same' _ _ _ (by rw [e1, t4]; rfl), ?_, ⟨?_, ?_, ?_, ?_⟩, fun o => ?_, by simp; omega, ?_⟩
              · rw [show min (k + 1) m = k + 1 by omega, csL_snoc K ps k hlt]
                refine ownsRow_setCell_below ?_ (by first | omega | simp) _
                exact OwnPs.app (by rw [Hlk.out]; exact hown4)
              · exact (World.cell?_setCell_other _ _ _ _ (fun e => by simp at e)).trans ((e1 0).trans t0)
              · exact (World.cell?_setCell_other _ _ _ _ (fun e => by simp at e)).trans ((e1 1).trans t1)
              · exact (World.cell?_setCell_other _ _ _ _ (fun e => by simp at e)).trans ((e1 2).trans t2)
              · exact (World.cell?_setCell_other _ _ _ _ (fun e => by simp at e)).trans ((e1 3).trans t3)
              · rw [World.frozen?_setCell, e2]; exact tf o
              · exact Below.setCell ((((hB.alloc (by omega) _).alloc (by simp; omega) _).grown hg4 (by simp; omega) (fun r h => by have := hlow r h; omega))) (by show w.heap.size + 2 ≤ w3.heap.size; omega) _
            case measure => simp [intOf]; omega
        · have d1 : decide ((k : Int) < (ps.length : Int) - 1) = false := decide_eq_false (by have := Hm.out; omega)
          have d2 : (la == (k : Int)) = false := by rw [beq_eq_false_iff_ne]; have := Hm.out; omega
          have hmin : min k m = min (k + 1) m := by omega
          rw [hmin] at hown
          have Hown := hide hown
          clear hown hmin hov
          go_wp2_with fail
          go_roundw
          case rel =>
            have e1 := fun o => (old1 wr (.cells (encP (ctP K (pAt ps k))) 47) hzA o).1
            have e2 := fun o => (old1 wr (.cells (encP (ctP K (pAt ps k))) 47) hzA o).2
            refine ⟨k + 1, tv, by omega, by go_num, (e1 4).trans t4, Hown.out.below (Nat.le_refl _) ((Below.refl _ _).alloc (Nat.le_refl _) _), ⟨(e1 0).trans t0, (e1 1).trans t1, (e1 2).trans t2, (e1 3).trans t3⟩, fun o => (e2 o).trans (tf o), by simp; omega, hB.alloc (by omega) _⟩
          case measure => simp [intOf]; omega
      · obtain rfl : k = ps.length := by omega
        rw [show min ps.length m = m by omega] at hown
        have hrow := hown.row
        have hzA : w3.heap.size < wr.heap.size := by omega
        obtain ⟨oa, ocap, rfl, ho1, ho2⟩ := hown.val
        have Hrow := hide hrow
        clear hown hrow tf
        go_wp2_with fail
        refine (wdWidthS_any r f lo tm _ ps _ use ev _ (HP.out _ (HL.out _ hB).1).1 (HP.out _ (HL.out _ hB).1).2).mono ?_
        rintro e w5 ⟨rfl, b5⟩
        rw [HE.out]
        have z5 := b5.size
        have B5 : Below (w.heap.size + 2) ((w.alloc (.cells #[.int .i64 r, .int .i64 f, .int .i64 lo, .int .i64 tm, .slice pa ps.length pc] 24)).alloc (.cells #[.slice ua use.length uc, .int .i64 ev] 27)) w5 := (by ((repeat' (first | with_reducible exact Below.refl _ _ | with_reducible exact b5 | with_reducible exact hB | with_reducible refine Below.alloc ?_ ?_ _ | with_reducible refine Below.setCell ?_ ?_ _ | with_reducible refine Below.drew ?_ | with_reducible refine below_drewN ?_ _ | with_reducible refine Below.trans ?_ (b5.mono ?_) | with_reducible refine Below.trans ?_ (hB.mono ?_))) <;> (first | omega | (simp; done) | (simp; omega))))
        obtain ⟨kb5_0, fb5_0, zb5_0, zab5_0, zbb5_0, zcb5_0, zdb5_0, zeb5_0⟩ := bk3 b5 (w3.heap.size) (by first | omega | (simp; done) | (simp; omega))
        have Hrow5 := hide (Hrow.out.below (Nat.le_refl _) b5)
        clear y0 y1 y2 y3 y4 x0 x1 b5
        obtain ⟨y0, y1, y2, y3, y4, x0, x1⟩ := HS.out w5 B5
        have zz5 := (HL.out _ B5).2
        go_wp2_with fail
        refine (wdWidthS_any r f lo tm _ (csL K ps m) _ use ev _ Hrow5.out (HP.out _ (HL.out _ B5).1).2).mono ?_
        rintro e w6 ⟨rfl, b6⟩
        rw [HE2.out, Hl2.out]
        have z6 := b6.size
        have B6 : Below (w.heap.size + 2) ((w.alloc (.cells #[.int .i64 r, .int .i64 f, .int .i64 lo, .int .i64 tm, .slice pa ps.length pc] 24)).alloc (.cells #[.slice ua use.length uc, .int .i64 ev] 27)) w6 := (by ((repeat' (first | with_reducible exact Below.refl _ _ | with_reducible exact b6 | with_reducible exact B5 | with_reducible refine Below.alloc ?_ ?_ _ | with_reducible refine Below.setCell ?_ ?_ _ | with_reducible refine Below.drew ?_ | with_reducible refine below_drewN ?_ _ | with_reducible refine Below.trans ?_ (b6.mono ?_) | with_reducible refine Below.trans ?_ (B5.mono ?_))) <;> (first | omega | (simp; done) | (simp; omega))))
        clear y0 y1 y2 y3 y4 x0 x1 b6
        obtain ⟨y0, y1, y2, y3, y4, x0, x1⟩ := HS.out w6 B6
        go_wp2_with (go_at_call 23; (with_reducible refine (R7Bound_any _ _).mono ?_); rintro e w' ⟨rfl, rfl⟩; rw [hrb])
        go_ret
        exact ⟨ret_bool (by simp), (HL.out _ B6).1⟩
set_option maxRecDepth 100000 in
theorem widthCosts_holds : Rows.WidthCostsSaid :=
  OpenClaim.holds_of_wide 7 Try.f7 rfl rfl rfl rfl rfl rfl rfl ⟨rfl, rfl, rfl, rfl, rfl⟩ rfl rfl rfl rfl rfl (by kernel_rfl) Try.func7 (by kernel_rfl)
    (of_decide_eq_true (by kernel_rfl)) (by unfold Func.isWrapper; rw [if_neg (of_decide_eq_false (by kernel_rfl))]; exact ⟨rfl, rfl⟩)
    (fun os started H enc _ => law_lifted started 7 Try.f7 Try.func7 (by kernel_rfl) Rows.widthCostsSpec rfl rfl
      (fun ds h => by match ds, h with | [_, _, _], _ => exact ⟨rfl, rfl, rfl⟩)
      (fun t h => by
        rw [Try.params7] at h
        simp only [List.mem_cons, List.not_mem_nil, or_false] at h
        rcases h with rfl | rfl | rfl <;> exact ⟨by kernel_rfl, of_decide_eq_true (by kernel_rfl)⟩)
      (ChangeSpec.witness6 (enc := enc) (C := Try.checked) false ⟨#[], #[.agg #[.int .i64 0, .int .i64 0, .int .i64 0, .int .i64 0, .slice none 0 0], .agg #[.slice none 0 0, .int .i64 0], .int .u32 0], []⟩ 8 (by kernel_rfl) (by kernel_rfl) (by kernel_rfl) (by kernel_rfl))
      (fun W base args ds p hA hok => by
        rw [Try.params7] at hA hok
        obtain ⟨v0, vs0, d0, ds0, p0, q0, hargs, rfl, rfl, h0, r0⟩ := ChangeShapes.trodAll_cons hA
        obtain ⟨v1, vs1, d1, ds1, p1, q1, rfl, rfl, rfl, h1, r1⟩ := ChangeShapes.trodAll_cons r0
        obtain ⟨v2, vs2, d2, ds2, p2, q2, rfl, rfl, rfl, h2, r2⟩ := ChangeShapes.trodAll_cons r1
        obtain ⟨rfl, rfl, rfl⟩ := ChangeShapes.trodAll_nil r2
        obtain rfl : args = #[v0, v1, v2] := by rw [← Array.toArray_toList (xs := args), hargs]
        obtain ⟨l0, hl0⟩ := open_site (hok 0 _ v0 rfl rfl) h0
        obtain ⟨l1, hl1⟩ := open_sched (hok 1 _ v1 rfl rfl) h1
        obtain ⟨x2, rfl, hx2⟩ := open_u32 Try.underlying37 (hok 2 _ v2 rfl rfl) h2
        exact WdCosts_any W v0 l0 hl0 v1 l1 hl1 x2 hx2))
end Go.Proofs.Ytbgfgpjgehkdjaa
