/- Parts TtC TtD of the proof, joined. -/
import Derived.Test.YthkoaecafmhlcaaGreatTtB
import Derived.Test.YthkoaecafmhlcaaGreatJ00
import Derived.Laws.Cover3
/- Package codec: Frame (integers with their length and digest). -/
namespace Go.Proofs.YthkoaecafmhlcaaGreat
open Go.RowKit
theorem own_lit {w : World} {base q : Nat} (T : TypeId) (xs : List Value) (hh : w.heap[q]? = some (.cells xs.toArray T)) (h : base ≤ q) (hl : xs.length ≤ 1000) : w.ownsRow base T 1 (.slice (some ⟨q, 0, none⟩) xs.length xs.length) xs.length xs :=
 ⟨by rw [Nat.mul_one], .inr ⟨q, xs.length, _, rfl, h, hh, Nat.le_refl _, by unfold maxLen; omega, by simp, by simp⟩⟩
def hd3 (n : Nat) : List Int := [((n / 65536 % 256 : Nat) : Int), ((n / 256 % 256 : Nat) : Int), ((n % 256 : Nat) : Int)]
def frm (l : List Int) : List Int := (hd3 (encN l).length ++ encN l) ++ sum8 (hd3 (encN l).length ++ encN l)
def Byt (l : List Int) : Prop := ∀ x, x ∈ l → 0 ≤ x ∧ x ≤ 255
theorem Byt.app {a b : List Int} (h : Byt a) (k : Byt b) : Byt (a ++ b) := fun x hx => (List.mem_append.1 hx).elim (h x) (k x)
theorem byt_putI (n : Int) : Byt (putI n) := fun c hc => vint_byte _ _ (Nat.le_refl _) c hc
theorem byt_putL : ∀ l : List Int, Byt (putL l)
 | [] => fun x hx => by simp [putL] at hx
 | x :: l => by
  have e : putL (x :: l) = putI x ++ putL l := by unfold putL; rw [List.flatMap_cons]
  rw [e]
  exact (byt_putI x).app (byt_putL l)
theorem byt_encN (l : List Int) : Byt (encN l) := (byt_putI _).app (byt_putL l)
theorem byt_hd3 (n : Nat) : Byt (hd3 n) := fun x hx => by
 simp only [hd3, List.mem_cons, List.not_mem_nil, or_false] at hx
 omega
theorem encN_len {l : List Int} (hl : l.length ≤ 1000) (hs : Sml l) : (encN l).length ≤ 10010 ∧ 0 < (encN l).length := by
 have h1 := putL_len l hs
 have h2 := putI_len (n := (l.length : Int)) (by omega)
 obtain ⟨c, r, hcr, -⟩ := vint_head (zig l.length) (putL l)
 have := congrArg List.length hcr
 refine ⟨by unfold encN; rw [List.length_append]; omega, by unfold encN putI; rw [this]; simp⟩
set_option maxHeartbeats 1000000 in
set_option maxRecDepth 100000 in
set_option maxHeartbeats 400000 in
theorem Frame_any (v : Value) (l : List Int) (w : World) (h : IsRow w v l) (hl : l.length ≤ 1000) (hs : Sml l) :
  Calls Tryz.prog 20 #[v] w fun e w' => (∃ ov, e = .returned (.tuple #[ov, .int .i64 0]) ∧ OwnBy w' w.heap.size ov (frm l)) ∧ Below w.heap.size w w' := by
 obtain ⟨i0, hi, hz0, hz1, hz2⟩ := info_parts infoBy0
 obtain ⟨he, he0⟩ := encN_len hl hs
 have HP := hide (Put_codec v l w h hl hs)
 obtain ⟨a1, cap1, rfl, -, -, -⟩ := id h
 clear h
 unfold frm
 obtain ⟨N, hN⟩ : ∃ N, N = (encN l).length := ⟨_, rfl⟩
 rw [← hN] at he he0 ⊢
 have HN := hide hN
 clear hN
 go_enter Tryz.func20, Tryz.ntmps20
 go_upto_region 4 with (go_at_call 54; (with_reducible refine HP.out.mono ?_); rintro e w1 ⟨⟨ov1, rfl, o1⟩, b1⟩)
 have hrow : BRow w1 ov1 (encN l) := Owns.row encB_length 0 (by omega) o1
 unfold OwnBy Owns at o1
 rw [← HN.out] at o1
 obtain ⟨oa, oc, rfl⟩ := ownsRow_val o1
 have hsrc := src_rows encB_length (by omega) hrow
 have hbs : Byt (hd3 (encN l).length ++ encN l) := (byt_hd3 _).app (byt_encN l)
 have hb1 := b1.size
 rw [← HN.out] at hsrc hbs
 have hx0 : [((N / 65536 % 256 : Nat) : Int), ((N / 256 % 256 : Nat) : Int), ((N % 256 : Nat) : Int)] = [(N : Int) / 65536, (N : Int) / 256, (N : Int) % 256] := by
  have e1 : ((N / 65536 % 256 : Nat) : Int) = (N : Int) / 65536 := by omega
  have e2 : ((N / 256 % 256 : Nat) : Int) = (N : Int) / 256 := by omega
  have e3 : ((N % 256 : Nat) : Int) = (N : Int) % 256 := by omega
  rw [e1, e2, e3]
 have HX := hide hx0
 have hs0 : ∀ V : World, Below w1.heap.size w1 V → SrcRow V (.slice oa N oc) N 1 ((encN l).flatMap encB) := fun V hV => by
  have h_ := src_rows encB_length (by omega) (hrow.below (Nat.le_refl _) hV)
  rw [← HN.out] at h_
  exact h_
 have Hs := hide hs0
 clear hs0
 have HBs := hide hbs
 clear hx0 hrow hsrc o1 hbs
 go_upto_region 5 with (at_builtin; refine wpList_append_src _ rfl _ _ 42 rfl w.heap.size 5 i0 (.int .u8 0) 1 1 Tryz.underlying42 hi hz0 hz1 hz2 rfl (by decide) _ 3 [.int .u8 ((N : Int) / 65536), .int .u8 ((N : Int) / 256), .int .u8 ((N : Int) % 256)] rfl (own_lit (base := w.heap.size) 5 [.int .u8 ((N : Int) / 65536), .int .u8 ((N : Int) / 256), .int .u8 ((N : Int) % 256)] (World.alloc_heap_new w1 _) hb1 (by simp)) _ N ((encN l).flatMap encB) rfl (Hs.out _ ((Below.refl _ _).alloc (Nat.le_refl _) _)) (encB_one _) (by unfold maxLen; omega) (by omega) (by simp; omega) ?_; intro v3 w3 hown3 hg3 _)
 have b3 : Below w.heap.size w w3 := Below.grown (b1.alloc hb1 _) hg3 (by simp; omega) (fun r e => by cases e; exact hb1)
 have z3 := b3.size
 obtain ⟨oa3, oc3, rfl⟩ := ownsRow_val hown3
 obtain ⟨B, hB⟩ : ∃ B, B = hd3 N ++ encN l := ⟨_, rfl⟩
 have hBl : B.length = 3 + N := by rw [hB, List.length_append, ← HN.out]; rfl
 have o3 : OwnBy w3 w.heap.size (.slice oa3 (3 + N) oc3) B := by
  unfold OwnBy Owns
  rw [hBl, hB, List.flatMap_append]
  unfold hd3
  rw [HX.out]
  exact hown3
 have HBB := hide hB
 rw [← hB] at HBs
 obtain ⟨s0, s1, s2, s3, s4, s5, s6, s7, hs8⟩ : ∃ s0 s1 s2 s3 s4 s5 s6 s7 : Int, sum8 B = [s0, s1, s2, s3, s4, s5, s6, s7] := ⟨_, _, _, _, _, _, _, _, rfl⟩
 have hS : ∀ V : World, Below w3.heap.size w3 V → Calls Tryz.prog 55 #[.slice oa3 (3 + N) oc3] V fun e w' => e = .returned (.agg #[.int .u8 s0, .int .u8 s1, .int .u8 s2, .int .u8 s3, .int .u8 s4, .int .u8 s5, .int .u8 s6, .int .u8 s7]) ∧ Below V.heap.size V w' := fun V hV => by
  have h_ := sum_any (.slice oa3 (3 + N) oc3) B V (Rws.below (Owns.row encB_length 0 (by omega) o3) (Nat.le_refl _) hV) (by omega) HBs.out
  rw [hs8] at h_
  exact h_
 have HS := hide hS
 have HO3 := hide o3
 have H8 := hide hs8
 have HBL := hide hBl
 clear hown3 hg3 hBl o3 hB hs8 hS Hs HX HBs
 go_upto_region 6 with (go_at_call 55; (with_reducible refine (HS.out _ (Below.refl _ _)).mono ?_); rintro e w4 ⟨rfl, b4⟩)
 have z4 := b4.size
 have ho4 : (w4.alloc (.cells #[.int .u8 s0, .int .u8 s1, .int .u8 s2, .int .u8 s3, .int .u8 s4, .int .u8 s5, .int .u8 s6, .int .u8 s7] 118)).ownsRow w.heap.size 5 1 (.slice oa3 (3 + N) oc3) (3 + N) (B.flatMap encB) := by
  have h_ := HO3.out
  unfold OwnBy Owns at h_
  rw [HBL.out] at h_
  exact World.ownsRow.alloc (ownsRow_below h_ b4) _
 have HO4 := hide ho4
 have hsr : SrcRow (w4.alloc (.cells #[.int .u8 s0, .int .u8 s1, .int .u8 s2, .int .u8 s3, .int .u8 s4, .int .u8 s5, .int .u8 s6, .int .u8 s7] 118)) (.slice (some ⟨w4.heap.size, 0, none⟩) 8 8) 8 1 [.int .u8 s0, .int .u8 s1, .int .u8 s2, .int .u8 s3, .int .u8 s4, .int .u8 s5, .int .u8 s6, .int .u8 s7] :=
  ⟨_, _, rfl, rfl, (fun h => by cases h), fun ad h => by cases h; exact cells_new w4 [.int .u8 s0, .int .u8 s1, .int .u8 s2, .int .u8 s3, .int .u8 s4, .int .u8 s5, .int .u8 s6, .int .u8 s7] _⟩
 have HSR := hide hsr
 have hlow := fun r hr => (World.ownsRow.lt ho4 r hr).1
 have b5 : Below w.heap.size w (w4.alloc (.cells #[.int .u8 s0, .int .u8 s1, .int .u8 s2, .int .u8 s3, .int .u8 s4, .int .u8 s5, .int .u8 s6, .int .u8 s7] 118)) := (b3.trans (b4.mono z3)).alloc (by omega) _
 clear hsr ho4 HO3
 go_wp2_with (at_builtin; refine wpList_append_src _ rfl _ _ 42 rfl w.heap.size 5 i0 (.int .u8 0) 1 1 Tryz.underlying42 hi hz0 hz1 hz2 rfl (by decide) _ (3 + N) (B.flatMap encB) rfl HO4.out _ 8 [.int .u8 s0, .int .u8 s1, .int .u8 s2, .int .u8 s3, .int .u8 s4, .int .u8 s5, .int .u8 s6, .int .u8 s7] rfl HSR.out (by simp [Value.oneCell']) (by unfold maxLen; omega) (by omega) (by simp; omega) ?_; intro v5 w5 hown5 hg5 _)
 refine bodyPost_ret (v := .tuple #[v5, .int .i64 0]) (by simp [results, Tryz.results20, go_sem]) rfl ⟨⟨_, rfl, ?_⟩, b5.grown hg5 (by simp; omega) (fun r e => hlow r e)⟩
 rw [← HBB.out]
 unfold OwnBy Owns
 rw [H8.out, List.length_append, HBL.out, List.flatMap_append]
 exact hown5
end Go.Proofs.YthkoaecafmhlcaaGreat
/- Package codec: first. -/
namespace Go.Proofs.YthkoaecafmhlcaaGreat
open Go.RowKit
attribute [local simp] size_drewT
theorem rws_cap {α : Type} {en : α → List Value} {C : Nat} {d : α} {w : World} {a : Option Addr} {n cap c2 : Nat} {l : List α} (h : Rws en C d w (.slice a n cap) l) (h1 : n ≤ c2) (h2 : c2 ≤ 9223372036854775807) : Rws en C d w (.slice a n c2) l := by
 obtain ⟨a', cap', e, g1, g2, g3⟩ := h
 cases e
 exact ⟨a, c2, rfl, h1, h2, g3⟩
theorem brow_sub {w : World} {b off M cap k : Nat} {p q r : List Int} (h : BRow w (.slice (some ⟨b, off, none⟩) M cap) (p ++ (q ++ r))) (hk : k = off + p.length) (c : Nat) (h1 : q.length ≤ c) (h2 : c ≤ 9223372036854775807) : BRow w (.slice (some ⟨b, k, none⟩) q.length c) q := by
 have h3 := Rws.drop (k := k) h p.length (by rw [List.length_append]; omega) (by omega)
 rw [List.drop_left] at h3
 have h4 := Rws.take h3 q.length (by rw [List.length_append]; omega)
 rw [List.take_left] at h4
 exact rws_cap h4 h1 h2
theorem frm_len (l : List Int) : (frm l).length = (encN l).length + 11 := by
 unfold frm
 rw [List.length_append, List.length_append]
 show 3 + (encN l).length + 8 = _
 omega
theorem or_hd (N : Nat) (h : N ≤ 10010) : bits .or .i64 ((N : Int) / 256 * 256) ((N : Int) % 256) = (N : Int) := by
 have := bits_join .i64 62 (by decide) (fun n h1 h2 => by rw [IntKind.wrap_i64]; omega) 8 ((N : Int) / 256 * 256) ((N : Int) % 256) (by omega) (by omega) (by omega) (by omega) (by omega) (by omega)
 rw [this]; omega
theorem or_hd0 (x : Int) (h : 0 ≤ x ∧ x ≤ 65535) : bits .or .i64 0 x = x := by
 obtain ⟨m, rfl⟩ := Int.eq_ofNat_of_zero_le h.1
 have := (bits_nat .i64 62 (by decide) (fun n h1 h2 => by rw [IntKind.wrap_i64]; omega) 0 m (by omega) (by omega)).2
 rw [Nat.zero_or] at this
 exact this
theorem eq8 (s0 s1 s2 s3 s4 s5 s6 s7 : Int) (w : World) : (Op.equalIn 10000 118 (.agg #[.int .u8 s0, .int .u8 s1, .int .u8 s2, .int .u8 s3, .int .u8 s4, .int .u8 s5, .int .u8 s6, .int .u8 s7]) (.agg #[.int .u8 s0, .int .u8 s1, .int .u8 s2, .int .u8 s3, .int .u8 s4, .int .u8 s5, .int .u8 s6, .int .u8 s7])).run Tryz.prog w = .ok true w := by
 have u3 := Tryz.underlying5
 have a3 : (isAgg 5).run Tryz.prog w = .ok false w := by kernel_rfl
 have z3 := fun w : World => (show (sizeOf 5).run Tryz.prog w = .ok 1 w from by kernel_rfl)
 rw [show (10000 : Nat) = 9999 + 1 from rfl, Op.equalIn]
 simp only [Sem.run_bind, run_underlying Tryz.underlying118, Result.andThen_ok]
 simp only [Std.Legacy.Range.forIn_eq_forIn_range', Std.Legacy.Range.size, Nat.sub_zero, Nat.add_sub_cancel, Nat.div_one, List.range'_succ, List.range'_zero, List.forIn_cons, List.forIn_nil]
 go_simp
set_option maxHeartbeats 2000000 in
set_option maxRecDepth 100000 in
set_option maxHeartbeats 400000 in
theorem first_whole (v : Value) (l rest : List Int) (w : World) (h : BRow w v (frm l ++ rest)) (hl : l.length ≤ 1000) (hs : Sml l) (hr : (frm l ++ rest).length ≤ 100000) :
  Calls Tryz.prog 57 #[v] w fun e w' => (∃ ov, e = .returned (.tuple #[ov, .int .i64 (frm l).length, .bool true]) ∧ OwnIs w' w.heap.size ov l) ∧ Below w.heap.size w w' := by
 obtain ⟨he, he0⟩ := encN_len hl hs
 rw [frm_len]
 obtain ⟨b, off, cap, rfl, hcap, hmax, hlt0, hel⟩ := h.at0 (by rw [List.length_append, frm_len]; omega)
 have hM : (frm l ++ rest).length = (encN l).length + 11 + rest.length := by rw [List.length_append, frm_len]
 have hall : frm l ++ rest = hd3 (encN l).length ++ (encN l ++ (sum8 (hd3 (encN l).length ++ encN l) ++ rest)) := by unfold frm; simp [List.append_assoc]
 have hrB : BRow w (.slice (some ⟨b, off, none⟩) ((encN l).length + 3) ((encN l).length + 3)) (hd3 (encN l).length ++ encN l) := by
  have h_ := brow_sub (k := off) (p := []) (q := hd3 (encN l).length ++ encN l) (r := sum8 (hd3 (encN l).length ++ encN l) ++ rest) (by rw [List.nil_append, List.append_assoc, ← hall]; exact h) rfl ((encN l).length + 3) (by rw [List.length_append, Nat.add_comm]; exact Nat.le_refl _) (by omega)
  rw [List.length_append, Nat.add_comm] at h_
  exact h_
 have hrE : BRow w (.slice (some ⟨b, off + 3, none⟩) (encN l).length (encN l).length) (encN l) :=
  brow_sub (k := off + 3) (p := hd3 (encN l).length) (q := encN l) (r := sum8 (hd3 (encN l).length ++ encN l) ++ rest) (by rw [← hall]; exact h) rfl _ (Nat.le_refl _) (by omega)
 have hr8 : BRow w (.slice (some ⟨b, off + ((encN l).length + 3), none⟩) 8 8) (sum8 (hd3 (encN l).length ++ encN l)) :=
  brow_sub (k := off + ((encN l).length + 3)) (p := hd3 (encN l).length ++ encN l) (q := sum8 (hd3 (encN l).length ++ encN l)) (r := rest) (by rw [List.append_assoc, ← hall]; exact h) (by rw [List.length_append]; show _ = off + (3 + _); omega) 8 (Nat.le_refl _) (by omega)
 have hS : ∀ V : World, Below w.heap.size w V → _ := fun V hV => sum_any _ _ V (hrB.below (Nat.le_refl _) hV) (by rw [List.length_append]; show 3 + _ ≤ _; omega) ((byt_hd3 _).app (byt_encN l))
 have hG : ∀ V : World, Below w.heap.size w V → _ := fun V hV => Get_any _ l V (hrE.below (Nat.le_refl _) hV) hl hs
 obtain ⟨N, hN⟩ : ∃ N, N = (encN l).length := ⟨_, rfl⟩
 rw [← hN] at he he0 hM hrB hrE hr8 hS hG ⊢
 obtain ⟨M, hMM⟩ : ∃ M, M = (frm l ++ rest).length := ⟨_, rfl⟩
 rw [← hMM] at hM hr hcap ⊢
 obtain ⟨B, hB⟩ : ∃ B, B = hd3 N ++ encN l := ⟨_, rfl⟩
 rw [← hB] at hrB hr8 hS
 obtain ⟨s0, s1, s2, s3, s4, s5, s6, s7, hs8⟩ : ∃ s0 s1 s2 s3 s4 s5 s6 s7 : Int, sum8 B = [s0, s1, s2, s3, s4, s5, s6, s7] := ⟨_, _, _, _, _, _, _, _, rfl⟩
 rw [hs8] at hr8 hS
 have hBl : B.length = N + 3 := by rw [hB, List.length_append, ← hN]; exact Nat.add_comm _ _
 have g0 : B.getD 0 0 = 0 := by rw [hB]; show ((N / 65536 % 256 : Nat) : Int) = 0; omega
 have g1 : B.getD 1 0 = (N : Int) / 256 := by rw [hB]; show ((N / 256 % 256 : Nat) : Int) = _; omega
 have g2 : B.getD 2 0 = (N : Int) % 256 := by rw [hB]; show ((N % 256 : Nat) : Int) = _; omega
 have hat : ∀ i, i < N + 3 → w.cell? ⟨b, off + i, none⟩ = some (.int .u8 (B.getD i 0)) := fun i hi => by
  obtain ⟨b', off', cap', e, -, h2⟩ := hrB.at_ (i := i) (by omega)
  simp only [Value.slice.injEq, Option.some.injEq, Addr.mk.injEq] at e
  obtain ⟨⟨rfl, rfl, -⟩, -, -⟩ := e
  exact h2
 have y0 : w.cell? ⟨b, off, none⟩ = some (.int .u8 0) := by rw [← g0]; exact hat 0 (by omega)
 have y1 : w.cell? ⟨b, off + 1, none⟩ = some (.int .u8 ((N : Int) / 256)) := by rw [← g1]; exact hat 1 (by omega)
 have y2 : w.cell? ⟨b, off + 2, none⟩ = some (.int .u8 ((N : Int) % 256)) := by rw [← g2]; exact hat 2 (by omega)
 have h8 : ∀ i, i < 8 → w.cell? ⟨b, off + (N + 3) + i, none⟩ = some (.int .u8 ([s0, s1, s2, s3, s4, s5, s6, s7].getD i 0)) := fun i hi => by
  obtain ⟨b', off', cap', e, -, h2⟩ := hr8.at_ (i := i) hi
  cases e
  exact h2
 have HS := hide hS
 have HG := hide hG
 have H8 := hide h8
 have o1 := or_hd N he
 have o2 := or_hd0 ((N : Int) / 256 * 256) (by omega)
 have I0 : (0 : Int) < (M : Int) := by omega
 have I1 : (1 : Int) < (M : Int) := by omega
 have I2 : (2 : Int) < (M : Int) := by omega
 have I3 : decide ((M : Int) < 3) = false := decide_eq_false (by omega)
 have HMM := hide (And.intro hM hMM)
 have HB := hide (And.intro hB (And.intro hN hBl))
 clear hM hMM hall hrB hrE hr8 hS hG hel h8 hat g0 g1 g2 hs8 hB hN hBl h
 obtain ⟨P, hP⟩ : ∃ p, p = N + 3 := ⟨_, rfl⟩
 rw [← hP] at HS HB H8
 have hA : ∀ V : World, Below w.heap.size w V → V.cell? ⟨b, off + P, none⟩ = some (.int .u8 s0) ∧ V.cell? ⟨b, off + P + 1, none⟩ = some (.int .u8 s1) ∧ V.cell? ⟨b, off + P + 2, none⟩ = some (.int .u8 s2) ∧ V.cell? ⟨b, off + P + 3, none⟩ = some (.int .u8 s3) ∧ V.cell? ⟨b, off + P + 4, none⟩ = some (.int .u8 s4) ∧ V.cell? ⟨b, off + P + 5, none⟩ = some (.int .u8 s5) ∧ V.cell? ⟨b, off + P + 6, none⟩ = some (.int .u8 s6) ∧ V.cell? ⟨b, off + P + 7, none⟩ = some (.int .u8 s7) := fun V hV => by
  have hk := fun i (hi : i < 8) => (hV.cell (p := ⟨b, off + P + i, none⟩) hlt0).trans (H8.out i hi)
  exact ⟨hk 0 (by omega), hk 1 (by omega), hk 2 (by omega), hk 3 (by omega), hk 4 (by omega), hk 5 (by omega), hk 6 (by omega), hk 7 (by omega)⟩
 have HA := hide hA
 have I4 : N + 11 ≤ M := by have := HMM.out.1; omega
 obtain ⟨Q, hQ⟩ : ∃ q, q = N + 11 := ⟨_, rfl⟩
 have I5 : decide ((M : Int) < (Q : Int)) = false := decide_eq_false (by omega)
 have ww1 : IntKind.i64.wrap ((N : Int) + 11) = (Q : Int) := by rw [IntKind.wrap_i64]; omega
 have ww2 : IntKind.i64.wrap ((N : Int) + 3) = (P : Int) := by rw [IntKind.wrap_i64]; omega
 have J1 : (0 : Int) ≤ (P : Int) := by omega
 have J2 : (P : Int) ≤ (Q : Int) := by omega
 have J3 : (Q : Int) ≤ (cap : Int) := by omega
 have J4 : (P : Int) ≤ (cap : Int) := by omega
 have J5 : Q - P = 8 := by omega
 have I6 : decide (M < Q) = false := decide_eq_false (by omega)
 have J8 : P - 3 = N := by omega
 have J9 : ((P : Int) - 3).toNat = N := by omega
 have J10 : ¬ P = 3 := by omega
 have J11 : (3 : Int) ≤ (P : Int) := by omega
 have J7 : ¬ cap = P := by omega
 have J6 : ((Q : Int) - (P : Int)).toNat = 8 := by omega
 have heq : ∀ W : World, (Op.equalIn 10000 118 (.agg #[.int .u8 s0, .int .u8 s1, .int .u8 s2, .int .u8 s3, .int .u8 s4, .int .u8 s5, .int .u8 s6, .int .u8 s7]) (.agg #[.int .u8 s0, .int .u8 s1, .int .u8 s2, .int .u8 s3, .int .u8 s4, .int .u8 s5, .int .u8 s6, .int .u8 s7])).run Tryz.prog W = .ok true W := fun W => eq8 _ _ _ _ _ _ _ _ W
 have har : ∀ W : World, (Instr.arrayAt 118 (.slice (some ⟨b, off + P, none⟩) 8 (cap - P))).run Tryz.prog W = .ok (.pointer (some ⟨b, off + P, none⟩)) W := fun W => run_arrayAt (P := Tryz.prog) (w := W) 118 5 8 _ 8 _ Tryz.underlying118 (Nat.le_refl _)
 have HPQ := hide (And.intro hP hQ)
 clear hP hQ
 clear hA
 have mixed : Tryz.prog.follows Departure.mixedOrders = true := by kernel_rfl
 go_enter Tryz.func57, Tryz.ntmps57
 go_upto_region 3 with fail
 go_quiet ((fail))
 go_upto_region 4 with fail
 obtain ⟨wd, hwd⟩ : ∃ V, V = w.drewN nq := ⟨_, rfl⟩
 have bd : Below w.heap.size w wd := by rw [hwd]; exact below_drewN (Below.refl _ _) _
 rw [← hwd]
 clear hwd y0 y1 y2 o1 o2
 have zd := bd.size
 obtain ⟨k0, k1, k2, k3, k4, k5, k6, k7⟩ := HA.out wd bd
 go_region_held3 (fun V => V.cell? ⟨b, off + P, none⟩ = some (.int .u8 s0) ∧ V.cell? ⟨b, off + P + 1, none⟩ = some (.int .u8 s1) ∧ V.cell? ⟨b, off + P + 2, none⟩ = some (.int .u8 s2) ∧ V.cell? ⟨b, off + P + 3, none⟩ = some (.int .u8 s3) ∧ V.cell? ⟨b, off + P + 4, none⟩ = some (.int .u8 s4) ∧ V.cell? ⟨b, off + P + 5, none⟩ = some (.int .u8 s5) ∧ V.cell? ⟨b, off + P + 6, none⟩ = some (.int .u8 s6) ∧ V.cell? ⟨b, off + P + 7, none⟩ = some (.int .u8 s7)) (first | (refine HA.out _ ?_; ((with_reducible repeat' first | exact .refl _ _ | exact b5 | exact bd | refine .alloc ?_ ?_ _ | refine .setCell ?_ ?_ _ | refine .drew ?_ | refine below_drewN ?_ _ | refine Below.trans ?_ (b5.mono ?_) | refine Below.trans ?_ (bd.mono ?_)) <;> first | omega | simp <;> omega); done)) (first | (go_at_call 55; (with_reducible refine (HS.out _ (by ((with_reducible repeat' first | exact .refl _ _ | exact bd | refine .alloc ?_ ?_ _ | refine .setCell ?_ ?_ _ | refine .drew ?_ | refine below_drewN ?_ _ | refine Below.trans ?_ (bd.mono ?_)) <;> first | omega | simp <;> omega))).mono ?_); rintro e w5 ⟨rfl, b5⟩; have b5' : Below w.heap.size w w5 := (by ((with_reducible repeat' first | exact .refl _ _ | exact b5 | exact bd | refine .alloc ?_ ?_ _ | refine .setCell ?_ ?_ _ | refine .drew ?_ | refine below_drewN ?_ _ | refine Below.trans ?_ (b5.mono ?_) | refine Below.trans ?_ (bd.mono ?_)) <;> first | omega | simp <;> omega))))
 all_goals have z5 := b5'.size
 all_goals clear k0 k1 k2 k3 k4 k5 k6 k7
 all_goals go_wp2_with (go_at_call 93; (with_reducible refine (HG.out _ b5').mono ?_); rintro e w6 ⟨⟨ov, rfl, o6⟩, b6⟩)
 all_goals refine bodyPost_ret (v := .tuple #[ov, .int .i64 Q, .bool true]) (by simp [results, Tryz.results57, go_sem]) rfl ⟨⟨ov, by rw [HPQ.out.2], OwnIs.mono o6 z5⟩, b5'.trans (b6.mono z5)⟩
end Go.Proofs.YthkoaecafmhlcaaGreat
