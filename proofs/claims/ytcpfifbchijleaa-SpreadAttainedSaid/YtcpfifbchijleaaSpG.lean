/- Package spread: Pick. -/
import Derived.Test.YtcpfifbchijleaaSpF
import Derived.Deep.RegionHeld3
import Derived.Deep.DeepCutAuto
import Derived.StillTailTactics
namespace Go.Proofs.Ytcpfifbchijleaa
open Go.RowKit Go.Shelf

def pieceI (l : List Int) (lo n : Nat) : List Int := (toI (ordL l)).drop lo |>.take n
def pickL (l : List Int) (f lost : Int) : List Int := if spOk l f lost = true then srtI (pieceI l (spM l f lost) f.toNat) else []
def goneL (l : List Int) (f lost : Int) : List Int := if spOk l f lost = true then srtI (pieceI l (spM l f lost + f.toNat) (l.length - (spM l f lost + f.toNat))) else []
theorem pieceI_length (l : List Int) (lo n : Nat) (h : lo + n ≤ l.length) : (pieceI l lo n).length = n := by simp [pieceI, toI_length, ordL_length]; omega
theorem pieceI_at (l : List Int) (lo n i : Nat) (h : lo + n ≤ l.length) (hi : i < n) : iAt (pieceI l lo n) i = (nAt (ordL l) (lo + i) : Int) := by
  have h1 : lo + i < (ordL l).length := by rw [ordL_length]; omega
  rw [← toI_at _ _ h1]
  simp [pieceI, iAt, List.getD_eq_getElem?_getD, hi]
theorem piece_row {w : World} {l : List Int} {b off lo n c2 : Nat} (h : ∀ i, i < l.length → w.cell? ⟨b, off + i, none⟩ = some (.int .i64 (nAt (ordL l) i))) (hb : b < w.heap.size) (hln : lo + n ≤ l.length) (hc2 : n ≤ c2) (hm : c2 ≤ 9223372036854775807) :
    IsRow w (.slice (some ⟨b, off + lo, none⟩) n c2) (pieceI l lo n) := by
  refine ⟨_, c2, by rw [pieceI_length l lo n hln], by rw [pieceI_length l lo n hln]; exact hc2, hm, fun i hi => ?_⟩
  rw [pieceI_length l lo n hln] at hi
  refine ⟨b, off + lo, rfl, hb, ?_⟩
  rw [pieceI_at l lo n i hln hi, Nat.add_assoc]
  exact h (lo + i) (by omega)
set_option maxRecDepth 100000 in
set_option maxHeartbeats 2000000 in
theorem Pick_ok (v : Value) (l : List Int) (f : Nat) (lost : Int) (w : World) (hv : IsRow w v l) (hok : spOk l f lost = true) :
    Calls Try.prog 13 #[v, .int .i64 f, .int .i64 lost] w fun e w' => ∃ v1 v2, e = .returned (.tuple #[v1, v2, .int .i64 0]) ∧ OwnIs w' w.heap.size v1 (pickL l f lost) ∧ OwnIs w' w.heap.size v2 (goneL l f lost) ∧ Below w.heap.size w w' := by
  obtain ⟨m1, m2, m3, m4, m5, m6⟩ := sp_mk hok
  have hi := (spOk_iff l f lost).1 hok
  have hb1 := hi.2.1
  have hb2 := hi.2.2.1
  have Hok := hide hok
  clear hok hi
  go_enter Try.func13, Try.ntmps13
  go_wp2_with fail
  refine (newGame_ok v l f lost _ hv Hok.out).mono ?_
  rintro e w1 ⟨gb, rfl, hgb, hG, b1⟩
  have hG' := hG
  obtain ⟨-, ⟨b, off, cap, g1, g2, g3, g4, g5⟩, g6, g7, g8, g9⟩ := hG'
  generalize hmq : spM l f lost = m at *
  have Hm := hide hmq
  clear hmq
  generalize spK l f lost = k at *
  have hmf : m + f ≤ l.length := by omega
  have hw1 : IntKind.i64.wrap ((m : Int) + f) = ((m + f : Nat) : Int) := by rw [IntWalk.i64_in _ (by omega)]; omega
  have M1 := hide m1
  have hsub : m + f - m = f := by omega
  have hmf2 : m + f ≤ cap := by omega
  clear m1 m2
  go_wp2_with fail
  have hlen1 : (pieceI l m f).length ≤ 1000 := by rw [pieceI_length _ _ _ hmf]; omega
  go_upto_region 4 with fail
  go_cut [6] (fun s6 wx => OwnIs wx w1.heap.size s6 (srtI (pieceI l m f)) ∧ Below w1.heap.size w1 wx)
  case first =>
    by_cases hcap : m = cap
    · have hf0 : f = 0 := by omega
      subst hf0
      have hmz : m - m = 0 := by omega
      have hwm : IntKind.i64.wrap (m : Int) = m := IntWalk.i64_in _ (by omega)
      subst hcap
      have hp : IsRow w1 (.slice (some ⟨b, off, none⟩) 0 0) (pieceI l m 0) := ⟨some ⟨b, off, none⟩, 0, by simp [pieceI], by simp [pieceI], by omega, fun i hi => by simp [pieceI] at hi⟩
      have hp2 : IsRow w1.drew (.slice (some ⟨b, off, none⟩) 0 0) (pieceI l m 0) := ⟨some ⟨b, off, none⟩, 0, by simp [pieceI], by simp [pieceI], by omega, fun i hi => by simp [pieceI] at hi⟩
      have q1 : w1.heap.size ≤ ((w1.alloc (.cells #[.slice (some ⟨b, off, none⟩) 0 0] 22)).drew).heap.size := by simp
      have q2 : ∀ q, q < w1.heap.size → ((w1.alloc (.cells #[.slice (some ⟨b, off, none⟩) 0 0] 22)).drew).heap[q]? = w1.heap[q]? := fun q hq => Below.heap_alloc w1 _ q hq
      have q3 : ((w1.alloc (.cells #[.slice (some ⟨b, off, none⟩) 0 0] 22)).drew).cell? ⟨w1.heap.size, 0, none⟩ = some (.slice (some ⟨b, off, none⟩) 0 0) := by simp [go_sem]
      have Q2 := hide q2
      have Q3 := hide q3
      clear q2 q3
      go_region_with (first | (go_at_call 27; refine (Values_any _ _ _ hp2).mono ?_; rintro e w' ⟨rfl, rfl⟩) | (go_at_call 26; refine (Sorted_any w1.heap.size _ _ w1 _ hp hlen1 q1 Q2.out (Nat.le_refl _) Q3.out).mono ?_; rintro e w2 ⟨ov, rfl, ho, b2⟩))
      all_goals go_wp2_with fail
      all_goals go_meet
      all_goals exact ⟨ho.mono (by simp), (by ((repeat' (first | exact Below.refl _ _ | exact b2 | refine Below.alloc ?_ ?_ _ | refine Below.setCell ?_ ?_ _ | refine Below.drew ?_ | refine below_drewN ?_ _ | refine Below.trans ?_ (b2.mono ?_))) <;> (first | omega | (simp; done) | (simp; omega))))⟩
    · have hmc : m < cap := by omega
      have hp : IsRow w1 (.slice (some ⟨b, off + m, none⟩) f (cap - m)) (pieceI l m f) := piece_row (w := w1) g5 g4 hmf (by omega) (by omega)
      have hp2 : IsRow w1.drew (.slice (some ⟨b, off + m, none⟩) f (cap - m)) (pieceI l m f) := piece_row (w := w1.drew) g5 g4 hmf (by omega) (by omega)
      have q1 : w1.heap.size ≤ ((w1.alloc (.cells #[.slice (some ⟨b, off + m, none⟩) f (cap - m)] 22)).drew).heap.size := by simp
      have q2 : ∀ q, q < w1.heap.size → ((w1.alloc (.cells #[.slice (some ⟨b, off + m, none⟩) f (cap - m)] 22)).drew).heap[q]? = w1.heap[q]? := fun q hq => Below.heap_alloc w1 _ q hq
      have q3 : ((w1.alloc (.cells #[.slice (some ⟨b, off + m, none⟩) f (cap - m)] 22)).drew).cell? ⟨w1.heap.size, 0, none⟩ = some (.slice (some ⟨b, off + m, none⟩) f (cap - m)) := by simp [go_sem]
      have Q2 := hide q2
      have Q3 := hide q3
      clear q2 q3
      go_region_with (first | (go_at_call 27; refine (Values_any _ _ _ hp2).mono ?_; rintro e w' ⟨rfl, rfl⟩) | (go_at_call 26; refine (Sorted_any w1.heap.size _ _ w1 _ hp hlen1 q1 Q2.out (Nat.le_refl _) Q3.out).mono ?_; rintro e w2 ⟨ov, rfl, ho, b2⟩))
      all_goals go_wp2_with fail
      all_goals go_meet
      all_goals exact ⟨ho.mono (by simp), (by ((repeat' (first | exact Below.refl _ _ | exact b2 | refine Below.alloc ?_ ?_ _ | refine Below.setCell ?_ ?_ _ | refine Below.drew ?_ | refine below_drewN ?_ _ | refine Below.trans ?_ (b2.mono ?_))) <;> (first | omega | (simp; done) | (simp; omega))))⟩
  case rest =>
    obtain ⟨ho1, b2⟩ := hcut
    have z2 := b2.size
    have hGc := hG.below (Nat.le_refl _) b2
    have c1 := (b2.cell (p := ⟨gb, 1, none⟩) g9).trans g1
    have c2 := (b2.cell (p := ⟨gb, 2, none⟩) g9).trans g6
    have c5 : ∀ i, i < l.length → wc.cell? ⟨b, off + i, none⟩ = some (.int .i64 (nAt (ordL l) i)) := fun i hi => (b2.cell (p := ⟨b, off + i, none⟩) g4).trans (g5 i hi)
    have c4 : b < wc.heap.size := by omega
    obtain ⟨r, hr⟩ : ∃ r, r = m + f := ⟨_, rfl⟩
    have hwr : IntKind.i64.wrap ((m : Int) + f) = (r : Nat) := by rw [hw1, hr]
    have hrl : r ≤ l.length := by omega
    have hrc : r ≤ cap := by omega
    obtain ⟨n2, hn2⟩ : ∃ n2, n2 = l.length - r := ⟨_, rfl⟩
    have hln : r + n2 ≤ l.length := by omega
    have hln2 : l.length = r + n2 := by omega
    have Hln2 := hide hln2
    have HG := hide g5
    have hlen1 : (pieceI l r n2).length ≤ 1000 := by rw [pieceI_length _ _ _ hln]; omega
    have Hn2 := hide hn2
    have Hr := hide hr
    clear hw1 hr hn2 hln2 g5 g1 g6 hG hGc
    go_upto_region 5 with fail
    go_cut [7] (fun s7 wx => OwnIs wx wc.heap.size s7 (srtI (pieceI l r n2)) ∧ Below wc.heap.size wc wx)
    case first =>
      by_cases hcap : r = cap
      · have hrz : r - r = 0 := by omega
        have hlz : l.length - r = 0 := by omega
        have hn20 : n2 = 0 := by have := Hn2.out; omega
        subst hn20
        subst hcap
        have hp : IsRow wc (.slice (some ⟨b, off, none⟩) 0 0) (pieceI l r 0) := ⟨some ⟨b, off, none⟩, 0, by simp [pieceI], by simp [pieceI], by omega, fun i hi => by simp [pieceI] at hi⟩
        have hp2 : IsRow wc.drew (.slice (some ⟨b, off, none⟩) 0 0) (pieceI l r 0) := ⟨some ⟨b, off, none⟩, 0, by simp [pieceI], by simp [pieceI], by omega, fun i hi => by simp [pieceI] at hi⟩
        have q1 : wc.heap.size ≤ ((wc.alloc (.cells #[.slice (some ⟨b, off, none⟩) 0 0] 22)).drew).heap.size := by simp
        have q2 : ∀ q, q < wc.heap.size → ((wc.alloc (.cells #[.slice (some ⟨b, off, none⟩) 0 0] 22)).drew).heap[q]? = wc.heap[q]? := fun q hq => Below.heap_alloc wc _ q hq
        have q3 : ((wc.alloc (.cells #[.slice (some ⟨b, off, none⟩) 0 0] 22)).drew).cell? ⟨wc.heap.size, 0, none⟩ = some (.slice (some ⟨b, off, none⟩) 0 0) := by simp [go_sem]
        have Q2 := hide q2
        have Q3 := hide q3
        clear q2 q3
        go_region_with (first | (go_at_call 27; refine (Values_any _ _ _ hp2).mono ?_; rintro e w' ⟨rfl, rfl⟩) | (go_at_call 26; refine (Sorted_any wc.heap.size _ _ wc _ hp hlen1 q1 Q2.out (Nat.le_refl _) Q3.out).mono ?_; rintro e w2 ⟨ov, rfl, ho, b2⟩))
        all_goals go_wp2_with fail
        all_goals go_meet
        all_goals exact ⟨ho.mono (by simp), (by ((repeat' (first | exact Below.refl _ _ | exact b2 | refine Below.alloc ?_ ?_ _ | refine Below.setCell ?_ ?_ _ | refine Below.drew ?_ | refine below_drewN ?_ _ | refine Below.trans ?_ (b2.mono ?_))) <;> (first | omega | (simp; done) | (simp; omega))))⟩
      · have hmc : r < cap := by omega
        have hn2' : l.length - r = n2 := by have := Hn2.out; omega
        have hp : IsRow wc (.slice (some ⟨b, off + r, none⟩) n2 (cap - r)) (pieceI l r n2) := piece_row (w := wc) c5 c4 hln (by omega) (by omega)
        have hp2 : IsRow wc.drew (.slice (some ⟨b, off + r, none⟩) n2 (cap - r)) (pieceI l r n2) := piece_row (w := wc.drew) c5 c4 hln (by omega) (by omega)
        have q1 : wc.heap.size ≤ ((wc.alloc (.cells #[.slice (some ⟨b, off + r, none⟩) n2 (cap - r)] 22)).drew).heap.size := by simp
        have q2 : ∀ q, q < wc.heap.size → ((wc.alloc (.cells #[.slice (some ⟨b, off + r, none⟩) n2 (cap - r)] 22)).drew).heap[q]? = wc.heap[q]? := fun q hq => Below.heap_alloc wc _ q hq
        have q3 : ((wc.alloc (.cells #[.slice (some ⟨b, off + r, none⟩) n2 (cap - r)] 22)).drew).cell? ⟨wc.heap.size, 0, none⟩ = some (.slice (some ⟨b, off + r, none⟩) n2 (cap - r)) := by simp [go_sem]
        have Q2 := hide q2
        have Q3 := hide q3
        clear q2 q3
        go_region_with (first | (go_at_call 27; refine (Values_any _ _ _ hp2).mono ?_; rintro e w' ⟨rfl, rfl⟩) | (go_at_call 26; refine (Sorted_any wc.heap.size _ _ wc _ hp hlen1 q1 Q2.out (Nat.le_refl _) Q3.out).mono ?_; rintro e w2 ⟨ov, rfl, ho, b2⟩))
        all_goals go_wp2_with fail
        all_goals go_meet
        all_goals exact ⟨ho.mono (by simp), (by ((repeat' (first | exact Below.refl _ _ | exact b2 | refine Below.alloc ?_ ?_ _ | refine Below.setCell ?_ ?_ _ | refine Below.drew ?_ | refine below_drewN ?_ _ | refine Below.trans ?_ (b2.mono ?_))) <;> (first | omega | (simp; done) | (simp; omega))))⟩
    case rest =>
      obtain ⟨ho2, b3⟩ := hcut
      have z3 := b3.size
      go_wp2_with fail
      go_ret3
      refine ⟨_, _, rfl, ?_, ?_, (by ((repeat' (first | exact Below.refl _ _ | exact b1 | exact b2 | exact b3 | refine Below.alloc ?_ ?_ _ | refine Below.setCell ?_ ?_ _ | refine Below.drew ?_ | refine below_drewN ?_ _ | refine Below.trans ?_ (b1.mono ?_) | refine Below.trans ?_ (b2.mono ?_) | refine Below.trans ?_ (b3.mono ?_))) <;> (first | omega | (simp; done) | (simp; omega))))⟩
      · have e : pickL l f lost = srtI (pieceI l m f) := by unfold pickL; rw [if_pos Hok.out, Hm.out]; simp
        rw [e]
        exact (ho1.mono b1.size).below (Nat.le_refl _) b3
      · have e : goneL l f lost = srtI (pieceI l r n2) := by unfold goneL; rw [if_pos Hok.out, Hm.out, Hn2.out, Hr.out]; simp
        rw [e]
        exact ho2.mono (by omega)
end Go.Proofs.Ytcpfifbchijleaa
