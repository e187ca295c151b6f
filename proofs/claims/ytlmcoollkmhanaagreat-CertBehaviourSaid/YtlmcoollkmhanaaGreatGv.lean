
/- Parts SpV WdL of the proof, joined. -/
import Derived.Test.YtlmcoollkmhanaaGreatGb
import Derived.Test.YtlmcoollkmhanaaGreatGw
import Derived.Test.YtlmcoollkmhanaaGreatGg
/- Plain: intervals of at most some widths around a time, some lost, some replaced: their combination is not wider than the greatest width. -/
namespace Go.Proofs.YtlmcoollkmhanaaGreat
open Go.RowKit

theorem bd_lo (l : List Iv) (n : Nat) (h : n < l.length) : iLo l n = l[n].1 := by simp [iLo, List.getD_eq_getElem?_getD, List.getElem?_eq_getElem h]
theorem bd_hi (l : List Iv) (n : Nat) (h : n < l.length) : iHi l n = l[n].2 := by simp [iHi, List.getD_eq_getElem?_getD, List.getElem?_eq_getElem h]
theorem bd_count (l : List Iv) (t : Int) : dep l t l.length = ((l.countP fun p => hasB p.1 p.2 t : Nat) : Int) := by
 have key : ∀ n, n ≤ l.length → dep l t n = (((l.take n).countP fun p => hasB p.1 p.2 t : Nat) : Int) := by
  intro n
  induction n with
  | zero => intro _; simp [dep]
  | succ n ih =>
   intro hn
   have hlt : n < l.length := hn
   rw [dep, ih (by omega), List.take_add_one, List.getElem?_eq_getElem hlt, List.countP_append, bd_lo l n hlt, bd_hi l n hlt]
   simp only [Option.toList_some, List.countP_cons, List.countP_nil]
   split <;> simp
 simpa using key l.length (Nat.le_refl _)
theorem bd_app (l : List Iv) (p : Iv) (t : Int) : dep (l ++ [p]) t (l ++ [p]).length = dep l t l.length + if hasB p.1 p.2 t = true then 1 else 0 := by
 rw [bd_count, bd_count, List.countP_append]
 simp only [List.countP_cons, List.countP_nil]
 split <;> simp
structure Pt where
 (left less act lo hi : Int)
def ptL (w : Int) (p : Pt) : Int := p.left % (w + 1)
def ptR (w : Int) (p : Pt) : Int := w - ptL w p - p.less % (w - ptL w p + 1)
def ptI (w x : Int) (p : Pt) : Iv := (mx 0 (x - ptL w p), mn 3000000000000000 (x + ptR w p))
def ptGone (p : Pt) (gone lost : Int) : Bool := decide (p.act % 4 = 1) && decide (gone < lost)
def ptLie (p : Pt) (wrong f : Int) : Bool := decide (p.act % 4 = 2) && decide (wrong < f) && decide (0 ≤ p.lo) && decide (p.lo ≤ p.hi) && decide (p.hi ≤ 3000000000000000)
structure Bd where
 list : List Iv
 gone : Int
 wrong : Int
def bdS (ws : List Int) (P : Nat → Pt) (f lost x : Int) : Nat → Bd
 | 0 => ⟨[], 0, 0⟩
 | i + 1 =>
  if ptGone (P i) (bdS ws P f lost x i).gone lost = true then ⟨(bdS ws P f lost x i).list, (bdS ws P f lost x i).gone + 1, (bdS ws P f lost x i).wrong⟩
  else if ptLie (P i) (bdS ws P f lost x i).wrong f = true then ⟨(bdS ws P f lost x i).list ++ [((P i).lo, (P i).hi)], (bdS ws P f lost x i).gone, (bdS ws P f lost x i).wrong + 1⟩
  else ⟨(bdS ws P f lost x i).list ++ [ptI (iAt ws i) x (P i)], (bdS ws P f lost x i).gone, (bdS ws P f lost x i).wrong⟩
theorem pt_bd {w : Int} {p : Pt} (hw : 0 ≤ w ∧ w ≤ 1000000000000) : (0 ≤ ptL w p ∧ ptL w p ≤ w) ∧ 0 ≤ ptR w p ∧ ptL w p + ptR w p ≤ w := by
 have a1 := Int.emod_nonneg p.left (show w + 1 ≠ 0 by omega)
 have a2 := Int.emod_lt_of_pos p.left (show 0 < w + 1 by omega)
 have hl : 0 ≤ ptL w p ∧ ptL w p ≤ w := by unfold ptL; omega
 have b1 := Int.emod_nonneg p.less (show w - ptL w p + 1 ≠ 0 by omega)
 have b2 := Int.emod_lt_of_pos p.less (show 0 < w - ptL w p + 1 by omega)
 unfold ptR
 omega
structure BInv (ws : List Int) (f lost x p q : Int) (i : Nat) (s : Bd) (a b ab u : Nat) : Prop where
 da : dep s.list p s.list.length ≤ a + s.wrong
 db : dep s.list q s.list.length ≤ b + s.wrong
 dx : (s.list.length : Int) - s.wrong ≤ dep s.list x s.list.length
 len : (s.list.length : Int) = i - s.gone
 sum : a + b = u + ab
 tot : (u : Int) + s.wrong + s.gone ≤ i
 ca : a ≤ cge (x - p) (ws.take i)
 cb : b ≤ cge (q - x) (ws.take i)
 cu : ∀ z, z ≤ x - p ∨ z ≤ q - x → (z ≤ x - p → z ≤ q - x → u ≤ cge z (ws.take i))
 cab : ab ≤ cge (q - p) (ws.take i)
 gb : 0 ≤ s.gone ∧ (0 ≤ lost → s.gone ≤ lost)
 wb : 0 ≤ s.wrong ∧ (0 ≤ f → s.wrong ≤ f)
 val : ∀ y, y ∈ s.list → 0 ≤ y.1 ∧ y.1 ≤ y.2 ∧ y.2 ≤ 3000000000000000
theorem cge_take_succ (z : Int) (ws : List Int) (i : Nat) (h : i < ws.length) : cge z (ws.take (i + 1)) = cge z (ws.take i) + if z ≤ iAt ws i then 1 else 0 := by
 rw [take_snoc_is ws i h, cge_append, cge_cons]; simp [cge]
theorem bd_inv {ws : List Int} {P : Nat → Pt} {f lost x p q : Int} (hx : 0 ≤ x ∧ x ≤ 3000000000000000) (hpq : p ≤ x ∧ x ≤ q) (hw : ∀ i, i < ws.length → 0 ≤ iAt ws i ∧ iAt ws i ≤ 1000000000000) :
  ∀ i, i ≤ ws.length → ∃ a b ab u, BInv ws f lost x p q i (bdS ws P f lost x i) a b ab u
 | 0, _ => ⟨0, 0, 0, 0, by simp [bdS, dep], by simp [bdS, dep], by simp [bdS, dep], by simp [bdS], rfl, by simp [bdS], Nat.zero_le _, Nat.zero_le _, fun _ _ _ _ => Nat.zero_le _, Nat.zero_le _, by simp [bdS], by simp [bdS], by simp [bdS]⟩
 | i + 1, hi => by
  obtain ⟨a, b, ab, u, I⟩ := bd_inv (P := P) (f := f) (lost := lost) hx hpq hw i (by omega)
  have hcg := fun z => cge_take_succ z ws i (by omega)
  have hmono : ∀ z, cge z (ws.take i) ≤ cge z (ws.take (i + 1)) := fun z => by rw [hcg z]; omega
  rw [bdS]
  generalize bdS ws P f lost x i = s at *
  by_cases h1 : ptGone (P i) s.gone lost = true
  ·rw [if_pos h1]
   simp only [ptGone, Bool.and_eq_true, decide_eq_true_eq] at h1
   refine ⟨a, b, ab, u, I.da, I.db, I.dx, ?_, I.sum, ?_, Nat.le_trans I.ca (hmono _), Nat.le_trans I.cb (hmono _), fun z hz h2 h3 => Nat.le_trans (I.cu z hz h2 h3) (hmono _), Nat.le_trans I.cab (hmono _), ?_, I.wb, I.val⟩
   ·have := I.len; simp only; omega
   ·have := I.tot; simp only; omega
   ·have := I.gb; simp only; exact ⟨by omega, fun _ => by omega⟩
  ·rw [if_neg h1]
   by_cases h2 : ptLie (P i) s.wrong f = true
   ·rw [if_pos h2]
    simp only [ptLie, Bool.and_eq_true, decide_eq_true_eq] at h2
    have d := bd_app s.list ((P i).lo, (P i).hi)
    refine ⟨a, b, ab, u, ?_, ?_, ?_, ?_, I.sum, ?_, Nat.le_trans I.ca (hmono _), Nat.le_trans I.cb (hmono _), fun z hz h2 h3 => Nat.le_trans (I.cu z hz h2 h3) (hmono _), Nat.le_trans I.cab (hmono _), I.gb, ?_, ?_⟩
    ·have := I.da; have := d p; simp only; split at this <;> omega
    ·have := I.db; have := d q; simp only; split at this <;> omega
    ·have := I.dx; have := d x; simp only [List.length_append, List.length_cons, List.length_nil] at this ⊢; split at this <;> omega
    ·have := I.len; simp only [List.length_append, List.length_cons, List.length_nil]; omega
    ·have := I.tot; simp only; omega
    ·have := I.wb; simp only; exact ⟨by omega, fun _ => by omega⟩
    ·intro y hy
     rcases List.mem_append.1 hy with hy | hy
     ·exact I.val y hy
     ·obtain rfl : y = ((P i).lo, (P i).hi) := by simpa using hy
      simp only; omega
   ·rw [if_neg h2]
    have hb := pt_bd (p := P i) (hw i (by omega))
    have m1 := mx_spec 0 (x - ptL (iAt ws i) (P i))
    have m2 := mn_spec 3000000000000000 (x + ptR (iAt ws i) (P i))
    have hI : ptI (iAt ws i) x (P i) = (mx 0 (x - ptL (iAt ws i) (P i)), mn 3000000000000000 (x + ptR (iAt ws i) (P i))) := rfl
    rw [hI]
    generalize mx 0 (x - ptL (iAt ws i) (P i)) = lo at *
    generalize mn 3000000000000000 (x + ptR (iAt ws i) (P i)) = hi' at *
    generalize ptL (iAt ws i) (P i) = L at *
    generalize ptR (iAt ws i) (P i) = R at *
    have d := bd_app s.list (lo, hi')
    have hhx : hasB lo hi' x = true := by simp only [hasB, decide_eq_true_eq]; omega
    have ep : (hasB lo hi' p = true ↔ lo ≤ p) := by simp only [hasB, decide_eq_true_eq]; omega
    have eq' : (hasB lo hi' q = true ↔ q ≤ hi') := by simp only [hasB, decide_eq_true_eq]; omega
    have dx := d x
    rw [if_pos hhx] at dx
    have dp := d p
    have dq := d q
    simp only at dp dq
    have hval : ∀ y, y ∈ s.list ++ [(lo, hi')] → 0 ≤ y.1 ∧ y.1 ≤ y.2 ∧ y.2 ≤ 3000000000000000 := fun y hy => by
     rcases List.mem_append.1 hy with hy | hy
     ·exact I.val y hy
     ·obtain rfl : y = (lo, hi') := by simpa using hy
      simp only; omega
    have hlen : ((s.list ++ [(lo, hi')]).length : Int) = ((i + 1 : Nat) : Int) - s.gone := by have := I.len; simp only [List.length_append, List.length_cons, List.length_nil]; omega
    have hdx : ((s.list ++ [(lo, hi')]).length : Int) - s.wrong ≤ dep (s.list ++ [(lo, hi')]) x (s.list ++ [(lo, hi')]).length := by
     have := I.dx; rw [dx]; simp only [List.length_append, List.length_cons, List.length_nil]; omega
    have ca := I.ca
    have cb := I.cb
    have cab := I.cab
    have da := I.da
    have db := I.db
    have hsum := I.sum
    have tot := I.tot
    have ha := hcg (x - p)
    have hb' := hcg (q - x)
    have hc := hcg (q - p)
    by_cases kp : lo ≤ p
    ·rw [if_pos (ep.2 kp)] at dp
     rw [if_pos (show x - p ≤ iAt ws i by omega)] at ha
     by_cases kq : q ≤ hi'
     ·rw [if_pos (eq'.2 kq)] at dq
      rw [if_pos (show q - x ≤ iAt ws i by omega)] at hb'
      rw [if_pos (show q - p ≤ iAt ws i by omega)] at hc
      refine ⟨a + 1, b + 1, ab + 1, u + 1, by simp only; omega, by simp only; omega, hdx, hlen, by omega, by simp only; omega, by omega, by omega, fun z hz h3 h4 => ?_, by omega, I.gb, I.wb, hval⟩
      have := I.cu z hz h3 h4
      rw [hcg z, if_pos (show z ≤ iAt ws i by omega)]; omega
     ·rw [if_neg (fun h => kq (eq'.1 h))] at dq
      refine ⟨a + 1, b, ab, u + 1, by simp only; omega, by simp only; omega, hdx, hlen, by omega, by simp only; omega, by omega, by rw [hb']; omega, fun z hz h3 h4 => ?_, by rw [hc]; omega, I.gb, I.wb, hval⟩
      have := I.cu z hz h3 h4
      rw [hcg z, if_pos (show z ≤ iAt ws i by omega)]; omega
    ·rw [if_neg (fun h => kp (ep.1 h))] at dp
     by_cases kq : q ≤ hi'
     ·rw [if_pos (eq'.2 kq)] at dq
      rw [if_pos (show q - x ≤ iAt ws i by omega)] at hb'
      refine ⟨a, b + 1, ab, u + 1, by simp only; omega, by simp only; omega, hdx, hlen, by omega, by simp only; omega, by rw [ha]; omega, by omega, fun z hz h3 h4 => ?_, by rw [hc]; omega, I.gb, I.wb, hval⟩
      have := I.cu z hz h3 h4
      rw [hcg z, if_pos (show z ≤ iAt ws i by omega)]; omega
     ·rw [if_neg (fun h => kq (eq'.1 h))] at dq
      refine ⟨a, b, ab, u, by simp only; omega, by simp only; omega, hdx, hlen, by omega, by simp only; omega, by rw [ha]; omega, by rw [hb']; omega, fun z hz h3 h4 => ?_, by rw [hc]; omega, I.gb, I.wb, hval⟩
      have := I.cu z hz h3 h4
      rw [hcg z]; omega
theorem bd_bound {ws : List Int} {P : Nat → Pt} {f lost x : Int} (hx : 0 ≤ x ∧ x ≤ 3000000000000000) (hok : spOk ws f lost = true) :
  cbEr (bdS ws P f lost x ws.length).list f = 0 ∧ cbLo (bdS ws P f lost x ws.length).list f ≤ x ∧ x ≤ cbHi (bdS ws P f lost x ws.length).list f ∧ cbHi (bdS ws P f lost x ws.length).list f - cbLo (bdS ws P f lost x ws.length).list f ≤ worst ws f lost ∧ (0 ≤ cbLo (bdS ws P f lost x ws.length).list f ∧ cbHi (bdS ws P f lost x ws.length).list f ≤ 3000000000000000) := by
 have hi := (spOk_iff ws f lost).1 hok
 have hm := sp_mk hok
 obtain ⟨_, _, _, _, I0⟩ := bd_inv (ws := ws) (P := P) (f := f) (lost := lost) (p := x) (q := x) hx ⟨Int.le_refl _, Int.le_refl _⟩ hi.1.2 ws.length (Nat.le_refl _)
 have hlist : listB (bdS ws P f lost x ws.length).list = true := by
  rw [listB_iff]
  have := I0.len
  have := I0.gb
  refine ⟨by omega, fun k hk => ?_⟩
  obtain ⟨p, hp, e1, e2⟩ := mem_of_at hk
  have := I0.val p hp; omega
 have hg := I0.gb
 have hwr := I0.wb
 have hset : setOk (bdS ws P f lost x ws.length).list f = true := (setOk_iff _ _).2 ⟨hlist, by omega, by have := I0.len; omega⟩
 have hmx := missTo_dep (bdS ws P f lost x ws.length).list x (bdS ws P f lost x ws.length).list.length
 have hmem := (mem_setL hset x).2 (by have := I0.dx; omega)
 have hc := cb_has hmem
 have hz := mem_pos hmem
 have hen := (setL_spec hset).1.ends_mem hz
 have hval0 := (setL_spec hset).1.at 0 hz
 have hval1 := (setL_spec hset).1.at ((setL (bdS ws P f lost x ws.length).list f).length - 1) (by omega)
 refine ⟨cbEr_mem hmem, hc.1, hc.2, ?_, ⟨by unfold cbLo; omega, by unfold cbHi; omega⟩⟩
 obtain ⟨a, b, ab, u, I⟩ := bd_inv (ws := ws) (P := P) (f := f) (lost := lost) (p := cbLo (bdS ws P f lost x ws.length).list f) (q := cbHi (bdS ws P f lost x ws.length).list f) hx hc hi.1.2 ws.length (Nat.le_refl _)
 have n1 := (mem_setL hset _).1 hen.1
 have n2 := (mem_setL hset _).1 hen.2
 rw [missTo_dep] at n1 n2
 have da := I.da
 have db := I.db
 have hlen := I.len
 have hsum := I.sum
 have tot := I.tot
 have ca := I.ca
 have cb := I.cb
 have cab := I.cab
 have cu := I.cu
 rw [List.take_length] at ca cb cab
 have hA : dep (bdS ws P f lost x ws.length).list (cbLo (bdS ws P f lost x ws.length).list f) (bdS ws P f lost x ws.length).list.length = dep (bdS ws P f lost x ws.length).list (iLo (setL (bdS ws P f lost x ws.length).list f) 0) (bdS ws P f lost x ws.length).list.length := rfl
 have hB : dep (bdS ws P f lost x ws.length).list (cbHi (bdS ws P f lost x ws.length).list f) (bdS ws P f lost x ws.length).list.length = dep (bdS ws P f lost x ws.length).list (iHi (setL (bdS ws P f lost x ws.length).list f) ((setL (bdS ws P f lost x ws.length).list f).length - 1)) (bdS ws P f lost x ws.length).list.length := rfl
 rw [hA] at da
 rw [hB] at db
 clear hA hB
 generalize cbLo (bdS ws P f lost x ws.length).list f = p at *
 generalize cbHi (bdS ws P f lost x ws.length).list f = q at *
 generalize (bdS ws P f lost x ws.length).list.length = ln at *
 generalize dep (bdS ws P f lost x ws.length).list _ ln = dA at *
 generalize dep (bdS ws P f lost x ws.length).list _ ln = dB at *
 have hwz := srt_bd ws hi.1.2
 generalize (bdS ws P f lost x ws.length).gone = gone at *
 generalize (bdS ws P f lost x ws.length).wrong = wrong at *
 have hu : u ≤ ws.length := by omega
 have hg1 := worst_ge hok (min ab (spK ws f lost)) (by unfold jLo; omega) (Nat.min_le_right _ _)
 refine Int.le_trans ((vJ_spec (srt ws) _ _).2.2 _ ?_ (fun h0 => ?_)) hg1
 ·have e1 := (srt_cge ws (x - p) (spK ws f lost - 1) (by omega)).2 (by omega)
  have e2 := (srt_cge ws (q - x) (spK ws f lost - 1) (by omega)).2 (by omega)
  by_cases hk : spK ws f lost ≤ ab
  ·rw [Nat.min_eq_right hk]
   have e3 := (srt_cge ws (q - p) (spK ws f lost - 1) (by omega)).2 (by omega)
   have := hwz (2 * spK ws f lost - spK ws f lost - 1)
   omega
  ·rw [Nat.min_eq_left (by omega)]
   rcases Int.le_total (x - p) (q - x) with hle | hle
   ·have hcu := cu (x - p) (.inl (Int.le_refl _)) (Int.le_refl _) hle
    rw [List.take_length] at hcu
    have e3 := (srt_cge ws (x - p) (2 * spK ws f lost - ab - 1) (by omega)).2 (by omega)
    omega
   ·have hcu := cu (q - x) (.inr (Int.le_refl _)) hle (Int.le_refl _)
    rw [List.take_length] at hcu
    have e3 := (srt_cge ws (q - x) (2 * spK ws f lost - ab - 1) (by omega)).2 (by omega)
    omega
 ·exact (srt_cge ws (q - p) (min ab (spK ws f lost) - 1) (by omega)).2 (by omega)
end Go.Proofs.YtlmcoollkmhanaaGreat
/- The examples of the chapter on width: the check that stands in every statement answers true. -/
namespace Go.Proofs.YtlmcoollkmhanaaGreat
open Go.RowKit

def encPs (c : List Pr) : List Value := c.flatMap fun p => (encP p).toList
theorem encPs_append (c d : List Pr) : encPs (c ++ d) = encPs c ++ encPs d := by simp [encPs]
theorem encPs_at (c : List Pr) : ∀ i, i < c.length → (encPs c)[i * 8]? = some (.int .i64 (pAt c i).au) ∧ (encPs c)[i * 8 + 1]? = some (.int .i64 (pAt c i).er) ∧ (encPs c)[i * 8 + 2]? = some (.int .i64 (pAt c i).co) ∧ (encPs c)[i * 8 + 3]? = some (.int .i64 (pAt c i).at_) ∧
  (encPs c)[i * 8 + 4]? = some (.int .i64 (pAt c i).ol) ∧ (encPs c)[i * 8 + 5]? = some (.int .i64 (pAt c i).oh) ∧ (encPs c)[i * 8 + 6]? = some (.int .i64 (pAt c i).bl) ∧ (encPs c)[i * 8 + 7]? = some (.int .i64 (pAt c i).bh) := by
 induction c with
 | nil => intro i h; simp at h
 | cons p c ih =>
  intro i h
  have e : encPs (p :: c) = .int .i64 p.au :: .int .i64 p.er :: .int .i64 p.co :: .int .i64 p.at_ :: .int .i64 p.ol :: .int .i64 p.oh :: .int .i64 p.bl :: .int .i64 p.bh :: encPs c := rfl
  cases i with
  | zero => rw [e]; simp [pAt]
  | succ i =>
   have h1 := ih i (by simpa using h)
   rw [e, show (i + 1) * 8 = i * 8 + 1 + 1 + 1 + 1 + 1 + 1 + 1 + 1 by omega]
   simp only [List.getElem?_cons_succ]
   simpa [pAt] using h1
def OwnPs (w : World) (base : Nat) (v : Value) (c : List Pr) : Prop := w.ownsRow base 89 8 v c.length (encPs c)
theorem OwnPs.nil (w : World) (base : Nat) : OwnPs w base (.slice none 0 0) [] := World.ownsRow_nil _ _ _ _
theorem OwnPs.app {w : World} {base : Nat} {v : Value} {c : List Pr} {p : Pr} (h : w.ownsRow base 89 8 v (c.length + 1) (encPs c ++ (encP p).toList)) : OwnPs w base v (c ++ [p]) := by
 unfold OwnPs
 rw [encPs_append, show (c ++ [p]).length = c.length + 1 by simp]
 simpa [encPs] using h
theorem OwnPs.val {w : World} {base : Nat} {v : Value} {c : List Pr} (h : OwnPs w base v c) : ∃ a cap, v = .slice a c.length cap ∧ c.length ≤ cap ∧ cap ≤ 9223372036854775807 := by
 rcases h.2 with ⟨hv, h0⟩ | ⟨g, cap, cur, hv, hg, hc, hn, hm, _⟩
 ·exact ⟨none, 0, by rw [hv, h0], by omega, by omega⟩
 ·exact ⟨_, cap, hv, hn, hm⟩
theorem OwnPs.row {w : World} {base : Nat} {v : Value} {c : List Pr} (h : OwnPs w base v c) : PrRow w v c := by
 rcases Nat.eq_zero_or_pos c.length with h0 | h0
 ·have hc : c = [] := List.eq_nil_of_length_eq_zero h0
  subst hc
  rcases h.2 with ⟨hv, _⟩ | ⟨g, cap, cur, hv, hg, hc, hn, hm, _⟩
  ·exact ⟨none, 0, hv, Nat.le_refl _, by omega, fun i hi => by simp at hi⟩
  ·exact ⟨_, cap, hv, hn, hm, fun i hi => by simp at hi⟩
 ·obtain ⟨g, cap, rfl, hb, hlt⟩ := World.ownsRow.form h h0
  have hcap : c.length ≤ cap ∧ cap ≤ maxLen := by
   rcases h.2 with ⟨hv, _⟩ | ⟨g', cap', cur, hv, hg, hc, hn, hm, _⟩
   ·simp at hv
   ·simp only [Value.slice.injEq] at hv; obtain ⟨-, -, rfl⟩ := hv; exact ⟨hn, hm⟩
  refine ⟨_, cap, rfl, hcap.1, hcap.2, fun i hi => ⟨g, 0, rfl, hlt, ?_⟩⟩
  obtain ⟨e0, e1, e2, e3, e4, e5, e6, e7⟩ := encPs_at c i hi
  rw [Nat.zero_add]
  exact ⟨(World.ownsRow.cellAt h _ (by omega)).trans e0, (World.ownsRow.cellAt h _ (by omega)).trans e1, (World.ownsRow.cellAt h _ (by omega)).trans e2, (World.ownsRow.cellAt h _ (by omega)).trans e3,
   (World.ownsRow.cellAt h _ (by omega)).trans e4, (World.ownsRow.cellAt h _ (by omega)).trans e5, (World.ownsRow.cellAt h _ (by omega)).trans e6, (World.ownsRow.cellAt h _ (by omega)).trans e7⟩
theorem infoPr : (Tryz.prog.info? 89).map (fun i => (i.zero, i.size, i.bytes)) = some (some (.agg #[.int .i64 0, .int .i64 0, .int .i64 0, .int .i64 0, .int .i64 0, .int .i64 0, .int .i64 0, .int .i64 0]), 8, 64) := by kernel_rfl
end Go.Proofs.YtlmcoollkmhanaaGreat
