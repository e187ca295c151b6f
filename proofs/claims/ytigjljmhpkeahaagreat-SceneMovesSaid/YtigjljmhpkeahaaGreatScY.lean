
/- Plain law of package scene: the worst scene, some time later. -/
import Derived.Test.YtigjljmhpkeahaaGreatScQ
namespace Go.Proofs.YtigjljmhpkeahaaGreat
open Go.RowKit

def shI (d : Int) (p : Iv) : Iv := (p.1 + d, p.2 + d)
theorem plP_sh (l : List Int) (m k : Nat) (x d : Int) (t : Nat) : plP l m k (x + d) t = shI d (plP l m k x t) := by
 unfold plP shI
 refine Prod.ext ?_ ?_ <;> (simp only; omega)
theorem plAll_sh (l : List Int) (m k : Nat) (x d : Int) : ∀ t, plAll l m k (x + d) t = shI d (plAll l m k x t)
 | 0 => rfl
 | t + 1 => by
  rw [plAll, plAll, plAll_sh l m k x d t, plP_sh]
  unfold shI
  have m1 := mn_spec (plAll l m k x t).1 (plP l m k x t).1
  have m2 := mn_spec ((plAll l m k x t).1 + d) ((plP l m k x t).1 + d)
  have m3 := mx_spec (plAll l m k x t).2 (plP l m k x t).2
  have m4 := mx_spec ((plAll l m k x t).2 + d) ((plP l m k x t).2 + d)
  refine Prod.ext ?_ ?_ <;> (simp only; omega)
theorem place_sh {l : List Int} {f lost x d : Int} (h : placeEr l f lost x = 0) (h2 : placeEr l f lost (x + d) = 0) (i : Nat) (hi : i < l.length) (hr : (i : Int) ∉ goneL l f lost) :
  ivAt (placeL l f lost (x + d)) i = shI d (ivAt (placeL l f lost x) i) := by
 obtain ⟨hok, hx, hA1, hA2, hL⟩ := place_ok h
 obtain ⟨-, -, -, -, hL2⟩ := place_ok h2
 have hsp := (spOk_iff l f lost).1 hok
 have hm := sp_mk hok
 have a1 := lie_at (l := l) (m := spM l f lost) (k := spK l f lost) (x := x) f.toNat (by omega)
 have a2 := lie_at (l := l) (m := spM l f lost) (k := spK l f lost) (x := x + d) f.toNat (by omega)
 obtain ⟨s, hs, rfl⟩ := ordL_surj l hi
 have hr2 := role_at hok s hs
 have h3 : roleP (pickL l f lost) (goneL l f lost) (nAt (ordL l) s : Int) ≠ 2 := by
  unfold roleP
  rw [if_neg hr]
  split <;> omega
 rw [hr2] at h3
 rw [hL, hL2]
 by_cases c1 : s < spM l f lost
 ·rw [a1.1 s c1, a2.1 s c1, plP_sh]
 ·rw [if_neg c1] at h3
  by_cases c2 : s < spM l f lost + f.toNat
  ·have b1 := a1.2 (s - spM l f lost) (by omega)
   have b2 := a2.2 (s - spM l f lost) (by omega)
   rw [show spM l f lost + (s - spM l f lost) = s by omega] at b1 b2
   rw [b1, b2, plAll_sh]
  ·rw [if_neg c2] at h3; omega
theorem attTo_sh {A A2 : List Iv} {P G : List Int} {d : Int} : ∀ n, (∀ i : Nat, i < n → roleP P G i < 2 → ivAt A2 i = shI d (ivAt A i)) → attTo A2 P G n = (attTo A P G n).map (shI d)
 | 0, _ => rfl
 | n + 1, h => by
  have ih := attTo_sh n fun i hi => h i (by omega)
  rw [attTo, attTo]
  by_cases c : roleP P G n < 2
  ·rw [if_pos c, if_pos c, ih, h n (by omega) c, List.map_append]; rfl
  ·rw [if_neg c, if_neg c, ih]
theorem missTo_sh (L : List Iv) (d x : Int) : ∀ n, n ≤ L.length → missTo (L.map (shI d)) (x + d) n = missTo L x n
 | 0, _ => rfl
 | n + 1, h => by
  have ih := missTo_sh L d x n (by omega)
  rw [missTo, missTo, ih]
  have e1 : iLo (L.map (shI d)) n = iLo L n + d := by rw [lo_at _ _ (by rw [List.length_map]; omega), lo_at _ _ (by omega), List.getElem_map]; rfl
  have e2 : iHi (L.map (shI d)) n = iHi L n + d := by rw [hi_at _ _ (by rw [List.length_map]; omega), hi_at _ _ (by omega), List.getElem_map]; rfl
  have e3 : hasB (iLo L n + d) (iHi L n + d) (x + d) = hasB (iLo L n) (iHi L n) x := by
   unfold hasB
   rw [decide_eq_decide]
   omega
  rw [e1, e2, e3]
theorem cb_sh {L : List Iv} {f d : Int} (h : cbEr L f = 0) (h2 : cbEr (L.map (shI d)) f = 0) : cbLo (L.map (shI d)) f = cbLo L f + d ∧ cbHi (L.map (shI d)) f = cbHi L f + d := by
 obtain ⟨s1, z1⟩ := cbEr_zero h
 obtain ⟨s2, z2⟩ := cbEr_zero h2
 have n1 := (setL_spec s1).1.ends_mem z1
 have n2 := (setL_spec s2).1.ends_mem z2
 have up : ∀ t, mem (setL L f) t → mem (setL (L.map (shI d)) f) (t + d) := fun t ht => by
  rw [mem_setL s2, List.length_map, missTo_sh L d t _ (Nat.le_refl _)]
  exact (mem_setL s1 _).1 ht
 have dn : ∀ t, mem (setL (L.map (shI d)) f) t → mem (setL L f) (t - d) := fun t ht => by
  rw [mem_setL s1, ← missTo_sh L d (t - d) _ (Nat.le_refl _), show t - d + d = t by omega]
  have := (mem_setL s2 _).1 ht
  rwa [List.length_map] at this
 have a1 := cb_has (up _ n1.1)
 have a2 := cb_has (up _ n1.2)
 have a3 := cb_has (dn _ n2.1)
 have a4 := cb_has (dn _ n2.2)
 unfold cbLo cbHi at *
 omega
def mvA (d : Int) (a : An) : An := if a.ls = true then a else ⟨a.au, a.ls, a.ou, a.bk, a.lo + d, a.hi + d⟩
theorem ws_move {s : Si} {use : List Int} {ev t d : Int} (h : wsEr s use ev t = 0) (h2 : wsEr s use ev (t + d) = 0) {j : Nat} (hj : j < use.length) :
  anAt (wsL s use (t + d)) j = mvA d (anAt (wsL s use t) j) := by
 obtain ⟨-, -, hp, -⟩ := ws_ok h
 obtain ⟨-, -, hp2, -⟩ := ws_ok h2
 have hwl := wdL_length s.ps use
 have e1 : anAt (wsL s use t) j = wsG s.ps use (pickL (wdL s.ps use) s.f s.lo) (goneL (wdL s.ps use) s.f s.lo) (placeL (wdL s.ps use) s.f s.lo t) t j := wsT_at _ _ _ _ _ _ _ _ hj
 have e2 : anAt (wsL s use (t + d)) j = wsG s.ps use (pickL (wdL s.ps use) s.f s.lo) (goneL (wdL s.ps use) s.f s.lo) (placeL (wdL s.ps use) s.f s.lo (t + d)) (t + d) j := wsT_at _ _ _ _ _ _ _ _ hj
 rw [e1, e2]
 unfold wsG
 by_cases hg : (j : Int) ∈ goneL (wdL s.ps use) s.f s.lo
 ·rw [if_pos hg, if_pos hg]; rfl
 ·rw [if_neg hg, if_neg hg, place_sh hp hp2 j (by omega) hg]
  unfold mvA shI
  simp only [Bool.false_eq_true, if_false]
  rw [show (ivAt (placeL (wdL s.ps use) s.f s.lo t) j).1 + d + (pu s.ps use j).oh - (t + d) = (ivAt (placeL (wdL s.ps use) s.f s.lo t) j).1 + (pu s.ps use j).oh - t by omega,
   show (ivAt (placeL (wdL s.ps use) s.f s.lo t) j).1 + d + (pu s.ps use j).oh = (ivAt (placeL (wdL s.ps use) s.f s.lo t) j).1 + (pu s.ps use j).oh + d by omega,
   show (ivAt (placeL (wdL s.ps use) s.f s.lo t) j).2 + d + (pu s.ps use j).ol = (ivAt (placeL (wdL s.ps use) s.f s.lo t) j).2 + (pu s.ps use j).ol + d by omega]
def mvL (d : Int) (l : List An) : Nat → List An
 | 0 => l
 | k + 1 => (mvL d l k).set k (mvA d (anAt l k))
theorem mvL_length (d : Int) (l : List An) : ∀ k, (mvL d l k).length = l.length
 | 0 => rfl
 | k + 1 => by rw [mvL, List.length_set, mvL_length d l k]
theorem anAt_set (l : List An) (k j : Nat) (a : An) (hk : k < l.length) : anAt (l.set k a) j = if j = k then a else anAt l j := by
 unfold anAt
 rw [List.getD_eq_getElem?_getD, List.getElem?_set]
 by_cases h : k = j
 ·subst h; rw [if_pos rfl, if_pos rfl, if_pos hk]; rfl
 ·rw [if_neg h, if_neg (fun h' => h h'.symm), List.getD_eq_getElem?_getD]
theorem mvL_at (d : Int) (l : List An) : ∀ k, k ≤ l.length → ∀ j, anAt (mvL d l k) j = if j < k then mvA d (anAt l j) else anAt l j
 | 0, _, j => by rw [mvL, if_neg (by omega)]
 | k + 1, h, j => by
  rw [mvL, anAt_set _ _ _ _ (by rw [mvL_length]; omega), mvL_at d l k (by omega) j]
  by_cases h1 : j = k
  ·subst h1; rw [if_pos rfl, if_pos (by omega)]
  ·rw [if_neg h1]
   by_cases h2 : j < k
   ·rw [if_pos h2, if_pos (by omega)]
   ·rw [if_neg h2, if_neg (by omega)]
theorem ws_moved {s : Si} {use : List Int} {ev t d : Int} (h : wsEr s use ev t = 0) (h2 : wsEr s use ev (t + d) = 0) : mvL d (wsL s use t) use.length = wsL s use (t + d) := by
 have n1 := wsL_length s use t
 have n2 := wsL_length s use (t + d)
 refine ans_ext (by rw [mvL_length, n1, n2]) fun j hj => ?_
 rw [mvL_length, n1] at hj
 rw [mvL_at d _ _ (by omega) j, if_pos hj, ws_move h h2 hj]
theorem sc_moves {s : Si} {use : List Int} {ev t d : Int} (h : wsEr s use ev t = 0) (h2 : wsEr s use ev (t + d) = 0) :
  pyHi s (wsS s use ev (t + d)) = 3000000000000000 ∨ (pyLo s (wsS s use ev (t + d)) = pyLo s (wsS s use ev t) + d ∧ pyHi s (wsS s use ev (t + d)) = pyHi s (wsS s use ev t) + d) ∨ d < 0 := by
 obtain ⟨hr, -, hp, -⟩ := ws_ok h
 obtain ⟨-, -, hp2, -⟩ := ws_ok h2
 have hwl := wdL_length s.ps use
 obtain ⟨-, -, -, ⟨L, hL, l1, l2⟩, l3⟩ := ws_width h
 obtain ⟨-, -, -, ⟨M, hM, m1, m2⟩, m3⟩ := ws_width h2
 have hA := (att_law hp)
 have hB := (att_law hp2)
 simp only [hwl] at hA hB
 rw [← hL] at hA
 rw [← hM] at hB
 have e : M = L.map (shI d) := by
  rw [hM, hL]
  refine attTo_sh _ fun i hi hr => place_sh hp hp2 i (by omega) fun hg => ?_
  unfold roleP at hr
  rw [if_pos hg] at hr
  omega
 have hc := hB.2.1
 rw [e] at hc m1 m2
 obtain ⟨c1, c2⟩ := cb_sh hA.2.1 hc
 rw [c1] at m1
 rw [c2] at m2
 have q1 := mn_spec (cbLo L s.f + d + elLo s.r (ev + s.tm)) 3000000000000000
 have q2 := mn_spec (cbHi L s.f + d + elHi s.r (ev + s.tm)) 3000000000000000
 have q3 := mn_spec (cbLo L s.f + elLo s.r (ev + s.tm)) 3000000000000000
 have q4 := mn_spec (cbHi L s.f + elHi s.r (ev + s.tm)) 3000000000000000
 rcases Int.lt_or_le d 0 with c | c
 ·exact .inr (.inr c)
 ·by_cases c3 : pyHi s (wsS s use ev (t + d)) = 3000000000000000
  ·exact .inl c3
  ·exact .inr (.inl (by omega))
end Go.Proofs.YtigjljmhpkeahaaGreat
