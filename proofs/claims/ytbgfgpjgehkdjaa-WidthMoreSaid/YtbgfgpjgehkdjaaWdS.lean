/- Plain mathematics: with greater numbers a width is not less. -/
import Derived.Test.YtbgfgpjgehkdjaaWdQ
namespace Go.Proofs.Ytbgfgpjgehkdjaa
open Go.RowKit

theorem spOk_less {l : List Int} {f lo f' lo' : Int} (h : spOk l f' lo' = true) (hf : 0 ≤ f ∧ f ≤ f') (hl : 0 ≤ lo ∧ lo ≤ lo') : spOk l f lo = true := by
  rw [spOk_iff] at *
  exact ⟨h.1, by omega, by omega, by omega⟩
theorem worst_fs {l : List Int} {f lo : Int} : ∀ d : Nat, 0 ≤ f → spOk l (f + d) lo = true → worst l f lo ≤ worst l (f + d) lo
  | 0, _, _ => by rw [show f + ((0 : Nat) : Int) = f by omega]; exact Int.le_refl _
  | d + 1, h0, h => by
    have hlo := (spOk_iff l _ lo).1 h
    have h1 : spOk l (f + d) lo = true := spOk_less h (by omega) (by omega)
    have h2 := worst_fs d h0 h1
    have e : f + ((d + 1 : Nat) : Int) = f + d + 1 := by omega
    rw [e] at h ⊢
    have := worst_f h1 h
    omega
theorem worst_ls {l : List Int} {f lo : Int} : ∀ d : Nat, 0 ≤ lo → spOk l f (lo + d) = true → worst l f lo ≤ worst l f (lo + d)
  | 0, _, _ => by rw [show lo + ((0 : Nat) : Int) = lo by omega]; exact Int.le_refl _
  | d + 1, h0, h => by
    have hf := (spOk_iff l f _).1 h
    have h1 : spOk l f (lo + d) = true := spOk_less h (by omega) (by omega)
    have h2 := worst_ls d h0 h1
    have e : lo + ((d + 1 : Nat) : Int) = lo + d + 1 := by omega
    rw [e] at h ⊢
    have := worst_lost h1 h
    omega
theorem worst_more2 {l l' : List Int} {f lo f' lo' : Int} (hl : l.length = l'.length) (hp : ∀ i, i < l.length → iAt l i ≤ iAt l' i) (h1 : spOk l f lo = true) (h2 : spOk l' f' lo' = true) (hf : f ≤ f') (hlo : lo ≤ lo') : worst l f lo ≤ worst l' f' lo' := by
  have g1 := (spOk_iff _ _ _).1 h1
  have k1 : spOk l' f lo = true := spOk_less h2 (by omega) (by omega)
  have k2 : spOk l' f' lo = true := spOk_less h2 (by omega) (by omega)
  have a1 := worst_mono hl hp h1 k1
  have a2 : worst l' f lo ≤ worst l' f' lo := by
    have := worst_fs (l := l') (f := f) (lo := lo) (f' - f).toNat (by omega) (by rw [show f + ((f' - f).toNat : Int) = f' by omega]; exact k2)
    rwa [show f + ((f' - f).toNat : Int) = f' by omega] at this
  have a3 : worst l' f' lo ≤ worst l' f' lo' := by
    have := worst_ls (l := l') (f := f') (lo := lo) (lo' - lo).toNat (by omega) (by rw [show lo + ((lo' - lo).toNat : Int) = lo' by omega]; exact h2)
    rwa [show lo + ((lo' - lo).toNat : Int) = lo' by omega] at this
  omega
/-- The widths of two lists of peers, one by one. -/
def Wider (ps qs : List Pr) : Prop := ps.length = qs.length ∧ ∀ j, j < ps.length → pWd (pAt ps j) ≤ pWd (pAt qs j)
theorem Wider.refl (ps : List Pr) : Wider ps ps := ⟨rfl, fun _ _ => Int.le_refl _⟩
theorem more_law {s t : Si} {use : List Int} {ev ev' : Int} (h1 : rgB s use ev = true) (h2 : rgB t use ev' = true) (hr : s.r ≤ t.r) (hf : s.f ≤ t.f) (hl : s.lo ≤ t.lo) (he : ev ≤ ev') (ht : s.tm = t.tm) (hw : Wider s.ps t.ps) : wdt s use ev ≤ wdt t use ev' ∧ 0 ≤ wdt s use ev := by
  have e1 : wdt s use ev = worst (wdL s.ps use) s.f s.lo + grw s.r (ev + s.tm) := by unfold wdt; rw [if_pos h1]
  have e2 : wdt t use ev' = worst (wdL t.ps use) t.f t.lo + grw t.r (ev' + t.tm) := by unfold wdt; rw [if_pos h2]
  have g1 := rg_spOk h1
  have g2 := rg_spOk h2
  have k1 := rg_elOk h1
  have k2 := rg_elOk h2
  have hin := ((rgB_iff _ _ _).1 h1).2.2.1
  have a1 := worst_more2 (l := wdL s.ps use) (l' := wdL t.ps use) (by rw [wdL_length, wdL_length]) (fun i hi => by
    rw [wdL_length] at hi
    have := hin i hi
    rw [wdL_at _ _ _ hi, wdL_at _ _ _ hi]
    exact hw.2 _ (by omega)) g1 g2 hf hl
  have a2 := grw_mono k1 k2 hr (by omega)
  have a3 := grw_bd k1
  have a4 : 0 ≤ worst (wdL s.ps use) s.f s.lo := by
    rw [worst_ok g1]
    have hm := sp_mk g1
    exact (bestP_bd (srt_bd _ ((spOk_iff _ _ _).1 g1).1.2) (spM _ s.f s.lo) (spK _ s.f s.lo) hm.2.2.1 hm.2.2.2.1).2.2.1
  omega
/-- A list of peers, one of them with a greater error. -/
def erL (ps : List Pr) (q : Nat) (x : Int) : List Pr := ps.set q ⟨(pAt ps q).au, (pAt ps q).er + x, (pAt ps q).co, (pAt ps q).at_, (pAt ps q).ol, (pAt ps q).oh, (pAt ps q).bl, (pAt ps q).bh⟩
theorem erL_length (ps : List Pr) (q : Nat) (x : Int) : (erL ps q x).length = ps.length := by simp [erL]
theorem erL_wider (ps : List Pr) (q : Nat) (x : Int) (_hq : q < ps.length) (hx : 0 ≤ x) : Wider ps (erL ps q x) := by
  refine ⟨(erL_length ps q x).symm, fun j hj => ?_⟩
  rw [pAt_lt (erL ps q x) j (by rw [erL_length]; exact hj)]
  unfold erL
  rw [List.getElem_set]
  split
  · rename_i e; subst e; unfold pWd; simp only; omega
  · rw [← pAt_lt ps j hj]; exact Int.le_refl _
end Go.Proofs.Ytbgfgpjgehkdjaa
