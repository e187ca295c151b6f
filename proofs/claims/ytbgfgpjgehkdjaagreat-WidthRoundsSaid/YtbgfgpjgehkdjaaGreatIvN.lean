/- Plain mathematics of the sweep: the edges of intervals, joined by time, and what the cover's loop has when some of them have come. -/
import Derived.Test.YtbgfgpjgehkdjaaGreatIvM
namespace Go.Proofs.YtbgfgpjgehkdjaaGreat
open Go.RowKit

abbrev Ed := Int × Int
def sumLe : List Ed → Int → Int
  | [], _ => 0
  | e :: r, t => (if e.1 ≤ t then e.2 else 0) + sumLe r t
def tot : List Ed → Int
  | [] => 0
  | e :: r => e.2 + tot r
theorem sumLe_append (a b : List Ed) (t : Int) : sumLe (a ++ b) t = sumLe a t + sumLe b t := by
  induction a with
  | nil => simp [sumLe]
  | cons e r ih => simp only [List.cons_append, sumLe, ih]; omega
theorem tot_append (a b : List Ed) : tot (a ++ b) = tot a + tot b := by
  induction a with
  | nil => simp [tot]
  | cons e r ih => simp only [List.cons_append, tot, ih]; omega
theorem sumLe_perm {a b : List Ed} (h : a.Perm b) (t : Int) : sumLe a t = sumLe b t := by
  induction h with
  | nil => rfl
  | cons x _ ih => simp only [sumLe, ih]
  | swap x y l => simp only [sumLe]; omega
  | trans _ _ ih1 ih2 => exact ih1.trans ih2
theorem sumLe_all (a : List Ed) (t : Int) (h : ∀ e, e ∈ a → e.1 ≤ t) : sumLe a t = tot a := by
  induction a with
  | nil => rfl
  | cons e r ih => simp only [sumLe, tot, if_pos (h e List.mem_cons_self), ih fun x hx => h x (List.mem_cons_of_mem _ hx)]
/-- The edges of intervals, as the program lists them. -/
def edg : List Iv → List Ed
  | [] => []
  | p :: r => (p.1, 1) :: (p.2 + 1, -1) :: edg r
theorem edg_append (a b : List Iv) : edg (a ++ b) = edg a ++ edg b := by
  induction a with
  | nil => rfl
  | cons p r ih => simp [edg, ih]
theorem edg_length (a : List Iv) : (edg a).length = 2 * a.length := by
  induction a with
  | nil => rfl
  | cons p r ih => simp only [edg, List.length_cons, ih]; omega
theorem take_snoc_iv (l : List Iv) (k : Nat) (h : k < l.length) : l.take (k + 1) = l.take k ++ [(iLo l k, iHi l k)] := by
  have e : l[k] = (iLo l k, iHi l k) := by simp [iLo, iHi, List.getD_eq_getElem?_getD, List.getElem?_eq_getElem h]
  rw [List.take_succ_eq_append_getElem h, e]
theorem edg_snoc (l : List Iv) (k : Nat) (h : k < l.length) : edg (l.take (k + 1)) = edg (l.take k) ++ [(iLo l k, 1), (iHi l k + 1, -1)] := by
  rw [take_snoc_iv l k h, edg_append]; rfl
theorem sumLe_edg (l : List Iv) (h : ∀ k, k < l.length → iLo l k ≤ iHi l k) (t : Int) : ∀ n, n ≤ l.length → sumLe (edg (l.take n)) t = dep l t n := by
  intro n
  induction n with
  | zero => intro _; rfl
  | succ n ih =>
    intro hn
    rw [edg_snoc l n (by omega), sumLe_append, ih (by omega), dep]
    have := h n (by omega)
    simp only [sumLe, hasB, decide_eq_true_eq]
    split <;> split <;> split <;> omega
theorem edg_mem (l : List Iv) (h : ∀ k, k < l.length → 0 ≤ iLo l k ∧ iLo l k ≤ iHi l k ∧ iHi l k ≤ 3000000000000000) : ∀ n, n ≤ l.length → ∀ e, e ∈ edg (l.take n) → 0 ≤ e.1 ∧ e.1 ≤ 3000000000000001 ∧ -1 ≤ e.2 ∧ e.2 ≤ 1 := by
  intro n
  induction n with
  | zero => intro _ e he; cases he
  | succ n ih =>
    intro hn e he
    rw [edg_snoc l n (by omega)] at he
    have := h n (by omega)
    rcases List.mem_append.1 he with h1 | h1
    · exact ih (by omega) e h1
    · simp only [List.mem_cons, List.not_mem_nil, or_false] at h1
      rcases h1 with rfl | rfl <;> simp only <;> omega
/-- Edges of one time joined. -/
def grp : List Ed → List Ed
  | [] => []
  | e :: r => match grp r with
    | [] => [e]
    | f :: s => if f.1 = e.1 then (e.1, e.2 + f.2) :: s else e :: f :: s
theorem grp_head (e : Ed) (r : List Ed) : ∃ b s, grp (e :: r) = (e.1, b) :: s := by
  simp only [grp]
  split
  · exact ⟨e.2, [], rfl⟩
  · split
    · exact ⟨_, _, rfl⟩
    · exact ⟨e.2, _, rfl⟩
theorem grp_join (a b c : Int) (r : List Ed) : grp ((a, b) :: (a, c) :: r) = grp ((a, b + c) :: r) := by
  simp only [grp]
  cases h : grp r with
  | nil => simp
  | cons f s =>
    by_cases e : f.1 = a
    · simp [e, Int.add_assoc]
    · simp [e]
theorem grp_apart (e f : Ed) (r : List Ed) (h : f.1 ≠ e.1) : grp (e :: f :: r) = e :: grp (f :: r) := by
  obtain ⟨b, s, hs⟩ := grp_head f r
  rw [grp, hs]
  simp [h]
theorem drop_at (E : List Ed) (k : Nat) (h : k < E.length) : E.drop k = (iLo E k, iHi E k) :: E.drop (k + 1) := by
  rw [List.drop_eq_getElem_cons h]
  have e : E[k] = (iLo E k, iHi E k) := by simp [iLo, iHi, List.getD_eq_getElem?_getD, List.getElem?_eq_getElem h]
  rw [e]
theorem at_mem (E : List Ed) (k : Nat) (h : k < E.length) : (iLo E k, iHi E k) ∈ E := by
  have e : E[k] = (iLo E k, iHi E k) := by simp [iLo, iHi, List.getD_eq_getElem?_getD, List.getElem?_eq_getElem h]
  rw [← e]; exact List.getElem_mem h
theorem grp_one (e : Ed) : grp [e] = [e] := rfl
theorem sumLe_grp (t : Int) : ∀ E, sumLe (grp E) t = sumLe E t
  | [] => rfl
  | e :: r => by
    have ih := sumLe_grp t r
    simp only [grp]
    split
    · rename_i h; rw [h] at ih; simp only [sumLe] at *; omega
    · rename_i f s h
      rw [h] at ih
      split
      · rename_i h2; simp only [sumLe, h2] at *; split at * <;> omega
      · simp only [sumLe] at *; omega
theorem grp_length : ∀ E : List Ed, (grp E).length ≤ E.length
  | [] => Nat.le_refl _
  | e :: r => by
    have ih := grp_length r
    simp only [grp]
    split
    · simp
    · rename_i f s h
      rw [h] at ih
      split <;> simp only [List.length_cons] at * <;> omega
theorem grp_mem (E : List Ed) (h : ∀ e, e ∈ E → 0 ≤ e.1 ∧ e.1 ≤ 3000000000000001 ∧ -1 ≤ e.2 ∧ e.2 ≤ 1) : ∀ g, g ∈ grp E → 0 ≤ g.1 ∧ g.1 ≤ 3000000000000001 ∧ -(E.length : Int) ≤ g.2 ∧ g.2 ≤ E.length := by
  induction E with
  | nil => intro g hg; cases hg
  | cons e r ih =>
    have ih := ih fun x hx => h x (List.mem_cons_of_mem _ hx)
    have he := h e List.mem_cons_self
    intro g hg
    simp only [grp] at hg
    simp only [List.length_cons]
    split at hg
    · rw [List.mem_singleton] at hg; subst hg; omega
    · rename_i f s hs
      rw [hs] at ih
      have hf := ih f List.mem_cons_self
      split at hg
      · rcases List.mem_cons.1 hg with rfl | hg
        · simp only; omega
        · have := ih g (List.mem_cons_of_mem _ hg); omega
      · rcases List.mem_cons.1 hg with rfl | hg
        · omega
        · have := ih g hg; omega
theorem grp_sorted (E : List Ed) (h : E.Pairwise fun a b => a.1 ≤ b.1) : (grp E).Pairwise fun a b => a.1 < b.1 := by
  induction E with
  | nil => exact List.Pairwise.nil
  | cons e r ih =>
    have h1 := List.pairwise_cons.1 h
    have ih := ih h1.2
    -- every time of the joined rest is a time of the rest
    have hm : ∀ (r : List Ed) g, g ∈ grp r → ∃ x, x ∈ r ∧ x.1 = g.1 := by
      intro r
      induction r with
      | nil => intro g hg; cases hg
      | cons y z ih =>
        intro g hg
        simp only [grp] at hg
        split at hg
        · rw [List.mem_singleton] at hg; exact ⟨y, List.mem_cons_self, by rw [hg]⟩
        · rename_i f s hs
          rw [hs] at ih
          split at hg
          · rcases List.mem_cons.1 hg with rfl | hg
            · exact ⟨y, List.mem_cons_self, rfl⟩
            · obtain ⟨x, hx, hx2⟩ := ih g (List.mem_cons_of_mem _ hg)
              exact ⟨x, List.mem_cons_of_mem _ hx, hx2⟩
          · rcases List.mem_cons.1 hg with rfl | hg
            · exact ⟨_, List.mem_cons_self, rfl⟩
            · obtain ⟨x, hx, hx2⟩ := ih g hg
              exact ⟨x, List.mem_cons_of_mem _ hx, hx2⟩
    have hm := hm r
    simp only [grp]
    split
    · exact List.pairwise_singleton _ _
    · rename_i f s hs
      rw [hs] at ih hm
      have h2 := List.pairwise_cons.1 ih
      obtain ⟨xf, hxf, exf⟩ := hm f List.mem_cons_self
      have h3 := h1.1 xf hxf
      split
      · rename_i h4
        exact List.pairwise_cons.2 ⟨fun b hb => by have := h2.1 b hb; simp only; omega, h2.2⟩
      · rename_i h4
        refine List.pairwise_cons.2 ⟨fun b hb => ?_, ih⟩
        rcases List.mem_cons.1 hb with rfl | hb
        · omega
        · have := h2.1 b hb; omega
theorem tot_bd (B : Int) (hB : 0 ≤ B) (hB2 : B ≤ 1000) : ∀ E : List Ed, E.length ≤ 1000 → (∀ e, e ∈ E → -B ≤ e.2 ∧ e.2 ≤ B) → -(1000 * (E.length : Int)) ≤ tot E ∧ tot E ≤ 1000 * E.length
  | [], _, _ => by simp [tot]
  | e :: r, hl, h => by
    have ih := tot_bd B hB hB2 r (by simp at hl; omega) fun x hx => h x (List.mem_cons_of_mem _ hx)
    have := h e List.mem_cons_self
    simp only [tot, List.length_cons]
    omega

/-- What the cover's loop has when the edges pre have come. -/
def Run (need : Int) (pre : List Ed) (c : List Iv) : Prop :=
  ∃ c0 : List Iv, Sep c0 ∧ c.length ≤ pre.length ∧ (∀ p, p ∈ c0 → ∃ e, e ∈ pre ∧ p.2 + 1 ≤ e.1) ∧
    ((tot pre < need ∧ c = c0 ∧ ∀ t, mem c0 t ↔ need ≤ sumLe pre t) ∨
     (need ≤ tot pre ∧ ∃ T, c = c0 ++ [(T, 0)] ∧ 0 ≤ T ∧ (∃ e, e ∈ pre ∧ T ≤ e.1) ∧ (∀ p, p ∈ c0 → p.2 + 1 < T) ∧ ∀ t, (mem c0 t ∨ T ≤ t) ↔ need ≤ sumLe pre t))
theorem Run.start {need : Int} (hn : 1 ≤ need) : Run need [] [] :=
  ⟨[], ⟨List.Pairwise.nil, fun p hp => (by cases hp)⟩, Nat.le_refl _, fun p hp => (by cases hp), .inl ⟨by simp [tot]; omega, rfl, fun t => ⟨fun h => absurd h mem_nil, fun h => (by simp [sumLe] at h; omega)⟩⟩⟩
section
variable {need : Int} {pre : List Ed} {c : List Iv} {e : Ed}
theorem sumLe_snoc (pre : List Ed) (e : Ed) (t : Int) : sumLe (pre ++ [e]) t = sumLe pre t + if e.1 ≤ t then e.2 else 0 := by
  rw [sumLe_append]; simp [sumLe]
theorem tot_snoc (pre : List Ed) (e : Ed) : tot (pre ++ [e]) = tot pre + e.2 := by rw [tot_append]; simp [tot]
/-- No crossing. -/
theorem Run.same (h : Run need pre c) (hlt : ∀ x, x ∈ pre → x.1 < e.1) (hs : need ≤ tot pre ↔ need ≤ tot pre + e.2) : Run need (pre ++ [e]) c := by
  obtain ⟨c0, h1, h2, h3, h4⟩ := h
  refine ⟨c0, h1, by simp; omega, fun p hp => ?_, ?_⟩
  · obtain ⟨x, hx, hx2⟩ := h3 p hp; exact ⟨x, by simp [hx], hx2⟩
  · have hall : ∀ t, e.1 ≤ t → sumLe pre t = tot pre := fun t ht => sumLe_all pre t fun x hx => by have := hlt x hx; omega
    rcases h4 with ⟨h5, h6, h7⟩ | ⟨h5, T, h6, h7, h8, h9, h10⟩
    · refine .inl ⟨by rw [tot_snoc]; omega, h6, fun t => (h7 t).trans ?_⟩
      rw [sumLe_snoc]
      split
      · rw [hall t ‹_›]; omega
      · omega
    · obtain ⟨x, hx, hx2⟩ := h8
      refine .inr ⟨by rw [tot_snoc]; omega, T, h6, h7, ⟨x, by simp [hx], hx2⟩, h9, fun t => (h10 t).trans ?_⟩
      rw [sumLe_snoc]
      split
      · rw [hall t ‹_›]; omega
      · omega
/-- Up. -/
theorem Run.up (h : Run need pre c) (hlt : ∀ x, x ∈ pre → x.1 < e.1) (h0 : 0 ≤ e.1) (hb : tot pre < need) (hn : need ≤ tot pre + e.2) : Run need (pre ++ [e]) (c ++ [(e.1, 0)]) := by
  obtain ⟨c0, h1, h2, h3, h4⟩ := h
  have hall : ∀ t, e.1 ≤ t → sumLe pre t = tot pre := fun t ht => sumLe_all pre t fun x hx => by have := hlt x hx; omega
  rcases h4 with ⟨h5, rfl, h7⟩ | ⟨h5, _⟩
  · refine ⟨c, h1, by simp; omega, fun p hp => ?_, .inr ⟨by rw [tot_snoc]; omega, e.1, rfl, h0, ⟨e, by simp, Int.le_refl _⟩, fun p hp => ?_, fun t => ?_⟩⟩
    · obtain ⟨x, hx, hx2⟩ := h3 p hp; exact ⟨x, by simp [hx], hx2⟩
    · obtain ⟨x, hx, hx2⟩ := h3 p hp; have := hlt x hx; omega
    · rw [sumLe_snoc]
      split
      · rw [hall t ‹_›]
        exact ⟨fun _ => by omega, fun _ => .inr ‹_›⟩
      · rw [h7 t]; omega
  · omega
/-- Down. -/
theorem Run.down (h : Run need pre c) (hlt : ∀ x, x ∈ pre → x.1 < e.1) (h0 : e.1 ≤ 3000000000000001) (hb : need ≤ tot pre) (hn : tot pre + e.2 < need) : ∃ d p, c = d ++ [p] ∧ Run need (pre ++ [e]) (d ++ [(p.1, e.1 - 1)]) := by
  obtain ⟨c0, h1, h2, h3, h4⟩ := h
  have hall : ∀ t, e.1 ≤ t → sumLe pre t = tot pre := fun t ht => sumLe_all pre t fun x hx => by have := hlt x hx; omega
  rcases h4 with ⟨h5, _⟩ | ⟨h5, T, rfl, h7, ⟨x, hx, hx2⟩, h9, h10⟩
  · omega
  · have hTe := hlt x hx
    refine ⟨c0, (T, 0), rfl, c0 ++ [(T, e.1 - 1)], ⟨?_, ?_⟩, by simp at *; omega, ?_, .inl ⟨by rw [tot_snoc]; omega, rfl, fun t => ?_⟩⟩
    · rw [List.pairwise_append]
      exact ⟨h1.1, List.pairwise_singleton _ _, fun p hp q hq => by rw [List.mem_singleton] at hq; subst hq; exact h9 p hp⟩
    · intro p hp
      rcases List.mem_append.1 hp with h | h
      · exact h1.2 p h
      · rw [List.mem_singleton] at h; subst h; simp only; omega
    · intro p hp
      rcases List.mem_append.1 hp with h | h
      · obtain ⟨y, hy, hy2⟩ := h3 p h; exact ⟨y, by simp [hy], hy2⟩
      · rw [List.mem_singleton] at h; subst h; exact ⟨e, by simp, by simp only; omega⟩
    · have h11 := h10 t
      rw [mem_append, mem_cons, sumLe_snoc]
      simp only
      split
      · rw [hall t ‹_›]
        constructor
        · rintro (h | h | h)
          · obtain ⟨p, hp, hp2⟩ := h; have := h9 p hp; omega
          · omega
          · exact absurd h mem_nil
        · intro h; omega
      · constructor
        · rintro (h | h | h)
          · have := h11.1 (.inl h); omega
          · have := h11.1 (.inr h.1); omega
          · exact absurd h mem_nil
        · intro h
          rcases h11.2 (by omega) with h | h
          · exact .inl h
          · exact .inr (.inl ⟨h, by omega⟩)
end
/-- What the loop does, whatever comes. -/
def swStep (need : Int) (s : Int × List Iv) (e : Ed) : Int × List Iv :=
  (s.1 + e.2, if need ≤ s.1 + e.2 ∧ ¬ need ≤ s.1 then s.2 ++ [(e.1, 0)] else if need ≤ s.1 ∧ ¬ need ≤ s.1 + e.2 then s.2.dropLast ++ [((s.2.getLastD (0, 0)).1, e.1 - 1)] else s.2)
def sweep (need : Int) (pre : List Ed) : Int × List Iv := pre.foldl (swStep need) (0, [])
theorem sweep_snoc (need : Int) (pre : List Ed) (e : Ed) : sweep need (pre ++ [e]) = swStep need (sweep need pre) e := by simp [sweep]
/-- Induction from the end. -/
theorem snoc_induction {α : Type} {P : List α → Prop} (h0 : P []) (h1 : ∀ l x, P l → P (l ++ [x])) (l : List α) : P l := by
  have key : ∀ n (l : List α), l.length = n → P l := by
    intro n
    induction n with
    | zero => intro l h; rw [List.eq_nil_of_length_eq_zero h]; exact h0
    | succ n ih =>
      intro l h
      rcases List.eq_nil_or_concat l with h2 | ⟨d, x, h2⟩
      · subst h2; exact h0
      · have h3 : l = d ++ [x] := by rw [h2]; simp
        subst h3
        exact h1 d x (ih d (by simp at h; omega))
  exact key _ l rfl
theorem sweep_tot (need : Int) (pre : List Ed) : (sweep need pre).1 = tot pre := by
  refine snoc_induction (P := fun pre => (sweep need pre).1 = tot pre) rfl (fun l x ih => ?_) pre
  rw [sweep_snoc, tot_snoc]; simp only [swStep, ih]
theorem sweep_safe (need : Int) (hn : 1 ≤ need) (pre : List Ed) : (need ≤ (sweep need pre).1 → (sweep need pre).2 ≠ []) ∧ (sweep need pre).2.length ≤ pre.length := by
  refine snoc_induction (P := fun pre => (need ≤ (sweep need pre).1 → (sweep need pre).2 ≠ []) ∧ (sweep need pre).2.length ≤ pre.length) ⟨fun h => by simp [sweep] at h; omega, Nat.le_refl _⟩ (fun l x ih => ?_) pre
  rw [sweep_snoc]
  simp only [swStep]
  split
  · exact ⟨fun _ => by simp, by simp; omega⟩
  · split
    · rename_i h2
      have h3 := ih.1 h2.1
      have h4 : 0 < (sweep need l).2.length := List.length_pos_iff.2 h3
      exact ⟨fun _ => by simp, by simp; omega⟩
    · rename_i h1 h2
      exact ⟨fun h => ih.1 (by omega), by simp; omega⟩
theorem Run.sweep {need : Int} (hn : 1 ≤ need) (G : List Ed) (hs : G.Pairwise fun a b => a.1 < b.1) (hb : ∀ g, g ∈ G → 0 ≤ g.1 ∧ g.1 ≤ 3000000000000001) (pre : List Ed) : pre <+: G → Run need pre (sweep need pre).2 := by
  refine snoc_induction (P := fun pre => pre <+: G → Run need pre (Go.Proofs.YtbgfgpjgehkdjaaGreat.sweep need pre).2) (fun _ => Run.start hn) (fun l e ih h => ?_) pre
  obtain ⟨r, hr⟩ := h
  have hrun := ih ⟨[e] ++ r, by rw [← hr]; simp⟩
  have hlt : ∀ x, x ∈ l → x.1 < e.1 := fun x hx => by
    rw [← hr, List.append_assoc, List.pairwise_append] at hs
    exact hs.2.2 x hx e (by simp)
  have he := hb e (by rw [← hr]; simp)
  have ht := sweep_tot need l
  rw [sweep_snoc]
  simp only [swStep, ht]
  split
  · exact hrun.up hlt he.1 (by omega) (by omega)
  · split
    · obtain ⟨d, p, hd, h2⟩ := hrun.down hlt he.2 (by omega) (by omega)
      rw [hd]
      simpa using h2
    · exact hrun.same hlt (by omega)
theorem Run.done {l : List Iv} {need : Int} {E : List Ed} {c : List Iv} (hl : listB l = true) (hn : 1 ≤ need) (hp : E.Perm (edg l)) (h : Run need (grp E) c) : CovSpec l need c := by
  have hv := (listB_iff l).1 hl
  have hs : ∀ t, sumLe (grp E) t = dep l t l.length := fun t => by
    rw [sumLe_grp, sumLe_perm hp]
    have := sumLe_edg l (fun k hk => (hv.2 k hk).2.1) t l.length (Nat.le_refl _)
    rwa [List.take_length] at this
  have hmem : ∀ e, e ∈ E → 0 ≤ e.1 ∧ e.1 ≤ 3000000000000001 ∧ -1 ≤ e.2 ∧ e.2 ≤ 1 := fun e he => by
    have := edg_mem l hv.2 l.length (Nat.le_refl _) e
    rw [List.take_length] at this
    exact this (hp.mem_iff.1 he)
  have htot : tot (grp E) = 0 := by
    rw [← sumLe_all (grp E) 3000000000000001 fun e he => (grp_mem E hmem e he).2.1, hs]
    exact dep_lt0 l hl _ (.inr (by omega))
  obtain ⟨c0, h1, h2, h3, h4⟩ := h
  rcases h4 with ⟨h5, rfl, h7⟩ | ⟨h5, _⟩
  · exact ⟨h1, fun t => (h7 t).trans (by rw [hs])⟩
  · omega
end Go.Proofs.YtbgfgpjgehkdjaaGreat
