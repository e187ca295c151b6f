/- Plain: versions, transactions, what a store has and what is read of it (packages versions, commit). -/
import Derived.Test.YthkoaecafmhlcaaGreatJ05
namespace Go.Proofs.YthkoaecafmhlcaaGreat

structure Wr where
 key : Int
 val : Int
 gone : Bool
structure Ver where
 key : Int
 ts : Int
 val : Int
 gone : Bool
structure Tx where
 id : Int
 ts : Int
 rd : List (Int × Int)
 wr : List Wr
def wr0 : Wr := ⟨0, 0, false⟩
def ver0 : Ver := ⟨0, 0, 0, false⟩
def tx0 : Tx := ⟨0, 0, [], []⟩
def vAt (S : List Ver) (i : Nat) : Ver := S.getD i ver0
def wAt (l : List Wr) (i : Nat) : Wr := l.getD i wr0
def txAt (l : List Tx) (i : Nat) : Tx := l.getD i tx0
theorem vAt_lt {S : List Ver} {i : Nat} (h : i < S.length) : vAt S i = S[i] := by simp [vAt, List.getD_eq_getElem?_getD, List.getElem?_eq_getElem h]
theorem wAt_lt {S : List Wr} {i : Nat} (h : i < S.length) : wAt S i = S[i] := by simp [wAt, List.getD_eq_getElem?_getD, List.getElem?_eq_getElem h]
theorem txAt_lt {S : List Tx} {i : Nat} (h : i < S.length) : txAt S i = S[i] := by simp [txAt, List.getD_eq_getElem?_getD, List.getElem?_eq_getElem h]
theorem vAt_mem {S : List Ver} {i : Nat} (h : i < S.length) : vAt S i ∈ S := by rw [vAt_lt h]; exact List.getElem_mem h
theorem txAt_mem {S : List Tx} {i : Nat} (h : i < S.length) : txAt S i ∈ S := by rw [txAt_lt h]; exact List.getElem_mem h
theorem mem_vAt {S : List Ver} {x : Ver} (h : x ∈ S) : ∃ i, i < S.length ∧ vAt S i = x := by
 obtain ⟨i, hi, rfl⟩ := List.getElem_of_mem h
 exact ⟨i, hi, vAt_lt hi⟩
def vle (a : Ver) (k t : Int) : Prop := a.key < k ∨ (a.key = k ∧ a.ts ≤ t)
def vlt (a b : Ver) : Prop := a.key < b.key ∨ (a.key = b.key ∧ a.ts < b.ts)
theorem vlt_trans {a b c : Ver} (h : vlt a b) (k : vlt b c) : vlt a c := by unfold vlt at *; omega
theorem vle_of_vlt {a b : Ver} {k t : Int} (h : vlt a b) (h2 : vle b k t) : vle a k t := by unfold vlt vle at *; omega
def SoV (S : List Ver) : Prop := S.Pairwise vlt
theorem SoV.lt {S : List Ver} (h : SoV S) {i j : Nat} (hij : i < j) (hj : j < S.length) : vlt (vAt S i) (vAt S j) := by
 rw [vAt_lt (show i < S.length by omega), vAt_lt hj]
 exact List.pairwise_iff_getElem.1 h i j (by omega) hj hij
def upN (S : List Ver) (k t : Int) : Nat := S.countP fun a => decide (a.key < k ∨ (a.key = k ∧ a.ts ≤ t))
theorem upN_le (S : List Ver) (k t : Int) : upN S k t ≤ S.length := List.countP_le_length
theorem upN_eq {S : List Ver} {k t : Int} {n : Nat} (hn : n ≤ S.length) (h1 : ∀ i, i < n → vle (vAt S i) k t) (h2 : ∀ i, n ≤ i → i < S.length → ¬ vle (vAt S i) k t) : upN S k t = n := by
 have e : upN S k t = (S.take n).countP (fun a => decide (a.key < k ∨ (a.key = k ∧ a.ts ≤ t))) + (S.drop n).countP (fun a => decide (a.key < k ∨ (a.key = k ∧ a.ts ≤ t))) := by
  rw [← List.countP_append, List.take_append_drop]; rfl
 rw [e, List.countP_eq_length.2, List.countP_eq_zero.2, List.length_take, Nat.min_eq_left hn]
 ·rfl
 ·intro a ha
  obtain ⟨i, hi, rfl⟩ := List.getElem_of_mem ha
  rw [List.length_drop] at hi
  have := h2 (n + i) (by omega) (by omega)
  rw [vAt_lt (by omega)] at this
  rw [List.getElem_drop]
  simpa [vle] using this
 ·intro a ha
  obtain ⟨i, hi, rfl⟩ := List.getElem_of_mem ha
  rw [List.length_take] at hi
  have := h1 i (by omega)
  rw [vAt_lt (by omega)] at this
  rw [List.getElem_take]
  simpa [vle] using this
theorem upN_spec {S : List Ver} (h : SoV S) (k t : Int) : (∀ i, i < upN S k t → vle (vAt S i) k t) ∧ ∀ i, upN S k t ≤ i → i < S.length → ¬ vle (vAt S i) k t := by
 induction S with
 | nil => exact ⟨fun i hi => by simp [upN] at hi, fun i _ hi => by simp at hi⟩
 | cons a S ih =>
  obtain ⟨ha, hS⟩ := List.pairwise_cons.1 h
  obtain ⟨i1, i2⟩ := ih hS
  by_cases hc : vle a k t
  ·have e : upN (a :: S) k t = upN S k t + 1 := by
    unfold upN
    rw [List.countP_cons_of_pos]
    exact decide_eq_true hc
   refine ⟨fun i hi => ?_, fun i hi hl => ?_⟩
   ·cases i with
    | zero => exact hc
    | succ i => exact i1 i (by omega)
   ·cases i with
    | zero => omega
    | succ i => exact i2 i (by omega) (by simpa using hl)
  ·have hall : ∀ x, x ∈ S → ¬ vle x k t := fun x hx h2 => hc (vle_of_vlt (ha x hx) h2)
   have e : upN (a :: S) k t = 0 := by
    unfold upN
    rw [List.countP_eq_zero]
    intro x hx
    rcases List.mem_cons.1 hx with rfl | hx
    ·simpa [vle] using hc
    ·simpa [vle] using hall x hx
   refine ⟨fun i hi => by omega, fun i _ hl => ?_⟩
   cases i with
   | zero => exact hc
   | succ i =>
    have hm : vAt (a :: S) (i + 1) = vAt S i := rfl
    rw [hm]
    exact hall _ (vAt_mem (by simpa using hl))
def lastV (S : List Ver) (k t : Int) : Ver := if 0 < upN S k t ∧ (vAt S (upN S k t - 1)).key = k then vAt S (upN S k t - 1) else ver0
def IsLast (P : Ver → Prop) (k t : Int) (v : Ver) : Prop :=
 (v = ver0 ∧ ∀ x, P x → x.key = k → t < x.ts) ∨ (P v ∧ v.key = k ∧ v.ts ≤ t ∧ ∀ x, P x → x.key = k → x.ts ≤ t → x.ts ≤ v.ts)
theorem last_is {S : List Ver} (h : SoV S) (k t : Int) : IsLast (· ∈ S) k t (lastV S k t) := by
 obtain ⟨u1, u2⟩ := upN_spec h k t
 have hle := upN_le S k t
 have key : ∀ x, x ∈ S → x.key = k → x.ts ≤ t → 0 < upN S k t ∧ (vAt S (upN S k t - 1)).key = k ∧ x.ts ≤ (vAt S (upN S k t - 1)).ts := by
  intro x hx hk ht
  obtain ⟨i, hi, rfl⟩ := mem_vAt hx
  have hi2 : i < upN S k t := by
   refine Nat.lt_of_not_le fun h2 => u2 i h2 hi ?_
   unfold vle
   omega
  have h3 := u1 (upN S k t - 1) (by omega)
  rcases Nat.lt_or_ge i (upN S k t - 1) with h4 | h4
  ·have h5 := h.lt h4 (by omega)
   unfold vlt at h5
   unfold vle at h3
   omega
  ·obtain rfl : i = upN S k t - 1 := by omega
   exact ⟨by omega, hk, Int.le_refl _⟩
 unfold lastV
 split
 ·rename_i hc
  have h3 := u1 (upN S k t - 1) (by omega)
  refine .inr ⟨vAt_mem (by omega), hc.2, by unfold vle at h3; omega, fun x hx h4 h5 => (key x hx h4 h5).2.2⟩
 ·rename_i hc
  refine .inl ⟨rfl, fun x hx h4 => ?_⟩
  refine Int.lt_of_not_ge fun h5 => hc ?_
  have := key x hx h4 h5
  exact ⟨this.1, this.2.1⟩
theorem last_unique {P : Ver → Prop} (hP : ∀ x y, P x → P y → x.key = y.key → x.ts = y.ts → x = y) {k t : Int} {v v' : Ver} (h : IsLast P k t v) (h' : IsLast P k t v') : v = v' := by
 rcases h with ⟨rfl, h⟩ | ⟨h1, h2, h3, h4⟩ <;> rcases h' with ⟨rfl, h'⟩ | ⟨h1', h2', h3', h4'⟩
 ·rfl
 ·have := h v' h1' h2'; omega
 ·have := h' v h1 h2; omega
 ·refine hP v v' h1 h1' (by omega) ?_
  have := h4 v' h1' h2' h3'
  have := h4' v h1 h2 h3
  omega
def putV (S : List Ver) (v : Ver) : List Ver := S.take (upN S v.key v.ts) ++ v :: S.drop (upN S v.key v.ts)
theorem putV_length (S : List Ver) (v : Ver) : (putV S v).length = S.length + 1 := by
 have := upN_le S v.key v.ts
 unfold putV
 simp
 omega
theorem mem_putV (S : List Ver) (v x : Ver) : x ∈ putV S v ↔ x = v ∨ x ∈ S := by
 unfold putV
 rw [List.mem_append, List.mem_cons]
 have : x ∈ S ↔ x ∈ S.take (upN S v.key v.ts) ∨ x ∈ S.drop (upN S v.key v.ts) := by rw [← List.mem_append, List.take_append_drop]
 rw [this]
 constructor
 ·rintro (h | h | h)
  ·exact .inr (.inl h)
  ·exact .inl h
  ·exact .inr (.inr h)
 ·rintro (h | h | h)
  ·exact .inr (.inl h)
  ·exact .inl h
  ·exact .inr (.inr h)
theorem putV_sov {S : List Ver} {v : Ver} (h : SoV S) (hn : ∀ x, x ∈ S → x.key = v.key → x.ts < v.ts) : SoV (putV S v) := by
 obtain ⟨u1, u2⟩ := upN_spec h v.key v.ts
 have hle := upN_le S v.key v.ts
 unfold SoV putV
 refine List.pairwise_append.2 ⟨h.sublist (List.take_sublist _ _), List.pairwise_cons.2 ⟨fun x hx => ?_, h.sublist (List.drop_sublist _ _)⟩, fun a ha b hb => ?_⟩
 ·obtain ⟨i, hi, rfl⟩ := List.getElem_of_mem hx
  rw [List.length_drop] at hi
  rw [List.getElem_drop]
  have h2 := u2 (upN S v.key v.ts + i) (by omega) (by omega)
  rw [vAt_lt (by omega)] at h2
  unfold vle at h2
  unfold vlt
  omega
 ·obtain ⟨i, hi, rfl⟩ := List.getElem_of_mem ha
  rw [List.length_take] at hi
  rw [List.getElem_take]
  have h2 := u1 i (by omega)
  have hm : S[i] ∈ S := List.getElem_mem (by omega)
  rw [vAt_lt (by omega)] at h2
  rcases List.mem_cons.1 hb with rfl | hb
  ·have := hn _ hm
   unfold vle at h2
   unfold vlt
   omega
  ·obtain ⟨j, hj, rfl⟩ := List.getElem_of_mem hb
   rw [List.length_drop] at hj
   rw [List.getElem_drop]
   exact List.pairwise_iff_getElem.1 h i _ (by omega) (by omega) (by omega)
def PairV (a b : Ver) : Prop := a.ts ≤ b.ts ∧ (a.key = b.key → a.ts < b.ts)
def stF (S : List Ver) (L : List Ver) : List Ver := L.foldl putV S
def stV (L : List Ver) : List Ver := stF [] L
theorem stF_ok : ∀ (L S : List Ver), SoV S → L.Pairwise PairV → (∀ x, x ∈ S → ∀ b, b ∈ L → PairV x b) → SoV (stF S L) ∧ (∀ x, x ∈ stF S L ↔ x ∈ S ∨ x ∈ L) ∧ (stF S L).length = S.length + L.length
 | [], S, hS, _, _ => ⟨hS, fun x => by simp [stF], rfl⟩
 | v :: L, S, hS, hL, hx => by
  obtain ⟨h1, h2⟩ := List.pairwise_cons.1 hL
  have h3 := putV_sov hS fun x hx' => (hx x hx' v (by simp)).2
  obtain ⟨i1, i2, i3⟩ := stF_ok L (putV S v) h3 h2 fun x hx' b hb => by
   rcases (mem_putV S v x).1 hx' with rfl | h
   ·exact h1 b hb
   ·exact hx x h b (by simp [hb])
  refine ⟨i1, fun x => ?_, ?_⟩
  ·show x ∈ stF (putV S v) L ↔ _
   rw [i2, mem_putV, List.mem_cons]
   constructor
   ·rintro ((h | h) | h)
    ·exact .inr (.inl h)
    ·exact .inl h
    ·exact .inr (.inr h)
   ·rintro (h | h | h)
    ·exact .inl (.inr h)
    ·exact .inl (.inl h)
    ·exact .inr h
  ·show (stF (putV S v) L).length = _
   rw [i3, putV_length, List.length_cons]
   omega
theorem stV_ok {L : List Ver} (h : L.Pairwise PairV) : SoV (stV L) ∧ (∀ x, x ∈ stV L ↔ x ∈ L) ∧ (stV L).length = L.length := by
 obtain ⟨h1, h2, h3⟩ := stF_ok L [] List.Pairwise.nil h fun x hx => by simp at hx
 exact ⟨h1, fun x => by have := h2 x; simp at this; exact this, by simp at h3; exact h3⟩
theorem stF_snoc (S L : List Ver) (v : Ver) : stF S (L ++ [v]) = putV (stF S L) v := by simp [stF]
theorem stF_append (S L M : List Ver) : stF S (L ++ M) = stF (stF S L) M := by simp [stF]
theorem pairV_unique {L : List Ver} (h : L.Pairwise PairV) : ∀ x y, x ∈ L → y ∈ L → x.key = y.key → x.ts = y.ts → x = y := by
 intro x y hx hy hk ht
 obtain ⟨i, hi, rfl⟩ := List.getElem_of_mem hx
 obtain ⟨j, hj, rfl⟩ := List.getElem_of_mem hy
 rcases Nat.lt_trichotomy i j with hl | rfl | hl
 ·have := (List.pairwise_iff_getElem.1 h i j hi hj hl).2 hk
  omega
 ·rfl
 ·have := (List.pairwise_iff_getElem.1 h j i hj hi hl).2 hk.symm
  omega
def rlF (o : Ver) (L : List Ver) (k t : Int) : Ver := L.foldl (fun o v => if v.key = k ∧ v.ts ≤ t then v else o) o
def rlast (L : List Ver) (k t : Int) : Ver := rlF ver0 L k t
theorem rlF_is (k t : Int) : ∀ (L : List Ver) (o : Ver) (P : Ver → Prop), IsLast P k t o → L.Pairwise PairV → (∀ x, P x → ∀ b, b ∈ L → PairV x b) → IsLast (fun x => P x ∨ x ∈ L) k t (rlF o L k t)
 | [], o, P, h, _, _ => by
  have e : (fun x => P x ∨ x ∈ ([] : List Ver)) = P := by funext x; simp
  rw [e]
  exact h
 | v :: L, o, P, h, hL, hx => by
  obtain ⟨h1, h2⟩ := List.pairwise_cons.1 hL
  have e : (fun x => P x ∨ x ∈ v :: L) = fun x => (P x ∨ x = v) ∨ x ∈ L := by
   funext x
   rw [List.mem_cons, or_assoc]
  rw [e]
  refine rlF_is k t L (if v.key = k ∧ v.ts ≤ t then v else o) (fun x => P x ∨ x = v) ?_ h2 fun x hx' b hb => ?_
  ·split
   ·rename_i hc
    refine .inr ⟨.inr rfl, hc.1, hc.2, fun x hx' hk ht => ?_⟩
    rcases hx' with hx' | rfl
    ·exact (hx x hx' v (by simp)).1
    ·exact Int.le_refl _
   ·rename_i hc
    rcases h with ⟨rfl, h⟩ | ⟨p1, p2, p3, p4⟩
    ·refine .inl ⟨rfl, fun x hx' hk => ?_⟩
     rcases hx' with hx' | rfl
     ·exact h x hx' hk
     ·omega
    ·refine .inr ⟨.inl p1, p2, p3, fun x hx' hk ht => ?_⟩
     rcases hx' with hx' | rfl
     ·exact p4 x hx' hk ht
     ·omega
  ·rcases hx' with hx' | rfl
   ·exact hx x hx' b (by simp [hb])
   ·exact h1 b hb
theorem rlast_is {L : List Ver} (h : L.Pairwise PairV) (k t : Int) : IsLast (· ∈ L) k t (rlast L k t) := by
 have := rlF_is k t L ver0 (fun _ => False) (.inl ⟨rfl, fun x hx => hx.elim⟩) h fun x hx => hx.elim
 simp at this
 exact this
theorem last_rlast {L : List Ver} (h : L.Pairwise PairV) (k t : Int) : lastV (stV L) k t = rlast L k t := by
 obtain ⟨h1, h2, _⟩ := stV_ok h
 have h3 := last_is h1 k t
 have e : (· ∈ stV L) = (· ∈ L) := by funext x; exact propext (h2 x)
 rw [e] at h3
 exact last_unique (pairV_unique h) h3 (rlast_is h k t)
theorem rlF_append (o : Ver) (L M : List Ver) (k t : Int) : rlF o (L ++ M) k t = rlF (rlF o L k t) M k t := by simp [rlF]
theorem rlF_late (o : Ver) (k t : Int) : ∀ (M : List Ver), (∀ x, x ∈ M → t < x.ts) → rlF o M k t = o
 | [], _ => rfl
 | x :: M, h => by
  have := h x (by simp)
  show rlF (if x.key = k ∧ x.ts ≤ t then x else o) M k t = o
  rw [if_neg (by omega), rlF_late o k t M fun y hy => h y (by simp [hy])]

def verW (ts : Int) (w : Wr) : Ver := ⟨w.key, ts, w.val, w.gone⟩
def vers (t : Tx) : List Ver := t.wr.map (verW t.ts)
def evs (D : List Tx) : List Ver := D.flatMap vers
theorem evs_append (D E : List Tx) : evs (D ++ E) = evs D ++ evs E := by simp [evs]
theorem vers_length (t : Tx) : (vers t).length = t.wr.length := by simp [vers]
def RdI (l : List (Int × Int)) (i : Nat) : Prop := (1 ≤ (l.getD i (0, 0)).1 ∧ (l.getD i (0, 0)).1 ≤ 1000) ∧ (0 ≤ (l.getD i (0, 0)).2 ∧ (l.getD i (0, 0)).2 ≤ 3000000000000000) ∧ (0 < i → (l.getD (i - 1) (0, 0)).1 < (l.getD i (0, 0)).1)
def WrI (l : List Wr) (i : Nat) : Prop := (1 ≤ (wAt l i).key ∧ (wAt l i).key ≤ 1000) ∧ (0 ≤ (wAt l i).val ∧ (wAt l i).val ≤ 1000000) ∧ ((wAt l i).gone = true → (wAt l i).val = 0) ∧ (0 < i → (wAt l (i - 1)).key < (wAt l i).key)
def Fm (t : Tx) : Prop := (∀ i, i < t.rd.length → RdI t.rd i) ∧ (∀ i, i < t.wr.length → WrI t.wr i) ∧ (1 ≤ t.id ∧ t.id ≤ 1000000) ∧ (0 ≤ t.ts ∧ t.ts ≤ 3000000000000000) ∧ t.rd.length ≤ 8 ∧ t.wr.length ≤ 8
theorem wr_pair {l : List Wr} (h : ∀ i, i < l.length → WrI l i) : l.Pairwise fun a b => a.key < b.key := by
 refine List.pairwise_iff_getElem.2 fun i j hi hj hij => ?_
 rw [← wAt_lt hi, ← wAt_lt hj]
 clear hi
 induction j with
 | zero => omega
 | succ j ih =>
  have := (h (j + 1) hj).2.2.2 (by omega)
  rw [Nat.add_sub_cancel] at this
  rcases Nat.lt_or_ge i j with hl | hl
  ·exact Int.lt_trans (ih (by omega) hl) this
  ·obtain rfl : i = j := by omega
   exact this
def WfV (v : Ver) : Prop := (1 ≤ v.key ∧ v.key ≤ 1000) ∧ (1 ≤ v.ts ∧ v.ts ≤ 3000000000000000) ∧ (0 ≤ v.val ∧ v.val ≤ 1000000) ∧ (v.gone = true → v.val = 0)
theorem vers_wf {t : Tx} (h : Fm t) (h1 : 1 ≤ t.ts) : ∀ x, x ∈ vers t → WfV x := by
 intro x hx
 unfold vers at hx
 obtain ⟨w, hw, rfl⟩ := List.mem_map.1 hx
 obtain ⟨i, hi, rfl⟩ := List.getElem_of_mem hw
 have := h.2.1 i hi
 unfold WrI at this
 rw [wAt_lt hi] at this
 exact ⟨this.1, ⟨h1, h.2.2.2.1.2⟩, this.2.1, this.2.2.1⟩
def GoodD (D : List Tx) : Prop := D.Pairwise (fun a b => a.ts < b.ts) ∧ ∀ t, t ∈ D → Fm t ∧ 1 ≤ t.ts
theorem GoodD.sub {D E : List Tx} (h : GoodD D) (hs : E.Sublist D) : GoodD E := ⟨h.1.sublist hs, fun t ht => h.2 t (hs.subset ht)⟩
theorem mem_evs {D : List Tx} {x : Ver} (h : x ∈ evs D) : ∃ t, t ∈ D ∧ x ∈ vers t := List.mem_flatMap.1 h
theorem mem_vers_ts {t : Tx} {x : Ver} (h : x ∈ vers t) : x.ts = t.ts := by
 obtain ⟨w, _, rfl⟩ := List.mem_map.1 h
 rfl
theorem evs_pair {D : List Tx} (h : GoodD D) : (evs D).Pairwise PairV := by
 unfold evs
 refine List.pairwise_flatMap.2 ⟨fun t ht => ?_, h.1.imp fun {a b} hab x hx y hy => ?_⟩
 ·refine List.pairwise_map.2 ((wr_pair (h.2 t ht).1.2.1).imp fun {a b} hab => ⟨Int.le_refl _, fun e => ?_⟩)
  simp only [verW] at e
  omega
 ·have e1 := mem_vers_ts hx
  have e2 := mem_vers_ts hy
  exact ⟨by omega, fun _ => by omega⟩
theorem evs_wf {D : List Tx} (h : GoodD D) : ∀ x, x ∈ evs D → WfV x := fun x hx => by
 obtain ⟨t, ht, hx⟩ := mem_evs hx
 exact vers_wf (h.2 t ht).1 (h.2 t ht).2 x hx
def nwr (D : List Tx) : Nat := (evs D).length
theorem nwr_cons (t : Tx) (D : List Tx) : nwr (t :: D) = t.wr.length + nwr D := by simp [nwr, evs, vers_length]
theorem nwr_append (D E : List Tx) : nwr (D ++ E) = nwr D + nwr E := by simp [nwr, evs_append]
theorem nwr_le {D : List Tx} (h : ∀ t, t ∈ D → t.wr.length ≤ 8) : nwr D ≤ 8 * D.length := by
 induction D with
 | nil => simp [nwr, evs]
 | cons t D ih =>
  rw [nwr_cons, List.length_cons]
  have := h t (by simp)
  have := ih fun x hx => h x (by simp [hx])
  omega
structure Ld where
 last : Int
 st : List Ver
 opn : List Tx
def VL (L : Ld) : Prop := SoV L.st ∧ (∀ x, x ∈ L.st → WfV x) ∧ (0 ≤ L.last ∧ L.last ≤ 3000000000000000) ∧ L.opn.length ≤ 2000 ∧ L.st.length + nwr L.opn ≤ 4000 ∧ GoodD L.opn ∧ (∀ t, t ∈ L.opn → ∀ x, x ∈ L.st → x.ts < t.ts) ∧ (∀ t, t ∈ L.opn → t.ts ≤ L.last) ∧ ∀ x, x ∈ L.st → x.ts ≤ L.last
def topTs (D : List Tx) : Int := (D.getLast?.map (·.ts)).getD 0
theorem topTs_snoc (D : List Tx) (t : Tx) : topTs (D ++ [t]) = t.ts := by simp [topTs]
theorem topTs_ge {D : List Tx} (h : GoodD D) : ∀ t, t ∈ D → t.ts ≤ topTs D := by
 intro t ht
 obtain ⟨i, hi, rfl⟩ := List.getElem_of_mem ht
 have e : topTs D = D[D.length - 1].ts := by
  unfold topTs
  rw [List.getLast?_eq_getElem?, List.getElem?_eq_getElem (show D.length - 1 < D.length by omega)]
  rfl
 rw [e]
 rcases Nat.lt_or_ge i (D.length - 1) with hl | hl
 ·have := List.pairwise_iff_getElem.1 h.1 i (D.length - 1) hi (by omega) hl
  omega
 ·have e2 : i = D.length - 1 := by omega
  subst e2
  exact Int.le_refl _
theorem topTs_bd {D : List Tx} (h : GoodD D) : 0 ≤ topTs D ∧ topTs D ≤ 3000000000000000 := by
 unfold topTs
 cases e : D.getLast? with
 | none => simp
 | some t =>
  have hm := List.mem_of_getLast? e
  have h1 := (h.2 t hm).1.2.2.2.1
  simp
  omega
def ldOf (D : List Tx) (m : Nat) : Ld := ⟨topTs D, stV (evs (D.take m)), D.drop m⟩
theorem ldOf_vl {D : List Tx} (h : GoodD D) (hl : D.length ≤ 100) (m : Nat) : VL (ldOf D m) := by
 have hT : GoodD (D.take m) := h.sub (List.take_sublist _ _)
 have hDr : GoodD (D.drop m) := h.sub (List.drop_sublist _ _)
 obtain ⟨s1, s2, s3⟩ := stV_ok (evs_pair hT)
 refine ⟨s1, fun x hx => evs_wf hT x ((s2 x).1 hx), topTs_bd h, by simp [ldOf]; omega, ?_, hDr, fun t ht x hx => ?_, fun t ht => topTs_ge h t (List.mem_of_mem_drop ht), fun x hx => ?_⟩
 ·show (stV (evs (D.take m))).length + nwr (D.drop m) ≤ 4000
  rw [s3]
  have e : nwr D = nwr (D.take m) + nwr (D.drop m) := by rw [← nwr_append, List.take_append_drop]
  have := nwr_le (D := D) fun t ht => (h.2 t ht).1.2.2.2.2.2
  show nwr (D.take m) + nwr (D.drop m) ≤ 4000
  omega
 ·obtain ⟨u, hu, hx⟩ := mem_evs ((s2 x).1 hx)
  rw [mem_vers_ts hx]
  have h1 := h.1
  rw [← List.take_append_drop m D] at h1
  exact (List.pairwise_append.1 h1).2.2 u hu t ht
 ·obtain ⟨u, hu, hx⟩ := mem_evs ((s2 x).1 hx)
  rw [mem_vers_ts hx]
  exact topTs_ge h u (List.mem_of_mem_take hu)
theorem goodD_snoc {D : List Tx} {t : Tx} (h : GoodD D) (hf : Fm t) (h1 : 1 ≤ t.ts) (hl : topTs D < t.ts) : GoodD (D ++ [t]) := by
 refine ⟨List.pairwise_append.2 ⟨h.1, List.pairwise_singleton _ _, fun a ha b hb => ?_⟩, fun u hu => ?_⟩
 ·rw [List.mem_singleton] at hb
  subst hb
  have := topTs_ge h a ha
  omega
 ·rcases List.mem_append.1 hu with hu | hu
  ·exact h.2 u hu
  ·rw [List.mem_singleton] at hu
   subst hu
   exact ⟨hf, h1⟩
theorem read_same {D : List Tx} (h : GoodD D) (j : Nat) (k t : Int) (ht : ∀ u, u ∈ D.drop j → t < u.ts) : lastV (stV (evs D)) k t = lastV (stV (evs (D.take j))) k t ∧ lastV (stV (evs (D.take j))) k t = rlast (evs (D.take j)) k t := by
 have h2 := last_rlast (evs_pair (h.sub (List.take_sublist j D))) k t
 refine ⟨?_, h2⟩
 rw [h2, last_rlast (evs_pair h)]
 have e : evs D = evs (D.take j) ++ evs (D.drop j) := by rw [← evs_append, List.take_append_drop]
 rw [e]
 unfold rlast
 rw [rlF_append, rlF_late]
 intro x hx
 obtain ⟨u, hu, hx⟩ := mem_evs hx
 rw [mem_vers_ts hx]
 exact ht u hu
end Go.Proofs.YthkoaecafmhlcaaGreat
