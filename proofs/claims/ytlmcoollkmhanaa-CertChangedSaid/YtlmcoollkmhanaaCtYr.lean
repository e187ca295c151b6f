
/- CertChanged: rows of cases whose cells are changed. -/
import Derived.Test.YtlmcoollkmhanaaCtY
import Derived.Test.YtlmcoollkmhanaaApp
namespace Go.Proofs.Ytlmcoollkmhanaa
open Go.RowKit

theorem own_zeroC {w : World} {base q size : Nat} {T : TypeId} (hh : w.heap[q]? = some (.cells #[] T)) (h : base ≤ q) : w.ownsRow base T size (.slice (some ⟨q, 0, none⟩) 0 0) 0 [] :=
 ⟨by simp, .inr ⟨q, 0, #[], rfl, h, hh, Nat.le_refl _, by unfold maxLen; omega, by simp, by simp⟩⟩
theorem src_rws {α : Type} {en : α → List Value} {C : Nat} {d : α} {w : World} {v : Value} {l : List α} (hen : ∀ x, (en x).length = C) (hC : 0 < C) (h : Rws en C d w v l) : SrcRow w v l.length C (l.flatMap en) := by
 obtain ⟨a, cap, rfl, h1, h2, h3⟩ := h
 refine ⟨a, cap, rfl, flat_length hen l, fun ha => ?_, fun ad had j u hj => ?_⟩
 ·rcases Nat.eq_zero_or_pos l.length with h0 | h0
  ·exact h0
  ·obtain ⟨b, off, e, _⟩ := h3 0 h0
   rw [ha] at e; cases e
 ·have hjl : j < l.length * C := by rw [← flat_length hen l]; exact (List.getElem?_eq_some_iff.1 hj).1
  have hdl : j / C < l.length := (Nat.div_lt_iff_lt_mul hC).2 hjl
  have hml : j % C < C := Nat.mod_lt _ hC
  have hje : j / C * C + j % C = j := by rw [Nat.mul_comm]; exact Nat.div_add_mod j C
  obtain ⟨b, off, e, _, h5⟩ := h3 (j / C) hdl
  rw [had] at e
  cases e
  have hlen := hen (l.getD (j / C) d)
  have h6 := h5 (j % C) _ (List.getElem?_eq_getElem (show j % C < (en (l.getD (j / C) d)).length by omega))
  have h7 := flat_at hen d l (j / C) hdl (j % C) _ (List.getElem?_eq_getElem (show j % C < (en (l.getD (j / C) d)).length by omega))
  rw [hje, hj] at h7
  cases h7
  rw [Go.WideShapes.add_plain]
  rw [Nat.add_assoc, hje] at h6
  exact h6
theorem flat_set {α : Type} {en : α → List Value} {C : Nat} (hen : ∀ x, (en x).length = C) (x : α) (j : Nat) (u : Value) (y : α) (hy : en y = (en x).set j u) (hj : j < C) : ∀ (l : List α) (i : Nat), l[i]? = some x → (l.flatMap en).set (i * C + j) u = (l.set i y).flatMap en
 | [], i, h => by simp at h
 | a :: l, 0, h => by
  simp only [List.getElem?_cons_zero, Option.some.injEq] at h
  subst h
  rw [List.flatMap_cons, Nat.zero_mul, Nat.zero_add, List.set_append_left _ _ (by rw [hen]; exact hj), List.set_cons_zero, List.flatMap_cons, hy]
 | a :: l, i + 1, h => by
  have ih := flat_set hen x j u y hy hj l i (by simpa using h)
  rw [List.flatMap_cons, List.set_append_right _ _ (by rw [hen, Nat.succ_mul]; omega), hen, List.set_cons_succ, List.flatMap_cons, ← ih]
  congr 2
  rw [Nat.succ_mul]
  omega
theorem OwnCs.cr {w : World} {base : Nat} {v : Value} {l : List Cs} (h : OwnCs w base (fun _ => False) v l) : OwnCr w base 0 v l := by
 obtain ⟨xs, h1, h2, h3, h4⟩ := h
 have mk : ∀ (v : Value) (l : List Int), RwT (fun _ => False) w v l → NewI w 0 v l := fun v l hh => ⟨hh.1, fun q hq => ⟨Nat.zero_le _, (hh.2 q hq).2⟩⟩
 exact ⟨xs, h1, h2, fun x hx => ⟨mk _ _ (h4 x hx).1.1, mk _ _ (h4 x hx).1.2⟩⟩
theorem own_prefix {w : World} {base e size g n cap : Nat} {xs : List Value} (h : w.ownsRow base e size (.slice (some ⟨g, 0, none⟩) n cap) n xs) {m : Nat} (hm : m ≤ n) : w.ownsRow base e size (.slice (some ⟨g, 0, none⟩) m cap) m (xs.take (m * size)) := by
 have hl := h.1
 have hms : m * size ≤ n * size := Nat.mul_le_mul_right _ hm
 refine ⟨by rw [List.length_take, hl]; omega, .inr ?_⟩
 rcases h.2 with ⟨hv, _⟩ | ⟨g', cap', cur, hv, hg, hc, hn, hmx, hcs, ht⟩
 ·simp at hv
 ·simp only [Value.slice.injEq, Option.some.injEq, Addr.mk.injEq, and_true, true_and] at hv
  obtain ⟨rfl, rfl⟩ := hv
  refine ⟨g, cap, cur, rfl, hg, hc, by omega, hmx, hcs, ?_⟩
  rw [← ht, List.take_take, Nat.min_eq_left hms]
theorem own_setC {w : World} {base g n cap : Nat} {xs : List Cv} (h : w.ownsRow base 44 3 (.slice (some ⟨g, 0, none⟩) n cap) n (xs.flatMap encC)) (i : Nat) (hi : i < xs.length) (y : Cv) :
  (((w.setCell ⟨g, i * 3, none⟩ y.lv).setCell ⟨g, i * 3 + 1, none⟩ y.gv).setCell ⟨g, i * 3 + 2, none⟩ (.int .i64 y.c.wd)).ownsRow base 44 3 (.slice (some ⟨g, 0, none⟩) n cap) n ((xs.set i y).flatMap encC) := by
 have h1 := (World.ownsRow.stored h (i * 3) y.lv).1
 have h2 := (World.ownsRow.stored h1 (i * 3 + 1) y.gv).1
 have h3 := (World.ownsRow.stored h2 (i * 3 + 2) (.int .i64 y.c.wd)).1
 obtain ⟨x, hx⟩ : ∃ x, xs[i]? = some x := ⟨xs[i], List.getElem?_eq_getElem hi⟩
 have e1 := flat_set encC_length x 0 y.lv (⟨y.lv, x.gv, x.c⟩ : Cv) rfl (by omega) xs i hx
 rw [Nat.add_zero] at e1
 have g1 : (xs.set i (⟨y.lv, x.gv, x.c⟩ : Cv))[i]? = some ⟨y.lv, x.gv, x.c⟩ := by rw [List.getElem?_set_self hi]
 have e2 := flat_set encC_length (⟨y.lv, x.gv, x.c⟩ : Cv) 1 y.gv (⟨y.lv, y.gv, x.c⟩ : Cv) rfl (by omega) _ i g1
 have g2 : ((xs.set i (⟨y.lv, x.gv, x.c⟩ : Cv)).set i (⟨y.lv, y.gv, x.c⟩ : Cv))[i]? = some ⟨y.lv, y.gv, x.c⟩ := by rw [List.getElem?_set_self (by simpa using hi)]
 have e3 := flat_set encC_length (⟨y.lv, y.gv, x.c⟩ : Cv) 2 (.int .i64 y.c.wd) y rfl (by omega) _ i g2
 rw [e1, e2, e3] at h3
 simpa using h3
theorem own_atC {w : World} {base g n cap : Nat} {xs : List Cv} (h : w.ownsRow base 44 3 (.slice (some ⟨g, 0, none⟩) n cap) n (xs.flatMap encC)) (hn : xs.length = n) {i : Nat} (hi : i < xs.length) :
  w.cell? ⟨g, i * 3, none⟩ = some xs[i].lv ∧ w.cell? ⟨g, i * 3 + 1, none⟩ = some xs[i].gv ∧ w.cell? ⟨g, i * 3 + 2, none⟩ = some (.int .i64 xs[i].c.wd) := by
 have e : xs.getD i cv0 = xs[i] := by simp [List.getD_eq_getElem?_getD, List.getElem?_eq_getElem hi]
 have key : ∀ j u, j < 3 → (encC xs[i])[j]? = some u → w.cell? ⟨g, i * 3 + j, none⟩ = some u := fun j u hj hu => by
  rw [← e] at hu
  exact (World.ownsRow.cellAt h (i * 3 + j) (by omega)).trans (flat_at encC_length cv0 xs i hi j u hu)
 exact ⟨key 0 _ (by omega) rfl, key 1 _ (by omega) rfl, key 2 _ (by omega) rfl⟩
theorem own_csrow {WA V : World} {base : Nat} {v : Value} {ys xs : List Cv} (h3 : ∀ x, x ∈ xs → NewI WA 0 x.lv x.c.li ∧ NewI WA 0 x.gv x.c.lo) (hb : Below WA.heap.size WA V) (hown : V.ownsRow base 44 3 v ys.length (ys.flatMap encC))
  (hin : ∀ y, y ∈ ys → ∃ x, x ∈ xs ∧ y.lv = x.lv ∧ y.gv = x.gv ∧ y.c.li = x.c.li ∧ y.c.lo = x.c.lo) : CsRow V v (ys.map (·.c)) := by
 refine ⟨ys, rfl, Owns.row encC_length cv0 (by omega) hown, fun y hy => ?_⟩
 obtain ⟨x, hx, e1, e2, e3, e4⟩ := hin y hy
 unfold CvOk
 rw [e1, e2, e3, e4]
 exact ⟨(h3 x hx).1.1.below (Nat.le_refl _) hb, (h3 x hx).2.1.below (Nat.le_refl _) hb⟩
theorem flat_take {α : Type} {en : α → List Value} {C : Nat} (hen : ∀ x, (en x).length = C) : ∀ (l : List α) (i : Nat), (l.flatMap en).take (i * C) = (l.take i).flatMap en
 | [], i => by simp
 | a :: l, 0 => by simp
 | a :: l, i + 1 => by
  have ih := flat_take hen l i
  rw [List.flatMap_cons, List.take_succ_cons, List.flatMap_cons, Nat.succ_mul, Nat.add_comm (i * C) C, List.take_append, hen, ← ih]
  congr 1
  ·rw [List.take_of_length_le (by rw [hen]; omega)]
  ·congr 1
   omega
theorem flat_drop {α : Type} {en : α → List Value} {C : Nat} (hen : ∀ x, (en x).length = C) (l : List α) (i : Nat) : (l.flatMap en).drop (i * C) = (l.drop i).flatMap en := by
 have h1 := List.take_append_drop (i * C) (l.flatMap en)
 have h2 : l.flatMap en = (l.take i).flatMap en ++ (l.drop i).flatMap en := by rw [← List.flatMap_append, List.take_append_drop]
 rw [flat_take hen l i] at h1
 exact List.append_cancel_left (h1.trans h2)
theorem own_cap {w : World} {base e size g n cap : Nat} {xs : List Value} (h : w.ownsRow base e size (.slice (some ⟨g, 0, none⟩) n cap) n xs) : n ≤ cap ∧ cap ≤ 9223372036854775807 := by
 rcases h.2 with ⟨hv, _⟩ | ⟨g', cap', cur, hv, hg, hc, hn, hmx, hcs, ht⟩
 ·simp at hv
 ·simp only [Value.slice.injEq, Option.some.injEq, Addr.mk.injEq, and_true, true_and] at hv
  obtain ⟨rfl, rfl⟩ := hv
  exact ⟨hn, hmx⟩
theorem World.ownsRow.drewR {w : World} {base e size n : Nat} {v : Value} {xs : List Value} (h : w.ownsRow base e size v n xs) : w.drew.ownsRow base e size v n xs := h
theorem own_tail {w : World} {base g n cap i : Nat} {xs : List Cv} (h : w.ownsRow base 44 3 (.slice (some ⟨g, 0, none⟩) n cap) n (xs.flatMap encC)) (hn : xs.length = n) (_ : i + 1 ≤ n) :
  SrcRow w.drew (.slice (some ⟨g, (i + 1) * 3, none⟩) (n - (i + 1)) (cap - (i + 1))) (n - (i + 1)) 3 ((xs.drop (i + 1)).flatMap encC) := by
 refine ⟨_, _, rfl, by rw [flat_length encC_length, List.length_drop, hn], (fun e => by cases e), fun ad had j u hj => ?_⟩
 cases had
 rw [← flat_drop encC_length] at hj
 rw [List.getElem?_drop] at hj
 rw [Go.WideShapes.add_plain]
 have hlt : (i + 1) * 3 + j < n * 3 := by
  have := (List.getElem?_eq_some_iff.1 hj).1
  rw [flat_length encC_length, hn] at this
  exact this
 exact (World.ownsRow.cellAt h _ hlt).trans hj
theorem mem_set_c {xs : List Cv} {i : Nat} {z y : Cv} (hz : ∃ x, x ∈ xs ∧ z.lv = x.lv ∧ z.gv = x.gv ∧ z.c.li = x.c.li ∧ z.c.lo = x.c.lo) (hy : y ∈ xs.set i z) : ∃ x, x ∈ xs ∧ y.lv = x.lv ∧ y.gv = x.gv ∧ y.c.li = x.c.li ∧ y.c.lo = x.c.lo := by
 rcases List.mem_or_eq_of_mem_set hy with h | rfl
 ·exact ⟨y, h, rfl, rfl, rfl, rfl⟩
 ·exact hz
theorem smB_comm (x y : Ct) : smB x y = smB y x := by
 rw [Bool.eq_iff_iff, smB_iff, smB_iff]
 exact ⟨fun h => h.symm, fun h => h.symm⟩
end Go.Proofs.Ytlmcoollkmhanaa
