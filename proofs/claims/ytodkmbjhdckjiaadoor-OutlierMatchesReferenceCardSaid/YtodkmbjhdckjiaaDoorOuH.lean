/- Package outlier: the sort of lists; Sets. -/
import Derived.Test.YtodkmbjhdckjiaaDoorOuG
namespace Go.Proofs.YtodkmbjhdckjiaaDoor
open Go.RowKit Go.Shelf
def sortR_ren : Go.Shelf.Ren := ⟨fun | 6 => 31 | 15 => 41 | 14 => 40 | 28 => 55 | 29 => 56 | 20 => 47 | 21 => 48 | 22 => 49 | 23 => 50 | 24 => 51 | 25 => 52 | 26 => 53 | 27 => 54 | 46 => 58 | 47 => 59 | 48 => 60 | 49 => 61 | 50 => 62 | 57 => 63 | n => n, fun | 22 => 27 | 24 => 31 | 25 => 34 | 3 => 3 | 39 => 59 | 0 => 0 | 53 => 50 | 55 => 80 | 4 => 4 | 46 => 73 | 45 => 72 | 50 => 77 | 5 => 5 | 9 => 9 | 66 => 82 | 70 => 86 | 76 => 88 | 77 => 89 | n => n, fun | n => n⟩
theorem sortR : Go.Proofs.SlLaysF.n6 Tryd.prog sortR_ren := {
  mixed := by kernel_rfl,
  f6 := ⟨Tryd.f31.name, by decide, Tryd.func31.trans (congrArg some (by kernel_rfl))⟩,
  f14 := ⟨Tryd.f40.name, by decide, Tryd.func40.trans (congrArg some (by kernel_rfl))⟩,
  f15 := Tryd.func41.trans (congrArg some (by kernel_rfl)),
  f20 := ⟨Tryd.f47.name, by decide, Tryd.func47.trans (congrArg some (by kernel_rfl))⟩,
  f21 := ⟨Tryd.f48.name, by decide, Tryd.func48.trans (congrArg some (by kernel_rfl))⟩,
  f22 := ⟨Tryd.f49.name, by decide, Tryd.func49.trans (congrArg some (by kernel_rfl))⟩,
  f23 := ⟨Tryd.f50.name, by decide, Tryd.func50.trans (congrArg some (by kernel_rfl))⟩,
  f24 := ⟨Tryd.f51.name, by decide, Tryd.func51.trans (congrArg some (by kernel_rfl))⟩,
  f25 := ⟨Tryd.f52.name, by decide, Tryd.func52.trans (congrArg some (by kernel_rfl))⟩,
  f26 := ⟨Tryd.f53.name, by decide, Tryd.func53.trans (congrArg some (by kernel_rfl))⟩,
  f27 := ⟨Tryd.f54.name, by decide, Tryd.func54.trans (congrArg some (by kernel_rfl))⟩,
  f28 := Tryd.func55.trans (congrArg some (by kernel_rfl)),
  f29 := Tryd.func56.trans (congrArg some (by kernel_rfl)),
  f46 := ⟨Tryd.f58.name, by decide, Tryd.func58.trans (congrArg some (by kernel_rfl))⟩,
  f47 := Tryd.func59.trans (congrArg some (by kernel_rfl)),
  f48 := Tryd.func60.trans (congrArg some (by kernel_rfl)),
  f49 := ⟨Tryd.f61.name, by decide, Tryd.func61.trans (congrArg some (by kernel_rfl))⟩,
  f50 := ⟨Tryd.f62.name, by decide, Tryd.func62.trans (congrArg some (by kernel_rfl))⟩,
  f57 := ⟨Tryd.f63.name, by decide, Tryd.func63.trans (congrArg some (by kernel_rfl))⟩,
  t0 := Tryd.underlying0,
  a0 := Tryd.isAgg0,
  z0 := Tryd.sizeOf0,
  v0 := Tryd.zeroValue0,
  t3 := Tryd.underlying3,
  a3 := Tryd.isAgg3,
  z3 := Tryd.sizeOf3,
  v3 := Tryd.zeroValue3,
  t4 := Tryd.underlying4,
  a4 := Tryd.isAgg4,
  z4 := Tryd.sizeOf4,
  v4 := Tryd.zeroValue4,
  t5 := Tryd.underlying5,
  a5 := Tryd.isAgg5,
  z5 := Tryd.sizeOf5,
  v5 := Tryd.zeroValue5,
  t9 := Tryd.underlying9,
  a9 := Tryd.isAgg9,
  z9 := Tryd.sizeOf9,
  v9 := Tryd.zeroValue9,
  t22 := Tryd.underlying27,
  a22 := Tryd.isAgg27,
  z22 := Tryd.sizeOf27,
  v22 := Tryd.zeroValue27,
  a24 := Tryd.isAgg31,
  z24 := Tryd.sizeOf31,
  t25 := Tryd.underlying34,
  a25 := Tryd.isAgg34,
  z25 := Tryd.sizeOf34,
  v25 := Tryd.zeroValue34,
  t39 := Tryd.underlying59,
  a39 := Tryd.isAgg59,
  z39 := Tryd.sizeOf59,
  v39 := Tryd.zeroValue59,
  t45 := Tryd.underlying72,
  a45 := Tryd.isAgg72,
  z45 := Tryd.sizeOf72,
  v45 := Tryd.zeroValue72,
  t46 := Tryd.underlying73,
  a46 := Tryd.isAgg73,
  z46 := Tryd.sizeOf73,
  v46 := Tryd.zeroValue73,
  t50 := Tryd.underlying77,
  a50 := Tryd.isAgg77,
  z50 := Tryd.sizeOf77,
  v50 := Tryd.zeroValue77,
  t53 := Tryd.underlying50,
  a53 := Tryd.isAgg50,
  z53 := Tryd.sizeOf50,
  v53 := Tryd.zeroValue50,
  t55 := Tryd.underlying80,
  a55 := Tryd.isAgg80,
  z55 := Tryd.sizeOf80,
  v55 := Tryd.zeroValue80,
  t66 := Tryd.underlying82,
  a66 := Tryd.isAgg82,
  z66 := Tryd.sizeOf82,
  v66 := Tryd.zeroValue82,
  t70 := Tryd.underlying86,
  a70 := Tryd.isAgg86,
  z70 := Tryd.sizeOf86,
  v70 := Tryd.zeroValue86,
  t76 := Tryd.underlying88,
  a76 := Tryd.isAgg88,
  z76 := Tryd.sizeOf88,
  v76 := Tryd.zeroValue88,
  t77 := Tryd.underlying89,
  a77 := Tryd.isAgg89,
  z77 := Tryd.sizeOf89,
  v77 := Tryd.zeroValue89 }

/-- A value that reads as a list of integers in w, outside block blk. -/
abbrev InL (w : World) (blk : Nat) := { p : Value × List Int // IsRow w p.1 p.2 ∧ (0 < p.2.length → p.1.ownBlock ≠ some blk) }
instance (w : World) (blk : Nat) : Inhabited (InL w blk) := ⟨⟨(.slice none 0 0, []), IsRow.nil w, fun h => by simp at h⟩⟩
def encR {w : World} {blk : Nat} (x : InL w blk) : Value := x.1.1
def cmpR {w : World} {blk : Nat} (x y : InL w blk) : Int := cmpI x.1.2 y.1.2
theorem cmpR_swo (w : World) (blk : Nat) : Sort.SWO (ltOf (cmpR (w := w) (blk := blk))) where
  irrefl x := by unfold ltOf cmpR; rw [cmpI_self]; simp
  trans x y z h1 h2 := by
    unfold ltOf cmpR at *
    simp only [decide_eq_true_eq] at *
    exact cmpI_trans h1 h2
  ntrans x y z h1 h2 := by
    unfold ltOf cmpR at *
    simp only [decide_eq_false_iff_not, Int.not_lt] at *
    by_cases e1 : x.1.2 = y.1.2
    · rw [e1]; exact h2
    · by_cases e2 : y.1.2 = z.1.2
      · rw [← e2]; exact h1
      · have k1 : cmpI y.1.2 x.1.2 < 0 := by
          have := cmpI_neg x.1.2 y.1.2
          have : cmpI x.1.2 y.1.2 ≠ 0 := fun h => e1 (cmpI_eq h)
          omega
        have k2 : cmpI z.1.2 y.1.2 < 0 := by
          have := cmpI_neg y.1.2 z.1.2
          have : cmpI y.1.2 z.1.2 ≠ 0 := fun h => e2 (cmpI_eq h)
          omega
        have k3 := cmpI_trans k2 k1
        have := cmpI_neg z.1.2 x.1.2
        omega
theorem below_sortWorld1 {α : Type} [Inhabited α] (enc : α → Value) {B blk off n : Nat} {w : World} {d' : Array α} {os : Array Obj} (h : B ≤ blk) (hB : B ≤ w.heap.size) : Below B w (sortWorld enc w blk off n d' os) := by
  refine ⟨rfl, rfl, rfl, ?_, fun k hk => ?_⟩
  · unfold sortWorld Sort.grow
    simp [Sort.putRow, Sort.mapBlock, Sort.ahead]
  · unfold sortWorld Sort.grow Sort.putRow Sort.mapBlock Sort.ahead
    dsimp only
    rw [Array.getElem?_append_left (by simp; omega), Array.getElem?_modify, if_neg (by omega)]
theorem sortWorld_other {α : Type} [Inhabited α] (enc : α → Value) {blk off n k : Nat} {w : World} {d' : Array α} {os : Array Obj} (h : k ≠ blk) (hk : k < w.heap.size) : (sortWorld enc w blk off n d' os).heap[k]? = w.heap[k]? := by
  unfold sortWorld Sort.grow Sort.putRow Sort.mapBlock Sort.ahead
  dsimp only
  rw [Array.getElem?_append_left (by simp; omega), Array.getElem?_modify, if_neg (by omega)]
theorem sortWorld_size {α : Type} [Inhabited α] (enc : α → Value) {blk off n : Nat} {w : World} {d' : Array α} {os : Array Obj} : w.heap.size ≤ (sortWorld enc w blk off n d' os).heap.size := by
  unfold sortWorld Sort.grow
  simp [Sort.putRow, Sort.mapBlock, Sort.ahead]
theorem isrow_sortWorld {w : World} {blk off n : Nat} {d' : Array (InL w blk)} {os : Array Obj} (x : InL w blk) : IsRow (sortWorld encR w blk off n d' os) x.1.1 x.1.2 := by
  obtain ⟨⟨u, c⟩, h, hb⟩ := x
  obtain ⟨a, cap, e, h1, h2, h3⟩ := h
  refine ⟨a, cap, e, h1, h2, fun i hi => ?_⟩
  obtain ⟨b, off', rfl, h4, h5⟩ := h3 i hi
  have hne : b ≠ blk := fun e' => hb (by show 0 < c.length; simp only at hi; omega) (by simp only at e ⊢; rw [e, e']; rfl)
  exact ⟨b, off', rfl, Nat.lt_of_lt_of_le h4 (sortWorld_size _), (World.cell?_of_block (a := ⟨b, off' + i, none⟩) (sortWorld_other _ hne h4)).trans h5⟩
theorem cmpR_lays (w : World) (blk off size : Nat) : CmpLays1 Tryd.prog 32 #[] (encR (w := w) (blk := blk)) cmpR blk off size w := fun m os dk _ x y =>
  (CompareL_any x.1.1 y.1.1 x.1.2 y.1.2 _ (isrow_sortWorld x) (isrow_sortWorld y)).mono fun _ _ ⟨he, hw⟩ => ⟨he, 0, #[], by rw [hw, Sort.grow_empty]; rfl⟩
theorem sortR_calls (w : World) (blk off cap : Nat) (d : Array (InL w blk)) (hH : Sort.Holds encR w blk off d) (hblk : blk < w.heap.size) (hsz : d.size < 4611686018427387904) :
    Calls Tryd.prog 31 #[.slice (some ⟨blk, off, none⟩) d.size cap, .func (.func 32) #[] #[]] w fun e w' =>
      e = .returned (.tuple #[]) ∧ ∃ d' n os, Sort.PermIn 0 d.size d d' ∧ Sort.SortedIn (ltOf cmpR) 0 d.size d' ∧ w' = sortWorld encR w blk off n d' os :=
  Any.slices_SortFunc sortR encR (fun x => isrow_one x.2.1) cmpR (cmpR_swo w blk) 32 #[] blk off cap d w
    (enters_of Tryd.func32 (by kernel_rfl) rfl) (cmpR_lays w blk off d.size) hH hblk hsz
theorem sortR_none (p : Option Addr) (cap : Nat) (fv : Value) (w : World) :
    Calls Tryd.prog 31 #[.slice p 0 cap, fv] w fun e w' => e = .returned (.tuple #[]) ∧ w' = w := AnyF.slices_SortFunc_none { sortR with } p cap fv w
theorem SortR_any (v : Value) (ll : List (List Int)) (base : Nat) (w : World) (hown : OwnRr w base v ll) (hbase : base ≤ w.heap.size) (hE : ll.length ≤ 1000) :
    Calls Tryd.prog 31 #[v, .func (.func 32) #[] #[]] w fun e w' => e = .returned (.tuple #[]) ∧ (∃ ll' : List (List Int), ll'.Perm ll ∧ ll'.Pairwise (fun a b => ¬ LtI b a) ∧ RrRow w' v ll') ∧ Below base w w' := by
  obtain ⟨a, cap, rfl, h1, h2⟩ := hown.val
  rcases Nat.eq_zero_or_pos ll.length with h0 | h0
  · have hn : ll = [] := List.eq_nil_of_length_eq_zero h0
    subst hn
    exact (sortR_none a cap _ w).mono fun e w' ⟨he, hw⟩ => ⟨he, ⟨[], List.Perm.refl _, List.Pairwise.nil, by rw [hw]; exact hown.row⟩, by rw [hw]; exact Below.refl _ _⟩
  · obtain ⟨us, hul, ho, hr⟩ := hown
    obtain ⟨g, cap', hv, hg1, hg2⟩ := World.ownsRow.form ho h0
    simp only [Value.slice.injEq] at hv
    obtain ⟨rfl, -, rfl⟩ := hv
    obtain ⟨d, hd⟩ : ∃ d : Array (InL w g), d = Array.ofFn (fun i : Fin ll.length => (⟨(us.getD i.val undef, rAt ll i.val), (hr i.val i.isLt).1, fun h0 e => (hr i.val i.isLt).2 h0 g e rfl⟩ : InL w g)) := ⟨_, rfl⟩
    have hds : d.size = ll.length := by rw [hd]; simp
    have hdat : ∀ i, (hi : i < ll.length) → d[i]!.1 = (us.getD i undef, rAt ll i) := fun i hi => by
      rw [getElem!_pos d i (by omega)]
      simp only [hd, Array.getElem_ofFn]
    have hH : Sort.Holds encR w g 0 d := by
      intro j hj
      rw [hds] at hj
      refine ⟨?_, by rw [Nat.zero_add]; exact World.ownsRow.frozenAt ho j⟩
      rw [Nat.zero_add]
      refine (World.ownsRow.cellAt ho j (by omega)).trans ?_
      unfold encR
      rw [hdat j hj, List.getD_eq_getElem?_getD, List.getElem?_eq_getElem (by omega)]; rfl
    have hs := sortR_calls w g 0 cap d hH hg2 (by omega)
    rw [hds] at hs
    refine hs.mono fun e w' ⟨he, d', n, os, hp, hso, hw⟩ => ⟨he, ⟨d'.toList.map (fun x => x.1.2), ?_, ?_, ?_⟩, by rw [hw]; exact below_sortWorld1 _ hg1 hbase⟩
    · have h3 := hp.2.2
      have h4 : d'.size = ll.length := by have := hp.1; omega
      have e1 : d'.extract 0 ll.length = d' := by rw [← h4]; simp
      have e2 : d.extract 0 ll.length = d := by rw [← hds]; simp
      rw [e1, e2] at h3
      have e3 : d.toList.map (fun x => x.1.2) = ll := by
        apply List.ext_getElem (by simp [hds])
        intro i q1 q2
        have := hdat i q2
        rw [getElem!_pos d i (by omega)] at this
        simp only [List.getElem_map, Array.getElem_toList, this, rAt_lt ll i q2]
      have h5 := h3.map (fun x : InL w g => x.1.2)
      first | exact h5.trans (by rw [e3]) | exact (h5.symm).trans (by rw [e3]) | (rw [e3] at h5; exact h5) | (rw [e3] at h5; exact h5.symm)
    · have h4 : d'.size = ll.length := by have := hp.1; omega
      rw [List.pairwise_map, List.pairwise_iff_getElem]
      intro i j hi hj hij
      have h5 := hso i j (Nat.zero_le _) hij (by simpa [h4] using hj)
      rw [getElem!_pos d' j (by simpa using hj), getElem!_pos d' i (by simpa using hi)] at h5
      unfold ltOf cmpR at h5
      simp only [decide_eq_false_iff_not] at h5
      exact h5
    · have h4 : d'.size = ll.length := by have := hp.1; omega
      rw [hw]
      have hH' := holds_sortWorld encR w g 0 n d d' os hg2 hH (by omega)
      refine ⟨some ⟨g, 0, none⟩, cap, by simp [h4], by simpa [h4] using h1, h2, fun i hi => ?_⟩
      have hi' : i < d'.size := by simpa using hi
      refine ⟨g, 0, encR d'[i]!, rfl, lt_sortWorld encR w g 0 n d' os hg2, (hH' i hi').1, ?_⟩
      have e : rAt (d'.toList.map (fun x => x.1.2)) i = d'[i]!.1.2 := by
        rw [rAt_lt _ _ hi, getElem!_pos d' i hi']; simp
      rw [e]
      exact isrow_sortWorld d'[i]!
end Go.Proofs.YtodkmbjhdckjiaaDoor
