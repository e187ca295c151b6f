
/- Package scene: all said answers of a scene, how many are something. -/
import Derived.Test.YtigjljmhpkeahaaGreatScB
import Derived.Test.YtigjljmhpkeahaaGreatGd
import Derived.Test.YtigjljmhpkeahaaGreatGe
import Derived.Deep.RegionLaw
import Derived.IntWalk
namespace Go.Proofs.YtigjljmhpkeahaaGreat
open Go.RowKit
attribute [local go_sem ↓] run_max_mx run_min_mn run_eql_iv run_neq_iv run_eql_an run_neq_an

def sdFit (l : List Sd) : Nat → Bool
 | 0 => true
 | k + 1 => sdFit l k && anFit (sdAt l k).a (sdAt l k).p
theorem sdFit_false (l : List Sd) {k : Nat} (h : anFit (sdAt l k).a (sdAt l k).p = false) : ∀ n, k < n → sdFit l n = false
 | n + 1, hn => by
  rw [sdFit]
  by_cases hk : k < n
  ·rw [sdFit_false l h n hk]; rfl
  ·obtain rfl : k = n := by omega
   rw [h, Bool.and_false]
def sdCnt (q : Sd → Bool) (l : List Sd) (k : Nat) : Nat := cntTo (fun i => q (sdAt l i)) k
theorem SdAt.of {w w' : World} {b o : Nat} {s : Sd} (h : SdAt w b o s) (hc : ∀ i, w'.cell? ⟨b, i, none⟩ = w.cell? ⟨b, i, none⟩) : SdAt w' b o s := by
 obtain ⟨⟨a0, a1, a2, a3, a4, a5⟩, ⟨b0, b1, b2, b3, b4, b5, b6, b7⟩, c⟩ := h
 exact ⟨⟨(hc _).trans a0, (hc _).trans a1, (hc _).trans a2, (hc _).trans a3, (hc _).trans a4, (hc _).trans a5⟩, ⟨(hc _).trans b0, (hc _).trans b1, (hc _).trans b2, (hc _).trans b3, (hc _).trans b4, (hc _).trans b5, (hc _).trans b6, (hc _).trans b7⟩, (hc _).trans c⟩
theorem AnAt.of {w w' : World} {b o : Nat} {s : An} (h : AnAt w b o s) (hc : ∀ i, w'.cell? ⟨b, i, none⟩ = w.cell? ⟨b, i, none⟩) : AnAt w' b o s := by
 obtain ⟨a0, a1, a2, a3, a4, a5⟩ := h
 exact ⟨(hc _).trans a0, (hc _).trans a1, (hc _).trans a2, (hc _).trans a3, (hc _).trans a4, (hc _).trans a5⟩
set_option maxRecDepth 100000 in
set_option maxHeartbeats 400000 in
theorem scUnfit_any (s : Sd) (w : World) : Calls Tryz.prog 97 #[valS s] w fun e w' => e = .returned (.bool (!anFit s.a s.p)) ∧ Below w.heap.size w w' := by
 have hF := fun W => scFits_any s W
 have HF := hide hF
 unfold valS at *
 clear hF
 go_enter Tryz.func97, Tryz.ntmps97
 go_wp2_with (go_at_call 98; refine (HF.out _).mono ?_; rintro e w1 ⟨rfl, b1⟩)
 go_ret
 exact ⟨rfl, (by ((with_reducible repeat' first | exact .refl _ _ | exact b1 | refine .alloc ?_ ?_ _ | refine .setCell ?_ ?_ _ | refine .drew ?_ | refine below_drewN ?_ _ | refine Below.trans ?_ (b1.mono ?_)) <;> first | omega | simp <;> omega))⟩
set_option maxRecDepth 100000 in
set_option maxHeartbeats 1000000 in
theorem IndexFuncSd_any (v : Value) (l : List Sd) (w : World) (hv : SdRow w v l) :
  Calls Tryz.prog 148 #[v, .func (.func 97) #[] #[]] w fun e w' => (∃ r : Int, e = .returned (.int .i64 r) ∧ (r < 0 ∧ sdFit l l.length = true ∨ 0 ≤ r ∧ sdFit l l.length = false)) ∧ Below w.heap.size w w' := by
 have Hv := hide hv
 obtain ⟨a, cap, rfl, h1, h2⟩ := hv.len
 clear hv
 go_enter Tryz.func148, Tryz.ntmps148
 go_wp2
 go_loopw [8] (fun i wr => ∃ k : Nat, k ≤ l.length ∧ i = .int .i64 k ∧ Hid (sdFit l k = true) ∧ Below w.heap.size w wr) (fun i _ => l.length - (intOf i).toNat)
 case atStart => exact ⟨0, Nat.zero_le _, rfl, hide rfl, Below.refl _ _⟩
 case round =>
  obtain ⟨k, hk, rfl, Hall, hB⟩ := hrel
  by_cases hlt : k < l.length
  ·obtain ⟨b, off, cap', e, -, -, h4, h5⟩ := Hv.out.at0 (by omega)
   cases e
   have hsd := (h5 k hlt).of (bk hB b h4).1
   have hnx : sdFit l (k + 1) = (sdFit l k && anFit (sdAt l k).a (sdAt l k).p) := rfl
   have hno := sdFit_false l (k := k)
   have I1 : (0 : Int) ≤ (k : Int) := by omega
   have I2 : (k : Int) < (l.length : Int) := by omega
   generalize sdAt l k = s at *
   have hU := fun W => scUnfit_any s W
   unfold valS at hU
   have HU := hide hU
   obtain ⟨⟨a0, a1, a2, a3, a4, a5⟩, ⟨b0, b1, b2, b3, b4, b5, b6, b7⟩, c0⟩ := hsd
   have hz := hB.size
   clear h5 hU
   cases hval : anFit s.a s.p with
   | true =>
    rw [hval, Bool.and_true] at hnx
    have Hnx := hide hnx
    clear hno hnx
    go_wp2_with (go_at_call 97; refine (HU.out _).mono ?_; rintro e w' ⟨rfl, hb⟩; rw [hval])
    go_roundw
    case rel => exact ⟨k + 1, by omega, by go_num, hide (by rw [Hnx.out]; exact Hall.out), (by ((with_reducible repeat' first | exact .refl _ _ | exact hB | exact hb | refine .alloc ?_ ?_ _ | refine .setCell ?_ ?_ _ | refine .drew ?_ | refine below_drewN ?_ _ | refine Below.trans ?_ (hB.mono ?_) | refine Below.trans ?_ (hb.mono ?_)) <;> first | omega | simp <;> omega))⟩
    case measure => simp [intOf]; omega
   | false =>
    have Hno := hide (hno hval)
    clear hno hnx
    go_wp2_with (go_at_call 97; refine (HU.out _).mono ?_; rintro e w' ⟨rfl, hb⟩; rw [hval])
    go_ret
    exact ⟨⟨_, rfl, .inr ⟨by omega, Hno.out _ hlt⟩⟩, (by ((with_reducible repeat' first | exact .refl _ _ | exact hB | exact hb | refine .alloc ?_ ?_ _ | refine .setCell ?_ ?_ _ | refine .drew ?_ | refine below_drewN ?_ _ | refine Below.trans ?_ (hB.mono ?_) | refine Below.trans ?_ (hb.mono ?_)) <;> first | omega | simp <;> omega))⟩
  ·go_wp2_with fail
   go_ret
   exact ⟨⟨_, rfl, .inl ⟨by omega, by rw [← Hall.out, show k = l.length by omega]⟩⟩, hB⟩
set_option maxRecDepth 100000 in
set_option maxHeartbeats 400000 in
theorem ContainsFuncSd_any (v : Value) (l : List Sd) (w : World) (hv : SdRow w v l) :
  Calls Tryz.prog 96 #[v, .func (.func 97) #[] #[]] w fun e w' => e = .returned (.bool (!sdFit l l.length)) ∧ Below w.heap.size w w' := by
 have Hv := hide hv
 obtain ⟨a, cap, rfl, h1, h2⟩ := hv.len
 clear hv
 go_enter Tryz.func96, Tryz.ntmps96
 go_wp2_with (go_at_call 148; refine (IndexFuncSd_any _ l _ Hv.out).mono ?_; rintro e w' ⟨⟨r, rfl, hr⟩, hb⟩)
 go_ret
 refine ⟨ret_bool ?_, hb⟩
 rcases hr with ⟨h1, h2⟩ | ⟨h1, h2⟩ <;> simp [h2] <;> omega
end Go.Proofs.YtigjljmhpkeahaaGreat
