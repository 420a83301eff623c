/- Within 96 of the program, Ring 61 and Place 97 of the reference. -/
import Derived.Test.YtpablkmdpoombaaRing
namespace Go.Proofs.Ytpablkmdpoombaa
open Go.RowKit

def withinE (R : List Xy) (q : Xy) : Int := if ringB R = true then (if plX q = true then 0 else 11) else 72
def withinB (R : List Xy) (q : Xy) : Bool := ringB R && plX q && inRingB R q
theorem ringB_len {R : List Xy} (h : ringB R = true) : 3 ≤ R.length ∧ R.length ≤ 64 := by
  unfold ringB at h
  have h1 := (Bool.and_eq_true_iff.1 h).1
  simp [inB] at h1
  omega
theorem ringB_all {R : List Xy} (h : ringB R = true) {p : Xy} (hp : p ∈ R) : plX p = true := by
  unfold ringB at h
  exact List.all_eq_true.1 (Bool.and_eq_true_iff.1 h).2 p hp
set_option maxRecDepth 100000 in
set_option maxHeartbeats 1600000 in
theorem xWithin_any (v : Value) (R : List Xy) (cx cy : Int) (w : World) (hR : XysV w v R) (hm : R.length ≤ maxLen) :
    Calls Try.prog 96 #[v, .agg #[.int .i64 cx, .int .i64 cy]] w fun r w' => r = .returned (.tuple #[.bool (withinB R ⟨cx, cy⟩), .int .i64 (withinE R ⟨cx, cy⟩)]) ∧ Below w.heap.size w w' := by
  obtain ⟨a, cap, rfl, hrow⟩ := hR
  have HVR := hid (fun W (hb : Below w.heap.size w W) => XysV.still (R := R) ⟨a, cap, rfl, hrow⟩ hb)
  have HROW := hid hrow
  have HM := hid hm
  clear hrow hm
  cases hr : ringB R
  · have HR := hid hr
    have HE := hid (show withinE R ⟨cx, cy⟩ = 72 by unfold withinE; rw [hr]; rfl)
    have HB := hid (show withinB R ⟨cx, cy⟩ = false by unfold withinB; rw [hr]; rfl)
    clear hr
    obtain ⟨n, hn⟩ : ∃ n, n = R.length := ⟨_, rfl⟩
    rw [← hn] at HVR ⊢
    have HN := hid hn
    clear hn
    go_enter Try.func96, Try.ntmps96
    go_wp2_with fail
    refine (validRing_any _ R _ (HVR.out _ ((Below.refl _ _).alloc (Nat.le_refl _) _)) HM.out).mono ?_
    rintro r w1 ⟨rfl, hb⟩
    rw [HR.out]
    go_wp2_with fail
    go_ret2
    exact ⟨by rw [HE.out, HB.out]; rfl, ((Below.refl _ _).alloc (Nat.le_refl _) _).trans (hb.mono (by simp))⟩
  · have HR := hid hr
    have hlen := ringB_len hr
    obtain ⟨b, off, rfl, hbw, hrows⟩ := HROW.out.resolve_left (fun h => by rw [h] at hlen; simp at hlen)
    have HRW := hid hrows
    have HBW := hid hbw
    have HL := hid (show 0 < R.length by omega)
    clear HROW hrows hlen
    cases hp : placeB cx cy
    · have HP := hid hp
      have HE := hid (show withinE R ⟨cx, cy⟩ = 11 by unfold withinE; rw [hr, show plX ⟨cx, cy⟩ = false from hp]; rfl)
      have HB := hid (show withinB R ⟨cx, cy⟩ = false by unfold withinB; rw [hr, show plX ⟨cx, cy⟩ = false from hp]; rfl)
      clear hp hr
      obtain ⟨n, hn⟩ : ∃ n, n = R.length := ⟨_, rfl⟩
      rw [← hn] at HVR ⊢
      have HN := hid hn
      clear hn
      go_enter Try.func96, Try.ntmps96
      go_wp2_with fail
      refine (validRing_any _ R _ (HVR.out _ ((Below.refl _ _).alloc (Nat.le_refl _) _)) HM.out).mono ?_
      rintro r w1 ⟨rfl, hb⟩
      rw [HR.out]
      have K3 := hid (show w1.heap[w.heap.size]? = some (.cells #[.int .i64 cx, .int .i64 cy] 137) from heap_still hb (heap_alloc_at _ _ _ rfl))
      have HB1 := hid (((Below.refl w.heap.size w).alloc (Nat.le_refl _) (.cells #[.int .i64 cx, .int .i64 cy] 137)).trans (hb.mono (by simp)))
      clear hb
      go_wp2_with (refine wpList_load_at rfl 137 (.tmp 3) rfl rfl K3.out Try.underlying137 rfl size174 rfl ?_)
      refine (vplace_any _ _ _).mono ?_
      rintro r w2 ⟨rfl, hb⟩
      rw [HP.out]
      go_wp2_with fail
      go_ret2
      exact ⟨by rw [HE.out, HB.out]; rfl, HB1.out.trans (hb.mono HB1.out.size)⟩
    · have HP := hid hp
      have HE := hid (show withinE R ⟨cx, cy⟩ = 0 by unfold withinE; rw [hr, show plX ⟨cx, cy⟩ = true from hp]; rfl)
      have HB := hid (show withinB R ⟨cx, cy⟩ = inRingB R ⟨cx, cy⟩ by unfold withinB; rw [hr, show plX ⟨cx, cy⟩ = true from hp]; rfl)
      clear hp hr
      obtain ⟨n, hn⟩ : ∃ n, n = R.length := ⟨_, rfl⟩
      rw [← hn] at HVR ⊢
      have HN := hid hn
      clear hn
      go_enter Try.func96, Try.ntmps96
      go_wp2_with fail
      refine (validRing_any _ R _ (HVR.out _ ((Below.refl _ _).alloc (Nat.le_refl _) _)) HM.out).mono ?_
      rintro r w1 ⟨rfl, hb⟩
      rw [HR.out]
      have K3 := hid (show w1.heap[w.heap.size]? = some (.cells #[.int .i64 cx, .int .i64 cy] 137) from heap_still hb (heap_alloc_at _ _ _ rfl))
      have HB1 := hid (((Below.refl w.heap.size w).alloc (Nat.le_refl _) (.cells #[.int .i64 cx, .int .i64 cy] 137)).trans (hb.mono (by simp)))
      clear hb
      go_wp2_with (refine wpList_load_at rfl 137 (.tmp 3) rfl rfl K3.out Try.underlying137 rfl size174 rfl ?_)
      refine (vplace_any _ _ _).mono ?_
      rintro r w2 ⟨rfl, hb⟩
      rw [HP.out]
      have L3 := hid (heap_still hb K3.out)
      have HB2 := hid (HB1.out.trans (hb.mono HB1.out.size))
      clear hb
      go_wp2_with (refine wpList_load_at rfl 137 (.tmp 3) rfl rfl L3.out Try.underlying137 rfl size174 rfl ?_)
      rw [HN.out]
      refine (inRing_any b off cap R cx cy _ (Nat.lt_of_lt_of_le HBW.out HB2.out.size) (HRW.out.still HB2.out HBW.out) HL.out HM.out).mono ?_
      rintro r w3 ⟨rfl, hb⟩
      go_wp2_with fail
      go_ret2
      exact ⟨by rw [HE.out, HB.out]; rfl, HB2.out.trans (hb.mono HB2.out.size)⟩
end Go.Proofs.Ytpablkmdpoombaa
