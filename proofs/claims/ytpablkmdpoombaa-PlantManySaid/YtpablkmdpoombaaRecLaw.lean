/- PlantReceives: for every row of at most 2048 bytes the plant's Receive returns the points and the error that the document's does; for more the law answers by itself. Every input, no condition. -/
import Derived.Test.YtpablkmdpoombaaPAwake
namespace Go.Proofs.Ytpablkmdpoombaa
open Go.ChangeShapes Go.WideShapes Go.ChangeAt Go.RowKit Go.Maps Go.Sort

/-- points and an error returned -/
def DecP (P : List Pt) (er : Int) (r : Ending) (w' : World) : Prop := ∃ v, r = .returned (.tuple #[v, .int .i64 er]) ∧ PtsV w' v P
theorem decP_refused (w : World) : DecP [] 4 refusedD w := ⟨.slice none 0 0, rfl, none, 0, rfl, Or.inl rfl⟩
def BothP (w : World) (v : Value) (P : List Pt) (er : Int) : Prop :=
  (∀ W, Below w.heap.size w W → Calls Try.prog 12 #[v] W fun r w' => DecP P er r w' ∧ Below W.heap.size W w') ∧ (∀ W, Below w.heap.size w W → Calls Try.prog 15 #[v] W fun r w' => DecP P er r w' ∧ Below W.heap.size W w')
theorem recv_none (a : Option Addr) (c : Nat) (w : World) : BothP w (.slice a 0 c) [] 4 :=
  ⟨fun W _ => (xReceive_short a 0 c W (by omega)).mono (fun r w' ⟨h1, h2⟩ => ⟨h1 ▸ decP_refused w', h2⟩), fun W _ => (rReceive_none a c W).mono (fun r w' ⟨h1, h2⟩ => ⟨h1 ▸ decP_refused w', h2⟩)⟩
theorem recv_both (b off cap : Nat) (l : List Nat) (w : World) (hl0 : l.length ≤ 800000) (hbw : b < w.heap.size) (hl : ∀ x ∈ l, x < 256) (hnc : l.length ≤ cap) (hc : cap ≤ 9223372036854775807) (hb : bytesAt w b off l.length (fun i => l.getD i 0)) :
    ∃ P er, P.length ≤ 1024 ∧ BothP w (.slice (some ⟨b, off, none⟩) l.length cap) P er := by
  have hR := fun W (hW : Below w.heap.size w W) => rReceive_any b off cap l W (Nat.lt_of_lt_of_le hbw hW.size) hl hnc hc (bytes_still hb hbw hW)
  rcases Nat.lt_or_ge l.length 4 with h4 | h4
  · refine ⟨[], 4, by simp, fun W _ => (xReceive_short (some ⟨b, off, none⟩) l.length cap W h4).mono (fun r w' ⟨h1, h2⟩ => ⟨h1 ▸ decP_refused w', h2⟩), fun W hW => (hR W hW).mono ?_⟩
    rintro r w' ⟨⟨h, _⟩ | ⟨_, rfl⟩, h2⟩
    · exact absurd h (okD_short (by omega))
    · exact ⟨decP_refused w', h2⟩
  · obtain ⟨n, hn⟩ : ∃ n, l.length = n + 4 := ⟨l.length - 4, by omega⟩
    have hX := fun W (hW : Below w.heap.size w W) => xReceive_long b off n cap l W (Nat.lt_of_lt_of_le hbw hW.size) hl hn (by omega) (by omega) hc (bytes_still hb hbw hW)
    rw [← hn] at hX
    rcases okD_both hl hn with ⟨h1, h2, h3⟩ | ⟨h1, h2⟩
    · refine ⟨(delR (stL l)).1, 0, ((goodL_iff _).1 h2.2.1).1, fun W hW => (hX W hW).mono ?_, fun W hW => (hR W hW).mono ?_⟩
      · rintro r w' ⟨⟨_, h⟩ | ⟨h, _⟩, hb⟩
        · rw [h3] at h; exact ⟨h, hb⟩
        · exact absurd h1 h
      · rintro r w' ⟨⟨_, h⟩ | ⟨h, _⟩, hb⟩
        · exact ⟨h, hb⟩
        · exact absurd h2 h
    · refine ⟨[], 4, by simp, fun W hW => (hX W hW).mono ?_, fun W hW => (hR W hW).mono ?_⟩
      · rintro r w' ⟨⟨h, _⟩ | ⟨_, rfl⟩, hb⟩
        · exact absurd h h1
        · exact ⟨decP_refused w', hb⟩
      · rintro r w' ⟨⟨h, _⟩ | ⟨_, rfl⟩, hb⟩
        · exact absurd h h2
        · exact ⟨decP_refused w', hb⟩
set_option maxRecDepth 100000 in
set_option maxHeartbeats 3200000 in
theorem receives_law (a : Option Addr) (n c : Nat) (P : List Pt) (er : Int) (w : World) (hp : P.length ≤ 1024) (h : n ≤ 2048 → BothP w (.slice a n c) P er) :
    Calls Try.prog 4 #[.slice a n c] w fun r w' => r = .returned (.bool true) ∧ Below w.heap.size w w' := by
  by_cases hn : n ≤ 2048
  · have H12 := hid (h hn).1
    have H15 := hid (h hn).2
    have HPL := hid hp
    clear h hp
    go_enter Try.func4, Try.ntmps4
    go_wp2_with fail
    refine (H12.out _ (Below.refl _ _)).mono ?_
    rintro r w1 ⟨⟨v1, rfl, hv1⟩, hb⟩
    have HV1 := hid hv1
    have HB1 := hid hb
    have hz1 := hb.size
    obtain ⟨a1, c1, rfl, _⟩ := hv1
    clear hb
    go_wp2_with fail
    refine (H15.out _ HB1.out).mono ?_
    rintro r w2 ⟨⟨v2, rfl, hv2⟩, hb2⟩
    have HSM := hid (same_pts _ _ P w2 (HV1.out.still hb2) hv2 (by have := HPL.out; omega))
    obtain ⟨a2, c2, rfl, _⟩ := hv2
    have HB2 := hid (HB1.out.trans (hb2.mono hz1))
    have hz2 := HB2.out.size
    clear hb2
    go_wp2_with fail
    refine HSM.out.mono ?_
    rintro r w3 ⟨rfl, hb3⟩
    have HB3 := hid (HB2.out.trans (hb3.mono hz2))
    have hz3 := HB3.out.size
    clear hb3
    go_wp2_with fail
    refine (pawake_any _).mono ?_
    rintro r w4 ⟨rfl, hb4⟩
    go_wp2_with fail
    go_ret
    exact ⟨rfl, HB3.out.trans (hb4.mono hz3)⟩
  · clear h
    go_enter Try.func4, Try.ntmps4
    go_wp2_with fail
    refine (pawake_any _).mono ?_
    rintro r w3 ⟨rfl, hb3⟩
    go_wp2_with fail
    go_ret
    exact ⟨rfl, hb3⟩
set_option maxRecDepth 100000 in
theorem plantReceives_lifted (os : Os) (started : os.Started) (H : Type) (enc : TypeId × Value → H) :
    ReturnsInHanded {} Try.checked os 4 .any (Rows.plantReceivesSpec.pre6 enc Try.prog Try.f4 Rows.plantReceivesRow.domain false) (Rows.plantReceivesSpec.post enc Try.prog Try.f4 false true false false) := by
  refine law_lifted (C := Try.checked) (tb := 4) lawOwn started (by kernel_rfl) Try.func4 rfl ?_ (show Try.f4.resultTypes = #[4] by kernel_rfl) Try.underlying4 lawLaid ?_
    (ChangeSpec.witness6 (enc := enc) (C := Try.checked) false ⟨#[], #[.slice none 0 0], []⟩ 8 (by kernel_rfl) (by kernel_rfl) (by kernel_rfl) (by kernel_rfl)) ?_
  · intro ds hds
    match ds, hds with
    | [d1], _ => exact ⟨rfl, rfl, rfl⟩
  · rw [Try.params4]
    intro t ht
    simp at ht
    rcases ht with rfl
    all_goals exact ⟨by kernel_rfl, of_decide_eq_true (by kernel_rfl)⟩
  · intro W base args ds p hval hA hlt _
    change DataW.TrodAll enc Try.prog W 0 (fun _ => true) true Try.f4.params.toList args.toList ds p at hA
    change ∀ (j : Nat) t v, Try.f4.params[j]? = some t → args[j]? = some v → Value.okWide Try.prog W .any base t v at hval
    rw [Try.params4] at hA hval
    obtain ⟨v0, vs0, d0, ds0, p0, q0, hargs, rfl, rfl, h0, r0⟩ := trodAll_cons hA
    obtain ⟨rfl, rfl, rfl⟩ := trodAll_nil r0
    obtain rfl : args = #[v0] := by cases args; simp_all
    rcases open_rows Try.underlying24 lawFlat5 lawSize5 (by decide) (hval 0 24 v0 rfl rfl) h0 with rfl | ⟨a, c, rfl⟩ | ⟨b, off, n, c, rfl, hn, hc, hm, hr⟩
    · exact receives_law none 0 0 [] 4 W (by simp) (fun _ => recv_none none 0 W)
    · exact receives_law (some a) 0 c [] 4 W (by simp) (fun _ => recv_none _ c W)
    · obtain ⟨l, rfl, hl, hb⟩ := bytes_rows hr
      have hbw := cell_lt (hb 0 hn)
      by_cases h2 : l.length ≤ 2048
      · obtain ⟨P, er, hp, hB⟩ := recv_both b off c l W (by omega) hbw hl hc (by unfold maxLen at hm; omega) hb
        exact receives_law _ l.length c P er W hp (fun _ => hB)
      · exact receives_law _ l.length c [] 4 W (by simp) (fun h => absurd h h2)
/-- PlantReceives, whatever the input. -/
theorem plantReceives_holds : Rows.PlantReceivesSaid :=
  OpenClaim.holds_of_wide 4 Try.f4 rfl rfl rfl rfl rfl rfl rfl ⟨rfl, rfl, rfl, rfl, rfl⟩ rfl rfl rfl rfl rfl (by kernel_rfl) Try.func4 (by kernel_rfl)
    (of_decide_eq_true (by kernel_rfl)) (by unfold Func.isWrapper; rw [if_neg (of_decide_eq_false (by kernel_rfl))]; exact ⟨rfl, rfl⟩)
    (fun os started H enc _ => plantReceives_lifted os started H enc)
#print axioms plantReceives_holds
end Go.Proofs.Ytpablkmdpoombaa
