/- The reference's numbers: sums and differences of natural numbers. -/
import Derived.Test.YteoikaedpgianaaLimb2
namespace Go.Proofs.Yteoikaedpgianaa
open Go.RowKit Limb

theorem digit_lt (n i : Nat) : n / 65536 ^ i % 65536 < 65536 := Nat.mod_lt _ (by decide)
set_option maxRecDepth 100000 in
set_option maxHeartbeats 800000 in
theorem plus_any (m n : Nat) (va vb : Value) (w : World) (ha : NatAt w va m) (hb : NatAt w vb n) (hla : (natL m).length ≤ 100000) (hlb : (natL n).length ≤ 100000) :
    Calls Try.prog 130 #[va, vb] w fun r w' => (∃ v, r = .returned v ∧ NatIn w.heap.size w' v (m + n)) ∧ Below w.heap.size w w' := by
  obtain ⟨i0, hi, hz0, hz1, hz2⟩ := info_parts info3
  have HI := hid hi
  have HZ0 := hid hz0
  have HZ1 := hid hz1
  have HZ2 := hid hz2
  clear hi hz0 hz1 hz2
  obtain ⟨a, ca, rfl, hsa, hra⟩ := ha.open
  obtain ⟨b, cb, rfl, hsb, hrb⟩ := hb.open
  have HA := hid hra
  have HB := hid hrb
  have HDM := hid (natL_digit_high m)
  have HDN := hid (natL_digit_high n)
  obtain ⟨mx, hmx⟩ : ∃ mx, (natL m).length ≤ mx ∧ (natL n).length ≤ mx ∧ mx ≤ 100000 := ⟨100000, hla, hlb, Nat.le_refl _⟩
  clear ha hb hra hrb
  have HEND := hid (fun (i : Nat) (o : List Nat) h => plus_end (m := m) (n := n) (i := i) (o := o) h)
  generalize (natL m).length = p at *
  generalize (natL n).length = q at *
  go_enter Try.func130, Try.ntmps130
  go_wp2_with fail
  go_loopw [5, 6, 7] (fun v cv iv wr => ∃ (k c : Nat) (ys : List Nat), k ≤ 100001 ∧ iv = .int .i64 k ∧ cv = .int .i64 c ∧ ys.length = k ∧ c ≤ 1 ∧ (k = 100001 → c = 0) ∧ (∀ x ∈ ys, x < 65536) ∧ val ys + c * 65536 ^ k = m % 65536 ^ k + n % 65536 ^ k ∧ wr.ownsRow w.heap.size 3 1 v ys.length (i64s ys) ∧ Below w.heap.size w wr) (fun _ _ i _ => 100002 - (intOf i).toNat)
  case atStart => exact ⟨0, 0, [], by omega, rfl, rfl, rfl, by omega, by omega, by simp, by simp [val, Nat.mod_one], World.ownsRow_nil _ _ _ _, Below.refl _ _⟩
  case round =>
    obtain ⟨k, c, ys, hk, rfl, rfl, rfl, hc, hkc, hlt, he, hown2, hB⟩ := hrel
    have hz2 := hB.size
    have HB2 := hid hB
    have HO2 := hid hown2
    have HLT := hid hlt
    have HA1 := hid (HA.out wr hB ys.length)
    have HB1 := hid (HB.out wr hB ys.length)
    have hd1 := digit_lt m ys.length
    have hd2 := digit_lt n ys.length
    have HDM1 := hid (HDM.out ys.length)
    have HDN1 := hid (HDN.out ys.length)
    have HS := hid (fun (s : Nat) hs => plus_step (m := m) (n := n) rfl he (s := s) hs)
    have HE := hid he
    have HEN := hid (HEND.out ys.length ys)
    clear hB hown2 hlt he
    by_cases h1 : ys.length < p
    · obtain ⟨g, rfl, hg, hca⟩ := HA1.out h1
      by_cases h2 : ys.length < q
      · obtain ⟨g', rfl, hg', hcb⟩ := HB1.out h2
        simp only at hca hcb
        generalize m / 65536 ^ ys.length % 65536 = x at *
        generalize n / 65536 ^ ys.length % 65536 = y at *
        go_wp2_with (at_builtin; refine wpList_append_own _ rfl (.tmp 46) (.tmp 49) 31 rfl w.heap.size 3 i0 (.int .i64 0) 1 8 Try.underlying31 HI.out HZ0.out HZ1.out HZ2.out rfl (by decide) _ ys.length (i64s ys) rfl (HO2.out.alloc _) ⟨wr.heap.size, 0, none⟩ 1 1 (i64s [(c + x + y) % 65536]) rfl rfl (i64_at (by omega)) (i64s_one _) (by unfold maxLen; omega) (by omega) (by simp; omega) ?_; intro v' w2 hown3 hgrow3 hnil3)
        have hb3 := grown_below3 HB2.out HO2.out hgrow3 hz2
        rw [← i64s_append, show ys.length + 1 = (ys ++ [(c + x + y) % 65536]).length by simp] at hown3
        have HB3 := hid hb3
        have HO3 := hid hown3
        clear hb3 hown3 hgrow3 hnil3
        go_wp2_with fail
        go_roundw
        case rel => exact ⟨ys.length + 1, (c + x + y) / 65536, ys ++ [(c + x + y) % 65536], by omega, by go_num, by go_num, by simp, by omega, by omega, by intro x hx; simp at hx; rcases hx with hx | rfl; exact HLT.out x hx; omega, HS.out _ (by omega), HO3.out, HB3.out⟩
        case measure => (try simp [intOf]); (try omega)
      · have hy : n / 65536 ^ ys.length % 65536 = 0 := by rw [HDN1.out (by omega)]
        simp only at hca
        generalize m / 65536 ^ ys.length % 65536 = x at *
        generalize n / 65536 ^ ys.length % 65536 = y at *
        go_wp2_with (at_builtin; refine wpList_append_own _ rfl (.tmp 46) (.tmp 49) 31 rfl w.heap.size 3 i0 (.int .i64 0) 1 8 Try.underlying31 HI.out HZ0.out HZ1.out HZ2.out rfl (by decide) _ ys.length (i64s ys) rfl (HO2.out.alloc _) ⟨wr.heap.size, 0, none⟩ 1 1 (i64s [(c + x) % 65536]) rfl rfl (i64_at (by omega)) (i64s_one _) (by unfold maxLen; omega) (by omega) (by simp; omega) ?_; intro v' w2 hown3 hgrow3 hnil3)
        have hb3 := grown_below3 HB2.out HO2.out hgrow3 hz2
        rw [← i64s_append, show ys.length + 1 = (ys ++ [(c + x) % 65536]).length by simp] at hown3
        have HB3 := hid hb3
        have HO3 := hid hown3
        clear hb3 hown3 hgrow3 hnil3
        go_wp2_with fail
        go_roundw
        case rel => exact ⟨ys.length + 1, (c + x) / 65536, ys ++ [(c + x) % 65536], by omega, by go_num, by go_num, by simp, by omega, by omega, by intro x hx; simp at hx; rcases hx with hx | rfl; exact HLT.out x hx; omega, HS.out _ (by omega), HO3.out, HB3.out⟩
        case measure => (try simp [intOf]); (try omega)
    · have hx : m / 65536 ^ ys.length % 65536 = 0 := by rw [HDM1.out (by omega)]
      by_cases h2 : ys.length < q
      · obtain ⟨g', rfl, hg', hcb⟩ := HB1.out h2
        simp only at hcb
        generalize m / 65536 ^ ys.length % 65536 = x at *
        generalize n / 65536 ^ ys.length % 65536 = y at *
        go_wp2_with (at_builtin; refine wpList_append_own _ rfl (.tmp 46) (.tmp 49) 31 rfl w.heap.size 3 i0 (.int .i64 0) 1 8 Try.underlying31 HI.out HZ0.out HZ1.out HZ2.out rfl (by decide) _ ys.length (i64s ys) rfl (HO2.out.alloc _) ⟨wr.heap.size, 0, none⟩ 1 1 (i64s [(c + y) % 65536]) rfl rfl (i64_at (by omega)) (i64s_one _) (by unfold maxLen; omega) (by omega) (by simp; omega) ?_; intro v' w2 hown3 hgrow3 hnil3)
        have hb3 := grown_below3 HB2.out HO2.out hgrow3 hz2
        rw [← i64s_append, show ys.length + 1 = (ys ++ [(c + y) % 65536]).length by simp] at hown3
        have HB3 := hid hb3
        have HO3 := hid hown3
        clear hb3 hown3 hgrow3 hnil3
        go_wp2_with fail
        go_roundw
        case rel => exact ⟨ys.length + 1, (c + y) / 65536, ys ++ [(c + y) % 65536], by omega, by go_num, by go_num, by simp, by omega, by omega, by intro x hx; simp at hx; rcases hx with hx | rfl; exact HLT.out x hx; omega, HS.out _ (by omega), HO3.out, HB3.out⟩
        case measure => (try simp [intOf]); (try omega)
      · have hy : n / 65536 ^ ys.length % 65536 = 0 := by rw [HDN1.out (by omega)]
        rcases Nat.eq_zero_or_pos c with rfl | hc0
        · have HV := hid (HEN.out HE.out (by omega) (by omega))
          go_wp2_with fail
          refine (trim_any w.heap.size ys.length _ ys wr HO2.out HLT.out).mono ?_
          rintro r w2 ⟨⟨v', rfl, hown⟩, rfl⟩
          go_wp2_with fail
          go_ret
          rw [HV.out] at hown
          exact ⟨⟨_, rfl, hown⟩, HB2.out⟩
        · generalize m / 65536 ^ ys.length % 65536 = x at *
          generalize n / 65536 ^ ys.length % 65536 = y at *
          go_wp2_with (at_builtin; refine wpList_append_own _ rfl (.tmp 46) (.tmp 49) 31 rfl w.heap.size 3 i0 (.int .i64 0) 1 8 Try.underlying31 HI.out HZ0.out HZ1.out HZ2.out rfl (by decide) _ ys.length (i64s ys) rfl (HO2.out.alloc _) ⟨wr.heap.size, 0, none⟩ 1 1 (i64s [c % 65536]) rfl rfl (i64_at (by omega)) (i64s_one _) (by unfold maxLen; omega) (by omega) (by simp; omega) ?_; intro v' w2 hown3 hgrow3 hnil3)
          have hb3 := grown_below3 HB2.out HO2.out hgrow3 hz2
          rw [← i64s_append, show ys.length + 1 = (ys ++ [c % 65536]).length by simp] at hown3
          have HB3 := hid hb3
          have HO3 := hid hown3
          clear hb3 hown3 hgrow3 hnil3
          go_wp2_with fail
          go_roundw
          case rel => exact ⟨ys.length + 1, c / 65536, ys ++ [c % 65536], by omega, by go_num, by go_num, by simp, by omega, by omega, by intro x hx; simp at hx; rcases hx with hx | rfl; exact HLT.out x hx; omega, HS.out _ (by omega), HO3.out, HB3.out⟩
          case measure => (try simp [intOf]); (try omega)

set_option maxRecDepth 100000 in
set_option maxHeartbeats 800000 in
theorem less_any (m n : Nat) (va vb : Value) (w : World) (ha : NatAt w va m) (hb : NatAt w vb n) (hla : (natL m).length ≤ 100000) (hnm : n ≤ m) :
    Calls Try.prog 132 #[va, vb] w fun r w' => (∃ v, r = .returned v ∧ NatIn w.heap.size w' v (m - n)) ∧ Below w.heap.size w w' := by
  obtain ⟨i0, hi, hz0, hz1, hz2⟩ := info_parts info3
  have HI := hid hi
  have HZ0 := hid hz0
  have HZ1 := hid hz1
  have HZ2 := hid hz2
  clear hi hz0 hz1 hz2
  obtain ⟨a, ca, rfl, hsa, hra⟩ := ha.open
  obtain ⟨b, cb, rfl, hsb, hrb⟩ := hb.open
  have HA := hid hra
  have HB := hid hrb
  have HDN := hid (natL_digit_high n)
  have hlb : (natL n).length ≤ (natL m).length := natL_length_mono hnm
  clear ha hb hra hrb
  have HEND := hid (fun (b : Nat) (o : List Nat) h h2 => less_end (m := m) (n := n) (b := b) (o := o) hnm h h2)
  generalize (natL m).length = p at *
  generalize (natL n).length = q at *
  clear hnm
  go_enter Try.func132, Try.ntmps132
  go_wp2_with fail
  go_loopw [5, 6, 7] (fun v cv iv wr => ∃ (k c : Nat) (ys : List Nat), k ≤ p ∧ iv = .int .i64 k ∧ cv = .int .i64 c ∧ ys.length = k ∧ c ≤ 1 ∧ (∀ x ∈ ys, x < 65536) ∧ val ys + n % 65536 ^ k = m % 65536 ^ k + c * 65536 ^ k ∧ wr.ownsRow w.heap.size 3 1 v ys.length (i64s ys) ∧ Below w.heap.size w wr) (fun _ _ i _ => p - (intOf i).toNat)
  case atStart => exact ⟨0, 0, [], by omega, rfl, rfl, rfl, by omega, by simp, by simp [val, Nat.mod_one], World.ownsRow_nil _ _ _ _, Below.refl _ _⟩
  case round =>
    obtain ⟨k, c, ys, hk, rfl, rfl, rfl, hc, hlt, he, hown2, hB⟩ := hrel
    have hz2 := hB.size
    have HB2 := hid hB
    have HO2 := hid hown2
    have HLT := hid hlt
    have HA1 := hid (HA.out wr hB ys.length)
    have HB1 := hid (HB.out wr hB ys.length)
    have hd1 := digit_lt m ys.length
    have hd2 := digit_lt n ys.length
    have HDN1 := hid (HDN.out ys.length)
    have HS := hid (fun (s b' : Nat) hs => less_step (m := m) (n := n) rfl he (s := s) (b' := b') hs)
    have HE := hid he
    have HEN := hid (HEND.out c ys)
    clear hB hown2 hlt he
    by_cases h1 : ys.length < p
    · obtain ⟨g, rfl, hg, hca⟩ := HA1.out h1
      by_cases h2 : ys.length < q
      · obtain ⟨g', rfl, hg', hcb⟩ := HB1.out h2
        simp only at hca hcb
        generalize m / 65536 ^ ys.length % 65536 = x at *
        generalize n / 65536 ^ ys.length % 65536 = y at *
        by_cases h3 : x < c + y
        · go_wp2_with (at_builtin; refine wpList_append_own _ rfl (.tmp 35) (.tmp 37) 31 rfl w.heap.size 3 i0 (.int .i64 0) 1 8 Try.underlying31 HI.out HZ0.out HZ1.out HZ2.out rfl (by decide) _ ys.length (i64s ys) rfl (HO2.out.alloc _) ⟨wr.heap.size, 0, none⟩ 1 1 (i64s [(x + 65536 - (c + y))]) rfl rfl (i64_at (by omega)) (i64s_one _) (by unfold maxLen; omega) (by omega) (by simp; omega) ?_; intro v' w2 hown3 hgrow3 hnil3)
          have hb3 := grown_below3 HB2.out HO2.out hgrow3 hz2
          rw [← i64s_append, show ys.length + 1 = (ys ++ [(x + 65536 - (c + y))]).length by simp] at hown3
          have HB3 := hid hb3
          have HO3 := hid hown3
          clear hb3 hown3 hgrow3 hnil3
          go_wp2_with fail
          go_roundw
          case rel => exact ⟨ys.length + 1, 1, ys ++ [(x + 65536 - (c + y))], by omega, by go_num, by go_num, by simp, by omega, by intro x hx; simp at hx; rcases hx with hx | rfl; exact HLT.out x hx; omega, HS.out _ _ (by omega), HO3.out, HB3.out⟩
          case measure => (try simp [intOf]); (try omega)
        · go_wp2_with (at_builtin; refine wpList_append_own _ rfl (.tmp 35) (.tmp 37) 31 rfl w.heap.size 3 i0 (.int .i64 0) 1 8 Try.underlying31 HI.out HZ0.out HZ1.out HZ2.out rfl (by decide) _ ys.length (i64s ys) rfl (HO2.out.alloc _) ⟨wr.heap.size, 0, none⟩ 1 1 (i64s [(x - (c + y))]) rfl rfl (i64_at (by omega)) (i64s_one _) (by unfold maxLen; omega) (by omega) (by simp; omega) ?_; intro v' w2 hown3 hgrow3 hnil3)
          have hb3 := grown_below3 HB2.out HO2.out hgrow3 hz2
          rw [← i64s_append, show ys.length + 1 = (ys ++ [(x - (c + y))]).length by simp] at hown3
          have HB3 := hid hb3
          have HO3 := hid hown3
          clear hb3 hown3 hgrow3 hnil3
          go_wp2_with fail
          go_roundw
          case rel => exact ⟨ys.length + 1, 0, ys ++ [(x - (c + y))], by omega, by go_num, by go_num, by simp, by omega, by intro x hx; simp at hx; rcases hx with hx | rfl; exact HLT.out x hx; omega, HS.out _ _ (by omega), HO3.out, HB3.out⟩
          case measure => (try simp [intOf]); (try omega)
      · have hy : n / 65536 ^ ys.length % 65536 = 0 := by rw [HDN1.out (by omega)]
        simp only at hca
        generalize m / 65536 ^ ys.length % 65536 = x at *
        generalize n / 65536 ^ ys.length % 65536 = y at *
        by_cases h3 : x < c
        · go_wp2_with (at_builtin; refine wpList_append_own _ rfl (.tmp 35) (.tmp 37) 31 rfl w.heap.size 3 i0 (.int .i64 0) 1 8 Try.underlying31 HI.out HZ0.out HZ1.out HZ2.out rfl (by decide) _ ys.length (i64s ys) rfl (HO2.out.alloc _) ⟨wr.heap.size, 0, none⟩ 1 1 (i64s [(x + 65536 - c)]) rfl rfl (i64_at (by omega)) (i64s_one _) (by unfold maxLen; omega) (by omega) (by simp; omega) ?_; intro v' w2 hown3 hgrow3 hnil3)
          have hb3 := grown_below3 HB2.out HO2.out hgrow3 hz2
          rw [← i64s_append, show ys.length + 1 = (ys ++ [(x + 65536 - c)]).length by simp] at hown3
          have HB3 := hid hb3
          have HO3 := hid hown3
          clear hb3 hown3 hgrow3 hnil3
          go_wp2_with fail
          go_roundw
          case rel => exact ⟨ys.length + 1, 1, ys ++ [(x + 65536 - c)], by omega, by go_num, by go_num, by simp, by omega, by intro x hx; simp at hx; rcases hx with hx | rfl; exact HLT.out x hx; omega, HS.out _ _ (by omega), HO3.out, HB3.out⟩
          case measure => (try simp [intOf]); (try omega)
        · go_wp2_with (at_builtin; refine wpList_append_own _ rfl (.tmp 35) (.tmp 37) 31 rfl w.heap.size 3 i0 (.int .i64 0) 1 8 Try.underlying31 HI.out HZ0.out HZ1.out HZ2.out rfl (by decide) _ ys.length (i64s ys) rfl (HO2.out.alloc _) ⟨wr.heap.size, 0, none⟩ 1 1 (i64s [(x - c)]) rfl rfl (i64_at (by omega)) (i64s_one _) (by unfold maxLen; omega) (by omega) (by simp; omega) ?_; intro v' w2 hown3 hgrow3 hnil3)
          have hb3 := grown_below3 HB2.out HO2.out hgrow3 hz2
          rw [← i64s_append, show ys.length + 1 = (ys ++ [(x - c)]).length by simp] at hown3
          have HB3 := hid hb3
          have HO3 := hid hown3
          clear hb3 hown3 hgrow3 hnil3
          go_wp2_with fail
          go_roundw
          case rel => exact ⟨ys.length + 1, 0, ys ++ [(x - c)], by omega, by go_num, by go_num, by simp, by omega, by intro x hx; simp at hx; rcases hx with hx | rfl; exact HLT.out x hx; omega, HS.out _ _ (by omega), HO3.out, HB3.out⟩
          case measure => (try simp [intOf]); (try omega)
    · have hkp : ys.length = p := by omega
      have HV := hid (HEN.out (by have := HE.out; rw [hkp] at this; exact this) (by rw [← hkp]; exact val_lt HLT.out))
      go_wp2_with fail
      refine (trim_any w.heap.size ys.length _ ys wr HO2.out HLT.out).mono ?_
      rintro r w2 ⟨⟨v', rfl, hown⟩, rfl⟩
      go_wp2_with fail
      go_ret
      rw [HV.out] at hown
      exact ⟨⟨_, rfl, hown⟩, HB2.out⟩
end Go.Proofs.Yteoikaedpgianaa
