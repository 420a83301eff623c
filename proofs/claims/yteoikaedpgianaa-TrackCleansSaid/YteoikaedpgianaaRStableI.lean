/- The library's stable sort of issues by their scanner's time. -/
import Derived.Test.YteoikaedpgianaaRSymGI
import Derived.Test.YteoikaedpgianaaRStableM
namespace Go.Proofs.Yteoikaedpgianaa
open Go.RowKit

theorem timed_same {x y : List Syn} (h : Same keyS x y) (ht : timed x) : timed y := fun a ha => ht a ((h.mem a).1 ha)
theorem timed_app {x y : List Syn} : timed (x ++ y) ↔ timed x ∧ timed y := ⟨fun h => ⟨fun a ha => h a (by simp [ha]), fun a ha => h a (by simp [ha])⟩, fun h a ha => (List.mem_append.1 ha).elim (h.1 a) (h.2 a)⟩
set_option maxRecDepth 100000 in
set_option maxHeartbeats 1600000 in
theorem stable_any (b c n : Nat) (x : List Syn) (w : World) (hn : n = x.length) (hl : n ≤ 1000000000000000000) (ht : timed x) (hr : RowsL w b 124 x) :
    Calls Try.prog 156 #[.slice (some ⟨b, 0, none⟩) n c, .int .i64 n, .func (.func 124) #[] #[]] w
      fun r w' => r = .returned (.tuple #[]) ∧ (∃ z, Stab keyS x z ∧ RowsL w' b 124 z) ∧ Keeps b w.heap.size w w' := by
  have HR := hid hr
  have HN := hid hn
  have HINS := hid (fun (W : World) (A E : Nat) (p y s : List Syn) (h : n = (p ++ (y ++ s)).length) (h1 : p.length = A) (h2 : A + y.length = E) (h3 : timed y) (h4 : RowsL W b 124 (p ++ (y ++ s))) => insSort_any b c A E p y s W n h (by omega) h1 h2 h3 h4)
  have HSYM := hid (symMerge_any b c n (by omega))
  clear hr hn
  go_enter Try.func156, Try.ntmps156
  go_wp2_with fail
  go_loopw [7, 8] (fun av bv W => ∃ (k : Nat) (Z : List Syn), 20 * k ≤ n ∧ av = .int .i64 ((20 * k : Nat) : Int) ∧ bv = .int .i64 ((20 * k + 20 : Nat) : Int) ∧ Z.length = k * 20 ∧ Same keyS x (Z ++ x.drop (20 * k)) ∧ ChunksTo keyS Z 20 k ∧ RowsL W b 124 (Z ++ x.drop (20 * k)) ∧ Keeps b w.heap.size w W) (fun av _ _ => n - (intOf av).toNat)
  case atStart => exact ⟨0, [], by omega, rfl, rfl, rfl, by simpa using Same.refl x, fun i hi => absurd hi (Nat.not_lt_zero _), by simpa using HR.out, Keeps.refl _ _ _⟩
  case round =>
    obtain ⟨k, Z, hk, rfl, rfl, hZ, hS, hC, hRW, hKP⟩ := hrel
    have HS := hid hS
    have HC := hid hC
    have HRW := hid hRW
    have HKP := hid hKP
    have HZ := hid hZ
    clear hS hC hRW hKP hZ
    have hT := timed_same HS.out ht
    have HT := hid (timed_app.1 hT).2
    clear hT
    have hdl : (x.drop (20 * k)).length = n - 20 * k := by rw [List.length_drop, HN.out]
    have HDL := hid hdl
    clear hdl
    by_cases hb : 20 * k + 20 ≤ n
    · have hd : decide (((20 * k + 20 : Nat) : Int) ≤ (n : Int)) = true := decide_eq_true (by omega)
      obtain ⟨y, s, hy⟩ : ∃ y s, x.drop (20 * k) = y ++ s ∧ y.length = 20 ∧ s = x.drop (20 * (k + 1)) := ⟨(x.drop (20 * k)).take 20, (x.drop (20 * k)).drop 20, (List.take_append_drop _ _).symm, by rw [List.length_take]; have := HDL.out; omega, by rw [List.drop_drop]; rfl⟩
      have HY := hid hy
      clear hy
      have HCALL := hid (HINS.out wr (20 * k) (20 * k + 20) Z y s (by have h1 := HDL.out; have h2 := HY.out.2.1; rw [HY.out.1, List.length_append] at h1; have := HZ.out; simp; omega) (by have := HZ.out; omega) (by have := HY.out.2.1; omega) (by have := HT.out; rw [HY.out.1] at this; exact (timed_app.1 this).1) (by have := HRW.out; rwa [HY.out.1] at this))
      go_wp2_with (go_at_call 176; refine HCALL.out.mono ?_; rintro r w2 ⟨rfl, ⟨z, hz, hr2⟩, hk2⟩)
      refine ⟨⟨k + 1, Z ++ z, by omega, by first | rfl | (congr 1; omega), by first | rfl | (congr 1; omega), ?_, ?_, ?_, ?_, HKP.out.trans (hk2.mono HKP.out.size)⟩, by simp [intOf]; omega⟩
      · have h1 := HZ.out; have h2 := Same.length hz.2; have h3 := HY.out.2.1; rw [List.length_append]; omega
      · rw [← HY.out.2.2]
        have h := HS.out
        rw [HY.out.1] at h
        refine h.trans ?_
        rw [List.append_assoc]
        exact (Same.refl Z).append (hz.2.append (Same.refl s))
      · exact HC.out.more HZ.out (by have h2 := Same.length hz.2; have h3 := HY.out.2.1; omega) hz.1
      · rw [← HY.out.2.2, List.append_assoc]; exact hr2
    · have hd : decide (((20 * k + 20 : Nat) : Int) ≤ (n : Int)) = false := decide_eq_false (by omega)
      have HCALL := hid (HINS.out wr (20 * k) n Z (x.drop (20 * k)) [] (by have h1 := HDL.out; have := HZ.out; simp at h1 ⊢; omega) (by have := HZ.out; omega) (by have := HDL.out; omega) HT.out (by have := HRW.out; simpa using this))
      go_wp2_with (go_at_call 176; refine HCALL.out.mono ?_; rintro r w2 ⟨rfl, ⟨z, hz, hr2⟩, hk2⟩)
      have HS2 := hid (show Same keyS x (Z ++ z) from HS.out.trans ((Same.refl Z).append hz.2))
      have HC2 := hid (show Chunks keyS (Z ++ z) 20 from HC.out.all HZ.out (by have h2 := Same.length hz.2; have h3 := HDL.out; omega) hz.1)
      have HR2 := hid (show RowsL w2 b 124 (Z ++ z) by simpa using hr2)
      have HK2 := hid (HKP.out.trans (hk2.mono HKP.out.size))
      clear hz hr2 hk2 HCALL HINS HT HDL HRW HKP HZ HC HS hk hb hd
      generalize Z ++ z = l0 at *
      go_wp2_with fail
      go_loopw [6] (fun sv W => ∃ (bs : Nat) (l : List Syn), 20 ≤ bs ∧ bs ≤ 2 * n + 20 ∧ sv = .int .i64 (bs : Int) ∧ Same keyS x l ∧ Chunks keyS l bs ∧ RowsL W b 124 l ∧ Keeps b w.heap.size w W) (fun sv _ => n - (intOf sv).toNat)
      case atStart => exact ⟨20, l0, by omega, by omega, rfl, HS2.out, HC2.out, HR2.out, HK2.out⟩
      case round =>
        obtain ⟨bs, l, hb20, hbn, rfl, hS, hC, hRW, hKP⟩ := hrel
        have HS := hid hS
        have HC := hid hC
        have HRW := hid hRW
        have HKP := hid hKP
        have hln : l.length = n := by rw [HN.out]; exact Same.length hS
        have HLN := hid hln
        have HT := hid (timed_same hS ht)
        clear hS hC hRW hKP hln
        by_cases hbs : bs < n
        · have hd : decide ((bs : Int) < (n : Int)) = true := decide_eq_true (by omega)
          go_wp2_with fail
          go_loopw [7, 8] (fun av bv W => ∃ (a k : Nat) (Z R : List Syn), a ≤ n ∧ av = .int .i64 (a : Int) ∧ bv = .int .i64 ((a + 2 * bs : Nat) : Int) ∧ a = k * (2 * bs) ∧ Z.length = a ∧ Same keyS x (Z ++ R) ∧ ChunksTo keyS Z (2 * bs) k ∧ Chunks keyS R bs ∧ RowsL W b 124 (Z ++ R) ∧ Keeps b w.heap.size w W) (fun av _ _ => n - (intOf av).toNat)
          case atStart => exact ⟨0, 0, [], l, by omega, rfl, by congr 1; omega, by omega, rfl, HS.out, fun i hi => absurd hi (Nat.not_lt_zero _), HC.out, HRW.out, HKP.out⟩
          case round =>
            obtain ⟨a, k, Z, R, han, rfl, rfl, hak, hZ, hS2, hC2, hC3, hRW2, hKP2⟩ := hrel
            have hRl : a + R.length = n := by have := Same.length hS2; rw [List.length_append, ← HN.out] at this; omega
            have HTR := hid ((timed_app.1 (timed_same hS2 ht)).2)
            have HS2 := hid hS2
            have HC2 := hid hC2
            have HC3 := hid hC3
            have HRW2 := hid hRW2
            have HKP2 := hid hKP2
            have HZ := hid hZ
            have HRL := hid hRl
            have HAK := hid hak
            clear hS2 hC2 hC3 hRW2 hKP2 hRl hZ hak
            by_cases hb2 : a + 2 * bs ≤ n
            · have hd2 : decide (((a + 2 * bs : Nat) : Int) ≤ (n : Int)) = true := decide_eq_true (by omega)
              obtain ⟨u, v, R', hR, hul, hvl, huu, huv, hcr⟩ := Chunks.two HC3.out (by have := HRL.out; omega)
              have hul' := hid hul
              have hvl' := hid hvl
              have HR := hid hR
              have HCALL := hid (HSYM.out (a + 2 * bs - a) a (a + bs) (a + 2 * bs) Z u v R' wr (Nat.le_refl _) (by have h1 := HRL.out; have h2 := HZ.out; rw [hR] at h1; simp at h1 ⊢; omega) HZ.out (by omega) (by omega) (by omega) (by omega) huu huv (by have := HTR.out; rw [hR] at this; exact (timed_app.1 this).1) (by have := HTR.out; rw [hR] at this; exact (timed_app.1 (timed_app.1 this).2).1) (by have := HRW2.out; rwa [hR] at this))
              have HUU := hid huu
              have HUV := hid huv
              have HCR := hid hcr
              clear hR hul hvl huu huv hcr
              go_wp2_with (go_at_call 177; refine HCALL.out.mono ?_; rintro r w2 ⟨rfl, ⟨z, hz, hr2⟩, hk2⟩)
              refine ⟨⟨a + 2 * bs, k + 1, Z ++ z, R', hb2, by first | rfl | (congr 1; omega), by first | rfl | (congr 1; omega), ?_, ?_, ?_, ?_, HCR.out, ?_, HKP2.out.trans (hk2.mono HKP2.out.size)⟩, by simp [intOf]; omega⟩
              · rw [Nat.add_mul, Nat.one_mul, ← HAK.out]
              · have h1 := HZ.out; have h2 := Same.length hz.2; have h3 := hul'.out; have h4 := hvl'.out; rw [List.length_append] at h2 ⊢; omega
              · have h := HS2.out
                rw [HR.out] at h
                refine h.trans ?_
                have := (Same.refl (key := keyS) Z).append (hz.2.append (Same.refl R'))
                simpa using this
              · exact HC2.out.more (by rw [HZ.out]; exact HAK.out) (by have h2 := Same.length hz.2; have h3 := hul'.out; have h4 := hvl'.out; rw [List.length_append] at h2; omega) hz.1
              · simpa using hr2
            · have hd2 : decide (((a + 2 * bs : Nat) : Int) ≤ (n : Int)) = false := decide_eq_false (by omega)
              by_cases hm : a + bs < n
              · have hd3 : decide ((a : Int) + (bs : Int) < (n : Int)) = true := decide_eq_true (by omega)
                obtain ⟨u, v, hR, hul, hvl, huu, huv⟩ := Chunks.rest HC3.out (by have := HRL.out; omega) (by have := HRL.out; omega)
                have hul' := hid hul
                have hvl' := hid hvl
                have HR := hid hR
                have HCALL := hid (HSYM.out (n - a) a (a + bs) n Z u v [] wr (Nat.le_refl _) (by have h1 := HRL.out; have h2 := HZ.out; rw [hR] at h1; simp at h1 ⊢; omega) HZ.out (by omega) (by have h1 := HRL.out; rw [hR] at h1; simp at h1; omega) (by omega) (by omega) huu huv (by have := HTR.out; rw [hR] at this; exact (timed_app.1 this).1) (by have := HTR.out; rw [hR] at this; exact (timed_app.1 this).2) (by have := HRW2.out; rw [hR] at this; simpa using this))
                clear hR hul hvl huu huv
                go_wp2_with (go_at_call 177; refine HCALL.out.mono ?_; rintro r w2 ⟨rfl, ⟨z, hz, hr2⟩, hk2⟩)
                refine ⟨⟨2 * bs, Z ++ z, by omega, by omega, by congr 1; omega, ?_, ?_, by simpa using hr2, HKP2.out.trans (hk2.mono HKP2.out.size)⟩, by simp [intOf]; omega⟩
                · have h := HS2.out
                  rw [HR.out] at h
                  exact h.trans ((Same.refl (key := keyS) Z).append hz.2)
                · exact HC2.out.all (by rw [HZ.out]; exact HAK.out) (by have h1 := HRL.out; rw [HR.out] at h1; have h2 := Same.length hz.2; rw [List.length_append] at h1 h2; omega) hz.1
              · have hd3 : decide ((a : Int) + (bs : Int) < (n : Int)) = false := decide_eq_false (by omega)
                go_wp2_with fail
                refine ⟨⟨2 * bs, Z ++ R, by omega, by omega, by congr 1; omega, HS2.out, ?_, HRW2.out, HKP2.out⟩, by simp [intOf]; omega⟩
                exact HC2.out.all (by rw [HZ.out]; exact HAK.out) (by have := HRL.out; omega) (HC3.out.whole (by have := HRL.out; omega))
        · have hd : decide ((bs : Int) < (n : Int)) = false := decide_eq_false (by omega)
          go_wp2_with fail
          go_end0
          exact ⟨rfl, ⟨l, ⟨HC.out.whole (by have := HLN.out; omega), HS.out⟩, HRW.out⟩, HKP.out⟩
theorem sortStable_any (b c n : Nat) (x : List Syn) (w : World) (hn : n = x.length) (hl : n ≤ 1000000000000000000) (ht : timed x) (hr : RowsL w b 124 x) :
    Calls Try.prog 123 #[.slice (some ⟨b, 0, none⟩) n c, .func (.func 124) #[] #[]] w
      fun r w' => r = .returned (.tuple #[]) ∧ (∃ z, Stab keyS x z ∧ RowsL w' b 124 z) ∧ Keeps b w.heap.size w w' := by
  have HST := hid (stable_any b c n x w hn hl ht hr)
  clear hr hn
  go_enter Try.func123, Try.ntmps123
  go_wp2_with (go_at_call 156; refine HST.out.mono ?_; rintro r w2 ⟨rfl, h2, h3⟩)
  go_end0
  exact ⟨rfl, h2, h3⟩
end Go.Proofs.Yteoikaedpgianaa
