/- TrackEncodes: for every navigation record the program's encoding is the reference's, and Decode returns the record. Every input, no condition. -/
import Derived.Test.YteoikaedpgianaaRT
import Derived.Test.YteoikaedpgianaaEncR
import Derived.Test.YteoikaedpgianaaEncY
import Derived.Test.YteoikaedpgianaaDecXF
import Derived.Test.YteoikaedpgianaaLift
import Derived.Laws.BytesArg
namespace Go.Proofs.Yteoikaedpgianaa
open Go.ChangeShapes Go.WideShapes Go.ChangeAt Go.RowKit

theorem own_bytes {W : World} {v : Value} {l : List Nat} (h : W.ownsRow 0 5 1 v l.length (u8s l)) (hl : 0 < l.length) :
    ∃ g0 cap, v = .slice (some ⟨g0, 0, none⟩) l.length cap ∧ l.length ≤ cap ∧ cap ≤ 9223372036854775807 ∧ bytesAt W g0 0 l.length (fun i => l.getD i 0) ∧ g0 < W.heap.size := by
  have hc := h
  obtain ⟨h1, h2⟩ := h
  rcases h2 with ⟨_, h0⟩ | ⟨g0, cap, cur, hv, _, hr, hn, hm, _⟩
  · omega
  · refine ⟨g0, cap, hv, hn, by unfold maxLen at hm; omega, fun i hi => ?_, (Array.getElem?_eq_some_iff.1 hr).1⟩
    subst hv
    have := hc.cells (g := g0) rfl i (.int .u8 ((l.getD i 0 : Nat) : Int)) (by
      simp only [u8s, List.getElem?_map]
      rw [List.getD_eq_getElem?_getD, List.getElem?_eq_getElem hi]
      rfl)
    rw [Go.Addr.add_mid] at this
    exact this
theorem encs_byte {f : Int → List Nat} (hf : ∀ z, ∀ x ∈ f z, x < 256) (zs : List Int) : ∀ x ∈ encs f zs, x < 256 := by
  intro x hx
  simp only [encs, List.mem_flatten, List.mem_map] at hx
  obtain ⟨l, ⟨z, _, rfl⟩, hx⟩ := hx
  exact hf z x hx
theorem encU_byte (z : Int) : ∀ x ∈ encU z, x < 256 := encN_byte _ _ (Nat.le_refl _)
theorem encS_byte (z : Int) : ∀ x ∈ encS z, x < 256 := encN_byte _ _ (Nat.le_refl _)
theorem getD_byte {l : List Nat} (h : ∀ x ∈ l, x < 256) (i : Nat) : l.getD i 0 < 256 := by
  rw [List.getD_eq_getElem?_getD]
  rcases Nat.lt_or_ge i l.length with hj | hj
  · rw [List.getElem?_eq_getElem hj]; exact h _ (List.getElem_mem hj)
  · rw [List.getElem?_eq_none hj]; decide
theorem fix_byte (t x y z e a b c d g : Int) : ∀ q ∈ fixBytes t x y z e a b c d g, q < 256 := by
  intro q hq
  simp only [fixBytes, List.mem_append, List.mem_singleton] at hq
  rcases hq with ((((rfl | h) | h) | h) | h) | h
  · decide
  · exact encs_byte encU_byte _ q h
  · exact encs_byte encS_byte _ q h
  · exact encs_byte encU_byte _ q h
  · exact encs_byte encS_byte _ q h
  · exact encs_byte encU_byte _ q h
theorem fix_list (t x y z e a b c d g : Int) : fixBytes t x y z e a b c d g = 0 :: (encU t ++ (encS x ++ (encS y ++ (encS z ++ (encU e ++ (encS a ++ (encS b ++ (encS c ++ (encS d ++ (encU g ++ [])))))))))) := by
  simp [fixBytes, encs]
theorem back_fix (t x y z e a b c d g : Int) (W : World) (v : Value) (hf : fixB t x y z e a b c d g = true) (h : W.ownsRow 0 5 1 v (fixBytes t x y z e a b c d g).length (u8s (fixBytes t x y z e a b c d g))) :
    Calls Try.prog 45 #[v] W fun r w' => r = .returned (fixNav t x y z e a b c d g) ∧ Below W.heap.size W w' := by
  obtain ⟨h1, h2, h3, h4, h5⟩ := fix_bd hf
  have hby := getD_byte (fix_byte t x y z e a b c d g)
  have hl := fix_list t x y z e a b c d g
  obtain ⟨g0, cap, rfl, hn, hc, hb, hg⟩ := own_bytes h (by rw [hl]; simp)
  have hst : stOf (fun i => (fixBytes t x y z e a b c d g).getD i 0) (fixBytes t x y z e a b c d g).length = stL (encU t ++ (encS x ++ (encS y ++ (encS z ++ (encU e ++ (encS a ++ (encS b ++ (encS c ++ (encS d ++ (encU g ++ [])))))))))) := by rw [hl]; exact stOf_cons 0 _
  have hlen : 0 < (fixBytes t x y z e a b c d g).length := by rw [hl]; simp
  refine (decodeFix g0 0 _ cap (fun i => (fixBytes t x y z e a b c d g).getD i 0) _ _ _ _ _ _ _ _ _ _ _ t x y z e a b c d g W hlen hn hc hb hby hg (by show (fixBytes t x y z e a b c d g).getD 0 0 = 0; rw [hl]; rfl) hst.symm
    (next_back t _ (h1 t (by simp))) (nextS_back x _ (h2 x (by simp))) (nextS_back y _ (h2 y (by simp))) (nextS_back z _ (h2 z (by simp))) (next_back e _ (h3 e (by simp)))
    (nextS_back a _ (h4 a (by simp))) (nextS_back b _ (h4 b (by simp))) (nextS_back c _ (h4 c (by simp))) (nextS_back d _ (h4 d (by simp))) (next_back g _ (h5 g (by simp)))).mono ?_
  rintro r w' ⟨rfl, hB⟩
  refine ⟨?_, hB⟩
  rw [if_pos ⟨⟨rfl, rfl⟩, hf⟩]
theorem sync_list (a b c : Int) : [1] ++ encs encU [a, b, c] = 1 :: (encU a ++ (encU b ++ (encU c ++ []))) := by simp [encs]
theorem back_sync (a b c : Int) (W : World) (v : Value) (hf : syncB a b c = true) (h : W.ownsRow 0 5 1 v ([1] ++ encs encU [a, b, c]).length (u8s ([1] ++ encs encU [a, b, c]))) :
    Calls Try.prog 45 #[v] W fun r w' => r = .returned (syncNav a b c) ∧ Below W.heap.size W w' := by
  have h1 := sync_bd hf
  have hl := sync_list a b c
  have hby : ∀ i, ([1] ++ encs encU [a, b, c]).getD i 0 < 256 := getD_byte (by
    intro q hq
    simp only [List.mem_append, List.mem_singleton] at hq
    rcases hq with rfl | h
    · decide
    · exact encs_byte encU_byte _ q h)
  generalize [1] ++ encs encU [a, b, c] = l at *
  obtain ⟨g0, cap, rfl, hn, hc, hb, hg⟩ := own_bytes h (by rw [hl]; simp)
  have hst : stOf (fun i => l.getD i 0) l.length = stL (encU a ++ (encU b ++ (encU c ++ []))) := by rw [hl]; exact stOf_cons 1 _
  have hlen : 0 < l.length := by rw [hl]; simp
  refine (decodeSync g0 0 _ cap (fun i => l.getD i 0) _ _ _ a b c W hlen hn hc hb hby hg (by show l.getD 0 0 = 1; rw [hl]; rfl)
    (by rw [hst]; exact next_back a _ (h1 a (by simp))) (next_back b _ (h1 b (by simp))) (next_back c _ (h1 c (by simp)))).mono ?_
  rintro r w' ⟨rfl, hB⟩
  refine ⟨?_, hB⟩
  rw [if_pos ⟨⟨rfl, rfl⟩, hf⟩]
theorem u5 : Try.prog.underlying 5 = some (.int .u8) := by kernel_rfl
theorem u9 : Try.prog.underlying 9 = some .string := by kernel_rfl
theorem str_of {W : World} {g0 cap : Nat} {l : List Nat} (h : bytesAt W g0 0 l.length (fun i => l.getD i 0)) :
    (convert 71 9 (.slice (some ⟨g0, 0, none⟩) l.length cap)).run Try.prog W = .ok (.string (strOfNums (l.map fun (x : Nat) => (x : Int)))) W :=
  run_convert_bytes_arg W 71 5 Try.underlying71 u5 g0 0 l.length cap (l.map fun (x : Nat) => (x : Int)) (by simp) (fun i hi => by
    rw [h i hi]
    simp only [List.getD_eq_getElem?_getD, List.getElem?_map, List.getElem?_eq_getElem hi]
    rfl) 9 u9
theorem flat59c : flatOf Try.prog 10 59 = some (none :: List.replicate 13 (some .i64)) := by kernel_rfl
theorem eq59_own (is : Bool) (t x y z e a b c d g s0 s1 s2 : Int) (W : World) : (Op.equalIn 10000 59 (.agg #[.bool is, .int .i64 t, .int .i64 x, .int .i64 y, .int .i64 z, .int .i64 e, .int .i64 a, .int .i64 b, .int .i64 c, .int .i64 d, .int .i64 g, .int .i64 s0, .int .i64 s1, .int .i64 s2]) (.agg #[.bool is, .int .i64 t, .int .i64 x, .int .i64 y, .int .i64 z, .int .i64 e, .int .i64 a, .int .i64 b, .int .i64 c, .int .i64 d, .int .i64 g, .int .i64 s0, .int .i64 s1, .int .i64 s2])).run Try.prog W = .ok true W := by
  have h := equal_struct Try.underlying59 flat59c [.bool is, .int .i64 t, .int .i64 x, .int .i64 y, .int .i64 z, .int .i64 e, .int .i64 a, .int .i64 b, .int .i64 c, .int .i64 d, .int .i64 g, .int .i64 s0, .int .i64 s1, .int .i64 s2] [.bool is, .int .i64 t, .int .i64 x, .int .i64 y, .int .i64 z, .int .i64 e, .int .i64 a, .int .i64 b, .int .i64 c, .int .i64 d, .int .i64 g, .int .i64 s0, .int .i64 s1, .int .i64 s2] rfl rfl W
  rw [sameL_refl (ks := none :: List.replicate 13 (some .i64)) rfl] at h
  exact h

set_option maxRecDepth 100000 in
set_option maxHeartbeats 1600000 in
theorem encodes_law (is : Bool) (t x y z e a b c d g s0 s1 s2 er : Int) (bs : List Nat) (w : World) (hbs : 0 < bs.length)
    (h51 : ∀ W, Calls Try.prog 51 #[.agg #[.bool is, .int .i64 t, .int .i64 x, .int .i64 y, .int .i64 z, .int .i64 e, .int .i64 a, .int .i64 b, .int .i64 c, .int .i64 d, .int .i64 g, .int .i64 s0, .int .i64 s1, .int .i64 s2]] W fun r w' => Enc er bs r w' ∧ Below W.heap.size W w')
    (h52 : ∀ W, Calls Try.prog 52 #[.agg #[.bool is, .int .i64 t, .int .i64 x, .int .i64 y, .int .i64 z, .int .i64 e, .int .i64 a, .int .i64 b, .int .i64 c, .int .i64 d, .int .i64 g, .int .i64 s0, .int .i64 s1, .int .i64 s2]] W fun r w' => Enc er bs r w' ∧ Below W.heap.size W w')
    (hdec : er = 0 → ∀ W v, W.ownsRow 0 5 1 v bs.length (u8s bs) → Calls Try.prog 45 #[v] W fun r w' => r = .returned (.tuple #[.agg #[.bool is, .int .i64 t, .int .i64 x, .int .i64 y, .int .i64 z, .int .i64 e, .int .i64 a, .int .i64 b, .int .i64 c, .int .i64 d, .int .i64 g, .int .i64 s0, .int .i64 s1, .int .i64 s2], .int .i64 0]) ∧ Below W.heap.size W w') :
    Calls Try.prog 11 #[.agg #[.bool is, .int .i64 t, .int .i64 x, .int .i64 y, .int .i64 z, .int .i64 e, .int .i64 a, .int .i64 b, .int .i64 c, .int .i64 d, .int .i64 g, .int .i64 s0, .int .i64 s1, .int .i64 s2]] w fun r w' => r = .returned (.bool true) ∧ Below w.heap.size w w' := by
  have H51 := hid h51
  have H52 := hid h52
  have q1 := eq59_own is t x y z e a b c d g s0 s1 s2
  clear h51 h52
  by_cases her : er = 0
  · subst her
    have HD := hid (hdec rfl)
    clear hdec
    go_enter Try.func11, Try.ntmps11
    go_wp2_with (refine wpList_load_at rfl 59 (.tmp 1) rfl rfl (heap_alloc_at _ _ _ rfl) Try.underlying59 rfl size59a rfl ?_)
    refine (H51.out _).mono ?_
    rintro r w1 ⟨⟨v1, rfl, _, ho1⟩, hb1⟩
    have F1 := hid (heap_below hb1 (by first | (simp; done) | (simp; omega)) (by repeat' (first | (refine heap_alloc_at _ _ _ ?_; (first | rfl | (simp; done) | (simp; omega))) | (refine heap_alloc_past _ _ _ _ ?_))) : w1.heap[w.heap.size]? = some (.cells #[.bool is, .int .i64 t, .int .i64 x, .int .i64 y, .int .i64 z, .int .i64 e, .int .i64 a, .int .i64 b, .int .i64 c, .int .i64 d, .int .i64 g, .int .i64 s0, .int .i64 s1, .int .i64 s2] 59))
    have HB1 := hid ((by refine Below.trans ?_ (hb1.mono ?_); (focus ((repeat' (first | (with_reducible exact Below.refl _ _) | (with_reducible assumption) | (with_reducible refine Below.alloc ?_ ?_ _) | (with_reducible refine Below.drew ?_) | (with_reducible refine below_drewN ?_ _) | (with_reducible refine Below.setCell ?_ ?_ _) | (with_reducible refine below_setRow ?_ ?_ _) | go_size)); done)); (focus (first | (simp; done) | (simp; omega)))) : Below w.heap.size w w1)
    have HO1 := hid (ho1 rfl)
    clear hb1 ho1
    go_wp2_with (refine wpList_load_at rfl 59 (.tmp 1) rfl rfl F1.out Try.underlying59 rfl size59a rfl ?_)
    refine (H52.out _).mono ?_
    rintro r w2 ⟨⟨v2, rfl, _, ho2⟩, hb2⟩
    have F2 := hid (heap_still hb2 F1.out)
    have HB2 := hid (HB1.out.trans (hb2.mono HB1.out.size))
    have HO2 := hid (own_below hb2 HO1.out)
    obtain ⟨g1, c1, rfl, _, _, hy1, hg1⟩ := own_bytes HO2.out hbs
    obtain ⟨g2, c2, rfl, _, _, hy2, hg2⟩ := own_bytes (ho2 rfl) hbs
    have hs1 := str_of (cap := c1) hy1
    have hs2 := str_of (cap := c2) hy2
    generalize strOfNums (bs.map fun (x : Nat) => (x : Int)) = S at *
    have HDD := hid (HD.out w2 _ HO2.out)
    generalize bs.length = n at *
    have hsz := HB2.out.size
    clear hb2 ho2 hy1 hy2
    go_wp2_with fail
    refine HDD.out.mono ?_
    rintro r w3 ⟨rfl, hb3⟩
    have F3 := hid (heap_still hb3 F2.out)
    have HB3 := hid (HB2.out.trans (hb3.mono hsz))
    have hsz3 := HB3.out.size
    clear hb3
    go_wp2_with (first | (refine wpList_store_new rfl 59 (.tmp 7) (.tmp 35) rfl rfl rfl rfl size59a rfl rfl rfl ?_) | (refine wpList_load_at rfl 59 (.tmp 7) rfl rfl (heap_alloc_at _ _ _ rfl) Try.underlying59 rfl size59a rfl ?_) | (refine wpList_load_at rfl 59 (.tmp 1) rfl rfl (heap_alloc_past _ _ _ _ F3.out) Try.underlying59 rfl size59a rfl ?_))
    refine (awake_any _).mono ?_
    rintro r w4 ⟨rfl, hb4⟩
    go_wp2_with fail
    go_ret
    exact ⟨rfl, (HB3.out.alloc hsz3 _).trans (hb4.mono (by simp; omega))⟩
  · clear hdec
    have her' : (er == 0) = false := by simpa using her
    go_enter Try.func11, Try.ntmps11
    go_wp2_with (refine wpList_load_at rfl 59 (.tmp 1) rfl rfl (heap_alloc_at _ _ _ rfl) Try.underlying59 rfl size59a rfl ?_)
    refine (H51.out _).mono ?_
    rintro r w1 ⟨⟨v1, rfl, hv1, _⟩, hb1⟩
    have F1 := hid (heap_below hb1 (by first | (simp; done) | (simp; omega)) (by repeat' (first | (refine heap_alloc_at _ _ _ ?_; (first | rfl | (simp; done) | (simp; omega))) | (refine heap_alloc_past _ _ _ _ ?_))) : w1.heap[w.heap.size]? = some (.cells #[.bool is, .int .i64 t, .int .i64 x, .int .i64 y, .int .i64 z, .int .i64 e, .int .i64 a, .int .i64 b, .int .i64 c, .int .i64 d, .int .i64 g, .int .i64 s0, .int .i64 s1, .int .i64 s2] 59))
    have HB1 := hid ((by refine Below.trans ?_ (hb1.mono ?_); (focus ((repeat' (first | (with_reducible exact Below.refl _ _) | (with_reducible assumption) | (with_reducible refine Below.alloc ?_ ?_ _) | (with_reducible refine Below.drew ?_) | (with_reducible refine below_drewN ?_ _) | (with_reducible refine Below.setCell ?_ ?_ _) | (with_reducible refine below_setRow ?_ ?_ _) | go_size)); done)); (focus (first | (simp; done) | (simp; omega)))) : Below w.heap.size w w1)
    obtain rfl := hv1 her
    clear hb1 hv1
    go_wp2_with (refine wpList_load_at rfl 59 (.tmp 1) rfl rfl F1.out Try.underlying59 rfl size59a rfl ?_)
    refine (H52.out _).mono ?_
    rintro r w2 ⟨⟨v2, rfl, hv2, _⟩, hb2⟩
    have HB2 := hid (HB1.out.trans (hb2.mono HB1.out.size))
    obtain rfl := hv2 her
    have hs0 := run_convert_bytes_nil w2 71 5 Try.underlying71 u5 0 0 9 u9
    have hsz := HB2.out.size
    clear hb2 hv2
    go_wp2_with fail
    all_goals first | (refine (awake_any _).mono ?_; rintro r w4 ⟨rfl, hb4⟩; go_wp2_with fail; go_ret; exact ⟨rfl, HB2.out.trans (hb4.mono hsz)⟩) | (exfalso; omega)

theorem Enc.other {er : Int} {bs bs' : List Nat} {r : Ending} {w : World} (h : Enc er bs r w) (he : er ≠ 0) : Enc er bs' r w := by
  obtain ⟨v, h1, h2, _⟩ := h
  exact ⟨v, h1, h2, fun h => absurd h he⟩
theorem enc_ok (is : Bool) (t x y z e a b c d g s0 s1 s2 : Int) (w : World) : Calls Try.prog 11 #[.agg #[.bool is, .int .i64 t, .int .i64 x, .int .i64 y, .int .i64 z, .int .i64 e, .int .i64 a, .int .i64 b, .int .i64 c, .int .i64 d, .int .i64 g, .int .i64 s0, .int .i64 s1, .int .i64 s2]] w fun r w' => r = .returned (.bool true) ∧ Below w.heap.size w w' := by
  cases is
  · by_cases h1 : fixB t x y z e a b c d g = true
    · by_cases h2 : ([s0, s1, s2] == [0, 0, 0]) = true
      · refine encodes_law false t x y z e a b c d g s0 s1 s2 0 (fixBytes t x y z e a b c d g) w (by rw [fix_list]; simp) (fun W => encodeFix_yes t x y z e a b c d g s0 s1 s2 W h1 h2) (fun W => rEncodeFix_yes t x y z e a b c d g s0 s1 s2 W h1 h2) (fun _ W v h => ?_)
        have h3 : s0 = 0 ∧ s1 = 0 ∧ s2 = 0 := by simpa using h2
        obtain ⟨rfl, rfl, rfl⟩ := h3
        exact back_fix t x y z e a b c d g W v h1 h
      · have h2' := Bool.eq_false_iff.2 h2
        exact encodes_law false t x y z e a b c d g s0 s1 s2 2 (fixBytes t x y z e a b c d g) w (by rw [fix_list]; simp) (fun W => (encodeFix_off t x y z e a b c d g s0 s1 s2 W h1 h2').mono (fun r w' h => ⟨h.1.other (by decide), h.2⟩)) (fun W => rEncodeFix_off t x y z e a b c d g s0 s1 s2 W h1 h2') (fun h => absurd h (by decide))
    · have h1' := Bool.eq_false_iff.2 h1
      exact encodes_law false t x y z e a b c d g s0 s1 s2 40 (fixBytes t x y z e a b c d g) w (by rw [fix_list]; simp) (fun W => (encodeFix_no t x y z e a b c d g s0 s1 s2 W h1').mono (fun r w' h => ⟨h.1.other (by decide), h.2⟩)) (fun W => rEncodeFix_no t x y z e a b c d g s0 s1 s2 W h1') (fun h => absurd h (by decide))
  · refine encodes_law true t x y z e a b c d g s0 s1 s2 _ ([1] ++ encs encU [s0, s1, s2]) w (by simp) (fun W => encodeSync_arm t x y z e a b c d g s0 s1 s2 W) (fun W => rEncodeSync t x y z e a b c d g s0 s1 s2 W) (fun h W v ho => ?_)
    split at h
    · cases h
    · rename_i h1
      split at h
      · cases h
      · rename_i h2
        have h2' : (ten t x y z e a b c d g == ten 0 0 0 0 0 0 0 0 0 0) = true := by simpa using h2
        have h3 : t = 0 ∧ x = 0 ∧ y = 0 ∧ z = 0 ∧ e = 0 ∧ a = 0 ∧ b = 0 ∧ c = 0 ∧ d = 0 ∧ g = 0 := by simpa [ten] using h2'
        obtain ⟨rfl, rfl, rfl, rfl, rfl, rfl, rfl, rfl, rfl, rfl⟩ := h3
        exact back_sync s0 s1 s2 W v (by simpa using h1) ho
theorem own11 : ownKnob Try.prog.godebug = none := by kernel_rfl
theorem laid11 : laidOutB Try.prog = true := by kernel_rfl
theorem cells_all11 : ∀ {n : Nat} {cs : List Value}, fitsW (List.replicate n (some .i64)) cs → ∃ zs : List Int, zs.length = n ∧ cs = zs.map (Value.int .i64)
  | 0, cs, h => ⟨[], rfl, fits_nil h⟩
  | n + 1, cs, h => by
    obtain ⟨z, vs, rfl, _, h2⟩ := fits_int (show fitsW (some .i64 :: List.replicate n (some .i64)) cs from h)
    obtain ⟨zs, hl, rfl⟩ := cells_all11 h2
    exact ⟨z :: zs, by simp [hl], rfl⟩
theorem enc_args (W : World) (v0 : Value) (h0 : ∃ (is : Bool) (zs : List Int), zs.length = 13 ∧ v0 = .agg (.bool is :: zs.map (Value.int .i64)).toArray) :
    Calls Try.prog 11 #[v0] W fun r w' => r = .returned (.bool true) ∧ Below W.heap.size W w' := by
  obtain ⟨is, zs, hz, rfl⟩ := h0
  match zs, hz with
  | [t, x, y, z, e, a, b, c, d, g, s0, s1, s2], _ => exact enc_ok is t x y z e a b c d g s0 s1 s2 W
set_option maxRecDepth 100000 in
theorem trackEncodes_lifted (os : Os) (started : os.Started) (H : Type) (enc : TypeId × Value → H) :
    ReturnsInHanded {} Try.checked os 11 .any (Rows.trackEncodesSpec.pre6 enc Try.prog Try.f11 Rows.trackEncodesRow.domain false) (Rows.trackEncodesSpec.post enc Try.prog Try.f11 false true false false) := by
  refine law_lifted (C := Try.checked) (tb := 4) own11 started (by kernel_rfl) Try.func11 rfl ?_ (show Try.f11.resultTypes = #[4] by kernel_rfl) Try.underlying4 laid11 ?_
    (ChangeSpec.witness6 (enc := enc) (C := Try.checked) false ⟨#[], #[.agg #[.bool false, .int .i64 0, .int .i64 0, .int .i64 0, .int .i64 0, .int .i64 0, .int .i64 0, .int .i64 0, .int .i64 0, .int .i64 0, .int .i64 0, .int .i64 0, .int .i64 0, .int .i64 0]], []⟩ 8 (by kernel_rfl) (by kernel_rfl) (by kernel_rfl) (by kernel_rfl)) ?_
  · intro ds hds
    match ds, hds with
    | [d1], _ => exact ⟨rfl, rfl, rfl⟩
  · rw [Try.params11]
    intro t ht
    simp at ht
    rcases ht with rfl
    all_goals exact ⟨by kernel_rfl, of_decide_eq_true (by kernel_rfl)⟩
  · intro W base args ds p hval hA hlt _
    change DataW.TrodAll enc Try.prog W 0 (fun _ => true) true Try.f11.params.toList args.toList ds p at hA
    change ∀ (j : Nat) t v, Try.f11.params[j]? = some t → args[j]? = some v → Value.okWide Try.prog W .any base t v at hval
    rw [Try.params11] at hA hval
    obtain ⟨v0, vs0, d0, ds0, p0, q0, hargs, rfl, rfl, h0, r0⟩ := trodAll_cons hA
    obtain ⟨rfl, rfl, rfl⟩ := trodAll_nil r0
    obtain rfl : args = #[v0] := by cases args; simp_all
    obtain ⟨c0, e0, f0⟩ := open_flat flat59c size59a (by kernel_rfl) (hval 0 59 v0 rfl rfl) h0
    obtain ⟨is, us, rfl, f0'⟩ := fits_bool f0
    obtain ⟨zs, hz, rfl⟩ := cells_all11 f0'
    exact enc_args W v0 ⟨is, zs, hz, e0⟩

/-- TrackEncodes, whatever the input. -/
theorem trackEncodes_holds : Rows.TrackEncodesSaid :=
  OpenClaim.holds_of_wide 11 Try.f11 rfl rfl rfl rfl rfl rfl rfl ⟨rfl, rfl, rfl, rfl, rfl⟩ rfl rfl rfl rfl rfl (by kernel_rfl) Try.func11 (by kernel_rfl)
    (of_decide_eq_true (by kernel_rfl)) (by unfold Func.isWrapper; rw [if_neg (of_decide_eq_false (by kernel_rfl))]; exact ⟨rfl, rfl⟩)
    (fun os started H enc _ => trackEncodes_lifted os started H enc)
#print axioms trackEncodes_holds
end Go.Proofs.Yteoikaedpgianaa
