/- The library's exchange of two ranges of a slice. -/
import Derived.Test.YteoikaedpgianaaRSwapI
namespace Go.Proofs.Yteoikaedpgianaa
open Go.RowKit

abbrev Syn := Int × Int × Int
def sw (l : List Syn) (i j : Nat) : List Syn := match l[i]?, l[j]? with | some x, some y => (l.set i y).set j x | _, _ => l
def swapN (l : List Syn) (a b : Nat) : Nat → List Syn
  | 0 => l
  | k + 1 => sw (swapN l a b k) (a + k) (b + k)
theorem sw_length (l : List Syn) (i j : Nat) : (sw l i j).length = l.length := by
  unfold sw
  split
  · simp
  · rfl
theorem swapN_length (l : List Syn) (a b : Nat) : ∀ k, (swapN l a b k).length = l.length
  | 0 => rfl
  | k + 1 => (sw_length _ _ _).trans (swapN_length l a b k)
theorem sw_some {l : List Syn} {i j : Nat} {x y : Syn} (hi : l[i]? = some x) (hj : l[j]? = some y) : sw l i j = (l.set i y).set j x := by
  unfold sw
  rw [hi, hj]
theorem size124s : (Try.prog.info? 124).map (·.size) = some 2 := by kernel_rfl
theorem sw_parts (u v t : List Syn) (x y : Syn) : sw (u ++ x :: (v ++ y :: t)) u.length (u.length + 1 + v.length) = u ++ y :: (v ++ x :: t) := by
  have h1 : (u ++ x :: (v ++ y :: t))[u.length]? = some x := by simp
  have h2 : (u ++ x :: (v ++ y :: t))[u.length + 1 + v.length]? = some y := by
    rw [List.getElem?_append_right (by omega), show u.length + 1 + v.length - u.length = v.length + 1 by omega, List.getElem?_cons_succ, List.getElem?_append_right (Nat.le_refl _)]
    simp
  rw [sw_some h1 h2]
  have e1 : (u ++ x :: (v ++ y :: t)).set u.length y = u ++ y :: (v ++ y :: t) := by simp
  rw [e1, List.set_append_right _ _ (by omega), show u.length + 1 + v.length - u.length = v.length + 1 by omega, List.set_cons_succ, List.set_append_right _ _ (Nat.le_refl _)]
  simp
theorem swapN_parts : ∀ (n : Nat) (p x q y s : List Syn), x.length = n → y.length = n → swapN (p ++ (x ++ (q ++ (y ++ s)))) p.length (p.length + n + q.length) n = p ++ (y ++ (q ++ (x ++ s)))
  | 0, p, x, q, y, s, hx, hy => by
    rw [List.eq_nil_of_length_eq_zero hx, List.eq_nil_of_length_eq_zero hy]
    rfl
  | n + 1, p, x, q, y, s, hx, hy => by
    rcases List.eq_nil_or_concat x with rfl | ⟨x', a, rfl⟩
    · simp at hx
    rcases List.eq_nil_or_concat y with rfl | ⟨y', b, rfl⟩
    · simp at hy
    rw [List.concat_eq_append, List.length_append] at hx hy
    have hx' : x'.length = n := by simp at hx; exact hx
    have hy' : y'.length = n := by simp at hy; exact hy
    have ih := swapN_parts n p x' (a :: q) y' (b :: s) hx' hy'
    have e : p ++ (x'.concat a ++ (q ++ (y'.concat b ++ s))) = p ++ (x' ++ ((a :: q) ++ (y' ++ (b :: s)))) := by simp
    rw [e, show p.length + (n + 1) + q.length = p.length + n + (a :: q).length by simp; omega]
    show sw (swapN _ _ _ n) (p.length + n) (p.length + n + (a :: q).length + n) = _
    rw [ih]
    have h := sw_parts (p ++ y') (q ++ x') s a b
    have l1 : (p ++ y').length = p.length + n := by simp; omega
    have l2 : (p ++ y').length + 1 + (q ++ x').length = p.length + n + (a :: q).length + n := by simp; omega
    rw [l2, l1] at h
    have e2 : p ++ (y' ++ ((a :: q) ++ (x' ++ (b :: s)))) = p ++ y' ++ a :: (q ++ x' ++ b :: s) := by simp
    rw [e2, h]
    simp
set_option maxRecDepth 100000 in
theorem swapRange_any (b c : Nat) (l : List Syn) (A B n : Nat) (cmp : Value) (w : World) (hl : l.length ≤ 4611686018427387904) (hr : RowsL w b 124 l) (hA : A + n ≤ l.length) (hB : B + n ≤ l.length) :
    Calls Try.prog 187 #[.slice (some ⟨b, 0, none⟩) l.length c, .int .i64 A, .int .i64 B, .int .i64 n, cmp] w fun r w' => r = .returned (.tuple #[]) ∧ RowsL w' b 124 (swapN l A B n) ∧ Keeps b w.heap.size w w' := by
  have HR := hid hr
  clear hr
  go_enter Try.func187, Try.ntmps187
  go_wp2_with fail
  go_loopw [10] (fun i W => ∃ k : Nat, k ≤ n ∧ i = .int .i64 k ∧ RowsL W b 124 (swapN l A B k) ∧ Keeps b w.heap.size w W) (fun i _ => n - (intOf i).toNat)
  case atStart => exact ⟨0, by omega, rfl, HR.out, Keeps.refl _ _ _⟩
  case round =>
    obtain ⟨k, hk, rfl, hR, hK⟩ := hrel
    by_cases hkn : k < n
    · obtain ⟨C, hC, hrc⟩ := hR
      have hlen := swapN_length l A B k
      have hx : (swapN l A B k)[A + k]? = some ((swapN l A B k)[A + k]'(by omega)) := List.getElem?_eq_getElem _
      have hy : (swapN l A B k)[B + k]? = some ((swapN l A B k)[B + k]'(by omega)) := List.getElem?_eq_getElem _
      generalize (swapN l A B k)[A + k]'(by omega) = x at hx
      generalize (swapN l A B k)[B + k]'(by omega) = y at hy
      obtain ⟨x0, x1, x2⟩ := x
      obtain ⟨y0, y1, y2⟩ := y
      have HX := hid hx
      have HY := hid hy
      have HRC := hid hrc
      have hcs := hrc.size
      rw [hlen] at hcs
      refine gen_world (fun V hV => ?_)
      have YC := hid (show V.heap[b]? = some (.cells C 124) by rw [hV]; exact hC)
      have YK := hid (show Keeps b w.heap.size w V by rw [hV]; exact hK)
      clear hV hx hy hrc hC hK
      go_wp2_with fail
      refine gen_act (fun A0 hA => ?_)
      refine wp_region_by (by kernel_rfl) (by kernel_rfl) [some 16, some 17, some 18, some 19, some 20, some 21, some 22, some 23, some 24, some 25, some 26, some 27, some 28, some 29, some 30, some 31, some 32, some 33, some 34, some 35, some 36, none, some 37, none] rfl (by decide) (TwoT V.drew (V.drew.setRow b (ptL C ((A + k) * 2) (row2 (y0, y1, y2)))) ((V.drew.setRow b (ptL C ((A + k) * 2) (row2 (y0, y1, y2)))).setRow b (ptL (ptL C ((A + k) * 2) (row2 (y0, y1, y2))) ((B + k) * 2) (row2 (x0, x1, x2)))) 21 23 [0, 1, 2, 3, 8, 9, 10, 11, 12, 13, 19, 20] [.slice (some ⟨b, 0, none⟩) l.length c, .int .i64 (A : Int), .int .i64 (k : Int), .int .i64 ((A : Int) + (k : Int)), .slice (some ⟨b, 0, none⟩) l.length c, .int .i64 (B : Int), .int .i64 (k : Int), .int .i64 ((B : Int) + (k : Int)), .slice (some ⟨b, 0, none⟩) l.length c, .int .i64 (B : Int), .int .i64 (k : Int), .int .i64 ((B : Int) + (k : Int)), .pointer (some ⟨b, (B + k) * 2, none⟩), .agg #[.int .i64 y1, .int .i64 y2], .slice (some ⟨b, 0, none⟩) l.length c, .int .i64 (A : Int), .int .i64 (k : Int), .int .i64 ((A : Int) + (k : Int)), .pointer (some ⟨b, (A + k) * 2, none⟩), .agg #[.int .i64 x1, .int .i64 x2], .pointer (some ⟨b, (A + k) * 2, none⟩), undef, .pointer (some ⟨b, (B + k) * 2, none⟩), undef]) (selfF A0 _) (putF_self A0 _) TwoT.start ?hs1_3_W1 ?hend_3_W1
      case hs1_3_W1 =>
        refine ⟨?_, ?_, ?_, ?_, ?_, ?_, ?_, ?_, ?_, ?_, ?_, ?_, ?_, ?_, ?_, ?_, ?_, ?_, ?_, ?_, ?_, ?_, ?_, ?_, trivial⟩
        · intro K L us W hK0 hL hd hR
          have hK := hid (fun v A' h1 h2 => hK0 v A' W h1 (hR.pure 0 (by decide) (by decide) h2)); clear hK0
          (try simp [Region.binds] at hd)
          clear hd hR
          simp only [putF]
          rw [hA]
          go_frame
          go_wp2_with fail
          exact hK.out _ _ (by rw [hA]; simp only [putF]; kernel_rfl) rfl
        · intro K L us W hK0 hL hd hR
          have hK := hid (fun v A' h1 h2 => hK0 v A' W h1 (hR.pure 1 (by decide) (by decide) h2)); clear hK0
          (try simp [Region.binds] at hd)
          clear hd hR
          simp only [putF]
          rw [hA]
          go_frame
          go_wp2_with fail
          exact hK.out _ _ (by rw [hA]; simp only [putF]; kernel_rfl) rfl
        · intro K L us W hK0 hL hd hR
          have hK := hid (fun v A' h1 h2 => hK0 v A' W h1 (hR.pure 2 (by decide) (by decide) h2)); clear hK0
          (try simp [Region.binds] at hd)
          clear hd hR
          simp only [putF]
          rw [hA]
          go_frame
          go_wp2_with fail
          exact hK.out _ _ (by rw [hA]; simp only [putF]; kernel_rfl) rfl
        · intro K L us W hK0 hL hd hR
          have hK := hid (fun v A' h1 h2 => hK0 v A' W h1 (hR.pure 3 (by decide) (by decide) h2)); clear hK0
          (try simp [Region.binds] at hd)
          have e1 : us 1 = .int .i64 (A : Int) := hR.vals 1 (by simp [hd]) (by decide) (by decide)
          have e2 : us 2 = .int .i64 (k : Int) := hR.vals 2 (by simp [hd]) (by decide) (by decide)
          clear hd hR
          simp only [putF]
          rw [hA, e1, e2]
          go_frame
          go_wp2_with fail
          exact hK.out _ _ (by rw [hA]; simp only [putF]; rw [e1, e2]; kernel_rfl) rfl
        · intro K L us W hK0 hL hd hR
          have hK := hid (fun v A' h1 h2 => hK0 v A' W h1 (hR.pure 4 (by decide) (by decide) h2)); clear hK0
          (try simp [Region.binds] at hd)
          clear hd hR
          simp only [putF]
          rw [hA]
          go_frame
          go_wp2_with fail
          exact hK.out _ _ (by rw [hA]; simp only [putF]; kernel_rfl) rfl
        · intro K L us W hK0 hL hd hR
          have hK := hid (fun v A' h1 h2 => hK0 v A' W h1 (hR.pure 5 (by decide) (by decide) h2)); clear hK0
          (try simp [Region.binds] at hd)
          clear hd hR
          simp only [putF]
          rw [hA]
          go_frame
          go_wp2_with fail
          exact hK.out _ _ (by rw [hA]; simp only [putF]; kernel_rfl) rfl
        · intro K L us W hK0 hL hd hR
          have hK := hid (fun v A' h1 h2 => hK0 v A' W h1 (hR.pure 6 (by decide) (by decide) h2)); clear hK0
          (try simp [Region.binds] at hd)
          clear hd hR
          simp only [putF]
          rw [hA]
          go_frame
          go_wp2_with fail
          exact hK.out _ _ (by rw [hA]; simp only [putF]; kernel_rfl) rfl
        · intro K L us W hK0 hL hd hR
          have hK := hid (fun v A' h1 h2 => hK0 v A' W h1 (hR.pure 7 (by decide) (by decide) h2)); clear hK0
          (try simp [Region.binds] at hd)
          have e5 : us 5 = .int .i64 (B : Int) := hR.vals 5 (by simp [hd]) (by decide) (by decide)
          have e6 : us 6 = .int .i64 (k : Int) := hR.vals 6 (by simp [hd]) (by decide) (by decide)
          clear hd hR
          simp only [putF]
          rw [hA, e5, e6]
          go_frame
          go_wp2_with fail
          exact hK.out _ _ (by rw [hA]; simp only [putF]; rw [e5, e6]; kernel_rfl) rfl
        · intro K L us W hK0 hL hd hR
          have hK := hid (fun v A' h1 h2 => hK0 v A' W h1 (hR.pure 8 (by decide) (by decide) h2)); clear hK0
          (try simp [Region.binds] at hd)
          clear hd hR
          simp only [putF]
          rw [hA]
          go_frame
          go_wp2_with fail
          exact hK.out _ _ (by rw [hA]; simp only [putF]; kernel_rfl) rfl
        · intro K L us W hK0 hL hd hR
          have hK := hid (fun v A' h1 h2 => hK0 v A' W h1 (hR.pure 9 (by decide) (by decide) h2)); clear hK0
          (try simp [Region.binds] at hd)
          clear hd hR
          simp only [putF]
          rw [hA]
          go_frame
          go_wp2_with fail
          exact hK.out _ _ (by rw [hA]; simp only [putF]; kernel_rfl) rfl
        · intro K L us W hK0 hL hd hR
          have hK := hid (fun v A' h1 h2 => hK0 v A' W h1 (hR.pure 10 (by decide) (by decide) h2)); clear hK0
          (try simp [Region.binds] at hd)
          clear hd hR
          simp only [putF]
          rw [hA]
          go_frame
          go_wp2_with fail
          exact hK.out _ _ (by rw [hA]; simp only [putF]; kernel_rfl) rfl
        · intro K L us W hK0 hL hd hR
          have hK := hid (fun v A' h1 h2 => hK0 v A' W h1 (hR.pure 11 (by decide) (by decide) h2)); clear hK0
          (try simp [Region.binds] at hd)
          have e9 : us 9 = .int .i64 (B : Int) := hR.vals 9 (by simp [hd]) (by decide) (by decide)
          have e10 : us 10 = .int .i64 (k : Int) := hR.vals 10 (by simp [hd]) (by decide) (by decide)
          clear hd hR
          simp only [putF]
          rw [hA, e9, e10]
          go_frame
          go_wp2_with fail
          exact hK.out _ _ (by rw [hA]; simp only [putF]; rw [e9, e10]; kernel_rfl) rfl
        · intro K L us W hK0 hL hd hR
          have hK := hid (fun v A' h1 h2 => hK0 v A' W h1 (hR.pure 12 (by decide) (by decide) h2)); clear hK0
          (try simp [Region.binds] at hd)
          have e8 : us 8 = .slice (some ⟨b, 0, none⟩) l.length c := hR.vals 8 (by simp [hd]) (by decide) (by decide)
          have e11 : us 11 = .int .i64 ((B : Int) + (k : Int)) := hR.vals 11 (by simp [hd]) (by decide) (by decide)
          clear hd hR
          simp only [putF]
          rw [hA, e8, e11]
          go_frame
          go_wp2_with fail
          exact hK.out _ _ (by rw [hA]; simp only [putF]; rw [e8, e11]; kernel_rfl) rfl
        · intro K L us W hK0 hL hd hR
          have hK := hid (fun v A' h1 h2 => hK0 v A' W h1 (hR.pure 13 (by decide) (by decide) h2)); clear hK0
          (try simp [Region.binds] at hd)
          have e12 : us 12 = .pointer (some ⟨b, (B + k) * 2, none⟩) := hR.vals 12 (by simp [hd]) (by decide) (by decide)
          have hW := hR.at0 (k := 13) (by decide) hL
          clear hd hR
          subst hW
          have c0 : V.drew.cell? ⟨b, (B + k) * 2, none⟩ = some (.int .i64 y1) := (cell_row YC.out).trans (HRC.out.at0 _ _ HY.out)
          have c1 : V.drew.cell? ⟨b, (B + k) * 2 + 1, none⟩ = some (.int .i64 y2) := (cell_row YC.out).trans (HRC.out.at1 _ _ HY.out)
          simp only [putF]
          rw [hA, e12]
          go_frame
          go_wp2_with fail
          exact hK.out _ _ (by rw [hA]; simp only [putF]; rw [e12]; kernel_rfl) rfl
        · intro K L us W hK0 hL hd hR
          have hK := hid (fun v A' h1 h2 => hK0 v A' W h1 (hR.pure 14 (by decide) (by decide) h2)); clear hK0
          (try simp [Region.binds] at hd)
          clear hd hR
          simp only [putF]
          rw [hA]
          go_frame
          go_wp2_with fail
          exact hK.out _ _ (by rw [hA]; simp only [putF]; kernel_rfl) rfl
        · intro K L us W hK0 hL hd hR
          have hK := hid (fun v A' h1 h2 => hK0 v A' W h1 (hR.pure 15 (by decide) (by decide) h2)); clear hK0
          (try simp [Region.binds] at hd)
          clear hd hR
          simp only [putF]
          rw [hA]
          go_frame
          go_wp2_with fail
          exact hK.out _ _ (by rw [hA]; simp only [putF]; kernel_rfl) rfl
        · intro K L us W hK0 hL hd hR
          have hK := hid (fun v A' h1 h2 => hK0 v A' W h1 (hR.pure 16 (by decide) (by decide) h2)); clear hK0
          (try simp [Region.binds] at hd)
          clear hd hR
          simp only [putF]
          rw [hA]
          go_frame
          go_wp2_with fail
          exact hK.out _ _ (by rw [hA]; simp only [putF]; kernel_rfl) rfl
        · intro K L us W hK0 hL hd hR
          have hK := hid (fun v A' h1 h2 => hK0 v A' W h1 (hR.pure 17 (by decide) (by decide) h2)); clear hK0
          (try simp [Region.binds] at hd)
          have e15 : us 15 = .int .i64 (A : Int) := hR.vals 15 (by simp [hd]) (by decide) (by decide)
          have e16 : us 16 = .int .i64 (k : Int) := hR.vals 16 (by simp [hd]) (by decide) (by decide)
          clear hd hR
          simp only [putF]
          rw [hA, e15, e16]
          go_frame
          go_wp2_with fail
          exact hK.out _ _ (by rw [hA]; simp only [putF]; rw [e15, e16]; kernel_rfl) rfl
        · intro K L us W hK0 hL hd hR
          have hK := hid (fun v A' h1 h2 => hK0 v A' W h1 (hR.pure 18 (by decide) (by decide) h2)); clear hK0
          (try simp [Region.binds] at hd)
          have e14 : us 14 = .slice (some ⟨b, 0, none⟩) l.length c := hR.vals 14 (by simp [hd]) (by decide) (by decide)
          have e17 : us 17 = .int .i64 ((A : Int) + (k : Int)) := hR.vals 17 (by simp [hd]) (by decide) (by decide)
          clear hd hR
          simp only [putF]
          rw [hA, e14, e17]
          go_frame
          go_wp2_with fail
          exact hK.out _ _ (by rw [hA]; simp only [putF]; rw [e14, e17]; kernel_rfl) rfl
        · intro K L us W hK0 hL hd hR
          have hK := hid (fun v A' h1 h2 => hK0 v A' W h1 (hR.pure 19 (by decide) (by decide) h2)); clear hK0
          (try simp [Region.binds] at hd)
          have e18 : us 18 = .pointer (some ⟨b, (A + k) * 2, none⟩) := hR.vals 18 (by simp [hd]) (by decide) (by decide)
          have hW := hR.at0 (k := 19) (by decide) hL
          clear hd hR
          subst hW
          have c0 : V.drew.cell? ⟨b, (A + k) * 2, none⟩ = some (.int .i64 x1) := (cell_row YC.out).trans (HRC.out.at0 _ _ HX.out)
          have c1 : V.drew.cell? ⟨b, (A + k) * 2 + 1, none⟩ = some (.int .i64 x2) := (cell_row YC.out).trans (HRC.out.at1 _ _ HX.out)
          simp only [putF]
          rw [hA, e18]
          go_frame
          go_wp2_with fail
          exact hK.out _ _ (by rw [hA]; simp only [putF]; rw [e18]; kernel_rfl) rfl
        · intro K L us W hK0 hL hd hR
          have hK := hid (fun v A' h1 h2 => hK0 v A' W h1 (hR.pure 20 (by decide) (by decide) h2)); clear hK0
          (try simp [Region.binds] at hd)
          have e0 : us 0 = .slice (some ⟨b, 0, none⟩) l.length c := hR.vals 0 (by simp [hd]) (by decide) (by decide)
          have e3 : us 3 = .int .i64 ((A : Int) + (k : Int)) := hR.vals 3 (by simp [hd]) (by decide) (by decide)
          clear hd hR
          simp only [putF]
          rw [hA, e0, e3]
          go_frame
          go_wp2_with fail
          exact hK.out _ _ (by rw [hA]; simp only [putF]; rw [e0, e3]; kernel_rfl) rfl
        · intro K L us W hK0 hL hd hR
          simp [Region.binds] at hd
          have e20 : us 20 = .pointer (some ⟨b, (A + k) * 2, none⟩) := hR.vals 20 (by simp [hd]) (by decide) (by decide)
          have e13 : us 13 = .agg #[.int .i64 y1, .int .i64 y2] := hR.vals 13 (by simp [hd]) (by decide) (by decide)
          have hp : ∀ j ∈ [0, 1, 2, 3, 8, 9, 10, 11, 12, 13, 19, 20], L j = true := by
            intro j hj
            simp only [List.mem_cons, List.not_mem_nil, or_false] at hj
            rcases hj with rfl | rfl | rfl | rfl | rfl | rfl | rfl | rfl | rfl | rfl | rfl | rfl
            all_goals (simp [hd])
          have hW := (hR.fst (v := undef) hL hp (by decide)).1
          have hK := hid (fun A' h1 => hK0 undef A' _ h1 (hR.fst hL hp (by decide)).2); clear hK0 hp
          clear hd hR
          subst hW
          simp only [putF]
          rw [hA, e20, e13]
          go_frame
          go_wp2_with (refine pt_store rfl 124 (.tmp 36) (.tmp 29) rfl b ((A + k) * 2) _ rfl rfl (show V.drew.heap[b]? = _ from YC.out) size124s rfl (by show (A + k) * 2 + 2 ≤ C.size; omega) rfl ?_)
          exact hK.out _ (by rw [hA]; simp only [putF]; rw [e20, e13]; kernel_rfl)
        · intro K L us W hK0 hL hd hR
          have hK := hid (fun v A' h1 h2 => hK0 v A' W h1 (hR.pure 22 (by decide) (by decide) h2)); clear hK0
          (try simp [Region.binds] at hd)
          have e4 : us 4 = .slice (some ⟨b, 0, none⟩) l.length c := hR.vals 4 (by simp [hd]) (by decide) (by decide)
          have e7 : us 7 = .int .i64 ((B : Int) + (k : Int)) := hR.vals 7 (by simp [hd]) (by decide) (by decide)
          clear hd hR
          simp only [putF]
          rw [hA, e4, e7]
          go_frame
          go_wp2_with fail
          exact hK.out _ _ (by rw [hA]; simp only [putF]; rw [e4, e7]; kernel_rfl) rfl
        · intro K L us W hK0 hL hd hR
          simp [Region.binds] at hd
          have e22 : us 22 = .pointer (some ⟨b, (B + k) * 2, none⟩) := hR.vals 22 (by simp [hd]) (by decide) (by decide)
          have e19 : us 19 = .agg #[.int .i64 x1, .int .i64 x2] := hR.vals 19 (by simp [hd]) (by decide) (by decide)
          have h5 : L 21 = true := by simp [hd]
          have hW := (hR.snd (v := undef) h5 hL).1
          have hK := hid (fun A' h1 => hK0 undef A' _ h1 (hR.snd h5 hL).2); clear hK0
          clear hd hR
          subst hW
          simp only [putF]
          rw [hA, e22, e19]
          go_frame
          go_wp2_with (refine pt_store rfl 124 (.tmp 37) (.tmp 35) rfl b ((B + k) * 2) _ rfl rfl (setRow_heap _ _ _ _ _ _ (show V.drew.heap[b]? = _ from YC.out)) size124s rfl (by show (B + k) * 2 + 2 ≤ (ptL C ((A + k) * 2) _).size; rw [ptL_size]; omega) rfl ?_)
          exact hK.out _ (by rw [hA]; simp only [putF]; rw [e22, e19]; kernel_rfl)
      intro L us W1 hL hR
      have hW : W1 = (V.drew.setRow b (ptL C ((A + k) * 2) (row2 (y0, y1, y2)))).setRow b (ptL (ptL C ((A + k) * 2) (row2 (y0, y1, y2))) ((B + k) * 2) (row2 (x0, x1, x2))) := by have := hR.wld; rw [hL 23 (by decide)] at this; exact this
      clear hR hL
      simp only [putF]
      rw [hA]
      clear hA
      go_frame
      subst hW
      have ZR : RowsL ((V.drew.setRow b (ptL C ((A + k) * 2) (row2 (y0, y1, y2)))).setRow b (ptL (ptL C ((A + k) * 2) (row2 (y0, y1, y2))) ((B + k) * 2) (row2 (x0, x1, x2)))) b 124 (swapN l A B (k + 1)) :=
        ⟨_, setRow_heap _ _ _ _ _ _ (setRow_heap _ _ _ _ _ _ (show V.drew.heap[b]? = _ from YC.out)), by
          show RowsC _ (sw (swapN l A B k) (A + k) (B + k))
          rw [sw_some HX.out HY.out]
          exact (HRC.out.set (by omega) _).set (by rw [List.length_set]; omega) _⟩
      have ZK := ((YK.out.drew).setRow (ptL C ((A + k) * 2) (row2 (y0, y1, y2)))).setRow (ptL (ptL C ((A + k) * 2) (row2 (y0, y1, y2))) ((B + k) * 2) (row2 (x0, x1, x2)))
      go_wp2_with fail
      go_roundw
      case rel => exact ⟨k + 1, by omega, by go_num, ZR, ZK⟩
      case measure => simp [intOf]; omega
    · obtain rfl : k = n := by omega
      go_wp2_with fail
      go_end0
      exact ⟨rfl, hR, hK⟩
theorem split_at {l : List Syn} {n : Nat} (h : n ≤ l.length) : ∃ u v, l = u ++ v ∧ u.length = n ∧ v.length = l.length - n := ⟨l.take n, l.drop n, (List.take_append_drop n l).symm, by simp; omega, by simp⟩
set_option maxRecDepth 100000 in
/-- two parts side by side change places -/
theorem rotate_any (b c m : Nat) (p x y s : List Syn) (cmp : Value) (w : World) (hl : (p ++ (x ++ (y ++ s))).length ≤ 4611686018427387904) (hm : p.length + x.length = m) (hx : 0 < x.length) (hy : 0 < y.length) (e : Int) (he : e = (m : Int) + (y.length : Int)) (hr : RowsL w b 124 (p ++ (x ++ (y ++ s)))) :
    Calls Try.prog 184 #[.slice (some ⟨b, 0, none⟩) (p ++ (x ++ (y ++ s))).length c, .int .i64 (p.length : Int), .int .i64 (m : Int), .int .i64 e, cmp] w
      fun r w' => r = .returned (.tuple #[]) ∧ RowsL w' b 124 (p ++ (y ++ (x ++ s))) ∧ Keeps b w.heap.size w w' := by
  have HR := hid hr
  obtain ⟨n, hn⟩ : ∃ n, n = (p ++ (x ++ (y ++ s))).length := ⟨_, rfl⟩
  obtain ⟨tgt, ht⟩ : ∃ t, t = p ++ (y ++ (x ++ s)) := ⟨_, rfl⟩
  have htn : tgt.length = n := by rw [ht, hn]; simp; omega
  have hmn : m + y.length ≤ n := by rw [hn]; simp; omega
  have HSW := hid (fun (l : List Syn) (A B k : Nat) (W : World) (h1 : l.length = n) (h2 : RowsL W b 124 l) (h3 : A + k ≤ n) (h4 : B + k ≤ n) => by
    have := swapRange_any b c l A B k cmp W (by omega) h2 (by omega) (by omega)
    rw [h1] at this
    exact this)
  have HT := hid ht
  rw [← hn, ← ht]
  rw [← hn] at hl
  have HIN := hid (show ∃ P X Y S : List Syn, P ++ (X ++ (Y ++ S)) = p ++ (x ++ (y ++ s)) ∧ X.length = x.length ∧ Y.length = y.length ∧ P.length + X.length = m ∧ P ++ (Y ++ (X ++ S)) = tgt from ⟨p, x, y, s, rfl, rfl, rfl, hm, ht.symm⟩)
  clear hr ht hn
  generalize x.length = i0 at *
  generalize y.length = j0 at *
  generalize p.length = a0 at *
  have heb : 0 ≤ e ∧ e ≤ 4611686018427387904 := by omega
  have HE := hid he
  clear he
  go_enter Try.func184, Try.ntmps184
  go_wp2_with fail
  go_loopw [10, 11] (fun iv jv W => ∃ (i j : Nat) (P X Y S : List Syn), iv = .int .i64 (i : Int) ∧ jv = .int .i64 (j : Int) ∧ X.length = i ∧ Y.length = j ∧ 0 < i ∧ 0 < j ∧ P.length + i = m ∧ m + j ≤ n ∧ P ++ (Y ++ (X ++ S)) = tgt ∧ RowsL W b 124 (P ++ (X ++ (Y ++ S))) ∧ Keeps b w.heap.size w W) (fun iv jv _ => (intOf iv).toNat + (intOf jv).toNat)
  case atStart =>
    obtain ⟨P, X, Y, S, e1, e2, e3, e4, e5⟩ := HIN.out
    exact ⟨i0, j0, P, X, Y, S, by congr 1; omega, by have := HE.out; congr 1; omega, e2, e3, hx, hy, by omega, by omega, e5, by rw [e1]; exact HR.out, Keeps.refl _ _ _⟩
  case round =>
    obtain ⟨i, j, P, X, Y, S, rfl, rfl, hX, hY, hi, hj, hP, hmj, hT, hRW, hKP⟩ := hrel
    have HRW := hid hRW
    have HKP := hid hKP
    have HTG := hid hT
    have hlen : (P ++ (X ++ (Y ++ S))).length = n := by rw [← htn, ← hT]; simp; omega
    have HLEN := hid hlen
    clear hRW hKP hT hlen
    by_cases hij : i = j
    · subst hij
      go_wp2_with fail
      have HS := HSW.out _ P.length m i wr HLEN.out HRW.out (by omega) (by omega)
      rw [show ((P.length : Nat) : Int) = (m : Int) - (i : Int) by omega] at HS
      refine HS.mono ?_
      rintro r w1 ⟨rfl, hr1, hk1⟩
      have e := swapN_parts i P X [] Y S hX hY
      rw [List.nil_append, List.nil_append, List.length_nil, Nat.add_zero, hP, HTG.out] at e
      rw [e] at hr1
      go_wp2_with fail
      go_end0
      exact ⟨rfl, hr1, HKP.out.trans (hk1.mono HKP.out.size)⟩
    · have h1 : ((i : Int) != (j : Int)) = true := by simp; omega
      by_cases hgt : j < i
      · have h2 : decide ((j : Int) < (i : Int)) = true := decide_eq_true (by omega)
        obtain ⟨X1, X2, rfl, hX1, hX2⟩ := split_at (l := X) (n := j) (by omega)
        go_wp2_with fail
        have HS := HSW.out _ P.length m j wr HLEN.out HRW.out (by omega) (by omega)
        rw [show ((P.length : Nat) : Int) = (m : Int) - (i : Int) by omega] at HS
        refine HS.mono ?_
        rintro r w1 ⟨rfl, hr1, hk1⟩
        have e := swapN_parts j P X1 X2 Y S hX1 hY
        rw [show P.length + j + X2.length = m by omega] at e
        rw [List.append_assoc X1 X2, e] at hr1
        clear HS e
        go_wp2_with fail
        go_roundw
        case rel => exact ⟨i - j, j, P ++ Y, X2, X1, S, by congr 1; omega, rfl, by omega, hX1, by omega, hj, by simp; omega, hmj, by rw [← HTG.out]; simp, by simpa using hr1, HKP.out.trans (hk1.mono HKP.out.size)⟩
        case measure => simp [intOf]; omega
      · have h2 : decide ((j : Int) < (i : Int)) = false := decide_eq_false (by omega)
        obtain ⟨Y1, Y2, rfl, hY1, hY2⟩ := split_at (l := Y) (n := j - i) (by omega)
        go_wp2_with fail
        have HS := HSW.out _ P.length (m + (j - i)) i wr HLEN.out HRW.out (by omega) (by omega)
        rw [show ((P.length : Nat) : Int) = (m : Int) - (i : Int) by omega, show ((m + (j - i) : Nat) : Int) = (m : Int) + (j : Int) - (i : Int) by omega] at HS
        refine HS.mono ?_
        rintro r w1 ⟨rfl, hr1, hk1⟩
        have e := swapN_parts i P X Y1 Y2 S hX (by omega)
        rw [show P.length + i + Y1.length = m + (j - i) by omega] at e
        rw [List.append_assoc Y1 Y2, e] at hr1
        clear HS e
        go_wp2_with fail
        go_roundw
        case rel => exact ⟨i, j - i, P, Y2, Y1, X ++ S, rfl, by congr 1; omega, by omega, hY1, hi, by omega, hP, by omega, by rw [← HTG.out]; simp, by simpa using hr1, HKP.out.trans (hk1.mono HKP.out.size)⟩
        case measure => simp [intOf]; omega
end Go.Proofs.Yteoikaedpgianaa
