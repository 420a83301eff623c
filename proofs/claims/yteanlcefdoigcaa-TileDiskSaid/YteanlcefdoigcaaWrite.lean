/- Numbers written: what the reference's Number appends. -/
import Derived.Test.YteanlcefdoigcaaNum
import Derived.WalkKit
import Derived.LoopN
import Derived.Laws.AppendOwnNone
namespace Go.Proofs.Yteanlcefdoigcaa
open Go.RowKit

def u8s (xs : List Nat) : List Value := xs.map fun (x : Nat) => Value.int .u8 (x : Int)
theorem u8s_one (xs : List Nat) : ∀ u ∈ u8s xs, u.oneCell' = true := by
  intro u hu
  simp [u8s] at hu
  obtain ⟨x, _, rfl⟩ := hu
  rfl
theorem info5 : (Try.prog.info? 5).map (fun i => (i.zero, i.size, i.bytes)) = some (some (.int .u8 0), 1, 1) := by kernel_rfl

theorem own_base {w : World} {B B' : Nat} {e : TypeId} {s n : Nat} {v : Value} {xs : List Value} (h : w.ownsRow B e s v n xs) (hB : B' ≤ B) : w.ownsRow B' e s v n xs := by
  obtain ⟨h1, h2⟩ := h
  refine ⟨h1, ?_⟩
  rcases h2 with h2 | ⟨g, cap, cur, hv, hg, h3⟩
  · exact Or.inl h2
  · exact Or.inr ⟨g, cap, cur, hv, by omega, h3⟩
theorem u8s_append (xs ys : List Nat) : u8s (xs ++ ys) = u8s xs ++ u8s ys := by simp [u8s]

theorem joined_any (lb g n cap : Nat) (xs : List Nat) (w : World) (hown : w.ownsRow 0 5 1 (.slice (some ⟨g, 0, none⟩) n cap) n (u8s xs)) (hn : n ≤ 1000000) (hn0 : 0 < n)
    (hl : w.cell? ⟨lb, 0, none⟩ = some (.slice (some ⟨g, 0, none⟩) n cap)) :
    Calls Try.prog 139 #[.slice (some ⟨lb, 0, none⟩) 1 1] w fun e w' => (∃ v, e = .returned v ∧ w'.ownsRow w.heap.size 5 1 v n (u8s xs)) ∧ Below w.heap.size w w' := by
  obtain ⟨i0, hi, hz0, hz1, hz2⟩ := info_parts info5
  have HO := hid hown
  have HI := hid hi
  have HZ0 := hid hz0
  have HZ1 := hid hz1
  have HZ2 := hid hz2
  have hlen := hown.1
  have HC := hid (hown.cells (g := g) rfl)
  clear hown hi hz0 hz1 hz2
  go_enter Try.func139, Try.ntmps139
  go_wp2_with fail
  refine wp_loop_rounds 2 ?_
  rw [rounds_succ]
  go_wp2_with (first | (at_builtin; refine wpList_append_own _ rfl (.tmp 10) (.tmp 14) 70 rfl w.heap.size 5 i0 (.int .u8 0) 1 1 Try.underlying70 HI.out HZ0.out HZ1.out HZ2.out rfl (by decide) _ 0 [] rfl (World.ownsRow_nil _ _ _ _) ⟨g, 0, none⟩ n cap (u8s xs) rfl hlen HC.out (u8s_one xs) (by unfold maxLen; omega) (by omega) (Nat.le_refl _) ?_; intro v' w1 hown1 hgrow1 hnil1))
  rw [rounds_succ]
  go_wp2_with fail
  go_ret
  simp only [Nat.zero_add, List.nil_append] at hown1
  exact ⟨⟨_, rfl, hown1⟩, (Below.refl _ _).grown hgrow1 (Nat.le_refl _) (fun k hk => by cases (show (none : Option Nat) = some k from hk))⟩

theorem joined_nil (lb : Nat) (w : World) (hl : w.cell? ⟨lb, 0, none⟩ = some (.slice none 0 0)) :
    Calls Try.prog 139 #[.slice (some ⟨lb, 0, none⟩) 1 1] w fun e w' => e = .returned (.slice none 0 0) ∧ w = w' := by
  obtain ⟨i0, hi, hz0, hz1, hz2⟩ := info_parts info5
  have HI := hid hi
  clear hi hz0 hz1 hz2
  go_enter Try.func139, Try.ntmps139
  go_wp2_with fail
  refine wp_loop_rounds 2 ?_
  rw [rounds_succ]
  go_wp2_with (first | (at_builtin; refine wpList_append_own_none rfl (.tmp 10) (.tmp 14) 70 rfl 0 5 i0 1 Try.underlying70 HI.out (.slice none 0 0) 0 [] rfl (World.ownsRow_nil _ _ _ _) rfl ?_))
  rw [rounds_succ]
  go_wp2_with fail
  go_ret
  exact ⟨rfl, rfl⟩

theorem byte_at {w : World} {x : Nat} {z : Int} (hz : z = x) : ∀ (j : Nat) (u : Value), (u8s [x])[j]? = some u → (w.alloc (.cells #[.int .u8 z] 5)).cell? ((⟨w.heap.size, 0, none⟩ : Addr).add j) = some u := by
  subst hz
  intro j u hj
  match j, hj with
  | 0, hj =>
    simp [u8s] at hj
    subst hj
    simp [Addr.add]
theorem grown_below {B : Nat} {w wr w' : World} {v : Value} {o : Obj} {e : TypeId} {s n : Nat} {xs : List Value} (hB : Below B w wr) (ho : wr.ownsRow B e s v n xs) (hg : (wr.alloc o).grownBy w' v.ownBlock) (hs : B ≤ wr.heap.size) : Below B w w' :=
  (hB.alloc hs o).grown hg (by simp; omega) (fun k hk => (ho.lt k hk).1)

/-- the bytes of a number: seven bits each, the least first -/
def encN (n : Nat) : List Nat := if h : 128 ≤ n then (n % 128 + 128) :: encN (n / 128) else [n]
decreasing_by omega
theorem encN_more {n : Nat} (h : 128 ≤ n) : encN n = (n % 128 + 128) :: encN (n / 128) := by rw [encN]; exact dif_pos h
theorem encN_last {n : Nat} (h : ¬ 128 ≤ n) : encN n = [n] := by rw [encN]; exact dif_neg h
theorem encN_len : ∀ (k n : Nat), n < 128 ^ (k + 1) → (encN n).length ≤ k + 1
  | 0, n, h => by rw [encN_last (by omega)]; simp
  | k + 1, n, h => by
    by_cases h1 : 128 ≤ n
    · rw [encN_more h1]
      have := encN_len k (n / 128) (by rw [Nat.pow_succ] at h; omega)
      simp; omega
    · rw [encN_last h1]; simp
theorem encN_pos (n : Nat) : 0 < (encN n).length := by
  rw [encN]; split <;> simp

set_option maxRecDepth 100000 in
theorem rNumber_any (g n cap z : Nat) (xs : List Nat) (w : World) (hown : w.ownsRow 0 5 1 (.slice (some ⟨g, 0, none⟩) n cap) n (u8s xs)) (hn : n ≤ 1000000) (hn0 : 0 < n) (hz : z ≤ 4611686018427387903) :
    Calls Try.prog 119 #[.slice (some ⟨g, 0, none⟩) n cap, .int .i64 z] w fun e w' => (∃ v, e = .returned (.tuple #[v, .int .i64 0]) ∧ w'.ownsRow w.heap.size 5 1 v (xs ++ encN z).length (u8s (xs ++ encN z))) ∧ Below w.heap.size w w' := by
  obtain ⟨i0, hi, hz0, hz1, hz2⟩ := info_parts info5
  have HO := hid hown
  have HI := hid hi
  have HZ0 := hid hz0
  have HZ1 := hid hz1
  have HZ2 := hid hz2
  have hlen : xs.length = n := by have := hown.1; simpa [u8s] using this
  have hel := encN_len 8 z (by omega)
  clear hown hi hz0 hz1 hz2
  go_enter Try.func119, Try.ntmps119
  go_wp2_with fail
  refine (joined_any _ g n cap xs _ (HO.out.alloc _) hn hn0 ?_).mono ?_
  · focus first | (simp; done) | (simp [go_sem]; done)
  rintro r w1 ⟨⟨v, rfl, hown1⟩, hb⟩
  have HB := hid ((by refine Below.trans ?_ (hb.mono ?_); (focus ((repeat' (first | (with_reducible exact Below.refl _ _) | (with_reducible assumption) | (with_reducible refine Below.alloc ?_ ?_ _) | (with_reducible refine Below.drew ?_) | (with_reducible refine below_drewN ?_ _) | (with_reducible refine Below.setCell ?_ ?_ _) | (with_reducible refine below_setRow ?_ ?_ _) | go_size)); done)); (focus (first | (simp; done) | (simp; omega)))) : Below w.heap.size w w1)
  have HO1 := hid hown1
  have hs1 := hb.size
  simp at hs1
  clear hb hown1
  go_wp2_with fail
  go_loopw [1, 6] (fun q v wr => ∃ (k : Nat) (ys : List Nat), k ≤ z ∧ q = .int .i64 k ∧ xs ++ encN z = ys ++ encN k ∧ wr.ownsRow w.heap.size 5 1 v ys.length (u8s ys) ∧ Below w.heap.size w wr) (fun q _ _ => (intOf q).toNat)
  case atStart => exact ⟨z, xs, Nat.le_refl _, rfl, rfl, by rw [hlen]; exact own_base HO1.out (by simp), HB.out⟩
  case round =>
    obtain ⟨k, ys, hk, rfl, he, hown2, hB⟩ := hrel
    have hz2 := hB.size
    have HB2 := hid hB
    have HO2 := hid hown2
    have hle : ys.length ≤ 1000100 := by
      have h1 := congrArg List.length he
      simp at h1
      omega
    by_cases h1 : 128 ≤ k
    · have HE := hid (show xs ++ encN z = (ys ++ [k % 128 + 128]) ++ encN (k / 128) by rw [he, encN_more h1]; simp)
      clear he hB hown2
      go_wp2_with (at_builtin; refine wpList_append_own _ rfl (.tmp 18) (.tmp 23) 70 rfl w.heap.size 5 i0 (.int .u8 0) 1 1 Try.underlying70 HI.out HZ0.out HZ1.out HZ2.out rfl (by decide) _ ys.length (u8s ys) rfl (HO2.out.alloc _) ⟨wr.heap.size, 0, none⟩ 1 1 (u8s [k % 128 + 128]) rfl rfl (byte_at (by omega)) (u8s_one _) (by unfold maxLen; omega) (by omega) (by simp; omega) ?_; intro v' w2 hown3 hgrow3 hnil3)
      have hb3 := grown_below HB2.out HO2.out hgrow3 hz2
      rw [← u8s_append, show ys.length + 1 = (ys ++ [k % 128 + 128]).length by simp] at hown3
      have HB3 := hid hb3
      have HO3 := hid hown3
      clear hb3 hown3 hgrow3 hnil3
      go_wp2_with fail
      go_roundw
      case rel => exact ⟨k / 128, ys ++ [k % 128 + 128], by omega, by go_num, HE.out, HO3.out, HB3.out⟩
      case measure => simp [intOf]; omega
    · have HE := hid (show xs ++ encN z = ys ++ [k] by rw [he, encN_last h1])
      clear he hB hown2
      go_wp2_with (at_builtin; refine wpList_append_own _ rfl (.tmp 27) (.tmp 30) 70 rfl w.heap.size 5 i0 (.int .u8 0) 1 1 Try.underlying70 HI.out HZ0.out HZ1.out HZ2.out rfl (by decide) _ ys.length (u8s ys) rfl (HO2.out.alloc _) ⟨wr.heap.size, 0, none⟩ 1 1 (u8s [k]) rfl rfl (byte_at (by first | rfl | omega)) (u8s_one _) (by unfold maxLen; omega) (by omega) (by simp; omega) ?_; intro v' w2 hown3 hgrow3 hnil3)
      have hb3 := grown_below HB2.out HO2.out hgrow3 hz2
      rw [← u8s_append, show ys.length + 1 = (ys ++ [k]).length by simp] at hown3
      have HB3 := hid hb3
      have HO3 := hid hown3
      clear hb3 hown3 hgrow3 hnil3
      go_wp2_with fail
      go_ret2
      rw [HE.out]
      exact ⟨⟨_, rfl, HO3.out⟩, HB3.out⟩
set_option maxRecDepth 100000 in
theorem rNumber_nil (z : Nat) (w : World) (hz : z ≤ 4611686018427387903) :
    Calls Try.prog 119 #[.slice none 0 0, .int .i64 z] w fun e w' => (∃ v, e = .returned (.tuple #[v, .int .i64 0]) ∧ w'.ownsRow w.heap.size 5 1 v (encN z).length (u8s (encN z))) ∧ Below w.heap.size w w' := by
  obtain ⟨i0, hi, hz0, hz1, hz2⟩ := info_parts info5
  have HI := hid hi
  have HZ0 := hid hz0
  have HZ1 := hid hz1
  have HZ2 := hid hz2
  have hel := encN_len 8 z (by omega)
  clear hi hz0 hz1 hz2
  go_enter Try.func119, Try.ntmps119
  go_wp2_with fail
  refine (joined_nil _ _ ?_).mono ?_
  · focus first | (simp; done) | (simp [go_sem]; done)
  rintro r w1 ⟨rfl, hw⟩
  have HB := hid (show Below w.heap.size w w1 by rw [← hw]; repeat' (first | (with_reducible exact Below.refl _ _) | (with_reducible refine Below.alloc ?_ ?_ _) | (with_reducible refine Below.drew ?_) | (with_reducible refine below_drewN ?_ _) | go_size))
  clear hw
  go_wp2_with fail
  go_loopw [1, 6] (fun q v wr => ∃ (k : Nat) (ys : List Nat), k ≤ z ∧ q = .int .i64 k ∧ [] ++ encN z = ys ++ encN k ∧ wr.ownsRow w.heap.size 5 1 v ys.length (u8s ys) ∧ Below w.heap.size w wr) (fun q _ _ => (intOf q).toNat)
  case atStart => exact ⟨z, [], Nat.le_refl _, rfl, rfl, World.ownsRow_nil _ _ _ _, HB.out⟩
  case round =>
    obtain ⟨k, ys, hk, rfl, he, hown2, hB⟩ := hrel
    have hz2 := hB.size
    have HB2 := hid hB
    have HO2 := hid hown2
    have hle : ys.length ≤ 1000100 := by
      have h1 := congrArg List.length he
      simp at h1
      omega
    by_cases h1 : 128 ≤ k
    · have HE := hid (show [] ++ encN z = (ys ++ [k % 128 + 128]) ++ encN (k / 128) by rw [he, encN_more h1]; simp)
      clear he hB hown2
      go_wp2_with (at_builtin; refine wpList_append_own _ rfl (.tmp 18) (.tmp 23) 70 rfl w.heap.size 5 i0 (.int .u8 0) 1 1 Try.underlying70 HI.out HZ0.out HZ1.out HZ2.out rfl (by decide) _ ys.length (u8s ys) rfl (HO2.out.alloc _) ⟨wr.heap.size, 0, none⟩ 1 1 (u8s [k % 128 + 128]) rfl rfl (byte_at (by omega)) (u8s_one _) (by unfold maxLen; omega) (by omega) (by simp; omega) ?_; intro v' w2 hown3 hgrow3 hnil3)
      have hb3 := grown_below HB2.out HO2.out hgrow3 hz2
      rw [← u8s_append, show ys.length + 1 = (ys ++ [k % 128 + 128]).length by simp] at hown3
      have HB3 := hid hb3
      have HO3 := hid hown3
      clear hb3 hown3 hgrow3 hnil3
      go_wp2_with fail
      go_roundw
      case rel => exact ⟨k / 128, ys ++ [k % 128 + 128], by omega, by go_num, HE.out, HO3.out, HB3.out⟩
      case measure => simp [intOf]; omega
    · have HE := hid (show [] ++ encN z = ys ++ [k] by rw [he, encN_last h1])
      clear he hB hown2
      go_wp2_with (at_builtin; refine wpList_append_own _ rfl (.tmp 27) (.tmp 30) 70 rfl w.heap.size 5 i0 (.int .u8 0) 1 1 Try.underlying70 HI.out HZ0.out HZ1.out HZ2.out rfl (by decide) _ ys.length (u8s ys) rfl (HO2.out.alloc _) ⟨wr.heap.size, 0, none⟩ 1 1 (u8s [k]) rfl rfl (byte_at (by first | rfl | omega)) (u8s_one _) (by unfold maxLen; omega) (by omega) (by simp; omega) ?_; intro v' w2 hown3 hgrow3 hnil3)
      have hb3 := grown_below HB2.out HO2.out hgrow3 hz2
      rw [← u8s_append, show ys.length + 1 = (ys ++ [k]).length by simp] at hown3
      have HB3 := hid hb3
      have HO3 := hid hown3
      clear hb3 hown3 hgrow3 hnil3
      go_wp2_with fail
      go_ret2
      rw [show encN z = [] ++ encN z from rfl, HE.out]
      exact ⟨⟨_, rfl, HO3.out⟩, HB3.out⟩
/-- bytes that a slice of one's own holds; none of them: the nil slice -/
def OwnB (w : World) (B : Nat) (v : Value) (xs : List Nat) : Prop := w.ownsRow B 5 1 v xs.length (u8s xs) ∧ (xs = [] → v = .slice none 0 0)
theorem OwnB.nil (w : World) (B : Nat) : OwnB w B (.slice none 0 0) [] := ⟨World.ownsRow_nil _ _ _ _, fun _ => rfl⟩
theorem OwnB.of {w : World} {B : Nat} {v : Value} {xs : List Nat} (h : w.ownsRow B 5 1 v xs.length (u8s xs)) (hp : 0 < xs.length) : OwnB w B v xs := ⟨h, fun e => by subst e; cases hp⟩
theorem OwnB.base {w : World} {B B' : Nat} {v : Value} {xs : List Nat} (h : OwnB w B v xs) (hB : B' ≤ B) : OwnB w B' v xs := ⟨own_base h.1 hB, h.2⟩
theorem OwnB.cases {w : World} {B : Nat} {v : Value} {xs : List Nat} (h : OwnB w B v xs) : (v = .slice none 0 0 ∧ xs = []) ∨ (∃ g cap, v = .slice (some ⟨g, 0, none⟩) xs.length cap ∧ B ≤ g ∧ 0 < xs.length) := by
  obtain ⟨⟨_, h2⟩, h3⟩ := h
  by_cases he : xs = []
  · exact Or.inl ⟨h3 he, he⟩
  · have hp : 0 < xs.length := List.length_pos_iff.2 he
    rcases h2 with ⟨_, h0⟩ | ⟨g, cap, cur, hv, hg, _⟩
    · omega
    · exact Or.inr ⟨g, cap, hv, hg, hp⟩
theorem rNumber_own {v : Value} {z : Nat} {xs : List Nat} {w : World} (hown : OwnB w 0 v xs) (hn : xs.length ≤ 1000000) (hz : z ≤ 4611686018427387903) :
    Calls Try.prog 119 #[v, .int .i64 z] w fun e w' => (∃ v', e = .returned (.tuple #[v', .int .i64 0]) ∧ OwnB w' w.heap.size v' (xs ++ encN z)) ∧ Below w.heap.size w w' := by
  have hp : 0 < (xs ++ encN z).length := by have := encN_pos z; simp; omega
  rcases hown.cases with ⟨rfl, rfl⟩ | ⟨g, cap, rfl, _, h0⟩
  · refine (rNumber_nil z w hz).mono ?_
    rintro r w1 ⟨⟨v, rfl, h⟩, hb⟩
    exact ⟨⟨v, rfl, OwnB.of h hp⟩, hb⟩
  · refine (rNumber_any g _ cap z xs w hown.1 hn h0 hz).mono ?_
    rintro r w1 ⟨⟨v, rfl, h⟩, hb⟩
    exact ⟨⟨v, rfl, OwnB.of h hp⟩, hb⟩
end Go.Proofs.Yteanlcefdoigcaa
