/- Numbers written by the program: what link.Number and link.Signed append. -/
import Derived.Test.YteanlcefdoigcaaWrites
import Derived.Deep.OwnRows
import Derived.Laws.CopyOwn
import Derived.Laws.BitsLemmas
namespace Go.Proofs.Yteanlcefdoigcaa
open Go.RowKit

theorem run_make_lc {P : Program} (t e : TypeId) (i : TypeInfo) (z : Value) (ht : P.underlying t = some (.slice e)) (hi : P.info? e = some i) (hz : i.zero = some z) (hsize : i.size = 1) (hz1 : z.cells = #[z])
    (kl kc : IntKind) (l n : Nat) (hl : l ≤ n) (hbytes : i.bytes * n ≤ 281474976710656) (h63 : n ≤ 9223372036854775807) (w : World) :
    (Instr.makeSlice t (.int kl (l : Int)) (.int kc (n : Int))).run P w = .ok (.slice (some ⟨w.heap.size, 0, none⟩) l n) (w.alloc (.cells (madeCells #[z] n) e)) := by
  have hb' : (i.bytes : Int) * (n : Int) ≤ 281474976710656 := by
    have h : ((i.bytes * n : Nat) : Int) ≤ 281474976710656 := by omega
    rwa [Int.natCast_mul] at h
  have hr := run_make (P := P) w t e i z ht hi hz kl kc l n (by omega) (by omega) hb' (by omega)
  simp only [Int.toNat_natCast, hsize, Nat.mul_one, hz1] at hr
  exact hr
theorem wpList_make_lc {P : Program} (w : World) {ops : Array Oper} {rest : List Oper} {o : Oper} {a : Act} {Q : Exit → Act → World → Prop}
    (hg : o.guard = none) (l c : Operand) (t : TypeId) (hop : o.op = Op.makeSlice t l c)
    (e : TypeId) (i : TypeInfo) (z : Value) (ht : P.underlying t = some (.slice e)) (hi : P.info? e = some i) (hz : i.zero = some z) (hsize : i.size = 1) (hz1 : z.cells = #[z])
    (kl kc : IntKind) (L C : Int) (m n : Nat) (hl : a.eval l = .int kl L) (hc : a.eval c = .int kc C) (hL : L = m) (hC : C = n) (hmn : m ≤ n) (hbytes : i.bytes * n ≤ 281474976710656) (h63 : n ≤ 9223372036854775807)
    (hK : wpList P ops Q rest (a.put o.dst (.slice (some ⟨w.heap.size, 0, none⟩) m n)) (w.alloc (.cells (madeCells #[z] n) e))) :
    wpList P ops Q (o :: rest) a w := by
  refine wpList_plain hg fun K hK' => ?_
  have hrun := run_make_lc (P := P) t e i z ht hi hz hsize hz1 kl kc m n hmn hbytes h63 w
  subst hL hC
  unfold Oper.wp
  simp [execOp, hop, hl, hc, hrun, Result.andThen]
  exact hK' _ _ hK
theorem or128 {r : Int} (h : 0 ≤ r ∧ r < 128) : bits .or .u8 r 128 = r + 128 := by
  rw [show bits .or .u8 r 128 = bits .or .u8 128 r by simp [bits, BitVec.or_comm]]
  rw [bits_join .u8 8 (by decide) (fun n h1 h2 => by rw [IntKind.wrap_u8]; omega) 7 128 r (by omega) (by decide) (by decide) h.1 (by omega) (by omega)]
  omega

theorem size5 : (Try.prog.info? 5).map (·.size) = some 1 := by kernel_rfl
theorem cell_past {w : World} {a : Addr} {v : Value} {o : Obj} (h : w.cell? a = some v) : (w.alloc o).cell? a = some v := by
  have hlt : a.block < w.heap.size := by
    unfold World.cell? at h
    split at h
    · rename_i hx; exact (Array.getElem?_eq_some_iff.1 hx).1
    · simp at h
  rw [World.cell?_of_block (w := w) (w' := w.alloc o) (a := a) (Below.heap_alloc w o _ hlt)]; exact h
theorem own_copied (w : World) (n : Nat) (xs : List Nat) (hlen : xs.length = n) (hn : n ≤ 1000000) :
    (w.alloc (.cells ((madeCells #[.int .u8 0] (n + 9)).toList.take 0 ++ (u8s xs ++ (madeCells #[.int .u8 0] (n + 9)).toList.drop (0 + (u8s xs).length))).toArray 5)).ownsRow w.heap.size 5 1 (.slice (some ⟨w.heap.size, 0, none⟩) n (n + 9)) n (u8s xs) := by
  have h1 : (u8s xs).length = n := by simp [u8s, hlen]
  refine ⟨by omega, Or.inr ⟨w.heap.size, n + 9, _, rfl, Nat.le_refl _, heap_alloc_at _ _ _ rfl, by omega, by unfold maxLen; omega, ?_, ?_⟩⟩
  · simp [h1, size_madeCells]
  · simp [h1]

set_option maxRecDepth 100000 in
theorem xNumber_any (g n cap z : Nat) (xs : List Nat) (w : World) (hown : w.ownsRow 0 5 1 (.slice (some ⟨g, 0, none⟩) n cap) n (u8s xs)) (hn : n ≤ 1000000) (hn0 : 0 < n) (hz : z ≤ 4611686018427387903) :
    Calls Try.prog 137 #[.slice (some ⟨g, 0, none⟩) n cap, .int .i64 z] w fun e w' => (∃ v, e = .returned (.tuple #[v, .int .i64 0]) ∧ w'.ownsRow w.heap.size 5 1 v (xs ++ encN z).length (u8s (xs ++ encN z))) ∧ Below w.heap.size w w' := by
  obtain ⟨i0, hi, hz0, hz1, hz2⟩ := info_parts info5
  have HO := hid hown
  have HI := hid hi
  have HZ0 := hid hz0
  have HZ1 := hid hz1
  have HZ2 := hid hz2
  have hlen : xs.length = n := by have := hown.1; simpa [u8s] using this
  have hel := encN_len 8 z (by omega)
  clear hown hi hz0 hz1 hz2
  go_enter Try.func137, Try.ntmps137
  go_wp2_with (first | (refine wpList_make_lc _ rfl (.tmp 14) (.tmp 17) 70 rfl 5 i0 (.int .u8 0) Try.underlying70 HI.out HZ0.out HZ1.out rfl .i64 .i64 _ _ n (n + 9) rfl rfl (by omega) (by omega) (by omega) (by rw [HZ2.out]; omega) (by omega) ?_) | (refine wpList_copy_own rfl (.tmp 19) (.tmp 20) 70 70 rfl 5 Try.underlying70 size5 w.heap.size 0 n (n + 9) ⟨g, 0, none⟩ n cap rfl rfl (madeCells #[.int .u8 0] (n + 9)) 5 (heap_alloc_at _ _ _ rfl) (u8s xs) (by rw [show (u8s xs).length = n by simp [u8s, hlen]]; exact (Nat.min_self n).symm) (fun j v hj => cell_past (HO.out.cells (g := g) rfl j v hj)) (by simp [u8s, hlen, size_madeCells]) (u8s_one xs) ?_; rw [setRow_new _ _ _ _ _ _ rfl]))
  have HO1 := hid (own_copied w n xs hlen hn)
  have HB := hid ((Below.refl w.heap.size w).alloc (Nat.le_refl _) (.cells ((madeCells #[.int .u8 0] (n + 9)).toList.take 0 ++ (u8s xs ++ (madeCells #[.int .u8 0] (n + 9)).toList.drop (0 + (u8s xs).length))).toArray 5))
  refine gen_world (fun W hW => ?_)
  rw [← hW] at HO1 HB
  clear hW
  go_frame
  go_loopw [1, 6] (fun q v wr => ∃ (k : Nat) (ys : List Nat), k ≤ z ∧ q = .int .i64 k ∧ xs ++ encN z = ys ++ encN k ∧ wr.ownsRow w.heap.size 5 1 v ys.length (u8s ys) ∧ Below w.heap.size w wr) (fun q _ _ => (intOf q).toNat)
  case atStart => exact ⟨z, xs, Nat.le_refl _, rfl, rfl, by rw [hlen]; exact HO1.out, HB.out⟩
  case round =>
    obtain ⟨k, ys, hk, rfl, he, hown2, hB⟩ := hrel
    have hz2 := hB.size
    have HB2 := hid hB
    have HO2 := hid hown2
    have hle : ys.length ≤ 1000100 := by
      have h1 := congrArg List.length he
      simp at h1
      omega
    by_cases h1 : 128 ≤ k
    · have HE := hid (show xs ++ encN z = (ys ++ [k % 128 + 128]) ++ encN (k / 128) by rw [he, encN_more h1]; simp)
      have ho := or128 (r := (k : Int) % 128) (by omega)
      clear he hB hown2
      go_wp2_with (at_builtin; refine wpList_append_own _ rfl (.tmp 24) (.tmp 29) 70 rfl w.heap.size 5 i0 (.int .u8 0) 1 1 Try.underlying70 HI.out HZ0.out HZ1.out HZ2.out rfl (by decide) _ ys.length (u8s ys) rfl (HO2.out.alloc _) ⟨wr.heap.size, 0, none⟩ 1 1 (u8s [k % 128 + 128]) rfl rfl (byte_at (by omega)) (u8s_one _) (by unfold maxLen; omega) (by omega) (by simp; omega) ?_; intro v' w2 hown3 hgrow3 hnil3)
      have hb3 := grown_below HB2.out HO2.out hgrow3 hz2
      rw [← u8s_append, show ys.length + 1 = (ys ++ [k % 128 + 128]).length by simp] at hown3
      have HB3 := hid hb3
      have HO3 := hid hown3
      clear hb3 hown3 hgrow3 hnil3
      go_wp2_with fail
      go_roundw
      case rel => ((repeat apply Exists.intro); exact ⟨⟨k / 128, ys ++ [k % 128 + 128], by omega, by go_num, HE.out, HO3.out, HB3.out⟩, rfl⟩)
      case measure => simp [intOf]; omega
    · have HE := hid (show xs ++ encN z = ys ++ [k] by rw [he, encN_last h1])
      clear he hB hown2
      go_wp2_with (at_builtin; refine wpList_append_own _ rfl (.tmp 33) (.tmp 36) 70 rfl w.heap.size 5 i0 (.int .u8 0) 1 1 Try.underlying70 HI.out HZ0.out HZ1.out HZ2.out rfl (by decide) _ ys.length (u8s ys) rfl (HO2.out.alloc _) ⟨wr.heap.size, 0, none⟩ 1 1 (u8s [k]) rfl rfl (byte_at (by first | rfl | omega)) (u8s_one _) (by unfold maxLen; omega) (by omega) (by simp; omega) ?_; intro v' w2 hown3 hgrow3 hnil3)
      have hb3 := grown_below HB2.out HO2.out hgrow3 hz2
      rw [← u8s_append, show ys.length + 1 = (ys ++ [k]).length by simp] at hown3
      have HB3 := hid hb3
      have HO3 := hid hown3
      clear hb3 hown3 hgrow3 hnil3
      go_wp2_with fail
      go_ret2
      rw [HE.out]
      exact ⟨⟨_, rfl, HO3.out⟩, HB3.out⟩
theorem own_made (w : World) : (w.alloc (.cells (madeCells #[.int .u8 0] 9) 5)).ownsRow w.heap.size 5 1 (.slice (some ⟨w.heap.size, 0, none⟩) 0 9) 0 (u8s []) :=
  ⟨rfl, Or.inr ⟨w.heap.size, 9, _, rfl, Nat.le_refl _, heap_alloc_at _ _ _ rfl, by omega, by unfold maxLen; omega, by simp [size_madeCells], by simp [u8s]⟩⟩
set_option maxRecDepth 100000 in
theorem xNumber_nil (z : Nat) (w : World) (hz : z ≤ 4611686018427387903) :
    Calls Try.prog 137 #[.slice none 0 0, .int .i64 z] w fun e w' => (∃ v, e = .returned (.tuple #[v, .int .i64 0]) ∧ w'.ownsRow w.heap.size 5 1 v (encN z).length (u8s (encN z))) ∧ Below w.heap.size w w' := by
  obtain ⟨i0, hi, hz0, hz1, hz2⟩ := info_parts info5
  have HI := hid hi
  have HZ0 := hid hz0
  have HZ1 := hid hz1
  have HZ2 := hid hz2
  have hel := encN_len 8 z (by omega)
  clear hi hz0 hz1 hz2
  go_enter Try.func137, Try.ntmps137
  go_wp2_with (first | (refine wpList_make_lc _ rfl (.tmp 14) (.tmp 17) 70 rfl 5 i0 (.int .u8 0) Try.underlying70 HI.out HZ0.out HZ1.out rfl .i64 .i64 _ _ 0 9 rfl rfl (by omega) (by omega) (by omega) (by rw [HZ2.out]; omega) (by omega) ?_) | (refine wpList_copy_nothing rfl (.tmp 19) (.tmp 20) 70 70 rfl 5 Try.underlying70 size5 _ _ 0 9 0 0 rfl rfl rfl ?_))
  have HO1 := hid (own_made w)
  have HB := hid ((Below.refl w.heap.size w).alloc (Nat.le_refl _) (.cells (madeCells #[.int .u8 0] 9) 5))
  refine gen_world (fun W hW => ?_)
  rw [← hW] at HO1 HB
  clear hW
  go_frame
  go_loopw [1, 6] (fun q v wr => ∃ (k : Nat) (ys : List Nat), k ≤ z ∧ q = .int .i64 k ∧ [] ++ encN z = ys ++ encN k ∧ wr.ownsRow w.heap.size 5 1 v ys.length (u8s ys) ∧ Below w.heap.size w wr) (fun q _ _ => (intOf q).toNat)
  case atStart => exact ⟨z, [], Nat.le_refl _, rfl, rfl, HO1.out, HB.out⟩
  case round =>
    obtain ⟨k, ys, hk, rfl, he, hown2, hB⟩ := hrel
    have hz2 := hB.size
    have HB2 := hid hB
    have HO2 := hid hown2
    have hle : ys.length ≤ 1000100 := by
      have h1 := congrArg List.length he
      simp at h1
      omega
    by_cases h1 : 128 ≤ k
    · have HE := hid (show [] ++ encN z = (ys ++ [k % 128 + 128]) ++ encN (k / 128) by rw [he, encN_more h1]; simp)
      have ho := or128 (r := (k : Int) % 128) (by omega)
      clear he hB hown2
      go_wp2_with (at_builtin; refine wpList_append_own _ rfl (.tmp 24) (.tmp 29) 70 rfl w.heap.size 5 i0 (.int .u8 0) 1 1 Try.underlying70 HI.out HZ0.out HZ1.out HZ2.out rfl (by decide) _ ys.length (u8s ys) rfl (HO2.out.alloc _) ⟨wr.heap.size, 0, none⟩ 1 1 (u8s [k % 128 + 128]) rfl rfl (byte_at (by omega)) (u8s_one _) (by unfold maxLen; omega) (by omega) (by simp; omega) ?_; intro v' w2 hown3 hgrow3 hnil3)
      have hb3 := grown_below HB2.out HO2.out hgrow3 hz2
      rw [← u8s_append, show ys.length + 1 = (ys ++ [k % 128 + 128]).length by simp] at hown3
      have HB3 := hid hb3
      have HO3 := hid hown3
      clear hb3 hown3 hgrow3 hnil3
      go_wp2_with fail
      go_roundw
      case rel => ((repeat apply Exists.intro); exact ⟨⟨k / 128, ys ++ [k % 128 + 128], by omega, by go_num, HE.out, HO3.out, HB3.out⟩, rfl⟩)
      case measure => simp [intOf]; omega
    · have HE := hid (show [] ++ encN z = ys ++ [k] by rw [he, encN_last h1])
      clear he hB hown2
      go_wp2_with (at_builtin; refine wpList_append_own _ rfl (.tmp 33) (.tmp 36) 70 rfl w.heap.size 5 i0 (.int .u8 0) 1 1 Try.underlying70 HI.out HZ0.out HZ1.out HZ2.out rfl (by decide) _ ys.length (u8s ys) rfl (HO2.out.alloc _) ⟨wr.heap.size, 0, none⟩ 1 1 (u8s [k]) rfl rfl (byte_at (by first | rfl | omega)) (u8s_one _) (by unfold maxLen; omega) (by omega) (by simp; omega) ?_; intro v' w2 hown3 hgrow3 hnil3)
      have hb3 := grown_below HB2.out HO2.out hgrow3 hz2
      rw [← u8s_append, show ys.length + 1 = (ys ++ [k]).length by simp] at hown3
      have HB3 := hid hb3
      have HO3 := hid hown3
      clear hb3 hown3 hgrow3 hnil3
      go_wp2_with fail
      go_ret2
      rw [show encN z = [] ++ encN z from rfl, HE.out]
      exact ⟨⟨_, rfl, HO3.out⟩, HB3.out⟩
theorem xNumber_own {v : Value} {z : Nat} {xs : List Nat} {w : World} (hown : OwnB w 0 v xs) (hn : xs.length ≤ 1000000) (hz : z ≤ 4611686018427387903) :
    Calls Try.prog 137 #[v, .int .i64 z] w fun e w' => (∃ v', e = .returned (.tuple #[v', .int .i64 0]) ∧ OwnB w' w.heap.size v' (xs ++ encN z)) ∧ Below w.heap.size w w' := by
  have hp : 0 < (xs ++ encN z).length := by have := encN_pos z; simp; omega
  rcases hown.cases with ⟨rfl, rfl⟩ | ⟨g, cap, rfl, _, h0⟩
  · refine (xNumber_nil z w hz).mono ?_
    rintro r w1 ⟨⟨v, rfl, h⟩, hb⟩
    exact ⟨⟨v, rfl, OwnB.of h hp⟩, hb⟩
  · refine (xNumber_any g _ cap z xs w hown.1 hn h0 hz).mono ?_
    rintro r w1 ⟨⟨v, rfl, h⟩, hb⟩
    exact ⟨⟨v, rfl, OwnB.of h hp⟩, hb⟩
theorem xSigned_own {v : Value} {z : Int} {xs : List Nat} {w : World} (hown : OwnB w 0 v xs) (hn : xs.length ≤ 1000000) (hz : -2305843009213693952 ≤ z ∧ z ≤ 2305843009213693951) :
    Calls Try.prog 156 #[v, .int .i64 z] w fun e w' => (∃ v', e = .returned (.tuple #[v', .int .i64 0]) ∧ OwnB w' w.heap.size v' (xs ++ encN (zig z))) ∧ Below w.heap.size w w' := by
  by_cases h0 : z < 0
  · have H := hid (xNumber_own (z := zig z) hown hn (by unfold zig; rw [if_pos h0]; omega))
    have HE := hid (show ((zig z : Nat) : Int) = -2 * (z + 1) + 1 by unfold zig; rw [if_pos h0]; omega)
    generalize zig z = q at *
    rw [HE.out] at H
    clear hown
    go_enter Try.func156, Try.ntmps156
    go_wp2_with fail
    refine H.out.mono ?_
    rintro r w1 ⟨⟨v, rfl, hown1⟩, hb⟩
    have HB := hid hb
    have HO := hid hown1
    clear hb hown1
    go_wp2_with fail
    go_ret2
    exact ⟨⟨_, rfl, HO.out⟩, HB.out⟩
  · have H := hid (xNumber_own (z := zig z) hown hn (by unfold zig; rw [if_neg h0]; omega))
    have HE := hid (show ((zig z : Nat) : Int) = 2 * z by unfold zig; rw [if_neg h0]; omega)
    generalize zig z = q at *
    rw [HE.out] at H
    clear hown
    go_enter Try.func156, Try.ntmps156
    go_wp2_with fail
    refine H.out.mono ?_
    rintro r w1 ⟨⟨v, rfl, hown1⟩, hb⟩
    have HB := hid hb
    have HO := hid hown1
    clear hb hown1
    go_wp2_with fail
    go_ret2
    exact ⟨⟨_, rfl, HO.out⟩, HB.out⟩

end Go.Proofs.Yteanlcefdoigcaa
