/- The program's disk: Clone of bytes 67, Read 80, Arm 74, NewDisk 35. -/
import Derived.Test.YteanlcefdoigcaaDiskA
namespace Go.Proofs.Yteanlcefdoigcaa
open Go.RowKit

/-- a slice of bytes that can be read -/
def RdB (W : World) (v : Value) (bs : List Nat) : Prop := (v = .slice none 0 0 ∧ bs = []) ∨ ∃ (ad : Addr) (c : Nat), v = .slice (some ad) bs.length c ∧ ∀ j u, (u8s bs)[j]? = some u → W.cell? (ad.add j) = some u
theorem own_rdb {W : World} {B : Nat} {v : Value} {bs : List Nat} (h : W.ownsRow B 5 1 v bs.length (u8s bs)) : RdB W v bs := by
  have h0 := h
  obtain ⟨_, ⟨rfl, hn⟩ | ⟨g, cap, cur, rfl, _⟩⟩ := h
  · exact .inl ⟨rfl, List.length_eq_zero_iff.1 hn⟩
  · exact .inr ⟨_, _, rfl, h0.cells rfl⟩
theorem RdB.still {W W' : World} {v : Value} {bs : List Nat} (h : RdB W v bs) (hb : Below W.heap.size W W') : RdB W' v bs := by
  rcases h with h | ⟨ad, c, h1, h2⟩
  · exact .inl h
  · exact .inr ⟨ad, c, h1, fun j u hu => by rw [hb.cell (block_lt_of_cell (h2 j u hu))]; exact h2 j u hu⟩
set_option maxRecDepth 100000 in
theorem xclone_any (v : Value) (bs : List Nat) (w : World) (h : RdB w v bs) (hn : bs.length ≤ 1000000) :
    Calls Try.prog 67 #[v] w fun r w' => (∃ v', r = .returned v' ∧ w'.ownsRow w.heap.size 5 1 v' bs.length (u8s bs)) ∧ Below w.heap.size w w' := by
  rcases h with ⟨rfl, rfl⟩ | ⟨ad, c, rfl, hc⟩
  · have heq := fun w => Lib.run_eql_slice_nil (P := Try.prog) w 70 5 none 0 0 0 0 Try.underlying70
    go_enter Try.func67, Try.ntmps67
    go_wp2_with fail
    go_ret
    exact ⟨⟨_, rfl, World.ownsRow_nil _ _ _ _⟩, Below.refl _ _⟩
  · have HC := hid hc
    obtain ⟨i0, hi0, hz0, hz1, hz2⟩ := info_parts info5
    have HI := hid hi0
    have HZ0 := hid hz0
    have HZ1 := hid hz1
    have HZ2 := hid hz2
    clear hi0 hz0 hz1 hz2 hc
    generalize hm : bs.length = m at *
    have HM := hid hm
    clear hm
    have heq := fun w => Lib.run_eql_slice_nil (P := Try.prog) w 70 5 (some ad) m c 0 0 Try.underlying70
    go_enter Try.func67, Try.ntmps67
    go_wp2_with (first | (at_builtin; go_loud (refine wpList_append_own_at _ rfl (.tmp 5) (.tmp 6) 70 rfl w.heap.size 5 i0 (.int .u8 0) 1 1 Try.underlying70 HI.out HZ0.out HZ1.out HZ2.out rfl (by decide) _ 0 [] rfl (World.ownsRow_lit (base := w.heap.size) w #[] 0 (Nat.le_refl _) (by unfold maxLen; omega) rfl) ad m c (u8s bs) rfl (by simp [u8s, HM.out]) (fun j u hu => by rw [((Below.refl w.heap.size w).alloc (Nat.le_refl _) _).cell (block_lt_of_cell (HC.out j u hu))]; exact HC.out j u hu) (u8s_one _) (by unfold maxLen; omega) (by omega) (by simp) ?_; intro v' w2 ho1 ho2 ho3 ho4; clear ho3; obtain ⟨a2, c2, e2⟩ := own_slice ho1; subst e2; have HO1 := hid ho1; have HO2 := hid ho2; clear ho1 ho2 ho4)))
    go_ret
    refine ⟨⟨_, rfl, ?_⟩, ?_⟩
    · have h9 := HO1.out
      simpa using h9
    · exact ((Below.refl _ _).alloc (Nat.le_refl _) _).grown HO2.out (by simp) (fun k e => by have e' : some w.heap.size = some k := e; injection e' with e'; omega)
set_option maxRecDepth 100000 in
theorem xread_any (g B : Nat) (dn : Bool) (lf i : Int) (f0 f1 : Fl) (w : World) (h : DX w B g dn lf f0 f1) (hn0 : f0.b.length ≤ 1000000) (hn1 : f1.b.length ≤ 1000000) :
    Calls Try.prog 80 #[.pointer (some ⟨g, 0, none⟩), .int .i64 i] w fun r w' => (∃ v', r = .returned (.tuple #[v', .int .i64 (refV i dn)]) ∧ RdB w' v' (if refV i dn = 0 then (if i = 0 then f0.b else f1.b) else [])) ∧ Below w.heap.size w w' := by
  have HC := hid (xrefused_any g B dn lf i f0 f1 w h)
  by_cases hr : refV i dn ≠ 0
  · rw [if_neg hr]
    generalize refV i dn = e at *
    have d1 : (e != 0) = true := by simpa using hr
    clear h
    go_enter Try.func80, Try.ntmps80
    go_wp2_with fail
    refine HC.out.mono ?_
    rintro r w1 ⟨rfl, hb⟩
    go_wp2_with fail
    go_ret2
    exact ⟨⟨_, rfl, .inl ⟨rfl, rfl⟩⟩, hb⟩
  replace hr : refV i dn = 0 := by simpa using hr
  obtain ⟨rfl, hi⟩ := refV_range hr
  rw [if_pos hr, hr]
  rw [hr] at HC
  have H := hid h
  clear h hr
  rcases hi with rfl | rfl
  · rw [if_pos rfl]
    obtain ⟨v, b, s⟩ := f0
    obtain ⟨a1, c1, hv⟩ := own_slice H.out.o0
    obtain rfl : v = .slice a1 b.length c1 := hv
    go_enter Try.func80, Try.ntmps80
    go_wp2_with fail
    refine HC.out.mono ?_
    rintro r w1 ⟨rfl, hb⟩
    have HD := hid (H.out.still hb)
    have c0 : w1.cell? ⟨g, 3, none⟩ = some (.slice a1 b.length c1) := HD.out.c3
    go_wp2_with fail
    clear c0
    refine (xclone_any _ b _ (own_rdb HD.out.o0) hn0).mono ?_
    rintro r w2 ⟨⟨v', rfl, hv'⟩, hb2⟩
    have HV := hid hv'
    obtain ⟨a2, c2, e2⟩ := own_slice hv'
    subst e2
    clear hv'
    go_wp2_with fail
    go_ret2
    exact ⟨⟨_, rfl, own_rdb HV.out⟩, hb.trans (hb2.mono hb.size)⟩
  · rw [if_neg (by decide)]
    obtain ⟨v, b, s⟩ := f1
    obtain ⟨a1, c1, hv⟩ := own_slice H.out.o1
    obtain rfl : v = .slice a1 b.length c1 := hv
    go_enter Try.func80, Try.ntmps80
    go_wp2_with fail
    refine HC.out.mono ?_
    rintro r w1 ⟨rfl, hb⟩
    have HD := hid (H.out.still hb)
    have c0 : w1.cell? ⟨g, 5, none⟩ = some (.slice a1 b.length c1) := HD.out.c5
    go_wp2_with fail
    clear c0
    refine (xclone_any _ b _ (own_rdb HD.out.o1) hn1).mono ?_
    rintro r w2 ⟨⟨v', rfl, hv'⟩, hb2⟩
    have HV := hid hv'
    obtain ⟨a2, c2, e2⟩ := own_slice hv'
    subst e2
    clear hv'
    go_wp2_with fail
    go_ret2
    exact ⟨⟨_, rfl, own_rdb HV.out⟩, hb.trans (hb2.mono hb.size)⟩
theorem xarm_any (g B : Nat) (dn : Bool) (lf n : Int) (f0 f1 : Fl) (w : World) (h : DX w B g dn lf f0 f1) :
    Calls Try.prog 74 #[.pointer (some ⟨g, 0, none⟩), .int .i64 n] w fun r w' => r = .returned (.tuple #[]) ∧ DX w' B g dn (max n 0) f0 f1 ∧ Fr (fun k => k = g) w w' := by
  have H := hid h
  clear h
  go_enter Try.func74, Try.ntmps74
  go_wp2_with fail
  refine (xnone_any g _ H.out.c0).mono ?_
  rintro r w1 ⟨rfl, hb⟩
  have HD := hid (H.out.still hb)
  have HF := hid (Fr.of_below (F := fun k => k = g) hb)
  clear hb
  have c2 := HD.out.c2
  have z2 : w1.frozen? ⟨g, 2, none⟩ = false := by have hh := (HD.out).hg; simp [World.frozen?, hh]
  go_wp2_with fail
  all_goals
    go_end0
    refine ⟨rfl, ?_, HF.out.trans (G := fun k => k = g) (Fr.set rfl) (fun _ _ h => h)⟩
    first
    | exact HD.out.set 2 (.int .i64 (max n 0))
    | (rw [show max n 0 = n by omega]; exact HD.out.set 2 (.int .i64 n))
    | (rw [show max n 0 = 0 by omega]; exact HD.out.set 2 (.int .i64 0))
theorem xnew_any (w : World) : Calls Try.prog 35 #[] w fun r w' => r = .returned (.pointer (some ⟨w.heap.size, 0, none⟩)) ∧ DX w' w.heap.size w.heap.size false 0 ⟨.slice none 0 0, [], 0⟩ ⟨.slice none 0 0, [], 0⟩ ∧ Below w.heap.size w w' := by
  go_enter Try.func35, Try.ntmps35
  go_wp2_with fail
  go_ret
  exact ⟨rfl, ⟨heap_alloc_at _ _ _ rfl, Nat.le_refl _, own_none _ _, own_none _ _, by simp [Value.ownBlock], by simp [Value.ownBlock], by simp [Value.ownBlock]⟩, (Below.refl _ _).alloc (Nat.le_refl _) _⟩
end Go.Proofs.Yteanlcefdoigcaa
