/- The program's disk: Sync 70, Clear 72, Append 68, Arm 74. (Printed by wip/gen_diskz.py.) -/
import Derived.Test.YteanlcefdoigcaaDiskY
namespace Go.Proofs.Yteanlcefdoigcaa
open Go.RowKit

def okB (i : Int) (dn : Bool) (lf : Int) : Bool := decide (refV i dn = 0) && !decide (lf = 1)
def errV (i : Int) (dn : Bool) (lf : Int) : Int := if refV i dn ≠ 0 then refV i dn else if lf = 1 then 82 else 0
def dnV (i : Int) (dn : Bool) (lf : Int) : Bool := if refV i dn ≠ 0 then dn else decide (lf = 1)
def lfV (i : Int) (dn : Bool) (lf : Int) : Int := if refV i dn ≠ 0 then lf else spL lf
def fl0 (i : Int) (dn : Bool) (lf : Int) (f f' : Fl) : Fl := if okB i dn lf = true ∧ i = 0 then f' else f
def fl1 (i : Int) (dn : Bool) (lf : Int) (f f' : Fl) : Fl := if okB i dn lf = true ∧ i = 1 then f' else f
section
variable {i lf : Int} {dn : Bool} {f f' : Fl}
theorem refV_range (h : refV i dn = 0) : dn = false ∧ (i = 0 ∨ i = 1) := by
  unfold refV at h
  split at h
  · omega
  · split at h
    · omega
    · rename_i h1 h2
      exact ⟨by simpa using h2, by omega⟩
theorem no_ok (h : refV i dn ≠ 0) : okB i dn lf = false := by simp [okB, h]
theorem fl0_no (h : okB i dn lf = false) : fl0 i dn lf f f' = f := by simp [fl0, h]
theorem fl1_no (h : okB i dn lf = false) : fl1 i dn lf f f' = f := by simp [fl1, h]
end
theorem own_slice {W : World} {B n : Nat} {v : Value} {xs : List Value} (h : W.ownsRow B 5 1 v n xs) : ∃ a c, v = .slice a n c := by
  obtain ⟨_, h | ⟨g, cap, cur, h, _⟩⟩ := h
  · obtain ⟨rfl, rfl⟩ := h; exact ⟨_, _, rfl⟩
  · exact ⟨_, _, h⟩
theorem Dsk.refile {W : World} {B g t : Nat} {C : Array Value} {f0 f1 f0' f1' : Fl} (h : Dsk W B g t C f0 f1) (h0 : f0'.v = f0.v := by rfl) (h1 : f0'.b = f0.b := by rfl) (h2 : f1'.v = f1.v := by rfl) (h3 : f1'.b = f1.b := by rfl) : Dsk W B g t C f0' f1' :=
  ⟨h.hg, h.hB, by rw [h0, h1]; exact h.o0, by rw [h2, h3]; exact h.o1, by rw [h0]; exact h.n0, by rw [h2]; exact h.n1, by rw [h0, h2]; exact h.n01⟩
set_option maxRecDepth 100000 in
theorem xsync_any (g B : Nat) (dn : Bool) (lf i : Int) (f0 f1 : Fl) (w : World) (h : DX w B g dn lf f0 f1) (h0 : 0 ≤ lf) (hl : lf ≤ 9223372036854775807) :
    Calls Try.prog 70 #[.pointer (some ⟨g, 0, none⟩), .int .i64 i] w fun r w' => r = .returned (.int .i64 (errV i dn lf)) ∧ DX w' B g (dnV i dn lf) (lfV i dn lf) (fl0 i dn lf f0 ⟨f0.v, f0.b, f0.b.length⟩) (fl1 i dn lf f1 ⟨f1.v, f1.b, f1.b.length⟩) ∧ Fr (fun k => k = g) w w' := by
  by_cases hr : refV i dn ≠ 0
  · have hok := no_ok (lf := lf) hr
    rw [fl0_no hok, fl1_no hok, show errV i dn lf = refV i dn from if_pos hr, show dnV i dn lf = dn from if_pos hr, show lfV i dn lf = lf from if_pos hr]
    have H := hid h
    have HC := hid (xbegin_ref g B dn lf i f0 f1 w h hr)
    clear h hok
    generalize refV i dn = e at *
    have d1 : (e == 0) = false := by simpa using hr
    go_enter Try.func70, Try.ntmps70
    go_wp2_with fail
    refine HC.out.mono ?_
    rintro r w1 ⟨rfl, hb⟩
    go_wp2_with fail
    go_ret
    exact ⟨rfl, H.out.still hb, Fr.of_below hb⟩
  replace hr : refV i dn = 0 := by simpa using hr
  obtain ⟨rfl, hi⟩ := refV_range hr
  rw [show errV i false lf = if lf = 1 then 82 else 0 from if_neg (by simpa using hr), show dnV i false lf = decide (lf = 1) from if_neg (by simpa using hr), show lfV i false lf = spL lf from if_neg (by simpa using hr)]
  by_cases h1 : lf = 1
  · have hok : okB i false lf = false := by simp [okB, h1]
    rw [fl0_no hok, fl1_no hok, if_pos h1]
    rcases hi with rfl | rfl
    · have HC := hid (xbegin_any g B lf 0 3 f0 f1 w h h0 hl (.inl ⟨rfl, rfl⟩))
      rw [if_pos h1, if_pos h1] at HC
      clear h h1 hok hr
      go_enter Try.func70, Try.ntmps70
      go_wp2_with fail
      refine HC.out.mono ?_
      rintro r w1 ⟨rfl, hd, hf⟩
      have HD := hid hd
      have HF := hid hf
      clear hd hf
      go_wp2_with fail
      go_ret
      exact ⟨rfl, HD.out, HF.out.mono (fun k _ hk => hk)⟩
    · have HC := hid (xbegin_any g B lf 1 5 f0 f1 w h h0 hl (.inr ⟨rfl, rfl⟩))
      rw [if_pos h1, if_pos h1] at HC
      clear h h1 hok hr
      go_enter Try.func70, Try.ntmps70
      go_wp2_with fail
      refine HC.out.mono ?_
      rintro r w1 ⟨rfl, hd, hf⟩
      have HD := hid hd
      have HF := hid hf
      clear hd hf
      go_wp2_with fail
      go_ret
      exact ⟨rfl, HD.out, HF.out.mono (fun k _ hk => hk)⟩
  rw [if_neg h1, show decide (lf = 1) = false from decide_eq_false h1]
  have hok : okB i false lf = true := by simp [okB, h1, hr]
  rcases hi with rfl | rfl
  · rw [show fl0 0 false lf f0 ⟨f0.v, f0.b, f0.b.length⟩ = ⟨f0.v, f0.b, f0.b.length⟩ from if_pos ⟨hok, rfl⟩, show fl1 0 false lf f1 ⟨f1.v, f1.b, f1.b.length⟩ = f1 from if_neg (by rintro ⟨_, h⟩; exact absurd h (by decide))]
    have HC := hid (xbegin_any g B lf 0 3 f0 f1 w h h0 hl (.inl ⟨rfl, rfl⟩))
    rw [if_neg h1, if_neg h1, show decide (lf = 1) = false from decide_eq_false h1] at HC
    clear h h1 hok hr
    generalize spL lf = lf2 at *
    go_enter Try.func70, Try.ntmps70
    go_wp2_with fail
    refine HC.out.mono ?_
    rintro r w1 ⟨rfl, hd, hf⟩
    have HD := hid hd
    have HF := hid hf
    clear hd hf
    obtain ⟨v, b, s⟩ := f0
    obtain ⟨a, c, hv⟩ := own_slice HD.out.o0
    obtain rfl : v = .slice a b.length c := hv
    have c0 : w1.cell? ⟨g, 3, none⟩ = some (.slice a b.length c) := HD.out.c3
    have z1 : w1.frozen? ⟨g, 4, none⟩ = false := by have hh := (HD.out).hg; simp [World.frozen?, hh]
    have z0 : ∃ x, w1.cell? ⟨g, 4, none⟩ = some x := ⟨_, HD.out.c4⟩
    obtain ⟨x, z0⟩ := z0
    go_upto_region 4 with fail
    clear c0 z1 z0
    refine gen_world (fun W1 hW1 => ?_)
    have D1 := hid (show DX W1 B g false lf2 ⟨.slice a b.length c, b, b.length⟩ f1 by rw [hW1]; exact (HD.out.set 4 (.int .i64 (b.length : Int)) : Dsk _ B g 107 _ _ _).refile)
    have F1 := hid (show Fr (fun k => k = g) w W1 by rw [hW1]; exact HF.out.trans (G := fun k => k = g) (Fr.set rfl) (fun _ _ h => h))
    clear hW1
    go_wp2_with fail
    go_ret
    exact ⟨rfl, D1.out, F1.out⟩
  · rw [show fl1 1 false lf f1 ⟨f1.v, f1.b, f1.b.length⟩ = ⟨f1.v, f1.b, f1.b.length⟩ from if_pos ⟨hok, rfl⟩, show fl0 1 false lf f0 ⟨f0.v, f0.b, f0.b.length⟩ = f0 from if_neg (by rintro ⟨_, h⟩; exact absurd h (by decide))]
    have HC := hid (xbegin_any g B lf 1 5 f0 f1 w h h0 hl (.inr ⟨rfl, rfl⟩))
    rw [if_neg h1, if_neg h1, show decide (lf = 1) = false from decide_eq_false h1] at HC
    clear h h1 hok hr
    generalize spL lf = lf2 at *
    go_enter Try.func70, Try.ntmps70
    go_wp2_with fail
    refine HC.out.mono ?_
    rintro r w1 ⟨rfl, hd, hf⟩
    have HD := hid hd
    have HF := hid hf
    clear hd hf
    obtain ⟨v, b, s⟩ := f1
    obtain ⟨a, c, hv⟩ := own_slice HD.out.o1
    obtain rfl : v = .slice a b.length c := hv
    have c0 : w1.cell? ⟨g, 5, none⟩ = some (.slice a b.length c) := HD.out.c5
    have z1 : w1.frozen? ⟨g, 6, none⟩ = false := by have hh := (HD.out).hg; simp [World.frozen?, hh]
    have z0 : ∃ x, w1.cell? ⟨g, 6, none⟩ = some x := ⟨_, HD.out.c6⟩
    obtain ⟨x, z0⟩ := z0
    go_upto_region 4 with fail
    clear c0 z1 z0
    refine gen_world (fun W1 hW1 => ?_)
    have D1 := hid (show DX W1 B g false lf2 f0 ⟨.slice a b.length c, b, b.length⟩ by rw [hW1]; exact (HD.out.set 6 (.int .i64 (b.length : Int)) : Dsk _ B g 107 _ _ _).refile)
    have F1 := hid (show Fr (fun k => k = g) w W1 by rw [hW1]; exact HF.out.trans (G := fun k => k = g) (Fr.set rfl) (fun _ _ h => h))
    clear hW1
    go_wp2_with fail
    go_ret
    exact ⟨rfl, D1.out, F1.out⟩
theorem Dsk.swap0 {W : World} {B g t s' : Nat} {C : Array Value} {f0 f1 : Fl} {v' : Value} {b' : List Nat} (h : Dsk W B g t C f0 f1) (ho : W.ownsRow B 5 1 v' b'.length (u8s b')) (hn : v'.ownBlock ≠ some g) (hd : ∀ k, v'.ownBlock = some k → f1.v.ownBlock ≠ some k) : Dsk W B g t C ⟨v', b', s'⟩ f1 :=
  ⟨h.hg, h.hB, ho, h.o1, hn, h.n1, hd⟩
theorem Dsk.swap1 {W : World} {B g t s' : Nat} {C : Array Value} {f0 f1 : Fl} {v' : Value} {b' : List Nat} (h : Dsk W B g t C f0 f1) (ho : W.ownsRow B 5 1 v' b'.length (u8s b')) (hn : v'.ownBlock ≠ some g) (hd : ∀ k, f0.v.ownBlock = some k → v'.ownBlock ≠ some k) : Dsk W B g t C f0 ⟨v', b', s'⟩ :=
  ⟨h.hg, h.hB, h.o0, ho, h.n0, hn, hd⟩
theorem own_none (W : World) (B : Nat) : W.ownsRow B 5 1 (.slice none 0 0) ([] : List Nat).length (u8s []) := W.ownsRow_nil B 5 1
set_option maxRecDepth 100000 in
theorem xclear_any (g B : Nat) (dn : Bool) (lf i : Int) (f0 f1 : Fl) (w : World) (h : DX w B g dn lf f0 f1) (h0 : 0 ≤ lf) (hl : lf ≤ 9223372036854775807) :
    Calls Try.prog 72 #[.pointer (some ⟨g, 0, none⟩), .int .i64 i] w fun r w' => r = .returned (.int .i64 (errV i dn lf)) ∧ DX w' B g (dnV i dn lf) (lfV i dn lf) (fl0 i dn lf f0 ⟨.slice none 0 0, [], 0⟩) (fl1 i dn lf f1 ⟨.slice none 0 0, [], 0⟩) ∧ Fr (fun k => k = g) w w' := by
  by_cases hr : refV i dn ≠ 0
  · have hok := no_ok (lf := lf) hr
    rw [fl0_no hok, fl1_no hok, show errV i dn lf = refV i dn from if_pos hr, show dnV i dn lf = dn from if_pos hr, show lfV i dn lf = lf from if_pos hr]
    have H := hid h
    have HC := hid (xbegin_ref g B dn lf i f0 f1 w h hr)
    clear h hok
    generalize refV i dn = e at *
    have d1 : (e == 0) = false := by simpa using hr
    go_enter Try.func72, Try.ntmps72
    go_wp2_with fail
    refine HC.out.mono ?_
    rintro r w1 ⟨rfl, hb⟩
    go_wp2_with fail
    go_ret
    exact ⟨rfl, H.out.still hb, Fr.of_below hb⟩
  replace hr : refV i dn = 0 := by simpa using hr
  obtain ⟨rfl, hi⟩ := refV_range hr
  rw [show errV i false lf = if lf = 1 then 82 else 0 from if_neg (by simpa using hr), show dnV i false lf = decide (lf = 1) from if_neg (by simpa using hr), show lfV i false lf = spL lf from if_neg (by simpa using hr)]
  by_cases h1 : lf = 1
  · have hok : okB i false lf = false := by simp [okB, h1]
    rw [fl0_no hok, fl1_no hok, if_pos h1]
    rcases hi with rfl | rfl
    · have HC := hid (xbegin_any g B lf 0 3 f0 f1 w h h0 hl (.inl ⟨rfl, rfl⟩))
      rw [if_pos h1, if_pos h1] at HC
      clear h h1 hok hr
      go_enter Try.func72, Try.ntmps72
      go_wp2_with fail
      refine HC.out.mono ?_
      rintro r w1 ⟨rfl, hd, hf⟩
      have HD := hid hd
      have HF := hid hf
      clear hd hf
      go_wp2_with fail
      go_ret
      exact ⟨rfl, HD.out, HF.out.mono (fun k _ hk => hk)⟩
    · have HC := hid (xbegin_any g B lf 1 5 f0 f1 w h h0 hl (.inr ⟨rfl, rfl⟩))
      rw [if_pos h1, if_pos h1] at HC
      clear h h1 hok hr
      go_enter Try.func72, Try.ntmps72
      go_wp2_with fail
      refine HC.out.mono ?_
      rintro r w1 ⟨rfl, hd, hf⟩
      have HD := hid hd
      have HF := hid hf
      clear hd hf
      go_wp2_with fail
      go_ret
      exact ⟨rfl, HD.out, HF.out.mono (fun k _ hk => hk)⟩
  rw [if_neg h1, show decide (lf = 1) = false from decide_eq_false h1]
  have hok : okB i false lf = true := by simp [okB, h1, hr]
  rcases hi with rfl | rfl
  · rw [show fl0 0 false lf f0 ⟨.slice none 0 0, [], 0⟩ = ⟨.slice none 0 0, [], 0⟩ from if_pos ⟨hok, rfl⟩, show fl1 0 false lf f1 ⟨.slice none 0 0, [], 0⟩ = f1 from if_neg (by rintro ⟨_, h⟩; exact absurd h (by decide))]
    have HC := hid (xbegin_any g B lf 0 3 f0 f1 w h h0 hl (.inl ⟨rfl, rfl⟩))
    rw [if_neg h1, if_neg h1, show decide (lf = 1) = false from decide_eq_false h1] at HC
    clear h h1 hok hr
    generalize spL lf = lf2 at *
    go_enter Try.func72, Try.ntmps72
    go_wp2_with fail
    refine HC.out.mono ?_
    rintro r w1 ⟨rfl, hd, hf⟩
    have HD := hid hd
    have HF := hid hf
    clear hd hf
    obtain ⟨v, b, s⟩ := f0
    have c0 : w1.cell? ⟨g, 3, none⟩ = some v := HD.out.c3
    have c1 : w1.cell? ⟨g, 4, none⟩ = some (.int .i64 (s : Int)) := HD.out.c4
    have z1 : w1.frozen? ⟨g, 4, none⟩ = false := by have hh := (HD.out).hg; simp [World.frozen?, hh]
    have z0 : w1.frozen? ⟨g, 3, none⟩ = false := by have hh := (HD.out).hg; simp [World.frozen?, hh]
    go_upto_region 4 with fail
    clear c0 z1 z0 c1
    refine gen_world (fun W1 hW1 => ?_)
    have D1 := hid (show DX W1 B g false lf2 ⟨.slice none 0 0, [], 0⟩ f1 by rw [hW1]; exact ((HD.out.set 3 (.slice none 0 0)).set 4 (.int .i64 0)).swap0 (own_none _ _) (by simp [Value.ownBlock]) (by simp [Value.ownBlock]))
    have F1 := hid (show Fr (fun k => k = g) w W1 by rw [hW1]; exact (HF.out.trans (G := fun k => k = g) (Fr.set rfl) (fun _ _ h => h)).trans (G := fun k => k = g) (Fr.set rfl) (fun _ _ h => h))
    clear hW1
    go_wp2_with fail
    go_ret
    exact ⟨rfl, D1.out, F1.out⟩
  · rw [show fl1 1 false lf f1 ⟨.slice none 0 0, [], 0⟩ = ⟨.slice none 0 0, [], 0⟩ from if_pos ⟨hok, rfl⟩, show fl0 1 false lf f0 ⟨.slice none 0 0, [], 0⟩ = f0 from if_neg (by rintro ⟨_, h⟩; exact absurd h (by decide))]
    have HC := hid (xbegin_any g B lf 1 5 f0 f1 w h h0 hl (.inr ⟨rfl, rfl⟩))
    rw [if_neg h1, if_neg h1, show decide (lf = 1) = false from decide_eq_false h1] at HC
    clear h h1 hok hr
    generalize spL lf = lf2 at *
    go_enter Try.func72, Try.ntmps72
    go_wp2_with fail
    refine HC.out.mono ?_
    rintro r w1 ⟨rfl, hd, hf⟩
    have HD := hid hd
    have HF := hid hf
    clear hd hf
    obtain ⟨v, b, s⟩ := f1
    have c0 : w1.cell? ⟨g, 5, none⟩ = some v := HD.out.c5
    have c1 : w1.cell? ⟨g, 6, none⟩ = some (.int .i64 (s : Int)) := HD.out.c6
    have z1 : w1.frozen? ⟨g, 6, none⟩ = false := by have hh := (HD.out).hg; simp [World.frozen?, hh]
    have z0 : w1.frozen? ⟨g, 5, none⟩ = false := by have hh := (HD.out).hg; simp [World.frozen?, hh]
    go_upto_region 4 with fail
    clear c0 z1 z0 c1
    refine gen_world (fun W1 hW1 => ?_)
    have D1 := hid (show DX W1 B g false lf2 f0 ⟨.slice none 0 0, [], 0⟩ by rw [hW1]; exact ((HD.out.set 5 (.slice none 0 0)).set 6 (.int .i64 0)).swap1 (own_none _ _) (by simp [Value.ownBlock]) (by simp [Value.ownBlock]))
    have F1 := hid (show Fr (fun k => k = g) w W1 by rw [hW1]; exact (HF.out.trans (G := fun k => k = g) (Fr.set rfl) (fun _ _ h => h)).trans (G := fun k => k = g) (Fr.set rfl) (fun _ _ h => h))
    clear hW1
    go_wp2_with fail
    go_ret
    exact ⟨rfl, D1.out, F1.out⟩
end Go.Proofs.Yteanlcefdoigcaa
