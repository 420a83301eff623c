/- The program's disk: Append 68. (Printed by wip/gen_diska.py.) -/
import Derived.Test.YteanlcefdoigcaaDiskZ
namespace Go.Proofs.Yteanlcefdoigcaa
open Go.RowKit

/-- a slice of bytes below B -/
def ByB (W : World) (B : Nat) (v : Value) (bs : List Nat) : Prop := (v = .slice none 0 0 ∧ bs = []) ∨ ∃ (ad : Addr) (c : Nat), v = .slice (some ad) bs.length c ∧ ∀ j u, (u8s bs)[j]? = some u → W.cell? (ad.add j) = some u ∧ (ad.add j).block < B
theorem ByB.frame {F : Nat → Prop} {W W' : World} {B : Nat} {v : Value} {bs : List Nat} (h : ByB W B v bs) (hf : Fr F W W') (hF : ∀ k, F k → B ≤ k) : ByB W' B v bs := by
  rcases h with h | ⟨ad, c, h1, h2⟩
  · exact .inl h
  · refine .inr ⟨ad, c, h1, fun j u hu => ?_⟩
    obtain ⟨h3, h4⟩ := h2 j u hu
    have hlt := block_lt_of_cell h3
    exact ⟨by rw [World.cell?_of_block (hf.block _ hlt (fun g => by have := hF _ g; omega))]; exact h3, h4⟩
theorem foot_new {g : Nat} {f0 f1 f0' f1' : Fl} {n : Nat} (h0 : f0'.v.ownBlock = f0.v.ownBlock ∨ f0'.v.ownBlock = some n) (h1 : f1'.v.ownBlock = f1.v.ownBlock ∨ f1'.v.ownBlock = some n) : ∀ k, k < n → foot g f0' f1' k → foot g f0 f1 k := by
  rintro k hk (rfl | h | h)
  · exact .inl rfl
  · rcases h0 with h0 | h0
    · exact .inr (.inl (h0 ▸ h))
    · rw [h0] at h; injection h with h; omega
  · rcases h1 with h1 | h1
    · exact .inr (.inr (h1 ▸ h))
    · rw [h1] at h; injection h with h; omega
def ApOk (w w' : World) (B g : Nat) (dn : Bool) (lf i : Int) (f0 f1 : Fl) (bs : List Nat) : Prop :=
  ∃ f0' f1' : Fl, f0'.b = (if okB i dn lf = true ∧ i = 0 then f0.b ++ bs else f0.b) ∧ f0'.s = f0.s ∧ f1'.b = (if okB i dn lf = true ∧ i = 1 then f1.b ++ bs else f1.b) ∧ f1'.s = f1.s ∧
    DX w' B g (dnV i dn lf) (lfV i dn lf) f0' f1' ∧ Fr (foot g f0 f1) w w' ∧ ∀ k, k < w.heap.size → foot g f0' f1' k → foot g f0 f1 k
set_option maxRecDepth 100000 in
theorem xappend_any (g B : Nat) (dn : Bool) (lf i : Int) (f0 f1 : Fl) (bv : Value) (bs : List Nat) (w : World) (h : DX w B g dn lf f0 f1) (h0 : 0 ≤ lf) (hl : lf ≤ 9223372036854775807) (hbs : ByB w B bv bs) (hn0 : f0.b.length ≤ 1000000) (hn1 : f1.b.length ≤ 1000000) (hnb : bs.length ≤ 1000000) (hBw : B ≤ w.heap.size) :
    Calls Try.prog 68 #[.pointer (some ⟨g, 0, none⟩), .int .i64 i, bv] w fun r w' => r = .returned (.int .i64 (errV i dn lf)) ∧ ApOk w w' B g dn lf i f0 f1 bs := by
  by_cases hr : refV i dn ≠ 0
  · have hok := no_ok (lf := lf) hr
    have HE := hid (fun w' (hb : Below w.heap.size w w') => show ApOk w w' B g dn lf i f0 f1 bs from ⟨f0, f1, by simp [hok], rfl, by simp [hok], rfl, by rw [show dnV i dn lf = dn from if_pos hr, show lfV i dn lf = lf from if_pos hr]; exact h.still hb, Fr.of_below hb, fun _ _ h => h⟩)
    rw [show errV i dn lf = refV i dn from if_pos hr]
    have HC := hid (xbegin_ref g B dn lf i f0 f1 w h hr)
    clear h hok
    generalize refV i dn = e at *
    have d1 : (e == 0) = false := by simpa using hr
    go_enter Try.func68, Try.ntmps68
    go_wp2_with fail
    refine HC.out.mono ?_
    rintro r w1 ⟨rfl, hb⟩
    go_wp2_with fail
    go_ret
    exact ⟨rfl, HE.out _ hb⟩
  replace hr : refV i dn = 0 := by simpa using hr
  obtain ⟨rfl, hi⟩ := refV_range hr
  have hdn : dnV i false lf = decide (lf = 1) := if_neg (by simpa using hr)
  have hlf : lfV i false lf = spL lf := if_neg (by simpa using hr)
  rw [show errV i false lf = if lf = 1 then 82 else 0 from if_neg (by simpa using hr)]
  by_cases h1 : lf = 1
  · have hok : okB i false lf = false := by simp [okB, h1]
    have HE := hid (fun w' (hd : DX w' B g (decide (lf = 1)) (spL lf) f0 f1) (hf : Fr (fun k => k = g) w w') => show ApOk w w' B g false lf i f0 f1 bs from ⟨f0, f1, by simp [hok], rfl, by simp [hok], rfl, by rw [hdn, hlf]; exact hd, hf.mono (fun k _ hk => .inl hk), fun _ _ h => h⟩)
    rw [if_pos h1]
    rcases hi with rfl | rfl
    · have HC := hid (xbegin_any g B lf 0 3 f0 f1 w h h0 hl (.inl ⟨rfl, rfl⟩))
      rw [if_pos h1, if_pos h1] at HC
      clear h h1 hok hr hdn hlf
      go_enter Try.func68, Try.ntmps68
      go_wp2_with fail
      refine HC.out.mono ?_
      rintro r w1 ⟨rfl, hd, hf⟩
      have HD := hid hd
      have HF := hid hf
      clear hd hf
      go_wp2_with fail
      go_ret
      exact ⟨rfl, HE.out _ HD.out HF.out⟩
    · have HC := hid (xbegin_any g B lf 1 5 f0 f1 w h h0 hl (.inr ⟨rfl, rfl⟩))
      rw [if_pos h1, if_pos h1] at HC
      clear h h1 hok hr hdn hlf
      go_enter Try.func68, Try.ntmps68
      go_wp2_with fail
      refine HC.out.mono ?_
      rintro r w1 ⟨rfl, hd, hf⟩
      have HD := hid hd
      have HF := hid hf
      clear hd hf
      go_wp2_with fail
      go_ret
      exact ⟨rfl, HE.out _ HD.out HF.out⟩
  rw [if_neg h1]
  have hok : okB i false lf = true := by simp [okB, h1, hr]
  obtain ⟨i0, hi0, hz0, hz1, hz2⟩ := info_parts info5
  have HI := hid hi0
  have HZ0 := hid hz0
  have HZ1 := hid hz1
  have HZ2 := hid hz2
  clear hi0 hz0 hz1 hz2
  rcases hi with rfl | rfl
  · have HE := hid (fun w' v' (hd : DX w' B g false (spL lf) ⟨v', f0.b ++ bs, f0.s⟩ f1) (hf : Fr (foot g f0 f1) w w') (hn : ∀ k, k < w.heap.size → foot g ⟨v', f0.b ++ bs, f0.s⟩ f1 k → foot g f0 f1 k) => show ApOk w w' B g false lf 0 f0 f1 bs from ⟨⟨v', f0.b ++ bs, f0.s⟩, f1, by simp [hok], rfl, by simp [hok], rfl, by rw [hdn, hlf, show decide (lf = 1) = false from decide_eq_false h1]; exact hd, hf, hn⟩)
    have HC := hid (xbegin_any g B lf 0 3 f0 f1 w h h0 hl (.inl ⟨rfl, rfl⟩))
    rw [if_neg h1, if_neg h1, show decide (lf = 1) = false from decide_eq_false h1] at HC
    have HBS := hid hbs
    have HG := hid h.hB
    clear h h1 hok hr hdn hlf hbs
    generalize spL lf = lf2 at *
    go_enter Try.func68, Try.ntmps68
    go_wp2_with fail
    refine HC.out.mono ?_
    rintro r w1 ⟨rfl, hd, hf⟩
    have HD := hid hd
    have HF := hid hf
    have hBS := HBS.out.frame hf (fun k hk => by have := HG.out; omega)
    have hsz := hf.size
    clear hd hf
    obtain ⟨v, b, s⟩ := f0
    obtain ⟨a1, c1, hv⟩ := own_slice HD.out.o0
    obtain rfl : v = .slice a1 b.length c1 := hv
    have c0 : w1.cell? ⟨g, 3, none⟩ = some (.slice a1 b.length c1) := HD.out.c3
    rcases hBS with ⟨rfl, hbn⟩ | ⟨ad, c, rfl, hbc⟩
    · have HBN := hid hbn
      clear hbn
      have z0 : w1.frozen? ⟨g, 3, none⟩ = false := by have hh := (HD.out).hg; simp [World.frozen?, hh]
      have HOW := hid HD.out.o0
      go_wp2_with (first | (at_builtin; go_loud (refine wpList_append_own_none rfl (.tmp 21) (.tmp 22) 70 rfl B 5 i0 1 Try.underlying70 HI.out _ b.length (u8s b) rfl HOW.out rfl ?_)))
      go_ret
      refine ⟨rfl, HE.out _ (.slice a1 b.length c1) ?_ ?_ ?_⟩
      · rw [HBN.out, List.append_nil]
        exact (HD.out.set 3 (.slice a1 b.length c1)).refile
      · exact (HF.out.mono (fun k _ hk => .inl hk)).trans (G := fun k => k = g) (Fr.set rfl) (fun k _ hk => .inl hk)
      · rw [HBN.out, List.append_nil]
        exact fun k _ h => h
    · have HBC := hid hbc
      clear hbc
      have HOW := hid HD.out.o0
      have hB1 : B ≤ w1.heap.size := by omega
      generalize hbl : bs.length = m at *
      have HBL := hid hbl
      clear hbl
      go_wp2_with (first | (at_builtin; go_loud (refine wpList_append_own_at _ rfl (.tmp 21) (.tmp 22) 70 rfl B 5 i0 (.int .u8 0) 1 1 Try.underlying70 HI.out HZ0.out HZ1.out HZ2.out rfl (by decide) _ b.length (u8s b) rfl HOW.out ad m c (u8s bs) rfl (by simp [u8s, HBL.out]) (fun j u hu => (HBC.out j u hu).1) (u8s_one _) (by unfold maxLen; omega) (by omega) hB1 ?_; intro v' w2 ho1 ho2 ho3 ho4; clear ho3; obtain ⟨a2, c2, e2⟩ := own_slice ho1; subst e2; have HO1 := hid ho1; have HO2 := hid ho2; have HO4 := hid ho4; have KG := hid ((HO2.out.block g HD.out.lt (fun e => HD.out.n0 e.symm)).trans HD.out.hg); have z0 : w2.frozen? ⟨g, 3, none⟩ = false := (by have hh := KG.out; simp [World.frozen?, hh]); have q1 : w2.cell? ⟨g, 3, none⟩ = some (.slice a1 b.length c1) := (cell_row (j := 3) KG.out).trans rfl; clear ho1 ho2 ho4 c0)))
      go_ret
      have ho4 := HO4.out
      have hlt := HD.out.lt
      have D2 : Dsk w2 B g 107 (rowX false lf2 ⟨.slice a1 b.length c1, b, s⟩ f1) ⟨.slice a2 (b.length + m) c2, b ++ bs, s⟩ f1 := by
        refine ⟨KG.out, HD.out.hB, ?_, ?_, ?_, ?_, ?_⟩
        · have e9 : u8s (b ++ bs) = u8s b ++ u8s bs := by simp [u8s]
          show w2.ownsRow B 5 1 _ (b ++ bs).length (u8s (b ++ bs))
          rw [e9, List.length_append, HBL.out]
          exact HO1.out
        · exact own_same HD.out.o1 (fun k hk => HO2.out.block k (HD.out.o1.lt k hk).2 (fun e => HD.out.n01 k e.symm hk))
        · rcases ho4 with e | e
          · show (Value.slice a2 (b.length + m) c2).ownBlock ≠ some g
            rw [e]; exact HD.out.n0
          · show (Value.slice a2 (b.length + m) c2).ownBlock ≠ some g
            rw [e]; intro e2; injection e2 with e2; omega
        · exact HD.out.n1
        · intro k hk
          rcases ho4 with e | e
          · exact HD.out.n01 k (e ▸ hk)
          · have hk' : (Value.slice a2 (b.length + m) c2).ownBlock = some k := hk
            rw [e] at hk'; injection hk' with hk'; subst hk'
            exact fun e2 => by have := (HD.out.o1.lt _ e2).2; omega
      refine ⟨rfl, HE.out _ (.slice a2 (b.length + m) c2) (D2.set 3 (.slice a2 (b.length + m) c2)) ?_ ?_⟩
      · refine ((HF.out.mono (fun k _ hk => .inl hk)).trans (G := foot g ⟨.slice a1 b.length c1, b, s⟩ f1) (Fr.grown HO2.out (fun k hk => .inr (.inl hk))) (fun _ _ h => h)).trans (G := fun k => k = g) (Fr.set rfl) (fun k _ hk => .inl hk)
      · exact fun k hk => foot_new (n := w1.heap.size) ho4 (.inl rfl) k (by omega)
  · have HE := hid (fun w' v' (hd : DX w' B g false (spL lf) f0 ⟨v', f1.b ++ bs, f1.s⟩) (hf : Fr (foot g f0 f1) w w') (hn : ∀ k, k < w.heap.size → foot g f0 ⟨v', f1.b ++ bs, f1.s⟩ k → foot g f0 f1 k) => show ApOk w w' B g false lf 1 f0 f1 bs from ⟨f0, ⟨v', f1.b ++ bs, f1.s⟩, by simp [hok], rfl, by simp [hok], rfl, by rw [hdn, hlf, show decide (lf = 1) = false from decide_eq_false h1]; exact hd, hf, hn⟩)
    have HC := hid (xbegin_any g B lf 1 5 f0 f1 w h h0 hl (.inr ⟨rfl, rfl⟩))
    rw [if_neg h1, if_neg h1, show decide (lf = 1) = false from decide_eq_false h1] at HC
    have HBS := hid hbs
    have HG := hid h.hB
    clear h h1 hok hr hdn hlf hbs
    generalize spL lf = lf2 at *
    go_enter Try.func68, Try.ntmps68
    go_wp2_with fail
    refine HC.out.mono ?_
    rintro r w1 ⟨rfl, hd, hf⟩
    have HD := hid hd
    have HF := hid hf
    have hBS := HBS.out.frame hf (fun k hk => by have := HG.out; omega)
    have hsz := hf.size
    clear hd hf
    obtain ⟨v, b, s⟩ := f1
    obtain ⟨a1, c1, hv⟩ := own_slice HD.out.o1
    obtain rfl : v = .slice a1 b.length c1 := hv
    have c0 : w1.cell? ⟨g, 5, none⟩ = some (.slice a1 b.length c1) := HD.out.c5
    rcases hBS with ⟨rfl, hbn⟩ | ⟨ad, c, rfl, hbc⟩
    · have HBN := hid hbn
      clear hbn
      have z0 : w1.frozen? ⟨g, 5, none⟩ = false := by have hh := (HD.out).hg; simp [World.frozen?, hh]
      have HOW := hid HD.out.o1
      go_wp2_with (first | (at_builtin; go_loud (refine wpList_append_own_none rfl (.tmp 21) (.tmp 22) 70 rfl B 5 i0 1 Try.underlying70 HI.out _ b.length (u8s b) rfl HOW.out rfl ?_)))
      go_ret
      refine ⟨rfl, HE.out _ (.slice a1 b.length c1) ?_ ?_ ?_⟩
      · rw [HBN.out, List.append_nil]
        exact (HD.out.set 5 (.slice a1 b.length c1)).refile
      · exact (HF.out.mono (fun k _ hk => .inl hk)).trans (G := fun k => k = g) (Fr.set rfl) (fun k _ hk => .inl hk)
      · rw [HBN.out, List.append_nil]
        exact fun k _ h => h
    · have HBC := hid hbc
      clear hbc
      have HOW := hid HD.out.o1
      have hB1 : B ≤ w1.heap.size := by omega
      generalize hbl : bs.length = m at *
      have HBL := hid hbl
      clear hbl
      go_wp2_with (first | (at_builtin; go_loud (refine wpList_append_own_at _ rfl (.tmp 21) (.tmp 22) 70 rfl B 5 i0 (.int .u8 0) 1 1 Try.underlying70 HI.out HZ0.out HZ1.out HZ2.out rfl (by decide) _ b.length (u8s b) rfl HOW.out ad m c (u8s bs) rfl (by simp [u8s, HBL.out]) (fun j u hu => (HBC.out j u hu).1) (u8s_one _) (by unfold maxLen; omega) (by omega) hB1 ?_; intro v' w2 ho1 ho2 ho3 ho4; clear ho3; obtain ⟨a2, c2, e2⟩ := own_slice ho1; subst e2; have HO1 := hid ho1; have HO2 := hid ho2; have HO4 := hid ho4; have KG := hid ((HO2.out.block g HD.out.lt (fun e => HD.out.n1 e.symm)).trans HD.out.hg); have z0 : w2.frozen? ⟨g, 5, none⟩ = false := (by have hh := KG.out; simp [World.frozen?, hh]); have q1 : w2.cell? ⟨g, 5, none⟩ = some (.slice a1 b.length c1) := (cell_row (j := 5) KG.out).trans rfl; clear ho1 ho2 ho4 c0)))
      go_ret
      have ho4 := HO4.out
      have hlt := HD.out.lt
      have D2 : Dsk w2 B g 107 (rowX false lf2 f0 ⟨.slice a1 b.length c1, b, s⟩) f0 ⟨.slice a2 (b.length + m) c2, b ++ bs, s⟩ := by
        refine ⟨KG.out, HD.out.hB, ?_, ?_, ?_, ?_, ?_⟩
        · exact own_same HD.out.o0 (fun k hk => HO2.out.block k (HD.out.o0.lt k hk).2 (fun e => HD.out.n01 k hk e.symm))
        · have e9 : u8s (b ++ bs) = u8s b ++ u8s bs := by simp [u8s]
          show w2.ownsRow B 5 1 _ (b ++ bs).length (u8s (b ++ bs))
          rw [e9, List.length_append, HBL.out]
          exact HO1.out
        · exact HD.out.n0
        · rcases ho4 with e | e
          · show (Value.slice a2 (b.length + m) c2).ownBlock ≠ some g
            rw [e]; exact HD.out.n1
          · show (Value.slice a2 (b.length + m) c2).ownBlock ≠ some g
            rw [e]; intro e2; injection e2 with e2; omega
        · intro k hk
          rcases ho4 with e | e
          · show (Value.slice a2 (b.length + m) c2).ownBlock ≠ some k
            rw [e]; exact HD.out.n01 k hk
          · show (Value.slice a2 (b.length + m) c2).ownBlock ≠ some k
            rw [e]; intro e2; injection e2 with e2; subst e2
            have := (HD.out.o0.lt _ hk).2; omega
      refine ⟨rfl, HE.out _ (.slice a2 (b.length + m) c2) (D2.set 5 (.slice a2 (b.length + m) c2)) ?_ ?_⟩
      · refine ((HF.out.mono (fun k _ hk => .inl hk)).trans (G := foot g f0 ⟨.slice a1 b.length c1, b, s⟩) (Fr.grown HO2.out (fun k hk => .inr (.inr hk))) (fun _ _ h => h)).trans (G := fun k => k = g) (Fr.set rfl) (fun k _ hk => .inl hk)
      · exact fun k hk => foot_new (n := w1.heap.size) (.inl rfl) ho4 k (by omega)
end Go.Proofs.Yteanlcefdoigcaa
