/- The reference's states (127): its two rows in memory, and how they are made. (Printed by wip/gen_sta.py.) -/
import Derived.Test.YteoikaedpgianaaRDst
import Derived.Test.YteoikaedpgianaaRLink
namespace Go.Proofs.Yteoikaedpgianaa
open Go.RowKit Go.Sort Go.Lib Go.Shelf Go.Proofs

theorem nearRef_any (p q : Fx) (m0 m1 m2 m3 : Int) (w : World) (hp : p.ok = true) (hq : q.ok = true) (hm : 0 ≤ m1 ∧ m1 ≤ 1000000) :
    Calls Try.prog 93 #[.agg #[.int .i64 p.t, .int .i64 p.x, .int .i64 p.y, .int .i64 p.z, .int .i64 p.e, .int .i64 p.a, .int .i64 p.b, .int .i64 p.c, .int .i64 p.d, .int .i64 p.g], .agg #[.int .i64 q.t, .int .i64 q.x, .int .i64 q.y, .int .i64 q.z, .int .i64 q.e, .int .i64 q.a, .int .i64 q.b, .int .i64 q.c, .int .i64 q.d, .int .i64 q.g], .agg #[.int .i64 m0, .int .i64 m1, .int .i64 m2, .int .i64 m3]] w fun r w' => r = .returned (.bool (nearB m1 p q)) ∧ Below w.heap.size w w' := by
  have h1 := p.ok_bounds hp
  have h2 := q.ok_bounds hq
  exact rnear_any p.t p.x p.y p.z p.e p.a p.b p.c p.d p.g q.t q.x q.y q.z q.e q.a q.b q.c q.d q.g m0 m1 m2 m3 w ⟨h1.2.1, h1.2.2.1, h1.2.2.2.1, h2.2.1, h2.2.2.1, h2.2.2.2.1⟩ ⟨h1.1, h2.1⟩ ⟨h1.2.2.2.2, h2.2.2.2.2⟩ hm
/-- a row of so many cells with these values -/
def RowF (W : World) (g t n : Nat) (f : Nat → Value) : Prop := ∃ C : Array Value, W.heap[g]? = some (.cells C t) ∧ C.size = n ∧ ∀ j, j < n → C[j]? = some (f j)
theorem RowF.grow {W W' : World} {g t n : Nat} {f : Nat → Value} (h : RowF W g t n f) (hb : Below W.heap.size W W') : RowF W' g t n f := by
  obtain ⟨C, h1, h2⟩ := h
  exact ⟨C, heap_still hb h1, h2⟩
theorem RowF.same {W W' : World} {g t n : Nat} {f : Nat → Value} (h : RowF W g t n f) (hb : W'.heap[g]? = W.heap[g]?) : RowF W' g t n f := by
  obtain ⟨C, h1, h2⟩ := h
  exact ⟨C, hb.trans h1, h2⟩
theorem RowF.lt {W : World} {g t n : Nat} {f : Nat → Value} (h : RowF W g t n f) : g < W.heap.size := by
  obtain ⟨C, h1, _⟩ := h
  exact (Array.getElem?_eq_some_iff.1 h1).1
theorem RowF.cell {W : World} {g t n : Nat} {f : Nat → Value} (h : RowF W g t n f) {j : Nat} (hj : j < n) : W.cell? ⟨g, j, none⟩ = some (f j) := by
  obtain ⟨C, h1, _, h3⟩ := h
  rw [cell_row h1, h3 j hj]
theorem RowF.frozen {W : World} {g t n j : Nat} {f : Nat → Value} (h : RowF W g t n f) : W.frozen? ⟨g, j, none⟩ = false := by
  obtain ⟨C, h1, _⟩ := h
  simp [World.frozen?, h1]
theorem RowF.set {W : World} {g t n : Nat} {f : Nat → Value} (h : RowF W g t n f) (j : Nat) (v : Value) : RowF (W.setCell ⟨g, j, none⟩ v) g t n (updG f j v) := by
  obtain ⟨C, h1, h2, h3⟩ := h
  refine ⟨_, heap_setCell h1 v, by simp [h2], fun k hk => ?_⟩
  unfold updG
  by_cases e : k = j
  · subst e; rw [if_pos rfl]; simp [h2, hk]
  · rw [if_neg e, Array.getElem?_setIfInBounds_ne (fun h => e h.symm)]; exact h3 k hk
theorem RowF.ext {W : World} {g t n : Nat} {f f' : Nat → Value} (h : RowF W g t n f) (he : ∀ j, f j = f' j) : RowF W g t n f' := by
  have : f = f' := funext he
  exact this ▸ h
theorem RowF.apart {W : World} {g g' t t' n n' : Nat} {f f' : Nat → Value} (h : RowF W g t n f) (h' : RowF W g' t' n' f') (ht : t ≠ t') : g ≠ g' := fun e => by
  obtain ⟨C, h1, _⟩ := h
  obtain ⟨C', h2, _⟩ := h'
  rw [e, h2] at h1
  injection h1 with h1
  injection h1 with _ h1
  exact ht h1.symm
theorem RowF.not_own {W : World} {g t n B t' sz : Nat} {f : Nat → Value} {v : Value} {l : List (List Value)} (h : RowF W g t n f) (ho : OwnR W B t' sz v l) (ht : t' ≠ t) : v.ownBlock ≠ some g := by
  obtain ⟨C, h1, _⟩ := h
  exact own_not ho h1 ht
theorem RowF.made {W : World} {t n : Nat} {z : Value} : RowF (W.alloc (.cells (madeCells #[z] n) t)) W.heap.size t n (fun _ => z) :=
  ⟨_, heap_alloc_at _ _ _ rfl, size_madeCells _ _, fun j hj => by simp [madeCells, hj, Nat.mod_one]⟩
/-- what a made row is, while a region goes on -/
def MadeV (V : World) (t n : Nat) (z : Value) (W : World) (v : Value) : Prop := ∃ g, v = .slice (some ⟨g, 0, none⟩) n n ∧ V.heap.size ≤ g ∧ RowF W g t n (fun _ => z)
theorem MadeV.stb (V : World) (t n : Nat) (z : Value) : Stb (MadeV V t n z) := fun _ _ _ hb ⟨g, h1, h2, h3⟩ => ⟨g, h1, h2, h3.grow hb⟩
theorem info3s : (Try.prog.info? 3).map (fun i => (i.zero, i.size, i.bytes)) = some (some (.int .i64 0), 1, 8) := by kernel_rfl
theorem info4s : (Try.prog.info? 4).map (fun i => (i.zero, i.size, i.bytes)) = some (some (.bool false), 1, 1) := by kernel_rfl
set_option maxRecDepth 100000 in
set_option maxHeartbeats 3200000 in
theorem states_make (s1 s2 s3 s4 s5 s6 s7 s8 s9 s10 s11 s12 s13 s14 s15 s16 s17 s18 s19 s20 s21 s22 s23 s24 s25 s26 s27 s28 s29 s30 s31 s32 s33 s34 s35 s36 s37 s38 s39 s40 s41 s42 s43 s44 s45 s46 s47 s48 s49 s50 s51 s52 s53 s54 s55 s56 s57 s58 s59 s60 s61 s62 s63 s64 s65 s66 s67 s68 s69 s70 s71 s72 s73 s74 s75 s76 s77 s78 s79 s80 s81 s82 s83 s84 s85 s86 s87 s88 s89 s90 s91 s92 s93 s94 s95 s96 s97 s98 s99 s100 s101 s102 s103 s104 s105 s106 s107 s108 s109 s110 s111 s112 s113 s114 s115 s116 s117 s118 s119 s120 s121 s122 s123 s124 s125 s126 s127 s128 s129 s130 s131 s132 s133 s134 s135 s136 s137 s138 s139 s140 s141 s142 s143 s144 s145 s146 s147 s148 s149 s150 s151 : Value) (V : World) (n fc : Nat) (fa : Option Addr) (Q : Exit → Act → World → Prop) (R : Code) (hR : Try.f127.body.bind (findR 1) = some R) (hn : n ≤ 1000000)
    (HQ : Hid (∀ (u14 u15 u16 u17 u18 u19 : Value) (go gj : Nat) (W5 : World), V.heap.size ≤ go → V.heap.size ≤ gj → RowF W5 go 3 n (fun _ => .int .i64 0) → RowF W5 gj 4 n (fun _ => .bool false) → Below V.heap.size V W5 → Q Exit.normal ({ tmps := List.toArray (List.cons (.slice fa n fc) (List.cons (s1) (List.cons (s2) (List.cons (s3) (List.cons (s4) (List.cons (s5) (List.cons (.slice (some ⟨go, 0, none⟩) n n) (List.cons (.slice (some ⟨gj, 0, none⟩) n n) (List.cons (s8) (List.cons (s9) (List.cons (s10) (List.cons (s11) (List.cons (s12) (List.cons (s13) (List.cons (u14) (List.cons (u15) (List.cons (u16) (List.cons (u17) (List.cons (u18) (List.cons (u19) (List.cons (s20) (List.cons (s21) (List.cons (s22) (List.cons (s23) (List.cons (s24) (List.cons (s25) (List.cons (s26) (List.cons (s27) (List.cons (s28) (List.cons (s29) (List.cons (s30) (List.cons (s31) (List.cons (s32) (List.cons (s33) (List.cons (s34) (List.cons (s35) (List.cons (s36) (List.cons (s37) (List.cons (s38) (List.cons (s39) (List.cons (s40) (List.cons (s41) (List.cons (s42) (List.cons (s43) (List.cons (s44) (List.cons (s45) (List.cons (s46) (List.cons (s47) (List.cons (s48) (List.cons (s49) (List.cons (s50) (List.cons (s51) (List.cons (s52) (List.cons (s53) (List.cons (s54) (List.cons (s55) (List.cons (s56) (List.cons (s57) (List.cons (s58) (List.cons (s59) (List.cons (s60) (List.cons (s61) (List.cons (s62) (List.cons (s63) (List.cons (s64) (List.cons (s65) (List.cons (s66) (List.cons (s67) (List.cons (s68) (List.cons (s69) (List.cons (s70) (List.cons (s71) (List.cons (s72) (List.cons (s73) (List.cons (s74) (List.cons (s75) (List.cons (s76) (List.cons (s77) (List.cons (s78) (List.cons (s79) (List.cons (s80) (List.cons (s81) (List.cons (s82) (List.cons (s83) (List.cons (s84) (List.cons (s85) (List.cons (s86) (List.cons (s87) (List.cons (s88) (List.cons (s89) (List.cons (s90) (List.cons (s91) (List.cons (s92) (List.cons (s93) (List.cons (s94) (List.cons (s95) (List.cons (s96) (List.cons (s97) (List.cons (s98) (List.cons (s99) (List.cons (s100) (List.cons (s101) (List.cons (s102) (List.cons (s103) (List.cons (s104) (List.cons (s105) (List.cons (s106) (List.cons (s107) (List.cons (s108) (List.cons (s109) (List.cons (s110) (List.cons (s111) (List.cons (s112) (List.cons (s113) (List.cons (s114) (List.cons (s115) (List.cons (s116) (List.cons (s117) (List.cons (s118) (List.cons (s119) (List.cons (s120) (List.cons (s121) (List.cons (s122) (List.cons (s123) (List.cons (s124) (List.cons (s125) (List.cons (s126) (List.cons (s127) (List.cons (s128) (List.cons (s129) (List.cons (s130) (List.cons (s131) (List.cons (s132) (List.cons (s133) (List.cons (s134) (List.cons (s135) (List.cons (s136) (List.cons (s137) (List.cons (s138) (List.cons (s139) (List.cons (s140) (List.cons (s141) (List.cons (s142) (List.cons (s143) (List.cons (s144) (List.cons (s145) (List.cons (s146) (List.cons (s147) (List.cons (s148) (List.cons (s149) (List.cons (s150) (List.cons (s151) List.nil)))))))))))))))))))))))))))))))))))))))))))))))))))))))))))))))))))))))))))))))))))))))))))))))))))))))))))))))))))))))))))))))))))))))))))))))))))))))), defers := [] } : Act) W5)) :
    Code.wp Try.prog R Q ({ tmps := List.toArray (List.cons (.slice fa n fc) (List.cons (s1) (List.cons (s2) (List.cons (s3) (List.cons (s4) (List.cons (s5) (List.cons (s6) (List.cons (s7) (List.cons (s8) (List.cons (s9) (List.cons (s10) (List.cons (s11) (List.cons (s12) (List.cons (s13) (List.cons (s14) (List.cons (s15) (List.cons (s16) (List.cons (s17) (List.cons (s18) (List.cons (s19) (List.cons (s20) (List.cons (s21) (List.cons (s22) (List.cons (s23) (List.cons (s24) (List.cons (s25) (List.cons (s26) (List.cons (s27) (List.cons (s28) (List.cons (s29) (List.cons (s30) (List.cons (s31) (List.cons (s32) (List.cons (s33) (List.cons (s34) (List.cons (s35) (List.cons (s36) (List.cons (s37) (List.cons (s38) (List.cons (s39) (List.cons (s40) (List.cons (s41) (List.cons (s42) (List.cons (s43) (List.cons (s44) (List.cons (s45) (List.cons (s46) (List.cons (s47) (List.cons (s48) (List.cons (s49) (List.cons (s50) (List.cons (s51) (List.cons (s52) (List.cons (s53) (List.cons (s54) (List.cons (s55) (List.cons (s56) (List.cons (s57) (List.cons (s58) (List.cons (s59) (List.cons (s60) (List.cons (s61) (List.cons (s62) (List.cons (s63) (List.cons (s64) (List.cons (s65) (List.cons (s66) (List.cons (s67) (List.cons (s68) (List.cons (s69) (List.cons (s70) (List.cons (s71) (List.cons (s72) (List.cons (s73) (List.cons (s74) (List.cons (s75) (List.cons (s76) (List.cons (s77) (List.cons (s78) (List.cons (s79) (List.cons (s80) (List.cons (s81) (List.cons (s82) (List.cons (s83) (List.cons (s84) (List.cons (s85) (List.cons (s86) (List.cons (s87) (List.cons (s88) (List.cons (s89) (List.cons (s90) (List.cons (s91) (List.cons (s92) (List.cons (s93) (List.cons (s94) (List.cons (s95) (List.cons (s96) (List.cons (s97) (List.cons (s98) (List.cons (s99) (List.cons (s100) (List.cons (s101) (List.cons (s102) (List.cons (s103) (List.cons (s104) (List.cons (s105) (List.cons (s106) (List.cons (s107) (List.cons (s108) (List.cons (s109) (List.cons (s110) (List.cons (s111) (List.cons (s112) (List.cons (s113) (List.cons (s114) (List.cons (s115) (List.cons (s116) (List.cons (s117) (List.cons (s118) (List.cons (s119) (List.cons (s120) (List.cons (s121) (List.cons (s122) (List.cons (s123) (List.cons (s124) (List.cons (s125) (List.cons (s126) (List.cons (s127) (List.cons (s128) (List.cons (s129) (List.cons (s130) (List.cons (s131) (List.cons (s132) (List.cons (s133) (List.cons (s134) (List.cons (s135) (List.cons (s136) (List.cons (s137) (List.cons (s138) (List.cons (s139) (List.cons (s140) (List.cons (s141) (List.cons (s142) (List.cons (s143) (List.cons (s144) (List.cons (s145) (List.cons (s146) (List.cons (s147) (List.cons (s148) (List.cons (s149) (List.cons (s150) (List.cons (s151) List.nil)))))))))))))))))))))))))))))))))))))))))))))))))))))))))))))))))))))))))))))))))))))))))))))))))))))))))))))))))))))))))))))))))))))))))))))))))))))))), defers := [] } : Act) V := by
  simp [findR, Try.f127] at hR
  subst hR
  obtain ⟨i3, hi3, h30, h31, h32⟩ := info_parts info3s
  obtain ⟨i4, hi4, h40, h41, h42⟩ := info_parts info4s
  have HI3 := hid hi3
  have H30 := hid h30
  have H31 := hid h31
  have H32 := hid h32
  have HI4 := hid hi4
  have H40 := hid h40
  have H41 := hid h41
  have H42 := hid h42
  clear hi3 h30 h31 h32 hi4 h40 h41 h42
  refine gen_act (fun A0 hA => ?_)
  refine wp_region_pl (by kernel_rfl) (by kernel_rfl) [some 14, some 15, some 16, some 17, some 18, some 19, some 6, some 7] rfl (by decide)
    [IsV (.slice fa n fc), IsV (.int .i64 (n : Int)), MadeV V 3 n (.int .i64 0), IsV (.slice fa n fc), IsV (.int .i64 (n : Int)), MadeV V 4 n (.bool false), MadeV V 3 n (.int .i64 0), MadeV V 4 n (.bool false)]
    ⟨IsV.stb _, IsV.stb _, MadeV.stb _ _ _ _, IsV.stb _, IsV.stb _, MadeV.stb _ _ _ _, MadeV.stb _ _ _ _, MadeV.stb _ _ _ _, trivial⟩ ?hs ?he
  case hs =>
    refine ⟨?_, ?_, ?_, ?_, ?_, ?_, ?_, ?_, trivial⟩
    · intro K us W hK0 hB hd
      have hK := hid hK0; clear hK0
      have HBW := hid hB
      clear hd
      simp only [putF]
      rw [hA]
      go_frame
      go_wp2_with fail
      exact hK.out _ _ _ (by rw [hA]; simp only [putF]; kernel_rfl) (Below.refl _ _) rfl
    · intro K us W hK0 hB hd
      have hK := hid hK0; clear hK0
      have HBW := hid hB
      have e0 : us 0 = .slice fa n fc := hd ⟨0, Ground.data⟩ (by simp) rfl
      clear hd
      simp only [putF]
      rw [hA, e0]
      go_frame
      go_wp2_with fail
      exact hK.out _ _ _ (by rw [hA]; simp only [putF]; rw [e0]; kernel_rfl) (Below.refl _ _) rfl
    · intro K us W hK0 hB hd
      have hK := hid hK0; clear hK0
      have HBW := hid hB
      have e1 : us 1 = .int .i64 (n : Int) := hd ⟨1, Ground.data⟩ (by simp) rfl
      clear hd
      simp only [putF]
      rw [hA, e1]
      go_frame
      go_wp2_with (go_loud (refine wpList_make_lc _ rfl (.tmp 15) (.tmp 15) 31 rfl 3 i3 (.int .i64 0) Try.underlying31 HI3.out H30.out H31.out rfl .i64 .i64 (n : Int) (n : Int) n n rfl rfl rfl rfl (Nat.le_refl _) (by rw [H32.out]; omega) (by omega) ?_))
      exact hK.out (.slice (some ⟨W.heap.size, 0, none⟩) n n) _ _ (by rw [hA]; simp only [putF]; rw [e1]; kernel_rfl) ((Below.refl _ _).alloc (Nat.le_refl _) _) ⟨_, rfl, HBW.out.size, RowF.made⟩
    · intro K us W hK0 hB hd
      have hK := hid hK0; clear hK0
      have HBW := hid hB
      clear hd
      simp only [putF]
      rw [hA]
      go_frame
      go_wp2_with fail
      exact hK.out _ _ _ (by rw [hA]; simp only [putF]; kernel_rfl) (Below.refl _ _) rfl
    · intro K us W hK0 hB hd
      have hK := hid hK0; clear hK0
      have HBW := hid hB
      have e3 : us 3 = .slice fa n fc := hd ⟨3, Ground.data⟩ (by simp) rfl
      clear hd
      simp only [putF]
      rw [hA, e3]
      go_frame
      go_wp2_with fail
      exact hK.out _ _ _ (by rw [hA]; simp only [putF]; rw [e3]; kernel_rfl) (Below.refl _ _) rfl
    · intro K us W hK0 hB hd
      have hK := hid hK0; clear hK0
      have HBW := hid hB
      have e4 : us 4 = .int .i64 (n : Int) := hd ⟨4, Ground.data⟩ (by simp) rfl
      clear hd
      simp only [putF]
      rw [hA, e4]
      go_frame
      go_wp2_with (go_loud (refine wpList_make_lc _ rfl (.tmp 18) (.tmp 18) 178 rfl 4 i4 (.bool false) Try.underlying178 HI4.out H40.out H41.out rfl .i64 .i64 (n : Int) (n : Int) n n rfl rfl rfl rfl (Nat.le_refl _) (by rw [H42.out]; omega) (by omega) ?_))
      exact hK.out (.slice (some ⟨W.heap.size, 0, none⟩) n n) _ _ (by rw [hA]; simp only [putF]; rw [e4]; kernel_rfl) ((Below.refl _ _).alloc (Nat.le_refl _) _) ⟨_, rfl, HBW.out.size, RowF.made⟩
    · intro K us W hK0 hB hd
      have hK := hid hK0; clear hK0
      obtain ⟨g, e2, hg, hr⟩ := hd ⟨2, Ground.data⟩ (by simp) rfl
      have HR := hid hr
      clear hd hr
      simp only [putF]
      rw [hA, e2]
      go_frame
      go_wp2_with fail
      exact hK.out _ _ _ (by rw [hA]; simp only [putF]; rw [e2]; kernel_rfl) (Below.refl _ _) ⟨g, rfl, hg, HR.out⟩
    · intro K us W hK0 hB hd
      have hK := hid hK0; clear hK0
      obtain ⟨g, e5, hg, hr⟩ := hd ⟨5, Ground.data⟩ (by simp) rfl
      have HR := hid hr
      clear hd hr
      simp only [putF]
      rw [hA, e5]
      go_frame
      go_wp2_with fail
      exact hK.out _ _ _ (by rw [hA]; simp only [putF]; rw [e5]; kernel_rfl) (Below.refl _ _) ⟨g, rfl, hg, HR.out⟩
  case he =>
    intro us W5 hBB hall
    obtain ⟨go, e6, hgo, hro⟩ := hall 6 (by decide)
    obtain ⟨gj, e7, hgj, hrj⟩ := hall 7 (by decide)
    simp only [putF]
    rw [hA, e6, e7]
    go_frame
    exact HQ.out _ _ _ _ _ _ go gj W5 hgo hgj hro hrj hBB
end Go.Proofs.Yteoikaedpgianaa
