/- The program's disk: lose 108. (Printed by wip/gen_diskl.py.) -/
import Derived.Test.YteanlcefdoigcaaDiskC
import Derived.Lib.QuietBelow
namespace Go.Proofs.Yteanlcefdoigcaa
open Go.RowKit

theorem seqs_step {P : Program} {ops : Array Oper} {Q : Exit → Act → World → Prop} {l rest : List Oper} {o : Oper} {a : Act} {w : World} (hl : l = o :: rest)
    (h : ∀ K : Act → World → Prop, (∀ v A' W', A' = a.put o.dst v → SeqS P ops Q rest A' W' → K A' W') → wpList P ops (Exit.then K Q) [o] a w) : SeqS P ops Q l a w := by
  subst hl
  exact h
theorem seqs_end {P : Program} {ops : Array Oper} {Q : Exit → Act → World → Prop} {l : List Oper} {a : Act} {w : World} (hl : l = []) (h : Q .normal a w) : SeqS P ops Q l a w := by
  subst hl
  exact h
/-- how many loose bytes are kept -/
def keepN (k : Int) (f : Fl) : Nat := min k.toNat (f.b.length - f.s)
theorem keepN_int (k : Int) (n s : Nat) (hs : s ≤ n) : (if (n : Int) - (s : Int) < (if k < 0 then 0 else k) then (n : Int) - (s : Int) else if k < 0 then 0 else k) = ((min k.toNat (n - s) : Nat) : Int) := by
  split <;> split <;> omega
/-- the rows of a new slice behind a call -/
theorem own_cap {W : World} {B n m c : Nat} {a : Option Addr} {xs : List Value} (h : W.ownsRow B 5 1 (.slice a m c) n xs) : m ≤ c := by
  obtain ⟨_, ⟨h1, h2⟩ | ⟨g, cap, cur, h1, _, _, h4, _⟩⟩ := h
  · injection h1 with _ h3 h4; omega
  · injection h1 with _ h3 h5; omega
theorem own_low {W : World} {B B' n : Nat} {v : Value} {xs : List Value} (h : W.ownsRow B 5 1 v n xs) (hB : B' ≤ B) : W.ownsRow B' 5 1 v n xs := by
  obtain ⟨h1, h2⟩ := h
  exact ⟨h1, h2.imp id (fun ⟨g, cap, cur, e, h3, h4⟩ => ⟨g, cap, cur, e, Nat.le_trans hB h3, h4⟩)⟩
def NewB (B : Nat) (n : Nat) (xs : List Value) (W : World) (v : Value) : Prop := W.ownsRow B 5 1 v n xs
theorem NewB.stb (B n : Nat) (xs : List Value) : Stb (NewB B n xs) := fun _ _ _ hB h => own_same h (fun k hk => hB.block k (h.lt k hk).2)
theorem rdb_take {W : World} {a : Option Addr} {c m : Nat} {bs : List Nat} (h : RdB W (.slice a bs.length c) bs) (hm : m ≤ bs.length) (ha : ∀ ad, a = some ad → True) : RdB W (.slice a m c) (bs.take m) := by
  rcases h with ⟨h1, h2⟩ | ⟨ad, c', h1, h2⟩
  · subst h2
    injection h1 with h1 _ h3
    subst h1 h3
    obtain rfl : m = 0 := by simpa using hm
    exact .inl ⟨rfl, by simp⟩
  · injection h1 with h1 _ h3
    subst h1
    refine .inr ⟨ad, c, by rw [List.length_take, Nat.min_eq_left hm], fun j u hu => h2 j u ?_⟩
    have e : u8s (bs.take m) = (u8s bs).take m := by simp [u8s, List.map_take]
    rw [e, List.getElem?_take] at hu
    split at hu
    · exact hu
    · exact absurd hu (by simp)
set_option maxRecDepth 100000 in
set_option maxHeartbeats 800000 in
theorem xlose0_any (g B : Nat) (dn : Bool) (lf k : Int) (f0 f1 : Fl) (w : World) (h : DX w B g dn lf f0 f1) (hs : f0.s ≤ f0.b.length) (hn : f0.b.length ≤ 1000000) (hB : B ≤ w.heap.size) :
    Calls Try.prog 108 #[.pointer (some ⟨g, 3, none⟩), .int .i64 k] w fun r w' => r = .returned (.tuple #[]) ∧ ∃ v', DX w' B g dn lf ⟨v', f0.b.take (f0.s + keepN k f0), f0.s + keepN k f0⟩ f1 ∧ Fr (fun k => k = g) w w' ∧ ∀ k, v'.ownBlock = some k → w.heap.size ≤ k := by
  have H := hid h
  clear h
  obtain ⟨v, b, s⟩ := f0
  obtain ⟨a1, c1, hv⟩ := own_slice H.out.o0
  obtain rfl : v = .slice a1 b.length c1 := hv
  simp only [keepN] at hs hn ⊢
  have hs' : (s : Int) ≤ (b.length : Int) := by omega
  have HKP := hid (keepN_int k b.length s hs)
  obtain ⟨kp, hkp⟩ : ∃ kp : Nat, kp = min k.toNat (b.length - s) := ⟨_, rfl⟩
  rw [← hkp] at HKP ⊢
  have hkn : s + kp ≤ b.length := by omega
  clear hkp
  have c3 : w.cell? ⟨g, 3, none⟩ = some (.slice a1 b.length c1) := H.out.c3
  have c4 : w.cell? ⟨g, 3 + 1, none⟩ = some (.int .i64 (s : Int)) := H.out.c4
  have q3 := fun d os => cell_regrown c3 d os
  have q4 := fun d os => cell_regrown c4 d os
  go_enter Try.func108, Try.ntmps108
  go_wp2_with fail
  refine wp_region_quiet_below (by kernel_rfl) (by kernel_rfl) ?_
  repeat (first | go_big_quiet_step (fail) | quiet_step (fail))
  refine wpQuiet_nil ?_
  intro _ hw'
  obtain ⟨⟨dqV, osV⟩, hw2⟩ := hw'
  subst hw2
  have HQV := hid (below_regrown w dqV osV)
  generalize Sort.grow (redrawn w dqV) osV = V at HQV ⊢
  have hsV := HQV.out.size
  rw [HKP.out]
  generalize (if k < 0 then (0 : Int) else k) = k5
  have HV := hid (H.out.still HQV.out)
  have FV := hid (Fr.of_below (F := fun k => k = g) HQV.out)
  have hzV := HQV.out.size
  clear c3 c4 q3 q4 HQV HKP
  have c4 : V.cell? ⟨g, 4, none⟩ = some (.int .i64 (s : Int)) := HV.out.c4
  have z4 : V.frozen? ⟨g, 4, none⟩ = false := by have hh := (HV.out).hg; simp [World.frozen?, hh]
  go_upto_region 2 with fail
  clear c4 z4
  refine gen_world (fun W1 hW1 => ?_)
  have D1 := hid (show DX W1 B g dn lf ⟨.slice a1 b.length c1, b, s + kp⟩ f1 by rw [hW1]; exact (HV.out.set 4 (.int .i64 ((s : Int) + (kp : Int)))).refile)
  have F1 := hid (show Fr (fun k => k = g) w W1 by rw [hW1]; exact FV.out.trans (G := fun k => k = g) (Fr.set rfl) (fun _ _ h => h))
  have HB1 := hid (show B ≤ W1.heap.size by have := F1.out.size; omega)
  clear hW1
  have HRD := hid (rdb_take (own_rdb D1.out.o0) hkn (fun _ _ => trivial))
  refine gen_act (fun A0 hA => ?_)
  refine wp_region_tail (by kernel_rfl) (by kernel_rfl) [some 25, some 26, some 27, some 28, some 29, some 30, some 31, some 32, some 33, some 34, some 35, some 36, some 37, none] rfl (by decide) 11 (by decide) (by kernel_rfl) (by kernel_rfl)
    [IsV (.pointer (some ⟨g, 3, none⟩)), IsV (.pointer (some ⟨g, 3, none⟩)), IsV (.pointer (some ⟨g, 3, none⟩)), IsV (.pointer (some ⟨g, 3, none⟩)), IsV (.slice a1 b.length c1), IsV (.pointer (some ⟨g, 3, none⟩)), IsV (.pointer (some ⟨g, 3, none⟩)), IsV (.pointer (some ⟨g, 4, none⟩)), IsV (.int .i64 ((s + kp : Nat) : Int)), IsV (.slice a1 (s + kp) c1), NewB W1.heap.size (b.take (s + kp)).length (u8s (b.take (s + kp)))]
    ⟨IsV.stb _, IsV.stb _, IsV.stb _, IsV.stb _, IsV.stb _, IsV.stb _, IsV.stb _, IsV.stb _, IsV.stb _, IsV.stb _, NewB.stb _ _ _, trivial⟩ ?hs ?htail
  case hs =>
    refine ⟨?_, ?_, ?_, ?_, ?_, ?_, ?_, ?_, ?_, ?_, ?_, trivial⟩
    · intro K us W hK0 hB hd
      have hK := hid hK0; clear hK0
      have HBW := hid hB
      clear hd
      simp only [putF]
      rw [hA]
      go_frame
      go_wp2_with fail
      exact hK.out _ _ _ (by rw [hA]; simp only [putF]; kernel_rfl) (Below.refl _ _) rfl
    · intro K us W hK0 hB hd
      have hK := hid hK0; clear hK0
      have HBW := hid hB
      clear hd
      simp only [putF]
      rw [hA]
      go_frame
      go_wp2_with fail
      exact hK.out _ _ _ (by rw [hA]; simp only [putF]; kernel_rfl) (Below.refl _ _) rfl
    · intro K us W hK0 hB hd
      have hK := hid hK0; clear hK0
      have HBW := hid hB
      have e1 : us 1 = .pointer (some ⟨g, 3, none⟩) := hd ⟨1, Ground.data⟩ (by simp) rfl
      clear hd
      simp only [putF]
      rw [hA, e1]
      go_frame
      go_wp2_with fail
      exact hK.out _ _ _ (by rw [hA]; simp only [putF]; rw [e1]; kernel_rfl) (Below.refl _ _) rfl
    · intro K us W hK0 hB hd
      have hK := hid hK0; clear hK0
      have HBW := hid hB
      have e2 : us 2 = .pointer (some ⟨g, 3, none⟩) := hd ⟨2, Ground.data⟩ (by simp) rfl
      clear hd
      simp only [putF]
      rw [hA, e2]
      go_frame
      go_wp2_with fail
      exact hK.out _ _ _ (by rw [hA]; simp only [putF]; rw [e2]; kernel_rfl) (Below.refl _ _) rfl
    · intro K us W hK0 hB hd
      have hK := hid hK0; clear hK0
      have HBW := hid hB
      have e3 : us 3 = .pointer (some ⟨g, 3, none⟩) := hd ⟨3, Ground.data⟩ (by simp) rfl
      clear hd
      have c0 : W.cell? ⟨g, 3, none⟩ = some (.slice a1 b.length c1) := (D1.out.still hB).c3
      simp only [putF]
      rw [hA, e3]
      go_frame
      go_wp2_with fail
      exact hK.out _ _ _ (by rw [hA]; simp only [putF]; rw [e3]; kernel_rfl) (Below.refl _ _) rfl
    · intro K us W hK0 hB hd
      have hK := hid hK0; clear hK0
      have HBW := hid hB
      clear hd
      simp only [putF]
      rw [hA]
      go_frame
      go_wp2_with fail
      exact hK.out _ _ _ (by rw [hA]; simp only [putF]; kernel_rfl) (Below.refl _ _) rfl
    · intro K us W hK0 hB hd
      have hK := hid hK0; clear hK0
      have HBW := hid hB
      have e5 : us 5 = .pointer (some ⟨g, 3, none⟩) := hd ⟨5, Ground.data⟩ (by simp) rfl
      clear hd
      simp only [putF]
      rw [hA, e5]
      go_frame
      go_wp2_with fail
      exact hK.out _ _ _ (by rw [hA]; simp only [putF]; rw [e5]; kernel_rfl) (Below.refl _ _) rfl
    · intro K us W hK0 hB hd
      have hK := hid hK0; clear hK0
      have HBW := hid hB
      have e6 : us 6 = .pointer (some ⟨g, 3, none⟩) := hd ⟨6, Ground.data⟩ (by simp) rfl
      clear hd
      simp only [putF]
      rw [hA, e6]
      go_frame
      go_wp2_with fail
      exact hK.out _ _ _ (by rw [hA]; simp only [putF]; rw [e6]; kernel_rfl) (Below.refl _ _) rfl
    · intro K us W hK0 hB hd
      have hK := hid hK0; clear hK0
      have HBW := hid hB
      have e7 : us 7 = .pointer (some ⟨g, 4, none⟩) := hd ⟨7, Ground.data⟩ (by simp) rfl
      clear hd
      have c0 : W.cell? ⟨g, 4, none⟩ = some (.int .i64 ((s + kp : Nat) : Int)) := (D1.out.still hB).c4
      simp only [putF]
      rw [hA, e7]
      go_frame
      go_wp2_with fail
      exact hK.out _ _ _ (by rw [hA]; simp only [putF]; rw [e7]; kernel_rfl) (Below.refl _ _) rfl
    · intro K us W hK0 hB hd
      have hK := hid hK0; clear hK0
      have HBW := hid hB
      have e4 : us 4 = .slice a1 b.length c1 := hd ⟨4, Ground.data⟩ (by simp) rfl
      have e8 : us 8 = .int .i64 ((s + kp : Nat) : Int) := hd ⟨8, Ground.data⟩ (by simp) rfl
      clear hd
      have hcap := hid (own_cap D1.out.o0)
      have hcc := hcap.out
      simp only [putF]
      rw [hA, e4, e8]
      go_frame
      go_wp2_with fail
      exact hK.out _ _ _ (by rw [hA]; simp only [putF]; rw [e4, e8]; kernel_rfl) (Below.refl _ _) rfl
    · intro K us W hK0 hB hd
      have hK := hid hK0; clear hK0
      have HBW := hid hB
      have e9 : us 9 = .slice a1 (s + kp) c1 := hd ⟨9, Ground.data⟩ (by simp) rfl
      clear hd
      simp only [putF]
      rw [hA, e9]
      go_frame
      go_wp2_with fail
      refine (xclone_any _ (b.take (s + kp)) _ (HRD.out.still HBW.out) (by rw [List.length_take]; omega)).mono ?_
      rintro r W9 ⟨⟨v9, rfl, hv9⟩, hb9⟩
      go_wp2_with fail
      exact hK.out _ _ _ (by rw [hA]; simp only [putF]; rw [e9]; kernel_rfl) hb9 (own_low hv9 HBW.out.size)
  case htail =>
    intro us W2 hB2 hp
    have e0 : us 0 = .pointer (some ⟨g, 3, none⟩) := hp 0 (by decide)
    have e10 : NewB W1.heap.size (b.take (s + kp)).length (u8s (b.take (s + kp))) W2 (us 10) := hp 10 (by decide)
    have HD2 := hid (D1.out.still hB2)
    have hz2 := hB2.size
    have F2 := hid (F1.out.step hB2)
    obtain ⟨a9, c9, e9⟩ := own_slice e10
    rw [e9] at e10
    have HN := hid e10
    clear e10 hp
    generalize hl9 : (b.take (s + kp)).length = n9 at *
    have HL9 := hid hl9
    clear hl9
    have c0 : W2.cell? ⟨g, 3, none⟩ = some (.slice a1 b.length c1) := HD2.out.c3
    have z0 : W2.frozen? ⟨g, 3, none⟩ = false := by have hh := (HD2.out).hg; simp [World.frozen?, hh]
    refine seqs_step rfl ?_
    intro K hK0
    have hK := hid hK0; clear hK0
    simp only [putF]
    rw [hA, e0, e9]
    go_frame
    go_wp2_with fail
    refine hK.out (.pointer (some ⟨g, 3, none⟩)) _ _ (by rw [hA]; simp only [putF]; rw [e0, e9]; kernel_rfl) ?_
    clear hK e0 e9 hA
    refine seqs_step rfl ?_
    intro K hK0
    have hK := hid hK0; clear hK0
    go_wp2_with fail
    refine hK.out (.pointer (some ⟨g, 3, none⟩)) _ _ (by kernel_rfl) ?_
    clear hK
    refine seqs_step rfl ?_
    intro K hK0
    have hK := hid hK0; clear hK0
    go_wp2_with fail
    refine hK.out undef _ _ (by kernel_rfl) ?_
    clear hK
    refine seqs_end rfl ?_
    go_wp2_with fail
    go_end0
    have hlt := D1.out.lt
    refine ⟨rfl, .slice a9 n9 c9, ?_, F2.out.trans (G := fun k => k = g) (Fr.set rfl) (fun _ _ h => h), fun k hk => by have h1 := (HN.out.lt k hk).1; have h2 := F1.out.size; omega⟩
    refine (HD2.out.set 3 (.slice a9 n9 c9)).swap0 ?_ ?_ ?_
    · rw [HL9.out]
      refine own_same (own_low HN.out HB1.out) (fun k hk => Below.heap_setCell W2 ⟨g, 3, none⟩ _ k (fun e => by have h1 : k = g := e; have := (HN.out.lt k hk).1; omega))
    · intro e
      have := (HN.out.lt g e).1
      omega
    · intro k hk e
      have h1 := (HN.out.lt k hk).1
      have h2 := (D1.out.o1.lt k e).2
      omega
set_option maxRecDepth 100000 in
set_option maxHeartbeats 800000 in
theorem xlose1_any (g B : Nat) (dn : Bool) (lf k : Int) (f0 f1 : Fl) (w : World) (h : DX w B g dn lf f0 f1) (hs : f1.s ≤ f1.b.length) (hn : f1.b.length ≤ 1000000) (hB : B ≤ w.heap.size) :
    Calls Try.prog 108 #[.pointer (some ⟨g, 5, none⟩), .int .i64 k] w fun r w' => r = .returned (.tuple #[]) ∧ ∃ v', DX w' B g dn lf f0 ⟨v', f1.b.take (f1.s + keepN k f1), f1.s + keepN k f1⟩ ∧ Fr (fun k => k = g) w w' ∧ ∀ k, v'.ownBlock = some k → w.heap.size ≤ k := by
  have H := hid h
  clear h
  obtain ⟨v, b, s⟩ := f1
  obtain ⟨a1, c1, hv⟩ := own_slice H.out.o1
  obtain rfl : v = .slice a1 b.length c1 := hv
  simp only [keepN] at hs hn ⊢
  have hs' : (s : Int) ≤ (b.length : Int) := by omega
  have HKP := hid (keepN_int k b.length s hs)
  obtain ⟨kp, hkp⟩ : ∃ kp : Nat, kp = min k.toNat (b.length - s) := ⟨_, rfl⟩
  rw [← hkp] at HKP ⊢
  have hkn : s + kp ≤ b.length := by omega
  clear hkp
  have c3 : w.cell? ⟨g, 5, none⟩ = some (.slice a1 b.length c1) := H.out.c5
  have c4 : w.cell? ⟨g, 5 + 1, none⟩ = some (.int .i64 (s : Int)) := H.out.c6
  have q3 := fun d os => cell_regrown c3 d os
  have q4 := fun d os => cell_regrown c4 d os
  go_enter Try.func108, Try.ntmps108
  go_wp2_with fail
  refine wp_region_quiet_below (by kernel_rfl) (by kernel_rfl) ?_
  repeat (first | go_big_quiet_step (fail) | quiet_step (fail))
  refine wpQuiet_nil ?_
  intro _ hw'
  obtain ⟨⟨dqV, osV⟩, hw2⟩ := hw'
  subst hw2
  have HQV := hid (below_regrown w dqV osV)
  generalize Sort.grow (redrawn w dqV) osV = V at HQV ⊢
  have hsV := HQV.out.size
  rw [HKP.out]
  generalize (if k < 0 then (0 : Int) else k) = k5
  have HV := hid (H.out.still HQV.out)
  have FV := hid (Fr.of_below (F := fun k => k = g) HQV.out)
  have hzV := HQV.out.size
  clear c3 c4 q3 q4 HQV HKP
  have c4 : V.cell? ⟨g, 6, none⟩ = some (.int .i64 (s : Int)) := HV.out.c6
  have z4 : V.frozen? ⟨g, 6, none⟩ = false := by have hh := (HV.out).hg; simp [World.frozen?, hh]
  go_upto_region 2 with fail
  clear c4 z4
  refine gen_world (fun W1 hW1 => ?_)
  have D1 := hid (show DX W1 B g dn lf f0 ⟨.slice a1 b.length c1, b, s + kp⟩ by rw [hW1]; exact (HV.out.set 6 (.int .i64 ((s : Int) + (kp : Int)))).refile)
  have F1 := hid (show Fr (fun k => k = g) w W1 by rw [hW1]; exact FV.out.trans (G := fun k => k = g) (Fr.set rfl) (fun _ _ h => h))
  have HB1 := hid (show B ≤ W1.heap.size by have := F1.out.size; omega)
  clear hW1
  have HRD := hid (rdb_take (own_rdb D1.out.o1) hkn (fun _ _ => trivial))
  refine gen_act (fun A0 hA => ?_)
  refine wp_region_tail (by kernel_rfl) (by kernel_rfl) [some 25, some 26, some 27, some 28, some 29, some 30, some 31, some 32, some 33, some 34, some 35, some 36, some 37, none] rfl (by decide) 11 (by decide) (by kernel_rfl) (by kernel_rfl)
    [IsV (.pointer (some ⟨g, 5, none⟩)), IsV (.pointer (some ⟨g, 5, none⟩)), IsV (.pointer (some ⟨g, 5, none⟩)), IsV (.pointer (some ⟨g, 5, none⟩)), IsV (.slice a1 b.length c1), IsV (.pointer (some ⟨g, 5, none⟩)), IsV (.pointer (some ⟨g, 5, none⟩)), IsV (.pointer (some ⟨g, 6, none⟩)), IsV (.int .i64 ((s + kp : Nat) : Int)), IsV (.slice a1 (s + kp) c1), NewB W1.heap.size (b.take (s + kp)).length (u8s (b.take (s + kp)))]
    ⟨IsV.stb _, IsV.stb _, IsV.stb _, IsV.stb _, IsV.stb _, IsV.stb _, IsV.stb _, IsV.stb _, IsV.stb _, IsV.stb _, NewB.stb _ _ _, trivial⟩ ?hs ?htail
  case hs =>
    refine ⟨?_, ?_, ?_, ?_, ?_, ?_, ?_, ?_, ?_, ?_, ?_, trivial⟩
    · intro K us W hK0 hB hd
      have hK := hid hK0; clear hK0
      have HBW := hid hB
      clear hd
      simp only [putF]
      rw [hA]
      go_frame
      go_wp2_with fail
      exact hK.out _ _ _ (by rw [hA]; simp only [putF]; kernel_rfl) (Below.refl _ _) rfl
    · intro K us W hK0 hB hd
      have hK := hid hK0; clear hK0
      have HBW := hid hB
      clear hd
      simp only [putF]
      rw [hA]
      go_frame
      go_wp2_with fail
      exact hK.out _ _ _ (by rw [hA]; simp only [putF]; kernel_rfl) (Below.refl _ _) rfl
    · intro K us W hK0 hB hd
      have hK := hid hK0; clear hK0
      have HBW := hid hB
      have e1 : us 1 = .pointer (some ⟨g, 5, none⟩) := hd ⟨1, Ground.data⟩ (by simp) rfl
      clear hd
      simp only [putF]
      rw [hA, e1]
      go_frame
      go_wp2_with fail
      exact hK.out _ _ _ (by rw [hA]; simp only [putF]; rw [e1]; kernel_rfl) (Below.refl _ _) rfl
    · intro K us W hK0 hB hd
      have hK := hid hK0; clear hK0
      have HBW := hid hB
      have e2 : us 2 = .pointer (some ⟨g, 5, none⟩) := hd ⟨2, Ground.data⟩ (by simp) rfl
      clear hd
      simp only [putF]
      rw [hA, e2]
      go_frame
      go_wp2_with fail
      exact hK.out _ _ _ (by rw [hA]; simp only [putF]; rw [e2]; kernel_rfl) (Below.refl _ _) rfl
    · intro K us W hK0 hB hd
      have hK := hid hK0; clear hK0
      have HBW := hid hB
      have e3 : us 3 = .pointer (some ⟨g, 5, none⟩) := hd ⟨3, Ground.data⟩ (by simp) rfl
      clear hd
      have c0 : W.cell? ⟨g, 5, none⟩ = some (.slice a1 b.length c1) := (D1.out.still hB).c5
      simp only [putF]
      rw [hA, e3]
      go_frame
      go_wp2_with fail
      exact hK.out _ _ _ (by rw [hA]; simp only [putF]; rw [e3]; kernel_rfl) (Below.refl _ _) rfl
    · intro K us W hK0 hB hd
      have hK := hid hK0; clear hK0
      have HBW := hid hB
      clear hd
      simp only [putF]
      rw [hA]
      go_frame
      go_wp2_with fail
      exact hK.out _ _ _ (by rw [hA]; simp only [putF]; kernel_rfl) (Below.refl _ _) rfl
    · intro K us W hK0 hB hd
      have hK := hid hK0; clear hK0
      have HBW := hid hB
      have e5 : us 5 = .pointer (some ⟨g, 5, none⟩) := hd ⟨5, Ground.data⟩ (by simp) rfl
      clear hd
      simp only [putF]
      rw [hA, e5]
      go_frame
      go_wp2_with fail
      exact hK.out _ _ _ (by rw [hA]; simp only [putF]; rw [e5]; kernel_rfl) (Below.refl _ _) rfl
    · intro K us W hK0 hB hd
      have hK := hid hK0; clear hK0
      have HBW := hid hB
      have e6 : us 6 = .pointer (some ⟨g, 5, none⟩) := hd ⟨6, Ground.data⟩ (by simp) rfl
      clear hd
      simp only [putF]
      rw [hA, e6]
      go_frame
      go_wp2_with fail
      exact hK.out _ _ _ (by rw [hA]; simp only [putF]; rw [e6]; kernel_rfl) (Below.refl _ _) rfl
    · intro K us W hK0 hB hd
      have hK := hid hK0; clear hK0
      have HBW := hid hB
      have e7 : us 7 = .pointer (some ⟨g, 6, none⟩) := hd ⟨7, Ground.data⟩ (by simp) rfl
      clear hd
      have c0 : W.cell? ⟨g, 6, none⟩ = some (.int .i64 ((s + kp : Nat) : Int)) := (D1.out.still hB).c6
      simp only [putF]
      rw [hA, e7]
      go_frame
      go_wp2_with fail
      exact hK.out _ _ _ (by rw [hA]; simp only [putF]; rw [e7]; kernel_rfl) (Below.refl _ _) rfl
    · intro K us W hK0 hB hd
      have hK := hid hK0; clear hK0
      have HBW := hid hB
      have e4 : us 4 = .slice a1 b.length c1 := hd ⟨4, Ground.data⟩ (by simp) rfl
      have e8 : us 8 = .int .i64 ((s + kp : Nat) : Int) := hd ⟨8, Ground.data⟩ (by simp) rfl
      clear hd
      have hcap := hid (own_cap D1.out.o1)
      have hcc := hcap.out
      simp only [putF]
      rw [hA, e4, e8]
      go_frame
      go_wp2_with fail
      exact hK.out _ _ _ (by rw [hA]; simp only [putF]; rw [e4, e8]; kernel_rfl) (Below.refl _ _) rfl
    · intro K us W hK0 hB hd
      have hK := hid hK0; clear hK0
      have HBW := hid hB
      have e9 : us 9 = .slice a1 (s + kp) c1 := hd ⟨9, Ground.data⟩ (by simp) rfl
      clear hd
      simp only [putF]
      rw [hA, e9]
      go_frame
      go_wp2_with fail
      refine (xclone_any _ (b.take (s + kp)) _ (HRD.out.still HBW.out) (by rw [List.length_take]; omega)).mono ?_
      rintro r W9 ⟨⟨v9, rfl, hv9⟩, hb9⟩
      go_wp2_with fail
      exact hK.out _ _ _ (by rw [hA]; simp only [putF]; rw [e9]; kernel_rfl) hb9 (own_low hv9 HBW.out.size)
  case htail =>
    intro us W2 hB2 hp
    have e0 : us 0 = .pointer (some ⟨g, 5, none⟩) := hp 0 (by decide)
    have e10 : NewB W1.heap.size (b.take (s + kp)).length (u8s (b.take (s + kp))) W2 (us 10) := hp 10 (by decide)
    have HD2 := hid (D1.out.still hB2)
    have hz2 := hB2.size
    have F2 := hid (F1.out.step hB2)
    obtain ⟨a9, c9, e9⟩ := own_slice e10
    rw [e9] at e10
    have HN := hid e10
    clear e10 hp
    generalize hl9 : (b.take (s + kp)).length = n9 at *
    have HL9 := hid hl9
    clear hl9
    have c0 : W2.cell? ⟨g, 5, none⟩ = some (.slice a1 b.length c1) := HD2.out.c5
    have z0 : W2.frozen? ⟨g, 5, none⟩ = false := by have hh := (HD2.out).hg; simp [World.frozen?, hh]
    refine seqs_step rfl ?_
    intro K hK0
    have hK := hid hK0; clear hK0
    simp only [putF]
    rw [hA, e0, e9]
    go_frame
    go_wp2_with fail
    refine hK.out (.pointer (some ⟨g, 5, none⟩)) _ _ (by rw [hA]; simp only [putF]; rw [e0, e9]; kernel_rfl) ?_
    clear hK e0 e9 hA
    refine seqs_step rfl ?_
    intro K hK0
    have hK := hid hK0; clear hK0
    go_wp2_with fail
    refine hK.out (.pointer (some ⟨g, 5, none⟩)) _ _ (by kernel_rfl) ?_
    clear hK
    refine seqs_step rfl ?_
    intro K hK0
    have hK := hid hK0; clear hK0
    go_wp2_with fail
    refine hK.out undef _ _ (by kernel_rfl) ?_
    clear hK
    refine seqs_end rfl ?_
    go_wp2_with fail
    go_end0
    have hlt := D1.out.lt
    refine ⟨rfl, .slice a9 n9 c9, ?_, F2.out.trans (G := fun k => k = g) (Fr.set rfl) (fun _ _ h => h), fun k hk => by have h1 := (HN.out.lt k hk).1; have h2 := F1.out.size; omega⟩
    refine (HD2.out.set 5 (.slice a9 n9 c9)).swap1 ?_ ?_ ?_
    · rw [HL9.out]
      refine own_same (own_low HN.out HB1.out) (fun k hk => Below.heap_setCell W2 ⟨g, 5, none⟩ _ k (fun e => by have h1 : k = g := e; have := (HN.out.lt k hk).1; omega))
    · intro e
      have := (HN.out.lt g e).1
      omega
    · intro k hk e
      have h1 := (HN.out.lt k e).1
      have h2 := (D1.out.o0.lt k hk).2
      omega
end Go.Proofs.Yteanlcefdoigcaa
