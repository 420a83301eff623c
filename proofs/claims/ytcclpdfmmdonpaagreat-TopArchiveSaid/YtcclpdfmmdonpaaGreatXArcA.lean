/- What changes an archive: failed (52). Rewrite (54): the whole log into the other file. -/
import Derived.Test.YtcclpdfmmdonpaaGreatXOpe
import Derived.Test.YtcclpdfmmdonpaaGreatXArcW
import Derived.Test.YtcclpdfmmdonpaaGreatXByt
namespace Go.Proofs.YtcclpdfmmdonpaaGreat
open Go.RowKit Go.WideShapes Go.ChangeAt Go.Maps Go.Sort
def MA (B : Nat) : Nat -> Obj -> Prop := MT [68, 5, 78] B
theorem MA.kept (B : Nat) : Kept (MA B) := fun k C t ht => MT.not (by rcases ht with rfl | rfl | rfl <;> decide)
theorem MA.of_disk {B : Nat} {W W' : World} (h : Chg (MD B) W W') : Chg (MA B) W W' := h.mono (fun k o ⟨h1, C, t, fr, h2, h3⟩ => ⟨h1, C, t, fr, h2, by simp at h3 ⊢; rcases h3 with rfl | rfl <;> simp⟩)
theorem MA.of_arc {B : Nat} {W W' : World} (h : Chg (MT [78] B) W W') : Chg (MA B) W W' := h.mono (fun k o ⟨h1, C, t, fr, h2, h3⟩ => ⟨h1, C, t, fr, h2, by simp at h3 ⊢; subst h3; simp⟩)
theorem DkV.arc {W W' : World} {B g : Nat} {d : Dk} (h : DkV W B g d) (hc : Chg (MT [78] B) W W') : DkV W' B g d := h.chg hc (fun k C _ => ⟨MT.not (by decide), MT.not (by decide)⟩)
theorem ArcV.set {W : World} {B g gd : Nat} {a a' : Ac} {bv sv pv : Value} (h : ArcV W B g gd a bv sv pv) (h1 : a'.lg.base = a.lg.base) (h2 : a'.lg.steps = a.lg.steps) (h3 : a'.pts = a.pts) {X : Array Value} (hX : X = arcRow a' bv sv pv gd) :
    ArcV (W.setRow g X) B g gd a' bv sv pv /\ Chg (MT [78] B) W (W.setRow g X) := by
  have hc := chg_set h.hg h.hB X; have hK : Kept (MT [78] B) := fun k C t ht => MT.not (by rcases ht with rfl | rfl | rfl <;> decide)
  subst hX; refine ⟨⟨setRow_heap _ _ _ _ _ _ h.hg, h.hB, by rw [h1]; exact OwnP.chg h.base hc hK, by rw [h2]; exact h.steps.chg hc hK, by rw [h3]; exact h.pts.chg hc hK (fun k C _ => MT.not (by decide))⟩, hc⟩
set_option maxRecDepth 100000 in
theorem failed_any (B g gd : Nat) (a : Ac) (bv sv pv : Value) (e : Int) (b : Bool) (w : World) (h : ArcV w B g gd a bv sv pv) (hd : a.dead = false) (hb : (e != 0) = b) :
    Calls Tryz.prog 52 #[.pointer (some ⟨g, 0, none⟩), .int .i64 e] w fun r w' => r = .returned (.int .i64 e) /\ ArcV w' B g gd { a with dead := b } bv sv pv /\ Chg (MT [78] B) w w' := by
  have c11 : w.cell? ⟨g, 11, none⟩ = some (.bool false) := by rw [h.cell 11, <- hd]; rfl
  have H := hid h; have HH := hid h.hg; clear h hd; have d1 : decide (e = 0) = !b := by
    subst hb; by_cases h : e = 0 <;> simp [h]
  cases b
  all_goals
    try simp only [Bool.not_true, Bool.not_false] at d1
    go_enter Tryz.func52, Tryz.ntmps52; go_wp2_with (refine pt_store1 rfl 4 (.tmp 15) (.tmp 13) rfl g 11 _ rfl rfl rfl rfl HH.out (by kernel_rfl) (by show 11 + 1 <= 12; omega) ?_); go_ret; refine ⟨rfl, ?_⟩
    first
    | exact ArcV.set (a' := { a with dead := false }) H.out rfl rfl rfl rfl
    | exact ArcV.set (a' := { a with dead := true }) H.out rfl rfl rfl rfl
open Go.RowKit Go.WideShapes Go.ChangeAt Go.Maps Go.Sort
theorem Dk.op_get {d : Dk} {i : Int} {F : Fi -> Fi} (hi : i = 0 ∨ i = 1) (h : (d.op i F).1 = 0) : (d.op i F).2.get i = F (d.get i) := by
  unfold Dk.op at h ⊢
  split
  · rename_i h1
    rw [if_pos h1] at h; simp at h
  · rename_i h1
    rw [if_neg h1] at h
    split
    · rename_i h2
      rw [if_pos h2] at h; simp at h
    · rcases hi with rfl | rfl <;> rfl
theorem spL_le {l : Int} (h0 : 0 <= l) (h1 : l <= 9223372036854775807) : 0 <= spL l /\ spL l <= 9223372036854775807 := by
  unfold spL
  split <;> omega
theorem Dk.op_ok {d : Dk} {i : Int} {F : Fi -> Fi} (h : DkOk d) (hF : (F (d.get i)).s <= (F (d.get i)).b.length /\ (F (d.get i)).b.length <= 1000000) (hi : i = 0 ∨ i = 1) : DkOk (d.op i F).2 := by
  unfold Dk.op
  split
  · exact h
  · split
    · exact ⟨Int.le_refl _, (show (0 : Int) <= 9223372036854775807 from by decide), h.s0, h.s1, h.n0, h.n1⟩
    · have hs := spL_le h.l0 h.l1
      rcases hi with rfl | rfl
      · exact ⟨hs.1, hs.2, hF.1, h.s1, hF.2, h.n1⟩
      · exact ⟨hs.1, hs.2, h.s0, hF.1, h.n0, hF.2⟩
theorem addr_block (a : Addr) (n : Nat) : (a.add n).block = a.block := by
  unfold Addr.add
  split <;> rfl
theorem OwnB.byB {W : World} {B g : Nat} {v : Value} {bs : List Nat} (h : OwnB W B v bs) (hg : g < B) : ByB W g v bs := by
  have h0 := h.1; obtain ⟨_, ⟨rfl, hn⟩ | ⟨k, cap, cur, rfl, hBk, _⟩⟩ := h.1
  · exact .inl ⟨rfl, List.length_eq_zero_iff.1 hn⟩
  · exact .inr ⟨_, _, rfl, fun j u hu => ⟨h0.cells rfl j u hu, by rw [addr_block]; show k ≠ g; omega⟩⟩
theorem OwnB.stb (B : Nat) (bs : List Nat) : Stb (fun W v => OwnB W B v bs) := fun _ _ _ hB h => h.grow hB
def Ac.done (a : Ac) (e i : Int) : Ac := if e = 0 then { a with file := i } else { a with dead := true }
set_option maxRecDepth 100000 in
set_option maxHeartbeats 3200000 in
theorem rewrite_any (B g gd N : Nat) (a : Ac) (d : Dk) (bv sv pv bv' sv' : Value) (l : Lg) (sl tn : Bool) (Bs : Nat) (i : Int) (w : World) (h : ArcV w B g gd a bv sv pv) (hk : DkV w B gd d) (hH : Holds N d a) (hN : N <= 40)
    (hlp : OwnP w Bs bv' l.base) (hls : OwnS w Bs sv' l.steps) (hok : LgOk l) (hn : l.steps.length <= 1000) (hB : B <= w.heap.size) (hi : i = oth a.file) (hlen : (flat (logR l)).length <= 1000000) (x : Int × Dk) (hx : x = d.rw i (flat (logR l))) :
    Calls Tryz.prog 54 #[.pointer (some ⟨g, 0, none⟩), .agg #[.int .i64 l.age, .int .i64 l.cap, .int .i64 l.first, bv', sv', .bool sl, .bool tn]] w fun r w' => r = .returned (.int .i64 x.1) /\ DkV w' B gd x.2 /\ ArcV w' B g gd (a.done x.1 i) bv sv pv /\ Chg (MA B) w w' := by
  have hib : i = 0 ∨ i = 1 := by rw [hi]; exact oth_bit _
  have hdk := hH.dk hN; have hdead := hH.dead; obtain ⟨bs, hbs⟩ : ∃ bs, bs = flat (logR l) := ⟨_, rfl⟩; have HBY := hid (fun W (hc : Chg (MA B) w W) => bytes_any l bv' sv' sl tn Bs W (OwnP.ptsV (OwnP.chg hlp hc (MA.kept B))) (hls.chg hc (MA.kept B)) hok hn); rw [<- hbs] at hx hlen HBY; clear hbs; obtain ⟨⟨r1, D1⟩, hx1⟩ : ∃ y, y = d.op i Fi.clr := ⟨_, rfl⟩; obtain ⟨⟨r2, D2⟩, hx2⟩ : ∃ y, y = D1.op i (Fi.app bs) := ⟨_, rfl⟩; obtain ⟨⟨r3, D3⟩, hx3⟩ : ∃ y, y = D2.op i Fi.syn := ⟨_, rfl⟩; have hk1 : DkOk D1 := by
    have := Dk.op_ok (F := Fi.clr) hdk ⟨Nat.le_refl _, Nat.zero_le _⟩ hib; rw [<- hx1] at this; exact this
  have hk2 : r1 = 0 -> DkOk D2 := fun he => by
    have hg := Dk.op_get (d := d) (F := Fi.clr) hib (by rw [<- hx1]; exact he); rw [<- hx1] at hg; have hg : D1.get i = ⟨[], 0⟩ := hg; have := Dk.op_ok (F := Fi.app bs) hk1 (by rw [hg]; exact ⟨Nat.zero_le _, by show ([] ++ bs).length <= 1000000; simpa using hlen⟩) hib; rw [<- hx2] at this; exact this
  have HC1 := hid (show ∀ W, DkV W B gd d -> Calls Tryz.prog 55 #[.pointer (some ⟨gd, 0, none⟩), .int .i64 i] W fun r w' => r = .returned (.int .i64 r1) /\ DkV w' B gd D1 /\ Chg (MD B) W w' from fun W h => by have := xclear_dk gd B d i W h hdk hib; rw [<- hx1] at this; exact this); have HC2 := hid (show ∀ W v, DkV W B gd D1 -> ByB W gd v bs -> B <= W.heap.size -> Calls Tryz.prog 79 #[.pointer (some ⟨gd, 0, none⟩), .int .i64 i, v] W fun r w' => r = .returned (.int .i64 r2) /\ DkV w' B gd D2 /\ Chg (MD B) W w' from fun W v h hb hB => by have := xappend_dk gd B D1 i v bs W h hk1 hib hb hlen hB; rw [<- hx2] at this; exact this); have HC3 := hid (show r1 = 0 -> ∀ W, DkV W B gd D2 -> Calls Tryz.prog 81 #[.pointer (some ⟨gd, 0, none⟩), .int .i64 i] W fun r w' => r = .returned (.int .i64 r3) /\ DkV w' B gd D3 /\ Chg (MD B) W w' from fun he W h => by have := xsync_dk gd B D2 i W h (hk2 he) hib; rw [<- hx3] at this; exact this); have hrw : x = if r1 ≠ 0 then (r1, D1) else if r2 ≠ 0 then (r2, D2) else (r3, D3) := by
    rw [hx]; unfold Dk.rw; rw [<- hx1]; simp only; rw [<- hx2]; simp only; rw [<- hx3]
  have HR1 := hid (show r1 ≠ 0 -> x = (r1, D1) from fun h => by rw [hrw, if_pos h]); have HR2 := hid (show r1 = 0 -> r2 ≠ 0 -> x = (r2, D2) from fun h h2 => by rw [hrw, if_neg (by simp [h]), if_pos h2]); have HR3 := hid (show r1 = 0 -> r2 = 0 -> x = (r3, D3) from fun h h2 => by rw [hrw, if_neg (by simp [h]), if_neg (by simp [h2])]); clear hrw hx1 hx2 hx3 hk1 hk2 hx; have HD9 := hid hk.lt; have HA := hid h; have HK := hid hk; have HD := hid hdead; have HBB := hid hB; obtain ⟨b, hfi, hb1, hb0⟩ : ∃ b, b = (a.file == 0) /\ (b = true -> i = 1) /\ (b = false -> i = 0) := ⟨_, rfl, fun e => by rw [hi]; unfold oth; simp at e; simp [e], fun e => by rw [hi]; unfold oth; simp at e; simp [e]⟩; clear h hk hH hok hn hlp hls hlen hB hdk hdead hi hib; go_enter Tryz.func54, Tryz.ntmps54; go_upto_region 2 with fail; refine gen_world (fun W1 hW1 => ?_); have KB1 := hid (show W1.heap[w.heap.size]? = some (.cells #[.int .i64 l.age, .int .i64 l.cap, .int .i64 l.first, bv', sv', .bool sl, .bool tn] 71) by rw [hW1]; exact (by repeat' (first | (refine heap_alloc_at _ _ _ ?_; (first | rfl | (simp; done) | (simp; omega))) | (refine heap_alloc_past _ _ _ _ ?_)))); have HW1 := hid (show Below w.heap.size w W1 by rw [hW1]; (focus ((repeat' (first | (with_reducible first | exact Below.refl _ _ | assumption | refine Below.alloc ?_ ?_ _ | refine Below.drew ?_ | refine below_drewN ?_ _ | refine Below.setCell ?_ ?_ _ | refine below_setRow ?_ ?_ _) | go_size)); done))); have HS1 := hid (show W1.heap.size = w.heap.size + 1 by rw [hW1]; exact (by first | (simp; done) | (simp; omega))); clear hW1; have HA1 := hid (HA.out.still HW1.out); have HK1 := hid (HK.out.still HW1.out); have HH1 := hid (Chg.of_below HW1.out : Chg (MA B) w W1); have c10 : W1.cell? ⟨g, 10, none⟩ = some (.int .i64 a.file) := HA1.out.cell 10; have c8 : W1.cell? ⟨g, 8, none⟩ = some (.pointer (some ⟨gd, 0, none⟩)) := HA1.out.cell 8; clear HA HK HW1
  cases b
  · have hi : i = 0 := hb0 rfl; subst hi; have d1 : (a.file == 0) = false := hfi.symm; clear hfi hb0 hb1; go_wp2_with fail; refine (HC1.out W1 HK1.out).mono ?_; rintro r w2 ⟨rfl, hk2, hc2⟩; have HK2 := hid hk2; have HA2 := hid (HA1.out.disk hc2); have HH2 := hid (HH1.out.trans (MA.of_disk hc2)); have KB2 := hid (hc2.block _ _ KB1.out (MT.not (by decide))); have HS2 := hid (Nat.le_trans (by rw [HS1.out]; omega) hc2.size : w.heap.size < w2.heap.size); clear hk2 hc2 c10 c8 d1 HA1 HK1 HH1 KB1 HC1 HS1; by_cases he2 : r1 ≠ 0
    · have d2 : (r1 != 0) = true := by simpa using he2
      have HE := hid he2; clear he2; go_wp2_with fail; refine (failed_any B g gd a bv sv pv r1 true w2 HA2.out HD.out d2).mono ?_; rintro r w9 ⟨rfl, ha9, hc9⟩; have HA9 := hid ha9; have HC9 := hid hc9; clear ha9 hc9; go_wp2_with fail; go_ret; have hx := HR1.out HE.out; subst hx; refine ⟨rfl, HK2.out.arc HC9.out, ?_, HH2.out.trans (MA.of_arc HC9.out)⟩; unfold Ac.done; rw [if_neg HE.out]; exact HA9.out
    have he1 : r1 = 0 := by simpa using he2
    have E1 := hid he1; have d2 : (r1 != 0) = false := by rw [he1]; rfl
    clear he2 he1 HR1; go_upto_region 7 with fail; have HB2 := hid (Below.refl w2.heap.size w2); refine gen_act (fun A0 hA => ?_); refine wp_region_tail (by kernel_rfl) (by kernel_rfl) [some 25, some 26, some 27, some 28, some 29, some 30, some 31, some 32, some 7] rfl (by decide) 7 (by decide) (by kernel_rfl) (by kernel_rfl)
      [IsV (.pointer (some ⟨g, 0, none⟩)), IsV (.pointer (some ⟨g, 0, none⟩)), IsV (.pointer (some ⟨g, 8, none⟩)), IsV (.pointer (some ⟨gd, 0, none⟩)), IsV (.int .i64 0), IsV (.agg #[.int .i64 l.age, .int .i64 l.cap, .int .i64 l.first, bv', sv', .bool sl, .bool tn]), fun W v => OwnB W w2.heap.size v bs]
      ⟨IsV.stb _, IsV.stb _, IsV.stb _, IsV.stb _, IsV.stb _, IsV.stb _, OwnB.stb _ _, trivial⟩ ?hsT0 ?htT0
    case hsT0 =>
      refine ⟨?_, ?_, ?_, ?_, ?_, ?_, ?_, trivial⟩
      · intro K us W hK0 hB hd; have hK := hid hK0; clear hK0; have HBW := hid hB; clear hd; simp only [putF]; rw [hA]; go_frame; go_wp2_with fail; exact hK.out _ _ _ (by rw [hA]; simp only [putF]; kernel_rfl) (Below.refl _ _) rfl
      · intro K us W hK0 hB hd; have hK := hid hK0; clear hK0; have HBW := hid hB; have e0 : us 0 = _ := hd ⟨0, Ground.data⟩ (by simp) rfl; clear hd; simp only [putF]; rw [hA, e0]; go_frame; go_wp2_with fail; exact hK.out _ _ _ (by rw [hA]; simp only [putF]; rw [e0]; kernel_rfl) (Below.refl _ _) rfl
      · intro K us W hK0 hB hd; have hK := hid hK0; clear hK0; have HBW := hid hB; have e1 : us 1 = _ := hd ⟨1, Ground.data⟩ (by simp) rfl; clear hd; simp only [putF]; rw [hA, e1]; go_frame; go_wp2_with fail; exact hK.out _ _ _ (by rw [hA]; simp only [putF]; rw [e1]; kernel_rfl) (Below.refl _ _) rfl
      · intro K us W hK0 hB hd; have hK := hid hK0; clear hK0; have HBW := hid hB; have e2 : us 2 = _ := hd ⟨2, Ground.data⟩ (by simp) rfl; clear hd; have c8 : W.cell? ⟨g, 8, none⟩ = some (.pointer (some ⟨gd, 0, none⟩)) := (HA2.out.still hB).cell 8; simp only [putF]; rw [hA, e2]; go_frame; go_wp2_with fail; exact hK.out _ _ _ (by rw [hA]; simp only [putF]; rw [e2]; kernel_rfl) (Below.refl _ _) rfl
      · intro K us W hK0 hB hd; have hK := hid hK0; clear hK0; have HBW := hid hB; clear hd; simp only [putF]; rw [hA]; go_frame; go_wp2_with fail; exact hK.out _ _ _ (by rw [hA]; simp only [putF]; kernel_rfl) (Below.refl _ _) rfl
      · intro K us W hK0 hB hd; have hK := hid hK0; clear hK0; have HBW := hid hB; clear hd; have kb := heap_still hB KB2.out; have y0 : W.cell? ⟨w.heap.size, 0, none⟩ = some (.int .i64 l.age) := (cell_row (j := 0) kb).trans rfl; have y1 : W.cell? ⟨w.heap.size, 1, none⟩ = some (.int .i64 l.cap) := (cell_row (j := 1) kb).trans rfl; have y2 : W.cell? ⟨w.heap.size, 2, none⟩ = some (.int .i64 l.first) := (cell_row (j := 2) kb).trans rfl; have y3 : W.cell? ⟨w.heap.size, 3, none⟩ = some (bv') := (cell_row (j := 3) kb).trans rfl; have y4 : W.cell? ⟨w.heap.size, 4, none⟩ = some (sv') := (cell_row (j := 4) kb).trans rfl; have y5 : W.cell? ⟨w.heap.size, 5, none⟩ = some (.bool sl) := (cell_row (j := 5) kb).trans rfl; have y6 : W.cell? ⟨w.heap.size, 6, none⟩ = some (.bool tn) := (cell_row (j := 6) kb).trans rfl; clear kb; simp only [putF]; rw [hA]; go_frame; go_wp2_with fail; exact hK.out _ _ _ (by rw [hA]; simp only [putF]; kernel_rfl) (Below.refl _ _) rfl
      · intro K us W hK0 hB hd; have hK := hid hK0; clear hK0; have HBW := hid hB; have e5 : us 5 = _ := hd ⟨5, Ground.data⟩ (by simp) rfl; clear hd; have hch := HH2.out.trans (Chg.of_below hB); simp only [putF]; rw [hA, e5]; go_frame; go_wp2_with fail; refine (HBY.out W hch).mono ?_; rintro r w5 ⟨⟨ov, rfl, ho⟩, hb5⟩; go_wp2_with fail; exact hK.out _ _ _ (by rw [hA]; simp only [putF]; rw [e5]; kernel_rfl) hb5 (ho.base hB.size)
    case htT0 =>
      intro us W2 hBB hp; have e0 : us 0 = _ := hp 0 (by decide); have e1 : us 1 = _ := hp 1 (by decide); have e2 : us 2 = _ := hp 2 (by decide); have e3 : us 3 = _ := hp 3 (by decide); have e4 : us 4 = _ := hp 4 (by decide); have e5 : us 5 = _ := hp 5 (by decide); have p6 : (fun W v => OwnB W w2.heap.size v bs) W2 (us 6) := hp 6 (by decide); clear hp; have HO := hid p6; clear p6; have HK3 := hid (HK2.out.still hBB); have HA3 := hid (HA2.out.still hBB); have HH3 := hid (HH2.out.trans (Chg.of_below hBB)); have HB3 := hid (Nat.le_trans (Nat.le_of_lt HS2.out) hBB.size); clear hBB HK2 HA2 HH2 KB2 HB2; refine seqs_step rfl ?_; intro K hK0; have hK := hid hK0; clear hK0; simp only [putF]; rw [hA, e0, e1, e2, e3, e4, e5]; go_frame; go_wp2_with fail; refine (HC2.out W2 (us 6) HK3.out (HO.out.byB (Nat.lt_of_lt_of_le HD9.out (Nat.le_of_lt HS2.out))) (Nat.le_trans HBB.out HB3.out)).mono ?_; rintro r w4 ⟨rfl, hk4, hc4⟩; have HK4 := hid hk4; have HA4 := hid (HA3.out.disk hc4); have HH4 := hid (HH3.out.trans (MA.of_disk hc4)); clear hk4 hc4 HK3 HA3 HH3 HO HC2; go_wp2_with fail; refine hK.out (.int .i64 r2) _ _ (by rw [hA]; simp only [putF]; rw [e0, e1, e2, e3, e4, e5]; kernel_rfl) ?_; clear hK hA e0 e1 e2 e3 e4 e5; refine seqs_step rfl ?_; intro K hK0; have hK := hid hK0; clear hK0; go_wp2_with fail; refine hK.out (.int .i64 r2) _ _ (by kernel_rfl) ?_; clear hK; refine seqs_end rfl ?_; by_cases he4 : r2 ≠ 0
      · have d2 : (r2 != 0) = true := by simpa using he4
        have HE := hid he4; clear he4; go_wp2_with fail; refine (failed_any B g gd a bv sv pv r2 true w4 HA4.out HD.out d2).mono ?_; rintro r w9 ⟨rfl, ha9, hc9⟩; have HA9 := hid ha9; have HC9 := hid hc9; clear ha9 hc9; go_wp2_with fail; go_ret; have hx := HR2.out E1.out HE.out; subst hx; refine ⟨rfl, HK4.out.arc HC9.out, ?_, HH4.out.trans (MA.of_arc HC9.out)⟩; unfold Ac.done; rw [if_neg HE.out]; exact HA9.out
      have he2 : r2 = 0 := by simpa using he4
      have E2 := hid he2; have d3 : (r2 != 0) = false := by rw [he2]; rfl
      clear he4 he2 HR2; have c8 : w4.cell? ⟨g, 8, none⟩ = some (.pointer (some ⟨gd, 0, none⟩)) := HA4.out.cell 8; go_wp2_with fail; refine (HC3.out E1.out w4 HK4.out).mono ?_; rintro r w6 ⟨rfl, hk6, hc6⟩; have HK6 := hid hk6; have HA6 := hid (HA4.out.disk hc6); have HH6 := hid (HH4.out.trans (MA.of_disk hc6)); clear hk6 hc6 c8 HK4 HA4 HH4 HC3; have hx := HR3.out E1.out E2.out; subst hx; clear HR3; by_cases he6 : r3 ≠ 0
      · have d2 : (r3 != 0) = true := by simpa using he6
        have HE := hid he6; clear he6; go_wp2_with fail; refine (failed_any B g gd a bv sv pv r3 true w6 HA6.out HD.out d2).mono ?_; rintro r w9 ⟨rfl, ha9, hc9⟩; have HA9 := hid ha9; have HC9 := hid hc9; clear ha9 hc9; go_wp2_with fail; go_ret; refine ⟨rfl, HK6.out.arc HC9.out, ?_, HH6.out.trans (MA.of_arc HC9.out)⟩; unfold Ac.done; rw [if_neg HE.out]; exact HA9.out
      have he3 : r3 = 0 := by simpa using he6
      have d4 : (r3 != 0) = false := by rw [he3]; rfl
      have E3 := hid he3; clear he6 he3; have KG := hid HA6.out.hg; go_wp2_with (refine pt_store1 rfl 3 (.tmp 52) (.tmp 50) rfl g 10 _ rfl rfl rfl rfl KG.out size3 (by show 10 + 1 <= 12; omega) ?_); go_ret; obtain ⟨h1, h2⟩ := ArcV.set (a' := { a with file := 0 }) HA6.out rfl rfl rfl (X := ptL (arcRow a bv sv pv gd) 10 [.int .i64 0]) rfl; refine ⟨by show Ending.returned (.int .i64 0) = .returned (.int .i64 r3); rw [E3.out], HK6.out.arc h2, ?_, HH6.out.trans (MA.of_arc h2)⟩; unfold Ac.done; rw [if_pos E3.out]; exact h1
  · have hi : i = 1 := hb1 rfl; subst hi; have d1 : (a.file == 0) = true := hfi.symm; clear hfi hb0 hb1; go_wp2_with fail; refine (HC1.out W1 HK1.out).mono ?_; rintro r w2 ⟨rfl, hk2, hc2⟩; have HK2 := hid hk2; have HA2 := hid (HA1.out.disk hc2); have HH2 := hid (HH1.out.trans (MA.of_disk hc2)); have KB2 := hid (hc2.block _ _ KB1.out (MT.not (by decide))); have HS2 := hid (Nat.le_trans (by rw [HS1.out]; omega) hc2.size : w.heap.size < w2.heap.size); clear hk2 hc2 c10 c8 d1 HA1 HK1 HH1 KB1 HC1 HS1; by_cases he2 : r1 ≠ 0
    · have d2 : (r1 != 0) = true := by simpa using he2
      have HE := hid he2; clear he2; go_wp2_with fail; refine (failed_any B g gd a bv sv pv r1 true w2 HA2.out HD.out d2).mono ?_; rintro r w9 ⟨rfl, ha9, hc9⟩; have HA9 := hid ha9; have HC9 := hid hc9; clear ha9 hc9; go_wp2_with fail; go_ret; have hx := HR1.out HE.out; subst hx; refine ⟨rfl, HK2.out.arc HC9.out, ?_, HH2.out.trans (MA.of_arc HC9.out)⟩; unfold Ac.done; rw [if_neg HE.out]; exact HA9.out
    have he1 : r1 = 0 := by simpa using he2
    have E1 := hid he1; have d2 : (r1 != 0) = false := by rw [he1]; rfl
    clear he2 he1 HR1; go_upto_region 7 with fail; have HB2 := hid (Below.refl w2.heap.size w2); refine gen_act (fun A0 hA => ?_); refine wp_region_tail (by kernel_rfl) (by kernel_rfl) [some 25, some 26, some 27, some 28, some 29, some 30, some 31, some 32, some 7] rfl (by decide) 7 (by decide) (by kernel_rfl) (by kernel_rfl)
      [IsV (.pointer (some ⟨g, 0, none⟩)), IsV (.pointer (some ⟨g, 0, none⟩)), IsV (.pointer (some ⟨g, 8, none⟩)), IsV (.pointer (some ⟨gd, 0, none⟩)), IsV (.int .i64 1), IsV (.agg #[.int .i64 l.age, .int .i64 l.cap, .int .i64 l.first, bv', sv', .bool sl, .bool tn]), fun W v => OwnB W w2.heap.size v bs]
      ⟨IsV.stb _, IsV.stb _, IsV.stb _, IsV.stb _, IsV.stb _, IsV.stb _, OwnB.stb _ _, trivial⟩ ?hsT1 ?htT1
    case hsT1 =>
      refine ⟨?_, ?_, ?_, ?_, ?_, ?_, ?_, trivial⟩
      · intro K us W hK0 hB hd; have hK := hid hK0; clear hK0; have HBW := hid hB; clear hd; simp only [putF]; rw [hA]; go_frame; go_wp2_with fail; exact hK.out _ _ _ (by rw [hA]; simp only [putF]; kernel_rfl) (Below.refl _ _) rfl
      · intro K us W hK0 hB hd; have hK := hid hK0; clear hK0; have HBW := hid hB; have e0 : us 0 = _ := hd ⟨0, Ground.data⟩ (by simp) rfl; clear hd; simp only [putF]; rw [hA, e0]; go_frame; go_wp2_with fail; exact hK.out _ _ _ (by rw [hA]; simp only [putF]; rw [e0]; kernel_rfl) (Below.refl _ _) rfl
      · intro K us W hK0 hB hd; have hK := hid hK0; clear hK0; have HBW := hid hB; have e1 : us 1 = _ := hd ⟨1, Ground.data⟩ (by simp) rfl; clear hd; simp only [putF]; rw [hA, e1]; go_frame; go_wp2_with fail; exact hK.out _ _ _ (by rw [hA]; simp only [putF]; rw [e1]; kernel_rfl) (Below.refl _ _) rfl
      · intro K us W hK0 hB hd; have hK := hid hK0; clear hK0; have HBW := hid hB; have e2 : us 2 = _ := hd ⟨2, Ground.data⟩ (by simp) rfl; clear hd; have c8 : W.cell? ⟨g, 8, none⟩ = some (.pointer (some ⟨gd, 0, none⟩)) := (HA2.out.still hB).cell 8; simp only [putF]; rw [hA, e2]; go_frame; go_wp2_with fail; exact hK.out _ _ _ (by rw [hA]; simp only [putF]; rw [e2]; kernel_rfl) (Below.refl _ _) rfl
      · intro K us W hK0 hB hd; have hK := hid hK0; clear hK0; have HBW := hid hB; clear hd; simp only [putF]; rw [hA]; go_frame; go_wp2_with fail; exact hK.out _ _ _ (by rw [hA]; simp only [putF]; kernel_rfl) (Below.refl _ _) rfl
      · intro K us W hK0 hB hd; have hK := hid hK0; clear hK0; have HBW := hid hB; clear hd; have kb := heap_still hB KB2.out; have y0 : W.cell? ⟨w.heap.size, 0, none⟩ = some (.int .i64 l.age) := (cell_row (j := 0) kb).trans rfl; have y1 : W.cell? ⟨w.heap.size, 1, none⟩ = some (.int .i64 l.cap) := (cell_row (j := 1) kb).trans rfl; have y2 : W.cell? ⟨w.heap.size, 2, none⟩ = some (.int .i64 l.first) := (cell_row (j := 2) kb).trans rfl; have y3 : W.cell? ⟨w.heap.size, 3, none⟩ = some (bv') := (cell_row (j := 3) kb).trans rfl; have y4 : W.cell? ⟨w.heap.size, 4, none⟩ = some (sv') := (cell_row (j := 4) kb).trans rfl; have y5 : W.cell? ⟨w.heap.size, 5, none⟩ = some (.bool sl) := (cell_row (j := 5) kb).trans rfl; have y6 : W.cell? ⟨w.heap.size, 6, none⟩ = some (.bool tn) := (cell_row (j := 6) kb).trans rfl; clear kb; simp only [putF]; rw [hA]; go_frame; go_wp2_with fail; exact hK.out _ _ _ (by rw [hA]; simp only [putF]; kernel_rfl) (Below.refl _ _) rfl
      · intro K us W hK0 hB hd; have hK := hid hK0; clear hK0; have HBW := hid hB; have e5 : us 5 = _ := hd ⟨5, Ground.data⟩ (by simp) rfl; clear hd; have hch := HH2.out.trans (Chg.of_below hB); simp only [putF]; rw [hA, e5]; go_frame; go_wp2_with fail; refine (HBY.out W hch).mono ?_; rintro r w5 ⟨⟨ov, rfl, ho⟩, hb5⟩; go_wp2_with fail; exact hK.out _ _ _ (by rw [hA]; simp only [putF]; rw [e5]; kernel_rfl) hb5 (ho.base hB.size)
    case htT1 =>
      intro us W2 hBB hp; have e0 : us 0 = _ := hp 0 (by decide); have e1 : us 1 = _ := hp 1 (by decide); have e2 : us 2 = _ := hp 2 (by decide); have e3 : us 3 = _ := hp 3 (by decide); have e4 : us 4 = _ := hp 4 (by decide); have e5 : us 5 = _ := hp 5 (by decide); have p6 : (fun W v => OwnB W w2.heap.size v bs) W2 (us 6) := hp 6 (by decide); clear hp; have HO := hid p6; clear p6; have HK3 := hid (HK2.out.still hBB); have HA3 := hid (HA2.out.still hBB); have HH3 := hid (HH2.out.trans (Chg.of_below hBB)); have HB3 := hid (Nat.le_trans (Nat.le_of_lt HS2.out) hBB.size); clear hBB HK2 HA2 HH2 KB2 HB2; refine seqs_step rfl ?_; intro K hK0; have hK := hid hK0; clear hK0; simp only [putF]; rw [hA, e0, e1, e2, e3, e4, e5]; go_frame; go_wp2_with fail; refine (HC2.out W2 (us 6) HK3.out (HO.out.byB (Nat.lt_of_lt_of_le HD9.out (Nat.le_of_lt HS2.out))) (Nat.le_trans HBB.out HB3.out)).mono ?_; rintro r w4 ⟨rfl, hk4, hc4⟩; have HK4 := hid hk4; have HA4 := hid (HA3.out.disk hc4); have HH4 := hid (HH3.out.trans (MA.of_disk hc4)); clear hk4 hc4 HK3 HA3 HH3 HO HC2; go_wp2_with fail; refine hK.out (.int .i64 r2) _ _ (by rw [hA]; simp only [putF]; rw [e0, e1, e2, e3, e4, e5]; kernel_rfl) ?_; clear hK hA e0 e1 e2 e3 e4 e5; refine seqs_step rfl ?_; intro K hK0; have hK := hid hK0; clear hK0; go_wp2_with fail; refine hK.out (.int .i64 r2) _ _ (by kernel_rfl) ?_; clear hK; refine seqs_end rfl ?_; by_cases he4 : r2 ≠ 0
      · have d2 : (r2 != 0) = true := by simpa using he4
        have HE := hid he4; clear he4; go_wp2_with fail; refine (failed_any B g gd a bv sv pv r2 true w4 HA4.out HD.out d2).mono ?_; rintro r w9 ⟨rfl, ha9, hc9⟩; have HA9 := hid ha9; have HC9 := hid hc9; clear ha9 hc9; go_wp2_with fail; go_ret; have hx := HR2.out E1.out HE.out; subst hx; refine ⟨rfl, HK4.out.arc HC9.out, ?_, HH4.out.trans (MA.of_arc HC9.out)⟩; unfold Ac.done; rw [if_neg HE.out]; exact HA9.out
      have he2 : r2 = 0 := by simpa using he4
      have E2 := hid he2; have d3 : (r2 != 0) = false := by rw [he2]; rfl
      clear he4 he2 HR2; have c8 : w4.cell? ⟨g, 8, none⟩ = some (.pointer (some ⟨gd, 0, none⟩)) := HA4.out.cell 8; go_wp2_with fail; refine (HC3.out E1.out w4 HK4.out).mono ?_; rintro r w6 ⟨rfl, hk6, hc6⟩; have HK6 := hid hk6; have HA6 := hid (HA4.out.disk hc6); have HH6 := hid (HH4.out.trans (MA.of_disk hc6)); clear hk6 hc6 c8 HK4 HA4 HH4 HC3; have hx := HR3.out E1.out E2.out; subst hx; clear HR3; by_cases he6 : r3 ≠ 0
      · have d2 : (r3 != 0) = true := by simpa using he6
        have HE := hid he6; clear he6; go_wp2_with fail; refine (failed_any B g gd a bv sv pv r3 true w6 HA6.out HD.out d2).mono ?_; rintro r w9 ⟨rfl, ha9, hc9⟩; have HA9 := hid ha9; have HC9 := hid hc9; clear ha9 hc9; go_wp2_with fail; go_ret; refine ⟨rfl, HK6.out.arc HC9.out, ?_, HH6.out.trans (MA.of_arc HC9.out)⟩; unfold Ac.done; rw [if_neg HE.out]; exact HA9.out
      have he3 : r3 = 0 := by simpa using he6
      have d4 : (r3 != 0) = false := by rw [he3]; rfl
      have E3 := hid he3; clear he6 he3; have KG := hid HA6.out.hg; go_wp2_with (refine pt_store1 rfl 3 (.tmp 52) (.tmp 50) rfl g 10 _ rfl rfl rfl rfl KG.out size3 (by show 10 + 1 <= 12; omega) ?_); go_ret; obtain ⟨h1, h2⟩ := ArcV.set (a' := { a with file := 1 }) HA6.out rfl rfl rfl (X := ptL (arcRow a bv sv pv gd) 10 [.int .i64 1]) rfl; refine ⟨by show Ending.returned (.int .i64 0) = .returned (.int .i64 r3); rw [E3.out], HK6.out.arc h2, ?_, HH6.out.trans (MA.of_arc h2)⟩; unfold Ac.done; rw [if_pos E3.out]; exact h1
end Go.Proofs.YtcclpdfmmdonpaaGreat
