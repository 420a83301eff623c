/- TileDecodes: for every row of at most 2048 bytes the program's Decode returns the tile and the error that the document's does; for more the law answers by itself. Every input, no condition. -/
import Derived.Test.YteanlcefdoigcaaDecN
import Derived.Test.YteanlcefdoigcaaLawKit
namespace Go.Proofs.Yteanlcefdoigcaa
open Go.ChangeShapes Go.WideShapes Go.ChangeAt Go.RowKit Go.Maps Go.Sort

/-- a tile and an error returned -/
def Dec (t : Tl) (er : Int) (r : Ending) (w' : World) : Prop := ∃ v, r = .returned (.tuple #[.agg #[.int .i64 t.key.L, .int .i64 t.key.x, .int .i64 t.key.y, .int .i64 t.key.z, v], .int .i64 er]) ∧ PtsV w' v t.pts
def noTl : Tl := ⟨⟨0, 0, 0, 0⟩, []⟩
theorem dec_refused (w : World) : Dec noTl 4 refusedT w := ⟨.slice none 0 0, rfl, none, 0, rfl, Or.inl rfl⟩
theorem GotT.dec {t : Tl} {r : Ending} {w : World} (h : GotT t r w) : Dec t 0 r w := h
/-- both decoders return this tile and this error, in any grown world -/
def Both (w : World) (v : Value) (t : Tl) (er : Int) : Prop :=
  (∀ W, Below w.heap.size w W → Calls Try.prog 44 #[v] W fun r w' => Dec t er r w' ∧ Below W.heap.size W w') ∧ (∀ W, Below w.heap.size w W → Calls Try.prog 45 #[v] W fun r w' => Dec t er r w' ∧ Below W.heap.size W w')
theorem bytes_still {w W : World} {b off n : Nat} {g : Nat → Nat} (h : bytesAt w b off n g) (hb : b < w.heap.size) (hB : Below w.heap.size w W) : bytesAt W b off n g := by
  intro i hi
  rw [World.cell?_of_block (w := w) (w' := W) (a := ⟨b, off + i, none⟩) (hB.block b hb)]
  exact h i hi
theorem dec_none (a : Option Addr) (c : Nat) (w : World) : Both w (.slice a 0 c) noTl 4 :=
  ⟨fun W _ => (xDecode_short a 0 c W (by omega)).mono (fun r w' ⟨h1, h2⟩ => ⟨h1 ▸ dec_refused w', h2⟩), fun W _ => (rDecode_none a c W).mono (fun r w' ⟨h1, h2⟩ => ⟨h1 ▸ dec_refused w', h2⟩)⟩
theorem goodL_len {t : Tl} (h : TlOk t) : t.pts.length ≤ 1024 := ((goodL_iff t.pts).1 h.good).1
theorem dec_both (b off cap : Nat) (l : List Nat) (w : World) (hbw : b < w.heap.size) (hl : ∀ x ∈ l, x < 256) (hnc : l.length ≤ cap) (hc : cap ≤ 9223372036854775807) (hb : bytesAt w b off l.length (fun i => l.getD i 0)) :
    ∃ t er, t.pts.length ≤ 1024 ∧ Both w (.slice (some ⟨b, off, none⟩) l.length cap) t er := by
  have hR := fun W (hW : Below w.heap.size w W) => rDecode_any b off cap l W (Nat.lt_of_lt_of_le hbw hW.size) hl hnc hc (bytes_still hb hbw hW)
  rcases Nat.lt_or_ge l.length 4 with h4 | h4
  · refine ⟨noTl, 4, by simp [noTl], fun W _ => (xDecode_short (some ⟨b, off, none⟩) l.length cap W h4).mono (fun r w' ⟨h1, h2⟩ => ⟨h1 ▸ dec_refused w', h2⟩), fun W hW => (hR W hW).mono ?_⟩
    rintro r w' ⟨⟨h, _⟩ | ⟨_, rfl⟩, h2⟩
    · exact absurd h (okR_short h4)
    · exact ⟨dec_refused w', h2⟩
  · obtain ⟨n, hn⟩ : ∃ n, l.length = n + 4 := ⟨l.length - 4, by omega⟩
    have hX := fun W (hW : Below w.heap.size w W) => xDecode_long b off n cap l W (Nat.lt_of_lt_of_le hbw hW.size) hl hn (by omega) hc (bytes_still hb hbw hW)
    rw [← hn] at hX
    rcases ok_both hl hn with ⟨h1, h2, h3⟩ | ⟨h1, h2⟩
    · refine ⟨(tileR (stL l)).1, 0, goodL_len h2.2.1, fun W hW => (hX W hW).mono ?_, fun W hW => (hR W hW).mono ?_⟩
      · rintro r w' ⟨⟨_, h⟩ | ⟨h, _⟩, hb⟩
        · rw [h3] at h; exact ⟨h.dec, hb⟩
        · exact absurd h1 h
      · rintro r w' ⟨⟨_, h⟩ | ⟨h, _⟩, hb⟩
        · exact ⟨h.dec, hb⟩
        · exact absurd h2 h
    · refine ⟨noTl, 4, by simp [noTl], fun W hW => (hX W hW).mono ?_, fun W hW => (hR W hW).mono ?_⟩
      · rintro r w' ⟨⟨h, _⟩ | ⟨_, rfl⟩, hb⟩
        · exact absurd h h1
        · exact ⟨dec_refused w', hb⟩
      · rintro r w' ⟨⟨h, _⟩ | ⟨_, rfl⟩, hb⟩
        · exact absurd h h2
        · exact ⟨dec_refused w', hb⟩

theorem size49s : (Try.prog.info? 49).map (·.size) = some 5 := size49
set_option maxRecDepth 100000 in
set_option maxHeartbeats 3200000 in
theorem decodes_law (a : Option Addr) (n c : Nat) (t : Tl) (er : Int) (w : World) (hp : t.pts.length ≤ 1024) (h : Both w (.slice a n c) t er) :
    Calls Try.prog 12 #[.slice a n c] w fun r w' => r = .returned (.bool true) ∧ Below w.heap.size w w' := by
  by_cases hn : n ≤ 2048
  · obtain ⟨⟨kL, kx, ky, kz⟩, P⟩ := t
    have H44 := hid h.1
    have H45 := hid h.2
    have HPL := hid hp
    clear h hp
    go_enter Try.func12, Try.ntmps12
    go_wp2_with fail
    refine (H44.out _ (Below.refl _ _)).mono ?_
    rintro r w1 ⟨⟨v1, rfl, hv1⟩, hb⟩
    have HV1 := hid hv1
    have HB1 := hid hb
    have hz1 := hb.size
    obtain ⟨a1, c1, rfl, _⟩ := hv1
    simp only at HV1
    clear hb
    go_wp2_with (refine wpList_store_new rfl 49 (.tmp 3) (.tmp 14) rfl rfl rfl rfl size49s rfl rfl rfl ?_)
    refine (H45.out _ (HB1.out.alloc hz1 _)).mono ?_
    rintro r w2 ⟨⟨v2, rfl, hv2⟩, hb2⟩
    have HV2 := hid hv2
    obtain ⟨a2, c2, rfl, _⟩ := hv2
    have G1 := hid (heap_still hb2 (heap_alloc_at _ _ _ rfl) : w2.heap[w1.heap.size]? = some (.cells #[.int .i64 kL, .int .i64 kx, .int .i64 ky, .int .i64 kz, .slice a1 P.length c1] 49))
    have HB2 := hid ((HB1.out.alloc hz1 (.cells #[.int .i64 kL, .int .i64 kx, .int .i64 ky, .int .i64 kz, .slice a1 P.length c1] 49)).trans (hb2.mono (by simp; omega)))
    have HV1b := hid (HV1.out.still (Below.alloc (Below.refl w1.heap.size w1) (Nat.le_refl _) (.cells #[.int .i64 kL, .int .i64 kx, .int .i64 ky, .int .i64 kz, .slice a1 P.length c1] 49)) |>.still hb2)
    have hz2 := hb2.size
    simp at hz2
    simp only at HV2
    clear hb2
    have HBX := hid (show Below w2.heap.size w2 (((w2.alloc (.cells #[.int .i64 kL, .int .i64 kx, .int .i64 ky, .int .i64 kz, .slice a2 P.length c2] 49)).alloc (.cells #[.int .i64 kL, .int .i64 kx, .int .i64 ky, .int .i64 kz, .slice a1 P.length c1] 49)).alloc (.cells #[.int .i64 kL, .int .i64 kx, .int .i64 ky, .int .i64 kz, .slice a2 P.length c2] 49)) from ((Below.alloc (Below.refl _ _) (Nat.le_refl _) _).alloc (by simp) _).alloc (by simp; omega) _)
    have HT1 := hid (show TilesV (((w2.alloc (.cells #[.int .i64 kL, .int .i64 kx, .int .i64 ky, .int .i64 kz, .slice a2 P.length c2] 49)).alloc (.cells #[.int .i64 kL, .int .i64 kx, .int .i64 ky, .int .i64 kz, .slice a1 P.length c1] 49)).alloc (.cells #[.int .i64 kL, .int .i64 kx, .int .i64 ky, .int .i64 kz, .slice a2 P.length c2] 49)) (.slice (some ⟨w2.heap.size + 1, 0, none⟩) 1 1) [⟨⟨kL, kx, ky, kz⟩, .slice a1 P.length c1, P⟩] from
      ⟨⟨some ⟨w2.heap.size + 1, 0, none⟩, 1, rfl, Or.inr ⟨_, 0, rfl, by simp, RowsAt.one (heap_alloc_past _ _ _ _ (heap_alloc_at _ _ _ (by simp)))⟩⟩, fun e he => by
        obtain rfl := List.mem_singleton.1 he
        exact HV1b.out.still HBX.out⟩)
    have HT2 := hid (show TilesV (((w2.alloc (.cells #[.int .i64 kL, .int .i64 kx, .int .i64 ky, .int .i64 kz, .slice a2 P.length c2] 49)).alloc (.cells #[.int .i64 kL, .int .i64 kx, .int .i64 ky, .int .i64 kz, .slice a1 P.length c1] 49)).alloc (.cells #[.int .i64 kL, .int .i64 kx, .int .i64 ky, .int .i64 kz, .slice a2 P.length c2] 49)) (.slice (some ⟨w2.heap.size + 1 + 1, 0, none⟩) 1 1) [⟨⟨kL, kx, ky, kz⟩, .slice a2 P.length c2, P⟩] from
      ⟨⟨some ⟨w2.heap.size + 1 + 1, 0, none⟩, 1, rfl, Or.inr ⟨_, 0, rfl, by simp, RowsAt.one (heap_alloc_at _ _ _ (by simp))⟩⟩, fun e he => by
        obtain rfl := List.mem_singleton.1 he
        exact HV2.out.still HBX.out⟩)
    go_wp2_with (first | (refine wpList_store_new rfl 49 (.tmp 5) (.tmp 19) rfl rfl rfl rfl size49s rfl rfl rfl ?_) | (refine wpList_load_at rfl 49 (.tmp 3) rfl rfl (heap_alloc_past _ _ _ _ G1.out) Try.underlying49 rfl size49s rfl ?_) | (refine wpList_load_at rfl 49 (.tmp 5) rfl rfl (heap_alloc_past _ _ _ _ (heap_alloc_at _ _ _ rfl)) Try.underlying49 rfl size49s rfl ?_))
    refine (same_tiles _ _ [⟨⟨kL, kx, ky, kz⟩, .slice a1 P.length c1, P⟩] [⟨⟨kL, kx, ky, kz⟩, .slice a2 P.length c2, P⟩] _ HT1.out HT2.out rfl (by simp) (fun e he => by
      obtain rfl := List.mem_singleton.1 he
      have := HPL.out
      show P.length ≤ 4096
      omega)).mono ?_
    rintro r w3 ⟨rfl, hb3⟩
    have HB3 := hid ((HB2.out.trans (HBX.out.mono HB2.out.size)).trans (hb3.mono (by simp; have := HB2.out.size; omega)))
    have hsz := HB3.out.size
    clear hb3
    go_wp2_with fail
    refine (awake_any _).mono ?_
    rintro r w4 ⟨rfl, hb4⟩
    go_wp2_with fail
    go_ret
    exact ⟨rfl, HB3.out.trans (hb4.mono hsz)⟩
  · clear h
    go_enter Try.func12, Try.ntmps12
    go_wp2_with fail
    refine (awake_any _).mono ?_
    rintro r w3 ⟨rfl, hb3⟩
    go_wp2_with fail
    go_ret
    exact ⟨rfl, hb3⟩

theorem lawFlat5 : flatOf Try.prog 10 5 = some [some .u8] := by kernel_rfl
theorem lawSize5 : (Try.prog.info? 5).map (·.size) = some ([some IntKind.u8] : List (Option IntKind)).length := by kernel_rfl
theorem wf_u8 {n : Int} (h : (Lit.int .u8 n).wf = true) : 0 ≤ n ∧ n < 256 := by
  simp [Lit.wf, IntKind.min, IntKind.max, IntKind.signed, IntKind.bits] at h
  omega
theorem bytes_rows {w : World} {b off n : Nat} (h : rows w b off 1 n [some .u8]) : ∃ l : List Nat, l.length = n ∧ (∀ x ∈ l, x < 256) ∧ bytesAt w b off l.length (fun i => l.getD i 0) := by
  have each : ∀ i, i < n → ∃ q : Nat, q < 256 ∧ w.cell? ⟨b, off + i, none⟩ = some (.int .u8 (q : Nat)) := by
    intro i hi
    obtain ⟨cs, hf, hc⟩ := h i hi
    obtain ⟨z, vs, rfl, hw, _⟩ := fits_int hf
    have hz := wf_u8 hw
    refine ⟨z.toNat, by omega, ?_⟩
    have h0 := hc 0 _ rfl
    rw [show off + i * 1 + 0 = off + i by omega] at h0
    rw [h0, show ((z.toNat : Nat) : Int) = z by omega]
  obtain ⟨l, h1, h2⟩ := list_of n each
  refine ⟨l, h1, fun x hx => ?_, fun i hi => ?_⟩
  · obtain ⟨i, hi⟩ := List.getElem?_of_mem hx
    exact (h2 i x hi).1
  · have h3 : l[i]? = some (l.getD i 0) := by rw [List.getD_eq_getElem?_getD, List.getElem?_eq_getElem hi]; rfl
    exact (h2 i _ h3).2
set_option maxRecDepth 100000 in
theorem tileDecodes_lifted (os : Os) (started : os.Started) (H : Type) (enc : TypeId × Value → H) :
    ReturnsInHanded {} Try.checked os 12 .any (Rows.tileDecodesSpec.pre6 enc Try.prog Try.f12 Rows.tileDecodesRow.domain false) (Rows.tileDecodesSpec.post enc Try.prog Try.f12 false true false false) := by
  refine law_lifted (C := Try.checked) (tb := 4) lawOwn started (by kernel_rfl) Try.func12 rfl ?_ (show Try.f12.resultTypes = #[4] by kernel_rfl) Try.underlying4 lawLaid ?_
    (ChangeSpec.witness6 (enc := enc) (C := Try.checked) false ⟨#[], #[.slice none 0 0], []⟩ 8 (by kernel_rfl) (by kernel_rfl) (by kernel_rfl) (by kernel_rfl)) ?_
  · intro ds hds
    match ds, hds with
    | [d1], _ => exact ⟨rfl, rfl, rfl⟩
  · rw [Try.params12]
    intro t ht
    simp at ht
    rcases ht with rfl
    all_goals exact ⟨by kernel_rfl, of_decide_eq_true (by kernel_rfl)⟩
  · intro W base args ds p hval hA hlt _
    change DataW.TrodAll enc Try.prog W 0 (fun _ => true) true Try.f12.params.toList args.toList ds p at hA
    change ∀ (j : Nat) t v, Try.f12.params[j]? = some t → args[j]? = some v → Value.okWide Try.prog W .any base t v at hval
    rw [Try.params12] at hA hval
    obtain ⟨v0, vs0, d0, ds0, p0, q0, hargs, rfl, rfl, h0, r0⟩ := trodAll_cons hA
    obtain ⟨rfl, rfl, rfl⟩ := trodAll_nil r0
    obtain rfl : args = #[v0] := by cases args; simp_all
    rcases open_rows Try.underlying70 lawFlat5 lawSize5 (by decide) (hval 0 70 v0 rfl rfl) h0 with rfl | ⟨a, c, rfl⟩ | ⟨b, off, n, c, rfl, hn, hc, hm, hr⟩
    · exact decodes_law none 0 0 noTl 4 W (by simp [noTl]) (dec_none none 0 W)
    · exact decodes_law (some a) 0 c noTl 4 W (by simp [noTl]) (dec_none _ c W)
    · obtain ⟨l, rfl, hl, hb⟩ := bytes_rows hr
      have hbw := cell_lt (hb 0 hn)
      obtain ⟨t, er, hp, hB⟩ := dec_both b off c l W hbw hl hc (by unfold maxLen at hm; omega) hb
      exact decodes_law _ l.length c t er W hp hB
/-- TileDecodes, whatever the input. -/
theorem tileDecodes_holds : Rows.TileDecodesSaid :=
  OpenClaim.holds_of_wide 12 Try.f12 rfl rfl rfl rfl rfl rfl rfl ⟨rfl, rfl, rfl, rfl, rfl⟩ rfl rfl rfl rfl rfl (by kernel_rfl) Try.func12 (by kernel_rfl)
    (of_decide_eq_true (by kernel_rfl)) (by unfold Func.isWrapper; rw [if_neg (of_decide_eq_false (by kernel_rfl))]; exact ⟨rfl, rfl⟩)
    (fun os started H enc _ => tileDecodes_lifted os started H enc)
#print axioms tileDecodes_holds
end Go.Proofs.Yteanlcefdoigcaa
