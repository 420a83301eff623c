/- Commit and Forget of an archive whose disk may lose power at any operation. -/
import Derived.Test.YtcclpdfmmdonpaaGreatXStpC
import Derived.Test.YtcclpdfmmdonpaaGreatXStpA
import Derived.Test.YtcclpdfmmdonpaaGreatXRefC
import Derived.Test.YtcclpdfmmdonpaaGreatXArcI
namespace Go.Proofs.YtcclpdfmmdonpaaGreat
open Go.RowKit Go.WideShapes Go.ChangeAt Go.Maps Go.Sort
theorem Sta.disk {W W' : World} {B g gd bb N : Nat} {a : Ac} {d d' : Dk} {bv sv pv vv rv : Value} (h : Sta W B g gd bb N a d bv sv pv vv rv) (hc : Chg (MD B) W W') (hd : DkV W' B gd d') (hh : Holds N d' a) : Sta W' B g gd bb N a d' bv sv pv vv rv :=
  ⟨h.arc.disk hc, hd, hh, hc.block bb _ h.bx (MT.not (by decide)), h.hb, OwnI.chg h.vs hc (MD.kept B), h.ps.chg hc (MD.kept B) (fun k C _ => MT.not (by decide)), h.sep, Nat.le_trans h.hB hc.size⟩
def CmtGo (B g gd N : Nat) (a : Ac) (d : Dk) (bv sv pv : Value) (P A : List Pt) (R : List Int) (W : World) (r : Ending) (w' : World) : Prop :=
  Chg (MC B pv) W w' /\ ((cmtE P A R ≠ 0 /\ r = .returned (.tuple #[.int .i64 0, .int .i64 (cmtE P A R)]) /\ Below W.heap.size W w') ∨
    (cmtE P A R = 0 /\ r = .returned (.tuple #[.int .i64 (a.lg.first + a.pts.length), .int .i64 0]) /\ ∃ a1 d1 bv1 sv1 pv1 Q, ArcV w' B g gd a1 bv1 sv1 pv1 /\ DkV w' B gd d1 /\ Holds (N + 1) d1 a1 /\ a1.lg.first = a.lg.first /\ a1.c = a.c /\ a1.pts = a.pts ++ [Q] /\ MergeRes P A R 0 Q) ∨
    (cmtE P A R = 0 /\ r = .returned (.tuple #[.int .i64 0, .int .i64 82]) /\ d.lf ≠ 0 /\ ∃ d1 x Q, ArcV w' B g gd { a with dead := true } bv sv pv /\ DkV w' B gd d1 /\ After (N + 1) d1 a x /\ x.lg.first = a.lg.first /\ x.pts = a.pts ++ [Q] /\ MergeRes P A R 0 Q))
theorem commit_y (B g gd bb N : Nat) (a : Ac) (d : Dk) (bv sv pv vv rv av rw : Value) (P A : List Pt) (R : List Int) (W : World) (h : Sta W B g gd bb N a d bv sv pv vv rv) (hN : N <= 38) (ha : PtsV W av A) (hr : IntsV W rw R) (hr0 : NilV rw) (hA12 : A.length <= 12) (hR12 : R.length <= 12) (hwf : ∀ z ∈ R, (Lit.int .i64 z).wf = true) (hp : a.pts[a.lg.steps.length]? = some P) :
    Calls Tryz.prog 30 #[.pointer (some ⟨g, 0, none⟩), av, rw] W fun r w' => CmtGo B g gd N a d bv sv pv P A R W r w' := by
  by_cases hg : goodL A = true
  · have hE : cmtE P A R = mergeErr P A R := if_pos hg; unfold CmtGo; rw [hE]; refine (commit_good B g gd N a d bv sv pv av rw P A R W h.arc h.dk h.hol hN h.hB ha hr hr0 hg hA12 hR12 hwf hp).mono ?_; rintro r w1 (⟨e, he, hme, rfl, hb⟩ | ⟨L, A', hm, hpm, hs, hc, hk, hor⟩)
    · rw [hme]; exact ⟨Chg.of_below hb, .inl ⟨he, rfl, hb⟩⟩
    · have hz : mergeErr P A R = 0 := hm.err.symm; rw [hz]; have hok := commit_ok h.hol (by omega) hs hp (hm.swap hpm.symm)
      rcases hor with ⟨h0, rfl, bv', sv', pv', har⟩ | ⟨h0, rfl, har⟩
      · rcases hok with ⟨_, hh⟩ | ⟨h1, _⟩
        · exact ⟨hc, .inr (.inl ⟨rfl, rfl, _, _, bv', sv', pv', L, har, hk, hh, rfl, rfl, rfl, hm⟩)⟩
        · exact absurd (h1.symm.trans h0) (by decide)
      · rcases hok with ⟨h1, _⟩ | ⟨h1, h2, h3⟩
        · exact absurd h1 h0
        · rw [h1]; exact ⟨hc, .inr (.inr ⟨rfl, rfl, h2, _, a.cmt ⟨A', R⟩ L, L, har, hk, h3, rfl, rfl, hm⟩)⟩
  · have hg' : goodL A = false := by simpa using hg
    have hE : cmtE P A R = 70 := if_neg hg; unfold CmtGo; rw [hE]; refine (commit_bad B g gd a bv sv pv av rw A W h.arc h.hol.dead ha (by unfold maxLen; omega) hg').mono ?_; rintro r w1 ⟨rfl, hb⟩; exact ⟨Chg.of_below hb, .inl ⟨by decide, rfl, hb⟩⟩
def FgtGo (B g gd N i : Nat) (a : Ac) (d : Dk) (v : Int) (W : World) (r : Ending) (w' : World) : Prop :=
  Chg (MA B) W w' /\ ((r = .returned (.int .i64 0) /\ ∃ a1 d1 bv1 sv1 pv1, ArcV w' B g gd a1 bv1 sv1 pv1 /\ DkV w' B gd d1 /\ Holds (N + 2) d1 a1 /\ a1.lg.first = v /\ a1.pts = a.pts.drop i /\ a1.c = a.c) ∨
    (r = .returned (.int .i64 82) /\ d.lf ≠ 0 /\ ∃ a1 d1 x bv1 sv1 pv1, ArcV w' B g gd a1 bv1 sv1 pv1 /\ a1.lg = a.lg /\ a1.pts = a.pts /\ a1.c = a.c /\ a1.dead = true /\ DkV w' B gd d1 /\ After (N + 2) d1 a x /\ x.lg.first = v /\ x.pts = a.pts.drop i))
theorem forget_y (B g gd bb N : Nat) (a : Ac) (d : Dk) (bv sv pv vv rv : Value) (v : Int) (i : Nat) (p : List Pt) (W : World) (h : Sta W B g gd bb N a d bv sv pv vv rv) (hN : N <= 38) (hp : a.pts[i]? = some p) (hv : v = a.lg.first + (i : Int)) :
    Calls Tryz.prog 27 #[.pointer (some ⟨g, 0, none⟩), .int .i64 v] W fun r w' => FgtGo B g gd N i a d v W r w' := by
  by_cases hi : i = 0
  · subst hi; refine (forget_zero B g gd a d bv sv pv v p W h.arc h.dk h.hol.up h.hol.dead (h.small (by omega)) hp (by rw [hv]; simp)).mono ?_; rintro r w1 ⟨rfl, hb⟩; exact ⟨Chg.of_below hb, .inl ⟨rfl, a, d, bv, sv, pv, h.arc.still hb, h.dk.still hb, h.hol.mono (by omega), by rw [hv]; simp, by simp, rfl⟩⟩
  · have hok := forget_ok h.hol hN (show 0 < i by omega) hp; refine (forget_yes B g gd N a d bv sv pv v i p W h.arc h.dk h.hol hN h.hB hp (by omega) hv).mono ?_; rintro r w1 ⟨hc, hk, rfl, hor⟩
    rcases hok with ⟨h0, hh⟩ | ⟨h0, h1, h2⟩
    · rcases hor with ⟨_, bv', sv', pv', ha⟩ | ⟨h1, _⟩
      · rw [h0]; exact ⟨hc, .inl ⟨rfl, _, _, bv', sv', pv', ha, hk, hh, hv.symm, rfl, rfl⟩⟩
      · exact absurd h0 h1
    · rcases hor with ⟨h3, _⟩ | ⟨_, a', bv', sv', pv', ha, q1, q2, q3, q4⟩
      · exact absurd (h3.symm.trans h0) (by decide)
      · rw [h0]; exact ⟨hc, .inr ⟨rfl, h1, a', _, a.fgt i p, bv', sv', pv', ha, q1, q2, q3, q4, hk, h2, hv.symm, rfl⟩⟩
end Go.Proofs.YtcclpdfmmdonpaaGreat
