/- An archive and its disk, plain: what a commit and a Forget do to both, and that behind a loss of power the archive is in the state before or in that after. No program in sight. What a commit and a Forget leave on the disk, whatever operation fails (plain). -/
import Derived.Test.YtcclpdfmmdonpaaGreatXArcM
import Derived.Test.YtcclpdfmmdonpaaGreatXDkv
import Derived.Test.YtcclpdfmmdonpaaGreatXTil
namespace Go.Proofs.YtcclpdfmmdonpaaGreat
open Go.RowKit
def Runs : List Pt -> List Stp -> List (List Pt) -> Prop
  | b, [], L => L = [b]
  | b, s :: S, L => ∃ q L', L = b :: L' /\ MergeRes b s.add s.rem 0 q /\ Runs q S L'
theorem Runs.len : ∀ {b : List Pt} {S : List Stp} {L : List (List Pt)}, Runs b S L -> L.length = S.length + 1
  | _, [], _, h => by rw [show _ = _ from h]; rfl
  | _, s :: S, _, ⟨q, L', e, _, h⟩ => by rw [e, List.length_cons, h.len]; rfl
theorem Runs.head : ∀ {b : List Pt} {S : List Stp} {L : List (List Pt)}, Runs b S L -> L[0]? = some b
  | _, [], _, h => by rw [show _ = _ from h]; rfl
  | _, s :: S, _, ⟨q, L', e, _, h⟩ => by rw [e]; rfl
theorem Runs.snoc : ∀ {b : List Pt} {S : List Stp} {L : List (List Pt)} {s : Stp} {p q : List Pt}, Runs b S L -> L[S.length]? = some p -> MergeRes p s.add s.rem 0 q -> Runs b (S ++ [s]) (L ++ [q])
  | b, [], L, s, p, q, h, hp, hm => by
    have h : L = [b] := h; subst h; simp at hp; subst hp; exact ⟨q, [q], rfl, hm, rfl⟩
  | b, t :: S, L, s, p, q, ⟨r, L', e, h1, h2⟩, hp, hm => by
    subst e; exact ⟨r, L' ++ [q], rfl, h1, h2.snoc (by simpa using hp) hm⟩
theorem Runs.drop : ∀ {n : Nat} {b : List Pt} {S : List Stp} {L : List (List Pt)} {p : List Pt}, Runs b S L -> L[n]? = some p -> Runs p (S.drop n) (L.drop n)
  | 0, _, _, _, _, h, hp => by
    rw [h.head] at hp; injection hp with hp
    subst hp; exact h
  | n + 1, b, [], L, p, h, hp => by
    have h : L = [b] := h; subst h; simp at hp
  | n + 1, b, s :: S, L, p, ⟨q, L', e, h1, h2⟩, hp => by
    subst e; exact h2.drop (by simpa using hp)
theorem Runs.step : ∀ {i : Nat} {b : List Pt} {S : List Stp} {L : List (List Pt)} {s : Stp} {p : List Pt}, Runs b S L -> S[i]? = some s -> L[i]? = some p -> ∃ q, L[i + 1]? = some q /\ MergeRes p s.add s.rem 0 q
  | i, b, [], L, s, p, h, hs, hp => by simp at hs
  | 0, b, t :: S, L, s, p, ⟨q, L', e, h1, h2⟩, hs, hp => by
    subst e; simp at hs hp; subst hs hp; exact ⟨q, by simpa using h2.head, h1⟩
  | i + 1, b, t :: S, L, s, p, ⟨q, L', e, h1, h2⟩, hs, hp => by
    subst e; obtain ⟨r, h3, h4⟩ := h2.step (i := i) (by simpa using hs) (by simpa using hp); exact ⟨r, by simpa using h3, h4⟩
theorem asc_strictP {L : List Pt} (hg : goodL L = true) (h : L.Pairwise (fun p q => ¬ q.id < p.id)) : L.Pairwise (fun p q => p.id < q.id) := by
  have h2 := ((goodL_iff L).1 hg).2.2; exact (h.and h2).imp (fun ⟨a, b⟩ => by omega)
theorem MergeRes.ptsOk {P A L : List Pt} {R : List Int} (h : MergeRes P A R 0 L) (hP : PtsOk P) (hA : goodL A = true) : PtsOk L := ⟨h.good hP.good hA rfl, asc_strictP (h.good hP.good hA rfl) (h.asc rfl)⟩
theorem Runs.ok : ∀ {b : List Pt} {S : List Stp} {L : List (List Pt)}, Runs b S L -> PtsOk b -> (∀ s ∈ S, StpOk s) -> ∀ p ∈ L, PtsOk p
  | b, [], L, h, hb, _, p, hp => by
    have h : L = [b] := h; subst h; simp at hp; subst hp; exact hb
  | b, s :: S, L, ⟨q, L', e, h1, h2⟩, hb, hS, p, hp => by
    subst e
    rcases List.mem_cons.1 hp with rfl | hp
    · exact hb
    · exact h2.ok (h1.ptsOk hb (hS s (by simp)).add.good) (fun x hx => hS x (by simp [hx])) p hp
theorem thereOk_perm {P A A' : List Pt} {R : List Int} (h : A.Perm A') : ThereOk P A R ↔ ThereOk P A' R := ⟨fun g a ha => g a (h.mem_iff.2 ha), fun g a ha => g a (h.mem_iff.1 ha)⟩
theorem mergeErr_perm {P A A' : List Pt} {R : List Int} (h : A.Perm A') : mergeErr P A R = mergeErr P A' R := by
  unfold mergeErr; simp only [thereOk_perm h, h.length_eq]
theorem MergeRes.swap {P A A' L : List Pt} {R : List Int} {e : Int} (h : MergeRes P A R e L) (hp : A.Perm A') : MergeRes P A' R e L :=
  ⟨h.err.trans (mergeErr_perm hp), h.none, fun he => (h.perm he).trans (hp.append_right _), h.asc⟩
structure Ac where
  lg : Lg
  torn : Bool
  pts : List (List Pt)
  c : Int
  file : Int
  dead : Bool
def Ac.empty (c : Int) : Ac := ⟨⟨0, c, 0, [], [], false⟩, false, [[]], c, -1, false⟩
structure Cont (b : List Nat) (R : List Rcd) (t : List Nat) : Prop where
  eq : b = flat R ++ t
  stm : Stm R
  torn : Torn t
theorem Cont.len {b : List Nat} {R : List Rcd} {t : List Nat} (h : Cont b R t) : b.length <= 170000 + 1200 * R.length := by
  have h1 := h.stm.len; have h2 := h.torn.len; rw [h.eq, List.length_append]; omega
theorem Cont.nil : Cont [] [] [] := ⟨rfl, Stm.nil, Torn.nil⟩
def Lg.same (l m : Lg) : Prop := l.age = m.age /\ l.cap = m.cap /\ l.first = m.first /\ l.base = m.base /\ l.steps = m.steps
def Says (R : List Rcd) (t : List Nat) (a : Ac) : Prop := (lgOf R).sealed = true /\ (lgOf R).same a.lg /\ a.torn = decide (t ≠ []) /\ R ≠ []
def Less (R : List Rcd) (age : Int) : Prop := (lgOf R).sealed = false ∨ (lgOf R).age < age
def oth (file : Int) : Int := if file = 0 then 1 else 0
theorem oth_bit (f : Int) : oth f = 0 ∨ oth f = 1 := by unfold oth; split <;> omega
theorem oth_oth {f : Int} (h : f = 0 ∨ f = 1) : oth (oth f) = f := by rcases h with rfl | rfl <;> rfl
theorem oth_ne {f : Int} (h : f = -1 ∨ f = 0 ∨ f = 1) : f ≠ oth f := by rcases h with rfl | rfl | rfl <;> decide
def Dk.get (d : Dk) (i : Int) : Fi := if i = 0 then d.f0 else d.f1
def Ac.fresh (a : Ac) : Prop := a.lg.age = 0 /\ a.lg.first = 0 /\ a.lg.base = [] /\ a.lg.steps = [] /\ a.torn = false
def Files (N : Nat) (d : Dk) (a : Ac) (i : Int) : Prop := ∃ R t R' t', Cont (d.get i).b R t /\ Cont (d.get (oth i)).b R' t' /\ R.length <= N + 2 /\ R'.length <= N + 2 /\
  ((a.file = -1 /\ (lgOf R).sealed = false /\ (lgOf R').sealed = false /\ a.fresh) ∨ (a.file = i /\ Says R t a /\ Less R' a.lg.age) ∨ (a.file = oth i /\ Says R' t' a /\ Less R a.lg.age))
theorem Files.swap {N : Nat} {d : Dk} {a : Ac} {i : Int} (hi : i = 0 ∨ i = 1) (h : Files N d a i) : Files N d a (oth i) := by
  obtain ⟨R, t, R', t', h1, h2, h3, h4, h5⟩ := h; refine ⟨R', t', R, t, h2, by rw [oth_oth hi]; exact h1, h4, h3, ?_⟩
  rcases h5 with ⟨a1, a2, a3, a4⟩ | ⟨a1, a2, a3⟩ | ⟨a1, a2, a3⟩
  · exact .inl ⟨a1, a3, a2, a4⟩
  · exact .inr (.inr ⟨by rw [oth_oth hi]; exact a1, a2, a3⟩)
  · exact .inr (.inl ⟨a1, a2, a3⟩)
theorem Files.to {N : Nat} {d : Dk} {a : Ac} {i j : Int} (hi : i = 0 ∨ i = 1) (hj : j = 0 ∨ j = 1) (h : Files N d a i) : Files N d a j := by
  rcases hi with rfl | rfl <;> rcases hj with rfl | rfl
  · exact h
  · exact h.swap (.inl rfl)
  · exact h.swap (.inr rfl)
  · exact h
structure Holds (N : Nat) (d : Dk) (a : Ac) : Prop where
  up : d.dn = false
  l0 : 0 <= d.lf
  l1 : d.lf <= 9223372036854775807
  dead : a.dead = false
  c1 : 1 <= a.c
  c2 : a.c <= 64
  cap : a.lg.cap = a.c
  runs : Runs a.lg.base a.lg.steps a.pts
  ok : LgOk a.lg
  safe : ∀ i, (d.get i).s = (d.get i).b.length
  few : a.lg.steps.length <= N
  young : 0 <= a.lg.age /\ a.lg.age <= N
  low : 0 <= a.lg.first /\ a.lg.first + a.lg.steps.length <= N
  files : Files N d a 0
theorem Holds.bit {N : Nat} {d : Dk} {a : Ac} (h : Holds N d a) : a.file = -1 ∨ a.file = 0 ∨ a.file = 1 := by
  obtain ⟨R, t, R', t', _, _, _, _, h5⟩ := h.files
  rcases h5 with ⟨a1, _⟩ | ⟨a1, _⟩ | ⟨a1, _⟩
  · exact .inl a1
  · exact .inr (.inl a1)
  · exact .inr (.inr a1)
theorem Holds.at {N : Nat} {d : Dk} {a : Ac} (h : Holds N d a) {i : Int} (hi : i = 0 ∨ i = 1) : Files N d a i := h.files.to (.inl rfl) hi
theorem Holds.dk {N : Nat} {d : Dk} {a : Ac} (h : Holds N d a) (hN : N <= 40) : DkOk d := by
  obtain ⟨R0, t0, R1, t1, h0, h1, n0, n1, _⟩ := h.files; have e0 := h0.len; have e1 := h1.len; have s0 := h.safe 0; have s1 := h.safe 1; simp only [Dk.get, oth, if_pos, if_neg (show ¬ (1 : Int) = 0 by decide)] at e0 e1 s0 s1; exact ⟨h.l0, h.l1, by omega, by omega, by omega, by omega⟩
theorem Holds.mono {N M : Nat} {d : Dk} {a : Ac} (h : Holds N d a) (hN : N <= M) : Holds M d a := by
  obtain ⟨R0, t0, R1, t1, h0, h1, n0, n1, hf⟩ := h.files; have := h.few; have := h.young; have := h.low; exact ⟨h.up, h.l0, h.l1, h.dead, h.c1, h.c2, h.cap, h.runs, h.ok, h.safe, by omega, by omega, by omega, R0, t0, R1, t1, h0, h1, by omega, by omega, hf⟩
theorem Holds.arm {N : Nat} {d : Dk} {a : Ac} (h : Holds N d a) {n : Int} (h0 : 0 <= n) (h1 : n <= 9223372036854775807) : Holds N { d with lf := n } a :=
  ⟨h.up, h0, h1, h.dead, h.c1, h.c2, h.cap, h.runs, h.ok, h.safe, h.few, h.young, h.low, h.files⟩
theorem lost_safe {f : Fi} (h : f.s = f.b.length) (k : Int) : f.lost k = f := by
  obtain ⟨b, s⟩ := f; simp only at h; subst h; simp [Fi.lost]
theorem lost_again {f : Fi} (h : f.s <= f.b.length) (k : Int) : (f.lost k).s = (f.lost k).b.length := by
  simp only [Fi.lost, List.length_take]; omega
theorem holds_new {c : Int} (h1 : 1 <= c) (h2 : c <= 64) : Holds 0 Dk.new (Ac.empty c) := by
  refine ⟨rfl, Int.le_refl _, by decide, rfl, h1, h2, rfl, rfl, ?_, ?_, Nat.le_refl _, ⟨Int.le_refl _, Int.le_refl _⟩, ⟨Int.le_refl _, Int.le_refl _⟩, [], [], [], [], ?_, ?_, by simp, by simp, .inl ⟨rfl, rfl, rfl, rfl, rfl, rfl, rfl, rfl⟩⟩
  · have z : NumOk 0 := ⟨by decide, by decide⟩; exact ⟨z, ⟨by show (0 : Int) <= c; omega, by show c <= _; omega⟩, z, PtsOk.nil, fun s hs => by simp [Ac.empty] at hs⟩
  · intro i; unfold Dk.get
    split <;> rfl
  · exact Cont.nil
  · exact Cont.nil
def Dk.rw (d : Dk) (o : Int) (bs : List Nat) : Int × Dk :=
  if (d.op o Fi.clr).1 ≠ 0 then d.op o Fi.clr
  else if ((d.op o Fi.clr).2.op o (Fi.app bs)).1 ≠ 0 then (d.op o Fi.clr).2.op o (Fi.app bs)
  else ((d.op o Fi.clr).2.op o (Fi.app bs)).2.op o Fi.syn
def Dk.put (d : Dk) (i : Int) (bs : List Nat) : Int × Dk :=
  if (d.op i (Fi.app bs)).1 ≠ 0 then d.op i (Fi.app bs) else (d.op i (Fi.app bs)).2.op i Fi.syn
structure Dk.is (d : Dk) (dn : Bool) (lf : Int) (i : Int) (x y : Fi) : Prop where
  dn : d.dn = dn
  lf : d.lf = lf
  it : d.get i = x
  ot : d.get (oth i) = y
theorem op_is {d : Dk} {lf i : Int} {x y : Fi} (h : d.is false lf i x y) (hi : i = 0 ∨ i = 1) (hl : 0 <= lf) (F : Fi -> Fi) :
    (lf = 1 /\ (d.op i F).1 = 82 /\ (d.op i F).2.is true 0 i x y) ∨ (lf ≠ 1 /\ (d.op i F).1 = 0 /\ (d.op i F).2.is false (spL lf) i (F x) y) := by
  obtain ⟨dn, l, f0, f1⟩ := d; obtain ⟨h1, h2, h3, h4⟩ := h; simp only at h1 h2; subst h1 h2; by_cases h1 : l = 1
  · left; subst h1; exact ⟨rfl, rfl, rfl, rfl, h3, h4⟩
  · right; refine ⟨h1, by simp [Dk.op, h1], ?_⟩
    rcases hi with rfl | rfl
    · simp only [Dk.get, oth, if_pos, if_neg (show ¬ (1 : Int) = 0 by decide)] at h3 h4; subst h3 h4; exact ⟨by simp [Dk.op, h1], by simp [Dk.op, h1], by simp [Dk.op, h1, Dk.get], by simp [Dk.op, h1, Dk.get, oth]⟩
    · simp only [Dk.get, oth, if_pos, if_neg (show ¬ (1 : Int) = 0 by decide)] at h3 h4; subst h3 h4; exact ⟨by simp [Dk.op, h1], by simp [Dk.op, h1], by simp [Dk.op, h1, Dk.get], by simp [Dk.op, h1, Dk.get, oth]⟩
theorem spL_facts {lf : Int} (h : 0 <= lf) : 0 <= spL lf /\ spL lf <= lf := by
  unfold spL
  split <;> omega
theorem rw_is {d : Dk} {lf i : Int} {x y : Fi} (h : d.is false lf i x y) (hi : i = 0 ∨ i = 1) (hl : 0 <= lf) (bs : List Nat) :
    ((d.rw i bs).1 = 0 /\ ∃ lf', 0 <= lf' /\ lf' <= lf /\ (d.rw i bs).2.is false lf' i ⟨bs, bs.length⟩ y) ∨
    ((d.rw i bs).1 = 82 /\ lf ≠ 0 /\ ∃ z, (z = x ∨ z = ⟨[], 0⟩ ∨ z = ⟨bs, 0⟩) /\ (d.rw i bs).2.is true 0 i z y) := by
  have s1 := spL_facts hl; unfold Dk.rw
  rcases op_is h hi hl Fi.clr with ⟨e1, e2, e3⟩ | ⟨e1, e2, e3⟩
  · rw [if_pos (by rw [e2]; decide)]; exact .inr ⟨e2, by omega, x, .inl rfl, e3⟩
  · rw [if_neg (by rw [e2]; decide)]; have s2 := spL_facts s1.1
    rcases op_is e3 hi s1.1 (Fi.app bs) with ⟨q1, q2, q3⟩ | ⟨q1, q2, q3⟩
    · rw [if_pos (by rw [q2]; decide)]; refine .inr ⟨q2, ?_, ⟨[], 0⟩, .inr (.inl rfl), q3⟩; intro h0; subst h0; exact absurd q1 (by decide)
    · rw [if_neg (by rw [q2]; decide)]
      rcases op_is q3 hi s2.1 Fi.syn with ⟨r1, r2, r3⟩ | ⟨r1, r2, r3⟩
      · refine .inr ⟨r2, ?_, ⟨bs, 0⟩, .inr (.inr rfl), r3⟩; intro h0; subst h0; exact absurd r1 (by decide)
      · have s3 := spL_facts s2.1; exact .inl ⟨r2, _, s3.1, by omega, r3⟩
theorem put_is {d : Dk} {lf i : Int} {x y : Fi} (h : d.is false lf i x y) (hi : i = 0 ∨ i = 1) (hl : 0 <= lf) (bs : List Nat) :
    ((d.put i bs).1 = 0 /\ ∃ lf', 0 <= lf' /\ lf' <= lf /\ (d.put i bs).2.is false lf' i ⟨x.b ++ bs, (x.b ++ bs).length⟩ y) ∨
    ((d.put i bs).1 = 82 /\ lf ≠ 0 /\ ∃ z, (z = x ∨ z = ⟨x.b ++ bs, x.s⟩) /\ (d.put i bs).2.is true 0 i z y) := by
  have s1 := spL_facts hl; unfold Dk.put
  rcases op_is h hi hl (Fi.app bs) with ⟨e1, e2, e3⟩ | ⟨e1, e2, e3⟩
  · rw [if_pos (by rw [e2]; decide)]; exact .inr ⟨e2, by omega, x, .inl rfl, e3⟩
  · rw [if_neg (by rw [e2]; decide)]; have s2 := spL_facts s1.1
    rcases op_is e3 hi s1.1 Fi.syn with ⟨q1, q2, q3⟩ | ⟨q1, q2, q3⟩
    · refine .inr ⟨q2, ?_, _, .inr rfl, q3⟩; intro h0; subst h0; exact absurd q1 (by decide)
    · exact .inl ⟨q2, _, s2.1, by omega, q3⟩
theorem crash_is {d : Dk} {i : Int} {x y : Fi} (h : d.is true 0 i x y) (hi : i = 0 ∨ i = 1) (hx : x.s <= x.b.length) (hy : y.s = y.b.length) (k0 k1 : Int) : ∃ k, ((d.crash k0 k1).start).is false 0 i (x.lost k) y := by
  obtain ⟨dn, l, f0, f1⟩ := d; obtain ⟨h1, h2, h3, h4⟩ := h; simp only at h1 h2; subst h1 h2
  rcases hi with rfl | rfl
  · simp only [Dk.get, oth, if_pos, if_neg (show ¬ (1 : Int) = 0 by decide)] at h3 h4; subst h3 h4; refine ⟨k0, rfl, rfl, ?_, ?_⟩
    · show (f0.lost k0).lost 0 = _; exact lost_safe (lost_again hx k0) 0
    · show (f1.lost k1).lost 0 = _; rw [lost_safe hy, lost_safe hy]
  · simp only [Dk.get, oth, if_pos, if_neg (show ¬ (1 : Int) = 0 by decide)] at h3 h4; subst h3 h4; refine ⟨k1, rfl, rfl, ?_, ?_⟩
    · show (f1.lost k1).lost 0 = _; exact lost_safe (lost_again hx k1) 0
    · show (f0.lost k0).lost 0 = _; rw [lost_safe hy, lost_safe hy]
theorem Holds.is {N : Nat} {d : Dk} {a : Ac} (h : Holds N d a) (i : Int) : d.is false d.lf i (d.get i) (d.get (oth i)) := ⟨h.up, rfl, rfl, rfl⟩
theorem safe_of {d : Dk} {dn : Bool} {lf i : Int} {x y : Fi} (h : d.is dn lf i x y) (hi : i = 0 ∨ i = 1) (hx : x.s = x.b.length) (hy : y.s = y.b.length) : ∀ j, (d.get j).s = (d.get j).b.length := fun j => by
  have h1 := h.it; have h2 := h.ot
  rcases hi with rfl | rfl
  · simp only [Dk.get, oth, if_pos, if_neg (show ¬ (1 : Int) = 0 by decide)] at h1 h2; unfold Dk.get
    split
    · rw [h1]; exact hx
    · rw [h2]; exact hy
  · simp only [Dk.get, oth, if_pos, if_neg (show ¬ (1 : Int) = 0 by decide)] at h1 h2; unfold Dk.get
    split
    · rw [h2]; exact hy
    · rw [h1]; exact hx
theorem Holds.other {N : Nat} {d d' : Dk} {a : Ac} {lf : Int} {z : Fi} {R : List Rcd} {t : List Nat} (h : Holds N d a) (hd : d'.is false lf (oth a.file) z (d.get (oth (oth a.file)))) (hl : 0 <= lf) (hl1 : lf <= 9223372036854775807)
    (hz : z.s = z.b.length) (hc : Cont z.b R t) (hR : (lgOf R).sealed = false) (hn : R.length <= N + 3) : Holds (N + 1) d' a := by
  have hb := oth_bit a.file; have h2 := h.few; have h3 := h.young; have h4 := h.low; refine ⟨hd.dn, by rw [hd.lf]; exact hl, by rw [hd.lf]; exact hl1, h.dead, h.c1, h.c2, h.cap, h.runs, h.ok, safe_of hd hb hz (h.safe _), by omega, by omega, by omega, ?_⟩; refine Files.to hb (.inl rfl) ?_; obtain ⟨R0, t0, R', t', q0, q1, q2, q3, q4⟩ := h.at hb; refine ⟨R, t, R', t', by rw [hd.it]; exact hc, by rw [hd.ot]; exact q1, by omega, by omega, ?_⟩
  rcases q4 with ⟨a1, a2, a3, a4⟩ | ⟨a1, a2, a3⟩ | ⟨a1, a2, a3⟩
  · exact .inl ⟨a1, hR, a3, a4⟩
  · exact absurd a1 (oth_ne h.bit)
  · exact .inr (.inr ⟨a1, a2, .inl hR⟩)
theorem Holds.newer {N : Nat} {d d' : Dk} {a : Ac} {lf : Int} {z : Fi} {l : Lg} {L : List (List Pt)} (h : Holds N d a) (hd : d'.is false lf (oth a.file) z (d.get (oth (oth a.file)))) (hl : 0 <= lf) (hl1 : lf <= 9223372036854775807)
    (hz : z.s = z.b.length) (hc : z.b = flat (logR l)) (hok : LgOk l) (hage : l.age = a.lg.age + 1) (hcap : l.cap = a.c) (hr : Runs l.base l.steps L) (hlow : 0 <= l.first /\ l.first + l.steps.length <= (N + 1 : Nat)) :
    Holds (N + 1) d' ⟨l, false, L, a.c, oth a.file, false⟩ := by
  have hb := oth_bit a.file; have h3 := h.young; refine ⟨hd.dn, by rw [hd.lf]; exact hl, by rw [hd.lf]; exact hl1, rfl, h.c1, h.c2, hcap, hr, hok, safe_of hd hb hz (h.safe _), ?_, ?_, hlow, ?_⟩
  · show l.steps.length <= N + 1; omega
  · show 0 <= l.age /\ l.age <= (N + 1 : Nat); omega
  refine Files.to hb (.inl rfl) ?_; obtain ⟨R0, t0, R', t', q0, q1, q2, q3, q4⟩ := h.at hb; have hs := hok.stm (S := []) (fun s hs => by simp at hs); have hg := lgOf_log l []; rw [List.map_nil, List.append_nil] at hs hg; rw [List.append_nil] at hg; refine ⟨logR l, [], R', t', by rw [hd.it]; exact ⟨by rw [hc, List.append_nil], hs, Torn.nil⟩, by rw [hd.ot]; exact q1, ?_, by omega, .inr (.inl ⟨rfl, ⟨by rw [hg], by rw [hg]; exact ⟨rfl, rfl, rfl, rfl, rfl⟩, rfl, by simp [logR]⟩, ?_⟩)⟩
  · have : (logR l).length = l.steps.length + 2 := by simp [logR]
    omega
  · show Less R' l.age
    rcases q4 with ⟨a1, a2, a3, a4⟩ | ⟨a1, a2, a3⟩ | ⟨a1, a2, a3⟩
    · exact .inl a3
    · exact absurd a1 (oth_ne h.bit)
    · exact .inr (by rw [a2.2.1.1]; omega)
theorem Holds.fallen {N : Nat} {d d' : Dk} {a : Ac} {z : Fi} {l : Lg} {L : List (List Pt)} (h : Holds N d a) (hd : d'.is true 0 (oth a.file) z (d.get (oth (oth a.file)))) (hz : z = d.get (oth a.file) ∨ z = ⟨[], 0⟩ ∨ z = ⟨flat (logR l), 0⟩)
    (hok : LgOk l) (hage : l.age = a.lg.age + 1) (hcap : l.cap = a.c) (hr : Runs l.base l.steps L) (hlow : 0 <= l.first /\ l.first + l.steps.length <= (N + 1 : Nat)) (k0 k1 : Int) :
    Holds (N + 1) ((d'.crash k0 k1).start) a ∨ Holds (N + 1) ((d'.crash k0 k1).start) ⟨l, false, L, a.c, oth a.file, false⟩ := by
  have hb := oth_bit a.file; have hzs : z.s <= z.b.length := by
    rcases hz with rfl | rfl | rfl
    · rw [h.safe]; exact Nat.le_refl _
    · exact Nat.le_refl _
    · exact Nat.zero_le _
  obtain ⟨k, hk⟩ := crash_is hd hb hzs (h.safe _) k0 k1; have hsafe := lost_again hzs k
  rcases hz with rfl | rfl | rfl
  · left; obtain ⟨R0, t0, R', t', q0, q1, q2, q3, q4⟩ := h.at hb; rw [lost_safe (h.safe _)] at hk hsafe
    rcases q4 with ⟨a1, a2, a3, a4⟩ | ⟨a1, a2, a3⟩ | ⟨a1, a2, a3⟩
    · exact h.other hk (Int.le_refl _) (by decide) hsafe q0 a2 (by omega)
    · exact absurd a1 (oth_ne h.bit)
    · have h2 := h.few; have h3 := h.young; have h4 := h.low; refine ⟨hk.dn, by rw [hk.lf]; exact Int.le_refl _, by rw [hk.lf]; decide, h.dead, h.c1, h.c2, h.cap, h.runs, h.ok, safe_of hk hb hsafe (h.safe _), by omega, by omega, by omega, ?_⟩; refine Files.to hb (.inl rfl) ?_; exact ⟨R0, t0, R', t', by rw [hk.it]; exact q0, by rw [hk.ot]; exact q1, by omega, by omega, .inr (.inr ⟨a1, a2, a3⟩)⟩
  · left
    exact h.other hk (Int.le_refl _) (by decide) hsafe (show Cont ((⟨[], 0⟩ : Fi).lost k).b [] [] by
      rw [show ((⟨[], 0⟩ : Fi).lost k).b = [] by simp [Fi.lost]]
      exact Cont.nil) rfl (by simp)
  · have hlen : (logR l).length = l.steps.length + 2 := by simp [logR]
    obtain ⟨m, hm⟩ : ∃ m, m = min k.toNat ((flat (logR l)).length - 0) := ⟨_, rfl⟩; have hbm : ((⟨flat (logR l), 0⟩ : Fi).lost k).b = (flat (logR l)).take m := by
      simp only [Fi.lost, Nat.zero_add, hm]
    obtain ⟨j, t, e1, e2, e3, e4, e5⟩ := flat_take (logR l) hok.recs m (by omega); by_cases hfull : m = (flat (logR l)).length
    · right; refine h.newer hk (Int.le_refl _) (by decide) hsafe ?_ hok hage hcap hr hlow; rw [hbm, hfull, List.take_length]
    · left; have hj := e4 (by omega); have hs := hok.stm (S := []) (fun s hs => by simp at hs); rw [List.map_nil, List.append_nil] at hs; refine h.other hk (Int.le_refl _) (by decide) hsafe (R := (logR l).take j) (t := t) ⟨by rw [hbm]; exact e1, hs.take j, e2⟩ (lgOf_open (log_open l hj)) ?_; rw [List.length_take]; have : l.steps.length <= N + 1 := by omega
      omega
open Go.RowKit
theorem Holds.same {N : Nat} {d d' : Dk} {a : Ac} {lf i : Int} (h : Holds N d a) (hi : i = 0 ∨ i = 1) (hd : d'.is false lf i (d.get i) (d.get (oth i))) (hl : 0 <= lf) (hl1 : lf <= 9223372036854775807) : Holds N d' a := by
  refine ⟨hd.dn, by rw [hd.lf]; exact hl, by rw [hd.lf]; exact hl1, h.dead, h.c1, h.c2, h.cap, h.runs, h.ok, safe_of hd hi (h.safe _) (h.safe _), h.few, h.young, h.low, ?_⟩; refine Files.to hi (.inl rfl) ?_; obtain ⟨R0, t0, R', t', q0, q1, q2, q3, q4⟩ := h.at hi; exact ⟨R0, t0, R', t', by rw [hd.it]; exact q0, by rw [hd.ot]; exact q1, q2, q3, q4⟩
theorem dk_is {d : Dk} {dn : Bool} {lf i : Int} {x y : Fi} (h : d.is dn lf i x y) (hi : i = 0 ∨ i = 1) (hl : 0 <= lf) (hl1 : lf <= 9223372036854775807) (hx : x.s <= x.b.length) (hy : y.s <= y.b.length) (hx1 : x.b.length <= 1000000) (hy1 : y.b.length <= 1000000) : DkOk d := by
  have h1 := h.it; have h2 := h.ot; have h3 := h.lf
  rcases hi with rfl | rfl
  all_goals
    simp only [Dk.get, oth, if_pos, if_neg (show ¬ (1 : Int) = 0 by decide)] at h1 h2; subst h1 h2 h3; exact ⟨hl, hl1, by assumption, by assumption, by assumption, by assumption⟩
theorem Holds.long {N : Nat} {d : Dk} {a : Ac} (h : Holds N d a) (hN : N <= 40) (i : Int) : (d.get i).b.length <= 1000000 := by
  have := h.dk hN; unfold Dk.get
  split
  · exact this.n0
  · exact this.n1
def Ac.frs (a : Ac) : Bool := decide (a.file < 0) || a.torn
def Ac.lgN (a : Ac) (s : Stp) : Lg := { a.lg with age := if a.frs = true then a.lg.age + 1 else a.lg.age, steps := a.lg.steps ++ [s] }
def Ac.cmt (a : Ac) (s : Stp) (q : List Pt) : Ac := ⟨a.lgN s, false, a.pts ++ [q], a.c, if a.frs = true then oth a.file else a.file, false⟩
def Ac.cmtD (a : Ac) (s : Stp) (d : Dk) : Int × Dk := if a.frs = true then d.rw (oth a.file) (flat (logR (a.lgN s))) else d.put a.file (Rcd.step s).enc
theorem LgOk.lgN {N : Nat} {d : Dk} {a : Ac} (h : Holds N d a) (hN : N <= 40) {s : Stp} (hs : StpOk s) : LgOk (a.lgN s) := by
  have h3 := h.young; refine ⟨?_, h.ok.cap, h.ok.first, h.ok.base, ?_⟩
  · unfold Ac.lgN NumOk; simp only
    split <;> omega
  · intro x hx
    rcases List.mem_append.1 hx with hx | hx
    · exact h.ok.steps x hx
    · simp at hx; subst hx; exact hs
theorem lgOf_step (R : List Rcd) (s : Stp) : lgOf (R ++ [.step s]) = { lgOf R with steps := (lgOf R).steps ++ [s] } := by
  rw [lgOf_append]; rfl
theorem Holds.append {N : Nat} {d d' : Dk} {a : Ac} {lf : Int} {z : Fi} {s : Stp} {p q : List Pt} (h : Holds N d a) (hf : a.frs = false) (hi : a.file = 0 ∨ a.file = 1) (hd : d'.is false lf a.file z (d.get (oth a.file))) (hl : 0 <= lf) (hl1 : lf <= 9223372036854775807)
    (hz : z.s = z.b.length) (hzb : z.b = (d.get a.file).b ++ (Rcd.step s).enc) (hs : StpOk s) (hN : N <= 40) (hp : a.pts[a.lg.steps.length]? = some p) (hm : MergeRes p s.add s.rem 0 q) : Holds (N + 1) d' (a.cmt s q) := by
  have h2 := h.few; have h3 := h.young; have h4 := h.low; have hlen : (a.lgN s).steps.length = a.lg.steps.length + 1 := by simp [Ac.lgN]
  have hage : (a.lgN s).age = a.lg.age := by simp [Ac.lgN, hf]
  refine ⟨hd.dn, by rw [hd.lf]; exact hl, by rw [hd.lf]; exact hl1, rfl, h.c1, h.c2, h.cap, h.runs.snoc hp hm, LgOk.lgN h hN hs, safe_of hd hi hz (h.safe _), ?_, ?_, ?_, ?_⟩
  · show (a.lgN s).steps.length <= N + 1; omega
  · show 0 <= (a.lgN s).age /\ (a.lgN s).age <= (N + 1 : Nat); omega
  · show 0 <= a.lg.first /\ a.lg.first + (a.lgN s).steps.length <= (N + 1 : Nat); omega
  refine Files.to hi (.inl rfl) ?_; obtain ⟨R0, t0, R', t', q0, q1, q2, q3, q4⟩ := h.at hi
  rcases q4 with ⟨a1, a2, a3, a4⟩ | ⟨a1, a2, a3⟩ | ⟨a1, a2, a3⟩
  · rw [a1] at hi; omega
  · have ht : t0 = [] := by
      have ht := a2.2.2.1; simp only [Ac.frs, Bool.or_eq_false_iff] at hf; rw [hf.2] at ht; simpa using ht.symm
    refine ⟨R0 ++ [.step s], [], R', t', by
      rw [hd.it]
      refine ⟨by rw [hzb, q0.eq, ht, flat_append, List.append_nil, List.append_nil]; simp [flat], q0.stm.snoc hs (by simp [Rcd.kind]) a2.2.2.2, Torn.nil⟩, by rw [hd.ot]; exact q1, by simp; omega, by omega, .inr (.inl ⟨?_, ?_, ?_⟩)⟩
    · show (if a.frs = true then oth a.file else a.file) = a.file; rw [if_neg (by rw [hf]; decide)]
    · obtain ⟨b1, b2, b3, b4⟩ := a2; refine ⟨by rw [lgOf_step]; exact b1, ?_, rfl, by simp⟩; rw [lgOf_step]; refine ⟨by rw [show (a.cmt s q).lg.age = a.lg.age from hage]; exact b2.1, b2.2.1, b2.2.2.1, b2.2.2.2.1, ?_⟩; show (lgOf R0).steps ++ [s] = a.lg.steps ++ [s]; rw [b2.2.2.2.2]
    · show Less R' (a.lgN s).age; rw [hage]; exact a3
  · have hne := oth_ne h.bit; exact absurd a1 hne
theorem Holds.tornAt {N : Nat} {d d' : Dk} {a : Ac} {lf : Int} {z : Fi} {s : Stp} {k : Nat} (h : Holds N d a) (hf : a.frs = false) (hi : a.file = 0 ∨ a.file = 1) (hd : d'.is false lf a.file z (d.get (oth a.file))) (hl : 0 <= lf) (hl1 : lf <= 9223372036854775807)
    (hz : z.s = z.b.length) (hk : k < (Rcd.step s).enc.length) (hzb : z.b = (d.get a.file).b ++ (Rcd.step s).enc.take k) (hs : StpOk s) : Holds (N + 1) d' { a with torn := decide ((Rcd.step s).enc.take k ≠ []) } := by
  have h2 := h.few; have h3 := h.young; have h4 := h.low; refine ⟨hd.dn, by rw [hd.lf]; exact hl, by rw [hd.lf]; exact hl1, h.dead, h.c1, h.c2, h.cap, h.runs, h.ok, safe_of hd hi hz (h.safe _), by show a.lg.steps.length <= N + 1; omega, by show 0 <= a.lg.age /\ a.lg.age <= (N + 1 : Nat); omega, by show 0 <= a.lg.first /\ a.lg.first + a.lg.steps.length <= (N + 1 : Nat); omega, ?_⟩; refine Files.to hi (.inl rfl) ?_; obtain ⟨R0, t0, R', t', q0, q1, q2, q3, q4⟩ := h.at hi
  rcases q4 with ⟨a1, a2, a3, a4⟩ | ⟨a1, a2, a3⟩ | ⟨a1, a2, a3⟩
  · rw [a1] at hi; omega
  · have ht : t0 = [] := by
      have ht := a2.2.2.1; simp only [Ac.frs, Bool.or_eq_false_iff] at hf; rw [hf.2] at ht; simpa using ht.symm
    refine ⟨R0, (Rcd.step s).enc.take k, R', t', by
      rw [hd.it]
      exact ⟨by rw [hzb, q0.eq, ht, List.append_nil], q0.stm, ⟨.step s, hs, k, hk, rfl⟩⟩, by rw [hd.ot]; exact q1, by omega, by omega, .inr (.inl ⟨rfl, ⟨a2.1, a2.2.1, rfl, a2.2.2.2⟩, a3⟩)⟩
  · have hne := oth_ne h.bit; exact absurd a1 hne
def After (N : Nat) (d : Dk) (a : Ac) (x : Ac) : Prop := d.dn = true /\ DkOk d /\ ∀ k0 k1, ∃ y, Holds N ((d.crash k0 k1).start) y /\ y.c = a.c /\ ((y.lg.first = a.lg.first /\ y.pts = a.pts) ∨ (y.lg.first = x.lg.first /\ y.pts = x.pts))
theorem log_len {l : Lg} (hok : LgOk l) : (flat (logR l)).length <= 84000 + 1200 * (l.steps.length + 2) := by
  have hs := hok.stm (S := []) (fun s hs => by simp at hs); rw [List.map_nil, List.append_nil] at hs; have := hs.len; have hl : (logR l).length = l.steps.length + 2 := by simp [logR]
  rw [hl] at this; exact this
theorem rw_ok {N : Nat} {d : Dk} {a : Ac} {l : Lg} {L : List (List Pt)} (h : Holds N d a) (hN : N <= 40) (hok : LgOk l) (hage : l.age = a.lg.age + 1) (hcap : l.cap = a.c) (hr : Runs l.base l.steps L) (hlow : 0 <= l.first /\ l.first + l.steps.length <= (N + 1 : Nat)) :
    ((d.rw (oth a.file) (flat (logR l))).1 = 0 /\ Holds (N + 1) (d.rw (oth a.file) (flat (logR l))).2 ⟨l, false, L, a.c, oth a.file, false⟩ /\ ∃ lf', lf' <= d.lf /\ (d.rw (oth a.file) (flat (logR l))).2.lf = lf') ∨
    ((d.rw (oth a.file) (flat (logR l))).1 = 82 /\ d.lf ≠ 0 /\ After (N + 1) (d.rw (oth a.file) (flat (logR l))).2 a ⟨l, false, L, a.c, oth a.file, false⟩) := by
  have hb := oth_bit a.file; have hl6 : (flat (logR l)).length <= 1000000 := by
    have hll := log_len hok; have h9 := hlow.2; have h8 := hlow.1; clear hr hlow; have h7 : l.steps.length <= 41 := by omega
    clear h8 h9 hN h; exact Nat.le_trans hll (by omega)
  rcases rw_is (h.is (oth a.file)) hb h.l0 (flat (logR l)) with ⟨e1, lf', f1, f2, e2⟩ | ⟨e1, e0, z, hz, e2⟩
  · have hl1 := h.l1; exact .inl ⟨e1, h.newer e2 f1 (by omega) rfl rfl hok hage hcap hr hlow, lf', f2, e2.lf⟩
  · refine .inr ⟨e1, e0, e2.dn, ?_, fun k0 k1 => ?_⟩
    · refine dk_is e2 hb (Int.le_refl _) (by decide) ?_ (by rw [h.safe]; exact Nat.le_refl _) ?_ (h.long hN _)
      · rcases hz with rfl | rfl | rfl
        · rw [h.safe]; exact Nat.le_refl _
        · exact Nat.le_refl _
        · exact Nat.zero_le _
      · rcases hz with rfl | rfl | rfl
        · exact h.long hN _
        · exact Nat.zero_le 1000000
        · exact hl6
    · rcases h.fallen e2 hz hok hage hcap hr hlow k0 k1 with g | g
      · exact ⟨_, g, rfl, .inl ⟨rfl, rfl⟩⟩
      · exact ⟨_, g, rfl, .inr ⟨rfl, rfl⟩⟩
theorem commit_ok {N : Nat} {d : Dk} {a : Ac} {s : Stp} {p q : List Pt} (h : Holds N d a) (hN : N <= 40) (hs : StpOk s) (hp : a.pts[a.lg.steps.length]? = some p) (hm : MergeRes p s.add s.rem 0 q) :
    ((a.cmtD s d).1 = 0 /\ Holds (N + 1) (a.cmtD s d).2 (a.cmt s q)) ∨ ((a.cmtD s d).1 = 82 /\ d.lf ≠ 0 /\ After (N + 1) (a.cmtD s d).2 a (a.cmt s q)) := by
  have h2 := h.few; have h3 := h.young; have h4 := h.low; have hlen : (a.lgN s).steps.length = a.lg.steps.length + 1 := by simp [Ac.lgN]
  by_cases hf : a.frs = true
  · have hcm : a.cmt s q = ⟨a.lgN s, false, a.pts ++ [q], a.c, oth a.file, false⟩ := by
      unfold Ac.cmt; rw [if_pos hf]
    have hcd : a.cmtD s d = d.rw (oth a.file) (flat (logR (a.lgN s))) := if_pos hf; rw [hcm, hcd]
    rcases rw_ok h hN (LgOk.lgN h hN hs) (by simp [Ac.lgN, hf]) h.cap (h.runs.snoc hp hm) (by
      show 0 <= a.lg.first /\ a.lg.first + (a.lgN s).steps.length <= (N + 1 : Nat)
      omega) with ⟨e1, e2, _⟩ | ⟨e1, e2, e3⟩
    · exact .inl ⟨e1, e2⟩
    · exact .inr ⟨e1, e2, e3⟩
  · have hf : a.frs = false := by simpa using hf
    have hcd : a.cmtD s d = d.put a.file (Rcd.step s).enc := if_neg (by rw [hf]; decide); rw [hcd]; have hi : a.file = 0 ∨ a.file = 1 := by
      simp only [Ac.frs, Bool.or_eq_false_iff, decide_eq_false_iff_not] at hf; have := h.bit; omega
    have hsm := enc_small (r := .step s) hs (by simp [Rcd.kind])
    rcases put_is (h.is a.file) hi h.l0 (Rcd.step s).enc with ⟨e1, lf', f1, f2, e2⟩ | ⟨e1, e0, z, hz, e2⟩
    · have hl1 := h.l1; exact .inl ⟨e1, h.append hf hi e2 f1 (by omega) rfl rfl hs hN hp hm⟩
    · refine .inr ⟨e1, e0, e2.dn, ?_, fun k0 k1 => ?_⟩
      · refine dk_is e2 hi (Int.le_refl _) (by decide) ?_ (by rw [h.safe]; exact Nat.le_refl _) ?_ (h.long hN _)
        · rcases hz with rfl | rfl
          · rw [h.safe]; exact Nat.le_refl _
          · show (d.get a.file).s <= _; rw [h.safe, List.length_append]; omega
        · rcases hz with rfl | rfl
          · exact h.long hN _
          · show ((d.get a.file).b ++ (Rcd.step s).enc).length <= _; obtain ⟨R0, t0, R', t', q0, q1, q2, q3, q4⟩ := h.at hi; have := q0.len; rw [List.length_append]; omega
      · have hzs : z.s <= z.b.length := by
          rcases hz with rfl | rfl
          · rw [h.safe]; exact Nat.le_refl _
          · show (d.get a.file).s <= _; rw [h.safe, List.length_append]; omega
        obtain ⟨k, hk⟩ := crash_is e2 hi hzs (h.safe _) k0 k1; have hsafe := lost_again hzs k
        rcases hz with rfl | rfl
        · rw [lost_safe (h.safe _)] at hk; exact ⟨a, (h.same hi hk (Int.le_refl _) (by decide)).mono (by omega), rfl, .inl ⟨rfl, rfl⟩⟩
        · obtain ⟨m, hm'⟩ : ∃ m, m = min k.toNat (((d.get a.file).b ++ (Rcd.step s).enc).length - (d.get a.file).s) := ⟨_, rfl⟩; have hml : m <= (Rcd.step s).enc.length := by
            rw [hm', h.safe, List.length_append]; omega
          have hbm : ((⟨(d.get a.file).b ++ (Rcd.step s).enc, (d.get a.file).s⟩ : Fi).lost k).b = (d.get a.file).b ++ (Rcd.step s).enc.take m := by
            simp only [Fi.lost, <- hm']; rw [h.safe, List.take_append, List.take_of_length_le (by omega)]; congr 2; omega
          by_cases hfull : m = (Rcd.step s).enc.length
          · refine ⟨_, h.append hf hi hk (Int.le_refl _) (by decide) hsafe ?_ hs hN hp hm, rfl, .inr ⟨rfl, rfl⟩⟩; rw [hbm, hfull, List.take_length]
          · exact ⟨_, h.tornAt hf hi hk (Int.le_refl _) (by decide) hsafe (by omega) hbm hs, rfl, .inl ⟨rfl, rfl⟩⟩
def Ac.lgF (a : Ac) (n : Nat) (p : List Pt) : Lg := ⟨a.lg.age + 1, a.c, a.lg.first + n, p, a.lg.steps.drop n, false⟩
def Ac.fgt (a : Ac) (n : Nat) (p : List Pt) : Ac := ⟨a.lgF n p, false, a.pts.drop n, a.c, oth a.file, false⟩
def Ac.fgtD (a : Ac) (n : Nat) (p : List Pt) (d : Dk) : Int × Dk :=
  if (d.rw (oth a.file) (flat (logR (a.lgF n p)))).1 ≠ 0 then d.rw (oth a.file) (flat (logR (a.lgF n p))) else (d.rw (oth a.file) (flat (logR (a.lgF n p)))).2.op a.file Fi.clr
theorem Holds.file_of {N : Nat} {d : Dk} {a : Ac} (h : Holds N d a) (hs : a.lg.steps ≠ []) : a.file = 0 ∨ a.file = 1 := by
  obtain ⟨R, t, R', t', _, _, _, _, h5⟩ := h.files
  rcases h5 with ⟨a1, _, _, a2⟩ | ⟨a1, _⟩ | ⟨a1, _⟩
  · exact absurd a2.2.2.2.1 hs
  · exact .inl a1
  · exact .inr a1
theorem forget_ok {N : Nat} {d : Dk} {a : Ac} {n : Nat} {p : List Pt} (h : Holds N d a) (hN : N <= 38) (hn : 0 < n) (hp : a.pts[n]? = some p) :
    ((a.fgtD n p d).1 = 0 /\ Holds (N + 2) (a.fgtD n p d).2 (a.fgt n p)) ∨ ((a.fgtD n p d).1 = 82 /\ d.lf ≠ 0 /\ After (N + 2) (a.fgtD n p d).2 a (a.fgt n p)) := by
  have h2 := h.few; have h3 := h.young; have h4 := h.low; have hl := h.runs.len; have hnl : n <= a.lg.steps.length := by
    have := (List.getElem?_eq_some_iff.1 hp).1; omega
  have hi := h.file_of (fun e => by rw [e] at hnl; simp at hnl; omega); have hpk : PtsOk p := h.runs.ok h.ok.base h.ok.steps p (List.mem_of_getElem? hp); have hc1 := h.c1; have hc2 := h.c2; have hok : LgOk (a.lgF n p) := by
    refine ⟨?_, ?_, ?_, hpk, fun s hs => h.ok.steps s (List.mem_of_mem_drop hs)⟩
    · show NumOk (a.lg.age + 1); unfold NumOk; omega
    · show NumOk a.c; unfold NumOk; omega
    · show NumOk (a.lg.first + n); unfold NumOk; omega
  have hlen : (a.lgF n p).steps.length = a.lg.steps.length - n := by simp [Ac.lgF]
  have hrw := rw_ok h (by omega) hok rfl rfl (h.runs.drop hp) (by
    show 0 <= a.lg.first + n /\ a.lg.first + n + (a.lgF n p).steps.length <= (N + 1 : Nat)
    omega)
  unfold Ac.fgtD
  rcases hrw with ⟨e1, e2, lf', e3, e4⟩ | ⟨e1, e2, e3⟩
  · rw [if_neg (by rw [e1]; decide)]; generalize d.rw (oth a.file) (flat (logR (a.lgF n p))) = D at *; have hoo : oth (oth a.file) = a.file := oth_oth hi; have hl0 := e2.l0; have hl1 := e2.l1; have s1 := spL_facts hl0
    rcases op_is (e2.is a.file) hi hl0 Fi.clr with ⟨g1, g2, g3⟩ | ⟨g1, g2, g3⟩
    · refine .inr ⟨g2, by omega, g3.dn, ?_, fun k0 k1 => ?_⟩
      · exact dk_is g3 hi (Int.le_refl _) (by decide) (by rw [e2.safe]; exact Nat.le_refl _) (by rw [e2.safe]; exact Nat.le_refl _) (e2.long (by omega) _) (e2.long (by omega) _)
      · obtain ⟨k, hk⟩ := crash_is g3 hi (by rw [e2.safe]; exact Nat.le_refl _) (e2.safe _) k0 k1; rw [lost_safe (e2.safe _)] at hk; exact ⟨_, (e2.same hi hk (Int.le_refl _) (by decide)).mono (by omega), rfl, .inr ⟨rfl, rfl⟩⟩
    · refine .inl ⟨g2, ?_⟩; refine e2.other (z := ⟨[], 0⟩) (R := []) (t := []) (lf := spL D.2.lf) ?_ s1.1 (by omega) rfl Cont.nil rfl (by simp); show Dk.is _ false _ (oth (oth a.file)) _ (D.2.get (oth (oth (oth a.file)))); rw [hoo]; exact g3
  · rw [if_pos (by rw [e1]; decide)]; refine .inr ⟨e1, e2, e3.1, e3.2.1, fun k0 k1 => ?_⟩; obtain ⟨y, y1, y2, y3⟩ := e3.2.2 k0 k1; exact ⟨y, y1.mono (by omega), y2, y3⟩
end Go.Proofs.YtcclpdfmmdonpaaGreat
