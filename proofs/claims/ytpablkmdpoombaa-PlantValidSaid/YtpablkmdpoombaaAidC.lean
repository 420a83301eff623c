/- Texts of the seat Yteanlcefdoigcaa, turned to this one by wip/port.py: Base Args LawKit LayX Reader. -/
import Derived.Test.YtpablkmdpoombaaFund
import Derived.Test.YtpablkmdpoombaaVal
import Derived.Test.YtpablkmdpoombaaPts
import Derived.Test.YtpablkmdpoombaaSrt
import Derived.Test.YtpablkmdpoombaaNum
import Derived.Test.YtpablkmdpoombaaCrc
import Derived.Test.YtpablkmdpoombaaEnc
import Derived.Test.YtpablkmdpoombaaRp
import Derived.Test.YtpablkmdpoombaaAidB
import Derived.WalkKit
import Derived.ProofKit
import Derived.Handy
import Derived.WalkSpells
import Derived.Deep.QuietTactic
import Derived.BigQuiet
import Derived.BigRegion
import Derived.Laws.CopyOwn
import Derived.Lib.SmallJoins
import Derived.Orders
import Derived.Laws.Tables
import Derived.Deep.MidRow
import Derived.OpenShut
import Derived.Deep.Slices
import GoSem.Claim
import GoSem.ClaimJoined
import Derived.SizedLaws
import Derived.Carry
/- LayX -/
namespace Go.Proofs.Ytpablkmdpoombaa
open Go.RowKit Go.Maps

end Go.Proofs.Ytpablkmdpoombaa
namespace Go.Proofs.Ytpablkmdpoombaa
open Go.RowKit Go.Maps

section
variable {W W' : World} {base t sz : Nat} {v : Value} {l : List (List Value)}
end
end Go.Proofs.Ytpablkmdpoombaa
namespace Go.Proofs.Ytpablkmdpoombaa
open Go.RowKit Go.Maps

end Go.Proofs.Ytpablkmdpoombaa
namespace Go.Proofs.Ytpablkmdpoombaa
open Go.RowKit Go.Maps

end Go.Proofs.Ytpablkmdpoombaa
namespace Go.Proofs.Ytpablkmdpoombaa
open Go.RowKit Go.Maps

end Go.Proofs.Ytpablkmdpoombaa
namespace Go.Proofs.Ytpablkmdpoombaa
open Go.RowKit Go.Maps Go.Sort

theorem OwnP.ptsV {W : World} {base : Nat} {v : Value} {l : List Pt} (h : OwnP W base v l) : PtsV W v l := by
  by_cases hl : l = []
  · obtain ⟨a, cap, hv⟩ := h.slice
    exact ⟨a, cap, hv, Or.inl hl⟩
  · have hp : 0 < l.length := List.length_pos_iff.2 hl
    obtain ⟨g, cap, cur, h1, hb, h2, h3, _⟩ := OwnR.rows h (by simpa using hp)
    rw [List.length_map] at h1
    exact ⟨_, cap, h1, Or.inr ⟨g, 0, rfl, (Array.getElem?_eq_some_iff.1 h2).1, h3⟩⟩
end Go.Proofs.Ytpablkmdpoombaa
namespace Go.Proofs.Ytpablkmdpoombaa
open Go.RowKit Go.Maps

end Go.Proofs.Ytpablkmdpoombaa

