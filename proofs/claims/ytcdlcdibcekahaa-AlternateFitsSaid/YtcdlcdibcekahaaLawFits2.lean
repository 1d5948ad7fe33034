/- AlternateFits: the walk joined with the plain law. -/
import Derived.Test.YtcdlcdibcekahaaLawFits
import Derived.Test.YtcdlcdibcekahaaLawFits0
import Derived.Test.YtcdlcdibcekahaaLawFits1
namespace Go.Proofs.Ytcdlcdibcekahaa
open Go.RowKit

theorem lawFits_walk (b : DS) (id at_ len : Int) (u : Bool) (w : World) :
    Calls Try.prog 4 #[b.v, .int .i64 id, .int .i64 at_, .int .i64 len, .bool u] w fun e w' => e = .returned (.bool true) ∧ Below w.heap.size w w' := by
  have k1 := fun w => desc_any b id at_ len u w
  rcases descE_cases b id at_ len u with ⟨hE, hok, iv, hiv, hV⟩ | ⟨hV, hE⟩
  · rw [hE, hV] at k1
    obtain ⟨p1, p2, p3, p4, p5⟩ := fits_plain hok hiv
    have e : iv.tdiv 2 = iv / 2 := Int.tdiv_eq_ediv_of_nonneg (by omega)
    exact fits_ok b (mkAlt b id at_ len u iv) w (iv / 2) _ e (by unfold wrap64; omega) k1 p1 p2 rfl p3 p4 rfl (fun h => p5 (by intro hc; rw [show (mkAlt b id at_ len u iv).intv = b.intv from hc] at h; simp at h))
  · rw [hV] at k1
    exact fits_no b zDS rfl id at_ len _ u w hE k1
end Go.Proofs.Ytcdlcdibcekahaa
