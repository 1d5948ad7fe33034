/- The package change: the closures that show a change. -/
import Derived.Test.YtklpamhhbigjfaaDoorItoa47
import Derived.Test.YtklpamhhbigjfaaDoorHex47
import Derived.Test.YtklpamhhbigjfaaDoorRec47
namespace Go.Proofs.YtklpamhhbigjfaaDoor
open Go.RowKit
set_option linter.unusedSimpArgs false
set_option linter.unusedVariables false

def hexS (s : ByteArray) : ByteArray := bs (hexL s.data.toList)
theorem hexS_size (s : ByteArray) : (hexS s).size = 2 * s.size := by rw [hexS, bs_size, hexL_len]; simp
theorem hexadecimal_S (s : ByteArray) (w : World) (hs : s.size ≤ 1000000) : Calls Tryd.prog 56 #[.string s] w fun e w' => e = .returned (.string (hexS s)) ∧ Below w.heap.size w w' := hexadecimal_any s w hs
def spS : ByteArray := ⟨#[32]⟩
/-- what the function of a kind shows -/
def shS (k : Int) (c : Chg) : ByteArray := if k = 0 then hexS c.key ++ spS ++ decS c.rcd.size else if k = 1 then hexS c.key else if k = 2 then decS c.rcd.size else c.vol

theorem clos1_any (c : Chg) (w : World) (h : NumOk w c.rcd.size) : Calls Tryd.prog 53 #[c.v] w fun e w' => e = .returned (.string (decS c.rcd.size)) ∧ Below w.heap.size w w' := by
  have hst := St.start w
  have H := Lib.hid h
  clear h
  go_enter Tryd.func53, Tryd.ntmps53
  go_wp2_with (first | ((with_reducible refine at_dst (N := 1) rfl ?_); refine wpList_box hst 23 c.cells rfl ?hr ?_; (case hr => first | (go_simp; done) | (go_simp; rfl)); clear hst; intro g1 w1 hst; obtain ⟨hc1, hf1, hl1⟩ := hst.c0) | (go_at_call 38; refine (itoa_any _ _ (H.out.below hst.base)).mono ?_; rintro e w' ⟨rfl, hb⟩; rw [Int.toNat_natCast]; replace hst := hst.below hb))
  go_ret
  exact ⟨rfl, hst.base⟩
theorem clos2_any (c : Chg) (w : World) : Calls Tryd.prog 54 #[c.v] w fun e w' => e = .returned (.string c.vol) ∧ Below w.heap.size w w' := by
  have hst := St.start w
  go_enter Tryd.func54, Tryd.ntmps54
  go_wp2_with (first | ((with_reducible refine at_dst (N := 1) rfl ?_); refine wpList_box hst 23 c.cells rfl ?hr ?_; (case hr => first | (go_simp; done) | (go_simp; rfl)); clear hst; intro g1 w1 hst; obtain ⟨hc1, hf1, hl1⟩ := hst.c0))
  go_ret
  exact ⟨rfl, hst.base⟩
theorem clos4_any (c : Chg) (w : World) (hs : c.key.size ≤ 1000000) : Calls Tryd.prog 57 #[c.v] w fun e w' => e = .returned (.string (hexS c.key)) ∧ Below w.heap.size w w' := by
  have hst := St.start w
  go_enter Tryd.func57, Tryd.ntmps57
  go_wp2_with (first | ((with_reducible refine at_dst (N := 1) rfl ?_); refine wpList_box hst 23 c.cells rfl ?hr ?_; (case hr => first | (go_simp; done) | (go_simp; rfl)); clear hst; intro g1 w1 hst; obtain ⟨hc1, hf1, hl1⟩ := hst.c0) | (go_at_call 56; refine (hexadecimal_S _ _ hs).mono ?_; rintro e w' ⟨rfl, hb⟩; replace hst := hst.below hb))
  go_ret
  exact ⟨rfl, hst.base⟩
set_option maxHeartbeats 1000000 in
theorem clos3_any (c : Chg) (g : Nat) (w : World) (hs : c.key.size ≤ 1000000) (h : NumOk w c.rcd.size) (hg : w.cell? ⟨g, 0, none⟩ = some (funV 53)) :
    Calls Tryd.prog 55 #[c.v, .pointer (some ⟨g, 0, none⟩)] w fun e w' => e = .returned (.string (hexS c.key ++ spS ++ decS c.rcd.size)) ∧ Below w.heap.size w w' := by
  have hst := St.start w
  have H := Lib.hid h
  have z1 := hexS_size c.key
  have z2 := decS_small (n := c.rcd.size) (by have := h.2.1; omega)
  have hlt : g < w.heap.size := World.block_lt_of_cell? _ _ hg
  clear h
  go_enter Tryd.func55, Tryd.ntmps55
  go_wp2_with (first | ((with_reducible refine at_dst (N := 2) rfl ?_); refine wpList_box hst 23 c.cells rfl ?hr ?_; (case hr => first | (go_simp; done) | (go_simp; rfl)); clear hst; intro g1 w1 hst; obtain ⟨hc1, hf1, hl1⟩ := hst.c0))
  obtain ⟨hne, hq1⟩ := hst.facts1; dsimp only at hq1
  have hqg : ∀ (u : SW w [⟨g1, c.cells, 23⟩]), u.val.cell? ⟨g, 0, none⟩ = some (funV 53) := fun u => (u.property.base.cell (p := ⟨g, 0, none⟩) hlt).trans hg
  unfold funV at hqg
  (refine wp_region_st hst (by kernel_rfl) (by kernel_rfl) ?_; (repeat (first | go_big_quiet_skip | (go_big_quiet_want; first | ((refine quiet_load_st ⟨g1, c.cells, 23⟩ (by simp) _ rfl rfl rfl Tryd.underlying23 (by kernel_rfl) ?_); (simp only [Act.put, List.setIfInBounds_toArray, List.set_cons_zero, List.set_cons_succ]); go_big_quiet_on) | (go_big_quiet_op; first | go_big_quiet_on | go_big_quiet_call ((first | (go_at_call 56; exact calls_st _ (hexadecimal_S _ _ hs)) | (go_at_call 53; exact calls_st _ (clos1_any c _ (H.out.below (SW.property _).base))))))))); refine wpQuiet_nil ?_; clear hst; rintro _ ⟨⟨wq, hst⟩, rfl⟩; try dsimp only)
  go_wp2
  go_ret
  exact ⟨rfl, hst.base⟩
end Go.Proofs.YtklpamhhbigjfaaDoor
