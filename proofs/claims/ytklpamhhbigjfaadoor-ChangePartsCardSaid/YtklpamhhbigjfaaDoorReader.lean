/- The package wire: the reader: NewReader, fail, take with the closure of Number, Number, Count, Text, End. -/
import Derived.Test.YtklpamhhbigjfaaDoorDecode
import Derived.Test.YtklpamhhbigjfaaDoorKit8
namespace Go.Proofs.YtklpamhhbigjfaaDoor
open Go.RowKit
set_option linter.unusedSimpArgs false
set_option linter.unusedVariables false

/-- a reader as it lies: the bytes that are left, the error -/
abbrev rdC (s : ByteArray) (e : Int) : Array Value := #[.string s, .int .i64 e]
/-- a reader behind Number -/
def numRest (s : ByteArray) : ByteArray := if decK s = 0 then ⟨#[]⟩ else s.extract (decK s) s.size
def numErr (s : ByteArray) : Int := if decK s = 0 then 11 else 0

section
variable {w0 w : World} {L1 L2 : List BK} {g : Nat} {s : ByteArray} {e : Int}

theorem fail_rd (k : Int) (hst : St w0 w (L1 ++ ⟨g, rdC s 0, 76⟩ :: L2)) :
    Calls Tryd.prog 60 #[.pointer (some ⟨g, 0, none⟩), .int .i64 k] w fun en w' => en = .returned (.tuple #[]) ∧ St w0 w' (L1 ++ ⟨g, rdC ⟨#[]⟩ k, 76⟩ :: L2) := by
  obtain ⟨hc, hf, hl⟩ := hst.cM
  dsimp only at hc hf hl
  go_enter Tryd.func60, Tryd.ntmps60
  go_wp2
  go_end0
  exact ⟨rfl, (hst.setM 1 _).setM 0 _⟩

theorem newReader_rd (hst : St w0 w L2) : Calls Tryd.prog 41 #[.string s] w fun en w' => ∃ g, en = .returned (.pointer (some ⟨g, 0, none⟩)) ∧ St w0 w' (⟨g, rdC s 0, 76⟩ :: L2) := by
  go_enter Tryd.func41, Tryd.ntmps41
  go_wp2
  go_ret
  exact ⟨_, rfl, hst.box _ _⟩

theorem numClos_rd (gn : Nat) (hs : s.size ≤ 140737488355328) (hst : St w0 w (⟨gn, #[.int .u64 0], 77⟩ :: L2)) :
    Calls Tryd.prog 72 #[.string s, .pointer (some ⟨gn, 0, none⟩)] w fun en w' => en = .returned (.int .i64 (decK s)) ∧ St w0 w' (⟨gn, #[.int .u64 (decN s)], 77⟩ :: L2) := by
  obtain ⟨hc, hf, hl⟩ := hst.c0
  go_enter Tryd.func72, Tryd.ntmps72
  go_wp2_with (go_at_call 73; refine (decode_any s _ hs).mono ?_; rintro e w' ⟨rfl, rfl⟩)
  go_ret
  exact ⟨rfl, hst.set0 0 _⟩

/-- the state of a reader behind Number -/
abbrev rdNum (s : ByteArray) (e : Int) : Array Value := if e = 0 then rdC (numRest s) (numErr s) else rdC s e

theorem takeNum_rd (gn : Nat) (hs : s.size ≤ 140737488355328) (hst : St w0 w (⟨gn, #[.int .u64 0], 77⟩ :: (L1 ++ ⟨g, rdC s 0, 76⟩ :: L2))) :
    Calls Tryd.prog 71 #[.pointer (some ⟨g, 0, none⟩), .func (.func 72) #[] #[.pointer (some ⟨gn, 0, none⟩)]] w fun en w' => en = .returned (.tuple #[]) ∧
      St w0 w' (⟨gn, #[.int .u64 (decN s)], 77⟩ :: (L1 ++ ⟨g, rdC (numRest s) (numErr s), 76⟩ :: L2)) := by
  obtain ⟨hc, hf, hl⟩ := St.cM (L1 := ⟨gn, #[.int .u64 0], 77⟩ :: L1) hst
  dsimp only at hc hf hl
  have hk := decK_le s
  obtain ⟨hk1, hk2⟩ := hk
  have HK := Lib.hid hk2
  clear hk2
  by_cases h0 : decK s = 0
  · have e1 : numRest s = ⟨#[]⟩ := by simp [numRest, h0]
    have e2 : numErr s = 11 := by simp [numErr, h0]
    rw [e1, e2]
    clear e1 e2
    go_enter Tryd.func71, Tryd.ntmps71
    go_wp2_with (first | (go_at_call 72; refine (numClos_rd gn hs hst).mono ?_; rintro e w' ⟨rfl, hst2⟩; obtain ⟨hc, hf, hl⟩ := St.cM (L1 := ⟨gn, #[.int .u64 (decN s)], 77⟩ :: L1) hst2; dsimp only at hc hf hl)  | (go_at_call 60; refine (fail_rd (L1 := ⟨gn, #[.int .u64 (decN s)], 77⟩ :: L1) 11 hst2).mono ?_; rintro e w' ⟨rfl, hst3⟩))
    exact bodyPost_ret (results_none rfl _ _ _) rfl ⟨rfl, hst3⟩
  · have e1 : numRest s = s.extract (decK s) s.size := by simp [numRest, h0]
    have e2 : numErr s = 0 := by simp [numErr, h0]
    rw [e1, e2]
    clear e1 e2
    go_enter Tryd.func71, Tryd.ntmps71
    go_wp2_with (first | (go_at_call 72; refine (numClos_rd gn hs hst).mono ?_; rintro e w' ⟨rfl, hst2⟩; obtain ⟨hc, hf, hl⟩ := St.cM (L1 := ⟨gn, #[.int .u64 (decN s)], 77⟩ :: L1) hst2; dsimp only at hc hf hl))
    go_end0
    exact ⟨rfl, St.setM (L1 := ⟨gn, #[.int .u64 (decN s)], 77⟩ :: L1) hst2 0 _⟩

theorem sub_own {gn : Nat} {cs : Array Value} {t : TypeId} {L : List BK} (h : St w0 w (⟨gn, cs, t⟩ :: L)) : St w0 w L := h.sub (List.sublist_cons_self _ _)

theorem number_rd (hs : s.size ≤ 140737488355328) (hst : St w0 w (L1 ++ ⟨g, rdC s e, 76⟩ :: L2)) :
    Calls Tryd.prog 59 #[.pointer (some ⟨g, 0, none⟩)] w fun en w' => en = .returned (.int .u64 (if e = 0 then decN s else 0 : Nat)) ∧ St w0 w' (L1 ++ ⟨g, rdNum s e, 76⟩ :: L2) := by
  by_cases he : e = 0
  · subst he
    go_enter Tryd.func59, Tryd.ntmps59
    go_wp2_with (first | (((with_reducible refine at_dst (N := 3) rfl ?_); refine wpList_box hst 77 #[.int .u64 0] rfl ?hr ?_; (case hr => first | (go_simp; done) | (go_simp; rfl)); clear hst; intro g1 w1 hst; obtain ⟨hc1, hf1, hl1⟩ := hst.c0))  | (go_at_call 71; refine (takeNum_rd g1 hs hst).mono ?_; rintro e w' ⟨rfl, hst2⟩; obtain ⟨hc1, hf1, hl1⟩ := hst2.c0))
    go_ret
    exact ⟨rfl, sub_own hst2⟩
  · have heb : (e != 0) = true := by simpa using he
    rw [if_neg he, show rdNum s e = rdC s e from if_neg he]
    clear he
    go_enter Tryd.func59, Tryd.ntmps59
    go_wp2_with (first | (((with_reducible refine at_dst (N := 3) rfl ?_); refine wpList_box hst 77 #[.int .u64 0] rfl ?hr ?_; (case hr => first | (go_simp; done) | (go_simp; rfl)); clear hst; intro g1 w1 hst; obtain ⟨hc1, hf1, hl1⟩ := hst.c0); obtain ⟨hc, hf, hl⟩ := St.cM (L1 := ⟨g1, #[.int .u64 0], 77⟩ :: L1) hst; dsimp only at hc hf hl) | go_in)
    go_ret
    exact ⟨rfl, sub_own hst⟩
end
end Go.Proofs.YtklpamhhbigjfaaDoor
