/- Chapter 47: Of, of the program and of the reference; the reference: Ids but for Set. -/
import Derived.Test.YtklpamhhbigjfaaDoorIds47
import Derived.Deep.RegionHeld3
namespace Go.Proofs.YtklpamhhbigjfaaDoor
open Go.RowKit
set_option linter.unusedSimpArgs false
set_option linter.unusedVariables false

/-- the numbered changes of a data set -/
def ofS (num id : Int) (l : List Chg) : List (Int × Chg) := (l.zipIdx.filter fun p => decide (p.1.id = id)).map fun p => (num + (p.2 : Int), p.1)
theorem ofS_snoc (num id : Int) (l : List Chg) (c : Chg) : ofS num id (l ++ [c]) = ofS num id l ++ (if c.id = id then [(num + (l.length : Int), c)] else []) := by
  simp only [ofS, List.zipIdx_append, List.zipIdx_cons, List.zipIdx_nil, List.filter_append, List.map_append, Nat.zero_add]
  by_cases h : c.id = id <;> simp [h]
def nC (p : Int × Chg) : List Value := [.int .i64 p.1, .int .i64 p.2.kind, .int .i64 p.2.id, .string p.2.key, .string p.2.rcd, .string p.2.vol]
def OwnNum (ps : List (Int × Chg)) (w : World) (e : Ending) (w' : World) : Prop := ∃ v R, e = .returned v ∧ St w w' R ∧ RowIs 56 6 v ps.length (ps.flatMap nC) R
theorem ofS_len (num id : Int) (l : List Chg) : (ofS num id l).length ≤ l.length := by
  rw [ofS, List.length_map]
  exact Nat.le_trans (List.length_filter_le _ _) (by simp)

set_option maxHeartbeats 2000000 in
set_option maxRecDepth 100000 in
theorem of47_any (num unit id : Int) (l : List Chg) (ao : Option Addr) (cap : Nat) (w : World) (hn0 : 0 ≤ num) (hn1 : num ≤ 1099511627776) (hl : l.length ≤ 1000) (hc : Chgs w ao l) :
    Calls Tryd.prog 32 #[.agg (recC num unit ao l.length cap), .int .i64 id] w (OwnNum (ofS num id l) w) := by
  have hst := St.start w
  obtain ⟨n, hn⟩ : ∃ n, n = l.length := ⟨_, rfl⟩
  rw [← hn] at hl ⊢
  have HC := Lib.hid hc
  have HN := Lib.hid hn
  clear hc hn
  go_enter Tryd.func32, Tryd.ntmps32
  go_wp2_with (first | ((with_reducible refine at_dst (N := 2) rfl ?_); refine wpList_box hst 29 (recC num unit ao n cap) rfl ?hr ?_; (case hr => first | (go_simp; done) | (go_simp; rfl)); clear hst; intro g1 w1 hst; obtain ⟨hc1, hf1, hl1⟩ := hst.c0))
  go_loopw [5, 11] (fun t5 t11 wr => ∃ (k m : Nat) (R : List BK), t11 = .int .i64 k ∧ k ≤ n ∧ m ≤ k ∧ Hid (m = (ofS num id (l.take k)).length) ∧ Hid (RowIs 56 6 t5 m ((ofS num id (l.take k)).flatMap nC) R) ∧ St w wr (⟨g1, recC num unit ao n cap, 29⟩ :: R)) (fun _ t11 _ => n - (intOf t11).toNat)
  case atStart => exact ⟨0, 0, [], rfl, Nat.zero_le _, Nat.le_refl _, rfl, RowIs.nil _ _, hst⟩
  case round =>
    clear hst hc1 hf1 hl1
    obtain ⟨k, m, R, rfl, hk, hmk, HM, HR, hst⟩ := hrel
    obtain ⟨hc1, hf1, hl1⟩ := hst.c0
    by_cases hlt : k < n
    · have hkl : k < l.length := by rw [← HN.out]; exact hlt
      obtain ⟨c, hcc⟩ : ∃ c, c = l[k] := ⟨_, rfl⟩
      obtain ⟨b, off, rfl, hb, hat⟩ : ∃ b off, ao = some ⟨b, off, none⟩ ∧ b < w.heap.size ∧ ChgsAt w b off l := by
        rcases HC.out with h | h
        · rw [h] at hkl; simp at hkl
        · exact h
      obtain ⟨c0, c1, c2, c3, c4⟩ := (hat.below hb hst.base).get hkl hcc
      have htk : l.take (k + 1) = l.take k ++ [c] := by rw [List.take_succ_eq_append_getElem hkl, hcc]
      have hlk : (l.take k).length = k := by rw [List.length_take]; omega
      have HTK := Lib.hid htk
      have HLK := Lib.hid hlk
      clear hcc hat htk hlk
      have hwr : IntKind.i64.wrap (num + (k : Int)) = num + (k : Int) := IntWalk.i64_in _ (by omega)
      by_cases hid : c.id = id
      · have e1 : (c.id == id) = true := by simp [hid]
        have HID := Lib.hid hid
        clear hid
        go_wp2_with (first | (((with_reducible refine at_dst (N := 7) rfl ?_); refine wpList_box hst 23 #[.int .i64 0, .int .i64 0, .string ⟨#[]⟩, .string ⟨#[]⟩, .string ⟨#[]⟩] rfl ?hr ?_; (case hr => first | (go_simp; done) | (go_simp; rfl)); clear hst; intro g5 w5 hst; obtain ⟨hc5, hf5, hl5⟩ := hst.c0); clear hc1 hf1 hc5 hf5; obtain ⟨hc5, hf5, hl5⟩ := hst.c0; obtain ⟨hc1, hf1, hl1⟩ := hst.c1) | ((with_reducible refine at_store (p := 7) rfl ?_); refine wpList_put0 hst rfl _ _ rfl c.cells rfl rfl (by kernel_rfl) rfl (by simp [rangeV, Value.oneCell']) ?_; clear hst; intro wp hst; clear hc1 hf1 hc5 hf5; obtain ⟨hc5, hf5, hl5⟩ := hst.c0; obtain ⟨hc1, hf1, hl1⟩ := hst.c1) | ((with_reducible refine at_dst (N := 25) rfl ?_); (refine wpList_load_own hst ⟨g5, c.cells, 23⟩ (by simp) rfl _ rfl rfl _ rfl Tryd.underlying23 (by kernel_rfl) ?_))  | (((with_reducible refine at_dst (N := 27) rfl ?_); refine wpList_boxS hst 56 #[.int .i64 (num + k), .int .i64 c.kind, .int .i64 c.id, .string c.key, .string c.rcd, .string c.vol] 1 1 rfl ?hr ?_; (case hr => first | (go_simp; done) | (go_simp; rfl)); clear hst; intro g6 w6 hst; obtain ⟨hc6, hf6, hl6⟩ := hst.c0); clear hc5 hf5 hl5 hc1 hf1 hl1)  | ((with_reducible refine at_dst (N := 28) rfl ?_); refine wpList_append_row (L := [⟨g6, #[.int .i64 (num + k), .int .i64 c.kind, .int .i64 c.id, .string c.key, .string c.rcd, .string c.vol], 56⟩, ⟨g5, c.cells, 23⟩, ⟨g1, recC num unit (some ⟨b, off, none⟩) n cap, 29⟩]) hst HR.out rfl (.tmp 20) (.tmp 27) 53 rfl (.agg #[.int .i64 0, .int .i64 0, .int .i64 0, .string ⟨#[]⟩, .string ⟨#[]⟩, .string ⟨#[]⟩]) 72 (Tryd.underlying53) (by kernel_rfl) rfl (by decide) rfl ⟨g6, 0, none⟩ 1 1 [.int .i64 (num + k), .int .i64 c.kind, .int .i64 c.id, .string c.key, .string c.rcd, .string c.vol] rfl rfl (news_own hst) (by simp [Value.oneCell']) (by unfold maxLen; omega) (by omega) ?_; clear hst hc6 hf6 hl6 c0 c1 c2 c3 c4; intro v' R' w' hst HR3))
        go_roundw
        case measure => simp [intOf]; omega
        case rel =>
          have e := ofS_snoc num id (l.take k) c
          rw [if_pos HID.out, HLK.out, ← HTK.out] at e
          refine ⟨k + 1, m + 1, R', by go_num, by omega, by omega, ?_, ?_, hst.sub (((List.Sublist.refl _).cons _).cons _)⟩
          · show _ = _
            rw [e, List.length_append, ← HM.out]; rfl
          · show RowIs _ _ _ _ _ _
            rw [e, List.flatMap_append]
            exact HR3
      · have e1 : (c.id == id) = false := by simp [hid]
        have HID := Lib.hid hid
        clear hid
        go_wp2_with (first | (((with_reducible refine at_dst (N := 7) rfl ?_); refine wpList_box hst 23 #[.int .i64 0, .int .i64 0, .string ⟨#[]⟩, .string ⟨#[]⟩, .string ⟨#[]⟩] rfl ?hr ?_; (case hr => first | (go_simp; done) | (go_simp; rfl)); clear hst; intro g5 w5 hst; obtain ⟨hc5, hf5, hl5⟩ := hst.c0); clear hc1 hf1 hc5 hf5; obtain ⟨hc5, hf5, hl5⟩ := hst.c0; obtain ⟨hc1, hf1, hl1⟩ := hst.c1) | ((with_reducible refine at_store (p := 7) rfl ?_); refine wpList_put0 hst rfl _ _ rfl c.cells rfl rfl (by kernel_rfl) rfl (by simp [rangeV, Value.oneCell']) ?_; clear hst; intro wp hst; clear hc1 hf1 hc5 hf5; obtain ⟨hc5, hf5, hl5⟩ := hst.c0; obtain ⟨hc1, hf1, hl1⟩ := hst.c1))
        go_roundw
        case measure => simp [intOf]; omega
        case rel =>
          have e := ofS_snoc num id (l.take k) c
          rw [if_neg HID.out, List.append_nil, ← HTK.out] at e
          exact ⟨k + 1, m, R, by go_num, by omega, by omega, by rw [e]; exact HM, by rw [e]; exact HR, hst.sub (List.sublist_cons_self _ _)⟩
    · have hkn : k = n := by omega
      have hr := HR.out
      have hm := HM.out
      rw [List.take_of_length_le (by have := HN.out; omega)] at hr hm
      subst hm
      have HR3 := Lib.hid hr
      clear hr HR HM
      go_wp2
      go_ret
      exact ⟨_, R, rfl, hst.sub (List.sublist_cons_self _ _), HR3.out⟩

set_option maxHeartbeats 2000000 in
set_option maxRecDepth 100000 in
theorem ofR_any (num unit id : Int) (l : List Chg) (ao : Option Addr) (cap : Nat) (w : World) (hn0 : 0 ≤ num) (hn1 : num ≤ 1099511627776) (hl : l.length ≤ 1000) (hc : Chgs w ao l) :
    Calls Tryd.prog 33 #[.agg (recC num unit ao l.length cap), .int .i64 id] w (OwnNum (ofS num id l) w) := by
  have hst := St.start w
  obtain ⟨n, hn⟩ : ∃ n, n = l.length := ⟨_, rfl⟩
  rw [← hn] at hl ⊢
  have HC := Lib.hid hc
  have HN := Lib.hid hn
  clear hc hn
  go_enter Tryd.func33, Tryd.ntmps33
  go_wp2_with (first | ((with_reducible refine at_dst (N := 2) rfl ?_); refine wpList_box hst 29 (recC num unit ao n cap) rfl ?hr ?_; (case hr => first | (go_simp; done) | (go_simp; rfl)); clear hst; intro g1 w1 hst; obtain ⟨hc1, hf1, hl1⟩ := hst.c0) | (((with_reducible refine at_dst (N := 7) rfl ?_); refine wpList_boxS hst 56 #[] 0 0 rfl ?hr ?_; (case hr => first | (go_simp; done) | (go_simp; rfl)); clear hst; intro g5 w5 hst; obtain ⟨hc5, hf5, hl5⟩ := hst.c0); clear hc5 hf5 hl5 hc1 hf1 hl1))
  replace hst := hst.perm (List.Perm.swap _ _ _)
  go_loopw [5, 6] (fun t5 t6 wr => ∃ (k m : Nat) (R : List BK), t6 = .int .i64 k ∧ k ≤ n ∧ m ≤ k ∧ Hid (m = (ofS num id (l.take k)).length) ∧ Hid (RowIs 56 6 t5 m ((ofS num id (l.take k)).flatMap nC) R) ∧ St w wr (⟨g1, recC num unit ao n cap, 29⟩ :: R)) (fun _ t6 _ => n - (intOf t6).toNat)
  case atStart => exact ⟨0, 0, [⟨g5, #[], 56⟩], rfl, Nat.zero_le _, Nat.le_refl _, rfl, ⟨rfl, Or.inr ⟨g5, 0, #[], rfl, rfl, Nat.le_refl _, by unfold maxLen; omega, rfl, rfl⟩⟩, hst⟩
  case round =>
    clear hst
    obtain ⟨k, m, R, rfl, hk, hmk, HM, HR, hst⟩ := hrel
    obtain ⟨hc1, hf1, hl1⟩ := hst.c0
    by_cases hlt : k < n
    · have hkl : k < l.length := by rw [← HN.out]; exact hlt
      obtain ⟨c, hcc⟩ : ∃ c, c = l[k] := ⟨_, rfl⟩
      obtain ⟨b, off, rfl, hb, hat⟩ : ∃ b off, ao = some ⟨b, off, none⟩ ∧ b < w.heap.size ∧ ChgsAt w b off l := by
        rcases HC.out with h | h
        · rw [h] at hkl; simp at hkl
        · exact h
      have mk : ∀ (w' : World) (L1 L2 : List BK), St w w' (L1 ++ ⟨g1, recC num unit (some ⟨b, off, none⟩) n cap, 29⟩ :: L2) → w'.cell? ⟨g1, 0, none⟩ = some (.int .i64 num) ∧ w'.cell? ⟨g1, 2, none⟩ = some (.slice (some ⟨b, off, none⟩) n cap) ∧ w'.cell? ⟨b, off + k * 5, none⟩ = some (.int .i64 c.kind) ∧ w'.cell? ⟨b, off + k * 5 + 1, none⟩ = some (.int .i64 c.id) ∧ w'.cell? ⟨b, off + k * 5 + 2, none⟩ = some (.string c.key) ∧ w'.cell? ⟨b, off + k * 5 + 3, none⟩ = some (.string c.rcd) ∧ w'.cell? ⟨b, off + k * 5 + 4, none⟩ = some (.string c.vol) :=
        fun w' L1 L2 h => ⟨h.cM.1 0, h.cM.1 2, (hat.below hb h.base).get hkl hcc⟩
      obtain ⟨c0, c1, c2, c3, c4⟩ := (hat.below hb hst.base).get hkl hcc
      have htk : l.take (k + 1) = l.take k ++ [c] := by rw [List.take_succ_eq_append_getElem hkl, hcc]
      have hlk : (l.take k).length = k := by rw [List.length_take]; omega
      have HTK := Lib.hid htk
      have HLK := Lib.hid hlk
      have MK := Lib.hid mk
      clear hcc hat htk hlk mk
      have hwr : IntKind.i64.wrap (num + (k : Int)) = num + (k : Int) := IntWalk.i64_in _ (by omega)
      by_cases hid : c.id = id
      · have e1 : (c.id == id) = true := by simp [hid]
        have HID := Lib.hid hid
        clear hid
        go_wp2
        clear c0 c1 c2 c3 c4 hc1 hf1 hl1
        go_region_held3 (fun w' => w'.cell? ⟨g1, 0, none⟩ = some (.int .i64 num) ∧ w'.cell? ⟨g1, 2, none⟩ = some (.slice (some ⟨b, off, none⟩) n cap) ∧ w'.cell? ⟨b, off + k * 5, none⟩ = some (.int .i64 c.kind) ∧ w'.cell? ⟨b, off + k * 5 + 1, none⟩ = some (.int .i64 c.id) ∧ w'.cell? ⟨b, off + k * 5 + 2, none⟩ = some (.string c.key) ∧ w'.cell? ⟨b, off + k * 5 + 3, none⟩ = some (.string c.rcd) ∧ w'.cell? ⟨b, off + k * 5 + 4, none⟩ = some (.string c.vol))
          (first | exact MK.out _ [] _ hst.drew | exact MK.out _ [_] _ (hst.drew.box _ _) | exact MK.out _ [_] _ hst2)
          (first
            | (refine step_append_row (L := [⟨wr.heap.size, #[.int .i64 (num + k), .int .i64 c.kind, .int .i64 c.id, .string c.key, .string c.rcd, .string c.vol], 56⟩, ⟨g1, recC num unit (some ⟨b, off, none⟩) n cap, 29⟩]) (hst.drew.box _ _) HR.out (by rfl) (.tmp 23) (.tmp 34) 53 (by rfl) (.agg #[.int .i64 0, .int .i64 0, .int .i64 0, .string ⟨#[]⟩, .string ⟨#[]⟩, .string ⟨#[]⟩]) 72 (Tryd.underlying53) (by kernel_rfl) rfl (by decide) (by rfl) ⟨wr.heap.size, 0, none⟩ 1 1 [.int .i64 (num + k), .int .i64 c.kind, .int .i64 c.id, .string c.key, .string c.rcd, .string c.vol] (by rfl) rfl (news_own (hst.drew.box _ _)) (by simp [Value.oneCell']) (by unfold maxLen; omega) (by omega) ?_; intro v' R' w' hst2 HR3))
        all_goals
          clear hwr
          go_wp2
          go_roundw
          case measure => simp [intOf]; omega
          case rel =>
            have e := ofS_snoc num id (l.take k) c
            rw [if_pos HID.out, HLK.out, ← HTK.out] at e
            refine ⟨k + 1, m + 1, R', by go_num, by omega, by omega, ?_, ?_, hst2.sub ((List.Sublist.refl _).cons _)⟩
            · show _ = _
              rw [e, List.length_append, ← HM.out]; rfl
            · show RowIs _ _ _ _ _ _
              rw [e, List.flatMap_append]
              exact HR3
      · have e1 : (c.id == id) = false := by simp [hid]
        have HID := Lib.hid hid
        clear hid
        go_wp2
        go_roundw
        case measure => simp [intOf]; omega
        case rel =>
          have e := ofS_snoc num id (l.take k) c
          rw [if_neg HID.out, List.append_nil, ← HTK.out] at e
          exact ⟨k + 1, m, R, by go_num, by omega, by omega, by rw [e]; exact HM, by rw [e]; exact HR, hst⟩
    · have hkn : k = n := by omega
      have hr := HR.out
      have hm := HM.out
      rw [List.take_of_length_le (by have := HN.out; omega)] at hr hm
      subst hm
      have HR3 := Lib.hid hr
      clear hr HR HM
      go_wp2
      go_ret
      exact ⟨_, R, rfl, hst.sub (List.sublist_cons_self _ _), HR3.out⟩
end Go.Proofs.YtklpamhhbigjfaaDoor
