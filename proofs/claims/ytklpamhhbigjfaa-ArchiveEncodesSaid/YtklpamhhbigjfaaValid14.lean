/- Chapter 14: Valid. -/
import Derived.Test.YtklpamhhbigjfaaDS
import Derived.Test.YtklpamhhbigjfaaPtrs14
import Derived.Test.YtklpamhhbigjfaaPairs14
import Derived.Test.YtklpamhhbigjfaaKit10
import Derived.Deep.MidRow
namespace Go.Proofs.Ytklpamhhbigjfaa
open Go.RowKit
set_option linter.unusedSimpArgs false
set_option linter.unusedVariables false

abbrev arcC (d : DS) (num : Int) (ao : Option Addr) (n cap : Nat) : Array Value := #[.int .i64 d.id, .int .i64 d.org, .int .i64 d.fmt, .int .i64 d.len, .int .i64 d.block, .int .i64 d.keyAt, .int .i64 d.keyLen, .int .i64 d.intv, .int .i64 d.area, .int .i64 d.freeI, .int .i64 d.freeA, .int .i64 d.base, .int .i64 d.altAt, .int .i64 d.altLen, .bool d.uniq, .int .i64 d.cls, .string d.vol, .string d.own, .int .i64 d.created, .int .i64 d.expires, .bool d.arch, .int .i64 num, .slice ao n cap]
abbrev zDS : DS := ⟨0, 0, 0, 0, 0, 0, 0, 0, 0, 0, 0, 0, 0, 0, false, 0, ⟨#[]⟩, ⟨#[]⟩, 0, 0, false⟩
def nums (d : DS) (num : Int) : List Int := [d.id, d.org, d.fmt, d.len, d.block, d.keyAt, d.keyLen, d.intv, d.area, d.freeI, d.freeA, d.base, d.altAt, d.altLen, d.cls, d.created, d.expires, num]
def numsBad (d : DS) (num : Int) : Bool := (nums d num).any fun n => !nOk n
def pvL (g1 g2 : Nat) (d : DS) (num : Int) : List PV := [(g2, 0, d.id), (g2, 1, d.org), (g2, 2, d.fmt), (g2, 3, d.len), (g2, 4, d.block), (g2, 5, d.keyAt), (g2, 6, d.keyLen), (g2, 7, d.intv), (g2, 8, d.area), (g2, 9, d.freeI), (g2, 10, d.freeA), (g2, 11, d.base), (g2, 12, d.altAt), (g2, 13, d.altLen), (g2, 15, d.cls), (g2, 18, d.created), (g2, 19, d.expires), (g1, 21, num)]
theorem bad_pvL (g1 g2 : Nat) (d : DS) (num : Int) : badN (pvL g1 g2 d num) = numsBad d num := rfl
theorem vals_pvL {w : World} {g1 g2 : Nat} {d : DS} {num : Int} {ao : Option Addr} {n cap : Nat} (h1 : ∀ i, w.cell? ⟨g1, i, none⟩ = (arcC d num ao n cap)[i]?) (h2 : ∀ i, w.cell? ⟨g2, i, none⟩ = d.cells[i]?) : ValsAt w (pvL g1 g2 d num) := by
  intro p hp
  simp only [pvL, List.mem_cons, List.not_mem_nil, or_false] at hp
  rcases hp with rfl | rfl | rfl | rfl | rfl | rfl | rfl | rfl | rfl | rfl | rfl | rfl | rfl | rfl | rfl | rfl | rfl | rfl <;> first | exact h2 _ | exact h1 _
def arcOk (d : DS) (num : Int) (l : List Pr) : Bool := !numsBad d num && decide (d.own.size ≤ 31 ∧ d.vol.size ≤ 31 ∧ l.length ≤ 1024) && !badP l
theorem arc_range {w : World} {g : Nat} {d : DS} {num : Int} {ao : Option Addr} {n cap : Nat} (h : ∀ i, w.cell? ⟨g, i, none⟩ = (arcC d num ao n cap)[i]?) : w.rangeAt g 0 d.cells.toList := by
  intro j v hj
  have e : arcC d num ao n cap = d.cells ++ #[.int .i64 num, .slice ao n cap] := rfl
  have hlt : j < d.cells.size := by
    have := (List.getElem?_eq_some_iff.1 hj).1
    simpa using this
  rw [Nat.zero_add, h, e, Array.getElem?_append_left hlt]
  simpa using hj
section
variable {P : Program} {ops : Array Oper} {rest : List Oper} {o : Oper} {a : Act} {Q : Exit → Act → World → Prop} {w : World}
theorem wpList_load_set {t : TypeId} {D : TypeDesc} {g : Nat} {d : DS} {num : Int} {ao : Option Addr} {n cap : Nat} (hc : ∀ i, w.cell? ⟨g, i, none⟩ = (arcC d num ao n cap)[i]?) (hgd : o.guard = none) (x : Operand) (ho : o.op = .load t x)
    (hx : a.eval x = .pointer (some ⟨g, 0, none⟩)) (hu : P.underlying t = some D) (hd : D.isRow = true) (hi : (P.info? t).map (·.size) = some 21) (h : wpList P ops Q rest (a.put o.dst (.agg d.cells)) w) : wpList P ops Q (o :: rest) a w :=
  wpList_load_mid hgd t x ho g 0 hx d.cells.toList D (arc_range hc) hu hd hi h
end
theorem row_ptrs {v : Value} {l : List PV} {w0 w : World} {L R : List BK} (h : RowIs 66 1 v l.length (l.map fun p => pt p.1 p.2.1) R) (hst : St w0 w (L ++ R)) (hl : 0 < l.length) : ∃ g cap, v = .slice (some ⟨g, 0, none⟩) l.length cap ∧ PtrsAt w g 0 l := by
  rcases h.2 with ⟨_, h2, _⟩ | ⟨g, cap, cs, hR, h1, h2, h3, h4, h5⟩
  · omega
  · subst hR
    refine ⟨g, cap, h1, fun j hj => ?_⟩
    have hc := (St.cM (L2 := []) hst).1 (0 + j)
    rw [hc, Nat.zero_add]
    have e : cs[j]? = (l.map fun p => pt p.1 p.2.1)[j]? := by
      rw [← h5, Nat.mul_one, List.getElem?_take_of_lt hj]
      simp
    simp only [e, List.getElem?_map, List.getElem?_eq_getElem hj, Option.map_some]

set_option maxHeartbeats 2000000 in
set_option maxRecDepth 100000 in
theorem valid14_any (d : DS) (num : Int) (l : List Pr) (ao : Option Addr) (cap : Nat) (w : World) (hl : l.length ≤ 140737488355328) (hc : Prs w ao l) (hs : ∀ c ∈ l, c.Sz) (ho : d.own.size ≤ 140737488355328) (hv : d.vol.size ≤ 140737488355328) :
    Calls Try.prog 20 #[.agg (arcC d num ao l.length cap)] w fun e w' => e = .returned (.bool (arcOk d num l)) ∧ Below w.heap.size w w' := by
  have hst := St.start w
  obtain ⟨n, hn⟩ : ∃ n, n = l.length := ⟨_, rfl⟩
  have k2 := fun w => containsP_any l ao cap w hl
  rw [← hn] at k2 ⊢
  have HC := Lib.hid hc
  have HS := Lib.hid hs
  clear hc hs
  have hbad : ∀ g1 g2, badN (pvL g1 g2 d num) = numsBad d num := fun g1 g2 => bad_pvL g1 g2 d num
  have hov : arcOk d num l = (!numsBad d num && decide (d.own.size ≤ 31 ∧ d.vol.size ≤ 31 ∧ n ≤ 1024) && !badP l) := by rw [arcOk, hn]
  rw [hov]
  obtain ⟨NB, hNB⟩ : ∃ x, x = numsBad d num := ⟨_, rfl⟩
  obtain ⟨PB, hPB⟩ : ∃ x, x = badP l := ⟨_, rfl⟩
  rw [← hNB, ← hPB]
  rw [← hNB] at hbad
  rw [← hPB] at k2
  have HB := Lib.hid hbad
  have K2 := Lib.hid k2
  have hn47 : n ≤ 140737488355328 := by omega
  clear hbad k2 hNB hPB hn hov
  cases NB with
  | true =>
    go_enter Try.func20, Try.ntmps20
    go_wp2_with (first | ((with_reducible refine at_dst (N := 1) rfl ?_); refine wpList_box hst 37 (arcC d num ao n cap) rfl ?hr ?_; (case hr => first | (go_simp; done) | (go_simp; rfl)); clear hst; intro g1 w1 hst; obtain ⟨hc1, hf1, hl1⟩ := hst.c0) | (((with_reducible refine at_dst (N := 3) rfl ?_); refine wpList_box hst 34 zDS.cells rfl ?hr ?_; (case hr => first | (go_simp; done) | (go_simp; rfl)); clear hst; intro g2 w2 hst; obtain ⟨hc2, hf2, hl2⟩ := hst.c0); clear hc1 hf1 hc2 hf2; obtain ⟨hc2, hf2, hl2⟩ := hst.c0; obtain ⟨hc1, hf1, hl1⟩ := hst.c1) | ((with_reducible refine at_store (p := 3) rfl ?_); refine wpList_put0 hst rfl _ _ rfl d.cells rfl rfl (by kernel_rfl) rfl (by simp [rangeV, Value.oneCell']) ?_; clear hst; intro wp hst; clear hc1 hf1 hc2 hf2; obtain ⟨hc2, hf2, hl2⟩ := hst.c0; obtain ⟨hc1, hf1, hl1⟩ := hst.c1) | ((with_reducible refine at_dst (N := 6) rfl ?_); refine wpList_load_set hc1 rfl (.tmp 5) rfl rfl Try.underlying34 rfl (by kernel_rfl) ?_)  | (go_at_call 36; refine (fields_any _ _).mono ?_; rintro e w' ⟨gf, rfl, hk⟩; replace hst := hst.call hk; clear hk; simp only [List.cons_append, List.nil_append] at hst; clear hc1 hf1 hl1 hc2 hf2 hl2; obtain ⟨hc2, hf2, hl2⟩ := hst.c1; obtain ⟨hc1, hf1, hl1⟩ := hst.c2)  | (((with_reducible refine at_dst (N := 12) rfl ?_); refine wpList_boxS hst 66 #[pt g2 15, pt g2 18, pt g2 19, pt g1 21] 4 4 rfl ?hr ?_; (case hr => first | (go_simp; done) | (go_simp; rfl)); clear hst; intro g4 w4 hst; obtain ⟨hc4, hf4, hl4⟩ := hst.c0); clear hc4 hf4 hl4 hc1 hf1 hl1 hc2 hf2 hl2)  | (at_builtin; refine wpList_append_row (E := 66) (size := 1) (v := .slice (some ⟨gf, 0, none⟩) 14 14) (n := 14) (xs := (ptrC g2).toList) (L := [⟨g4, #[pt g2 15, pt g2 18, pt g2 19, pt g1 21], 66⟩, ⟨g2, d.cells, 34⟩, ⟨g1, arcC d num ao n cap, 37⟩]) (R := [⟨gf, ptrC g2, 66⟩]) (hst.perm ((List.perm_append_singleton _ _).symm.cons _)) ⟨rfl, Or.inr ⟨gf, 14, ptrC g2, rfl, rfl, Nat.le_refl _, by unfold maxLen; omega, rfl, rfl⟩⟩ rfl (.tmp 7) (.tmp 12) 63 rfl (.pointer none) 8 (Try.underlying63) (by kernel_rfl) rfl (by decide) rfl ⟨g4, 0, none⟩ 4 4 [pt g2 15, pt g2 18, pt g2 19, pt g1 21] rfl rfl (news_own hst) (by simp [Value.oneCell']) (by unfold maxLen; omega) (by omega) ?_; clear hst; intro v' R' w5 hst HR; obtain ⟨g5, cap5, rfl, HP⟩ := row_ptrs (l := pvL g1 g2 d num) HR hst (by simp [pvL]); clear HR; have HPP := Lib.hid HP; clear HP; simp only [List.cons_append, List.nil_append] at hst; obtain ⟨hc2, hf2, hl2⟩ := hst.c1; obtain ⟨hc1, hf1, hl1⟩ := hst.c2)  | (go_at_call 37; refine (containsN_any (pvL g1 g2 d num) g5 cap5 _ (by simp [pvL]) HPP.out (vals_pvL hc1 hc2)).mono ?_; rw [HB.out]; rintro e w' ⟨rfl, hw⟩; subst hw)  | (go_at_call 40; refine (K2.out _ (HC.out.below hst.base) HS.out).mono ?_; rintro e w' ⟨rfl, hb⟩; replace hst := hst.below hb; clear hb))
    go_ret
    exact ⟨ret_bool rfl, hst.base⟩
  | false =>
    by_cases hz : d.own.size ≤ 31 ∧ d.vol.size ≤ 31 ∧ n ≤ 1024
    · rw [decide_eq_true hz]
      obtain ⟨z1, z2, z3⟩ := hz
      go_enter Try.func20, Try.ntmps20
      go_wp2_with (first | ((with_reducible refine at_dst (N := 1) rfl ?_); refine wpList_box hst 37 (arcC d num ao n cap) rfl ?hr ?_; (case hr => first | (go_simp; done) | (go_simp; rfl)); clear hst; intro g1 w1 hst; obtain ⟨hc1, hf1, hl1⟩ := hst.c0) | (((with_reducible refine at_dst (N := 3) rfl ?_); refine wpList_box hst 34 zDS.cells rfl ?hr ?_; (case hr => first | (go_simp; done) | (go_simp; rfl)); clear hst; intro g2 w2 hst; obtain ⟨hc2, hf2, hl2⟩ := hst.c0); clear hc1 hf1 hc2 hf2; obtain ⟨hc2, hf2, hl2⟩ := hst.c0; obtain ⟨hc1, hf1, hl1⟩ := hst.c1) | ((with_reducible refine at_store (p := 3) rfl ?_); refine wpList_put0 hst rfl _ _ rfl d.cells rfl rfl (by kernel_rfl) rfl (by simp [rangeV, Value.oneCell']) ?_; clear hst; intro wp hst; clear hc1 hf1 hc2 hf2; obtain ⟨hc2, hf2, hl2⟩ := hst.c0; obtain ⟨hc1, hf1, hl1⟩ := hst.c1) | ((with_reducible refine at_dst (N := 6) rfl ?_); refine wpList_load_set hc1 rfl (.tmp 5) rfl rfl Try.underlying34 rfl (by kernel_rfl) ?_)  | (go_at_call 36; refine (fields_any _ _).mono ?_; rintro e w' ⟨gf, rfl, hk⟩; replace hst := hst.call hk; clear hk; simp only [List.cons_append, List.nil_append] at hst; clear hc1 hf1 hl1 hc2 hf2 hl2; obtain ⟨hc2, hf2, hl2⟩ := hst.c1; obtain ⟨hc1, hf1, hl1⟩ := hst.c2)  | (((with_reducible refine at_dst (N := 12) rfl ?_); refine wpList_boxS hst 66 #[pt g2 15, pt g2 18, pt g2 19, pt g1 21] 4 4 rfl ?hr ?_; (case hr => first | (go_simp; done) | (go_simp; rfl)); clear hst; intro g4 w4 hst; obtain ⟨hc4, hf4, hl4⟩ := hst.c0); clear hc4 hf4 hl4 hc1 hf1 hl1 hc2 hf2 hl2)  | (at_builtin; refine wpList_append_row (E := 66) (size := 1) (v := .slice (some ⟨gf, 0, none⟩) 14 14) (n := 14) (xs := (ptrC g2).toList) (L := [⟨g4, #[pt g2 15, pt g2 18, pt g2 19, pt g1 21], 66⟩, ⟨g2, d.cells, 34⟩, ⟨g1, arcC d num ao n cap, 37⟩]) (R := [⟨gf, ptrC g2, 66⟩]) (hst.perm ((List.perm_append_singleton _ _).symm.cons _)) ⟨rfl, Or.inr ⟨gf, 14, ptrC g2, rfl, rfl, Nat.le_refl _, by unfold maxLen; omega, rfl, rfl⟩⟩ rfl (.tmp 7) (.tmp 12) 63 rfl (.pointer none) 8 (Try.underlying63) (by kernel_rfl) rfl (by decide) rfl ⟨g4, 0, none⟩ 4 4 [pt g2 15, pt g2 18, pt g2 19, pt g1 21] rfl rfl (news_own hst) (by simp [Value.oneCell']) (by unfold maxLen; omega) (by omega) ?_; clear hst; intro v' R' w5 hst HR; obtain ⟨g5, cap5, rfl, HP⟩ := row_ptrs (l := pvL g1 g2 d num) HR hst (by simp [pvL]); clear HR; have HPP := Lib.hid HP; clear HP; simp only [List.cons_append, List.nil_append] at hst; obtain ⟨hc2, hf2, hl2⟩ := hst.c1; obtain ⟨hc1, hf1, hl1⟩ := hst.c2)  | (go_at_call 37; refine (containsN_any (pvL g1 g2 d num) g5 cap5 _ (by simp [pvL]) HPP.out (vals_pvL hc1 hc2)).mono ?_; rw [HB.out]; rintro e w' ⟨rfl, hw⟩; subst hw)  | (go_at_call 40; refine (K2.out _ (HC.out.below hst.base) HS.out).mono ?_; rintro e w' ⟨rfl, hb⟩; replace hst := hst.below hb; clear hb))
      go_ret
      exact ⟨ret_bool (by simp), hst.base⟩
    · rw [decide_eq_false hz]
      go_enter Try.func20, Try.ntmps20
      go_wp2_with (first | ((with_reducible refine at_dst (N := 1) rfl ?_); refine wpList_box hst 37 (arcC d num ao n cap) rfl ?hr ?_; (case hr => first | (go_simp; done) | (go_simp; rfl)); clear hst; intro g1 w1 hst; obtain ⟨hc1, hf1, hl1⟩ := hst.c0) | (((with_reducible refine at_dst (N := 3) rfl ?_); refine wpList_box hst 34 zDS.cells rfl ?hr ?_; (case hr => first | (go_simp; done) | (go_simp; rfl)); clear hst; intro g2 w2 hst; obtain ⟨hc2, hf2, hl2⟩ := hst.c0); clear hc1 hf1 hc2 hf2; obtain ⟨hc2, hf2, hl2⟩ := hst.c0; obtain ⟨hc1, hf1, hl1⟩ := hst.c1) | ((with_reducible refine at_store (p := 3) rfl ?_); refine wpList_put0 hst rfl _ _ rfl d.cells rfl rfl (by kernel_rfl) rfl (by simp [rangeV, Value.oneCell']) ?_; clear hst; intro wp hst; clear hc1 hf1 hc2 hf2; obtain ⟨hc2, hf2, hl2⟩ := hst.c0; obtain ⟨hc1, hf1, hl1⟩ := hst.c1) | ((with_reducible refine at_dst (N := 6) rfl ?_); refine wpList_load_set hc1 rfl (.tmp 5) rfl rfl Try.underlying34 rfl (by kernel_rfl) ?_)  | (go_at_call 36; refine (fields_any _ _).mono ?_; rintro e w' ⟨gf, rfl, hk⟩; replace hst := hst.call hk; clear hk; simp only [List.cons_append, List.nil_append] at hst; clear hc1 hf1 hl1 hc2 hf2 hl2; obtain ⟨hc2, hf2, hl2⟩ := hst.c1; obtain ⟨hc1, hf1, hl1⟩ := hst.c2)  | (((with_reducible refine at_dst (N := 12) rfl ?_); refine wpList_boxS hst 66 #[pt g2 15, pt g2 18, pt g2 19, pt g1 21] 4 4 rfl ?hr ?_; (case hr => first | (go_simp; done) | (go_simp; rfl)); clear hst; intro g4 w4 hst; obtain ⟨hc4, hf4, hl4⟩ := hst.c0); clear hc4 hf4 hl4 hc1 hf1 hl1 hc2 hf2 hl2)  | (at_builtin; refine wpList_append_row (E := 66) (size := 1) (v := .slice (some ⟨gf, 0, none⟩) 14 14) (n := 14) (xs := (ptrC g2).toList) (L := [⟨g4, #[pt g2 15, pt g2 18, pt g2 19, pt g1 21], 66⟩, ⟨g2, d.cells, 34⟩, ⟨g1, arcC d num ao n cap, 37⟩]) (R := [⟨gf, ptrC g2, 66⟩]) (hst.perm ((List.perm_append_singleton _ _).symm.cons _)) ⟨rfl, Or.inr ⟨gf, 14, ptrC g2, rfl, rfl, Nat.le_refl _, by unfold maxLen; omega, rfl, rfl⟩⟩ rfl (.tmp 7) (.tmp 12) 63 rfl (.pointer none) 8 (Try.underlying63) (by kernel_rfl) rfl (by decide) rfl ⟨g4, 0, none⟩ 4 4 [pt g2 15, pt g2 18, pt g2 19, pt g1 21] rfl rfl (news_own hst) (by simp [Value.oneCell']) (by unfold maxLen; omega) (by omega) ?_; clear hst; intro v' R' w5 hst HR; obtain ⟨g5, cap5, rfl, HP⟩ := row_ptrs (l := pvL g1 g2 d num) HR hst (by simp [pvL]); clear HR; have HPP := Lib.hid HP; clear HP; simp only [List.cons_append, List.nil_append] at hst; obtain ⟨hc2, hf2, hl2⟩ := hst.c1; obtain ⟨hc1, hf1, hl1⟩ := hst.c2)  | (go_at_call 37; refine (containsN_any (pvL g1 g2 d num) g5 cap5 _ (by simp [pvL]) HPP.out (vals_pvL hc1 hc2)).mono ?_; rw [HB.out]; rintro e w' ⟨rfl, hw⟩; subst hw)  | (go_at_call 40; refine (K2.out _ (HC.out.below hst.base) HS.out).mono ?_; rintro e w' ⟨rfl, hb⟩; replace hst := hst.below hb; clear hb))
      all_goals (go_ret; exact ⟨ret_bool (by simp), hst.base⟩)
end Go.Proofs.Ytklpamhhbigjfaa
