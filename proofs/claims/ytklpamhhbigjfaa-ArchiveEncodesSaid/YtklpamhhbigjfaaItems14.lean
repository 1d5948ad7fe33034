/- Chapter 14: items. -/
import Derived.Test.YtklpamhhbigjfaaPut14
import Derived.Deep.DeepCutAuto
import Derived.Deep.RegionHeld3
namespace Go.Proofs.Ytklpamhhbigjfaa
open Go.RowKit
set_option linter.unusedSimpArgs false
set_option linter.unusedVariables false

def numL (s : ByteArray) (l : List Int) : ByteArray := l.foldl (fun s v => s ++ numS v.toNat) s
/-- the first item -/
def firstS (d : DS) (num : Int) (n : Nat) : ByteArray :=
  numL (numL (numL (numL ⟨#[]⟩ [d.id, d.org, d.fmt, d.len, d.block, d.keyAt, d.keyLen, d.intv, d.area, d.freeI, d.freeA, d.base, d.altAt, d.altLen] ++ boolS d.uniq) [d.cls] ++ txtS d.vol ++ txtS d.own) [d.created, d.expires] ++ boolS d.arch) [num, n]
def pairS (c : Pr) : ByteArray := txtS c.key ++ txtS c.rcd
def itemsL (d : DS) (num : Int) (l : List Pr) : List ByteArray := firstS d num l.length :: l.map pairS
theorem putS_nums (s : ByteArray) (l : List PV) : putS s l = numL s (l.map fun p => p.2.2) := by
  unfold putS numL
  rw [List.foldl_map]
abbrev p14 (g : Nat) (d : DS) : List PV := [(g, 0, d.id), (g, 1, d.org), (g, 2, d.fmt), (g, 3, d.len), (g, 4, d.block), (g, 5, d.keyAt), (g, 6, d.keyLen), (g, 7, d.intv), (g, 8, d.area), (g, 9, d.freeI), (g, 10, d.freeA), (g, 11, d.base), (g, 12, d.altAt), (g, 13, d.altLen)]


theorem ptrs_of {w : World} {g : Nat} {C : Array Value} (l : List PV) (hC : C = (l.map fun p => pt p.1 p.2.1).toArray) (h : ∀ i, w.cell? ⟨g, i, none⟩ = C[i]?) : PtrsAt w g 0 l := by
  intro j hj
  rw [Nat.zero_add, h, hC]
  simp [hj]
theorem hP1 {w0 : World} {gf g3 g2 : Nat} {d : DS} {L2 : List BK} : ∀ (s' : ByteArray) w', St w0 w' ([⟨gf, ptrC g3, 66⟩, ⟨g3, d.cells, 34⟩] ++ ⟨g2, #[.string s'], 9⟩ :: L2) → PtrsAt w' gf 0 (p14 g3 d) ∧ ValsAt w' (p14 g3 d) := by
  intro s' w' h
  refine ⟨ptrs_of (p14 g3 d) rfl h.c0.1, ?_⟩
  have h2 := h.c1.1
  intro p hp
  simp only [p14, List.mem_cons, List.not_mem_nil, or_false] at hp
  rcases hp with rfl | rfl | rfl | rfl | rfl | rfl | rfl | rfl | rfl | rfl | rfl | rfl | rfl | rfl <;> exact h2 _
theorem hP2 {w0 : World} {g6 g3 g2 : Nat} {d : DS} {L2 : List BK} : ∀ (s' : ByteArray) w', St w0 w' ([⟨g6, #[pt g3 15], 66⟩, ⟨g3, d.cells, 34⟩] ++ ⟨g2, #[.string s'], 9⟩ :: L2) → PtrsAt w' g6 0 [(g3, 15, d.cls)] ∧ ValsAt w' [(g3, 15, d.cls)] := by
  intro s' w' h
  refine ⟨ptrs_of [(g3, 15, d.cls)] rfl h.c0.1, ?_⟩
  have h2 := h.c1.1
  intro p hp
  simp only [List.mem_cons, List.not_mem_nil, or_false] at hp
  rcases hp with rfl
  exact h2 _
theorem hP3 {w0 : World} {g6 g3 g2 : Nat} {d : DS} {L2 : List BK} : ∀ (s' : ByteArray) w', St w0 w' ([⟨g6, #[pt g3 18, pt g3 19], 66⟩, ⟨g3, d.cells, 34⟩] ++ ⟨g2, #[.string s'], 9⟩ :: L2) → PtrsAt w' g6 0 [(g3, 18, d.created), (g3, 19, d.expires)] ∧ ValsAt w' [(g3, 18, d.created), (g3, 19, d.expires)] := by
  intro s' w' h
  refine ⟨ptrs_of [(g3, 18, d.created), (g3, 19, d.expires)] rfl h.c0.1, ?_⟩
  have h2 := h.c1.1
  intro p hp
  simp only [List.mem_cons, List.not_mem_nil, or_false] at hp
  rcases hp with rfl | rfl <;> exact h2 _
theorem hP4 {w0 : World} {g9 g8 g3 g2 g1 : Nat} {C : Array Value} {m : Int} {d : DS} {num : Int} {ao : Option Addr} {n cap : Nat} {t : TypeId} : ∀ (s' : ByteArray) w', St w0 w' ([⟨g9, #[pt g1 21, pt g8 0], 66⟩, ⟨g8, #[.int .i64 m], 3⟩, ⟨g3, C, t⟩] ++ ⟨g2, #[.string s'], 9⟩ :: [⟨g1, arcC d num ao n cap, 37⟩]) → PtrsAt w' g9 0 [(g1, 21, num), (g8, 0, m)] ∧ ValsAt w' [(g1, 21, num), (g8, 0, m)] := by
  intro s' w' h
  refine ⟨ptrs_of [(g1, 21, num), (g8, 0, m)] rfl h.c0.1, ?_⟩
  have h2 := h.c1.1
  have h3 := (St.cM (L1 := [⟨g9, #[pt g1 21, pt g8 0], 66⟩, ⟨g8, #[.int .i64 m], 3⟩, ⟨g3, C, t⟩, ⟨g2, #[.string s'], 9⟩]) (L2 := []) h).1
  intro p hp
  simp only [List.mem_cons, List.not_mem_nil, or_false] at hp
  rcases hp with rfl | rfl
  · exact h3 _
  · exact h2 _

/-- The strings of L as they lie. -/
def StrsAt (w : World) (g : Nat) (L : List ByteArray) : Prop := ∀ j (h : j < L.length), w.cell? ⟨g, j, none⟩ = some (.string L[j])
theorem row_strs {v : Value} {L : List ByteArray} {w0 w : World} {R : List BK} (h : RowIs 9 1 v L.length (L.map Value.string) R) (hst : St w0 w R) (hl : 0 < L.length) : ∃ g cap, v = .slice (some ⟨g, 0, none⟩) L.length cap ∧ w0.heap.size ≤ g ∧ g < w.heap.size ∧ StrsAt w g L := by
  rcases h.2 with ⟨_, h2, _⟩ | ⟨g, cap, cs, hR, h1, h2, h3, h4, h5⟩
  · omega
  · subst hR
    refine ⟨g, cap, h1, (hst.at_ ⟨g, cs, 9⟩ (by simp)).1, (hst.at_ ⟨g, cs, 9⟩ (by simp)).2.1, fun j hj => ?_⟩
    have hc := (St.cM (L1 := []) (L2 := []) hst).1 j
    rw [hc]
    have e : cs[j]? = (L.map Value.string)[j]? := by
      rw [← h5, Nat.mul_one, List.getElem?_take_of_lt hj]
      simp
    simp only [e, List.getElem?_map, List.getElem?_eq_getElem hj, Option.map_some]
def ItemsP (L : List ByteArray) (w : World) (e : Ending) (w' : World) : Prop := ∃ g cap, e = .returned (.slice (some ⟨g, 0, none⟩) L.length cap) ∧ Below w.heap.size w w' ∧ w.heap.size ≤ g ∧ g < w'.heap.size ∧ StrsAt w' g L

set_option maxHeartbeats 2000000 in
set_option maxRecDepth 100000 in
theorem items_pre (l : List Pr) (L : List ByteArray) (d : DS) (num : Int) (ao : Option Addr) (n cap : Nat) (w : World) (hn : n ≤ 1024) (ho : d.own.size ≤ 31) (hv : d.vol.size ≤ 31) (S1 S2 S3 S4 S5 S6 S7 X : ByteArray)
    (z0 : Hid (S2.size ≤ 1000 ∧ S4.size ≤ 1000 ∧ S6.size ≤ 1000)) (HOK : Hid (∀ v ∈ nums d num, nOk v = true)) (KP1 : Hid (∀ g, putS ⟨#[]⟩ (p14 g d) = S1)) (KP2 : Hid (∀ g, putS S2 [(g, 15, d.cls)] = S3)) (KP3 : Hid (∀ g, putS S4 [(g, 18, d.created), (g, 19, d.expires)] = S5)) (KP4 : Hid (∀ g g', putS S6 [(g, 21, num), (g', 0, (n : Int))] = S7))
    (KB1 : Hid (∀ w, Calls Try.prog 59 #[.string S1, .bool d.uniq] w fun e w' => e = .returned (.string S2) ∧ w = w')) (KB2 : Hid (∀ w, Calls Try.prog 59 #[.string S5, .bool d.arch] w fun e w' => e = .returned (.string S6) ∧ w = w'))
    (KT1 : Hid (∀ w, Calls Try.prog 60 #[.string S3, .string d.vol] w fun e w' => e = .returned (.string X) ∧ Below w.heap.size w w')) (KT2 : Hid (∀ w, Calls Try.prog 60 #[.string X, .string d.own] w fun e w' => e = .returned (.string S4) ∧ Below w.heap.size w w'))
    (HN : Hid (n = l.length)) (HC : Hid (Prs w ao l)) (HS : Hid (∀ c ∈ l, c.ok = true)) (HL : Hid (L = S7 :: l.map pairS)) :
    Calls Try.prog 34 #[.agg (arcC d num ao n cap)] w (ItemsP L w) := by
  have hst := St.start w
  have T1 := KP1
  have T2 := KP2
  have T3 := KP3
  have hok1 : ∀ g, ∀ p ∈ p14 g d, nOk p.2.2 = true := fun g p hp => HOK.out _ (by simp only [p14, List.mem_cons, List.not_mem_nil, or_false] at hp; rcases hp with rfl | rfl | rfl | rfl | rfl | rfl | rfl | rfl | rfl | rfl | rfl | rfl | rfl | rfl <;> simp [nums])
  have hok2 : ∀ g, ∀ p ∈ [((g, 15, d.cls) : PV)], nOk p.2.2 = true := fun g p hp => HOK.out _ (by simp only [List.mem_cons, List.not_mem_nil, or_false] at hp; rcases hp with rfl; simp [nums])
  have OK1 := Lib.hid hok1
  have OK2 := Lib.hid hok2
  clear hok1 hok2
  go_enter Try.func34, Try.ntmps34
  go_upto_region 7 with (first | ((with_reducible refine at_dst (N := 1) rfl ?_); refine wpList_box hst 37 (arcC d num ao n cap) rfl ?hr ?_; (case hr => first | (go_simp; done) | (go_simp; rfl)); clear hst; intro g1 w1 hst; obtain ⟨hc1, hf1, hl1⟩ := hst.c0) | (((with_reducible refine at_dst (N := 3) rfl ?_); refine wpList_box hst 9 #[.string ⟨#[]⟩] rfl ?hr ?_; (case hr => first | (go_simp; done) | (go_simp; rfl)); clear hst; intro g2 w2 hst; obtain ⟨hc2, hf2, hl2⟩ := hst.c0); clear hc1 hf1 hc2 hf2; obtain ⟨hc2, hf2, hl2⟩ := hst.c0; obtain ⟨hc1, hf1, hl1⟩ := hst.c1)  | ((with_reducible refine at_store (p := 3) rfl ?_); refine wpList_cell0 hst 0 (.string ⟨#[]⟩) #[.string ⟨#[]⟩] rfl rfl ?hr ?_; (case hr => first | (go_simp; done) | (go_simp; rfl)); clear hst; intro wp hst; clear hc1 hf1 hc2 hf2; obtain ⟨hc2, hf2, hl2⟩ := hst.c0; obtain ⟨hc1, hf1, hl1⟩ := hst.c1)  | ((with_reducible refine at_dst (N := 12) rfl ?_); refine wpList_load_set hc1 rfl (.tmp 11) rfl rfl Try.underlying34 rfl (by kernel_rfl) ?_) | (((with_reducible refine at_dst (N := 5) rfl ?_); refine wpList_box hst 34 zDS.cells rfl ?hr ?_; (case hr => first | (go_simp; done) | (go_simp; rfl)); clear hst; intro g3 w3 hst; obtain ⟨hc3, hf3, hl3⟩ := hst.c0); clear hc1 hf1 hc2 hf2 hc3 hf3; obtain ⟨hc3, hf3, hl3⟩ := hst.c0; obtain ⟨hc2, hf2, hl2⟩ := hst.c1; obtain ⟨hc1, hf1, hl1⟩ := hst.c2) | ((with_reducible refine at_store (p := 5) rfl ?_); refine wpList_put0 hst rfl _ _ rfl d.cells rfl rfl (by kernel_rfl) rfl (by simp [rangeV, Value.oneCell']) ?_; clear hst; intro wp hst; clear hc1 hf1 hc2 hf2 hc3 hf3; obtain ⟨hc3, hf3, hl3⟩ := hst.c0; obtain ⟨hc2, hf2, hl2⟩ := hst.c1; obtain ⟨hc1, hf1, hl1⟩ := hst.c2)  | (go_at_call 36; refine (fields_any _ _).mono ?_; rintro e w' ⟨gf, rfl, hk⟩; replace hst := hst.call hk; clear hk; simp only [List.cons_append, List.nil_append] at hst; clear hc1 hf1 hl1 hc2 hf2 hl2 hc3 hf3 hl3))
  refine (put_any (L1 := [⟨gf, ptrC g3, 66⟩, ⟨g3, d.cells, 34⟩]) ⟨#[]⟩ (p14 g3 d) (by simp) (by decide) hst hP1 (OK1.out g3)).mono ?_
  rw [T1.out]
  clear T1 hst
  rintro e w' ⟨rfl, hst⟩
  simp only [List.cons_append, List.nil_append] at hst
  replace hst := hst.sub (List.sublist_cons_self _ _)
  obtain ⟨hc3, hf3, hl3⟩ := hst.c0; obtain ⟨hc2, hf2, hl2⟩ := hst.c1; obtain ⟨hc1, hf1, hl1⟩ := hst.c2
  go_upto_region 7 with (first | (go_at_call 59; refine (KB1.out _).mono ?_; rintro e w' ⟨rfl, hw⟩; subst hw) | ((with_reducible refine at_store (p := 3) rfl ?_); refine wpList_cell (L1 := [⟨g3, d.cells, 34⟩]) hst 0 (.string S2) #[.string S2] rfl rfl (exec_store1 rfl rfl rfl rfl (by kernel_rfl) (hc2 0) (hf2 0)) ?_; clear hst hc1 hf1 hl1 hc2 hf2 hl2 hc3 hf3 hl3; intro wp hst; simp only [List.cons_append, List.nil_append] at hst; obtain ⟨hc3, hf3, hl3⟩ := hst.c0; obtain ⟨hc2, hf2, hl2⟩ := hst.c1; obtain ⟨hc1, hf1, hl1⟩ := hst.c2) | (((with_reducible refine at_dst (N := 22) rfl ?_); refine wpList_boxS hst 66 #[pt g3 15] 1 1 rfl ?hr ?_; (case hr => first | (go_simp; done) | (go_simp; rfl)); clear hst; intro g4 w4 hst; obtain ⟨hc4, hf4, hl4⟩ := hst.c0); clear hc4 hf4 hl4 hc1 hf1 hl1 hc2 hf2 hl2 hc3 hf3 hl3)  | (go_at_call 57; refine (put_any (L1 := [⟨g4, #[pt g3 15], 66⟩, ⟨g3, d.cells, 34⟩]) S2 [(g3, 15, d.cls)] (by simp) (by have := z0.out; omega) hst hP2 (OK2.out g3)).mono ?_; rw [T2.out]; clear T2 hst; rintro e w' ⟨rfl, hst⟩; simp only [List.cons_append, List.nil_append] at hst; replace hst := hst.sub (List.sublist_cons_self _ _); obtain ⟨hc3, hf3, hl3⟩ := hst.c0; obtain ⟨hc2, hf2, hl2⟩ := hst.c1; obtain ⟨hc1, hf1, hl1⟩ := hst.c2))
  have zz := z0.out
  have hk2 : w'.cell? ⟨g2, 0, none⟩ = some (.string S3) := hc2 0
  have hk3 : w'.cell? ⟨g3, 16, none⟩ = some (.string d.vol) := hc3 16
  have hk4 : w'.cell? ⟨g3, 17, none⟩ = some (.string d.own) := hc3 17
  have hkf : w'.frozen? ⟨g2, 0, none⟩ = false := hf2 0
  obtain ⟨wA, hwA⟩ : ∃ wA, wA = w' := ⟨_, rfl⟩
  rw [← hwA] at hst hk2 hk3 hk4 hkf hl3 hl2 hl1 ⊢
  clear hwA hc1 hf1 hc2 hf2 hc3 hf3
  go_cut [24, 25, 26, 27, 28, 29, 30] (fun s24 s25 s26 s27 s28 s29 s30 wx => St w wx [⟨g3, d.cells, 34⟩, ⟨g2, #[.string S4], 9⟩, ⟨g1, arcC d num ao n cap, 37⟩])
  case first =>
    go_region_with (go_at_call 60; first  | (refine (KT1.out _).mono ?_; clear KT1; rintro e wB ⟨rfl, hb⟩; have m2 : wB.cell? ⟨g2, 0, none⟩ = some (.string S3) := (hb.cell (p := ⟨g2, 0, none⟩) hl2).trans hk2; have m4 : wB.cell? ⟨g3, 17, none⟩ = some (.string d.own) := (hb.cell (p := ⟨g3, 17, none⟩) hl3).trans hk4; have mf : wB.frozen? ⟨g2, 0, none⟩ = false := (hb.frozen (p := ⟨g2, 0, none⟩) hl2).trans hkf; have hl22 : g2 < wB.heap.size := Nat.lt_of_lt_of_le hl2 hb.size)  | (refine (KT2.out _).mono ?_; rintro e wC ⟨rfl, hbb⟩; have n2 : wC.cell? ⟨g2, 0, none⟩ = some (.string S3) := (hbb.cell (p := ⟨g2, 0, none⟩) hl22).trans m2; have nf : wC.frozen? ⟨g2, 0, none⟩ = false := (hbb.frozen (p := ⟨g2, 0, none⟩) hl22).trans mf))
    all_goals go_wp2_with fail
    all_goals go_meet
    all_goals exact St.setM (L1 := [⟨g3, d.cells, 34⟩]) (L2 := [⟨g1, arcC d num ao n cap, 37⟩]) (b := ⟨g2, #[.string S3], 9⟩) ((hst.drew.below hb).below hbb) 0 (.string S4)
  case rest =>
    clear hst hk2 hk3 hk4 hkf hl1 hl2 hl3
    have hst := hcut
    clear hcut
    obtain ⟨hc3, hf3, hl3⟩ := hst.c0; obtain ⟨hc2, hf2, hl2⟩ := hst.c1; obtain ⟨hc1, hf1, hl1⟩ := hst.c2
    have hok3 : ∀ g, ∀ p ∈ [((g, 18, d.created) : PV), (g, 19, d.expires)], nOk p.2.2 = true := fun g p hp => HOK.out _ (by simp only [List.mem_cons, List.not_mem_nil, or_false] at hp; rcases hp with rfl | rfl <;> simp [nums])
    have OK3 := Lib.hid hok3
    clear hok3
    go_upto_region 10 with (first | (((with_reducible refine at_dst (N := 34) rfl ?_); refine wpList_boxS hst 66 #[pt g3 18, pt g3 19] 2 2 rfl ?hr ?_; (case hr => first | (go_simp; done) | (go_simp; rfl)); clear hst; intro g4 w4 hst; obtain ⟨hc4, hf4, hl4⟩ := hst.c0); clear hc4 hf4 hl4 hc1 hf1 hl1 hc2 hf2 hl2 hc3 hf3 hl3)  | (go_at_call 57; refine (put_any (L1 := [⟨g4, #[pt g3 18, pt g3 19], 66⟩, ⟨g3, d.cells, 34⟩]) S4 [(g3, 18, d.created), (g3, 19, d.expires)] (by simp) (by omega) hst hP3 (OK3.out g3)).mono ?_; rw [T3.out]; clear T3 hst; rintro e w' ⟨rfl, hst⟩; simp only [List.cons_append, List.nil_append] at hst; replace hst := hst.sub (List.sublist_cons_self _ _); obtain ⟨hc3, hf3, hl3⟩ := hst.c0; obtain ⟨hc2, hf2, hl2⟩ := hst.c1; obtain ⟨hc1, hf1, hl1⟩ := hst.c2)  | (go_at_call 59; refine (KB2.out _).mono ?_; rintro e w' ⟨rfl, hw⟩; subst hw)  | ((with_reducible refine at_store (p := 3) rfl ?_); refine wpList_cell (L1 := [⟨g3, d.cells, 34⟩]) hst 0 (.string S6) #[.string S6] rfl rfl (exec_store1 rfl rfl rfl rfl (by kernel_rfl) (hc2 0) (hf2 0)) ?_; clear hst hc1 hf1 hl1 hc2 hf2 hl2 hc3 hf3 hl3; intro wp hst; simp only [List.cons_append, List.nil_append] at hst; obtain ⟨hc3, hf3, hl3⟩ := hst.c0; obtain ⟨hc2, hf2, hl2⟩ := hst.c1; obtain ⟨hc1, hf1, hl1⟩ := hst.c2))
    have hok4 : ∀ g g', ∀ p ∈ [((g, 21, num) : PV), (g', 0, (n : Int))], nOk p.2.2 = true := fun g g' p hp => by
      simp only [List.mem_cons, List.not_mem_nil, or_false] at hp
      rcases hp with rfl | rfl
      · exact HOK.out _ (by simp [nums])
      · simp only [nOk, decide_eq_true_eq]; omega
    have OK4 := Lib.hid hok4
    clear hok4
    go_upto_region 13 with (first | (((with_reducible refine at_dst (N := 6) rfl ?_); refine wpList_box hst 3 #[.int .i64 0] rfl ?hr ?_; (case hr => first | (go_simp; done) | (go_simp; rfl)); clear hst; intro g6 w6 hst; obtain ⟨hc6, hf6, hl6⟩ := hst.c0); clear hc1 hf1 hl1 hc2 hf2 hl2 hc3 hf3 hl3; obtain ⟨hc1, hf1, hl1⟩ := hst.c3) | ((with_reducible refine at_store (p := 6) rfl ?_); refine wpList_cell0 hst 0 (.int .i64 n) #[.int .i64 n] rfl rfl ?hr ?_; (case hr => first | (go_simp; done) | (go_simp; rfl)); clear hst; intro wp hst; (clear hc6 hf6 hl6 hc1 hf1 hl1; obtain ⟨hc6, hf6, hl6⟩ := hst.c0; obtain ⟨hc1, hf1, hl1⟩ := hst.c3))  | (((with_reducible refine at_dst (N := 45) rfl ?_); refine wpList_boxS hst 66 #[pt g1 21, pt g6 0] 2 2 rfl ?hr ?_; (case hr => first | (go_simp; done) | (go_simp; rfl)); clear hst; intro g5 w5 hst; obtain ⟨hc5, hf5, hl5⟩ := hst.c0); clear hc5 hf5 hl5 hc6 hf6 hl6 hc1 hf1 hl1)  | (go_at_call 57; refine (put_any (L1 := [⟨g5, #[pt g1 21, pt g6 0], 66⟩, ⟨g6, #[.int .i64 n], 3⟩, ⟨g3, d.cells, 34⟩]) S6 [(g1, 21, num), (g6, 0, (n : Int))] (by simp) (by omega) hst hP4 (OK4.out g1 g6)).mono ?_; rw [KP4.out]; clear hst; rintro e w' ⟨rfl, hst⟩; simp only [List.cons_append, List.nil_append] at hst; obtain ⟨hc2, hf2, hl2⟩ := hst.c3)  | (((with_reducible refine at_dst (N := 48) rfl ?_); refine wpList_boxS hst 9 #[.string S7] 1 1 rfl ?hr ?_; (case hr => first | (go_simp; done) | (go_simp; rfl)); clear hst; intro g7 w7 hst; obtain ⟨hc7, hf7, hl7⟩ := hst.c0)))
    clear hc2 hf2 hl2 hf7 hc7 hl7
    obtain ⟨hc1, hf1, hl1⟩ := (St.cM (L1 := [⟨g7, #[.string S7], 9⟩, ⟨g5, #[pt g1 21, pt g6 0], 66⟩, ⟨g6, #[.int .i64 n], 3⟩, ⟨g3, d.cells, 34⟩, ⟨g2, #[.string S7], 9⟩]) (L2 := []) hst)
    go_wp2_with fail
    clear hc1 hf1 hl1
    replace hst := hst.sub (L' := [] ++ [⟨g7, #[.string S7], 9⟩]) (by simp)
    go_loopw [7, 52] (fun t7 t52 wr => ∃ (k : Nat) (R : List BK), t52 = .int .i64 k ∧ k ≤ n ∧ Hid (RowIs 9 1 t7 (k + 1) ((S7 :: (l.take k).map pairS).map Value.string) R) ∧ St w wr R) (fun _ t52 _ => n - (intOf t52).toNat)
    case atStart => exact ⟨0, [⟨g7, #[.string S7], 9⟩], rfl, Nat.zero_le _, ⟨rfl, Or.inr ⟨g7, 1, #[.string S7], rfl, rfl, Nat.le_refl _, by unfold maxLen; omega, rfl, rfl⟩⟩, hst⟩
    case round =>
      clear hst
      obtain ⟨k, R, rfl, hk, HR, hst⟩ := hrel
      by_cases hlt : k < n
      · have hkl : k < l.length := by rw [← HN.out]; exact hlt
        obtain ⟨c, hcc⟩ : ∃ c, c = l[k] := ⟨_, rfl⟩
        obtain ⟨b, off, rfl, hb, hat⟩ : ∃ b off, ao = some ⟨b, off, none⟩ ∧ b < w.heap.size ∧ PrsAt w b off l := by
          rcases HC.out with h | h
          · rw [h] at hkl; simp at hkl
          · exact h
        obtain ⟨c0, c1⟩ := (hat.below hb hst.base).get hkl hcc
        have hok : c.ok = true := by rw [hcc]; exact HS.out _ (List.getElem_mem _)
        simp only [Pr.ok, decide_eq_true_eq] at hok
        obtain ⟨o1, o2⟩ := hok
        have HCC := Lib.hid hcc
        have kk1 := fun w => appendText_any ⟨#[]⟩ c.key w (by omega) (by decide)
        have zk : ((⟨#[]⟩ : ByteArray) ++ txtS c.key).size ≤ 1000 := by
          have n1 := numS_size (n := c.key.size) (by omega)
          have n0 : (⟨#[]⟩ : ByteArray).size = 0 := rfl
          rw [ByteArray.size_append, txtS, ByteArray.size_append]
          omega
        have kk2 := fun w => appendText_any (⟨#[]⟩ ++ txtS c.key) c.rcd w (by omega) (by omega)
        obtain ⟨X1, hX1⟩ : ∃ X1, X1 = (⟨#[]⟩ : ByteArray) ++ txtS c.key := ⟨_, rfl⟩
        obtain ⟨X2, hX2⟩ : ∃ X2, X2 = X1 ++ txtS c.rcd := ⟨_, rfl⟩
        rw [← hX1] at kk1 kk2
        rw [← hX2] at kk2
        have hp : pairS c = X2 := by rw [hX2, hX1, emp_append, pairS]
        have J1 := Lib.hid kk1
        have J2 := Lib.hid kk2
        have HP := Lib.hid hp
        clear hcc hat zk kk1 kk2 hX1 hX2 hp
        go_wp2_with (first | (((with_reducible refine at_dst (N := 9) rfl ?_); refine wpList_box hst 54 #[.string ⟨#[]⟩, .string ⟨#[]⟩] rfl ?hr ?_; (case hr => first | (go_simp; done) | (go_simp; rfl)); clear hst; intro g9 w9 hst; obtain ⟨hc9, hf9, hl9⟩ := hst.c0)) | ((with_reducible refine at_store (p := 9) rfl ?_); refine wpList_put0 hst rfl _ _ rfl c.cells rfl rfl (by kernel_rfl) rfl (by simp [rangeV, Value.oneCell']) ?_; clear hst; intro wp hst; (clear hc9 hf9; obtain ⟨hc9, hf9, hl9⟩ := hst.c0)))
        have q0 : wp.cell? ⟨g9, 0, none⟩ = some (.string c.key) := hc9 0
        have q1 : wp.cell? ⟨g9, 1, none⟩ = some (.string c.rcd) := hc9 1
        clear c0 c1 hc9 hf9
        go_region_held3 (fun w' => w'.cell? ⟨g9, 0, none⟩ = some (.string c.key) ∧ w'.cell? ⟨g9, 1, none⟩ = some (.string c.rcd))
          (first | exact ⟨q0, q1⟩ | exact ⟨m0, m1⟩ | exact ⟨n0, n1⟩ | exact ⟨(((Below.refl _ _).alloc (Nat.le_refl _) _).cell (p := ⟨g9, 0, none⟩) hl92).trans n0, (((Below.refl _ _).alloc (Nat.le_refl _) _).cell (p := ⟨g9, 1, none⟩) hl92).trans n1⟩ | exact ⟨hst2.c1.1 0, hst2.c1.1 1⟩)
          (first
            | (go_at_call 60; first
                | (refine (J1.out _).mono ?_; clear J1; rintro e wB ⟨rfl, hb1⟩; have m0 : wB.cell? ⟨g9, 0, none⟩ = some (.string c.key) := (hb1.cell (p := ⟨g9, 0, none⟩) hl9).trans q0; have m1 : wB.cell? ⟨g9, 1, none⟩ = some (.string c.rcd) := (hb1.cell (p := ⟨g9, 1, none⟩) hl9).trans q1; have hl91 : g9 < wB.heap.size := Nat.lt_of_lt_of_le hl9 hb1.size)
                | (refine (J2.out _).mono ?_; rintro e wC ⟨rfl, hb2⟩; have n0 : wC.cell? ⟨g9, 0, none⟩ = some (.string c.key) := (hb2.cell (p := ⟨g9, 0, none⟩) hl91).trans m0; have n1 : wC.cell? ⟨g9, 1, none⟩ = some (.string c.rcd) := (hb2.cell (p := ⟨g9, 1, none⟩) hl91).trans m1; have hl92 : g9 < wC.heap.size := Nat.lt_of_lt_of_le hl91 hb2.size))
            | (refine step_append_row (L := [⟨wC.heap.size, #[.string X2], 9⟩, ⟨g9, c.cells, 54⟩]) (((hst.drew.below hb1).below hb2).box _ _) HR.out (by rfl) (.tmp 56) (.tmp 63) 61 (by rfl) (.string ⟨#[]⟩) 16 (Try.underlying61) (by kernel_rfl) rfl (by decide) (by rfl) ⟨wC.heap.size, 0, none⟩ 1 1 [.string X2] (by rfl) rfl (news_own (((hst.drew.below hb1).below hb2).box _ _)) (by simp [Value.oneCell']) (by unfold maxLen; omega) (by omega) ?_; intro v' R' w' hst2 HR2))
        go_wp2
        go_roundw
        case measure => simp [intOf]; omega
        case rel =>
          refine ⟨k + 1, R', by go_num, by omega, ?_, hst2.sub (((List.Sublist.refl _).cons _).cons _)⟩
          show RowIs _ _ _ _ _ _
          have e : (S7 :: (l.take (k + 1)).map pairS).map Value.string = (S7 :: (l.take k).map pairS).map Value.string ++ [Value.string X2] := by
            rw [List.take_succ_eq_append_getElem hkl, ← HCC.out]
            simp [HP.out]
          rw [e]
          exact HR2
      · have hkn : k = n := by omega
        subst hkn
        have hr := HR.out
        rw [List.take_of_length_le (by have := HN.out; omega), ← HL.out] at hr
        have hLl : k + 1 = L.length := by rw [HL.out, List.length_cons, List.length_map, ← HN.out]
        rw [hLl] at hr
        obtain ⟨g, cap7, rfl, r1, r2, r3⟩ := row_strs hr hst (by omega)
        have R3 := Lib.hid r3
        have hbase := hst.base
        clear hr r3 HR hst
        go_wp2
        go_ret
        exact ⟨g, cap7, rfl, hbase, r1, r2, R3.out⟩
end Go.Proofs.Ytklpamhhbigjfaa
