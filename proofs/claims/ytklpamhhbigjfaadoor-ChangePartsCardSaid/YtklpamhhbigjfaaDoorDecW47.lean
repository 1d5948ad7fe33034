/- The package change: Decode. -/
import Derived.Test.YtklpamhhbigjfaaDoorDecP47
namespace Go.Proofs.YtklpamhhbigjfaaDoor
open Go.RowKit
set_option linter.unusedSimpArgs false
set_option linter.unusedVariables false

theorem count_rdL {w0 w : World} {L1 L2 : List BK} {g : Nat} {r r' : RS} {n : Nat} {most : Int} (hR : Hid (rCnt most r = (n, r'))) (h0 : 0 ≤ most) (h1 : most ≤ 4611686018427387904) (hs : r.1.size ≤ 140737488355328) (hst : St w0 w (L1 ++ ⟨g, r.cs, 76⟩ :: L2)) :
    Calls Tryd.prog 42 #[.pointer (some ⟨g, 0, none⟩), .int .i64 most] w fun en w' => en = .returned (.int .i64 n) ∧ St w0 w' (L1 ++ ⟨g, r'.cs, 76⟩ :: L2) := by
  have h := count_rd r most h0 h1 hs hst
  rw [hR.out] at h
  exact h
theorem text_rdL {w0 w : World} {L1 L2 : List BK} {g : Nat} {r r' : RS} {s : ByteArray} {most : Int} (hR : Hid (rTxt most r = (s, r'))) (h0 : 0 ≤ most) (h1 : most ≤ 4611686018427387904) (hs : r.1.size ≤ 140737488355328) (hst : St w0 w (L1 ++ ⟨g, r.cs, 76⟩ :: L2)) :
    Calls Tryd.prog 43 #[.pointer (some ⟨g, 0, none⟩), .int .i64 most] w fun en w' => en = .returned (.string s) ∧ St w0 w' (L1 ++ ⟨g, r'.cs, 76⟩ :: L2) := by
  have h := text_rd r most h0 h1 hs hst
  rw [hR.out] at h
  exact h
theorem hid_cnt (most : Int) (r : RS) : ∃ n r', Hid (rCnt most r = (n, r')) := ⟨_, _, rfl⟩
theorem hid_txt (most : Int) (r : RS) : ∃ n r', Hid (rTxt most r = (n, r')) := ⟨_, _, rfl⟩
theorem cnt_size {most : Int} {r r' : RS} {n : Nat} (h : Hid (rCnt most r = (n, r'))) : r'.1.size ≤ r.1.size := by have := rCnt_size most r; rw [h.out] at this; exact this
theorem txt_size {most : Int} {r r' : RS} {s : ByteArray} (h : Hid (rTxt most r = (s, r'))) : r'.1.size ≤ r.1.size ∧ s.size ≤ r.1.size := by have := rTxt_size most r; rw [h.out] at this; exact this
theorem cnt_le {most : Int} {r r' : RS} {n : Nat} (h : Hid (rCnt most r = (n, r'))) (h0 : 0 ≤ most) : (n : Int) ≤ most := by have := rCnt_le h0 r; rw [h.out] at this; exact this

/-- the record as it lies while it is filled -/
abbrev outC (num unit : Int) (v : Value) : Array Value := #[.int .i64 num, .int .i64 unit, v]
abbrev zeroR : Array Value := #[.int .i64 0, .int .i64 0, .slice none 0 0]
abbrev zeroChg : Array Value := #[.int .i64 0, .int .i64 0, .string ⟨#[]⟩, .string ⟨#[]⟩, .string ⟨#[]⟩]

set_option maxHeartbeats 2000000 in
set_option maxRecDepth 100000 in
theorem decodeP_any (s : ByteArray) (w : World) (hs : s.size ≤ 16384) :
    Calls Tryd.prog 15 #[.string s] w (DecP s w) := by
  have hst := St.start w
  obtain ⟨n1, r1, H1⟩ := hid_cnt 1099511627776 (s, 0)
  obtain ⟨n2, r2, H2⟩ := hid_cnt 1099511627776 r1
  obtain ⟨n3, r3, H3⟩ := hid_cnt 300 r2
  have z1 := cnt_size H1
  have z2 := cnt_size H2
  have z3 := cnt_size H3
  have y1 := cnt_le H1 (by omega)
  have y2 := cnt_le H2 (by omega)
  have y3 := cnt_le H3 (by omega)
  dsimp only at z1
  have T1 := H1
  have T2 := H2
  have T3 := H3
  go_enter Tryd.func15, Tryd.ntmps15
  go_wp2_with (first | (((with_reducible refine at_dst (N := 2) rfl ?_); refine wpList_box hst 29 zeroR rfl ?hr ?_; (case hr => first | (go_simp; done) | (go_simp; rfl)); clear hst; intro g1 w1 hst; obtain ⟨hc1, hf1, hl1⟩ := hst.c0)) | (go_at_call 41; refine (newReader_rd hst).mono ?_; clear hst hc1 hf1; rintro e w' ⟨gr, rfl, hst⟩)  | (go_at_call 42; refine (count_rdL (L1 := []) T1 (by omega) (by omega) (by first | omega | (dsimp only; omega)) hst).mono ?_; clear T1 hst; rintro e w' ⟨rfl, hst⟩; simp only [List.cons_append, List.nil_append] at hst) | (go_at_call 42; refine (count_rdL (L1 := []) T2 (by omega) (by omega) (by first | omega | (dsimp only; omega)) hst).mono ?_; clear T2 hst; rintro e w' ⟨rfl, hst⟩; simp only [List.cons_append, List.nil_append] at hst)  | (((with_reducible refine at_dst (N := 5) rfl ?_); refine wpList_box hst 29 zeroR rfl ?hr ?_; (case hr => first | (go_simp; done) | (go_simp; rfl)); clear hst; intro g5 w5 hst; obtain ⟨hc5, hf5, hl5⟩ := hst.c0)) | ((with_reducible refine at_store (p := 5) rfl ?_); refine wpList_put0 hst rfl _ _ rfl (outC n1 n2 (.slice none 0 0)) rfl rfl (by kernel_rfl) rfl (by simp [rangeV, Value.oneCell']) ?_; clear hst; intro wp hst; skip) | (go_at_call 42; refine (count_rdL (L1 := [⟨g5, (outC n1 n2 (.slice none 0 0)), 29⟩]) T3 (by omega) (by omega) (by first | omega | (dsimp only; omega)) hst).mono ?_; clear T3 hst; rintro e w' ⟨rfl, hst⟩; simp only [List.cons_append, List.nil_append] at hst))
  clear hc5 hf5
  go_loopw [20] (fun t wr => ∃ (k : Nat) (r : RS) (l : List Chg) (v : Value) (R : List BK), t = .int .i64 k ∧ k ≤ n3 ∧ r.1.size ≤ s.size ∧ Hid (rChgs k r3 = (l, r)) ∧ Hid (RowIs 23 5 v k (chgXs l) R) ∧
    St w wr (⟨g5, outC n1 n2 v, 29⟩ :: ⟨gr, r.cs, 76⟩ :: ⟨g1, zeroR, 29⟩ :: R)) (fun t _ => n3 - (intOf t).toNat)
  case atStart => exact ⟨0, r3, [], .slice none 0 0, [], rfl, Nat.zero_le _, by omega, rfl, RowIs.nil _ _, hst⟩
  case round =>
    clear hst
    obtain ⟨k, r, l, v, R, rfl, hk, hrs, HL, HR, hst⟩ := hrel
    by_cases hlt : k < n3
    · obtain ⟨a1, ra, A1⟩ := hid_cnt 7 r
      obtain ⟨a2, rb, A2⟩ := hid_cnt 1099511627776 ra
      obtain ⟨s3, rc, A3⟩ := hid_txt 32 rb
      obtain ⟨s4, rd, A4⟩ := hid_txt 1000 rc
      obtain ⟨s5, re, A5⟩ := hid_txt 31 rd
      have x1 := cnt_size A1
      have x2 := cnt_size A2
      have x3 := txt_size A3
      have x4 := txt_size A4
      have x5 := txt_size A5
      have hchg : rChg r = (⟨a1, a2, s3, s4, s5⟩, re) := by simp only [rChg, A1.out, A2.out, A3.out, A4.out, A5.out]
      have HCHG := Lib.hid hchg
      clear hchg
      have T1 := A1
      have T2 := A2
      have T3 := A3
      have T4 := A4
      have T5 := A5
      go_wp2_with (first | (go_at_call 42; refine (count_rdL (L1 := [⟨g5, (outC n1 n2 v), 29⟩]) T1 (by omega) (by omega) (by first | omega | (dsimp only; omega)) hst).mono ?_; clear T1 hst; rintro e w' ⟨rfl, hst⟩; simp only [List.cons_append, List.nil_append] at hst) | (go_at_call 42; refine (count_rdL (L1 := [⟨g5, (outC n1 n2 v), 29⟩]) T2 (by omega) (by omega) (by first | omega | (dsimp only; omega)) hst).mono ?_; clear T2 hst; rintro e w' ⟨rfl, hst⟩; simp only [List.cons_append, List.nil_append] at hst)  | (((with_reducible refine at_dst (N := 6) rfl ?_); refine wpList_box hst 23 zeroChg rfl ?hr ?_; (case hr => first | (go_simp; done) | (go_simp; rfl)); clear hst; intro g6 w6 hst; obtain ⟨hc6, hf6, hl6⟩ := hst.c0)) | ((with_reducible refine at_store (p := 6) rfl ?_); refine wpList_put0 hst rfl _ _ rfl #[.int .i64 a1, .int .i64 a2, .string ⟨#[]⟩, .string ⟨#[]⟩, .string ⟨#[]⟩] rfl rfl (by kernel_rfl) rfl (by simp [rangeV, Value.oneCell']) ?_; clear hst; intro wp hst; (obtain ⟨hc6, hf6, hl6⟩ := hst.c0; obtain ⟨hc5, hf5, hl5⟩ := hst.c1))  | (clear hc6 hf6 hc5 hf5; (go_at_call 43; refine (text_rdL (L1 := [⟨g6, (#[.int .i64 a1, .int .i64 a2, .string ⟨#[]⟩, .string ⟨#[]⟩, .string ⟨#[]⟩]), 23⟩, ⟨g5, (outC n1 n2 v), 29⟩]) T3 (by omega) (by omega) (by first | omega | (dsimp only; omega)) hst).mono ?_; clear T3 hst; rintro e w' ⟨rfl, hst⟩; simp only [List.cons_append, List.nil_append] at hst); obtain ⟨hc6, hf6, hl6⟩ := hst.c0; obtain ⟨hc5, hf5, hl5⟩ := hst.c1) | ((with_reducible refine at_store (p := 29) rfl ?_); refine wpList_cell0 hst 2 (.string s3) #[.int .i64 a1, .int .i64 a2, .string s3, .string ⟨#[]⟩, .string ⟨#[]⟩] rfl rfl ?hr ?_; (case hr => first | (go_simp; done) | (go_simp; rfl)); clear hst; intro wp hst; (clear hc6 hf6 hc5 hf5; obtain ⟨hc6, hf6, hl6⟩ := hst.c0; obtain ⟨hc5, hf5, hl5⟩ := hst.c1))  | (clear hc6 hf6 hc5 hf5; (go_at_call 43; refine (text_rdL (L1 := [⟨g6, (#[.int .i64 a1, .int .i64 a2, .string s3, .string ⟨#[]⟩, .string ⟨#[]⟩]), 23⟩, ⟨g5, (outC n1 n2 v), 29⟩]) T4 (by omega) (by omega) (by first | omega | (dsimp only; omega)) hst).mono ?_; clear T4 hst; rintro e w' ⟨rfl, hst⟩; simp only [List.cons_append, List.nil_append] at hst); obtain ⟨hc6, hf6, hl6⟩ := hst.c0; obtain ⟨hc5, hf5, hl5⟩ := hst.c1) | ((with_reducible refine at_store (p := 32) rfl ?_); refine wpList_cell0 hst 3 (.string s4) #[.int .i64 a1, .int .i64 a2, .string s3, .string s4, .string ⟨#[]⟩] rfl rfl ?hr ?_; (case hr => first | (go_simp; done) | (go_simp; rfl)); clear hst; intro wp hst; (clear hc6 hf6 hc5 hf5; obtain ⟨hc6, hf6, hl6⟩ := hst.c0; obtain ⟨hc5, hf5, hl5⟩ := hst.c1))  | (clear hc6 hf6 hc5 hf5; (go_at_call 43; refine (text_rdL (L1 := [⟨g6, (#[.int .i64 a1, .int .i64 a2, .string s3, .string s4, .string ⟨#[]⟩]), 23⟩, ⟨g5, (outC n1 n2 v), 29⟩]) T5 (by omega) (by omega) (by first | omega | (dsimp only; omega)) hst).mono ?_; clear T5 hst; rintro e w' ⟨rfl, hst⟩; simp only [List.cons_append, List.nil_append] at hst); obtain ⟨hc6, hf6, hl6⟩ := hst.c0; obtain ⟨hc5, hf5, hl5⟩ := hst.c1) | ((with_reducible refine at_store (p := 35) rfl ?_); refine wpList_cell0 hst 4 (.string s5) #[.int .i64 a1, .int .i64 a2, .string s3, .string s4, .string s5] rfl rfl ?hr ?_; (case hr => first | (go_simp; done) | (go_simp; rfl)); clear hst; intro wp hst; (clear hc6 hf6 hc5 hf5; obtain ⟨hc6, hf6, hl6⟩ := hst.c0; obtain ⟨hc5, hf5, hl5⟩ := hst.c1))  | ((with_reducible refine at_dst (N := 38) rfl ?_); (refine wpList_load_own hst ⟨g6, #[.int .i64 a1, .int .i64 a2, .string s3, .string s4, .string s5], 23⟩ (by simp) rfl _ rfl rfl _ rfl Tryd.underlying23 (by kernel_rfl) ?_)) | (((with_reducible refine at_dst (N := 39) rfl ?_); refine wpList_boxS hst 23 #[.int .i64 a1, .int .i64 a2, .string s3, .string s4, .string s5] 1 1 rfl ?hr ?_; (case hr => first | (go_simp; done) | (go_simp; rfl)); clear hst; intro g7 w7 hst; obtain ⟨hc7, hf7, hl7⟩ := hst.c0); clear hc6 hf6 hc5 hf5)  | (at_builtin; refine wpList_append_row (L := [⟨g7, #[.int .i64 a1, .int .i64 a2, .string s3, .string s4, .string s5], 23⟩, ⟨g6, #[.int .i64 a1, .int .i64 a2, .string s3, .string s4, .string s5], 23⟩, ⟨g5, outC n1 n2 v, 29⟩, ⟨gr, re.cs, 76⟩, ⟨g1, zeroR, 29⟩]) hst HR.out rfl (.tmp 37) (.tmp 39) 27 rfl (.agg zeroChg) 64 (Tryd.underlying27) (by kernel_rfl) rfl (by decide) rfl ⟨g7, 0, none⟩ 1 1 [.int .i64 a1, .int .i64 a2, .string s3, .string s4, .string s5] rfl rfl (news_own hst) (by simp [Value.oneCell']) (by unfold maxLen; omega) (by omega) ?_; clear hst hc7 hf7; intro v' R' w' hst HR2; have HR3 := Lib.hid HR2; clear HR2; obtain ⟨hc5, hf5, hl5⟩ := hst.c2)  | ((with_reducible refine at_store (p := 41) rfl ?_); refine wpList_cell (L1 := [⟨g7, #[.int .i64 a1, .int .i64 a2, .string s3, .string s4, .string s5], 23⟩, ⟨g6, #[.int .i64 a1, .int .i64 a2, .string s3, .string s4, .string s5], 23⟩]) hst 2 v' (outC n1 n2 v') rfl rfl (exec_store1 rfl rfl rfl HR3.out.cell (by kernel_rfl) (hc5 2) (hf5 2)) ?_; clear hst hc5 hf5; intro wp hst))
      go_roundw
      case measure => simp [intOf]; omega
      case rel =>
        refine ⟨k + 1, re, l ++ [⟨a1, a2, s3, s4, s5⟩], v', R', by go_num, by omega, by omega, ?_, ?_, hst.sub (((List.Sublist.refl _).cons _).cons _)⟩
        · show _ = _
          simp only [rChgs, HL.out, HCHG.out]
        · show RowIs _ _ _ _ _ _
          rw [chgXs_snoc]
          exact HR3.out
    · have hkn : k = n3 := by omega
      subst hkn
      have hhead : dHead s = (n1, n2, k, r3) := by simp only [dHead, H1.out, H2.out, H3.out]
      have hall : dAll s = (l, r) := by rw [dAll, hhead]; exact HL.out
      have hnum : dNum s = n1 := by rw [dNum, hhead]
      have huni : dUnit s = n2 := by rw [dUnit, hhead]
      have hlen : l.length = k := by have := rChgs_len k r3; rw [HL.out] at this; exact this
      have hsz := rChgs_size k r3
      rw [HL.out] at hsz
      have hSz : ∀ c ∈ l, c.Sz := fun c hc => by have := hsz.2 c hc; unfold Chg.Sz; omega
      have hrow := HR.out
      rw [← hlen] at hrow
      obtain ⟨ao, cap, rfl, hch⟩ := row_chgs (L := [⟨g5, outC n1 n2 v, 29⟩, ⟨gr, r.cs, 76⟩, ⟨g1, zeroR, 29⟩]) hrow hst
      have HCH := Lib.hid hch
      have HROW := Lib.hid hrow
      have HSZ := Lib.hid hSz
      have hok : DecOk s ↔ rEnd r = 0 ∧ soundB n1 n2 l = true := by unfold DecOk; rw [hall, hnum, huni]; exact ⟨fun h => h.2, fun h => ⟨hs, h⟩⟩
      have HOK := Lib.hid hok
      have HALL := Lib.hid hall
      have HNUM := Lib.hid hnum
      have HUNI := Lib.hid huni
      have HLEN := Lib.hid hlen
      have hl300 : l.length ≤ 300 := by omega
      clear hhead hall hnum huni hlen hsz hSz hrow hch hok HR
      obtain ⟨hc5, hf5, hl5⟩ := hst.c0
      have zero : ∀ w', ¬ DecOk s → Below w.heap.size w w' → DecP s w (.returned (.tuple #[.agg zeroR, .int .i64 11])) w' := fun w' h hb => ⟨none, 0, by simp [decNum, decUnit, decL, decE, h], hb, Or.inl (by simp [decL, h])⟩
      have ZERO := Lib.hid zero
      clear zero
      by_cases he : rEnd r = 0
      · have hs2 := fun w => sound_any n1 n2 l ao cap w (by omega)
        cases hsb : soundB n1 n2 l with
        | true =>
          rw [hsb] at hs2
          have HS2 := Lib.hid hs2
          have HSB := Lib.hid hsb
          have HE := Lib.hid he
          clear hs2 hsb
          have hend := fun (w w1 : World) (L1 L2 : List BK) (g : Nat) hst => end_rd (w0 := w) (w := w1) (L1 := L1) (L2 := L2) (g := g) r hst
          rw [he] at hend
          have HEND := Lib.hid hend
          clear hend he
          go_wp2_with (first | (go_at_call 44; refine (HEND.out w _ [⟨g5, outC n1 n2 (.slice ao l.length cap), 29⟩] _ gr hst).mono ?_; rintro e w' ⟨rfl, rfl⟩)  | ((with_reducible refine at_dst (N := 47) rfl ?_); refine wpList_load_g hst ⟨g5, (recC n1 n2 ao l.length cap), 29⟩ (by simp) rfl _ rfl rfl rfl Tryd.underlying29 (by kernel_rfl) ?_) | (go_at_call 45; refine (HS2.out _ HCH.out HSZ.out).mono ?_; rintro e w' ⟨rfl, hb⟩; have hch2 := Lib.hid (HCH.out.below hb); replace hst := hst.below hb; clear hc5 hf5)  | ((with_reducible refine at_dst (N := 52) rfl ?_); (refine wpList_load_own hst ⟨g5, (recC n1 n2 ao l.length cap), 29⟩ (by simp) rfl _ rfl rfl _ rfl Tryd.underlying29 (by kernel_rfl) ?_))  | ((with_reducible refine at_store (p := 2) rfl ?_); refine wpList_put (L1 := [⟨g5, outC n1 n2 (.slice ao l.length cap), 29⟩, ⟨gr, r.cs, 76⟩]) hst rfl _ _ rfl (recC n1 n2 ao l.length cap) rfl rfl (by kernel_rfl) rfl (by simp [Value.oneCell']) ?_; intro wp hst9))
          have h9 := hst9.blk ⟨g1, recC n1 n2 ao l.length cap, 29⟩ (by simp)
          refine bodyPost_ret (results_cell_tmp rfl _ _ g1 _ (recC n1 n2 ao l.length cap) _ _ rfl h9 (Tryd.underlying29) rfl (by kernel_rfl)) rfl ?_
          have hD : DecOk s := HOK.out.2 ⟨HE.out, HSB.out⟩
          obtain ⟨ao2, cap2, e2, hch9⟩ := row_chgs (L := [⟨g5, outC n1 n2 (.slice ao l.length cap), 29⟩, ⟨gr, r.cs, 76⟩, ⟨g1, recC n1 n2 ao l.length cap, 29⟩]) HROW.out hst9
          have e3 : ao = ao2 := by injection e2
          subst e3
          refine ⟨ao, cap, ?_, hst9.base, ?_⟩
          · rw [decNum, decUnit, decL, decE, if_pos hD, if_pos hD, if_pos hD, if_pos hD, HALL.out, HNUM.out, HUNI.out]
            rfl
          · rw [decL, if_pos hD, HALL.out]
            exact hch9
        | false =>
          rw [hsb] at hs2
          have HS2 := Lib.hid hs2
          have HSB := Lib.hid hsb
          clear hs2 hsb
          have hend := fun (w w1 : World) (L1 L2 : List BK) (g : Nat) hst => end_rd (w0 := w) (w := w1) (L1 := L1) (L2 := L2) (g := g) r hst
          rw [he] at hend
          have HEND := Lib.hid hend
          clear hend he
          go_wp2_with (first | (go_at_call 44; refine (HEND.out w _ [⟨g5, outC n1 n2 (.slice ao l.length cap), 29⟩] _ gr hst).mono ?_; rintro e w' ⟨rfl, rfl⟩)  | ((with_reducible refine at_dst (N := 47) rfl ?_); refine wpList_load_g hst ⟨g5, (recC n1 n2 ao l.length cap), 29⟩ (by simp) rfl _ rfl rfl rfl Tryd.underlying29 (by kernel_rfl) ?_) | (go_at_call 45; refine (HS2.out _ HCH.out HSZ.out).mono ?_; rintro e w' ⟨rfl, hb⟩; replace hst := hst.below hb; clear hc5 hf5)  | ((with_reducible refine at_store (p := 2) rfl ?_); refine wpList_put (L1 := [⟨g5, outC n1 n2 (.slice ao l.length cap), 29⟩, ⟨gr, r.cs, 76⟩]) hst rfl _ _ rfl zeroR rfl rfl (by kernel_rfl) rfl (by simp [Value.oneCell']) ?_; intro wp hst9))
          have h9 := hst9.blk ⟨g1, zeroR, 29⟩ (by simp)
          refine bodyPost_ret (results_cell_tmp rfl _ _ g1 _ zeroR _ _ rfl h9 (Tryd.underlying29) rfl (by kernel_rfl)) rfl ?_
          exact ZERO.out _ (fun h => by have := (HOK.out.1 h).2; rw [HSB.out] at this; cases this) hst9.base
      · have hend := fun (w w1 : World) (L1 L2 : List BK) (g : Nat) hst => end_rd (w0 := w) (w := w1) (L1 := L1) (L2 := L2) (g := g) r hst
        have HE := Lib.hid he
        have heb : (rEnd r != 0) = true := by simpa using he
        obtain ⟨E, hE⟩ : ∃ E, E = rEnd r := ⟨_, rfl⟩
        rw [← hE] at hend heb
        have HEND := Lib.hid hend
        clear hend he hE
        go_wp2_with (first | (go_at_call 44; refine (HEND.out w _ [⟨g5, outC n1 n2 (.slice ao l.length cap), 29⟩] _ gr hst).mono ?_; rintro e w' ⟨rfl, rfl⟩)  | ((with_reducible refine at_store (p := 2) rfl ?_); refine wpList_put (L1 := [⟨g5, outC n1 n2 (.slice ao l.length cap), 29⟩, ⟨gr, r.cs, 76⟩]) hst rfl _ _ rfl zeroR rfl rfl (by kernel_rfl) rfl (by simp [Value.oneCell']) ?_; intro wp hst9))
        have h9 := hst9.blk ⟨g1, zeroR, 29⟩ (by simp)
        refine bodyPost_ret (results_cell_tmp rfl _ _ g1 _ zeroR _ _ rfl h9 (Tryd.underlying29) rfl (by kernel_rfl)) rfl ?_
        exact ZERO.out _ (fun h => HE.out (HOK.out.1 h).1) hst9.base

set_option maxHeartbeats 1000000 in
theorem decodeP_big (s : ByteArray) (w : World) (hs : ¬ s.size ≤ 16384) (hs2 : s.size ≤ 140737488355328) :
    Calls Tryd.prog 15 #[.string s] w (DecP s w) := by
  have hst := St.start w
  have h : ¬ DecOk s := fun h => hs h.1
  have H := Lib.hid h
  clear h
  go_enter Tryd.func15, Tryd.ntmps15
  go_wp2_with (first | (((with_reducible refine at_dst (N := 2) rfl ?_); refine wpList_box hst 29 zeroR rfl ?hr ?_; (case hr => first | (go_simp; done) | (go_simp; rfl)); clear hst; intro g1 w1 hst; obtain ⟨hc1, hf1, hl1⟩ := hst.c0)) | ((with_reducible refine at_store (p := 2) rfl ?_); refine wpList_put0 hst rfl _ _ rfl zeroR rfl rfl (by kernel_rfl) rfl (by simp [rangeV, Value.oneCell']) ?_; clear hst; intro wp hst; skip))
  refine bodyPost_ret (results_cell_tmp rfl _ _ g1 _ zeroR _ _ rfl (hst.blk ⟨g1, zeroR, 29⟩ (by simp)) (Tryd.underlying29) rfl (by kernel_rfl)) rfl ?_
  exact ⟨none, 0, by simp [decNum, decUnit, decL, decE, H.out], hst.base, Or.inl (by simp [decL, H.out])⟩
theorem decodeW_any (s : ByteArray) (w : World) (hs : s.size ≤ 140737488355328) : Calls Tryd.prog 15 #[.string s] w (DecP s w) := by
  by_cases h : s.size ≤ 16384
  · exact decodeP_any s w h
  · exact decodeP_big s w h hs
end Go.Proofs.YtklpamhhbigjfaaDoor
