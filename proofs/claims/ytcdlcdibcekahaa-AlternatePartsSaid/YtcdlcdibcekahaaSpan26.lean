/- The reference of chapter 26: Span. -/
import Derived.Test.YtcdlcdibcekahaaRef26
import Derived.Test.YtcdlcdibcekahaaSpan
namespace Go.Proofs.Ytcdlcdibcekahaa
open Go.RowKit
set_option linter.unusedSimpArgs false
set_option linter.unusedVariables false

/-- a string with bytes 255 behind it -/
def ffs (k : ByteArray) (j : Nat) : ByteArray := k ++ ⟨(List.replicate j 255).toArray⟩
theorem ffs_zero (k : ByteArray) : ffs k 0 = k := by
  apply ByteArray.ext
  simp [ffs]
theorem ffs_succ (k : ByteArray) (j : Nat) : ffs k j ++ ⟨#[255]⟩ = ffs k (j + 1) := by
  apply ByteArray.ext
  apply Array.toList_inj.1
  simp [ffs, List.replicate_succ']
theorem ffs_size (k : ByteArray) (j : Nat) : (ffs k j).size = k.size + j := by
  rw [ffs, ByteArray.size_append]
  congr 1
  show (List.replicate j (255 : UInt8)).toArray.size = j
  simp

set_option maxHeartbeats 1000000 in
theorem span26_any (d : DS) (k : ByteArray) (w : World) (hsz : k.size ≤ 140737488355328) :
    Calls Try.prog 28 #[d.v, .string k] w fun e w' => e = .returned (.tuple #[.agg (rangeV (spanLo d k) (spanHi d k) false), .int .i64 (spanE d k)]) ∧ Below w.heap.size w w' := by
  have hst := St.start w
  cases hk : d.known with
  | false =>
    go_enter Try.func28, Try.ntmps28
    go_wp2_with (first | ((with_reducible refine at_dst (N := 2) rfl ?_); refine wpList_box hst 23 d.cells rfl ?hr ?_; (case hr => first | (go_simp; done) | (go_simp; rfl)); clear hst; intro g1 w1 hst; obtain ⟨hc1, hf1, hl1⟩ := hst.c0) | ((with_reducible refine at_dst (N := 4) rfl ?_); refine wpList_box hst 41 (rangeV ⟨#[]⟩ ⟨#[]⟩ false) rfl ?hr ?_; (case hr => first | (go_simp; done) | (go_simp; rfl)); clear hst; intro g2 w2 hst; obtain ⟨hc2, hf2, hl2⟩ := hst.c0) | ((with_reducible refine at_dst (N := 7) rfl ?_); (refine wpList_load_own hst ⟨g1, d.cells, 23⟩ (by simp) rfl _ rfl rfl _ rfl Try.underlying23 (by kernel_rfl) ?_)) | (go_at_call 55; refine (isAlt26_any d _).mono ?_; rintro e w' ⟨rfl, hb⟩; replace hst := hst.below hb; clear hb; clear hc1 hf1 hc2 hf2; obtain ⟨hc2, hf2, hl2⟩ := hst.c0; obtain ⟨hc1, hf1, hl1⟩ := hst.c1) | ((with_reducible refine at_store (p := 4) rfl ?_); refine wpList_put0 hst rfl _ _ rfl (rangeV ⟨#[]⟩ ⟨#[]⟩ false) rfl rfl (by kernel_rfl) rfl (by simp [rangeV, Value.oneCell']) ?_; clear hst; intro wp hst; clear hc1 hf1 hc2 hf2; obtain ⟨hc2, hf2, hl2⟩ := hst.c0; obtain ⟨hc1, hf1, hl1⟩ := hst.c1))
    have e1 : spanE d k = 1 := by simp [spanE, hk]
    refine bodyPost_ret (results_cell_tmp rfl _ _ g2 _ (rangeV ⟨#[]⟩ ⟨#[]⟩ false) _ _ rfl (hst.blk _ List.mem_cons_self) (Try.underlying41) rfl (by kernel_rfl)) rfl ⟨?_, hst.base⟩
    simp [spanLo, spanHi, e1]
  | true =>
    obtain ⟨⟨b1, b2⟩, ⟨b3, b4⟩, b5⟩ := ((DS.known_iff d).1 hk).bounds
    by_cases h1 : (k.size : Int) = d.altLen
    · have h1b : ((k.size : Int) != d.altLen) = false := by simp [h1]
      have H1 := Lib.hid h1
      have hks : (k.size : Int) < d.keyLen := by omega
      clear h1
      go_enter Try.func28, Try.ntmps28
      go_wp2_with (first | ((with_reducible refine at_dst (N := 2) rfl ?_); refine wpList_box hst 23 d.cells rfl ?hr ?_; (case hr => first | (go_simp; done) | (go_simp; rfl)); clear hst; intro g1 w1 hst; obtain ⟨hc1, hf1, hl1⟩ := hst.c0) | ((with_reducible refine at_dst (N := 4) rfl ?_); refine wpList_box hst 41 (rangeV ⟨#[]⟩ ⟨#[]⟩ false) rfl ?hr ?_; (case hr => first | (go_simp; done) | (go_simp; rfl)); clear hst; intro g2 w2 hst; obtain ⟨hc2, hf2, hl2⟩ := hst.c0) | ((with_reducible refine at_dst (N := 7) rfl ?_); (refine wpList_load_own hst ⟨g1, d.cells, 23⟩ (by simp) rfl _ rfl rfl _ rfl Try.underlying23 (by kernel_rfl) ?_)) | (go_at_call 55; refine (isAlt26_any d _).mono ?_; rintro e w' ⟨rfl, hb⟩; replace hst := hst.below hb; clear hb; clear hc1 hf1 hc2 hf2; obtain ⟨hc2, hf2, hl2⟩ := hst.c0; obtain ⟨hc1, hf1, hl1⟩ := hst.c1))
      go_loop [6] (fun t => ∃ (j : Nat) (s : ByteArray), t = .string s ∧ Hid (s = ffs k j) ∧ (s.size : Int) = k.size + j ∧ (k.size : Int) + j ≤ d.keyLen) (fun t => match t with | .string s => (d.keyLen - s.size).toNat | _ => 0)
      case atStart => exact ⟨0, k, rfl, (ffs_zero k).symm, by omega, by omega⟩
      case round =>
        obtain ⟨j, s, rfl, hs, hss, hle⟩ := hrel
        by_cases hlt : (s.size : Int) < d.keyLen
        · go_wp2
          go_round
          case rel => exact ⟨j + 1, s ++ ⟨#[255]⟩, rfl, by show _ = _; rw [hs.out, ffs_succ], by rw [ByteArray.size_append]; show ((s.size + 1 : Nat) : Int) = _; omega, by omega⟩
          case measure =>
            show (d.keyLen - ((s ++ (⟨#[255]⟩ : ByteArray)).size : Int)).toNat < (d.keyLen - (s.size : Int)).toNat
            rw [ByteArray.size_append]
            show (d.keyLen - ((s.size + 1 : Nat) : Int)).toNat < _
            omega
        · have hj : (j : Int) = d.keyLen - d.altLen := by have := H1.out; omega
          have HJ := Lib.hid hj
          clear hj
          go_wp2_with (first | ((with_reducible refine at_store (p := 4) rfl ?_); refine wpList_put0 hst rfl _ _ rfl (rangeV k s false) rfl rfl (by kernel_rfl) rfl (by simp [rangeV, Value.oneCell']) ?_; clear hst; intro wp hst; clear hc1 hf1 hc2 hf2; obtain ⟨hc2, hf2, hl2⟩ := hst.c0; obtain ⟨hc1, hf1, hl1⟩ := hst.c1))
          have e1 : spanE d k = 0 := by simp [spanE, hk, H1.out]
          refine bodyPost_ret (results_cell_tmp rfl _ _ g2 _ (rangeV k s false) _ _ rfl (hst.blk _ List.mem_cons_self) (Try.underlying41) rfl (by kernel_rfl)) rfl ⟨?_, hst.base⟩
          rw [spanLo, spanHi, e1, hs.out, ← HJ.out]
          rfl
    · have h1b : ((k.size : Int) != d.altLen) = true := by simp [h1]
      have H1 := Lib.hid h1
      clear h1
      go_enter Try.func28, Try.ntmps28
      go_wp2_with (first | ((with_reducible refine at_dst (N := 2) rfl ?_); refine wpList_box hst 23 d.cells rfl ?hr ?_; (case hr => first | (go_simp; done) | (go_simp; rfl)); clear hst; intro g1 w1 hst; obtain ⟨hc1, hf1, hl1⟩ := hst.c0) | ((with_reducible refine at_dst (N := 4) rfl ?_); refine wpList_box hst 41 (rangeV ⟨#[]⟩ ⟨#[]⟩ false) rfl ?hr ?_; (case hr => first | (go_simp; done) | (go_simp; rfl)); clear hst; intro g2 w2 hst; obtain ⟨hc2, hf2, hl2⟩ := hst.c0) | ((with_reducible refine at_dst (N := 7) rfl ?_); (refine wpList_load_own hst ⟨g1, d.cells, 23⟩ (by simp) rfl _ rfl rfl _ rfl Try.underlying23 (by kernel_rfl) ?_)) | (go_at_call 55; refine (isAlt26_any d _).mono ?_; rintro e w' ⟨rfl, hb⟩; replace hst := hst.below hb; clear hb; clear hc1 hf1 hc2 hf2; obtain ⟨hc2, hf2, hl2⟩ := hst.c0; obtain ⟨hc1, hf1, hl1⟩ := hst.c1) | ((with_reducible refine at_store (p := 4) rfl ?_); refine wpList_put0 hst rfl _ _ rfl (rangeV ⟨#[]⟩ ⟨#[]⟩ false) rfl rfl (by kernel_rfl) rfl (by simp [rangeV, Value.oneCell']) ?_; clear hst; intro wp hst; clear hc1 hf1 hc2 hf2; obtain ⟨hc2, hf2, hl2⟩ := hst.c0; obtain ⟨hc1, hf1, hl1⟩ := hst.c1))
      have e1 : spanE d k = 2 := by simp [spanE, hk, H1.out]
      refine bodyPost_ret (results_cell_tmp rfl _ _ g2 _ (rangeV ⟨#[]⟩ ⟨#[]⟩ false) _ _ rfl (hst.blk _ List.mem_cons_self) (Try.underlying41) rfl (by kernel_rfl)) rfl ⟨?_, hst.base⟩
      simp [spanLo, spanHi, e1]
end Go.Proofs.Ytcdlcdibcekahaa
