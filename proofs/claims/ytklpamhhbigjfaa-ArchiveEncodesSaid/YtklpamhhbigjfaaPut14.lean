/- Chapter 14: the function 'put' of items. -/
import Derived.Test.YtklpamhhbigjfaaValid14
import Derived.Test.YtklpamhhbigjfaaWire
namespace Go.Proofs.Ytklpamhhbigjfaa
open Go.RowKit
set_option linter.unusedSimpArgs false
set_option linter.unusedVariables false

def putS (s : ByteArray) (l : List PV) : ByteArray := l.foldl (fun s p => s ++ numS p.2.2.toNat) s
theorem putS_snoc (s : ByteArray) (l : List PV) (k : Nat) (hk : k < l.length) : putS s (l.take (k + 1)) = putS s (l.take k) ++ numS (l[k]).2.2.toNat := by
  rw [List.take_succ_eq_append_getElem hk, putS, List.foldl_append]
  rfl

set_option maxHeartbeats 2000000 in
set_option maxRecDepth 100000 in
theorem put_any {w0 w : World} {L1 L2 : List BK} {gs gl cap : Nat} (s0 : ByteArray) (l : List PV) (hl : l.length ≤ 1000) (hs0 : s0.size ≤ 1000000) (hst : St w0 w (L1 ++ ⟨gs, #[.string s0], 9⟩ :: L2))
    (hP : ∀ (s' : ByteArray) w', St w0 w' (L1 ++ ⟨gs, #[.string s'], 9⟩ :: L2) → PtrsAt w' gl 0 l ∧ ValsAt w' l) (hok : ∀ p ∈ l, nOk p.2.2 = true) :
    Calls Try.prog 57 #[.slice (some ⟨gl, 0, none⟩) l.length cap, .pointer (some ⟨gs, 0, none⟩)] w fun e w' => e = .returned (.tuple #[]) ∧ St w0 w' (L1 ++ ⟨gs, #[.string (putS s0 l)], 9⟩ :: L2) := by
  obtain ⟨n, hn⟩ : ∃ n, n = l.length := ⟨_, rfl⟩
  rw [← hn] at hl ⊢
  have HN := Lib.hid hn
  have HP := Lib.hid hP
  have HO := Lib.hid hok
  clear hn hP hok
  go_enter Try.func57, Try.ntmps57
  go_wp2
  go_loopw [7] (fun t wr => ∃ (k : Nat) (s : ByteArray), k ≤ n ∧ t = .int .i64 k ∧ Hid (s = putS s0 (l.take k)) ∧ s.size ≤ 1000000 + 10 * k ∧ St w0 wr (L1 ++ ⟨gs, #[.string s], 9⟩ :: L2)) (fun t _ => n - (intOf t).toNat)
  case atStart => exact ⟨0, s0, Nat.zero_le _, rfl, by show _ = _; simp [putS], by omega, hst⟩
  case round =>
    clear hst
    obtain ⟨k, s, hk, rfl, HS, hss, hst⟩ := hrel
    by_cases hlt : k < n
    · have hkl : k < l.length := by rw [← HN.out]; exact hlt
      obtain ⟨b, o, v, hbo⟩ : ∃ b o v, l[k] = (b, o, v) := ⟨_, _, _, rfl⟩
      have hp : wr.cell? ⟨gl, k, none⟩ = some (pt b o) := by
        have := (HP.out s wr hst).1 k hkl
        rw [hbo, Nat.zero_add] at this
        exact this
      have hv : wr.cell? ⟨b, o, none⟩ = some (.int .i64 v) := by
        have := (HP.out s wr hst).2 _ (List.getElem_mem hkl)
        rw [hbo] at this
        exact this
      have hnok : nOk v = true := by
        have := HO.out _ (List.getElem_mem hkl)
        rw [hbo] at this
        exact this
      simp only [nOk, decide_eq_true_eq] at hnok
      obtain ⟨v1, v2⟩ := hnok
      obtain ⟨hcs, hfs, hls⟩ := hst.cM
      have hc0 : wr.cell? ⟨gs, 0, none⟩ = some (.string s) := hcs 0
      have hf0 : wr.frozen? ⟨gs, 0, none⟩ = false := hfs 0
      have HBO := Lib.hid hbo
      have w1 : IntKind.u64.wrap v = v := IntWalk.u64_in _ (by omega)
      have nz := numS_size (n := v.toNat) (by omega)
      dsimp only at hls
      clear hbo hcs hfs
      go_wp2
      go_region_with (go_at_call 58; refine (appendNumber_int _ _ _ (by omega) (by omega) (by omega)).mono ?_; rintro e w' ⟨rfl, hb⟩; have hc9 : w'.cell? ⟨gs, 0, none⟩ = some (.string s) := (hb.cell (p := ⟨gs, 0, none⟩) hls).trans hc0; have hf9 : w'.frozen? ⟨gs, 0, none⟩ = false := (hb.frozen (p := ⟨gs, 0, none⟩) hls).trans hf0)
      all_goals
        have hst2 : St w0 (w'.setCell ⟨gs, 0, none⟩ (.string (s ++ numS v.toNat))) (L1 ++ ⟨gs, #[.string (s ++ numS v.toNat)], 9⟩ :: L2) := (hst.drew.below hb).setM 0 (.string (s ++ numS v.toNat))
        go_wp2
        go_roundw
        case measure => simp [intOf]; omega
        case rel => exact ⟨k + 1, _, by omega, by go_num, by show _ = _; rw [putS_snoc s0 l k hkl, ← HS.out, HBO.out], by rw [ByteArray.size_append]; omega, hst2⟩
    · have hS : s = putS s0 l := by rw [HS.out, List.take_of_length_le (by have := HN.out; omega)]
      go_wp2
      go_end0
      exact ⟨rfl, hS ▸ hst⟩
end Go.Proofs.Ytklpamhhbigjfaa
