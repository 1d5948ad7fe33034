/- Hexadecimal: the program's and the reference's. -/
import Derived.Test.YtklpamhhbigjfaaDoorKit9
import Derived.Test.YtklpamhhbigjfaaDoorVarint
import Derived.Deep.RegionHeld3
import Derived.Deep.DrawnRows
namespace Go.Proofs.YtklpamhhbigjfaaDoor
open Go.RowKit
set_option linter.unusedSimpArgs false
set_option linter.unusedVariables false

def hdL : List UInt8 := [48, 49, 50, 51, 52, 53, 54, 55, 56, 57, 97, 98, 99, 100, 101, 102]
def hexB (b : UInt8) : List UInt8 := [hdL.getD (b.toNat / 16) 0, hdL.getD (b.toNat % 16) 0]
def hexL (l : List UInt8) : List UInt8 := l.flatMap hexB
theorem hexL_snoc (l : List UInt8) (k : Nat) (h : k < l.length) : hexL (l.take (k + 1)) = hexL (l.take k) ++ hexB l[k] := by
  rw [List.take_succ_eq_append_getElem h, hexL, List.flatMap_append]
  simp [hexL]
theorem hexL_len : ∀ (l : List UInt8), (hexL l).length = 2 * l.length
  | [] => rfl
  | b :: l => by
    have := hexL_len l
    show (hexB b ++ hexL l).length = _
    simp only [List.length_append, hexB, List.length_cons, List.length_nil]
    omega

theorem bits_and15_fin : ∀ x : Fin 256, bits BinOp.and IntKind.u8 (x.val : Int) 15 = ((x.val % 16 : Nat) : Int) := by decide +kernel
abbrev digS : ByteArray := ⟨#[48, 49, 50, 51, 52, 53, 54, 55, 56, 57, 97, 98, 99, 100, 101, 102]⟩
theorem idx_dig : ∀ (d : Nat), d < 16 → ∀ w, (Instr.index 9 (.string digS) (.int .u8 (d : Int))).run Tryd.prog w = .ok (.int .u8 ((hdL.getD d 0).toNat : Int)) w
  | 0, _ => fun _ => by kernel_rfl
  | 1, _ => fun _ => by kernel_rfl
  | 2, _ => fun _ => by kernel_rfl
  | 3, _ => fun _ => by kernel_rfl
  | 4, _ => fun _ => by kernel_rfl
  | 5, _ => fun _ => by kernel_rfl
  | 6, _ => fun _ => by kernel_rfl
  | 7, _ => fun _ => by kernel_rfl
  | 8, _ => fun _ => by kernel_rfl
  | 9, _ => fun _ => by kernel_rfl
  | 10, _ => fun _ => by kernel_rfl
  | 11, _ => fun _ => by kernel_rfl
  | 12, _ => fun _ => by kernel_rfl
  | 13, _ => fun _ => by kernel_rfl
  | 14, _ => fun _ => by kernel_rfl
  | 15, _ => fun _ => by kernel_rfl
  | _ + 16, h => absurd h (by omega)
set_option maxHeartbeats 1000000 in
set_option maxRecDepth 100000 in
theorem hexadecimal_any (s : ByteArray) (w : World) (hs : s.size ≤ 1000000) :
    Calls Tryd.prog 56 #[.string s] w fun e w' => e = .returned (.string (bs (hexL s.data.toList))) ∧ Below w.heap.size w w' := by
  have hst := St.start w
  go_enter Tryd.func56, Tryd.ntmps56
  go_wp2_with (first | ((with_reducible refine at_dst (N := 7) rfl ?_); refine wpList_bytes hst 9 74 5 s _ rfl rfl rfl (Tryd.underlying9) (Tryd.underlying74) (Tryd.underlying5) ?_; intro g cap w1 hst1 HB hg; have hbase := hst1.base; clear hst hst1; have hst := St.start w1))
  go_loopw [3, 9] (fun t3 t9 wr => ∃ (k : Nat) (R : List BK), t9 = .int .i64 k ∧ k ≤ s.size ∧ Hid (RowIs 5 1 t3 (2 * k) ((hexL (s.data.toList.take k)).map byV) R) ∧ St w1 wr R) (fun _ t9 _ => s.size - (intOf t9).toNat)
  case atStart => exact ⟨0, [], rfl, Nat.zero_le _, RowIs.nil _ _, hst⟩
  case round =>
    clear hst
    obtain ⟨k, R, rfl, hk, HR, hst⟩ := hrel
    by_cases hlt : k < s.size
    · have hcell := (HB.out.below hg hst.base) k hlt
      obtain ⟨x, hx⟩ : ∃ x, x = s[k] := ⟨_, rfl⟩
      rw [← hx] at hcell
      have HX := Lib.hid hx
      have hx256 := x.toNat_lt
      clear hx
      obtain ⟨d1, hd1⟩ : ∃ d, d = x.toNat / 16 := ⟨_, rfl⟩
      obtain ⟨d2, hd2⟩ : ∃ d, d = x.toNat % 16 := ⟨_, rfl⟩
      have h15 : bits BinOp.and IntKind.u8 (x.toNat : Int) 15 = (d2 : Int) := by rw [hd2]; exact bits_and15_fin ⟨x.toNat, hx256⟩
      have h2 : d2 < 16 := by omega
      have h1 : d1 < 16 := by omega
      have i1 := idx_dig d1 h1
      have i2 := idx_dig d2 h2
      obtain ⟨x1, hx1⟩ : ∃ c, c = hdL.getD d1 0 := ⟨_, rfl⟩
      obtain ⟨x2, hx2⟩ : ∃ c, c = hdL.getD d2 0 := ⟨_, rfl⟩
      rw [← hx1] at i1
      rw [← hx2] at i2
      have hhx : hexB x = [x1, x2] := by rw [hexB, hx1, hx2, hd1, hd2]
      have hsh : (x.toNat : Int) / 16 = (d1 : Int) := by omega
      have HH := Lib.hid hhx
      clear hx1 hx2 hhx
      have HD1 := Lib.hid hd1
      have HD2 := Lib.hid hd2
      clear hd1 hd2
      go_wp2
      go_region_held3 (fun w' => True) (trivial) ((refine step_append_row (L := [⟨wr.heap.size, #[byV x1, byV x2], 5⟩]) (hst.box _ _).drew HR.out (by rfl) (.tmp 13) (.tmp 20) 74 (by rfl) (.int .u8 0) 1 (Tryd.underlying74) (by kernel_rfl) rfl (by decide) (by rfl) ⟨wr.heap.size, 0, none⟩ 2 2 [byV x1, byV x2] (by rfl) rfl (news_own (hst.box _ _).drew) (by simp [byV, Value.oneCell']) (by unfold maxLen; omega) (by omega) ?_; intro v' R' w' hst2 HR2))
      all_goals (have HR3 := Lib.hid HR2; clear HR2 i1 i2 h15 hsh hcell; go_wp2; go_roundw; (case measure => simp [intOf]; omega); (case rel => (refine ⟨k + 1, R', by go_num, by omega, ?_, hst2.sub ((List.Sublist.refl _).cons _)⟩; show RowIs _ _ _ _ _ _; have hkl : k < s.data.toList.length := (by simpa using hlt); have e : s.data.toList[k] = s[k] := (by simp; rfl); rw [hexL_snoc _ _ hkl, e, ← HX.out, HH.out, List.map_append, show 2 * (k + 1) = 2 * k + 2 by omega]; exact HR3.out)))
    · have hkn : k = s.size := by omega
      subst hkn
      have hall : s.data.toList.take s.size = s.data.toList := List.take_of_length_le (by simp)
      have hr := HR.out
      rw [hall] at hr
      have hcv := conv_rowIs (P := Tryd.prog) (L := []) (src := 74) (dst := 9) hr hst (Tryd.underlying74) (Tryd.underlying5) (Tryd.underlying9)
      have HCV := Lib.hid hcv
      clear hr hcv HR hall
      go_wp2_with (first | ((with_reducible refine at_dst (N := 24) rfl ?_); refine wpList_run (v := .string (bs (hexL s.data.toList))) rfl (exec_convert rfl rfl HCV.out) ?_))
      go_ret
      exact ⟨rfl, below_next hbase hst.base⟩
end Go.Proofs.YtklpamhhbigjfaaDoor
