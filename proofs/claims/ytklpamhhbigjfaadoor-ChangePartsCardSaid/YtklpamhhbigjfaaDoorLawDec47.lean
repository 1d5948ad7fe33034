/- Chapter 47: Decode and Encode are inverse to each other, plain. -/
import Derived.Test.YtklpamhhbigjfaaDoorLawWire
import Derived.Test.YtklpamhhbigjfaaDoorDecP47
import Derived.Test.YtklpamhhbigjfaaDoorEncode47
namespace Go.Proofs.YtklpamhhbigjfaaDoor
open Go.RowKit

theorem app_emp (s : ByteArray) : s ++ (⟨#[]⟩ : ByteArray) = s := by apply list_inj; rw [list_append]; simp
theorem encL_pull : ∀ (l : List Chg) (s : ByteArray), encL s l = s ++ encL ⟨#[]⟩ l
  | [], s => (app_emp s).symm
  | c :: l, s => by
    show encL (s ++ encC c) l = s ++ encL (⟨#[]⟩ ++ encC c) l
    rw [encL_pull l (s ++ encC c), encL_pull l (⟨#[]⟩ ++ encC c), emp_append, ByteArray.append_assoc]
theorem encL_cons (c : Chg) (l : List Chg) : encL ⟨#[]⟩ (c :: l) = encC c ++ encL ⟨#[]⟩ l := by
  show encL (⟨#[]⟩ ++ encC c) l = _
  rw [emp_append, encL_pull]
theorem encL_last (c : Chg) (l : List Chg) : encL ⟨#[]⟩ (l ++ [c]) = encL ⟨#[]⟩ l ++ encC c := by rw [encL, List.foldl_append]; rfl

theorem int_nat {a : Int} (h : 0 ≤ a) : ((a.toNat : Nat) : Int) = a := Int.toNat_of_nonneg h
theorem rChg_enc {c : Chg} (hv : c.valid = true) (t : ByteArray) : rChg (encC c ++ t, 0) = (c, (t, 0)) := by
  obtain ⟨h1, h2, h3, h4, h5⟩ := valid_bounds hv
  unfold rChg encC
  simp only [ByteArray.append_assoc]
  rw [rCnt_num (most := 7) _ (by omega) (by omega)]
  dsimp only
  rw [rCnt_num (most := 1099511627776) _ (by omega) (by omega)]
  dsimp only
  rw [rTxt_txt (most := 32) _ _ (by omega) (by omega)]
  dsimp only
  rw [rTxt_txt (most := 1000) _ _ (by omega) (by omega)]
  dsimp only
  rw [rTxt_txt (most := 31) _ _ (by omega) (by omega), int_nat h1.1, int_nat (by omega)]
theorem rChgs_enc {l : List Chg} (hv : ∀ c ∈ l, c.valid = true) : ∀ k, k ≤ l.length → rChgs k (encL ⟨#[]⟩ l, 0) = (l.take k, (encL ⟨#[]⟩ (l.drop k), 0))
  | 0, _ => by simp [rChgs]
  | k + 1, h => by
    have hk : k < l.length := h
    have e : l.drop k = l[k] :: l.drop (k + 1) := List.drop_eq_getElem_cons hk
    unfold rChgs
    rw [rChgs_enc hv k (by omega), e, encL_cons, rChg_enc (hv _ (List.getElem_mem _)), List.take_succ_eq_append_getElem hk]
theorem dHead_enc {num unit : Int} {l : List Chg} (h : soundB num unit l = true) : dHead (encR num unit l) = (num.toNat, unit.toNat, l.length, (encL ⟨#[]⟩ l, 0)) := by
  obtain ⟨⟨r1, r2, r3, r4, r5, r6⟩, hv⟩ := sound_facts h
  unfold dHead encR
  rw [encL_pull]
  simp only [ByteArray.append_assoc]
  rw [rCnt_num (most := 1099511627776) _ (by omega) (by omega)]
  dsimp only
  rw [rCnt_num (most := 1099511627776) _ (by omega) (by omega)]
  dsimp only
  rw [rCnt_num (most := 300) _ (by omega) (by omega)]
theorem dec_enc {num unit : Int} {l : List Chg} (h : soundB num unit l = true) (hz : (encR num unit l).size ≤ 16384) :
    decE (encR num unit l) = 0 ∧ decNum (encR num unit l) = num ∧ decUnit (encR num unit l) = unit ∧ decL (encR num unit l) = l := by
  obtain ⟨⟨r1, r2, r3, r4, r5, r6⟩, hv⟩ := sound_facts h
  have e0 := dHead_enc h
  have e1 : dAll (encR num unit l) = (l, (⟨#[]⟩, 0)) := by
    unfold dAll
    rw [e0]
    dsimp only
    rw [rChgs_enc hv l.length (Nat.le_refl _), List.take_length, List.drop_length]
    rfl
  have e2 : (dNum (encR num unit l) : Int) = num := by unfold dNum; rw [e0]; exact int_nat (by omega)
  have e3 : (dUnit (encR num unit l) : Int) = unit := by unfold dUnit; rw [e0]; exact int_nat (by omega)
  have ok : DecOk (encR num unit l) := ⟨hz, by rw [e1]; rfl, by rw [e1, e2, e3]; exact h⟩
  rw [decE, if_pos ok, decNum, if_pos ok, decUnit, if_pos ok, decL, if_pos ok, e1]
  exact ⟨rfl, e2, e3, rfl⟩
theorem rChg_back {r : RS} (h : (rChg r).2.2 = 0) : r.2 = 0 ∧ r.1 = encC (rChg r).1 ++ (rChg r).2.1 := by
  simp only [rChg] at h ⊢
  obtain ⟨a1, a2, _⟩ := rTxt_back h
  obtain ⟨b1, b2, _⟩ := rTxt_back a1
  obtain ⟨c1, c2, _⟩ := rTxt_back b1
  obtain ⟨d1, d2, _⟩ := rCnt_back c1
  obtain ⟨e1, e2, _⟩ := rCnt_back d1
  refine ⟨e1, ?_⟩
  simp only [encC, ByteArray.append_assoc, Int.toNat_natCast]
  rw [← a2, ← b2, ← c2, ← d2]
  exact e2
theorem rChgs_back : ∀ (k : Nat) {r : RS}, (rChgs k r).2.2 = 0 → r.2 = 0 ∧ r.1 = encL ⟨#[]⟩ (rChgs k r).1 ++ (rChgs k r).2.1
  | 0, r, h => ⟨h, (emp_append _).symm⟩
  | k + 1, r, h => by
    simp only [rChgs] at h ⊢
    obtain ⟨a1, a2⟩ := rChg_back h
    obtain ⟨b1, b2⟩ := rChgs_back k a1
    refine ⟨b1, ?_⟩
    rw [encL_last, ByteArray.append_assoc, ← a2]
    exact b2
theorem enc_dec {s : ByteArray} (h : DecOk s) : encR (decNum s) (decUnit s) (decL s) = s ∧ soundB (decNum s) (decUnit s) (decL s) = true := by
  have h2 := h
  obtain ⟨hz, he, hs⟩ := h2
  rw [decNum, if_pos h, decUnit, if_pos h, decL, if_pos h]
  refine ⟨?_, hs⟩
  have hend : (dAll s).2.2 = 0 ∧ (dAll s).2.1.size = 0 := by
    unfold rEnd at he
    split at he
    · cases he
    · rename_i hn
      refine ⟨he, ?_⟩
      by_cases hx : (dAll s).2.1.size = 0
      · exact hx
      · exact absurd ⟨he, hx⟩ hn
  obtain ⟨a1, a2⟩ := rChgs_back _ (show (rChgs (dHead s).2.2.1 (dHead s).2.2.2).2.2 = 0 from hend.1)
  have hemp : (dAll s).2.1 = ⟨#[]⟩ := by
    apply list_inj
    have : (dAll s).2.1.data.toList.length = 0 := by simpa using hend.2
    rw [List.length_eq_zero_iff.1 this]
  have hlen : (dAll s).1.length = (dHead s).2.2.1 := rChgs_len _ _
  obtain ⟨b1, b2, _⟩ := rCnt_back a1
  obtain ⟨c1, c2, _⟩ := rCnt_back b1
  obtain ⟨d1, d2, _⟩ := rCnt_back c1
  rw [encR, encL_pull, hlen]
  simp only [Int.toNat_natCast, ByteArray.append_assoc]
  have e1 : encL ⟨#[]⟩ (dAll s).1 = (dHead s).2.2.2.1 := by
    have := a2
    rw [show (rChgs (dHead s).2.2.1 (dHead s).2.2.2).2.1 = ⟨#[]⟩ from hemp, app_emp] at this
    exact this.symm
  rw [e1]
  show numS (rCnt 1099511627776 (s, 0)).1 ++ (numS (rCnt 1099511627776 (rCnt 1099511627776 (s, 0)).2).1 ++ (numS (rCnt 300 (rCnt 1099511627776 (rCnt 1099511627776 (s, 0)).2).2).1 ++ (rCnt 300 (rCnt 1099511627776 (rCnt 1099511627776 (s, 0)).2).2).2.1)) = s
  rw [← b2, ← c2, ← d2]
end Go.Proofs.YtklpamhhbigjfaaDoor
