/- The package change: Valid. -/
import Derived.Test.YtklpamhhbigjfaaDoorForms47
import Derived.Test.YtklpamhhbigjfaaDoorVol47
import Derived.Deep.RegionHeld3
import Derived.Deep.DeepCutAuto
import Derived.Deep.DrawnRows
namespace Go.Proofs.YtklpamhhbigjfaaDoor
open Go.RowKit
set_option linter.unusedSimpArgs false
set_option linter.unusedVariables false

theorem find_forms (g : Nat) (k : Int) : Instr.findNow (.int .i64) (.int .i64 k) (formEs g) 0 =
    some (if 0 ≤ k ∧ k ≤ 7 then some (k.toNat, formV (kF k).1 (kF k).2.1 (kF k).2.2.1 (kF k).2.2.2.1 (kF k).2.2.2.2.1 (kF k).2.2.2.2.2 (kSh g k)) else none) := by
  by_cases h : 0 ≤ k ∧ k ≤ 7
  · obtain ⟨n, rfl⟩ := Int.eq_ofNat_of_zero_le h.1
    have hn : n ≤ 7 := by omega
    rw [if_pos h]
    match n, hn with
    | 0, _ => rfl
    | 1, _ => rfl
    | 2, _ => rfl
    | 3, _ => rfl
    | 4, _ => rfl
    | 5, _ => rfl
    | 6, _ => rfl
    | 7, _ => rfl
  · rw [if_neg h]
    have e0 : (k == 0) = false := by simp; omega
    have e1 : (k == 1) = false := by simp; omega
    have e2 : (k == 2) = false := by simp; omega
    have e3 : (k == 3) = false := by simp; omega
    have e4 : (k == 4) = false := by simp; omega
    have e5 : (k == 5) = false := by simp; omega
    have e6 : (k == 6) = false := by simp; omega
    have e7 : (k == 7) = false := by simp; omega
    simp [formEs, Instr.findNow, Instr.sameNow, ent, e0, e1, e2, e3, e4, e5, e6, e7]

theorem lookup_forms {w : World} {gm g n : Nat} (h : w.heap[gm]? = some (.map (formEs g).toArray n)) (k : Int) :
    (Instr.lookup 63 (.map (some gm)) (.int .i64 k) true).run Tryd.prog w = .ok (.tuple #[formV (kF k).1 (kF k).2.1 (kF k).2.2.1 (kF k).2.2.2.1 (kF k).2.2.2.2.1 (kF k).2.2.2.2.2 (kSh g k), .bool (kHas k)]) w := by
  have hf := find_forms g k
  by_cases hk : 0 ≤ k ∧ k ≤ 7
  · rw [if_pos hk] at hf
    have e : kHas k = true := by simp [kHas, hk]
    rw [e]
    exact run_lookup_hit .i64 k _ _ (Tryd.underlying63) (Tryd.underlying3) h hf
  · rw [if_neg hk] at hf
    have e : kHas k = false := by simp only [kHas, decide_eq_false_iff_not]; exact hk
    have e2 : kF k = ([], 0, 0, 0, 0, false) := by
      unfold kF
      rw [if_neg (by omega), if_neg (by omega), if_neg (by omega), if_neg (by omega), if_neg (by omega), if_neg (by omega), if_neg (by omega), if_neg (by omega)]
    have e3 : kSh g k = .nilFunc := by
      unfold kSh
      rw [if_neg (by omega), if_neg (by omega), if_neg (by omega), if_neg (by omega)]
    rw [e, e2, e3]
    exact run_lookup_miss .i64 k _ (Tryd.underlying63) (Tryd.underlying3) (by kernel_rfl) h hf

theorem kSh_cell (g : Nat) (k : Int) : (kSh g k).oneCell' = true := by
  unfold kSh
  split
  · rfl
  split
  · rfl
  split
  · rfl
  split
  · rfl
  · rfl
theorem run_store_kSh (W : World) (a : Addr) (m : Mode) (g : Nat) (k : Int) : (store a (kSh g k) m).run Tryd.prog W = stored Tryd.prog W a (kSh g k) m := by
  have h := kSh_cell g k
  generalize kSh g k = v at *
  cases v <;> first | (exact run_store _ W a _ m rfl) | (simp [Value.oneCell'] at h)
set_option maxHeartbeats 2000000 in
set_option maxRecDepth 100000 in
theorem valid47_any (c : Chg) (w : World) (hs : c.vol.size ≤ 140737488355328) :
    Calls Tryd.prog 11 #[c.v] w fun e w' => e = .returned (.bool c.valid) ∧ Below w.heap.size w w' := by
  have hst := St.start w
  obtain ⟨Wd, a, b, cc, d, v, hF⟩ : ∃ Wd a b cc d v, kF c.kind = (Wd, a, b, cc, d, v) := ⟨_, _, _, _, _, _, rfl⟩
  obtain ⟨H, hH⟩ : ∃ H, H = kHas c.kind := ⟨_, rfl⟩
  have hlk : ∀ (w' : World) (gm g n : Nat), w'.heap[gm]? = some (.map (formEs g).toArray n) → (Instr.lookup 63 (.map (some gm)) (.int .i64 c.kind) true).run Tryd.prog w' = .ok (.tuple #[.agg (formC Wd a b cc d v (kSh g c.kind)), .bool H]) w' := by
    intro w' gm g n h
    have := lookup_forms h c.kind
    rw [hF, ← hH] at this
    exact this
  have HLK := Lib.hid hlk
  have HF := Lib.hid hF
  have HH := Lib.hid hH
  clear hlk hF hH
  go_enter Tryd.func11, Tryd.ntmps11
  go_upto_region 1 with (first | ((with_reducible refine at_dst (N := 1) rfl ?_); refine wpList_box hst 23 c.cells rfl ?hr ?_; (case hr => first | (go_simp; done) | (go_simp; rfl)); clear hst; intro g1 w1 hst; obtain ⟨hc1, hf1, hl1⟩ := hst.c0))
  go_cut [3, 4] (fun s3 s4 wx => ∃ (gf : Nat) (F : Value), s3 = .pointer (some ⟨gf, 0, none⟩) ∧ s4 = .bool H ∧ St w wx [⟨gf, formC Wd a b cc d v F, 61⟩, ⟨g1, c.cells, 23⟩])
  case first =>
    have hsF := fun (W : World) (a : Addr) (m : Mode) (g : Nat) => run_store_kSh W a m g c.kind
    have hl1' : g1 < w1.heap.size := hl1
    have hne1 : ¬ (w1.heap.size = g1) := by omega
    have hne2 : ¬ (g1 = w1.heap.size) := by omega
    have hk0 : w1.cell? ⟨g1, 0, none⟩ = some (.int .i64 c.kind) := hc1 0
    go_region_held3 (fun w' => w'.cell? ⟨g1, 0, none⟩ = some (.int .i64 c.kind)) (first | go_keep | exact (hcb _ _ hl1).trans hk0 | exact (hcb _ _ (by simp; omega)).trans (by go_keep) | exact (hcb _ _ (by simp; omega)).trans (by go_keep))
      (first
        | (go_at_call 34; refine (forms_any _).mono ?_; rintro e w' ⟨gm, g, rfl, hsm⟩; obtain ⟨hcb, hfb⟩ := bcell hsm.st.base; have hlk0 := HLK.out _ _ _ _ hsm.map; have hlk1 := fun o => HLK.out _ _ _ _ ((MapKept.heap_alloc w' o).2 _ hsm.lt ▸ hsm.map); have hlt := hsm.lt; have hcw : w'.cell? ⟨g1, 0, none⟩ = some (.int .i64 c.kind) := (by first | exact (hcb _ _ hl1).trans hk0 | exact (hcb _ _ (by simp; omega)).trans (by go_keep)); have hnw := World.new_ne w' _ hcw))
    all_goals go_wp2_with fail
    all_goals go_meet
    all_goals first  | exact ⟨_, _, rfl, rfl, (hst.drew.below hsm.st.base).box _ _⟩  | exact ⟨_, _, rfl, rfl, (((((((((hst.box _ _).drew.below hsm.st.base).set0 0 _).set0 1 _).set0 2 _).set0 3 _).set0 4 _).set0 5 _).set0 6 _)⟩
  case rest =>
    clear hst hc1 hf1 hl1
    obtain ⟨gf, F, rfl, rfl, hst⟩ := hcut
    obtain ⟨hc2, hf2, hl2⟩ := hst.c0
    obtain ⟨hc1, hf1, hl1⟩ := hst.c1
    have hval : c.valid = (H && c.idOk && formOk a b cc d v c) := by rw [Chg.valid, HF.out, HH.out]
    have HV := Lib.hid hval
    clear hval
    cases H with
    | false =>
      go_wp2
      go_ret
      exact ⟨ret_bool (by rw [HV.out]; rfl), hst.base⟩
    | true =>
      cases hi : c.idOk with
      | false =>
        have HI := Lib.hid hi
        simp only [Chg.idOk, decide_eq_false_iff_not] at hi
        go_wp2
        all_goals (go_ret; exact ⟨ret_bool (by rw [HV.out, HI.out]; rfl), hst.base⟩)
      | true =>
        have HI := Lib.hid hi
        simp only [Chg.idOk, decide_eq_true_eq] at hi
        obtain ⟨hi1, hi2⟩ := hi
        cases hk : fitsB a b c.key with
        | false =>
          have k1 := fun w => fits_any a b c.key w
          rw [hk] at k1
          have K1 := Lib.hid k1
          have HK := Lib.hid hk
          clear k1 hk
          go_wp2_with (first | (go_at_call 35; refine (K1.out _).mono ?_; rintro e w' ⟨rfl, hb⟩; replace hst := hst.below hb; clear hb; clear hc1 hf1 hc2 hf2; obtain ⟨hc2, hf2, hl2⟩ := hst.c0; obtain ⟨hc1, hf1, hl1⟩ := hst.c1))
          go_ret
          exact ⟨ret_bool (by rw [HV.out, HI.out, formOk, HK.out]; rfl), hst.base⟩
        | true =>
          have k1 := fun w => fits_any a b c.key w
          have k2 := fun w => fits_any cc d c.rcd w
          rw [hk] at k1
          have HK := Lib.hid hk
          clear hk
          cases hr : fitsB cc d c.rcd with
          | false =>
            rw [hr] at k2
            have HR := Lib.hid hr
            have K1 := Lib.hid k1
            have K2 := Lib.hid k2
            clear k1 k2 hr
            go_wp2_with (first | (go_at_call 35; first | (with_reducible refine (K1.out _).mono ?_; rintro e w' ⟨rfl, hb⟩; replace hst := hst.below hb; clear hb; clear hc1 hf1 hc2 hf2; obtain ⟨hc2, hf2, hl2⟩ := hst.c0; obtain ⟨hc1, hf1, hl1⟩ := hst.c1) | (with_reducible refine (K2.out _).mono ?_; rintro e w' ⟨rfl, hb⟩; replace hst := hst.below hb; clear hb; clear hc1 hf1 hc2 hf2; obtain ⟨hc2, hf2, hl2⟩ := hst.c0; obtain ⟨hc1, hf1, hl1⟩ := hst.c1)))
            go_ret
            exact ⟨ret_bool (by rw [HV.out, HI.out, formOk, HK.out, HR.out]; rfl), hst.base⟩
          | true =>
            rw [hr] at k2
            have HR := Lib.hid hr
            have K1 := Lib.hid k1
            have K2 := Lib.hid k2
            clear k1 k2 hr
            cases v with
            | true =>
              go_wp2_with (first | (go_at_call 35; first | (with_reducible refine (K1.out _).mono ?_; rintro e w' ⟨rfl, hb⟩; replace hst := hst.below hb; clear hb; clear hc1 hf1 hc2 hf2; obtain ⟨hc2, hf2, hl2⟩ := hst.c0; obtain ⟨hc1, hf1, hl1⟩ := hst.c1) | (with_reducible refine (K2.out _).mono ?_; rintro e w' ⟨rfl, hb⟩; replace hst := hst.below hb; clear hb; clear hc1 hf1 hc2 hf2; obtain ⟨hc2, hf2, hl2⟩ := hst.c0; obtain ⟨hc1, hf1, hl1⟩ := hst.c1)) | (go_at_call 36; refine (volumeName_any c.vol _ hs).mono ?_; rintro e w' ⟨rfl, hb⟩; replace hst := hst.below hb; clear hb; clear hc1 hf1 hc2 hf2; obtain ⟨hc2, hf2, hl2⟩ := hst.c0; obtain ⟨hc1, hf1, hl1⟩ := hst.c1))
              go_ret
              exact ⟨ret_bool (by rw [HV.out, HI.out, formOk, HK.out, HR.out]; rfl), hst.base⟩
            | false =>
              go_wp2_with (first | (go_at_call 35; first | (with_reducible refine (K1.out _).mono ?_; rintro e w' ⟨rfl, hb⟩; replace hst := hst.below hb; clear hb; clear hc1 hf1 hc2 hf2; obtain ⟨hc2, hf2, hl2⟩ := hst.c0; obtain ⟨hc1, hf1, hl1⟩ := hst.c1) | (with_reducible refine (K2.out _).mono ?_; rintro e w' ⟨rfl, hb⟩; replace hst := hst.below hb; clear hb; clear hc1 hf1 hc2 hf2; obtain ⟨hc2, hf2, hl2⟩ := hst.c0; obtain ⟨hc1, hf1, hl1⟩ := hst.c1)))
              all_goals (go_ret; exact ⟨ret_bool (by rw [HV.out, HI.out, formOk, HK.out, HR.out]; simp), hst.base⟩)
end Go.Proofs.YtklpamhhbigjfaaDoor
