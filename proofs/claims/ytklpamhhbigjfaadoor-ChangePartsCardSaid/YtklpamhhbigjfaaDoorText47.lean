/- The package change: Text. -/
import Derived.Test.YtklpamhhbigjfaaDoorTextC47
import Derived.Test.YtklpamhhbigjfaaDoorEnc47
namespace Go.Proofs.YtklpamhhbigjfaaDoor
open Go.RowKit
set_option linter.unusedSimpArgs false
set_option linter.unusedVariables false

/-- the text of a change -/
def txtBase (c : Chg) : ByteArray := bs (kF c.kind).1 ++ spS ++ decS c.id.toNat
def txtC (c : Chg) : ByteArray := if c.valid = true then (if c.kind = 3 then txtBase c else txtBase c ++ (spS ++ shS c.kind c)) else ⟨#[]⟩

theorem lookup_forms1 {w : World} {gm g n : Nat} (h : w.heap[gm]? = some (.map (formEs g).toArray n)) (k : Int) (hk : 0 ≤ k ∧ k ≤ 7) :
    (Instr.lookup 63 (.map (some gm)) (.int .i64 k) false).run Tryd.prog w = .ok (formV (kF k).1 (kF k).2.1 (kF k).2.2.1 (kF k).2.2.2.1 (kF k).2.2.2.2.1 (kF k).2.2.2.2.2 (kSh g k)) w := by
  have hf := find_forms g k
  rw [if_pos hk] at hf
  have hc : (Instr.checkKey (formEs g).toArray.isEmpty 10000 3 (.int .i64 k)).run Tryd.prog w = .ok () w := MapKept.run_checkKey (k := .int .i64 k) (Tryd.underlying3) (by simp [MapKept.IsKey]) _ 9999
  have hf2 : Instr.findNow (.int .i64) (.int .i64 k) (formEs g).toArray.toList 0 = some (some (k.toNat, formV (kF k).1 (kF k).2.1 (kF k).2.2.1 (kF k).2.2.2.1 (kF k).2.2.2.2.1 (kF k).2.2.2.2.2 (kSh g k))) := hf
  unfold Instr.lookup
  simp only [Sem.run_bind, run_underlying (Tryd.underlying63), MapKept.run_getObj_map h, hc, MapKept.run_findKey (Tryd.underlying3) hf2, Result.andThen_ok, Sem.run_pure, Bool.false_eq_true, if_false]

theorem neq_nilF (w : World) : (binOp .neq 26 .nilFunc .nilFunc).run Tryd.prog w = .ok (.bool false) w := by kernel_rfl
theorem neq_func (fn : Fn) (first caps : Array Value) (w : World) : (binOp .neq 26 (.func fn first caps) .nilFunc).run Tryd.prog w = .ok (.bool true) w := by kernel_rfl
set_option maxHeartbeats 2000000 in
set_option maxRecDepth 100000 in
theorem text47_ok (c : Chg) (w : World) (hv : c.valid = true) (hn1 : NumOk w c.id) (hn2 : NumOk w c.rcd.size) :
    Calls Tryd.prog 13 #[c.v] w fun e w' => e = .returned (.string (txtC c)) ∧ Below w.heap.size w w' := by
  obtain ⟨⟨v1, v2⟩, ⟨v3, v4⟩, v5, v6, v7⟩ := valid_bounds hv
  have hst := St.start w
  obtain ⟨T, hT⟩ : ∃ T, T = txtC c := ⟨_, rfl⟩
  rw [← hT]
  have HT := Lib.hid hT
  clear hT
  obtain ⟨Wd, a, b, cc, d, v, hF⟩ : ∃ Wd a b cc d v, kF c.kind = (Wd, a, b, cc, d, v) := ⟨_, _, _, _, _, _, rfl⟩
  have k1 := fun w => valid47_any c w (by omega)
  rw [hv] at k1
  have hlk : ∀ (w' : World) (gm g n : Nat), w'.heap[gm]? = some (.map (formEs g).toArray n) → (Instr.lookup 63 (.map (some gm)) (.int .i64 c.kind) false).run Tryd.prog w' = .ok (.agg (formC Wd a b cc d v (kSh g c.kind))) w' := by
    intro w' gm g n h
    have := lookup_forms1 h c.kind ⟨v1, v2⟩
    rw [hF] at this
    exact this
  have hWs : Wd.length ≤ 10 := by
    have hkk : c.kind = 0 ∨ c.kind = 1 ∨ c.kind = 2 ∨ c.kind = 3 ∨ c.kind = 4 ∨ c.kind = 5 ∨ c.kind = 6 ∨ c.kind = 7 := by omega
    have : Wd = (kF c.kind).1 := by rw [hF]
    rw [this]
    rcases hkk with e | e | e | e | e | e | e | e <;> rw [e] <;> decide
  have hW2 : (⟨Wd.toArray⟩ : ByteArray).size = Wd.length := by simp [ByteArray.size]
  have HLK := Lib.hid hlk
  have HF := Lib.hid hF
  have K1 := Lib.hid k1
  have HN1 := Lib.hid hn1
  have HN2 := Lib.hid hn2
  have HVal := Lib.hid hv
  clear hlk hF k1 hn1 hn2 hv
  go_enter Tryd.func13, Tryd.ntmps13
  go_upto_region 3 with (first | ((with_reducible refine at_dst (N := 1) rfl ?_); refine wpList_box hst 23 c.cells rfl ?hr ?_; (case hr => first | (go_simp; done) | (go_simp; rfl)); clear hst; intro g1 w1 hst; obtain ⟨hc1, hf1, hl1⟩ := hst.c0) | ((with_reducible refine at_dst (N := 5) rfl ?_); (refine wpList_load_own hst ⟨g1, c.cells, 23⟩ (by simp) rfl _ rfl rfl _ rfl Tryd.underlying23 (by kernel_rfl) ?_)) | (go_at_call 11; refine (K1.out _).mono ?_; rintro e wa ⟨rfl, hb⟩; replace hst := hst.below hb; clear hb hc1 hf1 hl1; obtain ⟨hc1, hf1, hl1⟩ := hst.c0))
  go_cut [3] (fun s3 wx => ∃ (gf g : Nat), s3 = .pointer (some ⟨gf, 0, none⟩) ∧ St w wx [⟨gf, formC Wd a b cc d v (kSh g c.kind), 61⟩, ⟨g, #[funV 53], 26⟩, ⟨g1, c.cells, 23⟩])
  case first =>
    have hsF := fun (W : World) (a : Addr) (m : Mode) (g : Nat) => run_store_kSh W a m g c.kind
    have hl1' : g1 < wa.heap.size := hl1
    have hne1 : ¬ (wa.heap.size = g1) := by omega
    have hne2 : ¬ (g1 = wa.heap.size) := by omega
    have hk0 : wa.cell? ⟨g1, 0, none⟩ = some (.int .i64 c.kind) := hc1 0
    go_region_held3 (fun w' => w'.cell? ⟨g1, 0, none⟩ = some (.int .i64 c.kind)) (first | go_keep | exact (hcb _ _ hl1).trans hk0 | exact (hcb _ _ (Nat.lt_succ_of_lt hl1)).trans (by go_keep) | exact (hcb _ _ (by simp; omega)).trans (by go_keep))
      (first
        | (go_at_call 34; refine (forms_any _).mono ?_; rintro e w' ⟨gm, g, rfl, hsm⟩; obtain ⟨hcb, hfb⟩ := bcell hsm.st.base; have hlk0 := HLK.out _ _ _ _ hsm.map; have hlk1 := fun o => HLK.out _ _ _ _ ((MapKept.heap_alloc w' o).2 _ hsm.lt ▸ hsm.map); have hlt := hsm.lt; have hcw : w'.cell? ⟨g1, 0, none⟩ = some (.int .i64 c.kind) := (by first | exact (hcb _ _ hl1).trans hk0 | exact (hcb _ _ (by simp; omega)).trans (by go_keep)); have hnw := World.new_ne w' _ hcw))
    all_goals go_wp2_with fail
    all_goals go_meet
    all_goals first  | exact ⟨_, _, rfl, (hst.drew.call hsm.st).box _ _⟩  | exact ⟨_, _, rfl, (((((((((hst.box _ _).drew.call hsm.st).setM (L1 := [_]) 0 _).setM (L1 := [_]) 1 _).setM (L1 := [_]) 2 _).setM (L1 := [_]) 3 _).setM (L1 := [_]) 4 _).setM (L1 := [_]) 5 _).setM (L1 := [_]) 6 _).perm (List.Perm.swap _ _ _)⟩
  case rest =>
    clear hst hc1 hf1 hl1
    obtain ⟨gf, g, rfl, hst⟩ := hcut
    obtain ⟨hc3, hf3, hl3⟩ := hst.c0
    obtain ⟨hc2, hf2, hl2⟩ := hst.c1
    obtain ⟨hc1, hf1, hl1⟩ := hst.c2
    dsimp only at hc1 hc2 hc3 hf1 hf2 hf3 hl1 hl2 hl3
    have zd := decS_small (n := c.id.toNat) (by omega)
    go_wp2_with fail
    obtain ⟨hne, hq3, hq2, hq1⟩ := hst.facts3; dsimp only at hq1 hq2 hq3
    (refine wp_region_st hst (by kernel_rfl) (by kernel_rfl) ?_; (repeat (first | go_big_quiet_skip | (go_big_quiet_want; first | fail | (go_big_quiet_op; first | go_big_quiet_on | go_big_quiet_call ((first | (go_at_call 38; exact calls_st _ (itoa_any _ _ (HN1.out.below (SW.property _).base))))))))); refine wpQuiet_nil ?_; clear hst; rintro _ ⟨⟨wq, hst⟩, rfl⟩; try dsimp only)
    clear hc1 hf1 hl1 hc2 hf2 hl2 hc3 hf3 hl3 hne hq1 hq2 hq3
    obtain ⟨hc3, hf3, hl3⟩ := hst.c0
    obtain ⟨hc2, hf2, hl2⟩ := hst.c1
    obtain ⟨hc1, hf1, hl1⟩ := hst.c2
    dsimp only at hc1 hc2 hc3 hf1 hf2 hf3 hl1 hl2 hl3
    have hbase : txtBase c = ⟨Wd.toArray⟩ ++ spS ++ decS c.id.toNat := by rw [txtBase, HF.out]; rfl
    have HB := Lib.hid hbase
    clear hbase
    have hkk : c.kind = 0 ∨ c.kind = 1 ∨ c.kind = 2 ∨ c.kind = 3 ∨ c.kind = 4 ∨ c.kind = 5 ∨ c.kind = 6 ∨ c.kind = 7 := by omega
    have hTT : T = if c.kind = 3 then txtBase c else txtBase c ++ (spS ++ shS c.kind c) := by rw [HT.out, txtC, if_pos HVal.out]
    have HTT := Lib.hid hTT
    have zh := hexS_size c.key
    have zd2 := decS_small (n := c.rcd.size) (by omega)
    clear hTT
    have nq1 := neq_nilF
    have hsp : spS.size = 1 := rfl
    have nq2 := neq_func
    rcases hkk with hk | hk | hk | hk | hk | hk | hk | hk
    · have e1 : kSh g c.kind = closV 55 g := by rw [hk]; rfl
      rw [e1] at hc3 hst
      have H1 := Lib.hid hk
      clear e1 hk
      unfold closV at hc3
      go_wp2_with (first | ((with_reducible refine at_dst (N := 25) rfl ?_); (refine wpList_load_own hst ⟨g1, c.cells, 23⟩ (by simp) rfl _ rfl rfl _ rfl Tryd.underlying23 (by kernel_rfl) ?_)) | (go_at_call 55; refine (clos3_any c g _ (by omega) (HN2.out.below hst.base) (hc2 0)).mono ?_; rintro e w' ⟨rfl, hb⟩; replace hst := hst.below hb))
      go_ret
      exact ⟨ret_str (by rw [HTT.out, if_neg (by rw [H1.out]; decide), HB.out, H1.out]; rfl), hst.base⟩
    · have e1 : kSh g c.kind = funV 57 := by rw [hk]; rfl
      rw [e1] at hc3 hst
      have H1 := Lib.hid hk
      clear e1 hk
      unfold funV at hc3
      go_wp2_with (first | ((with_reducible refine at_dst (N := 25) rfl ?_); (refine wpList_load_own hst ⟨g1, c.cells, 23⟩ (by simp) rfl _ rfl rfl _ rfl Tryd.underlying23 (by kernel_rfl) ?_)) | (go_at_call 57; refine (clos4_any c _ (by omega)).mono ?_; rintro e w' ⟨rfl, hb⟩; replace hst := hst.below hb))
      go_ret
      exact ⟨ret_str (by rw [HTT.out, if_neg (by rw [H1.out]; decide), HB.out, H1.out]; rfl), hst.base⟩
    · have e1 : kSh g c.kind = funV 53 := by rw [hk]; rfl
      rw [e1] at hc3 hst
      have H1 := Lib.hid hk
      clear e1 hk
      unfold funV at hc3
      go_wp2_with (first | ((with_reducible refine at_dst (N := 25) rfl ?_); (refine wpList_load_own hst ⟨g1, c.cells, 23⟩ (by simp) rfl _ rfl rfl _ rfl Tryd.underlying23 (by kernel_rfl) ?_)) | (go_at_call 53; refine (clos1_any c _ (HN2.out.below hst.base)).mono ?_; rintro e w' ⟨rfl, hb⟩; replace hst := hst.below hb))
      go_ret
      exact ⟨ret_str (by rw [HTT.out, if_neg (by rw [H1.out]; decide), HB.out, H1.out]; rfl), hst.base⟩
    · have e1 : kSh g c.kind = .nilFunc := by rw [hk]; rfl
      rw [e1] at hc3 hst
      have H1 := Lib.hid hk
      clear e1 hk
      go_wp2
      go_ret
      exact ⟨ret_str (by rw [HTT.out, if_pos H1.out, HB.out]; rfl), hst.base⟩
    all_goals
      have e1 : kSh g c.kind = funV 54 := by rw [hk]; rfl
      rw [e1] at hc3 hst
      have H1 := Lib.hid hk
      clear e1 hk
      unfold funV at hc3
      go_wp2_with (first | ((with_reducible refine at_dst (N := 25) rfl ?_); (refine wpList_load_own hst ⟨g1, c.cells, 23⟩ (by simp) rfl _ rfl rfl _ rfl Tryd.underlying23 (by kernel_rfl) ?_)) | (go_at_call 54; refine (clos2_any c _).mono ?_; rintro e w' ⟨rfl, hb⟩; replace hst := hst.below hb))
      go_ret
      exact ⟨ret_str (by rw [HTT.out, if_neg (by rw [H1.out]; decide), HB.out, H1.out]; rfl), hst.base⟩
theorem text47_no (c : Chg) (w : World) (hv : c.valid = false) (hs : c.vol.size ≤ 140737488355328) :
    Calls Tryd.prog 13 #[c.v] w fun e w' => e = .returned (.string (txtC c)) ∧ Below w.heap.size w w' := by
  have hst := St.start w
  have k1 := fun w => valid47_any c w hs
  rw [hv] at k1
  have e1 : txtC c = ⟨#[]⟩ := by rw [txtC, hv]; rfl
  rw [e1]
  have K1 := Lib.hid k1
  clear k1 hv e1
  go_enter Tryd.func13, Tryd.ntmps13
  go_wp2_with (first | ((with_reducible refine at_dst (N := 1) rfl ?_); refine wpList_box hst 23 c.cells rfl ?hr ?_; (case hr => first | (go_simp; done) | (go_simp; rfl)); clear hst; intro g1 w1 hst; obtain ⟨hc1, hf1, hl1⟩ := hst.c0) | ((with_reducible refine at_dst (N := 5) rfl ?_); (refine wpList_load_own hst ⟨g1, c.cells, 23⟩ (by simp) rfl _ rfl rfl _ rfl Tryd.underlying23 (by kernel_rfl) ?_)) | (go_at_call 11; refine (K1.out _).mono ?_; rintro e w' ⟨rfl, hb⟩; replace hst := hst.below hb))
  go_ret
  exact ⟨rfl, hst.base⟩
theorem text47_any (c : Chg) (w : World) (hs : c.vol.size ≤ 140737488355328) (hn1 : c.valid = true → NumOk w c.id) (hn2 : c.valid = true → NumOk w c.rcd.size) :
    Calls Tryd.prog 13 #[c.v] w fun e w' => e = .returned (.string (txtC c)) ∧ Below w.heap.size w w' := by
  cases hv : c.valid with
  | true => exact text47_ok c w hv (hn1 hv) (hn2 hv)
  | false => exact text47_no c w hv hs
end Go.Proofs.YtklpamhhbigjfaaDoor
