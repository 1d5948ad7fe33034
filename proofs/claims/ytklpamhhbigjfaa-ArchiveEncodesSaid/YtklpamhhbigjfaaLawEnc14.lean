/- ArchiveEncodes: the walk of the law. -/
import Derived.Test.YtklpamhhbigjfaaAwake14
import Derived.Test.YtklpamhhbigjfaaFramesR14
import Derived.Test.YtklpamhhbigjfaaSame14
import Derived.Test.YtklpamhhbigjfaaOpenArc14
namespace Go.Proofs.Ytklpamhhbigjfaa
open Go.RowKit
set_option linter.unusedSimpArgs false
set_option linter.unusedVariables false

theorem catB_le : ∀ (F : List ByteArray), (∀ s ∈ F, s.size ≤ 64) → (catB F).length ≤ 64 * F.length
  | [], _ => by simp [catB]
  | x :: F, h => by
    have h1 := h x (by simp)
    have h2 := catB_le F (fun s hs => h s (by simp [hs]))
    have e : catB (x :: F) = x.data.toList ++ catB F := by simp [catB]
    have e2 : x.data.toList.length = x.size := by simp
    rw [e, List.length_append, List.length_cons, e2]
    omega
theorem frA_len : ∀ (L : List ByteArray) (n : Nat), (frA n L).length = frT L
  | [], _ => rfl
  | x :: L, n => by
    show (frI n x (chN x) ++ frA (n + chN x) L).length = _
    rw [List.length_append, frA_len L]
    simp [frI, frT]
theorem encB_le (d : DS) (num : Int) (l : List Pr) : (encB d num l).size ≤ 1000000000 := by
  unfold encB
  split
  · next ho =>
    rw [bs_size]
    have h0 := catB_le _ (frA_le (itemsL d num l) 0)
    rw [frA_len] at h0
    have h1 := frT_take_le (itemsL d num l) (itemsL d num l).length (items_sizes ho)
    have h2 := (arcOk_facts ho).2.2.2.1
    rw [List.take_length] at h1
    have h3 : (itemsL d num l).length = l.length + 1 := by simp [itemsL]
    omega
  · exact Nat.zero_le _
theorem samB_self (d : DS) (x : Int) (l : List Pr) : samB d d x x l l = true := by simp [samB]

set_option maxHeartbeats 4000000 in
set_option maxRecDepth 100000 in
theorem lawEnc_walk (d e : DS) (x y : Int) (l m : List Pr) (ao bo : Option Addr) (ca cb : Nat) (w : World) (h1 : ArcIn w d l ao) (h2 : ArcIn w e m bo) :
    Calls Try.prog 5 #[.agg (arcC d x ao l.length ca), .agg (arcC e y bo m.length cb)] w fun r w' => r = .returned (.bool true) ∧ Below w.heap.size w w' := by
  have hst := St.start w
  obtain ⟨p1, c1⟩ := h1
  obtain ⟨p2, c2⟩ := h2
  obtain ⟨l1, l2, l3, l4⟩ := p1
  obtain ⟨m1, m2, m3, m4⟩ := p2
  have k1 := fun w h => few14_any d x l ao ca w l1 h l2 l3 l4
  have k2 := fun w h => few14_any e y m bo cb w m1 h m2 m3 m4
  have k3 := fun w h => encode_any d x l ao ca w ⟨l1, l2, l3, l4⟩ h
  have k4 := fun w h => encodeR_any d x l ao ca w ⟨l1, l2, l3, l4⟩ h
  have k5 := fun w h => valid14_any d x l ao ca w l1 h l2 l3 l4
  have k6 := fun w h => validR14_any d x l ao ca w l1 h l2 l3 l4
  have k7 := fun w h h' => same14_any d e x y l m ao bo ca cb w l1 m1 h h'
  have k8 := fun w h h' => sameR14_any d e x y l m ao bo ca cb w l1 m1 h h'
  have k9 := fun w h => same14_any d d x x l l ao ao ca ca w l1 l1 h h
  have k10 := fun w h => size_any d x l ao ca w ⟨l1, l2, l3, l4⟩ h (encB_le d x l)
  have k11 := fun w h => sizeR_any d x l ao ca w ⟨l1, l2, l3, l4⟩ h (encB_le d x l)
  obtain ⟨n, hn⟩ : ∃ n, n = l.length := ⟨_, rfl⟩
  obtain ⟨n2, hn2⟩ : ∃ n, n = m.length := ⟨_, rfl⟩
  obtain ⟨FA, hFA⟩ : ∃ z, z = fewB d l := ⟨_, rfl⟩
  obtain ⟨FB, hFB⟩ : ∃ z, z = fewB e m := ⟨_, rfl⟩
  obtain ⟨S, hS⟩ : ∃ z, z = encB d x l := ⟨_, rfl⟩
  obtain ⟨E, hE⟩ : ∃ z, z = encErr d x l := ⟨_, rfl⟩
  obtain ⟨V, hV⟩ : ∃ z, z = arcOk d x l := ⟨_, rfl⟩
  obtain ⟨W, hW⟩ : ∃ z, z = samB d e x y l m := ⟨_, rfl⟩
  obtain ⟨Z, hZ⟩ : ∃ z, z = S.size := ⟨_, rfl⟩
  rw [samB_self] at k9
  rw [← hn, ← hFA] at k1
  rw [← hn2, ← hFB] at k2
  rw [← hn, ← hS, ← hE] at k3 k4
  rw [← hn, ← hV] at k5 k6
  rw [← hn, ← hn2, ← hW] at k7 k8
  rw [← hn] at k9
  rw [← hn, ← hS, ← hZ] at k10 k11
  rw [← hn, ← hn2]
  have K1 := Lib.hid k1
  have K2 := Lib.hid k2
  have K3 := Lib.hid k3
  have K4 := Lib.hid k4
  have K5 := Lib.hid k5
  have K6 := Lib.hid k6
  have K7 := Lib.hid k7
  have K8 := Lib.hid k8
  have K9 := Lib.hid k9
  have K10 := Lib.hid k10
  have K11 := Lib.hid k11
  have HC1 := Lib.hid c1
  have HC2 := Lib.hid c2
  clear k1 k2 k3 k4 k5 k6 k7 k8 k9 k10 k11 c1 c2 hn hn2 hFA hFB hS hE hV hW hZ l1 l2 l3 l4 m1 m2 m3 m4
  by_cases hf : FA = true ∧ FB = true
  · obtain ⟨rfl, rfl⟩ := hf
    go_enter Try.func5, Try.ntmps5
    go_wp2_with (first | ((with_reducible refine at_dst (N := 2) rfl ?_); refine wpList_box hst 37 (arcC d x ao n ca) rfl ?hr ?_; (case hr => first | (go_simp; done) | (go_simp; rfl)); clear hst; intro g1 w1 hst; obtain ⟨hc1, hf1, hl1⟩ := hst.c0) | (((with_reducible refine at_dst (N := 3) rfl ?_); refine wpList_box hst 37 (arcC e y bo n2 cb) rfl ?hr ?_; (case hr => first | (go_simp; done) | (go_simp; rfl)); clear hst; intro g2 w2 hst; obtain ⟨hc2, hf2, hl2⟩ := hst.c0); clear hc1 hf1 hc2 hf2; obtain ⟨hc2, hf2, hl2⟩ := hst.c0; obtain ⟨hc1, hf1, hl1⟩ := hst.c1)  | (go_at_call 10; refine (awake14_any _).mono ?_; rintro e w' ⟨rfl, hb⟩; replace hst := hst.below hb; clear hb; clear hc1 hf1 hc2 hf2; obtain ⟨hc2, hf2, hl2⟩ := hst.c0; obtain ⟨hc1, hf1, hl1⟩ := hst.c1) | ((with_reducible refine at_dst (N := 12) rfl ?_); refine wpList_load_g hst ⟨g1, (arcC d x ao n ca), 37⟩ (by simp) rfl _ rfl rfl rfl Try.underlying37 (by kernel_rfl) ?_) | ((with_reducible refine at_dst (N := 17) rfl ?_); refine wpList_load_g hst ⟨g2, (arcC e y bo n2 cb), 37⟩ (by simp) rfl _ rfl rfl rfl Try.underlying37 (by kernel_rfl) ?_) | ((with_reducible refine at_dst (N := 23) rfl ?_); (refine wpList_load_own hst ⟨g1, (arcC d x ao n ca), 37⟩ (by simp) rfl _ rfl rfl _ rfl Try.underlying37 (by kernel_rfl) ?_)) | ((with_reducible refine at_dst (N := 28) rfl ?_); (refine wpList_load_own hst ⟨g1, (arcC d x ao n ca), 37⟩ (by simp) rfl _ rfl rfl _ rfl Try.underlying37 (by kernel_rfl) ?_))  | (go_at_call 17; refine (K1.out _ (HC1.out.below hst.base)).mono ?_; clear K1; rintro e w' ⟨rfl, hb⟩; replace hst := hst.below hb; clear hb; clear hc1 hf1 hc2 hf2; obtain ⟨hc2, hf2, hl2⟩ := hst.c0; obtain ⟨hc1, hf1, hl1⟩ := hst.c1) | (go_at_call 17; refine (K2.out _ (HC2.out.below hst.base)).mono ?_; rintro e w' ⟨rfl, hb⟩; replace hst := hst.below hb; clear hb; clear hc1 hf1 hc2 hf2; obtain ⟨hc2, hf2, hl2⟩ := hst.c0; obtain ⟨hc1, hf1, hl1⟩ := hst.c1)  | (go_at_call 18; refine (K3.out _ (HC1.out.below hst.base)).mono ?_; rintro e w' ⟨rfl, hb⟩; replace hst := hst.below hb; clear hb; clear hc1 hf1 hc2 hf2; obtain ⟨hc2, hf2, hl2⟩ := hst.c0; obtain ⟨hc1, hf1, hl1⟩ := hst.c1) | (go_at_call 19; refine (K4.out _ (HC1.out.below hst.base)).mono ?_; rintro e w' ⟨rfl, hb⟩; replace hst := hst.below hb; clear hb; clear hc1 hf1 hc2 hf2; obtain ⟨hc2, hf2, hl2⟩ := hst.c0; obtain ⟨hc1, hf1, hl1⟩ := hst.c1))
    obtain ⟨hne, hq2, hq1⟩ := hst.facts2; dsimp only at hq1 hq2
    have J5 := Lib.hid (fun u : SW w [⟨g2, arcC e y bo n2 cb, 37⟩, ⟨g1, arcC d x ao n ca, 37⟩] => K5.out u.val (HC1.out.below u.property.base))
    have J6 := Lib.hid (fun u : SW w [⟨g2, arcC e y bo n2 cb, 37⟩, ⟨g1, arcC d x ao n ca, 37⟩] => K6.out u.val (HC1.out.below u.property.base))
    have J7 := Lib.hid (fun u : SW w [⟨g2, arcC e y bo n2 cb, 37⟩, ⟨g1, arcC d x ao n ca, 37⟩] => K7.out u.val (HC1.out.below u.property.base) (HC2.out.below u.property.base))
    have J8 := Lib.hid (fun u : SW w [⟨g2, arcC e y bo n2 cb, 37⟩, ⟨g1, arcC d x ao n ca, 37⟩] => K8.out u.val (HC1.out.below u.property.base) (HC2.out.below u.property.base))
    have J9 := Lib.hid (fun u : SW w [⟨g2, arcC e y bo n2 cb, 37⟩, ⟨g1, arcC d x ao n ca, 37⟩] => K9.out u.val (HC1.out.below u.property.base))
    have J10 := Lib.hid (fun u : SW w [⟨g2, arcC e y bo n2 cb, 37⟩, ⟨g1, arcC d x ao n ca, 37⟩] => K10.out u.val (HC1.out.below u.property.base))
    have J11 := Lib.hid (fun u : SW w [⟨g2, arcC e y bo n2 cb, 37⟩, ⟨g1, arcC d x ao n ca, 37⟩] => K11.out u.val (HC1.out.below u.property.base))
    (refine wp_region_st hst (by kernel_rfl) (by kernel_rfl) ?_; (repeat (first | go_big_quiet_skip | (go_big_quiet_want; first | (first | ((refine quiet_load_st ⟨g1, (arcC d x ao n ca), 37⟩ (by simp) _ rfl rfl rfl Try.underlying37 (by kernel_rfl) ?_); (simp only [Act.put, List.setIfInBounds_toArray, List.set_cons_zero, List.set_cons_succ]); go_big_quiet_on) | ((refine quiet_load_st ⟨g2, (arcC e y bo n2 cb), 37⟩ (by simp) _ rfl rfl rfl Try.underlying37 (by kernel_rfl) ?_); (simp only [Act.put, List.setIfInBounds_toArray, List.set_cons_zero, List.set_cons_succ]); go_big_quiet_on)) | (go_big_quiet_op; first | go_big_quiet_on | go_big_quiet_call ((first | (go_at_call 20; exact calls_st _ (J5.out _)) | (go_at_call 21; exact calls_st _ (J6.out _)) | (go_at_call_of 22 cb; exact calls_st _ (J7.out _)) | (go_at_call 23; exact calls_st _ (J8.out _)) | (go_at_call 22; exact calls_st _ (J9.out _)) | (go_at_call 24; exact calls_st _ (J10.out _)) | (go_at_call 25; exact calls_st _ (J11.out _)))))))); refine wpQuiet_nil ?_; clear hst; rintro _ ⟨⟨wq, hst⟩, rfl⟩; try dsimp only)
    go_wp2
    go_ret
    exact ⟨ret_bool (by simp), hst.base⟩
  · cases FA <;> cases FB
    case true.true => exact absurd ⟨rfl, rfl⟩ hf
    all_goals
      clear hf K3 K4 K5 K6 K7 K8 K9 K10 K11
      go_enter Try.func5, Try.ntmps5
      go_wp2_with (first | ((with_reducible refine at_dst (N := 2) rfl ?_); refine wpList_box hst 37 (arcC d x ao n ca) rfl ?hr ?_; (case hr => first | (go_simp; done) | (go_simp; rfl)); clear hst; intro g1 w1 hst; obtain ⟨hc1, hf1, hl1⟩ := hst.c0) | (((with_reducible refine at_dst (N := 3) rfl ?_); refine wpList_box hst 37 (arcC e y bo n2 cb) rfl ?hr ?_; (case hr => first | (go_simp; done) | (go_simp; rfl)); clear hst; intro g2 w2 hst; obtain ⟨hc2, hf2, hl2⟩ := hst.c0); clear hc1 hf1 hc2 hf2; obtain ⟨hc2, hf2, hl2⟩ := hst.c0; obtain ⟨hc1, hf1, hl1⟩ := hst.c1)  | (go_at_call 10; refine (awake14_any _).mono ?_; rintro e w' ⟨rfl, hb⟩; replace hst := hst.below hb; clear hb; clear hc1 hf1 hc2 hf2; obtain ⟨hc2, hf2, hl2⟩ := hst.c0; obtain ⟨hc1, hf1, hl1⟩ := hst.c1) | ((with_reducible refine at_dst (N := 12) rfl ?_); refine wpList_load_g hst ⟨g1, (arcC d x ao n ca), 37⟩ (by simp) rfl _ rfl rfl rfl Try.underlying37 (by kernel_rfl) ?_) | ((with_reducible refine at_dst (N := 17) rfl ?_); refine wpList_load_g hst ⟨g2, (arcC e y bo n2 cb), 37⟩ (by simp) rfl _ rfl rfl rfl Try.underlying37 (by kernel_rfl) ?_)  | (go_at_call 17; refine (K1.out _ (HC1.out.below hst.base)).mono ?_; clear K1; rintro e w' ⟨rfl, hb⟩; replace hst := hst.below hb; clear hb; clear hc1 hf1 hc2 hf2; obtain ⟨hc2, hf2, hl2⟩ := hst.c0; obtain ⟨hc1, hf1, hl1⟩ := hst.c1) | (go_at_call 17; refine (K2.out _ (HC2.out.below hst.base)).mono ?_; rintro e w' ⟨rfl, hb⟩; replace hst := hst.below hb; clear hb; clear hc1 hf1 hc2 hf2; obtain ⟨hc2, hf2, hl2⟩ := hst.c0; obtain ⟨hc1, hf1, hl1⟩ := hst.c1))
      go_ret
      exact ⟨rfl, hst.base⟩
theorem lawEnc_row (d : DS) (x : Int) (l : List Pr) (ao : Option Addr) (ca : Nat) (e : DS) (y : Int) (m : List Pr) (bo : Option Addr) (cb : Nat) (w : World) (h1 : ArcIn w d l ao) (h2 : ArcIn w e m bo) :
    Calls Try.prog 5 #[.agg (arcC d x ao l.length ca), .agg (arcC e y bo m.length cb)] w fun r w' => r = .returned (.bool true) ∧ Below w.heap.size w w' := lawEnc_walk d e x y l m ao bo ca cb w h1 h2
end Go.Proofs.Ytklpamhhbigjfaa
