/- Chapter 14: Same, of the program and of the reference; slices.Equal over pairs. -/
import Derived.Test.YtklpamhhbigjfaaValid14
import Derived.BigQuiet
namespace Go.Proofs.Ytklpamhhbigjfaa
open Go.RowKit
set_option linter.unusedSimpArgs false
set_option linter.unusedVariables false

deriving instance DecidableEq for DS
theorem toListB_iff (a b : ByteArray) : a.toList = b.toList ↔ a = b := by
  constructor
  · intro h
    rw [ByteArray.toList_eq, ByteArray.toList_eq] at h
    obtain ⟨⟨x⟩⟩ := a
    obtain ⟨⟨y⟩⟩ := b
    simp_all
  · rintro rfl; rfl
theorem run_neqPr (x y : Pr) (w : World) :
    (Go.binOp .neq 54 (.agg #[.string x.key, .string x.rcd]) (.agg #[.string y.key, .string y.rcd])).run Try.prog w = .ok (.bool (!decide (x = y))) w := by
  obtain ⟨a1, a2⟩ := x
  obtain ⟨b1, b2⟩ := y
  rw [run_neq_struct]
  go_simp
  simp only [toListB_iff]
  repeat (split; skip)
  all_goals simp_all
attribute [go_sem high] run_neqPr

section
variable {P : Program} {w : World} {d : Nat} {xs ys : Array Value} {f : Field} {fs : List Field} {c : Bool}
theorem eqF_int {k : IntKind} {a b : Int} (hn : f.name ≠ "_") (h1 : (part f.type xs f.offset).run P w = .ok (.int k a) w) (h2 : (part f.type ys f.offset).run P w = .ok (.int k b) w) (hu : P.underlying f.type = some (.int k))
    (ht : (Op.eqFields (d + 1) xs ys fs).run P w = .ok c w) : (Op.eqFields (d + 1) xs ys (f :: fs)).run P w = .ok (decide (a = b) && c) w := by
  simp only [Op.eqFields, if_pos hn, Sem.run_bind, h1, h2, Result.andThen_ok, run_equalIn_int w d f.type k k a b hu, Sem.run_ite, Sem.run_pure, ht]
  by_cases e : a = b <;> simp [e]
theorem eqF_bool {a b : Bool} (hn : f.name ≠ "_") (h1 : (part f.type xs f.offset).run P w = .ok (.bool a) w) (h2 : (part f.type ys f.offset).run P w = .ok (.bool b) w) (hu : P.underlying f.type = some .bool)
    (ht : (Op.eqFields (d + 1) xs ys fs).run P w = .ok c w) : (Op.eqFields (d + 1) xs ys (f :: fs)).run P w = .ok (decide (a = b) && c) w := by
  simp only [Op.eqFields, if_pos hn, Sem.run_bind, h1, h2, Result.andThen_ok, run_equalIn_bool' w d f.type a b hu, Sem.run_ite, Sem.run_pure, ht]
  by_cases e : a = b <;> simp [e]
theorem eqF_str {a b : ByteArray} (hn : f.name ≠ "_") (h1 : (part f.type xs f.offset).run P w = .ok (.string a) w) (h2 : (part f.type ys f.offset).run P w = .ok (.string b) w) (hu : P.underlying f.type = some .string)
    (ht : (Op.eqFields (d + 1) xs ys fs).run P w = .ok c w) : (Op.eqFields (d + 1) xs ys (f :: fs)).run P w = .ok (decide (a = b) && c) w := by
  simp only [Op.eqFields, if_pos hn, Sem.run_bind, h1, h2, Result.andThen_ok, run_equalIn_string w d f.type a b hu, Sem.run_ite, Sem.run_pure, ht]
  by_cases e : a = b
  · simp [e]
  · have e2 : ¬ a.toList = b.toList := fun h => e ((toListB_iff a b).1 h)
    simp [e, e2]
end
set_option maxRecDepth 100000 in
theorem run_eqFDS (d e : DS) (w : World) : (Op.equalIn 10000 34 (.agg d.cells) (.agg e.cells)).run Try.prog w = .ok (decide (d = e)) w := by
  have hf : (Try.prog.fieldsOf 34).toList = (Try.prog.fieldsOf 34).toList := rfl
  rw [run_equalIn_struct w 9999 34 d.cells e.cells (Try.underlying34) (by kernel_rfl)]
  have key : (Op.eqFields 9999 d.cells e.cells (Try.prog.fieldsOf 34).toList).run Try.prog w = .ok (decide (d.id = e.id) && (decide (d.org = e.org) && (decide (d.fmt = e.fmt) && (decide (d.len = e.len) && (decide (d.block = e.block) && (decide (d.keyAt = e.keyAt) && (decide (d.keyLen = e.keyLen) && (decide (d.intv = e.intv) && (decide (d.area = e.area) && (decide (d.freeI = e.freeI) && (decide (d.freeA = e.freeA) && (decide (d.base = e.base) && (decide (d.altAt = e.altAt) && (decide (d.altLen = e.altLen) && (decide (d.uniq = e.uniq) && (decide (d.cls = e.cls) && (decide (d.vol = e.vol) && (decide (d.own = e.own) && (decide (d.created = e.created) && (decide (d.expires = e.expires) && (decide (d.arch = e.arch) && true))))))))))))))))))))) w := by
    refine eqF_int (d := 9998) (k := .i64) (a := d.id) (b := e.id) (by decide) (by go_simp) (by go_simp) (by kernel_rfl) ?_
    refine eqF_int (d := 9998) (k := .i64) (a := d.org) (b := e.org) (by decide) (by go_simp) (by go_simp) (by kernel_rfl) ?_
    refine eqF_int (d := 9998) (k := .i64) (a := d.fmt) (b := e.fmt) (by decide) (by go_simp) (by go_simp) (by kernel_rfl) ?_
    refine eqF_int (d := 9998) (k := .i64) (a := d.len) (b := e.len) (by decide) (by go_simp) (by go_simp) (by kernel_rfl) ?_
    refine eqF_int (d := 9998) (k := .i64) (a := d.block) (b := e.block) (by decide) (by go_simp) (by go_simp) (by kernel_rfl) ?_
    refine eqF_int (d := 9998) (k := .i64) (a := d.keyAt) (b := e.keyAt) (by decide) (by go_simp) (by go_simp) (by kernel_rfl) ?_
    refine eqF_int (d := 9998) (k := .i64) (a := d.keyLen) (b := e.keyLen) (by decide) (by go_simp) (by go_simp) (by kernel_rfl) ?_
    refine eqF_int (d := 9998) (k := .i64) (a := d.intv) (b := e.intv) (by decide) (by go_simp) (by go_simp) (by kernel_rfl) ?_
    refine eqF_int (d := 9998) (k := .i64) (a := d.area) (b := e.area) (by decide) (by go_simp) (by go_simp) (by kernel_rfl) ?_
    refine eqF_int (d := 9998) (k := .i64) (a := d.freeI) (b := e.freeI) (by decide) (by go_simp) (by go_simp) (by kernel_rfl) ?_
    refine eqF_int (d := 9998) (k := .i64) (a := d.freeA) (b := e.freeA) (by decide) (by go_simp) (by go_simp) (by kernel_rfl) ?_
    refine eqF_int (d := 9998) (k := .i64) (a := d.base) (b := e.base) (by decide) (by go_simp) (by go_simp) (by kernel_rfl) ?_
    refine eqF_int (d := 9998) (k := .i64) (a := d.altAt) (b := e.altAt) (by decide) (by go_simp) (by go_simp) (by kernel_rfl) ?_
    refine eqF_int (d := 9998) (k := .i64) (a := d.altLen) (b := e.altLen) (by decide) (by go_simp) (by go_simp) (by kernel_rfl) ?_
    refine eqF_bool (d := 9998) (a := d.uniq) (b := e.uniq) (by decide) (by go_simp) (by go_simp) (by kernel_rfl) ?_
    refine eqF_int (d := 9998) (k := .i64) (a := d.cls) (b := e.cls) (by decide) (by go_simp) (by go_simp) (by kernel_rfl) ?_
    refine eqF_str (d := 9998) (a := d.vol) (b := e.vol) (by decide) (by go_simp) (by go_simp) (by kernel_rfl) ?_
    refine eqF_str (d := 9998) (a := d.own) (b := e.own) (by decide) (by go_simp) (by go_simp) (by kernel_rfl) ?_
    refine eqF_int (d := 9998) (k := .i64) (a := d.created) (b := e.created) (by decide) (by go_simp) (by go_simp) (by kernel_rfl) ?_
    refine eqF_int (d := 9998) (k := .i64) (a := d.expires) (b := e.expires) (by decide) (by go_simp) (by go_simp) (by kernel_rfl) ?_
    refine eqF_bool (d := 9998) (a := d.arch) (b := e.arch) (by decide) (by go_simp) (by go_simp) (by kernel_rfl) ?_
    simp only [Op.eqFields, Sem.run_pure]
  rw [key]
  congr 1
  rw [Bool.eq_iff_iff]
  simp only [Bool.and_eq_true, decide_eq_true_eq, and_true]
  constructor
  · rintro ⟨h1, h2, h3, h4, h5, h6, h7, h8, h9, h10, h11, h12, h13, h14, h15, h16, h17, h18, h19, h20, h21⟩
    obtain ⟨⟩ := d
    obtain ⟨⟩ := e
    dsimp only at *
    subst h1 h2 h3 h4 h5 h6 h7 h8 h9 h10 h11 h12 h13 h14 h15 h16 h17 h18 h19 h20 h21
    rfl
  · rintro rfl
    exact ⟨rfl, rfl, rfl, rfl, rfl, rfl, rfl, rfl, rfl, rfl, rfl, rfl, rfl, rfl, rfl, rfl, rfl, rfl, rfl, rfl, rfl⟩
theorem run_eqDS (d e : DS) (w : World) : (Go.binOp .eql 34 (.agg d.cells) (.agg e.cells)).run Try.prog w = .ok (.bool (decide (d = e))) w := by
  rw [run_eql_struct, run_eqFDS]
  rfl
theorem run_neqDS (d e : DS) (w : World) : (Go.binOp .neq 34 (.agg d.cells) (.agg e.cells)).run Try.prog w = .ok (.bool (!decide (d = e))) w := by
  rw [run_neq_struct, run_eqFDS]
  rfl

theorem exec_binAgg {P : Program} {ev : Operand → Value} {o : Oper} {w : World} {u : Value} {op : BinOp} {t ty : TypeId} {x y : Operand} {xs ys : Array Value} (ho : o.op = .binOp op t x y ty) (hx : ev x = .agg xs) (hy : ev y = .agg ys) (hm : P.eqGuardType P.depth t = false)
    (h : (Go.binOp op t (.agg xs) (.agg ys)).run P w = .ok u w) : (execOp ev o).run P w = .ok (.value u) w := by
  unfold execOp
  simp only [ho, hx, hy, Sem.run_bind, run_eqGuard_agg w op t x y xs ys hm, Result.andThen_ok, h, Sem.run_pure]
def takeEqP (k : Nat) (l m : List Pr) : Prop := ∀ j (h1 : j < l.length) (h2 : j < m.length), j < k → l[j] = m[j]
theorem takeEqP_all {n : Nat} {l m : List Pr} (h1 : l.length = n) (h2 : m.length = n) (h : takeEqP n l m) : l = m :=
  List.ext_getElem (by omega) fun j a b => h j a b (by omega)

set_option maxHeartbeats 1000000 in
theorem equal14_any (l m : List Pr) (ao bo : Option Addr) (ca cb : Nat) (w : World) (hl : l.length ≤ 140737488355328) (hm : m.length ≤ 140737488355328) (h1 : Prs w ao l) (h2 : Prs w bo m) :
    Calls Try.prog 43 #[.slice ao l.length ca, .slice bo m.length cb] w fun e w' => e = .returned (.bool (decide (l = m))) ∧ Below w.heap.size w w' := by
  obtain ⟨n, hn⟩ : ∃ n, n = l.length := ⟨_, rfl⟩
  obtain ⟨n2, hn2⟩ : ∃ n, n = m.length := ⟨_, rfl⟩
  rw [← hn] at hl ⊢
  rw [← hn2] at hm ⊢
  have HN := Lib.hid hn
  have HN2 := Lib.hid hn2
  have H1 := Lib.hid h1
  have H2 := Lib.hid h2
  have hb0 : Below w.heap.size w w := Below.refl _ _
  clear hn hn2 h1 h2
  by_cases he : n = n2
  · subst he
    go_enter Try.func43, Try.ntmps43
    go_wp2
    go_loopw [13] (fun t wr => ∃ k : Nat, k ≤ n ∧ t = .int .i64 k ∧ Hid (takeEqP k l m) ∧ Below w.heap.size w wr) (fun t _ => n - (intOf t).toNat)
    case atStart => exact ⟨0, Nat.zero_le _, rfl, fun j _ _ hj => absurd hj (by omega), Below.refl _ _⟩
    case round =>
      obtain ⟨k, hk, rfl, HZ, hbel⟩ := hrel
      by_cases hlt : k < n
      · have hk1 : k < l.length := by rw [← HN.out]; exact hlt
        have hk2 : k < m.length := by rw [← HN2.out]; exact hlt
        obtain ⟨x, hx⟩ : ∃ c, c = l[k] := ⟨_, rfl⟩
        obtain ⟨y, hy⟩ : ∃ c, c = m[k] := ⟨_, rfl⟩
        obtain ⟨b, off, rfl, hb, hat⟩ : ∃ b off, ao = some ⟨b, off, none⟩ ∧ b < w.heap.size ∧ PrsAt w b off l := by
          rcases H1.out with h | h
          · rw [h] at hk1; simp at hk1
          · exact h
        obtain ⟨b2, off2, rfl, hb2, hat2⟩ : ∃ b off, bo = some ⟨b, off, none⟩ ∧ b < w.heap.size ∧ PrsAt w b off m := by
          rcases H2.out with h | h
          · rw [h] at hk2; simp at hk2
          · exact h
        obtain ⟨c0, c1⟩ := (hat.below hb hbel).get hk1 hx
        obtain ⟨d0, d1⟩ := (hat2.below hb2 hbel).get hk2 hy
        have HX := Lib.hid hx
        have HY := Lib.hid hy
        clear hat hat2 hx hy
        by_cases hxy : x = y
        · have e1 : decide (x = y) = true := decide_eq_true hxy
          have HXY := Lib.hid hxy
          clear hxy
          go_wp2
          go_quiet (fail)
          have hbel2 : Below w.heap.size w (wr.drewN nq) := below_drewN hbel nq
          go_wp2
          go_roundw
          case measure => simp [intOf]; omega
          case rel =>
            refine ⟨k + 1, by omega, by go_num, fun j ha hb hj => ?_, hbel2⟩
            by_cases e : j = k
            · subst e; rw [← HX.out, ← HY.out]; exact HXY.out
            · exact HZ.out j ha hb (by omega)
        · have e1 : decide (x = y) = false := decide_eq_false hxy
          have HXY := Lib.hid hxy
          clear hxy
          go_wp2
          go_quiet (fail)
          have hbel2 : Below w.heap.size w (wr.drewN nq) := below_drewN hbel nq
          go_wp2
          go_ret
          exact ⟨ret_bool (decide_eq_false (fun h => HXY.out (by rw [HX.out, HY.out]; subst h; rfl))).symm, hbel2⟩
      · go_wp2
        go_ret
        exact ⟨ret_bool (decide_eq_true (takeEqP_all HN.out.symm HN2.out.symm (by have e : k = n := by omega
                                                                                  rw [← e]; exact HZ.out))).symm, hbel⟩
  · go_enter Try.func43, Try.ntmps43
    go_wp2
    go_ret
    exact ⟨ret_bool (decide_eq_false (fun h => he (by rw [HN.out, HN2.out, h]))).symm, hb0⟩

def samB (d e : DS) (x y : Int) (l m : List Pr) : Bool := decide (d = e) && decide (x = y) && decide (l = m)
set_option maxHeartbeats 1000000 in
set_option maxRecDepth 100000 in
theorem same14_any (d e : DS) (x y : Int) (l m : List Pr) (ao bo : Option Addr) (ca cb : Nat) (w : World) (hl : l.length ≤ 140737488355328) (hm : m.length ≤ 140737488355328) (h1 : Prs w ao l) (h2 : Prs w bo m) :
    Calls Try.prog 22 #[.agg (arcC d x ao l.length ca), .agg (arcC e y bo m.length cb)] w fun r w' => r = .returned (.bool (samB d e x y l m)) ∧ Below w.heap.size w w' := by
  have hst := St.start w
  have k1 := fun w => equal14_any l m ao bo ca cb w hl hm
  obtain ⟨V, hV⟩ : ∃ V, V = decide (l = m) := ⟨_, rfl⟩
  have e0 : samB d e x y l m = (decide (d = e) && decide (x = y) && V) := by rw [samB, hV]
  rw [← hV] at k1
  rw [e0]
  obtain ⟨n, hn⟩ : ∃ n, n = l.length := ⟨_, rfl⟩
  obtain ⟨n2, hn2⟩ : ∃ n, n = m.length := ⟨_, rfl⟩
  rw [← hn, ← hn2] at k1 ⊢
  have K1 := Lib.hid k1
  have H1 := Lib.hid h1
  have H2 := Lib.hid h2
  have ED := Lib.hid (run_eqDS d e)
  obtain ⟨V1, hV1⟩ : ∃ V, V = decide (d = e) := ⟨_, rfl⟩
  obtain ⟨V2, hV2⟩ : ∃ V, V = decide (x = y) := ⟨_, rfl⟩
  have hxy : (x == y) = V2 := by rw [hV2]; rfl
  rw [← hV1, ← hV2]
  rw [← hV1] at ED
  clear k1 h1 h2 hV hn hn2 e0 hV1 hV2
  cases V1 <;> cases V2
  all_goals
    go_enter Try.func22, Try.ntmps22
    go_wp2_with (first | ((with_reducible refine at_dst (N := 2) rfl ?_); refine wpList_box hst 37 (arcC d x ao n ca) rfl ?hr ?_; (case hr => first | (go_simp; done) | (go_simp; rfl)); clear hst; intro g1 w1 hst; obtain ⟨hc1, hf1, hl1⟩ := hst.c0) | (((with_reducible refine at_dst (N := 3) rfl ?_); refine wpList_box hst 37 (arcC e y bo n2 cb) rfl ?hr ?_; (case hr => first | (go_simp; done) | (go_simp; rfl)); clear hst; intro g2 w2 hst; obtain ⟨hc2, hf2, hl2⟩ := hst.c0); clear hc1 hf1 hc2 hf2; obtain ⟨hc2, hf2, hl2⟩ := hst.c0; obtain ⟨hc1, hf1, hl1⟩ := hst.c1)  | ((with_reducible refine at_dst (N := 6) rfl ?_); refine wpList_load_set hc1 rfl (.tmp 5) rfl rfl Try.underlying34 rfl (by kernel_rfl) ?_)  | ((with_reducible refine at_dst (N := 8) rfl ?_); refine wpList_load_set hc2 rfl (.tmp 7) rfl rfl Try.underlying34 rfl (by kernel_rfl) ?_)  | ((with_reducible refine at_dst (N := 9) rfl ?_); refine wpList_run rfl (exec_binAgg rfl rfl rfl (by kernel_rfl) (ED.out _)) ?_)  | (go_at_call 43; refine (K1.out _ (H1.out.below hst.base) (H2.out.below hst.base)).mono ?_; rintro e w' ⟨rfl, hb⟩; replace hst := hst.below hb; clear hb; clear hc1 hf1 hc2 hf2; obtain ⟨hc2, hf2, hl2⟩ := hst.c0; obtain ⟨hc1, hf1, hl1⟩ := hst.c1))
    go_ret
    exact ⟨ret_bool (by simp), hst.base⟩

set_option maxHeartbeats 1000000 in
set_option maxRecDepth 100000 in
theorem sameR14_any (d e : DS) (x y : Int) (l m : List Pr) (ao bo : Option Addr) (ca cb : Nat) (w : World) (hl : l.length ≤ 140737488355328) (hm : m.length ≤ 140737488355328) (h1 : Prs w ao l) (h2 : Prs w bo m) :
    Calls Try.prog 23 #[.agg (arcC d x ao l.length ca), .agg (arcC e y bo m.length cb)] w fun r w' => r = .returned (.bool (samB d e x y l m)) ∧ Below w.heap.size w w' := by
  have hst := St.start w
  have e0 : samB d e x y l m = (decide (d = e) && decide (x = y) && decide (l = m)) := rfl
  rw [e0]
  obtain ⟨n, hn⟩ : ∃ n, n = l.length := ⟨_, rfl⟩
  obtain ⟨n2, hn2⟩ : ∃ n, n = m.length := ⟨_, rfl⟩
  rw [← hn, ← hn2]
  rw [← hn] at hl
  rw [← hn2] at hm
  have H1 := Lib.hid h1
  have H2 := Lib.hid h2
  have HN := Lib.hid hn
  have HN2 := Lib.hid hn2
  have ED := Lib.hid (run_neqDS d e)
  obtain ⟨V1, hV1⟩ : ∃ V, V = decide (d = e) := ⟨_, rfl⟩
  obtain ⟨V2, hV2⟩ : ∃ V, V = decide (x = y) := ⟨_, rfl⟩
  obtain ⟨V3, hV3⟩ : ∃ V, V = decide (l = m) := ⟨_, rfl⟩
  have hxy : (x == y) = V2 := by rw [hV2]; rfl
  have hxy2 : (x != y) = !V2 := by rw [bne, hxy]
  rw [← hV1, ← hV2, ← hV3]
  rw [← hV1] at ED
  have HV3 := Lib.hid hV3
  clear h1 h2 hn hn2 e0 hV1 hV2 hV3
  by_cases hV : V1 = true ∧ V2 = true
  · obtain ⟨rfl, rfl⟩ := hV
    by_cases he : n = n2
    · subst he
      go_enter Try.func23, Try.ntmps23
      go_wp2_with (first | ((with_reducible refine at_dst (N := 2) rfl ?_); refine wpList_box hst 37 (arcC d x ao n ca) rfl ?hr ?_; (case hr => first | (go_simp; done) | (go_simp; rfl)); clear hst; intro g1 w1 hst; obtain ⟨hc1, hf1, hl1⟩ := hst.c0) | (((with_reducible refine at_dst (N := 3) rfl ?_); refine wpList_box hst 37 (arcC e y bo n cb) rfl ?hr ?_; (case hr => first | (go_simp; done) | (go_simp; rfl)); clear hst; intro g2 w2 hst; obtain ⟨hc2, hf2, hl2⟩ := hst.c0); clear hc1 hf1 hc2 hf2; obtain ⟨hc2, hf2, hl2⟩ := hst.c0; obtain ⟨hc1, hf1, hl1⟩ := hst.c1)  | ((with_reducible refine at_dst (N := 7) rfl ?_); refine wpList_load_set hc1 rfl (.tmp 6) rfl rfl Try.underlying34 rfl (by kernel_rfl) ?_)  | ((with_reducible refine at_dst (N := 9) rfl ?_); refine wpList_load_set hc2 rfl (.tmp 8) rfl rfl Try.underlying34 rfl (by kernel_rfl) ?_)  | ((with_reducible refine at_dst (N := 10) rfl ?_); refine wpList_run rfl (exec_binAgg rfl rfl rfl (by kernel_rfl) (ED.out _)) ?_))
      go_loopw [5] (fun t wr => ∃ k : Nat, k ≤ n ∧ t = .int .i64 k ∧ Hid (takeEqP k l m) ∧ St w wr [⟨g2, arcC e y bo n cb, 37⟩, ⟨g1, arcC d x ao n ca, 37⟩]) (fun t _ => n - (intOf t).toNat)
      case atStart => exact ⟨0, Nat.zero_le _, rfl, fun j _ _ hj => absurd hj (by omega), hst⟩
      case round =>
        clear hst hc1 hf1 hl1 hc2 hf2 hl2
        obtain ⟨k, hk, rfl, HZ, hst⟩ := hrel
        obtain ⟨hc2, hf2, hl2⟩ := hst.c0; obtain ⟨hc1, hf1, hl1⟩ := hst.c1
        by_cases hlt : k < n
        · have hk1 : k < l.length := by rw [← HN.out]; exact hlt
          have hk2 : k < m.length := by rw [← HN2.out]; exact hlt
          obtain ⟨x1, hx⟩ : ∃ c, c = l[k] := ⟨_, rfl⟩
          obtain ⟨y1, hy⟩ : ∃ c, c = m[k] := ⟨_, rfl⟩
          obtain ⟨b, off, rfl, hb, hat⟩ : ∃ b off, ao = some ⟨b, off, none⟩ ∧ b < w.heap.size ∧ PrsAt w b off l := by
            rcases H1.out with h | h
            · rw [h] at hk1; simp at hk1
            · exact h
          obtain ⟨b2, off2, rfl, hb2, hat2⟩ : ∃ b off, bo = some ⟨b, off, none⟩ ∧ b < w.heap.size ∧ PrsAt w b off m := by
            rcases H2.out with h | h
            · rw [h] at hk2; simp at hk2
            · exact h
          obtain ⟨c0, c1⟩ := (hat.below hb hst.base).get hk1 hx
          obtain ⟨d0, d1⟩ := (hat2.below hb2 hst.base).get hk2 hy
          have HX := Lib.hid hx
          have HY := Lib.hid hy
          have q1 : wr.cell? ⟨g1, 22, none⟩ = some (.slice (some ⟨b, off, none⟩) n ca) := hc1 22
          have q2 : wr.cell? ⟨g2, 22, none⟩ = some (.slice (some ⟨b2, off2, none⟩) n cb) := hc2 22
          clear hat hat2 hx hy
          by_cases hxy1 : x1 = y1
          · have e1 : decide (x1 = y1) = true := decide_eq_true hxy1
            have HXY := Lib.hid hxy1
            clear hxy1
            go_wp2
            clear hc1 hf1 hl1 hc2 hf2 hl2
            go_quiet (fail)
            have hst2 := hst.drewN nq
            go_wp2
            go_roundw
            case measure => simp [intOf]; omega
            case rel =>
              refine ⟨k + 1, by omega, by go_num, fun j ha hb hj => ?_, hst2⟩
              by_cases e : j = k
              · subst e; rw [← HX.out, ← HY.out]; exact HXY.out
              · exact HZ.out j ha hb (by omega)
          · have e1 : decide (x1 = y1) = false := decide_eq_false hxy1
            have HXY := Lib.hid hxy1
            clear hxy1
            go_wp2
            clear hc1 hf1 hl1 hc2 hf2 hl2
            go_quiet (fail)
            have hst2 := hst.drewN nq
            go_wp2
            go_ret
            exact ⟨ret_bool (by rw [HV3.out, decide_eq_false (fun h => HXY.out (by rw [HX.out, HY.out]; subst h; rfl))]; rfl), hst2.base⟩
        · have e : k = n := by omega
          subst e
          have hlm := takeEqP_all HN.out.symm HN2.out.symm HZ.out
          have e2 : V3 = true := by rw [HV3.out, decide_eq_true hlm]
          go_wp2
          go_ret
          exact ⟨rfl, hst.base⟩
    · go_enter Try.func23, Try.ntmps23
      go_wp2_with (first | ((with_reducible refine at_dst (N := 2) rfl ?_); refine wpList_box hst 37 (arcC d x ao n ca) rfl ?hr ?_; (case hr => first | (go_simp; done) | (go_simp; rfl)); clear hst; intro g1 w1 hst; obtain ⟨hc1, hf1, hl1⟩ := hst.c0) | (((with_reducible refine at_dst (N := 3) rfl ?_); refine wpList_box hst 37 (arcC e y bo n2 cb) rfl ?hr ?_; (case hr => first | (go_simp; done) | (go_simp; rfl)); clear hst; intro g2 w2 hst; obtain ⟨hc2, hf2, hl2⟩ := hst.c0); clear hc1 hf1 hc2 hf2; obtain ⟨hc2, hf2, hl2⟩ := hst.c0; obtain ⟨hc1, hf1, hl1⟩ := hst.c1)  | ((with_reducible refine at_dst (N := 7) rfl ?_); refine wpList_load_set hc1 rfl (.tmp 6) rfl rfl Try.underlying34 rfl (by kernel_rfl) ?_)  | ((with_reducible refine at_dst (N := 9) rfl ?_); refine wpList_load_set hc2 rfl (.tmp 8) rfl rfl Try.underlying34 rfl (by kernel_rfl) ?_)  | ((with_reducible refine at_dst (N := 10) rfl ?_); refine wpList_run rfl (exec_binAgg rfl rfl rfl (by kernel_rfl) (ED.out _)) ?_))
      go_ret
      exact ⟨ret_bool (by rw [HV3.out, decide_eq_false (fun h => he (by rw [HN.out, HN2.out, h]))]), hst.base⟩
  · have hV0 : (V1 && V2 && V3) = false := by
      cases V1 <;> cases V2 <;> simp at hV ⊢
    rw [hV0]
    clear hV0 HV3
    cases V1 <;> cases V2
    case true.true => exact absurd ⟨rfl, rfl⟩ hV
    all_goals
      clear hV
      go_enter Try.func23, Try.ntmps23
      go_wp2_with (first | ((with_reducible refine at_dst (N := 2) rfl ?_); refine wpList_box hst 37 (arcC d x ao n ca) rfl ?hr ?_; (case hr => first | (go_simp; done) | (go_simp; rfl)); clear hst; intro g1 w1 hst; obtain ⟨hc1, hf1, hl1⟩ := hst.c0) | (((with_reducible refine at_dst (N := 3) rfl ?_); refine wpList_box hst 37 (arcC e y bo n2 cb) rfl ?hr ?_; (case hr => first | (go_simp; done) | (go_simp; rfl)); clear hst; intro g2 w2 hst; obtain ⟨hc2, hf2, hl2⟩ := hst.c0); clear hc1 hf1 hc2 hf2; obtain ⟨hc2, hf2, hl2⟩ := hst.c0; obtain ⟨hc1, hf1, hl1⟩ := hst.c1)  | ((with_reducible refine at_dst (N := 7) rfl ?_); refine wpList_load_set hc1 rfl (.tmp 6) rfl rfl Try.underlying34 rfl (by kernel_rfl) ?_)  | ((with_reducible refine at_dst (N := 9) rfl ?_); refine wpList_load_set hc2 rfl (.tmp 8) rfl rfl Try.underlying34 rfl (by kernel_rfl) ?_)  | ((with_reducible refine at_dst (N := 10) rfl ?_); refine wpList_run rfl (exec_binAgg rfl rfl rfl (by kernel_rfl) (ED.out _)) ?_))
      go_ret
      exact ⟨ret_bool rfl, hst.base⟩
end Go.Proofs.Ytklpamhhbigjfaa
