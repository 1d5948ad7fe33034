/- Decimal numerals: strconv.Itoa by the shelf's contract; the reference Decimal. -/
import Derived.Test.YtklpamhhbigjfaaDoorShelf
import Derived.Test.YtklpamhhbigjfaaDoorKit9
import Derived.Test.YtklpamhhbigjfaaDoorVarint
import Derived.WalkSmall
namespace Go.Proofs.YtklpamhhbigjfaaDoor
open Go.RowKit
set_option linter.unusedSimpArgs false
set_option linter.unusedVariables false

/-- the library's table of powers of ten lies in memory as its text says -/
def TabOk (w : World) : Prop := Lib.TabIs Tryd.prog w "internal/strconv.uint64pow10" .u64 Lib.pow10Tab
theorem globTab : ∃ g, Tryd.prog.globalNamed "internal/strconv.uint64pow10" = some g := by
  have h : (Tryd.prog.globalNamed "internal/strconv.uint64pow10").isSome = true := by kernel_rfl
  exact Option.isSome_iff_exists.1 h
theorem TabOk.below {w w' : World} (h : TabOk w) (hb : Below w.heap.size w w') : TabOk w' := by
  obtain ⟨g, hg⟩ := globTab
  have h' := h
  unfold TabOk Lib.TabIs at h ⊢
  refine var?_below hb hg ?_ h
  unfold World.var? at h
  rw [hg] at h
  simp only [Option.bind_some] at h
  rcases Nat.lt_or_ge g w.heap.size with h' | h'
  · exact h'
  · rw [Array.getElem?_eq_none h'] at h; cases h
/-- a number whose numeral can be asked for -/
def NumOk (w : World) (n : Int) : Prop := 0 ≤ n ∧ n ≤ 9223372036854775807 ∧ (n < 100 ∨ TabOk w)
theorem NumOk.below {w w' : World} {n : Int} (h : NumOk w n) (hb : Below w.heap.size w w') : NumOk w' n := ⟨h.1, h.2.1, h.2.2.imp id fun t => t.below hb⟩
def decS (n : Nat) : ByteArray := bs (Lib.decDigits n)
theorem below_grow {w : World} (k : Nat) (os : Array Obj) : Below w.heap.size w (Sort.grow (w.drewN k) os) :=
  ⟨rfl, rfl, rfl, by show w.heap.size ≤ (w.heap ++ os).size; simp, fun i hi => by show (w.heap ++ os)[i]? = _; rw [Array.getElem?_append_left hi]⟩
theorem itoa_any (n : Int) (w : World) (h : NumOk w n) : Calls Tryd.prog 38 #[.int .i64 n] w fun e w' => e = .returned (.string (decS n.toNat)) ∧ Below w.heap.size w w' := by
  obtain ⟨h0, h1, h2⟩ := h
  rcases h2 with h2 | h2
  · obtain ⟨m, rfl⟩ := Int.eq_ofNat_of_zero_le h0
    refine (Tryd.strconv_Itoa_small m (by omega) w).mono ?_
    rintro e w' ⟨rfl, rfl⟩
    exact ⟨rfl, Below.refl _ _⟩
  · refine (Tryd.strconv_Itoa n (by omega) h1 w h2).mono ?_
    rintro e w' ⟨rfl, k, os, rfl⟩
    refine ⟨?_, below_grow k os⟩
    rw [Lib.itoa, if_neg (by omega)]
    rfl
theorem decS_small {n : Nat} (h : n ≤ 9223372036854775807) : (decS n).size ≤ 20 := by
  have key : ∀ (k n : Nat), n < 10 ^ k → (Lib.decDigits n).length ≤ max k 1 := by
    intro k
    induction k with
    | zero => intro n h; have : n = 0 := by simpa using h
              subst this; rw [Lib.decDigits]; simp
    | succ k ih =>
      intro n h
      rw [Lib.decDigits]
      split
      · simp only [List.length_cons, List.length_nil]; omega
      · have := ih (n / 10) (by rw [Nat.div_lt_iff_lt_mul (by omega)]; rw [Nat.pow_succ] at h; exact h)
        rw [List.length_append, List.length_singleton]
        cases k with
        | zero => simp at h; omega
        | succ k => omega
  have := key 20 n (by have : (10 : Nat) ^ 20 = 100000000000000000000 := by decide
                       omega)
  rw [decS, bs_size]
  omega

set_option maxHeartbeats 1000000 in
theorem decimal_step (n q : Nat) (x : UInt8) (w : World) (hm : n ≤ 9223372036854775807) (hq : q = n / 10) (hx : x = UInt8.ofNat (48 + n % 10))
    (ih : 10 ≤ n → ∀ w, Calls Tryd.prog 39 #[.int .i64 (q : Int)] w fun e w' => e = .returned (.string (decS q)) ∧ Below w.heap.size w w') :
    Calls Tryd.prog 39 #[.int .i64 n] w fun e w' => e = .returned (.string (decS n)) ∧ Below w.heap.size w w' := by
  have hst := St.start w
  have hxn : ((x.toNat : Nat) : Int) = 48 + (n : Int) % 10 := by rw [hx, UInt8.toNat_ofNat']; omega
  have HX := Lib.hid hxn
  clear hxn
  by_cases h10 : n < 10
  · have hfin : bs [x] = decS n := by rw [decS, Lib.decDigits, dif_pos h10, hx, Nat.mod_eq_of_lt h10]
    have HF := Lib.hid hfin
    clear ih hx hq hfin
    go_enter Tryd.func39, Tryd.ntmps39
    go_wp2_with (first | ((with_reducible refine at_dst (N := 8) rfl ?_); refine wpList_boxS hst 5 #[.int .u8 (48 + (n : Int) % 10)] 1 1 rfl ?hr ?_; (case hr => first | (go_simp; done) | (go_simp; rfl)); clear hst; intro g1 w1 hst; obtain ⟨hc1, hf1, hl1⟩ := hst.c0) | ((with_reducible refine at_dst (N := 9) rfl ?_); refine wpList_run (v := .string (bs [x])) rfl (exec_convert rfl rfl (conv_one x hst HX.out (Tryd.underlying74) (Tryd.underlying5) (Tryd.underlying9))) ?_))
    go_ret
    exact ⟨ret_str HF.out, hst.base⟩
  · have hfin : decS q ++ bs [x] = decS n := by
      have e : Lib.decDigits n = Lib.decDigits q ++ [x] := by rw [Lib.decDigits, dif_neg h10, hx, hq]
      rw [decS, decS, e, bs_append]
    have HF := Lib.hid hfin
    have IH := Lib.hid (ih (by omega))
    have hqs : (decS q).size ≤ 20 := decS_small (by omega)
    have hb1 : (bs [x]).size = 1 := rfl
    have e2 : (n : Int) / 10 = (q : Int) := by omega
    have E2 := Lib.hid e2
    clear ih hx hq hfin e2
    go_enter Tryd.func39, Tryd.ntmps39
    go_wp2_with (first | ((with_reducible refine at_dst (N := 8) rfl ?_); refine wpList_boxS hst 5 #[.int .u8 (48 + (n : Int) % 10)] 1 1 rfl ?hr ?_; (case hr => first | (go_simp; done) | (go_simp; rfl)); clear hst; intro g1 w1 hst; obtain ⟨hc1, hf1, hl1⟩ := hst.c0) | ((with_reducible refine at_dst (N := 9) rfl ?_); refine wpList_run (v := .string (bs [x])) rfl (exec_convert rfl rfl (conv_one x hst HX.out (Tryd.underlying74) (Tryd.underlying5) (Tryd.underlying9))) ?_)  | (go_at_call 39; rw [E2.out]; refine (IH.out _).mono ?_; rintro e w' ⟨rfl, hb⟩; replace hst := hst.below hb))
    go_ret
    exact ⟨ret_str HF.out, hst.base⟩
theorem decimal_any : ∀ (n : Nat) (w : World), n ≤ 9223372036854775807 → Calls Tryd.prog 39 #[.int .i64 (n : Int)] w fun e w' => e = .returned (.string (decS n)) ∧ Below w.heap.size w w' := by
  intro n
  induction n using Nat.strongRecOn with
  | ind n ih => intro w hn; exact decimal_step n (n / 10) _ w hn rfl rfl (fun h w => ih (n / 10) (by omega) w (by omega))
theorem decimal_int (n : Int) (w : World) (h0 : 0 ≤ n) (h1 : n ≤ 9223372036854775807) : Calls Tryd.prog 39 #[.int .i64 n] w fun e w' => e = .returned (.string (decS n.toNat)) ∧ Below w.heap.size w w' := by
  obtain ⟨m, rfl⟩ := Int.eq_ofNat_of_zero_le h0
  exact decimal_any m w (by omega)
end Go.Proofs.YtklpamhhbigjfaaDoor
