/- Chapter 14: Frame, of the program and of the reference. -/
import Derived.Test.YtklpamhhbigjfaaTab14
import Derived.Test.YtklpamhhbigjfaaKit10
namespace Go.Proofs.Ytklpamhhbigjfaa
open Go.RowKit
set_option linter.unusedSimpArgs false
set_option linter.unusedVariables false

def mkN (a b : Bool) : Nat := (if a then 1 else 0) + (if b then 2 else 0)
/-- the 60 bytes ahead of the sum -/
def frL (n : Nat) (a b : Bool) (d : ByteArray) : List UInt8 := [UInt8.ofNat n, UInt8.ofNat (n / 256), UInt8.ofNat (mkN a b), UInt8.ofNat d.size] ++ d.data.toList ++ List.replicate (56 - d.size) 0
def FrOk (n : Int) (d : ByteArray) : Prop := 0 ≤ n ∧ n ≤ 65535 ∧ 1 ≤ d.size ∧ d.size ≤ 56
instance (n : Int) (d : ByteArray) : Decidable (FrOk n d) := by unfold FrOk; infer_instance
def frS (n : Int) (a b : Bool) (d : ByteArray) : ByteArray := if FrOk n d then sealS (bs (frL n.toNat a b d)) else ⟨#[]⟩
theorem frL_len {n : Nat} {a b : Bool} {d : ByteArray} (h : d.size ≤ 56) : (frL n a b d).length = 60 := by
  simp [frL]; omega

theorem made_bytes (n : Nat) : madeCells (Value.int IntKind.u8 0).cells n = rowOf (List.replicate n 0) := by
  refine Array.ext (by rw [size_madeCells, rowOf_size, List.length_replicate]) fun i h1 h2 => ?_
  simp [madeCells, rowOf, byV, Value.cells, Nat.mod_one]
theorem mkN_bytes (n : Nat) (w : World) (hn : n ≤ 1000000) :
    (Instr.makeSlice 57 (.int .i64 n) (.int .i64 n)).run Try.prog w = .ok (.slice (some ⟨w.heap.size, 0, none⟩) n n) (w.alloc (.cells (rowOf (List.replicate n 0)) 5)) := by
  have hi : (Try.prog.info? 5).isSome = true := by kernel_rfl
  obtain ⟨i, hi⟩ := Option.isSome_iff_exists.1 hi
  have h1 : (Try.prog.info? 5).map (·.size) = some 1 := by kernel_rfl
  have h2 : (Try.prog.info? 5).map (·.bytes) = some 1 := by kernel_rfl
  have h3 : (Try.prog.info? 5).bind (·.zero) = some (.int .u8 0) := by kernel_rfl
  rw [hi] at h1 h2 h3
  simp at h1 h2 h3
  have h := run_makeSlice (P := Try.prog) (w := w) 57 5 i (.int .u8 0) (Try.underlying57) hi h3 .i64 .i64 n n (by omega) (by omega) (by rw [h1]; omega) (by rw [h2]; omega) (by omega)
  rw [h1, Int.toNat_natCast, Nat.mul_one, made_bytes] at h
  exact h
theorem exec_make {P : Program} {ev : Operand → Value} {o : Oper} {w w1 : World} {u v1 v2 : Value} {t : TypeId} {x y : Operand} (ho : o.op = .makeSlice t x y) (hx : ev x = v1) (hy : ev y = v2) (h : (Instr.makeSlice t v1 v2).run P w = .ok u w1) : (execOp ev o).run P w = .ok (.value u) w1 := by
  unfold execOp
  simp only [ho, hx, hy, Sem.run_bind, h, Result.andThen_ok, Sem.run_pure]

set_option maxHeartbeats 1000000 in
set_option maxRecDepth 100000 in
theorem frame_0 (n : Int) (d : ByteArray) (w : World) (h1 : 0 ≤ n) (h2 : n ≤ 65535) (h3 : 1 ≤ d.size) (h4 : d.size ≤ 56) (H4 Z Z1 FL : List UInt8) (R : ByteArray) (hZl : Hid (Z.length = 60)) (hZ1l : Hid (Z1.length = 60))
    (MK : Hid (∀ w : World, (Instr.makeSlice 57 (.int .i64 60) (.int .i64 60)).run Try.prog w = .ok (.slice (some ⟨w.heap.size, 0, none⟩) 60 60) (w.alloc (.cells (rowOf Z) 5))))
    (HH : Hid (#[.int .u8 (n % 256), .int .u8 (n / 256), .int .u8 0, .int .u8 d.size] = rowOf H4)) (HHl : Hid (H4.length = 4)) (E1 : Hid (Z.take 0 ++ H4 ++ Z.drop (0 + 4) = Z1)) (E2 : Hid (Z1.take 4 ++ d.data.toList ++ Z1.drop (4 + d.size) = FL))
    (HCV : Hid (∀ (w : World) (g : Nat), (∀ i, w.cell? ⟨g, i, none⟩ = (rowOf FL)[i]?) → (convert 57 9 (.slice (some ⟨g, 0, none⟩) 60 60)).run Try.prog w = .ok (.string (bs FL)) w))
    (KS : Hid (∀ w, Calls Try.prog 31 #[.string (bs FL)] w fun e w' => e = .returned (.string R) ∧ Below w.heap.size w w')) :
    Calls Try.prog 13 #[.int .i64 n, .bool false, .bool false, .string d] w fun e w' => e = .returned (.string R) ∧ Below w.heap.size w w' := by
  have hst := St.start w
  have o1 : bits BinOp.or IntKind.u8 0 1 = 1 := by decide +kernel
  have o2 : bits BinOp.or IntKind.u8 0 2 = 2 := by decide +kernel
  have o3 : bits BinOp.or IntKind.u8 1 2 = 3 := by decide +kernel
  go_enter Try.func13, Try.ntmps13
  go_wp2_with (first | ((with_reducible refine at_dst (N := 33) rfl ?_); refine wpList_boxS hst 5 (rowOf Z) 60 60 rfl (exec_make rfl rfl rfl (MK.out _)) ?_; clear hst; intro g1 w1 hst; obtain ⟨hc1, hf1, hl1⟩ := hst.c0)  | (((with_reducible refine at_dst (N := 44) rfl ?_); refine wpList_boxS hst 5 #[.int .u8 (n % 256), .int .u8 (n / 256), .int .u8 0, .int .u8 d.size] 4 4 rfl ?hr ?_; (case hr => first | (go_simp; done) | (go_simp; rfl)); clear hst; intro g2 w2 hst; obtain ⟨hc2, hf2, hl2⟩ := hst.c0); rw [HH.out] at hst; have hcc := hst.c0.1; clear hc2 hf2 hl2)  | ((with_reducible refine at_dst (N := 45) rfl ?_); refine wpList_copy_row (L1 := [⟨g2, rowOf H4, 5⟩]) (L2 := []) (g := g1) (L := Z) hst rfl (.tmp 34) (.tmp 44) 57 57 rfl 5 (Try.underlying57) (by kernel_rfl) 0 60 60 4 4 g2 H4 rfl rfl hcc HHl.out (by omega) (by rw [hZl.out]; omega) ?_; clear hst hcc hc1 hf1 hl1; intro w3 hst; rw [E1.out] at hst; obtain ⟨hc1, hf1, hl1⟩ := hst.c1)  | ((with_reducible refine at_dst (N := 49) rfl ?_); refine wpList_copy_str (L1 := [⟨g2, rowOf H4, 5⟩]) (L2 := []) (g := g1) (L := Z1) hst rfl (.tmp 47) (.tmp 48) 57 9 rfl 5 (Try.underlying57) (by kernel_rfl) 4 56 56 d rfl rfl (by omega) (by rw [hZ1l.out]; omega) ?_; clear hst hc1 hf1 hl1; intro w4 hst; rw [E2.out] at hst; obtain ⟨hc1, hf1, hl1⟩ := hst.c1)  | ((with_reducible refine at_dst (N := 51) rfl ?_); refine wpList_run (v := .string (bs FL)) rfl (exec_convert rfl rfl (HCV.out _ _ hc1)) ?_)  | (go_at_call 31; refine (KS.out _).mono ?_; rintro e w' ⟨rfl, hb⟩; replace hst := hst.below hb; clear hb hc1 hf1 hl1))
  go_ret
  exact ⟨rfl, hst.base⟩
set_option maxHeartbeats 1000000 in
set_option maxRecDepth 100000 in
theorem frame_2 (n : Int) (d : ByteArray) (w : World) (h1 : 0 ≤ n) (h2 : n ≤ 65535) (h3 : 1 ≤ d.size) (h4 : d.size ≤ 56) (H4 Z Z1 FL : List UInt8) (R : ByteArray) (hZl : Hid (Z.length = 60)) (hZ1l : Hid (Z1.length = 60))
    (MK : Hid (∀ w : World, (Instr.makeSlice 57 (.int .i64 60) (.int .i64 60)).run Try.prog w = .ok (.slice (some ⟨w.heap.size, 0, none⟩) 60 60) (w.alloc (.cells (rowOf Z) 5))))
    (HH : Hid (#[.int .u8 (n % 256), .int .u8 (n / 256), .int .u8 2, .int .u8 d.size] = rowOf H4)) (HHl : Hid (H4.length = 4)) (E1 : Hid (Z.take 0 ++ H4 ++ Z.drop (0 + 4) = Z1)) (E2 : Hid (Z1.take 4 ++ d.data.toList ++ Z1.drop (4 + d.size) = FL))
    (HCV : Hid (∀ (w : World) (g : Nat), (∀ i, w.cell? ⟨g, i, none⟩ = (rowOf FL)[i]?) → (convert 57 9 (.slice (some ⟨g, 0, none⟩) 60 60)).run Try.prog w = .ok (.string (bs FL)) w))
    (KS : Hid (∀ w, Calls Try.prog 31 #[.string (bs FL)] w fun e w' => e = .returned (.string R) ∧ Below w.heap.size w w')) :
    Calls Try.prog 13 #[.int .i64 n, .bool false, .bool true, .string d] w fun e w' => e = .returned (.string R) ∧ Below w.heap.size w w' := by
  have hst := St.start w
  have o1 : bits BinOp.or IntKind.u8 0 1 = 1 := by decide +kernel
  have o2 : bits BinOp.or IntKind.u8 0 2 = 2 := by decide +kernel
  have o3 : bits BinOp.or IntKind.u8 1 2 = 3 := by decide +kernel
  go_enter Try.func13, Try.ntmps13
  go_wp2_with (first | ((with_reducible refine at_dst (N := 33) rfl ?_); refine wpList_boxS hst 5 (rowOf Z) 60 60 rfl (exec_make rfl rfl rfl (MK.out _)) ?_; clear hst; intro g1 w1 hst; obtain ⟨hc1, hf1, hl1⟩ := hst.c0)  | (((with_reducible refine at_dst (N := 44) rfl ?_); refine wpList_boxS hst 5 #[.int .u8 (n % 256), .int .u8 (n / 256), .int .u8 2, .int .u8 d.size] 4 4 rfl ?hr ?_; (case hr => first | (go_simp; done) | (go_simp; rfl)); clear hst; intro g2 w2 hst; obtain ⟨hc2, hf2, hl2⟩ := hst.c0); rw [HH.out] at hst; have hcc := hst.c0.1; clear hc2 hf2 hl2)  | ((with_reducible refine at_dst (N := 45) rfl ?_); refine wpList_copy_row (L1 := [⟨g2, rowOf H4, 5⟩]) (L2 := []) (g := g1) (L := Z) hst rfl (.tmp 34) (.tmp 44) 57 57 rfl 5 (Try.underlying57) (by kernel_rfl) 0 60 60 4 4 g2 H4 rfl rfl hcc HHl.out (by omega) (by rw [hZl.out]; omega) ?_; clear hst hcc hc1 hf1 hl1; intro w3 hst; rw [E1.out] at hst; obtain ⟨hc1, hf1, hl1⟩ := hst.c1)  | ((with_reducible refine at_dst (N := 49) rfl ?_); refine wpList_copy_str (L1 := [⟨g2, rowOf H4, 5⟩]) (L2 := []) (g := g1) (L := Z1) hst rfl (.tmp 47) (.tmp 48) 57 9 rfl 5 (Try.underlying57) (by kernel_rfl) 4 56 56 d rfl rfl (by omega) (by rw [hZ1l.out]; omega) ?_; clear hst hc1 hf1 hl1; intro w4 hst; rw [E2.out] at hst; obtain ⟨hc1, hf1, hl1⟩ := hst.c1)  | ((with_reducible refine at_dst (N := 51) rfl ?_); refine wpList_run (v := .string (bs FL)) rfl (exec_convert rfl rfl (HCV.out _ _ hc1)) ?_)  | (go_at_call 31; refine (KS.out _).mono ?_; rintro e w' ⟨rfl, hb⟩; replace hst := hst.below hb; clear hb hc1 hf1 hl1))
  go_ret
  exact ⟨rfl, hst.base⟩
set_option maxHeartbeats 1000000 in
set_option maxRecDepth 100000 in
theorem frame_1 (n : Int) (d : ByteArray) (w : World) (h1 : 0 ≤ n) (h2 : n ≤ 65535) (h3 : 1 ≤ d.size) (h4 : d.size ≤ 56) (H4 Z Z1 FL : List UInt8) (R : ByteArray) (hZl : Hid (Z.length = 60)) (hZ1l : Hid (Z1.length = 60))
    (MK : Hid (∀ w : World, (Instr.makeSlice 57 (.int .i64 60) (.int .i64 60)).run Try.prog w = .ok (.slice (some ⟨w.heap.size, 0, none⟩) 60 60) (w.alloc (.cells (rowOf Z) 5))))
    (HH : Hid (#[.int .u8 (n % 256), .int .u8 (n / 256), .int .u8 1, .int .u8 d.size] = rowOf H4)) (HHl : Hid (H4.length = 4)) (E1 : Hid (Z.take 0 ++ H4 ++ Z.drop (0 + 4) = Z1)) (E2 : Hid (Z1.take 4 ++ d.data.toList ++ Z1.drop (4 + d.size) = FL))
    (HCV : Hid (∀ (w : World) (g : Nat), (∀ i, w.cell? ⟨g, i, none⟩ = (rowOf FL)[i]?) → (convert 57 9 (.slice (some ⟨g, 0, none⟩) 60 60)).run Try.prog w = .ok (.string (bs FL)) w))
    (KS : Hid (∀ w, Calls Try.prog 31 #[.string (bs FL)] w fun e w' => e = .returned (.string R) ∧ Below w.heap.size w w')) :
    Calls Try.prog 13 #[.int .i64 n, .bool true, .bool false, .string d] w fun e w' => e = .returned (.string R) ∧ Below w.heap.size w w' := by
  have hst := St.start w
  have o1 : bits BinOp.or IntKind.u8 0 1 = 1 := by decide +kernel
  have o2 : bits BinOp.or IntKind.u8 0 2 = 2 := by decide +kernel
  have o3 : bits BinOp.or IntKind.u8 1 2 = 3 := by decide +kernel
  go_enter Try.func13, Try.ntmps13
  go_wp2_with (first | ((with_reducible refine at_dst (N := 33) rfl ?_); refine wpList_boxS hst 5 (rowOf Z) 60 60 rfl (exec_make rfl rfl rfl (MK.out _)) ?_; clear hst; intro g1 w1 hst; obtain ⟨hc1, hf1, hl1⟩ := hst.c0)  | (((with_reducible refine at_dst (N := 44) rfl ?_); refine wpList_boxS hst 5 #[.int .u8 (n % 256), .int .u8 (n / 256), .int .u8 1, .int .u8 d.size] 4 4 rfl ?hr ?_; (case hr => first | (go_simp; done) | (go_simp; rfl)); clear hst; intro g2 w2 hst; obtain ⟨hc2, hf2, hl2⟩ := hst.c0); rw [HH.out] at hst; have hcc := hst.c0.1; clear hc2 hf2 hl2)  | ((with_reducible refine at_dst (N := 45) rfl ?_); refine wpList_copy_row (L1 := [⟨g2, rowOf H4, 5⟩]) (L2 := []) (g := g1) (L := Z) hst rfl (.tmp 34) (.tmp 44) 57 57 rfl 5 (Try.underlying57) (by kernel_rfl) 0 60 60 4 4 g2 H4 rfl rfl hcc HHl.out (by omega) (by rw [hZl.out]; omega) ?_; clear hst hcc hc1 hf1 hl1; intro w3 hst; rw [E1.out] at hst; obtain ⟨hc1, hf1, hl1⟩ := hst.c1)  | ((with_reducible refine at_dst (N := 49) rfl ?_); refine wpList_copy_str (L1 := [⟨g2, rowOf H4, 5⟩]) (L2 := []) (g := g1) (L := Z1) hst rfl (.tmp 47) (.tmp 48) 57 9 rfl 5 (Try.underlying57) (by kernel_rfl) 4 56 56 d rfl rfl (by omega) (by rw [hZ1l.out]; omega) ?_; clear hst hc1 hf1 hl1; intro w4 hst; rw [E2.out] at hst; obtain ⟨hc1, hf1, hl1⟩ := hst.c1)  | ((with_reducible refine at_dst (N := 51) rfl ?_); refine wpList_run (v := .string (bs FL)) rfl (exec_convert rfl rfl (HCV.out _ _ hc1)) ?_)  | (go_at_call 31; refine (KS.out _).mono ?_; rintro e w' ⟨rfl, hb⟩; replace hst := hst.below hb; clear hb hc1 hf1 hl1))
  go_ret
  exact ⟨rfl, hst.base⟩
set_option maxHeartbeats 1000000 in
set_option maxRecDepth 100000 in
theorem frame_3 (n : Int) (d : ByteArray) (w : World) (h1 : 0 ≤ n) (h2 : n ≤ 65535) (h3 : 1 ≤ d.size) (h4 : d.size ≤ 56) (H4 Z Z1 FL : List UInt8) (R : ByteArray) (hZl : Hid (Z.length = 60)) (hZ1l : Hid (Z1.length = 60))
    (MK : Hid (∀ w : World, (Instr.makeSlice 57 (.int .i64 60) (.int .i64 60)).run Try.prog w = .ok (.slice (some ⟨w.heap.size, 0, none⟩) 60 60) (w.alloc (.cells (rowOf Z) 5))))
    (HH : Hid (#[.int .u8 (n % 256), .int .u8 (n / 256), .int .u8 3, .int .u8 d.size] = rowOf H4)) (HHl : Hid (H4.length = 4)) (E1 : Hid (Z.take 0 ++ H4 ++ Z.drop (0 + 4) = Z1)) (E2 : Hid (Z1.take 4 ++ d.data.toList ++ Z1.drop (4 + d.size) = FL))
    (HCV : Hid (∀ (w : World) (g : Nat), (∀ i, w.cell? ⟨g, i, none⟩ = (rowOf FL)[i]?) → (convert 57 9 (.slice (some ⟨g, 0, none⟩) 60 60)).run Try.prog w = .ok (.string (bs FL)) w))
    (KS : Hid (∀ w, Calls Try.prog 31 #[.string (bs FL)] w fun e w' => e = .returned (.string R) ∧ Below w.heap.size w w')) :
    Calls Try.prog 13 #[.int .i64 n, .bool true, .bool true, .string d] w fun e w' => e = .returned (.string R) ∧ Below w.heap.size w w' := by
  have hst := St.start w
  have o1 : bits BinOp.or IntKind.u8 0 1 = 1 := by decide +kernel
  have o2 : bits BinOp.or IntKind.u8 0 2 = 2 := by decide +kernel
  have o3 : bits BinOp.or IntKind.u8 1 2 = 3 := by decide +kernel
  go_enter Try.func13, Try.ntmps13
  go_wp2_with (first | ((with_reducible refine at_dst (N := 33) rfl ?_); refine wpList_boxS hst 5 (rowOf Z) 60 60 rfl (exec_make rfl rfl rfl (MK.out _)) ?_; clear hst; intro g1 w1 hst; obtain ⟨hc1, hf1, hl1⟩ := hst.c0)  | (((with_reducible refine at_dst (N := 44) rfl ?_); refine wpList_boxS hst 5 #[.int .u8 (n % 256), .int .u8 (n / 256), .int .u8 3, .int .u8 d.size] 4 4 rfl ?hr ?_; (case hr => first | (go_simp; done) | (go_simp; rfl)); clear hst; intro g2 w2 hst; obtain ⟨hc2, hf2, hl2⟩ := hst.c0); rw [HH.out] at hst; have hcc := hst.c0.1; clear hc2 hf2 hl2)  | ((with_reducible refine at_dst (N := 45) rfl ?_); refine wpList_copy_row (L1 := [⟨g2, rowOf H4, 5⟩]) (L2 := []) (g := g1) (L := Z) hst rfl (.tmp 34) (.tmp 44) 57 57 rfl 5 (Try.underlying57) (by kernel_rfl) 0 60 60 4 4 g2 H4 rfl rfl hcc HHl.out (by omega) (by rw [hZl.out]; omega) ?_; clear hst hcc hc1 hf1 hl1; intro w3 hst; rw [E1.out] at hst; obtain ⟨hc1, hf1, hl1⟩ := hst.c1)  | ((with_reducible refine at_dst (N := 49) rfl ?_); refine wpList_copy_str (L1 := [⟨g2, rowOf H4, 5⟩]) (L2 := []) (g := g1) (L := Z1) hst rfl (.tmp 47) (.tmp 48) 57 9 rfl 5 (Try.underlying57) (by kernel_rfl) 4 56 56 d rfl rfl (by omega) (by rw [hZ1l.out]; omega) ?_; clear hst hc1 hf1 hl1; intro w4 hst; rw [E2.out] at hst; obtain ⟨hc1, hf1, hl1⟩ := hst.c1)  | ((with_reducible refine at_dst (N := 51) rfl ?_); refine wpList_run (v := .string (bs FL)) rfl (exec_convert rfl rfl (HCV.out _ _ hc1)) ?_)  | (go_at_call 31; refine (KS.out _).mono ?_; rintro e w' ⟨rfl, hb⟩; replace hst := hst.below hb; clear hb hc1 hf1 hl1))
  go_ret
  exact ⟨rfl, hst.base⟩

theorem frS_no {n : Int} {a b : Bool} {d : ByteArray} (h : ¬ FrOk n d) : frS n a b d = ⟨#[]⟩ := if_neg h
theorem frL_cells {n : Int} {a b : Bool} {d : ByteArray} (h1 : 0 ≤ n) (h2 : n ≤ 65535) (h4 : d.size ≤ 56) :
    (#[.int .u8 (n % 256), .int .u8 (n / 256), .int .u8 (mkN a b : Nat), .int .u8 d.size] : Array Value) = rowOf [UInt8.ofNat n.toNat, UInt8.ofNat (n.toNat / 256), UInt8.ofNat (mkN a b), UInt8.ofNat d.size] := by
  have e1 : ((UInt8.ofNat n.toNat).toNat : Int) = n % 256 := by rw [UInt8.toNat_ofNat']; omega
  have e2 : ((UInt8.ofNat (n.toNat / 256)).toNat : Int) = n / 256 := by rw [UInt8.toNat_ofNat']; omega
  have hm : mkN a b ≤ 3 := by cases a <;> cases b <;> decide
  have e3 : ((UInt8.ofNat (mkN a b)).toNat : Int) = (mkN a b : Nat) := by rw [UInt8.toNat_ofNat']; omega
  have e4 : ((UInt8.ofNat d.size).toNat : Int) = d.size := by rw [UInt8.toNat_ofNat']; omega
  simp only [rowOf, List.map_cons, List.map_nil, byV, e1, e2, e3, e4]
theorem frame_any (n : Int) (a b : Bool) (d : ByteArray) (w : World) (hd : d.size ≤ 140737488355328) :
    Calls Try.prog 13 #[.int .i64 n, .bool a, .bool b, .string d] w fun e w' => e = .returned (.string (frS n a b d)) ∧ Below w.heap.size w w' := by
  by_cases hok : FrOk n d
  · have hS : frS n a b d = sealS (bs (frL n.toNat a b d)) := if_pos hok
    rw [hS]
    obtain ⟨h1, h2, h3, h4⟩ := hok
    have hFl : (frL n.toNat a b d).length = 60 := frL_len h4
    have ks : Hid (∀ w, Calls Try.prog 31 #[.string (bs (frL n.toNat a b d))] w fun e w' => e = .returned (.string (sealS (bs (frL n.toNat a b d)))) ∧ Below w.heap.size w w') := fun w => seal_any _ w (by rw [bs_size, hFl]; omega)
    have hcv : Hid (∀ (w : World) (g : Nat), (∀ i, w.cell? ⟨g, i, none⟩ = (rowOf (frL n.toNat a b d))[i]?) → (convert 57 9 (.slice (some ⟨g, 0, none⟩) 60 60)).run Try.prog w = .ok (.string (bs (frL n.toNat a b d))) w) := by
      intro w g hc
      have := conv_rowOf (P := Try.prog) (c := 60) (Try.underlying57) (Try.underlying5) (Try.underlying9) hc
      rw [hFl] at this
      exact this
    have hz : Hid ((List.replicate 60 (0 : UInt8)).length = 60) := List.length_replicate
    have hz1 : Hid (([UInt8.ofNat n.toNat, UInt8.ofNat (n.toNat / 256), UInt8.ofNat (mkN a b), UInt8.ofNat d.size] ++ List.replicate 56 (0 : UInt8)).length = 60) := by show _ = _; rw [List.length_append, List.length_replicate]; rfl
    have mk : Hid (∀ w : World, (Instr.makeSlice 57 (.int .i64 60) (.int .i64 60)).run Try.prog w = .ok (.slice (some ⟨w.heap.size, 0, none⟩) 60 60) (w.alloc (.cells (rowOf (List.replicate 60 0)) 5))) := fun w => mkN_bytes 60 w (by omega)
    have e1 : Hid ((List.replicate 60 (0 : UInt8)).take 0 ++ [UInt8.ofNat n.toNat, UInt8.ofNat (n.toNat / 256), UInt8.ofNat (mkN a b), UInt8.ofNat d.size] ++ (List.replicate 60 (0 : UInt8)).drop (0 + 4) = [UInt8.ofNat n.toNat, UInt8.ofNat (n.toNat / 256), UInt8.ofNat (mkN a b), UInt8.ofNat d.size] ++ List.replicate 56 (0 : UInt8)) := by
      show _ = _
      rw [List.take_zero, List.nil_append, List.drop_replicate]
    have e2 : Hid (([UInt8.ofNat n.toNat, UInt8.ofNat (n.toNat / 256), UInt8.ofNat (mkN a b), UInt8.ofNat d.size] ++ List.replicate 56 (0 : UInt8)).take 4 ++ d.data.toList ++ ([UInt8.ofNat n.toNat, UInt8.ofNat (n.toNat / 256), UInt8.ofNat (mkN a b), UInt8.ofNat d.size] ++ List.replicate 56 (0 : UInt8)).drop (4 + d.size) = frL n.toNat a b d) := by
      show _ = _
      rw [← List.drop_drop]
      rw [show ([UInt8.ofNat n.toNat, UInt8.ofNat (n.toNat / 256), UInt8.ofNat (mkN a b), UInt8.ofNat d.size] ++ List.replicate 56 (0 : UInt8)).drop 4 = List.replicate 56 0 from List.drop_left' rfl, show ([UInt8.ofNat n.toNat, UInt8.ofNat (n.toNat / 256), UInt8.ofNat (mkN a b), UInt8.ofNat d.size] ++ List.replicate 56 (0 : UInt8)).take 4 = [UInt8.ofNat n.toNat, UInt8.ofNat (n.toNat / 256), UInt8.ofNat (mkN a b), UInt8.ofNat d.size] from List.take_left' rfl, List.drop_replicate]
      rfl
    have hh := frL_cells (a := a) (b := b) h1 h2 h4
    cases a <;> cases b
    · exact frame_0 n d w h1 h2 h3 h4 _ _ _ _ _ hz hz1 mk hh rfl e1 e2 hcv ks
    · exact frame_2 n d w h1 h2 h3 h4 _ _ _ _ _ hz hz1 mk hh rfl e1 e2 hcv ks
    · exact frame_1 n d w h1 h2 h3 h4 _ _ _ _ _ hz hz1 mk hh rfl e1 e2 hcv ks
    · exact frame_3 n d w h1 h2 h3 h4 _ _ _ _ _ hz hz1 mk hh rfl e1 e2 hcv ks
  · rw [frS_no hok]
    unfold FrOk at hok
    have hb0 : Below w.heap.size w w := Below.refl _ _
    go_enter Try.func13, Try.ntmps13
    go_wp2
    all_goals (go_ret; exact ⟨rfl, hb0⟩)
end Go.Proofs.Ytklpamhhbigjfaa
