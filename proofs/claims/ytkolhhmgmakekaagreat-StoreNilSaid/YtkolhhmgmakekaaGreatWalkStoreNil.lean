/- The law StoreNil, called with any arguments, comes to its end and tells true. -/
import Derived.Test.YtkolhhmgmakekaaGreatExtStoreNil
import Derived.Test.YtkolhhmgmakekaaGreatStoreNil
namespace Go.Proofs.YtkolhhmgmakekaaGreat
open Go.Ev Go.RowKit
theorem walk (c0_0 : Int) (c0_1 : Int) (c0_2 : Int) (c0_3 : Int) (c0_4 : Int) (c0_5 : Int) (c1_0 : Int) (c1_1 : Int) (c1_2 : Int) (c1_3 : Int) (c1_4 : ByteArray) (c1_5 : ByteArray) (c1_6 : Int) (c1_7p : Option Addr) (c1_7n : Nat) (c1_7c : Nat) (w : World) : Calls Tryz.prog 3 #[.agg #[.int .i64 c0_0, .int .i64 c0_1, .int .i64 c0_2, .int .i64 c0_3, .int .i64 c0_4, .int .i64 c0_5], .agg #[.int .i64 c1_0, .int .i64 c1_1, .int .i64 c1_2, .int .i64 c1_3, .string c1_4, .string c1_5, .int .u64 c1_6, .slice c1_7p c1_7n c1_7c]] w fun e w' => e = .returned (.bool true) ∧ Below w.heap.size w w' := by
  obtain ⟨H1, h⟩ := law_run c0_0 c0_1 c0_2 c0_3 c0_4 c0_5 c1_0 c1_1 c1_2 c1_3 c1_6 c1_4 c1_5 c1_7p c1_7n c1_7c
  exact calls_of_run_reads (C := cx ρ0) (vs := [.agg #[.int .i64 c0_0, .int .i64 c0_1, .int .i64 c0_2, .int .i64 c0_3, .int .i64 c0_4, .int .i64 c0_5], .agg #[.int .i64 c1_0, .int .i64 c1_1, .int .i64 c1_2, .int .i64 c1_3, .string c1_4, .string c1_5, .int .u64 c1_6, .slice c1_7p c1_7n c1_7c]]) (fun a v e => by cases e) (by kernel_rfl) (cx_ext _) Tryz.func3 rfl h (⟨_, _, rfl, ⟨_, rfl, ⟨_, _, rfl, rfl, ⟨_, _, rfl, rfl, ⟨_, _, rfl, rfl, ⟨_, _, rfl, rfl, ⟨_, _, rfl, rfl, ⟨_, _, rfl, rfl, rfl⟩⟩⟩⟩⟩⟩⟩, ⟨_, _, rfl, ⟨_, rfl, ⟨_, _, rfl, rfl, ⟨_, _, rfl, rfl, ⟨_, _, rfl, rfl, ⟨_, _, rfl, rfl, ⟨_, _, rfl, rfl, ⟨_, _, rfl, rfl, ⟨_, _, rfl, rfl, ⟨_, _, rfl, rfl, rfl⟩⟩⟩⟩⟩⟩⟩⟩⟩, rfl⟩⟩)
end Go.Proofs.YtkolhhmgmakekaaGreat
