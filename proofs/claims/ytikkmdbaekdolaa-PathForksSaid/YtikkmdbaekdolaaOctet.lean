import Derived.Test.YtikkmdbaekdolaaBase
import Derived.Test.YtikkmdbaekdolaaGr
import Derived.Deep.Light
import Derived.Laws.MakeOwn
import Derived.OwnWalk
namespace Go.Proofs.Ytikkmdbaekdolaa
open Go.RowKit Go.Lib
set_option linter.unusedVariables false
set_option maxRecDepth 100000

def sizeI (n : Int) : Int := if n < 64 then 1 else if n < 16384 then 2 else if n < 1073741824 then 4 else if n ≤ 4611686018427387903 then 8 else 0
theorem oSize (n : Int) (w : World) :
    Calls Try.prog 149 #[.int .u64 n] w fun e w' => e = .returned (.int .i64 (sizeI n)) ∧ w = w' := by
  unfold sizeI
  by_cases h1 : n < 64
  · rw [if_pos h1]
    go_enter Try.func149, Try.ntmps149
    go_wp2_with fail
    go_ret
    exact ⟨rfl, rfl⟩
  rw [if_neg h1]
  by_cases h2 : n < 16384
  · rw [if_pos h2]
    go_enter Try.func149, Try.ntmps149
    go_wp2_with fail
    go_ret
    exact ⟨rfl, rfl⟩
  rw [if_neg h2]
  by_cases h3 : n < 1073741824
  · rw [if_pos h3]
    go_enter Try.func149, Try.ntmps149
    go_wp2_with fail
    go_ret
    exact ⟨rfl, rfl⟩
  rw [if_neg h3]
  by_cases h4 : n ≤ 4611686018427387903
  · rw [if_pos h4]
    go_enter Try.func149, Try.ntmps149
    go_wp2_with fail
    go_ret
    exact ⟨rfl, rfl⟩
  rw [if_neg h4]
  go_enter Try.func149, Try.ntmps149
  go_wp2_with fail
  go_ret
  exact ⟨rfl, rfl⟩

@[go_sem] theorem mkBytes1 (w : World) : (Instr.makeSlice 44 (.int .i64 1) (.int .i64 1)).run Try.prog w = .ok (.slice (some ⟨w.heap.size, 0, none⟩) 1 1) (w.alloc (.cells #[.int .u8 0] 5)) := by
  obtain ⟨i, hi, hz, hs, hb⟩ := info_parts (P := Try.prog) (e := 5) (z := .int .u8 0) (size := 1) (bytes := 1) (by kernel_rfl)
  have h := run_make (P := Try.prog) w 44 5 i (.int .u8 0) Try.underlying44 hi hz .i64 .i64 1 1 (by omega) (by omega) (by rw [hb]; decide) (by omega)
  rw [h, hs]
  exact congrArg (fun x => Result.ok (Value.slice (some ⟨w.heap.size, 0, none⟩) 1 1) (w.alloc (.cells x 5))) (by kernel_rfl)
@[go_sem] theorem mkBytes2 (w : World) : (Instr.makeSlice 44 (.int .i64 2) (.int .i64 2)).run Try.prog w = .ok (.slice (some ⟨w.heap.size, 0, none⟩) 2 2) (w.alloc (.cells #[.int .u8 0, .int .u8 0] 5)) := by
  obtain ⟨i, hi, hz, hs, hb⟩ := info_parts (P := Try.prog) (e := 5) (z := .int .u8 0) (size := 1) (bytes := 1) (by kernel_rfl)
  have h := run_make (P := Try.prog) w 44 5 i (.int .u8 0) Try.underlying44 hi hz .i64 .i64 2 2 (by omega) (by omega) (by rw [hb]; decide) (by omega)
  rw [h, hs]
  exact congrArg (fun x => Result.ok (Value.slice (some ⟨w.heap.size, 0, none⟩) 2 2) (w.alloc (.cells x 5))) (by kernel_rfl)
@[go_sem] theorem mkBytes4 (w : World) : (Instr.makeSlice 44 (.int .i64 4) (.int .i64 4)).run Try.prog w = .ok (.slice (some ⟨w.heap.size, 0, none⟩) 4 4) (w.alloc (.cells #[.int .u8 0, .int .u8 0, .int .u8 0, .int .u8 0] 5)) := by
  obtain ⟨i, hi, hz, hs, hb⟩ := info_parts (P := Try.prog) (e := 5) (z := .int .u8 0) (size := 1) (bytes := 1) (by kernel_rfl)
  have h := run_make (P := Try.prog) w 44 5 i (.int .u8 0) Try.underlying44 hi hz .i64 .i64 4 4 (by omega) (by omega) (by rw [hb]; decide) (by omega)
  rw [h, hs]
  exact congrArg (fun x => Result.ok (Value.slice (some ⟨w.heap.size, 0, none⟩) 4 4) (w.alloc (.cells x 5))) (by kernel_rfl)
@[go_sem] theorem mkBytes8 (w : World) : (Instr.makeSlice 44 (.int .i64 8) (.int .i64 8)).run Try.prog w = .ok (.slice (some ⟨w.heap.size, 0, none⟩) 8 8) (w.alloc (.cells #[.int .u8 0, .int .u8 0, .int .u8 0, .int .u8 0, .int .u8 0, .int .u8 0, .int .u8 0, .int .u8 0] 5)) := by
  obtain ⟨i, hi, hz, hs, hb⟩ := info_parts (P := Try.prog) (e := 5) (z := .int .u8 0) (size := 1) (bytes := 1) (by kernel_rfl)
  have h := run_make (P := Try.prog) w 44 5 i (.int .u8 0) Try.underlying44 hi hz .i64 .i64 8 8 (by omega) (by omega) (by rw [hb]; decide) (by omega)
  rw [h, hs]
  exact congrArg (fun x => Result.ok (Value.slice (some ⟨w.heap.size, 0, none⟩) 8 8) (w.alloc (.cells x 5))) (by kernel_rfl)

/-- the bytes of a number -/
def putL (n : Int) : List Int := if n < 64 then [n] else if n < 16384 then [bits .or .u8 (n / 256) 64, n % 256] else if n < 1073741824 then [bits .or .u8 (n / 16777216) 128, n / 65536 % 256, n / 256 % 256, n % 256] else [bits .or .u8 (n / 72057594037927936) 192, n / 281474976710656 % 256, n / 1099511627776 % 256, n / 4294967296 % 256, n / 16777216 % 256, n / 65536 % 256, n / 256 % 256, n % 256]
set_option maxHeartbeats 1000000 in
theorem oPut1 (n : Int) (h1 : 0 ≤ n) (h2 : n < 64) (w : World) :
    Calls Try.prog 139 #[.int .u64 n] w fun e w' => e = .returned (.tuple #[.slice (some ⟨w.heap.size, 0, none⟩) 1 1, .bool true]) ∧ w' = w.alloc (.cells #[.int .u8 (n)] 5) := by
  have hs : sizeI n = 1 := by unfold sizeI; rw [if_pos (by omega)]
  go_enter Try.func139, Try.ntmps139
  go_wp2_with fail
  refine (oSize n _).mono ?_; rintro e' w' ⟨rfl, rfl⟩
  rw [hs]
  go_wp2_with fail
  refine wp_loop_rounds 2 ?_
  rw [rounds_succ]
  go_wp2_with fail
  rw [rounds_succ]
  go_wp2_with fail
  exact bodyPost_ret (v := .tuple #[.slice (some ⟨w.heap.size, 0, none⟩) 1 1, .bool true]) (by simp [results, Try.results139, go_sem]) rfl ⟨rfl, rfl⟩
set_option maxHeartbeats 1000000 in
theorem oPut2 (n : Int) (h1 : 64 ≤ n) (h2 : n < 16384) (w : World) :
    Calls Try.prog 139 #[.int .u64 n] w fun e w' => e = .returned (.tuple #[.slice (some ⟨w.heap.size, 0, none⟩) 2 2, .bool true]) ∧ w' = w.alloc (.cells #[.int .u8 (bits .or .u8 (n / 256) 64), .int .u8 (n % 256)] 5) := by
  have hs : sizeI n = 2 := by unfold sizeI; rw [if_neg (by omega), if_pos (by omega)]
  go_enter Try.func139, Try.ntmps139
  go_wp2_with fail
  refine (oSize n _).mono ?_; rintro e' w' ⟨rfl, rfl⟩
  rw [hs]
  go_wp2_with fail
  refine wp_loop_rounds 3 ?_
  rw [rounds_succ]
  go_wp2_with fail
  rw [rounds_succ]
  go_wp2_with fail
  rw [rounds_succ]
  go_wp2_with fail
  exact bodyPost_ret (v := .tuple #[.slice (some ⟨w.heap.size, 0, none⟩) 2 2, .bool true]) (by simp [results, Try.results139, go_sem]) rfl ⟨rfl, rfl⟩
set_option maxHeartbeats 1000000 in
theorem oPut4 (n : Int) (h1 : 16384 ≤ n) (h2 : n < 1073741824) (w : World) :
    Calls Try.prog 139 #[.int .u64 n] w fun e w' => e = .returned (.tuple #[.slice (some ⟨w.heap.size, 0, none⟩) 4 4, .bool true]) ∧ w' = w.alloc (.cells #[.int .u8 (bits .or .u8 (n / 16777216) 128), .int .u8 (n / 65536 % 256), .int .u8 (n / 256 % 256), .int .u8 (n % 256)] 5) := by
  have hs : sizeI n = 4 := by unfold sizeI; rw [if_neg (by omega), if_neg (by omega), if_pos (by omega)]
  go_enter Try.func139, Try.ntmps139
  go_wp2_with fail
  refine (oSize n _).mono ?_; rintro e' w' ⟨rfl, rfl⟩
  rw [hs]
  go_wp2_with fail
  refine wp_loop_rounds 5 ?_
  rw [rounds_succ]
  go_wp2_with fail
  rw [rounds_succ]
  go_wp2_with fail
  rw [rounds_succ]
  go_wp2_with fail
  rw [rounds_succ]
  go_wp2_with fail
  rw [rounds_succ]
  go_wp2_with fail
  exact bodyPost_ret (v := .tuple #[.slice (some ⟨w.heap.size, 0, none⟩) 4 4, .bool true]) (by simp [results, Try.results139, go_sem]) rfl ⟨rfl, rfl⟩
set_option maxHeartbeats 1000000 in
theorem oPut8 (n : Int) (h1 : 1073741824 ≤ n) (h2 : n ≤ 4611686018427387903) (w : World) :
    Calls Try.prog 139 #[.int .u64 n] w fun e w' => e = .returned (.tuple #[.slice (some ⟨w.heap.size, 0, none⟩) 8 8, .bool true]) ∧ w' = w.alloc (.cells #[.int .u8 (bits .or .u8 (n / 72057594037927936) 192), .int .u8 (n / 281474976710656 % 256), .int .u8 (n / 1099511627776 % 256), .int .u8 (n / 4294967296 % 256), .int .u8 (n / 16777216 % 256), .int .u8 (n / 65536 % 256), .int .u8 (n / 256 % 256), .int .u8 (n % 256)] 5) := by
  have hs : sizeI n = 8 := by unfold sizeI; rw [if_neg (by omega), if_neg (by omega), if_neg (by omega), if_pos (by omega)]
  go_enter Try.func139, Try.ntmps139
  go_wp2_with fail
  refine (oSize n _).mono ?_; rintro e' w' ⟨rfl, rfl⟩
  rw [hs]
  go_wp2_with fail
  refine wp_loop_rounds 9 ?_
  rw [rounds_succ]
  go_wp2_with fail
  rw [rounds_succ]
  go_wp2_with fail
  rw [rounds_succ]
  go_wp2_with fail
  rw [rounds_succ]
  go_wp2_with fail
  rw [rounds_succ]
  go_wp2_with fail
  rw [rounds_succ]
  go_wp2_with fail
  rw [rounds_succ]
  go_wp2_with fail
  rw [rounds_succ]
  go_wp2_with fail
  rw [rounds_succ]
  go_wp2_with fail
  exact bodyPost_ret (v := .tuple #[.slice (some ⟨w.heap.size, 0, none⟩) 8 8, .bool true]) (by simp [results, Try.results139, go_sem]) rfl ⟨rfl, rfl⟩

end Go.Proofs.Ytikkmdbaekdolaa
