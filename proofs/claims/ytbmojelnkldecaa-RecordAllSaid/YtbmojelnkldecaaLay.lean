/-
  The layouts of this seat's types, as the abstract machine asks for them (laid by a program of mine out of the translation; the kernel compares them with the program's own table).
-/
import Derived.Test.YtbmojelnkldecaaAmA
import Derived.Test.YtbmojelnkldecaaChecked
namespace Go.Proofs.Ytbmojelnkldecaa

def lay : Lay := [(2, ⟨1, 8, [.int .i64 0], .int .i64⟩),
  (3, ⟨1, 8, [.int .i64 0], .int .i64⟩),
  (4, ⟨1, 1, [.bool false], .bool⟩),
  (5, ⟨1, 1, [.int .u8 0], .int .u8⟩),
  (9, ⟨1, 16, [.string ⟨#[]⟩], .str⟩),
  (12, ⟨1, 8, [.int .u64 0], .int .u64⟩),
  (21, ⟨1, 4, [.int .i32 0], .int .i32⟩),
  (22, ⟨5, 40, [.int .i64 0, .int .i64 0, .int .i64 0, .int .i64 0, .int .i64 0], .array 5 3⟩),
  (23, ⟨5, 40, [.int .i64 0, .int .i64 0, .int .i64 0, .int .i64 0, .int .i64 0], .array 5 3⟩),
  (24, ⟨12, 112, [.int .i64 0, .int .i64 0, .int .i64 0, .int .i64 0, .int .i64 0, .int .i64 0, .int .i64 0, .int .i64 0, .int .i64 0, .string ⟨#[]⟩, .int .i64 0, .string ⟨#[]⟩], .struct [(0, 3), (1, 3), (2, 23), (7, 3), (8, 3), (9, 9), (10, 3), (11, 9)]⟩),
  (25, ⟨12, 112, [.int .i64 0, .int .i64 0, .int .i64 0, .int .i64 0, .int .i64 0, .int .i64 0, .int .i64 0, .int .i64 0, .int .i64 0, .string ⟨#[]⟩, .int .i64 0, .string ⟨#[]⟩], .struct [(0, 3), (1, 3), (2, 23), (7, 3), (8, 3), (9, 9), (10, 3), (11, 9)]⟩),
  (26, ⟨1, 24, [.slice none 0 0], .slice 5⟩),
  (29, ⟨1, 8, [.int .i64 0], .int .i64⟩),
  (37, ⟨1, 24, [.slice none 0 0], .slice 25⟩),
  (38, ⟨9, 88, [.int .i64 0, .int .i64 0, .int .i64 0, .int .i64 0, .int .i64 0, .int .i64 0, .int .i64 0, .int .i64 0, .slice none 0 0], .struct [(0, 3), (1, 3), (2, 3), (3, 23), (8, 37)]⟩),
  (39, ⟨9, 88, [.int .i64 0, .int .i64 0, .int .i64 0, .int .i64 0, .int .i64 0, .int .i64 0, .int .i64 0, .int .i64 0, .slice none 0 0], .struct [(0, 3), (1, 3), (2, 3), (3, 23), (8, 37)]⟩),
  (43, ⟨9, 88, [.int .i64 0, .int .i64 0, .int .i64 0, .int .i64 0, .int .i64 0, .int .i64 0, .int .i64 0, .int .i64 0, .slice none 0 0], .struct [(0, 3), (1, 3), (2, 3), (3, 23), (8, 37)]⟩),
  (50, ⟨1, 4, [.int .u32 0], .int .u32⟩),
  (53, ⟨1, 2, [.int .u16 0], .int .u16⟩),
  (55, ⟨1, 24, [.slice none 0 0], .slice 39⟩),
  (59, ⟨1, 8, [.int .u64 0], .int .u64⟩),
  (62, ⟨1, 24, [.slice none 0 0], .slice 3⟩),
  (66, ⟨2, 4, [.int .u16 0, .int .u16 0], .array 2 53⟩),
  (70, ⟨4, 48, [.int .i64 0, .string ⟨#[]⟩, .int .i64 0, .string ⟨#[]⟩], .struct [(0, 3), (1, 9), (2, 3), (3, 9)]⟩),
  (71, ⟨4, 48, [.int .i64 0, .string ⟨#[]⟩, .int .i64 0, .string ⟨#[]⟩], .struct [(0, 3), (1, 9), (2, 3), (3, 9)]⟩),
  (87, ⟨3, 3, [.bool false, .bool false, .bool false], .struct [(0, 4), (1, 4), (2, 4)]⟩),
  (88, ⟨3, 3, [.bool false, .bool false, .bool false], .struct [(0, 4), (1, 4), (2, 4)]⟩),
  (97, ⟨4, 4, [.int .u8 0, .int .u8 0, .int .u8 0, .int .u8 0], .array 4 5⟩),
  (103, ⟨3, 48, [.string ⟨#[]⟩, .string ⟨#[]⟩, .string ⟨#[]⟩], .array 3 9⟩),
  (104, ⟨4, 64, [.string ⟨#[]⟩, .string ⟨#[]⟩, .string ⟨#[]⟩, .string ⟨#[]⟩], .array 4 9⟩),
  (106, ⟨1, 8, [.map none], .other⟩),
  (118, ⟨1, 8, [.pointer none], .ptr 120⟩),
  (119, ⟨3, 40, [.slice none 0 0, .int .i64 0, .int .i64 0], .struct [(0, 26), (1, 3), (2, 29)]⟩),
  (120, ⟨3, 40, [.slice none 0 0, .int .i64 0, .int .i64 0], .struct [(0, 26), (1, 3), (2, 29)]⟩),
  (124, ⟨1, 8, [.int .u64 0], .int .u64⟩),
  (135, ⟨1, 8, [.pointer none], .ptr 5⟩)]

theorem lay_ok : LayOk Try.prog lay := layOk_of (by kernel_rfl)
theorem follows_ok : Try.prog.follows .mixedOrders = true := by kernel_rfl
end Go.Proofs.Ytbmojelnkldecaa
