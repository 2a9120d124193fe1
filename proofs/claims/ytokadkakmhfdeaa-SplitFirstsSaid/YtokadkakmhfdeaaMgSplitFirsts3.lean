/- What the proof of a statement of this seat rests on, part 3: PqT, PqV, PqC3, PqC2, PqC1, PqW1, PqW2, PqW3, PqW4, PqW5. -/
import Derived.Test.YtokadkakmhfdeaaProg
import Derived.Eval
import Derived.Test.YtokadkakmhfdeaaMgSplitFirsts2
set_option linter.unusedVariables false
set_option linter.unusedSimpArgs false
set_option linter.unusedSectionVars false
namespace Go.Proofs.Ytokadkakmhfdeaa.Pq
open Go.RowKit
/- The types of the program. -/
def tys : List (Nat × TI) :=
  [(1, ⟨.func, 1, 8, [.nilF]⟩),
  (2, ⟨.int .i64, 1, 8, [.int .i64 0]⟩),
  (3, ⟨.int .i64, 1, 8, [.int .i64 0]⟩),
  (4, ⟨.bool, 1, 1, [.bool false]⟩),
  (5, ⟨.int .u8, 1, 1, [.int .u8 0]⟩),
  (6, ⟨.int .u8, 1, 1, [.int .u8 0]⟩),
  (7, ⟨.struct [(0, 2), (1, 3), (2, 4), (3, 6)], 4, 24, [.int .i64 0, .int .i64 0, .bool false, .int .u8 0]⟩),
  (8, ⟨.struct [(0, 2), (1, 3), (2, 4), (3, 6)], 4, 24, [.int .i64 0, .int .i64 0, .bool false, .int .u8 0]⟩),
  (9, ⟨.str, 1, 16, [.str .empty]⟩),
  (10, ⟨.str, 1, 16, [.str .empty]⟩),
  (11, ⟨.str, 1, 16, [.str .empty]⟩),
  (12, ⟨.int .u64, 1, 8, [.int .u64 0]⟩),
  (13, ⟨.struct [(0, 9), (1, 12)], 2, 24, [.str .empty, .int .u64 0]⟩),
  (14, ⟨.struct [(0, 9), (1, 12)], 2, 24, [.str .empty, .int .u64 0]⟩),
  (15, ⟨.ptr 203, 1, 8, [.nilP]⟩),
  (16, ⟨.ptr 206, 1, 8, [.nilP]⟩),
  (17, ⟨.ptr 214, 1, 8, [.nilP]⟩),
  (18, ⟨.struct [(0, 17)], 1, 8, [.nilP]⟩),
  (19, ⟨.struct [(0, 17)], 1, 8, [.nilP]⟩),
  (21, ⟨.int .i32, 1, 4, [.int .i32 0]⟩),
  (22, ⟨.slice 3, 1, 24, [.nilS]⟩),
  (23, ⟨.ptr 25, 1, 8, [.nilP]⟩),
  (24, ⟨.struct [(0, 22), (1, 3)], 2, 32, [.nilS, .int .i64 0]⟩),
  (25, ⟨.struct [(0, 22), (1, 3)], 2, 32, [.nilS, .int .i64 0]⟩),
  (26, ⟨.slice 22, 1, 24, [.nilS]⟩),
  (27, ⟨.func, 1, 8, [.nilF]⟩),
  (28, ⟨.func, 1, 8, [.nilF]⟩),
  (29, ⟨.func, 1, 8, [.nilF]⟩),
  (30, ⟨.func, 1, 8, [.nilF]⟩),
  (31, ⟨.func, 1, 8, [.nilF]⟩),
  (32, ⟨.func, 1, 8, [.nilF]⟩),
  (33, ⟨.func, 1, 8, [.nilF]⟩),
  (34, ⟨.func, 1, 8, [.nilF]⟩),
  (35, ⟨.func, 1, 8, [.nilF]⟩),
  (36, ⟨.func, 1, 8, [.nilF]⟩),
  (37, ⟨.func, 1, 8, [.nilF]⟩),
  (38, ⟨.slice 2, 1, 24, [.nilS]⟩),
  (39, ⟨.struct [(0, 22), (1, 38)], 2, 48, [.nilS, .nilS]⟩),
  (40, ⟨.struct [(0, 22), (1, 38)], 2, 48, [.nilS, .nilS]⟩),
  (42, ⟨.func, 1, 8, [.nilF]⟩),
  (43, ⟨.func, 1, 8, [.nilF]⟩),
  (44, ⟨.func, 1, 8, [.nilF]⟩),
  (45, ⟨.slice 40, 1, 24, [.nilS]⟩),
  (46, ⟨.int .i64, 1, 8, [.int .i64 0]⟩),
  (48, ⟨.func, 1, 8, [.nilF]⟩),
  (49, ⟨.func, 1, 8, [.nilF]⟩),
  (50, ⟨.func, 1, 8, [.nilF]⟩),
  (52, ⟨.func, 1, 8, [.nilF]⟩),
  (53, ⟨.func, 1, 8, [.nilF]⟩),
  (55, ⟨.func, 1, 8, [.nilF]⟩),
  (56, ⟨.func, 1, 8, [.nilF]⟩),
  (57, ⟨.func, 1, 8, [.nilF]⟩),
  (58, ⟨.func, 1, 8, [.nilF]⟩),
  (59, ⟨.ptr 64, 1, 8, [.nilP]⟩),
  (60, ⟨.func, 1, 8, [.nilF]⟩),
  (61, ⟨.ptr 135, 1, 8, [.nilP]⟩),
  (62, ⟨.slice 45, 1, 24, [.nilS]⟩),
  (63, ⟨.struct [(0, 61), (1, 62), (2, 22), (3, 3)], 4, 64, [.nilP, .nilS, .nilS, .int .i64 0]⟩),
  (64, ⟨.struct [(0, 61), (1, 62), (2, 22), (3, 3)], 4, 64, [.nilP, .nilS, .nilS, .int .i64 0]⟩),
  (66, ⟨.func, 1, 8, [.nilF]⟩),
  (67, ⟨.ptr 77, 1, 8, [.nilP]⟩),
  (69, ⟨.func, 1, 8, [.nilF]⟩),
  (70, ⟨.slice 141, 1, 24, [.nilS]⟩),
  (71, ⟨.func, 1, 8, [.nilF]⟩),
  (73, ⟨.slice 72, 1, 24, [.nilS]⟩),
  (74, ⟨.slice 169, 1, 24, [.nilS]⟩),
  (75, ⟨.slice 46, 1, 24, [.nilS]⟩),
  (76, ⟨.struct [(0, 70), (1, 62), (2, 73), (3, 22), (4, 74), (5, 3), (6, 75)], 7, 152, [.nilS, .nilS, .nilS, .nilS, .nilS, .int .i64 0, .nilS]⟩),
  (77, ⟨.struct [(0, 70), (1, 62), (2, 73), (3, 22), (4, 74), (5, 3), (6, 75)], 7, 152, [.nilS, .nilS, .nilS, .nilS, .nilS, .int .i64 0, .nilS]⟩),
  (79, ⟨.func, 1, 8, [.nilF]⟩),
  (80, ⟨.func, 1, 8, [.nilF]⟩),
  (81, ⟨.func, 1, 8, [.nilF]⟩),
  (82, ⟨.slice 4, 1, 24, [.nilS]⟩),
  (83, ⟨.slice 86, 1, 24, [.nilS]⟩),
  (85, ⟨.func, 1, 8, [.nilF]⟩),
  (86, ⟨.array 2 3, 2, 16, [.int .i64 0, .int .i64 0]⟩),
  (87, ⟨.func, 1, 8, [.nilF]⟩),
  (88, ⟨.func, 1, 8, [.nilF]⟩),
  (90, ⟨.func, 1, 8, [.nilF]⟩),
  (91, ⟨.func, 1, 8, [.nilF]⟩),
  (92, ⟨.func, 1, 8, [.nilF]⟩),
  (93, ⟨.func, 1, 8, [.nilF]⟩),
  (94, ⟨.func, 1, 8, [.nilF]⟩),
  (95, ⟨.func, 1, 8, [.nilF]⟩),
  (96, ⟨.func, 1, 8, [.nilF]⟩),
  (97, ⟨.func, 1, 8, [.nilF]⟩),
  (98, ⟨.func, 1, 8, [.nilF]⟩),
  (99, ⟨.func, 1, 8, [.nilF]⟩),
  (100, ⟨.struct [(0, 3), (1, 22), (2, 22), (3, 22), (4, 2), (5, 3), (6, 9)], 7, 112, [.int .i64 0, .nilS, .nilS, .nilS, .int .i64 0, .int .i64 0, .str .empty]⟩),
  (101, ⟨.struct [(0, 3), (1, 22), (2, 22), (3, 22), (4, 2), (5, 3), (6, 9)], 7, 112, [.int .i64 0, .nilS, .nilS, .nilS, .int .i64 0, .int .i64 0, .str .empty]⟩),
  (102, ⟨.struct [(0, 3), (1, 3), (2, 22), (3, 101), (10, 3), (11, 3), (12, 3)], 13, 176, [.int .i64 0, .int .i64 0, .nilS, .int .i64 0, .nilS, .nilS, .nilS, .int .i64 0, .int .i64 0, .str .empty, .int .i64 0, .int .i64 0, .int .i64 0]⟩),
  (103, ⟨.struct [(0, 3), (1, 3), (2, 22), (3, 101), (10, 3), (11, 3), (12, 3)], 13, 176, [.int .i64 0, .int .i64 0, .nilS, .int .i64 0, .nilS, .nilS, .nilS, .int .i64 0, .int .i64 0, .str .empty, .int .i64 0, .int .i64 0, .int .i64 0]⟩),
  (104, ⟨.func, 1, 8, [.nilF]⟩),
  (106, ⟨.func, 1, 8, [.nilF]⟩),
  (107, ⟨.func, 1, 8, [.nilF]⟩),
  (108, ⟨.func, 1, 8, [.nilF]⟩),
  (109, ⟨.func, 1, 8, [.nilF]⟩),
  (110, ⟨.func, 1, 8, [.nilF]⟩),
  (111, ⟨.func, 1, 8, [.nilF]⟩),
  (112, ⟨.func, 1, 8, [.nilF]⟩),
  (113, ⟨.func, 1, 8, [.nilF]⟩),
  (114, ⟨.func, 1, 8, [.nilF]⟩),
  (115, ⟨.func, 1, 8, [.nilF]⟩),
  (116, ⟨.func, 1, 8, [.nilF]⟩),
  (117, ⟨.func, 1, 8, [.nilF]⟩),
  (118, ⟨.slice 120, 1, 24, [.nilS]⟩),
  (119, ⟨.struct [(0, 3), (1, 3), (2, 3), (3, 3)], 4, 32, [.int .i64 0, .int .i64 0, .int .i64 0, .int .i64 0]⟩),
  (120, ⟨.struct [(0, 3), (1, 3), (2, 3), (3, 3)], 4, 32, [.int .i64 0, .int .i64 0, .int .i64 0, .int .i64 0]⟩),
  (121, ⟨.func, 1, 8, [.nilF]⟩),
  (122, ⟨.func, 1, 8, [.nilF]⟩),
  (123, ⟨.func, 1, 8, [.nilF]⟩),
  (124, ⟨.func, 1, 8, [.nilF]⟩),
  (125, ⟨.func, 1, 8, [.nilF]⟩),
  (126, ⟨.func, 1, 8, [.nilF]⟩),
  (128, ⟨.func, 1, 8, [.nilF]⟩),
  (130, ⟨.func, 1, 8, [.nilF]⟩),
  (131, ⟨.func, 1, 8, [.nilF]⟩),
  (133, ⟨.func, 1, 8, [.nilF]⟩),
  (134, ⟨.struct [(0, 70), (1, 22), (2, 3)], 3, 56, [.nilS, .nilS, .int .i64 0]⟩),
  (135, ⟨.struct [(0, 70), (1, 22), (2, 3)], 3, 56, [.nilS, .nilS, .int .i64 0]⟩),
  (136, ⟨.func, 1, 8, [.nilF]⟩),
  (137, ⟨.func, 1, 8, [.nilF]⟩),
  (138, ⟨.func, 1, 8, [.nilF]⟩),
  (139, ⟨.func, 1, 8, [.nilF]⟩),
  (140, ⟨.slice 103, 1, 24, [.nilS]⟩),
  (141, ⟨.slice 103, 1, 24, [.nilS]⟩),
  (142, ⟨.func, 1, 8, [.nilF]⟩),
  (143, ⟨.func, 1, 8, [.nilF]⟩),
  (144, ⟨.func, 1, 8, [.nilF]⟩),
  (145, ⟨.func, 1, 8, [.nilF]⟩),
  (146, ⟨.func, 1, 8, [.nilF]⟩),
  (147, ⟨.func, 1, 8, [.nilF]⟩),
  (148, ⟨.func, 1, 8, [.nilF]⟩),
  (149, ⟨.func, 1, 8, [.nilF]⟩),
  (150, ⟨.func, 1, 8, [.nilF]⟩),
  (151, ⟨.func, 1, 8, [.nilF]⟩),
  (152, ⟨.struct [(0, 22), (1, 22), (2, 22), (3, 22), (4, 22)], 5, 120, [.nilS, .nilS, .nilS, .nilS, .nilS]⟩),
  (153, ⟨.struct [(0, 22), (1, 22), (2, 22), (3, 22), (4, 22)], 5, 120, [.nilS, .nilS, .nilS, .nilS, .nilS]⟩),
  (154, ⟨.func, 1, 8, [.nilF]⟩),
  (155, ⟨.func, 1, 8, [.nilF]⟩),
  (157, ⟨.func, 1, 8, [.nilF]⟩),
  (158, ⟨.func, 1, 8, [.nilF]⟩),
  (159, ⟨.int .u64, 1, 8, [.int .u64 0]⟩),
  (161, ⟨.func, 1, 8, [.nilF]⟩),
  (162, ⟨.func, 1, 8, [.nilF]⟩),
  (163, ⟨.func, 1, 8, [.nilF]⟩),
  (164, ⟨.func, 1, 8, [.nilF]⟩),
  (165, ⟨.func, 1, 8, [.nilF]⟩),
  (166, ⟨.func, 1, 8, [.nilF]⟩),
  (167, ⟨.func, 1, 8, [.nilF]⟩),
  (168, ⟨.struct [(0, 3), (1, 3), (2, 3), (3, 40)], 5, 72, [.int .i64 0, .int .i64 0, .int .i64 0, .nilS, .nilS]⟩),
  (169, ⟨.struct [(0, 3), (1, 3), (2, 3), (3, 40)], 5, 72, [.int .i64 0, .int .i64 0, .int .i64 0, .nilS, .nilS]⟩),
  (170, ⟨.func, 1, 8, [.nilF]⟩),
  (171, ⟨.func, 1, 8, [.nilF]⟩),
  (172, ⟨.func, 1, 8, [.nilF]⟩),
  (173, ⟨.int .u32, 1, 4, [.int .u32 0]⟩),
  (175, ⟨.func, 1, 8, [.nilF]⟩),
  (176, ⟨.int .u64, 1, 8, [.int .u64 0]⟩),
  (178, ⟨.func, 1, 8, [.nilF]⟩),
  (180, ⟨.func, 1, 8, [.nilF]⟩),
  (181, ⟨.func, 1, 8, [.nilF]⟩),
  (182, ⟨.func, 1, 8, [.nilF]⟩),
  (183, ⟨.func, 1, 8, [.nilF]⟩),
  (184, ⟨.func, 1, 8, [.nilF]⟩),
  (185, ⟨.func, 1, 8, [.nilF]⟩),
  (186, ⟨.func, 1, 8, [.nilF]⟩),
  (187, ⟨.func, 1, 8, [.nilF]⟩),
  (188, ⟨.func, 1, 8, [.nilF]⟩),
  (189, ⟨.func, 1, 8, [.nilF]⟩),
  (190, ⟨.func, 1, 8, [.nilF]⟩),
  (191, ⟨.func, 1, 8, [.nilF]⟩),
  (192, ⟨.func, 1, 8, [.nilF]⟩),
  (193, ⟨.func, 1, 8, [.nilF]⟩),
  (194, ⟨.func, 1, 8, [.nilF]⟩),
  (196, ⟨.func, 1, 8, [.nilF]⟩),
  (197, ⟨.func, 1, 8, [.nilF]⟩),
  (198, ⟨.func, 1, 8, [.nilF]⟩),
  (199, ⟨.func, 1, 8, [.nilF]⟩),
  (200, ⟨.func, 1, 8, [.nilF]⟩),
  (201, ⟨.func, 1, 8, [.nilF]⟩),
  (202, ⟨.struct [(0, 17), (1, 17), (2, 17), (3, 9)], 4, 40, [.nilP, .nilP, .nilP, .str .empty]⟩),
  (203, ⟨.struct [(0, 17), (1, 17), (2, 17), (3, 9)], 4, 40, [.nilP, .nilP, .nilP, .str .empty]⟩),
  (204, ⟨.array 0 16, 0, 0, []⟩),
  (205, ⟨.struct [(0, 204)], 0, 0, []⟩),
  (206, ⟨.struct [(0, 204)], 0, 0, []⟩),
  (207, ⟨.int .u8, 1, 1, [.int .u8 0]⟩),
  (208, ⟨.int .u8, 1, 1, [.int .u8 0]⟩),
  (209, ⟨.func, 1, 8, [.nilF]⟩),
  (210, ⟨.ptr 5, 1, 8, [.nilP]⟩),
  (211, ⟨.int .i32, 1, 4, [.int .i32 0]⟩),
  (212, ⟨.int .i32, 1, 4, [.int .i32 0]⟩),
  (213, ⟨.struct [(0, 12), (1, 12), (2, 173), (3, 207), (4, 5), (5, 5), (6, 208), (7, 209), (8, 210), (9, 211), (10, 212)], 11, 48, [.int .u64 0, .int .u64 0, .int .u32 0, .int .u8 0, .int .u8 0, .int .u8 0, .int .u8 0, .nilF, .nilP, .int .i32 0, .int .i32 0]⟩),
  (214, ⟨.struct [(0, 12), (1, 12), (2, 173), (3, 207), (4, 5), (5, 5), (6, 208), (7, 209), (8, 210), (9, 211), (10, 212)], 11, 48, [.int .u64 0, .int .u64 0, .int .u32 0, .int .u8 0, .int .u8 0, .int .u8 0, .int .u8 0, .nilF, .nilP, .int .i32 0, .int .i32 0]⟩)]
def T : Tab := lookT tys
theorem T1 : T 1 = some ⟨.func, 1, 8, [.nilF]⟩ := by kernel_rfl
theorem D1 : T.d 1 = .func := by kernel_rfl
theorem T2 : T 2 = some ⟨.int .i64, 1, 8, [.int .i64 0]⟩ := by kernel_rfl
theorem D2 : T.d 2 = .int .i64 := by kernel_rfl
theorem T3 : T 3 = some ⟨.int .i64, 1, 8, [.int .i64 0]⟩ := by kernel_rfl
theorem D3 : T.d 3 = .int .i64 := by kernel_rfl
theorem T4 : T 4 = some ⟨.bool, 1, 1, [.bool false]⟩ := by kernel_rfl
theorem D4 : T.d 4 = .bool := by kernel_rfl
theorem T5 : T 5 = some ⟨.int .u8, 1, 1, [.int .u8 0]⟩ := by kernel_rfl
theorem D5 : T.d 5 = .int .u8 := by kernel_rfl
theorem T6 : T 6 = some ⟨.int .u8, 1, 1, [.int .u8 0]⟩ := by kernel_rfl
theorem D6 : T.d 6 = .int .u8 := by kernel_rfl
theorem T7 : T 7 = some ⟨.struct [(0, 2), (1, 3), (2, 4), (3, 6)], 4, 24, [.int .i64 0, .int .i64 0, .bool false, .int .u8 0]⟩ := by kernel_rfl
theorem D7 : T.d 7 = .struct [(0, 2), (1, 3), (2, 4), (3, 6)] := by kernel_rfl
theorem T8 : T 8 = some ⟨.struct [(0, 2), (1, 3), (2, 4), (3, 6)], 4, 24, [.int .i64 0, .int .i64 0, .bool false, .int .u8 0]⟩ := by kernel_rfl
theorem D8 : T.d 8 = .struct [(0, 2), (1, 3), (2, 4), (3, 6)] := by kernel_rfl
theorem T9 : T 9 = some ⟨.str, 1, 16, [.str .empty]⟩ := by kernel_rfl
theorem D9 : T.d 9 = .str := by kernel_rfl
theorem T10 : T 10 = some ⟨.str, 1, 16, [.str .empty]⟩ := by kernel_rfl
theorem D10 : T.d 10 = .str := by kernel_rfl
theorem T11 : T 11 = some ⟨.str, 1, 16, [.str .empty]⟩ := by kernel_rfl
theorem D11 : T.d 11 = .str := by kernel_rfl
theorem T12 : T 12 = some ⟨.int .u64, 1, 8, [.int .u64 0]⟩ := by kernel_rfl
theorem D12 : T.d 12 = .int .u64 := by kernel_rfl
theorem T13 : T 13 = some ⟨.struct [(0, 9), (1, 12)], 2, 24, [.str .empty, .int .u64 0]⟩ := by kernel_rfl
theorem D13 : T.d 13 = .struct [(0, 9), (1, 12)] := by kernel_rfl
theorem T14 : T 14 = some ⟨.struct [(0, 9), (1, 12)], 2, 24, [.str .empty, .int .u64 0]⟩ := by kernel_rfl
theorem D14 : T.d 14 = .struct [(0, 9), (1, 12)] := by kernel_rfl
theorem T15 : T 15 = some ⟨.ptr 203, 1, 8, [.nilP]⟩ := by kernel_rfl
theorem D15 : T.d 15 = .ptr 203 := by kernel_rfl
theorem T16 : T 16 = some ⟨.ptr 206, 1, 8, [.nilP]⟩ := by kernel_rfl
theorem D16 : T.d 16 = .ptr 206 := by kernel_rfl
theorem T17 : T 17 = some ⟨.ptr 214, 1, 8, [.nilP]⟩ := by kernel_rfl
theorem D17 : T.d 17 = .ptr 214 := by kernel_rfl
theorem T18 : T 18 = some ⟨.struct [(0, 17)], 1, 8, [.nilP]⟩ := by kernel_rfl
theorem D18 : T.d 18 = .struct [(0, 17)] := by kernel_rfl
theorem T19 : T 19 = some ⟨.struct [(0, 17)], 1, 8, [.nilP]⟩ := by kernel_rfl
theorem D19 : T.d 19 = .struct [(0, 17)] := by kernel_rfl
theorem T21 : T 21 = some ⟨.int .i32, 1, 4, [.int .i32 0]⟩ := by kernel_rfl
theorem D21 : T.d 21 = .int .i32 := by kernel_rfl
theorem T22 : T 22 = some ⟨.slice 3, 1, 24, [.nilS]⟩ := by kernel_rfl
theorem D22 : T.d 22 = .slice 3 := by kernel_rfl
theorem T23 : T 23 = some ⟨.ptr 25, 1, 8, [.nilP]⟩ := by kernel_rfl
theorem D23 : T.d 23 = .ptr 25 := by kernel_rfl
theorem T24 : T 24 = some ⟨.struct [(0, 22), (1, 3)], 2, 32, [.nilS, .int .i64 0]⟩ := by kernel_rfl
theorem D24 : T.d 24 = .struct [(0, 22), (1, 3)] := by kernel_rfl
theorem T25 : T 25 = some ⟨.struct [(0, 22), (1, 3)], 2, 32, [.nilS, .int .i64 0]⟩ := by kernel_rfl
theorem D25 : T.d 25 = .struct [(0, 22), (1, 3)] := by kernel_rfl
theorem T26 : T 26 = some ⟨.slice 22, 1, 24, [.nilS]⟩ := by kernel_rfl
theorem D26 : T.d 26 = .slice 22 := by kernel_rfl
theorem T27 : T 27 = some ⟨.func, 1, 8, [.nilF]⟩ := by kernel_rfl
theorem D27 : T.d 27 = .func := by kernel_rfl
theorem T28 : T 28 = some ⟨.func, 1, 8, [.nilF]⟩ := by kernel_rfl
theorem D28 : T.d 28 = .func := by kernel_rfl
theorem T29 : T 29 = some ⟨.func, 1, 8, [.nilF]⟩ := by kernel_rfl
theorem D29 : T.d 29 = .func := by kernel_rfl
theorem T30 : T 30 = some ⟨.func, 1, 8, [.nilF]⟩ := by kernel_rfl
theorem D30 : T.d 30 = .func := by kernel_rfl
theorem T31 : T 31 = some ⟨.func, 1, 8, [.nilF]⟩ := by kernel_rfl
theorem D31 : T.d 31 = .func := by kernel_rfl
theorem T32 : T 32 = some ⟨.func, 1, 8, [.nilF]⟩ := by kernel_rfl
theorem D32 : T.d 32 = .func := by kernel_rfl
theorem T33 : T 33 = some ⟨.func, 1, 8, [.nilF]⟩ := by kernel_rfl
theorem D33 : T.d 33 = .func := by kernel_rfl
theorem T34 : T 34 = some ⟨.func, 1, 8, [.nilF]⟩ := by kernel_rfl
theorem D34 : T.d 34 = .func := by kernel_rfl
theorem T35 : T 35 = some ⟨.func, 1, 8, [.nilF]⟩ := by kernel_rfl
theorem D35 : T.d 35 = .func := by kernel_rfl
theorem T36 : T 36 = some ⟨.func, 1, 8, [.nilF]⟩ := by kernel_rfl
theorem D36 : T.d 36 = .func := by kernel_rfl
theorem T37 : T 37 = some ⟨.func, 1, 8, [.nilF]⟩ := by kernel_rfl
theorem D37 : T.d 37 = .func := by kernel_rfl
theorem T38 : T 38 = some ⟨.slice 2, 1, 24, [.nilS]⟩ := by kernel_rfl
theorem D38 : T.d 38 = .slice 2 := by kernel_rfl
theorem T39 : T 39 = some ⟨.struct [(0, 22), (1, 38)], 2, 48, [.nilS, .nilS]⟩ := by kernel_rfl
theorem D39 : T.d 39 = .struct [(0, 22), (1, 38)] := by kernel_rfl
theorem T40 : T 40 = some ⟨.struct [(0, 22), (1, 38)], 2, 48, [.nilS, .nilS]⟩ := by kernel_rfl
theorem D40 : T.d 40 = .struct [(0, 22), (1, 38)] := by kernel_rfl
theorem T42 : T 42 = some ⟨.func, 1, 8, [.nilF]⟩ := by kernel_rfl
theorem D42 : T.d 42 = .func := by kernel_rfl
theorem T43 : T 43 = some ⟨.func, 1, 8, [.nilF]⟩ := by kernel_rfl
theorem D43 : T.d 43 = .func := by kernel_rfl
theorem T44 : T 44 = some ⟨.func, 1, 8, [.nilF]⟩ := by kernel_rfl
theorem D44 : T.d 44 = .func := by kernel_rfl
theorem T45 : T 45 = some ⟨.slice 40, 1, 24, [.nilS]⟩ := by kernel_rfl
theorem D45 : T.d 45 = .slice 40 := by kernel_rfl
theorem T46 : T 46 = some ⟨.int .i64, 1, 8, [.int .i64 0]⟩ := by kernel_rfl
theorem D46 : T.d 46 = .int .i64 := by kernel_rfl
theorem T48 : T 48 = some ⟨.func, 1, 8, [.nilF]⟩ := by kernel_rfl
theorem D48 : T.d 48 = .func := by kernel_rfl
theorem T49 : T 49 = some ⟨.func, 1, 8, [.nilF]⟩ := by kernel_rfl
theorem D49 : T.d 49 = .func := by kernel_rfl
theorem T50 : T 50 = some ⟨.func, 1, 8, [.nilF]⟩ := by kernel_rfl
theorem D50 : T.d 50 = .func := by kernel_rfl
theorem T52 : T 52 = some ⟨.func, 1, 8, [.nilF]⟩ := by kernel_rfl
theorem D52 : T.d 52 = .func := by kernel_rfl
theorem T53 : T 53 = some ⟨.func, 1, 8, [.nilF]⟩ := by kernel_rfl
theorem D53 : T.d 53 = .func := by kernel_rfl
theorem T55 : T 55 = some ⟨.func, 1, 8, [.nilF]⟩ := by kernel_rfl
theorem D55 : T.d 55 = .func := by kernel_rfl
theorem T56 : T 56 = some ⟨.func, 1, 8, [.nilF]⟩ := by kernel_rfl
theorem D56 : T.d 56 = .func := by kernel_rfl
theorem T57 : T 57 = some ⟨.func, 1, 8, [.nilF]⟩ := by kernel_rfl
theorem D57 : T.d 57 = .func := by kernel_rfl
theorem T58 : T 58 = some ⟨.func, 1, 8, [.nilF]⟩ := by kernel_rfl
theorem D58 : T.d 58 = .func := by kernel_rfl
theorem T59 : T 59 = some ⟨.ptr 64, 1, 8, [.nilP]⟩ := by kernel_rfl
theorem D59 : T.d 59 = .ptr 64 := by kernel_rfl
theorem T60 : T 60 = some ⟨.func, 1, 8, [.nilF]⟩ := by kernel_rfl
theorem D60 : T.d 60 = .func := by kernel_rfl
theorem T61 : T 61 = some ⟨.ptr 135, 1, 8, [.nilP]⟩ := by kernel_rfl
theorem D61 : T.d 61 = .ptr 135 := by kernel_rfl
theorem T62 : T 62 = some ⟨.slice 45, 1, 24, [.nilS]⟩ := by kernel_rfl
theorem D62 : T.d 62 = .slice 45 := by kernel_rfl
theorem T63 : T 63 = some ⟨.struct [(0, 61), (1, 62), (2, 22), (3, 3)], 4, 64, [.nilP, .nilS, .nilS, .int .i64 0]⟩ := by kernel_rfl
theorem D63 : T.d 63 = .struct [(0, 61), (1, 62), (2, 22), (3, 3)] := by kernel_rfl
theorem T64 : T 64 = some ⟨.struct [(0, 61), (1, 62), (2, 22), (3, 3)], 4, 64, [.nilP, .nilS, .nilS, .int .i64 0]⟩ := by kernel_rfl
theorem D64 : T.d 64 = .struct [(0, 61), (1, 62), (2, 22), (3, 3)] := by kernel_rfl
theorem T66 : T 66 = some ⟨.func, 1, 8, [.nilF]⟩ := by kernel_rfl
theorem D66 : T.d 66 = .func := by kernel_rfl
theorem T67 : T 67 = some ⟨.ptr 77, 1, 8, [.nilP]⟩ := by kernel_rfl
theorem D67 : T.d 67 = .ptr 77 := by kernel_rfl
theorem T69 : T 69 = some ⟨.func, 1, 8, [.nilF]⟩ := by kernel_rfl
theorem D69 : T.d 69 = .func := by kernel_rfl
theorem T70 : T 70 = some ⟨.slice 141, 1, 24, [.nilS]⟩ := by kernel_rfl
theorem D70 : T.d 70 = .slice 141 := by kernel_rfl
theorem T71 : T 71 = some ⟨.func, 1, 8, [.nilF]⟩ := by kernel_rfl
theorem D71 : T.d 71 = .func := by kernel_rfl
theorem T73 : T 73 = some ⟨.slice 72, 1, 24, [.nilS]⟩ := by kernel_rfl
theorem D73 : T.d 73 = .slice 72 := by kernel_rfl
theorem T74 : T 74 = some ⟨.slice 169, 1, 24, [.nilS]⟩ := by kernel_rfl
theorem D74 : T.d 74 = .slice 169 := by kernel_rfl
theorem T75 : T 75 = some ⟨.slice 46, 1, 24, [.nilS]⟩ := by kernel_rfl
theorem D75 : T.d 75 = .slice 46 := by kernel_rfl
theorem T76 : T 76 = some ⟨.struct [(0, 70), (1, 62), (2, 73), (3, 22), (4, 74), (5, 3), (6, 75)], 7, 152, [.nilS, .nilS, .nilS, .nilS, .nilS, .int .i64 0, .nilS]⟩ := by kernel_rfl
theorem D76 : T.d 76 = .struct [(0, 70), (1, 62), (2, 73), (3, 22), (4, 74), (5, 3), (6, 75)] := by kernel_rfl
theorem T77 : T 77 = some ⟨.struct [(0, 70), (1, 62), (2, 73), (3, 22), (4, 74), (5, 3), (6, 75)], 7, 152, [.nilS, .nilS, .nilS, .nilS, .nilS, .int .i64 0, .nilS]⟩ := by kernel_rfl
theorem D77 : T.d 77 = .struct [(0, 70), (1, 62), (2, 73), (3, 22), (4, 74), (5, 3), (6, 75)] := by kernel_rfl
theorem T79 : T 79 = some ⟨.func, 1, 8, [.nilF]⟩ := by kernel_rfl
theorem D79 : T.d 79 = .func := by kernel_rfl
theorem T80 : T 80 = some ⟨.func, 1, 8, [.nilF]⟩ := by kernel_rfl
theorem D80 : T.d 80 = .func := by kernel_rfl
theorem T81 : T 81 = some ⟨.func, 1, 8, [.nilF]⟩ := by kernel_rfl
theorem D81 : T.d 81 = .func := by kernel_rfl
theorem T82 : T 82 = some ⟨.slice 4, 1, 24, [.nilS]⟩ := by kernel_rfl
theorem D82 : T.d 82 = .slice 4 := by kernel_rfl
theorem T83 : T 83 = some ⟨.slice 86, 1, 24, [.nilS]⟩ := by kernel_rfl
theorem D83 : T.d 83 = .slice 86 := by kernel_rfl
theorem T85 : T 85 = some ⟨.func, 1, 8, [.nilF]⟩ := by kernel_rfl
theorem D85 : T.d 85 = .func := by kernel_rfl
theorem T86 : T 86 = some ⟨.array 2 3, 2, 16, [.int .i64 0, .int .i64 0]⟩ := by kernel_rfl
theorem D86 : T.d 86 = .array 2 3 := by kernel_rfl
theorem T87 : T 87 = some ⟨.func, 1, 8, [.nilF]⟩ := by kernel_rfl
theorem D87 : T.d 87 = .func := by kernel_rfl
theorem T88 : T 88 = some ⟨.func, 1, 8, [.nilF]⟩ := by kernel_rfl
theorem D88 : T.d 88 = .func := by kernel_rfl
theorem T90 : T 90 = some ⟨.func, 1, 8, [.nilF]⟩ := by kernel_rfl
theorem D90 : T.d 90 = .func := by kernel_rfl
theorem T91 : T 91 = some ⟨.func, 1, 8, [.nilF]⟩ := by kernel_rfl
theorem D91 : T.d 91 = .func := by kernel_rfl
theorem T92 : T 92 = some ⟨.func, 1, 8, [.nilF]⟩ := by kernel_rfl
theorem D92 : T.d 92 = .func := by kernel_rfl
theorem T93 : T 93 = some ⟨.func, 1, 8, [.nilF]⟩ := by kernel_rfl
theorem D93 : T.d 93 = .func := by kernel_rfl
theorem T94 : T 94 = some ⟨.func, 1, 8, [.nilF]⟩ := by kernel_rfl
theorem D94 : T.d 94 = .func := by kernel_rfl
theorem T95 : T 95 = some ⟨.func, 1, 8, [.nilF]⟩ := by kernel_rfl
theorem D95 : T.d 95 = .func := by kernel_rfl
theorem T96 : T 96 = some ⟨.func, 1, 8, [.nilF]⟩ := by kernel_rfl
theorem D96 : T.d 96 = .func := by kernel_rfl
theorem T97 : T 97 = some ⟨.func, 1, 8, [.nilF]⟩ := by kernel_rfl
theorem D97 : T.d 97 = .func := by kernel_rfl
theorem T98 : T 98 = some ⟨.func, 1, 8, [.nilF]⟩ := by kernel_rfl
theorem D98 : T.d 98 = .func := by kernel_rfl
theorem T99 : T 99 = some ⟨.func, 1, 8, [.nilF]⟩ := by kernel_rfl
theorem D99 : T.d 99 = .func := by kernel_rfl
theorem T100 : T 100 = some ⟨.struct [(0, 3), (1, 22), (2, 22), (3, 22), (4, 2), (5, 3), (6, 9)], 7, 112, [.int .i64 0, .nilS, .nilS, .nilS, .int .i64 0, .int .i64 0, .str .empty]⟩ := by kernel_rfl
theorem D100 : T.d 100 = .struct [(0, 3), (1, 22), (2, 22), (3, 22), (4, 2), (5, 3), (6, 9)] := by kernel_rfl
theorem T101 : T 101 = some ⟨.struct [(0, 3), (1, 22), (2, 22), (3, 22), (4, 2), (5, 3), (6, 9)], 7, 112, [.int .i64 0, .nilS, .nilS, .nilS, .int .i64 0, .int .i64 0, .str .empty]⟩ := by kernel_rfl
theorem D101 : T.d 101 = .struct [(0, 3), (1, 22), (2, 22), (3, 22), (4, 2), (5, 3), (6, 9)] := by kernel_rfl
theorem T102 : T 102 = some ⟨.struct [(0, 3), (1, 3), (2, 22), (3, 101), (10, 3), (11, 3), (12, 3)], 13, 176, [.int .i64 0, .int .i64 0, .nilS, .int .i64 0, .nilS, .nilS, .nilS, .int .i64 0, .int .i64 0, .str .empty, .int .i64 0, .int .i64 0, .int .i64 0]⟩ := by kernel_rfl
theorem D102 : T.d 102 = .struct [(0, 3), (1, 3), (2, 22), (3, 101), (10, 3), (11, 3), (12, 3)] := by kernel_rfl
theorem T103 : T 103 = some ⟨.struct [(0, 3), (1, 3), (2, 22), (3, 101), (10, 3), (11, 3), (12, 3)], 13, 176, [.int .i64 0, .int .i64 0, .nilS, .int .i64 0, .nilS, .nilS, .nilS, .int .i64 0, .int .i64 0, .str .empty, .int .i64 0, .int .i64 0, .int .i64 0]⟩ := by kernel_rfl
theorem D103 : T.d 103 = .struct [(0, 3), (1, 3), (2, 22), (3, 101), (10, 3), (11, 3), (12, 3)] := by kernel_rfl
theorem T104 : T 104 = some ⟨.func, 1, 8, [.nilF]⟩ := by kernel_rfl
theorem D104 : T.d 104 = .func := by kernel_rfl
theorem T106 : T 106 = some ⟨.func, 1, 8, [.nilF]⟩ := by kernel_rfl
theorem D106 : T.d 106 = .func := by kernel_rfl
theorem T107 : T 107 = some ⟨.func, 1, 8, [.nilF]⟩ := by kernel_rfl
theorem D107 : T.d 107 = .func := by kernel_rfl
theorem T108 : T 108 = some ⟨.func, 1, 8, [.nilF]⟩ := by kernel_rfl
theorem D108 : T.d 108 = .func := by kernel_rfl
theorem T109 : T 109 = some ⟨.func, 1, 8, [.nilF]⟩ := by kernel_rfl
theorem D109 : T.d 109 = .func := by kernel_rfl
theorem T110 : T 110 = some ⟨.func, 1, 8, [.nilF]⟩ := by kernel_rfl
theorem D110 : T.d 110 = .func := by kernel_rfl
theorem T111 : T 111 = some ⟨.func, 1, 8, [.nilF]⟩ := by kernel_rfl
theorem D111 : T.d 111 = .func := by kernel_rfl
theorem T112 : T 112 = some ⟨.func, 1, 8, [.nilF]⟩ := by kernel_rfl
theorem D112 : T.d 112 = .func := by kernel_rfl
theorem T113 : T 113 = some ⟨.func, 1, 8, [.nilF]⟩ := by kernel_rfl
theorem D113 : T.d 113 = .func := by kernel_rfl
theorem T114 : T 114 = some ⟨.func, 1, 8, [.nilF]⟩ := by kernel_rfl
theorem D114 : T.d 114 = .func := by kernel_rfl
theorem T115 : T 115 = some ⟨.func, 1, 8, [.nilF]⟩ := by kernel_rfl
theorem D115 : T.d 115 = .func := by kernel_rfl
theorem T116 : T 116 = some ⟨.func, 1, 8, [.nilF]⟩ := by kernel_rfl
theorem D116 : T.d 116 = .func := by kernel_rfl
theorem T117 : T 117 = some ⟨.func, 1, 8, [.nilF]⟩ := by kernel_rfl
theorem D117 : T.d 117 = .func := by kernel_rfl
theorem T118 : T 118 = some ⟨.slice 120, 1, 24, [.nilS]⟩ := by kernel_rfl
theorem D118 : T.d 118 = .slice 120 := by kernel_rfl
theorem T119 : T 119 = some ⟨.struct [(0, 3), (1, 3), (2, 3), (3, 3)], 4, 32, [.int .i64 0, .int .i64 0, .int .i64 0, .int .i64 0]⟩ := by kernel_rfl
theorem D119 : T.d 119 = .struct [(0, 3), (1, 3), (2, 3), (3, 3)] := by kernel_rfl
theorem T120 : T 120 = some ⟨.struct [(0, 3), (1, 3), (2, 3), (3, 3)], 4, 32, [.int .i64 0, .int .i64 0, .int .i64 0, .int .i64 0]⟩ := by kernel_rfl
theorem D120 : T.d 120 = .struct [(0, 3), (1, 3), (2, 3), (3, 3)] := by kernel_rfl
theorem T121 : T 121 = some ⟨.func, 1, 8, [.nilF]⟩ := by kernel_rfl
theorem D121 : T.d 121 = .func := by kernel_rfl
theorem T122 : T 122 = some ⟨.func, 1, 8, [.nilF]⟩ := by kernel_rfl
theorem D122 : T.d 122 = .func := by kernel_rfl
theorem T123 : T 123 = some ⟨.func, 1, 8, [.nilF]⟩ := by kernel_rfl
theorem D123 : T.d 123 = .func := by kernel_rfl
theorem T124 : T 124 = some ⟨.func, 1, 8, [.nilF]⟩ := by kernel_rfl
theorem D124 : T.d 124 = .func := by kernel_rfl
theorem T125 : T 125 = some ⟨.func, 1, 8, [.nilF]⟩ := by kernel_rfl
theorem D125 : T.d 125 = .func := by kernel_rfl
theorem T126 : T 126 = some ⟨.func, 1, 8, [.nilF]⟩ := by kernel_rfl
theorem D126 : T.d 126 = .func := by kernel_rfl
theorem T128 : T 128 = some ⟨.func, 1, 8, [.nilF]⟩ := by kernel_rfl
theorem D128 : T.d 128 = .func := by kernel_rfl
theorem T130 : T 130 = some ⟨.func, 1, 8, [.nilF]⟩ := by kernel_rfl
theorem D130 : T.d 130 = .func := by kernel_rfl
theorem T131 : T 131 = some ⟨.func, 1, 8, [.nilF]⟩ := by kernel_rfl
theorem D131 : T.d 131 = .func := by kernel_rfl
theorem T133 : T 133 = some ⟨.func, 1, 8, [.nilF]⟩ := by kernel_rfl
theorem D133 : T.d 133 = .func := by kernel_rfl
theorem T134 : T 134 = some ⟨.struct [(0, 70), (1, 22), (2, 3)], 3, 56, [.nilS, .nilS, .int .i64 0]⟩ := by kernel_rfl
theorem D134 : T.d 134 = .struct [(0, 70), (1, 22), (2, 3)] := by kernel_rfl
theorem T135 : T 135 = some ⟨.struct [(0, 70), (1, 22), (2, 3)], 3, 56, [.nilS, .nilS, .int .i64 0]⟩ := by kernel_rfl
theorem D135 : T.d 135 = .struct [(0, 70), (1, 22), (2, 3)] := by kernel_rfl
theorem T136 : T 136 = some ⟨.func, 1, 8, [.nilF]⟩ := by kernel_rfl
theorem D136 : T.d 136 = .func := by kernel_rfl
theorem T137 : T 137 = some ⟨.func, 1, 8, [.nilF]⟩ := by kernel_rfl
theorem D137 : T.d 137 = .func := by kernel_rfl
theorem T138 : T 138 = some ⟨.func, 1, 8, [.nilF]⟩ := by kernel_rfl
theorem D138 : T.d 138 = .func := by kernel_rfl
theorem T139 : T 139 = some ⟨.func, 1, 8, [.nilF]⟩ := by kernel_rfl
theorem D139 : T.d 139 = .func := by kernel_rfl
theorem T140 : T 140 = some ⟨.slice 103, 1, 24, [.nilS]⟩ := by kernel_rfl
theorem D140 : T.d 140 = .slice 103 := by kernel_rfl
theorem T141 : T 141 = some ⟨.slice 103, 1, 24, [.nilS]⟩ := by kernel_rfl
theorem D141 : T.d 141 = .slice 103 := by kernel_rfl
theorem T142 : T 142 = some ⟨.func, 1, 8, [.nilF]⟩ := by kernel_rfl
theorem D142 : T.d 142 = .func := by kernel_rfl
theorem T143 : T 143 = some ⟨.func, 1, 8, [.nilF]⟩ := by kernel_rfl
theorem D143 : T.d 143 = .func := by kernel_rfl
theorem T144 : T 144 = some ⟨.func, 1, 8, [.nilF]⟩ := by kernel_rfl
theorem D144 : T.d 144 = .func := by kernel_rfl
theorem T145 : T 145 = some ⟨.func, 1, 8, [.nilF]⟩ := by kernel_rfl
theorem D145 : T.d 145 = .func := by kernel_rfl
theorem T146 : T 146 = some ⟨.func, 1, 8, [.nilF]⟩ := by kernel_rfl
theorem D146 : T.d 146 = .func := by kernel_rfl
theorem T147 : T 147 = some ⟨.func, 1, 8, [.nilF]⟩ := by kernel_rfl
theorem D147 : T.d 147 = .func := by kernel_rfl
theorem T148 : T 148 = some ⟨.func, 1, 8, [.nilF]⟩ := by kernel_rfl
theorem D148 : T.d 148 = .func := by kernel_rfl
theorem T149 : T 149 = some ⟨.func, 1, 8, [.nilF]⟩ := by kernel_rfl
theorem D149 : T.d 149 = .func := by kernel_rfl
theorem T150 : T 150 = some ⟨.func, 1, 8, [.nilF]⟩ := by kernel_rfl
theorem D150 : T.d 150 = .func := by kernel_rfl
theorem T151 : T 151 = some ⟨.func, 1, 8, [.nilF]⟩ := by kernel_rfl
theorem D151 : T.d 151 = .func := by kernel_rfl
theorem T152 : T 152 = some ⟨.struct [(0, 22), (1, 22), (2, 22), (3, 22), (4, 22)], 5, 120, [.nilS, .nilS, .nilS, .nilS, .nilS]⟩ := by kernel_rfl
theorem D152 : T.d 152 = .struct [(0, 22), (1, 22), (2, 22), (3, 22), (4, 22)] := by kernel_rfl
theorem T153 : T 153 = some ⟨.struct [(0, 22), (1, 22), (2, 22), (3, 22), (4, 22)], 5, 120, [.nilS, .nilS, .nilS, .nilS, .nilS]⟩ := by kernel_rfl
theorem D153 : T.d 153 = .struct [(0, 22), (1, 22), (2, 22), (3, 22), (4, 22)] := by kernel_rfl
theorem T154 : T 154 = some ⟨.func, 1, 8, [.nilF]⟩ := by kernel_rfl
theorem D154 : T.d 154 = .func := by kernel_rfl
theorem T155 : T 155 = some ⟨.func, 1, 8, [.nilF]⟩ := by kernel_rfl
theorem D155 : T.d 155 = .func := by kernel_rfl
theorem T157 : T 157 = some ⟨.func, 1, 8, [.nilF]⟩ := by kernel_rfl
theorem D157 : T.d 157 = .func := by kernel_rfl
theorem T158 : T 158 = some ⟨.func, 1, 8, [.nilF]⟩ := by kernel_rfl
theorem D158 : T.d 158 = .func := by kernel_rfl
theorem T159 : T 159 = some ⟨.int .u64, 1, 8, [.int .u64 0]⟩ := by kernel_rfl
theorem D159 : T.d 159 = .int .u64 := by kernel_rfl
theorem T161 : T 161 = some ⟨.func, 1, 8, [.nilF]⟩ := by kernel_rfl
theorem D161 : T.d 161 = .func := by kernel_rfl
theorem T162 : T 162 = some ⟨.func, 1, 8, [.nilF]⟩ := by kernel_rfl
theorem D162 : T.d 162 = .func := by kernel_rfl
theorem T163 : T 163 = some ⟨.func, 1, 8, [.nilF]⟩ := by kernel_rfl
theorem D163 : T.d 163 = .func := by kernel_rfl
theorem T164 : T 164 = some ⟨.func, 1, 8, [.nilF]⟩ := by kernel_rfl
theorem D164 : T.d 164 = .func := by kernel_rfl
theorem T165 : T 165 = some ⟨.func, 1, 8, [.nilF]⟩ := by kernel_rfl
theorem D165 : T.d 165 = .func := by kernel_rfl
theorem T166 : T 166 = some ⟨.func, 1, 8, [.nilF]⟩ := by kernel_rfl
theorem D166 : T.d 166 = .func := by kernel_rfl
theorem T167 : T 167 = some ⟨.func, 1, 8, [.nilF]⟩ := by kernel_rfl
theorem D167 : T.d 167 = .func := by kernel_rfl
theorem T168 : T 168 = some ⟨.struct [(0, 3), (1, 3), (2, 3), (3, 40)], 5, 72, [.int .i64 0, .int .i64 0, .int .i64 0, .nilS, .nilS]⟩ := by kernel_rfl
theorem D168 : T.d 168 = .struct [(0, 3), (1, 3), (2, 3), (3, 40)] := by kernel_rfl
theorem T169 : T 169 = some ⟨.struct [(0, 3), (1, 3), (2, 3), (3, 40)], 5, 72, [.int .i64 0, .int .i64 0, .int .i64 0, .nilS, .nilS]⟩ := by kernel_rfl
theorem D169 : T.d 169 = .struct [(0, 3), (1, 3), (2, 3), (3, 40)] := by kernel_rfl
theorem T170 : T 170 = some ⟨.func, 1, 8, [.nilF]⟩ := by kernel_rfl
theorem D170 : T.d 170 = .func := by kernel_rfl
theorem T171 : T 171 = some ⟨.func, 1, 8, [.nilF]⟩ := by kernel_rfl
theorem D171 : T.d 171 = .func := by kernel_rfl
theorem T172 : T 172 = some ⟨.func, 1, 8, [.nilF]⟩ := by kernel_rfl
theorem D172 : T.d 172 = .func := by kernel_rfl
theorem T173 : T 173 = some ⟨.int .u32, 1, 4, [.int .u32 0]⟩ := by kernel_rfl
theorem D173 : T.d 173 = .int .u32 := by kernel_rfl
theorem T175 : T 175 = some ⟨.func, 1, 8, [.nilF]⟩ := by kernel_rfl
theorem D175 : T.d 175 = .func := by kernel_rfl
theorem T176 : T 176 = some ⟨.int .u64, 1, 8, [.int .u64 0]⟩ := by kernel_rfl
theorem D176 : T.d 176 = .int .u64 := by kernel_rfl
theorem T178 : T 178 = some ⟨.func, 1, 8, [.nilF]⟩ := by kernel_rfl
theorem D178 : T.d 178 = .func := by kernel_rfl
theorem T180 : T 180 = some ⟨.func, 1, 8, [.nilF]⟩ := by kernel_rfl
theorem D180 : T.d 180 = .func := by kernel_rfl
theorem T181 : T 181 = some ⟨.func, 1, 8, [.nilF]⟩ := by kernel_rfl
theorem D181 : T.d 181 = .func := by kernel_rfl
theorem T182 : T 182 = some ⟨.func, 1, 8, [.nilF]⟩ := by kernel_rfl
theorem D182 : T.d 182 = .func := by kernel_rfl
theorem T183 : T 183 = some ⟨.func, 1, 8, [.nilF]⟩ := by kernel_rfl
theorem D183 : T.d 183 = .func := by kernel_rfl
theorem T184 : T 184 = some ⟨.func, 1, 8, [.nilF]⟩ := by kernel_rfl
theorem D184 : T.d 184 = .func := by kernel_rfl
theorem T185 : T 185 = some ⟨.func, 1, 8, [.nilF]⟩ := by kernel_rfl
theorem D185 : T.d 185 = .func := by kernel_rfl
theorem T186 : T 186 = some ⟨.func, 1, 8, [.nilF]⟩ := by kernel_rfl
theorem D186 : T.d 186 = .func := by kernel_rfl
theorem T187 : T 187 = some ⟨.func, 1, 8, [.nilF]⟩ := by kernel_rfl
theorem D187 : T.d 187 = .func := by kernel_rfl
theorem T188 : T 188 = some ⟨.func, 1, 8, [.nilF]⟩ := by kernel_rfl
theorem D188 : T.d 188 = .func := by kernel_rfl
theorem T189 : T 189 = some ⟨.func, 1, 8, [.nilF]⟩ := by kernel_rfl
theorem D189 : T.d 189 = .func := by kernel_rfl
theorem T190 : T 190 = some ⟨.func, 1, 8, [.nilF]⟩ := by kernel_rfl
theorem D190 : T.d 190 = .func := by kernel_rfl
theorem T191 : T 191 = some ⟨.func, 1, 8, [.nilF]⟩ := by kernel_rfl
theorem D191 : T.d 191 = .func := by kernel_rfl
theorem T192 : T 192 = some ⟨.func, 1, 8, [.nilF]⟩ := by kernel_rfl
theorem D192 : T.d 192 = .func := by kernel_rfl
theorem T193 : T 193 = some ⟨.func, 1, 8, [.nilF]⟩ := by kernel_rfl
theorem D193 : T.d 193 = .func := by kernel_rfl
theorem T194 : T 194 = some ⟨.func, 1, 8, [.nilF]⟩ := by kernel_rfl
theorem D194 : T.d 194 = .func := by kernel_rfl
theorem T196 : T 196 = some ⟨.func, 1, 8, [.nilF]⟩ := by kernel_rfl
theorem D196 : T.d 196 = .func := by kernel_rfl
theorem T197 : T 197 = some ⟨.func, 1, 8, [.nilF]⟩ := by kernel_rfl
theorem D197 : T.d 197 = .func := by kernel_rfl
theorem T198 : T 198 = some ⟨.func, 1, 8, [.nilF]⟩ := by kernel_rfl
theorem D198 : T.d 198 = .func := by kernel_rfl
theorem T199 : T 199 = some ⟨.func, 1, 8, [.nilF]⟩ := by kernel_rfl
theorem D199 : T.d 199 = .func := by kernel_rfl
theorem T200 : T 200 = some ⟨.func, 1, 8, [.nilF]⟩ := by kernel_rfl
theorem D200 : T.d 200 = .func := by kernel_rfl
theorem T201 : T 201 = some ⟨.func, 1, 8, [.nilF]⟩ := by kernel_rfl
theorem D201 : T.d 201 = .func := by kernel_rfl
theorem T202 : T 202 = some ⟨.struct [(0, 17), (1, 17), (2, 17), (3, 9)], 4, 40, [.nilP, .nilP, .nilP, .str .empty]⟩ := by kernel_rfl
theorem D202 : T.d 202 = .struct [(0, 17), (1, 17), (2, 17), (3, 9)] := by kernel_rfl
theorem T203 : T 203 = some ⟨.struct [(0, 17), (1, 17), (2, 17), (3, 9)], 4, 40, [.nilP, .nilP, .nilP, .str .empty]⟩ := by kernel_rfl
theorem D203 : T.d 203 = .struct [(0, 17), (1, 17), (2, 17), (3, 9)] := by kernel_rfl
theorem T204 : T 204 = some ⟨.array 0 16, 0, 0, []⟩ := by kernel_rfl
theorem D204 : T.d 204 = .array 0 16 := by kernel_rfl
theorem T205 : T 205 = some ⟨.struct [(0, 204)], 0, 0, []⟩ := by kernel_rfl
theorem D205 : T.d 205 = .struct [(0, 204)] := by kernel_rfl
theorem T206 : T 206 = some ⟨.struct [(0, 204)], 0, 0, []⟩ := by kernel_rfl
theorem D206 : T.d 206 = .struct [(0, 204)] := by kernel_rfl
theorem T207 : T 207 = some ⟨.int .u8, 1, 1, [.int .u8 0]⟩ := by kernel_rfl
theorem D207 : T.d 207 = .int .u8 := by kernel_rfl
theorem T208 : T 208 = some ⟨.int .u8, 1, 1, [.int .u8 0]⟩ := by kernel_rfl
theorem D208 : T.d 208 = .int .u8 := by kernel_rfl
theorem T209 : T 209 = some ⟨.func, 1, 8, [.nilF]⟩ := by kernel_rfl
theorem D209 : T.d 209 = .func := by kernel_rfl
theorem T210 : T 210 = some ⟨.ptr 5, 1, 8, [.nilP]⟩ := by kernel_rfl
theorem D210 : T.d 210 = .ptr 5 := by kernel_rfl
theorem T211 : T 211 = some ⟨.int .i32, 1, 4, [.int .i32 0]⟩ := by kernel_rfl
theorem D211 : T.d 211 = .int .i32 := by kernel_rfl
theorem T212 : T 212 = some ⟨.int .i32, 1, 4, [.int .i32 0]⟩ := by kernel_rfl
theorem D212 : T.d 212 = .int .i32 := by kernel_rfl
theorem T213 : T 213 = some ⟨.struct [(0, 12), (1, 12), (2, 173), (3, 207), (4, 5), (5, 5), (6, 208), (7, 209), (8, 210), (9, 211), (10, 212)], 11, 48, [.int .u64 0, .int .u64 0, .int .u32 0, .int .u8 0, .int .u8 0, .int .u8 0, .int .u8 0, .nilF, .nilP, .int .i32 0, .int .i32 0]⟩ := by kernel_rfl
theorem D213 : T.d 213 = .struct [(0, 12), (1, 12), (2, 173), (3, 207), (4, 5), (5, 5), (6, 208), (7, 209), (8, 210), (9, 211), (10, 212)] := by kernel_rfl
theorem T214 : T 214 = some ⟨.struct [(0, 12), (1, 12), (2, 173), (3, 207), (4, 5), (5, 5), (6, 208), (7, 209), (8, 210), (9, 211), (10, 212)], 11, 48, [.int .u64 0, .int .u64 0, .int .u32 0, .int .u8 0, .int .u8 0, .int .u8 0, .int .u8 0, .nilF, .nilP, .int .i32 0, .int .i32 0]⟩ := by kernel_rfl
theorem D214 : T.d 214 = .struct [(0, 12), (1, 12), (2, 173), (3, 207), (4, 5), (5, 5), (6, 208), (7, 209), (8, 210), (9, 211), (10, 212)] := by kernel_rfl
set_option maxRecDepth 100000 in
theorem hT : TOK Try.prog T := tok_list (by kernel_rfl)
/- Lists that a function makes: by append, by make; handing them back. -/
theorem Wf.new {H : Hp} (h : Wf H) (cells : List AV) : Wf (H.new cells) := by
  intro b k hk
  simp only [Hp.new] at hk ⊢
  rcases Nat.lt_or_ge b H.bs.length with hb | hb
  · rw [List.getElem?_append_left hb] at hk
    exact Nat.lt_succ_of_lt (h b k hk)
  · rw [List.getElem?_append_right hb] at hk
    have := (List.getElem?_eq_some_iff.1 hk).1
    simp at this
    have hb' : b = H.bs.length := by omega
    subst hb'
    simp at hk
    subst hk
    exact Nat.lt_succ_self _
theorem at_lt {H : Hp} (h : Wf H) {b ver : Nat} {k : Blk} (hk : H.at b ver = some k) : ver < H.c := by
  obtain ⟨h1, h2⟩ := Hp.at_some hk
  rw [← h2]; exact h b k h1
theorem new_at (H : Hp) (cells : List AV) : (H.new cells).at H.bs.length H.c = some ⟨H.c, cells, true, true⟩ := by
  simp [Hp.new, Hp.at]
theorem at_new {H : Hp} {b ver : Nat} {k : Blk} (hk : H.at b ver = some k) (cells : List AV) : (H.new cells).at b ver = some k := Pre.at (Pre.new (Pre.refl H) cells) hk
/-- A list of numbers that is this function's own: made since H0, it may be appended to, and written. -/
def Own (H0 H : Hp) (v : AV) (l : List Int) : Prop :=
  (l = [] ∧ v = .nilS) ∨ ∃ b ver, v = .sl b ver 0 l.length 1 false ∧ H0.c ≤ ver ∧ l ≠ [] ∧ H.at b ver = some ⟨ver, l.map (.int .i64), true, true⟩
theorem ints_of_own {H0 H : Hp} {v : AV} {l : List Int} (h : Own H0 H v l) (hl : l.length ≤ 1152921504606846976) : ints H v = some l := by
  rcases h with ⟨rfl, rfl⟩ | ⟨b, ver, rfl, _, _, hk⟩
  · rfl
  · simp only [ints, hl, and_self, if_true, hk, List.drop_zero]
    rw [if_pos (by simp), List.take_of_length_le (by simp), toInts_map]
/-- What was there is as it was; versions are in order; time goes on. -/
structure Ext (H0 H : Hp) : Prop where
  pre : Pre H0 H
  wf : Wf H
  c : H0.c ≤ H.c
theorem Ext.refl {H : Hp} (h : Wf H) : Ext H H := ⟨Pre.refl H, h, Nat.le_refl _⟩
theorem Ext.trans {A B C : Hp} (h : Ext A B) (k : Ext B C) : Ext A C := ⟨h.pre.trans k.pre, k.wf, Nat.le_trans h.c k.c⟩
theorem Ext.new {A B : Hp} (h : Ext A B) (cells : List AV) : Ext A (B.new cells) := ⟨h.pre.new cells, h.wf.new cells, Nat.le_succ_of_le h.c⟩
theorem ints_ext {H H' : Hp} (h : Pre H H') {v : AV} {l : List Int} (hv : ints H v = some l) : ints H' v = some l := by
  unfold ints at hv ⊢
  split at hv
  · exact hv
  · exact hv
  · split at hv
    · rename_i he
      split at hv
      · rename_i k hk
        simp only [he, and_self, if_true, h.at hk]
        exact hv
      · cases hv
    · cases hv
  · cases hv
def abs1 (v : AV) (H : Hp) : Option (AV × Hp) := (afill (fun j => some (j * 1, 1)) [.int .i64 0] [(0, v)]).map fun cs => (.sl H.bs.length H.c 0 1 1 true, H.new cs)
@[simp] theorem abs1_int (n : Int) (H : Hp) : abs1 (.int .i64 n) H = some (.sl H.bs.length H.c 0 1 1 true, H.new [.int .i64 n]) := rfl
@[simp] theorem xdo_bs1 {E : Env} {sh : Bool} {s : Sl} {H : Hp} (x : Operand) : xdo E T sh (.buildSlice 22 1 #[(0, x)]) s H = abs1 (ev s x) H := by
  simp [xdo, aop, D22, T3, rep, abs1]
/-- A number is appended. -/
theorem app_own {H0 H : Hp} {v : AV} {l : List Int} (hw0 : Wf H0) (he : Ext H0 H) (h : Own H0 H v l) (hl : l.length < 1099511627776) (n : Int) :
    ∃ v' H', aapp T false 22 22 v (.sl H.bs.length H.c 0 1 1 true) (H.new [.int .i64 n]) = some (v', H') ∧ Own H0 H' v' (l ++ [n]) ∧ Ext H0 H' := by
  have hx : slCells (H.new [.int .i64 n]) (.sl H.bs.length H.c 0 1 1 true) = some (1, [.int .i64 n]) := by
    simp [slCells, new_at]
  have he1 : Ext H0 (H.new [.int .i64 n]) := he.new _
  rcases h with ⟨rfl, rfl⟩ | ⟨b, ver, rfl, hv, hne, hk⟩
  · refine ⟨.sl (H.new [.int .i64 n]).bs.length (H.new [.int .i64 n]).c 0 1 1 false, (H.new [.int .i64 n]).new [.int .i64 n], ?_, ?_, he1.new _⟩
    · simp only [aapp, D22, T3, Option.bind_some, aappend, hx]
      simp [maxBytes]
    · exact .inr ⟨_, _, rfl, he1.c, by simp, new_at _ _⟩
  · have hk' := at_new hk [.int .i64 n]
    obtain ⟨g1, g2⟩ := Hp.at_some hk'
    have hb := (List.getElem?_eq_some_iff.1 g1).1
    refine ⟨.sl b (H.new [.int .i64 n]).c 0 (l.length + 1) 1 false, ⟨(H.new [.int .i64 n]).bs.set b ⟨(H.new [.int .i64 n]).c, l.map (.int .i64) ++ [.int .i64 n], true, true⟩, (H.new [.int .i64 n]).c + 1⟩, ?_, ?_, ?_⟩
    · simp only [aapp, D22, T3, Option.bind_some, aappend, hx, hk']
      simp [maxBytes]
      omega
    · refine .inr ⟨b, _, by simp, he1.c, by simp, ?_⟩
      simp [Hp.at, hb]
    · refine ⟨?_, ?_, Nat.le_succ_of_le he1.c⟩
      · intro i k hi
        have h1 := he1.pre i k hi
        show ((H.new [.int .i64 n]).bs.set b _)[i]? = some k
        by_cases hib : b = i
        · subst hib
          rw [g1] at h1
          cases h1
          exact absurd (hw0 b _ hi) (Nat.not_lt.2 hv)
        · rw [List.getElem?_set_ne hib]; exact h1
      · intro i k hi
        by_cases hib : b = i
        · subst hib
          simp [hb] at hi
          subst hi
          exact Nat.lt_succ_self _
        · simp only [List.getElem?_set_ne hib] at hi
          exact Nat.lt_succ_of_lt (he1.wf i k hi)
/-- A list of numbers, as it is handed back. -/
def mkS (H : Hp) (l : List Int) : AV × Hp :=
  if l = [] then (.nilS, H) else (.sl H.bs.length H.c 0 l.length 1 false, H.new (l.map (.int .i64)))
theorem mkS_ext {H : Hp} (h : Wf H) (l : List Int) : Ext H (mkS H l).2 := by
  unfold mkS; split
  · exact Ext.refl h
  · exact (Ext.refl h).new _
theorem mkS_own (H : Hp) (l : List Int) : Own H (mkS H l).2 (mkS H l).1 l := by
  unfold mkS; split
  · rename_i h; exact .inl ⟨h, rfl⟩
  · rename_i h; exact .inr ⟨_, _, rfl, Nat.le_refl _, h, new_at _ _⟩
theorem all_flat (l : List Int) : (l.map (AV.int .i64)).all flat = true := by
  induction l with
  | nil => rfl
  | cons a l ih => simp [flat]
theorem goEndS {E : Env} {H0 H : Hp} {x : Ex} {s : Sl} {rs : List ResultVar} {q : Option (List AV)} {v : AV} {l : List Int} {r : AV} {Hr : Hp} (hw : Wf H0) (he : Ext H0 H) (ho : Own H0 H v l) (hx : x = .norm ∨ x = .ret) (e : xres T s H rs = q) (eq : q = some [v]) (hr : mkS H0 l = (r, Hr)) :
    K E T (.fin fun x s' H2 => (x = .norm ∨ x = .ret) ∧ ∃ vs js, xres T s' H2 rs = some vs ∧ Can H0 H2 Hr (xret vs) r js) x s H := by
  rcases ho with ⟨rfl, rfl⟩ | ⟨b, ver, rfl, hv, hne, hk⟩
  · simp only [mkS, if_true] at hr
    cases hr
    exact ⟨⟨hx, _, [], e.trans eq, Can.pure hw he.pre rfl⟩⟩
  · simp only [mkS, if_neg hne] at hr
    cases hr
    refine ⟨⟨hx, _, [(b, ver)], e.trans eq, ?_⟩⟩
    have := Can.one (r2 := .sl b ver 0 l.length 1 false) (r := .sl H0.bs.length H0.c 0 l.length 1 false) hw he.pre hk hv (all_flat l) (by simp [AV.rel, relR, pos, Nat.not_lt.2 hv])
    exact this
/-- A list that was made by make: as long as it is, it may be written. -/
def OwnF (H0 H : Hp) (v : AV) (l : List Int) : Prop :=
  ∃ b ver, v = .sl b ver 0 l.length 1 true ∧ H0.c ≤ ver ∧ H.at b ver = some ⟨ver, l.map (.int .i64), true, true⟩
theorem ints_of_ownF {H0 H : Hp} {v : AV} {l : List Int} (h : OwnF H0 H v l) (hl : l.length ≤ 1152921504606846976) : ints H v = some l := by
  obtain ⟨b, ver, rfl, _, hk⟩ := h
  simp only [ints, hl, and_self, if_true, hk, List.drop_zero]
  rw [if_pos (by simp), List.take_of_length_le (by simp), toInts_map]
theorem rep_ints (n : Nat) : rep n [.int .i64 0] = (List.replicate n (0 : Int)).map (.int .i64) := by
  induction n with
  | zero => rfl
  | succ n ih => simp [rep, ih, List.replicate_succ]
theorem make_own {H0 H : Hp} (he : Ext H0 H) (n : Nat) (hn : n < 1099511627776) :
    ∃ v' H', amake T 22 (.int .i64 n) (.int .i64 n) H = some (v', H') ∧ OwnF H0 H' v' (List.replicate n 0) ∧ Ext H0 H' := by
  refine ⟨_, H.new ((List.replicate n (0 : Int)).map (.int .i64)), ?_, ⟨H.bs.length, H.c, rfl, he.c, new_at _ _⟩, he.new _⟩
  simp only [amake, D22, T3, Option.bind_some]
  rw [if_pos (by refine ⟨trivial, by omega, by omega, by omega⟩)]
  simp [rep_ints]
theorem setAll_one : ∀ (l : List Int) (j : Nat) (x : Int), setAll (l.map (AV.int .i64)) j [.int .i64 x] = (l.set j x).map (.int .i64) := by
  intro l j x
  simp [setAll, List.map_set]
theorem store_own {H0 H : Hp} {v : AV} {l : List Int} (hw0 : Wf H0) (he : Ext H0 H) (h : OwnF H0 H v l) (j : Nat) (hj : j < l.length) (x : Int) :
    ∃ H', astore T 3 (pAt v j) (.int .i64 x) H = some H' ∧ OwnF H0 H' v (l.set j x) ∧ Ext H0 H' := by
  obtain ⟨b, ver, rfl, hv, hk⟩ := h
  obtain ⟨g1, g2⟩ := Hp.at_some hk
  have hb := (List.getElem?_eq_some_iff.1 g1).1
  refine ⟨H.put b ⟨ver, (l.set j x).map (.int .i64), true, true⟩, ?_, ⟨b, ver, by simp, hv, ?_⟩, ?_, ?_, he.c⟩
  · simp only [astore, T3, pAt, hk]
    rw [if_pos (by simp [AV.cells, AV.one]; omega)]
    have := setAll_one l j x
    simp only [Int.toNat_natCast, Nat.zero_add, Nat.mul_one, AV.cells, this]
  · simp [Hp.at, Hp.put, hb]
  · intro i k hi
    have h1 := he.pre i k hi
    show (H.bs.set b _)[i]? = some k
    by_cases hib : b = i
    · subst hib
      rw [g1] at h1
      cases h1
      exact absurd (hw0 b _ hi) (Nat.not_lt.2 hv)
    · rw [List.getElem?_set_ne hib]; exact h1
  · intro i k hi
    simp only [Hp.put] at hi ⊢
    by_cases hib : b = i
    · subst hib
      simp [hb] at hi
      subst hi
      exact (he.wf b _ g1 : ver < H.c)
    · rw [List.getElem?_set_ne hib] at hi
      exact he.wf i k hi
/-- A made list, as it is handed back. -/
def mkF (H : Hp) (l : List Int) : AV × Hp := (.sl H.bs.length H.c 0 l.length 1 true, H.new (l.map (.int .i64)))
theorem mkF_ext {H : Hp} (h : Wf H) (l : List Int) : Ext H (mkF H l).2 := (Ext.refl h).new _
theorem mkF_own (H : Hp) (l : List Int) : OwnF H (mkF H l).2 (mkF H l).1 l := ⟨_, _, rfl, Nat.le_refl _, new_at _ _⟩
theorem goEndF {E : Env} {H0 H : Hp} {x : Ex} {s : Sl} {rs : List ResultVar} {q : Option (List AV)} {v : AV} {l : List Int} {r : AV} {Hr : Hp} (hw : Wf H0) (he : Ext H0 H) (ho : OwnF H0 H v l) (hx : x = .norm ∨ x = .ret) (e : xres T s H rs = q) (eq : q = some [v]) (hr : mkF H0 l = (r, Hr)) :
    K E T (.fin fun x s' H2 => (x = .norm ∨ x = .ret) ∧ ∃ vs js, xres T s' H2 rs = some vs ∧ Can H0 H2 Hr (xret vs) r js) x s H := by
  obtain ⟨b, ver, rfl, hv, hk⟩ := ho
  cases hr
  refine ⟨⟨hx, _, [(b, ver)], e.trans eq, ?_⟩⟩
  exact Can.one (r2 := .sl b ver 0 l.length 1 true) (r := .sl H0.bs.length H0.c 0 l.length 1 true) hw he.pre hk hv (all_flat l) (by simp [AV.rel, relR, pos, Nat.not_lt.2 hv])
theorem Own.new {H0 H : Hp} {v : AV} {l : List Int} (h : Own H0 H v l) (xs : List AV) : Own H0 (H.new xs) v l := by
  rcases h with h | ⟨b, ver, h1, h2, h3, hk⟩
  · exact .inl h
  · exact .inr ⟨b, ver, h1, h2, h3, at_new hk xs⟩
theorem Own.old {A B H : Hp} {v : AV} {l : List Int} (h : Own B H v l) (hc : A.c ≤ B.c) : Own A H v l := by
  rcases h with h | ⟨b, ver, h1, h2, h3, hk⟩
  · exact .inl h
  · exact .inr ⟨b, ver, h1, Nat.le_trans hc h2, h3, hk⟩
/-- As Own, of any cells: n elements of es cells each. -/
def OwnG (es : Nat) (H0 H : Hp) (v : AV) (n : Nat) (cs : List AV) : Prop :=
  (n = 0 ∧ v = .nilS ∧ cs = []) ∨ ∃ b ver, v = .sl b ver 0 n es false ∧ H0.c ≤ ver ∧ n ≠ 0 ∧ cs.length = n * es ∧ H.at b ver = some ⟨ver, cs, true, true⟩
theorem app_gen {H0 H : Hp} {v : AV} {n t e : Nat} {ie : TI} {cs xs : List AV} (hw0 : Wf H0) (hD : T.d t = .slice e) (hT : T e = some ie) (hb : ie.bytes ≠ 0) (he : Ext H0 H) (h : OwnG ie.size H0 H v n cs) (hl : (n + 1) * ie.bytes ≤ maxBytes) (hx : xs.length = ie.size) :
    ∃ v' H', aapp T false t t v (.sl H.bs.length H.c 0 1 ie.size true) (H.new xs) = some (v', H') ∧ OwnG ie.size H0 H' v' (n + 1) (cs ++ xs) ∧ Ext H0 H' := by
  have hsx : slCells (H.new xs) (.sl H.bs.length H.c 0 1 ie.size true) = some (1, xs) := by
    simp only [slCells, new_at]
    rw [if_pos (by omega), List.drop_zero, List.take_of_length_le (by omega)]
  have he1 : Ext H0 (H.new xs) := he.new _
  rcases h with ⟨rfl, rfl, rfl⟩ | ⟨b, ver, rfl, hv, hne, hlen, hk⟩
  · refine ⟨.sl (H.new xs).bs.length (H.new xs).c 0 1 ie.size false, (H.new xs).new xs, ?_, ?_, he1.new _⟩
    · simp only [aapp, hD, hT, Option.bind_some, aappend, hsx]
      rw [if_neg (by simp [hx]), if_neg (by simp), if_pos (by refine ⟨by simpa using hl, hb⟩)]
    · exact .inr ⟨_, _, rfl, he1.c, by simp, by simp [hx], by simpa using new_at _ _⟩
  · have hk' := at_new hk xs
    obtain ⟨g1, g2⟩ := Hp.at_some hk'
    have hb' := (List.getElem?_eq_some_iff.1 g1).1
    refine ⟨.sl b (H.new xs).c 0 (n + 1) ie.size false, ⟨(H.new xs).bs.set b ⟨(H.new xs).c, cs ++ xs, true, true⟩, (H.new xs).c + 1⟩, ?_, ?_, ?_⟩
    · simp only [aapp, hD, hT, Option.bind_some, aappend, hsx, hk']
      rw [if_neg (by simp [hx]), if_neg (by simp), if_neg (by simp only [ne_eq, not_true_eq_false, false_or]; omega), if_neg (by simp), if_pos (by simp [hlen])]
      simp
    · refine .inr ⟨b, _, rfl, he1.c, by simp, by simp [hlen, hx, Nat.add_mul], ?_⟩
      simp [Hp.at, hb']
    · refine ⟨?_, ?_, Nat.le_succ_of_le he1.c⟩
      · intro i k hi
        have h1 := he1.pre i k hi
        show ((H.new xs).bs.set b _)[i]? = some k
        by_cases hib : b = i
        · subst hib
          rw [g1] at h1
          cases h1
          exact absurd (hw0 b _ hi) (Nat.not_lt.2 hv)
        · rw [List.getElem?_set_ne hib]; exact h1
      · intro i k hi
        by_cases hib : b = i
        · subst hib
          simp [hb'] at hi
          subst hi
          exact Nat.lt_succ_self _
        · simp only [List.getElem?_set_ne hib] at hi
          exact Nat.lt_succ_of_lt (he1.wf i k hi)
def mkG (H : Hp) (es n : Nat) (cs : List AV) : AV × Hp :=
  if n = 0 then (.nilS, H) else (.sl H.bs.length H.c 0 n es false, H.new cs)
theorem mkG_ext {H : Hp} (h : Wf H) (es n : Nat) (cs : List AV) : Ext H (mkG H es n cs).2 := by
  unfold mkG; split
  · exact Ext.refl h
  · exact (Ext.refl h).new _
theorem mkG_own (H : Hp) (es n : Nat) (cs : List AV) (hl : cs.length = n * es) : OwnG es H (mkG H es n cs).2 (mkG H es n cs).1 n cs := by
  unfold mkG; split
  · rename_i h; subst h; exact .inl ⟨rfl, rfl, List.eq_nil_of_length_eq_zero (by simpa using hl)⟩
  · rename_i h; exact .inr ⟨_, _, rfl, Nat.le_refl _, h, hl, new_at _ _⟩
theorem own_len {es : Nat} {H0 H : Hp} {v : AV} {n : Nat} {cs : List AV} (h : OwnG es H0 H v n cs) : alenS v = some (.int .i64 n) := by
  rcases h with ⟨rfl, rfl, rfl⟩ | ⟨b, ver, rfl, _⟩ <;> rfl
theorem own_idx {es : Nat} {H0 H : Hp} {v : AV} {n : Nat} {cs : List AV} (h : OwnG es H0 H v n cs) (k : IntKind) (j : Int) : aidxS es v (.int k j) = if 0 ≤ j ∧ j < n then some (pAt v j) else none := by
  rcases h with ⟨rfl, rfl, rfl⟩ | ⟨b, ver, rfl, _⟩
  · simp only [aidxS]; rw [if_neg (by simp)]
  · simp [aidxS, pAt]
theorem Can.g {H H2 Hr : Hp} {es n : Nat} {cs : List AV} {v r : AV} (hw : Wf H) (he : Ext H H2) (ho : OwnG es H H2 v n cs) (hf : cs.all flat = true) (hr : mkG H es n cs = (r, Hr)) :
    ∃ js, (∀ b, Can H H2 Hr (.tup [v, .bool b]) (.tup [r, .bool b]) js) := by
  rcases ho with ⟨rfl, rfl, rfl⟩ | ⟨b, ver, rfl, hv, hne, _, hk⟩
  · cases hr
    exact ⟨[], fun b => Can.pure hw he.pre rfl⟩
  · simp only [mkG, if_neg hne] at hr
    cases hr
    exact ⟨[(b, ver)], fun _ => Can.one (r2 := .tup [.sl b ver 0 n es false, .bool _]) (r := .tup [.sl H.bs.length H.c 0 n es false, .bool _]) hw he.pre hk hv hf (by simp [AV.rel, rels, relR, pos, Nat.not_lt.2 hv])⟩
theorem goEndT {E : Env} {H0 H : Hp} {x : Ex} {s : Sl} {rs : List ResultVar} {q : Option (List AV)} {v r : AV} {Hr : Hp} {es n : Nat} {cs : List AV} {b : Bool} (hw : Wf H0) (he : Ext H0 H) (ho : OwnG es H0 H v n cs) (hf : cs.all flat = true) (hx : x = .norm ∨ x = .ret) (e : xres T s H rs = q) (eq : q = some [v, .bool b]) (hr : mkG H0 es n cs = (r, Hr)) :
    K E T (.fin fun x s' H2 => (x = .norm ∨ x = .ret) ∧ ∃ vs js, xres T s' H2 rs = some vs ∧ Can H0 H2 Hr (xret vs) (.tup [r, .bool b]) js) x s H := by
  obtain ⟨js, h⟩ := Can.g hw he ho hf hr
  exact ⟨⟨hx, _, js, e.trans eq, h b⟩⟩
/- Functions in short form. -/
/-! parquetry/mesh.At (2 parameters; calls 88 parquetry/mesh.Devices) -/
def A123 : Ann := { live := fun i => if i = 5 then [0, 1, 5, 6] else [], drop := fun i => false }
noncomputable def c123 : Cc :=
  (.seq (.reg false [⟨some 4, (Op.assign (Operand.const (Value.slice none 0 0))), none⟩])
  (.seq (.seq (.reg false [⟨some 7, (Op.move (Operand.tmp 1)), none⟩,
    ⟨some 8, (Op.binOp BinOp.lss 3 (Operand.tmp 7) (Operand.const (Value.int IntKind.i64 0)) 3), none⟩,
    ⟨some 9, (Op.move (Operand.tmp 8)), none⟩,
    ⟨some 10, (Op.move (Operand.tmp 1)), some (9, false)⟩,
    ⟨some 11, (Op.move (Operand.tmp 0)), some (9, false)⟩,
    ⟨some 12, (Op.call { callee := (Callee.value (Operand.func 88)), args := #[(Operand.tmp 11)], argTypes := #[22] }), some (9, false)⟩,
    ⟨some 13, (Op.binOp BinOp.geq 3 (Operand.tmp 10) (Operand.tmp 12) 3), some (9, false)⟩,
    ⟨some 14, (Op.pick (Operand.tmp 9) (Operand.const (Value.bool true)) (Operand.tmp 13)), none⟩])
  (.cond (Operand.tmp 14)
    (.seq (.reg false [⟨some 4, (Op.assign (Operand.const (Value.slice none 0 0))), none⟩])
    .ret)
    .skip))
  (.seq (.reg false [⟨some 15, (Op.move (Operand.tmp 0)), none⟩,
    ⟨some 16, (Op.call { callee := (Callee.builtin Builtin.len), args := #[(Operand.tmp 15)], argTypes := #[22] }), none⟩,
    ⟨some 17, (Op.makeSlice 22 (Operand.tmp 16) (Operand.tmp 16)), none⟩,
    ⟨some 5, (Op.assign (Operand.tmp 17)), none⟩])
  (.seq (.seq (.reg false [⟨some 18, (Op.move (Operand.tmp 0)), none⟩,
    ⟨some 19, (Op.call { callee := (Callee.builtin Builtin.len), args := #[(Operand.tmp 18)], argTypes := #[22] }), none⟩,
    ⟨some 20, (Op.binOp BinOp.sub 3 (Operand.tmp 19) (Operand.const (Value.int IntKind.i64 1)) 3), none⟩,
    ⟨some 6, (Op.assign (Operand.tmp 20)), none⟩])
  (.block 0 (.loop [0, 1, 5, 6] false
    (.seq (.seq (.reg false [⟨some 21, (Op.move (Operand.tmp 6)), none⟩,
      ⟨some 22, (Op.binOp BinOp.geq 3 (Operand.tmp 21) (Operand.const (Value.int IntKind.i64 0)) 3), none⟩])
    (.cond (Operand.tmp 22)
      .skip
      (.exit 0)))
    (.seq (.block 1 (.seq (.reg false [⟨some 25, (Op.move (Operand.tmp 5)), none⟩,
      ⟨some 26, (Op.move (Operand.tmp 6)), none⟩,
      ⟨some 27, (Op.move (Operand.tmp 1)), none⟩,
      ⟨some 28, (Op.move (Operand.tmp 0)), none⟩,
      ⟨some 29, (Op.move (Operand.tmp 6)), none⟩,
      ⟨some 30, (Op.indexAddr 22 (Operand.tmp 28) (Operand.tmp 29)), none⟩,
      ⟨some 31, (Op.load 3 (Operand.tmp 30)), none⟩,
      ⟨some 32, (Op.binOp BinOp.rem 3 (Operand.tmp 27) (Operand.tmp 31) 3), none⟩,
      ⟨some 33, (Op.indexAddr 22 (Operand.tmp 25) (Operand.tmp 26)), none⟩,
      ⟨none, (Op.store 3 (Operand.tmp 33) (Operand.tmp 32)), none⟩])
    (.reg false [⟨some 34, (Op.move (Operand.tmp 1)), none⟩,
      ⟨some 35, (Op.move (Operand.tmp 0)), none⟩,
      ⟨some 36, (Op.move (Operand.tmp 6)), none⟩,
      ⟨some 37, (Op.indexAddr 22 (Operand.tmp 35) (Operand.tmp 36)), none⟩,
      ⟨some 38, (Op.load 3 (Operand.tmp 37)), none⟩,
      ⟨some 39, (Op.binOp BinOp.quo 3 (Operand.tmp 34) (Operand.tmp 38) 3), none⟩,
      ⟨some 1, (Op.assign (Operand.tmp 39)), none⟩])))
    (.reg false [⟨some 23, (Op.move (Operand.tmp 6)), none⟩,
      ⟨some 24, (Op.binOp BinOp.sub 3 (Operand.tmp 23) (Operand.const (Value.int IntKind.i64 1)) 3), none⟩,
      ⟨some 6, (Op.assign (Operand.tmp 24)), none⟩]))))))
  (.seq (.reg false [⟨some 40, (Op.move (Operand.tmp 5)), none⟩,
    ⟨some 4, (Op.assign (Operand.tmp 40)), none⟩])
  .ret)))))
noncomputable def b123 : Code := Try.f123.body.getD .skip
theorem hb123 : Try.f123.body = some b123 := by kernel_rfl
theorem sh123 : shortC A123 b123 = c123 := by kernel_rfl
theorem ok123 : (okSlots Try.f123.ntmps b123 && okRecs A123 b123) = true := by kernel_rfl
def rs123 : List ResultVar := [(ResultVar.tmp 4)]
theorem hr123 : Try.f123.results.toList = rs123 := by kernel_rfl
/-! parquetry/tile.cuts (4 parameters; calls 60 parquetry/tile.Cut, 63 parquetry/spec.Right, 88 parquetry/mesh.Devices, 90 parquetry/shape.Right, 123 parquetry/mesh.At) -/
def A57 : Ann := { recs := fun i => if i = 10 then [(15, 18)] else [], live := fun i => if i = 6 then [0, 1, 10, 11, 39, 40, 41] else [], drop := fun i => false }
noncomputable def c57 : Cc :=
  (.seq (.reg false [⟨some 8, (Op.assign (Operand.const (Value.slice none 0 0))), none⟩,
    ⟨some 9, (Op.assign (Operand.const (Value.bool false))), none⟩])
  (.seq (.seq (.reg false [⟨some 15, (Op.move (Operand.tmp 0)), none⟩,
    ⟨some 16, (Op.call { callee := (Callee.value (Operand.func 90)), args := #[(Operand.tmp 15)], argTypes := #[22] }), none⟩,
    ⟨some 17, (Op.unOp UnOp.not 4 (Operand.tmp 16)), none⟩,
    ⟨some 18, (Op.move (Operand.tmp 17)), none⟩,
    ⟨some 19, (Op.move (Operand.tmp 1)), some (18, false)⟩,
    ⟨some 20, (Op.move (Operand.tmp 2)), some (18, false)⟩,
    ⟨some 21, (Op.move (Operand.tmp 0)), some (18, false)⟩,
    ⟨some 22, (Op.call { callee := (Callee.builtin Builtin.len), args := #[(Operand.tmp 21)], argTypes := #[22] }), some (18, false)⟩,
    ⟨some 23, (Op.call { callee := (Callee.value (Operand.func 63)), args := #[(Operand.tmp 19), (Operand.tmp 20), (Operand.tmp 22)], argTypes := #[22, 22, 3] }), some (18, false)⟩,
    ⟨some 24, (Op.unOp UnOp.not 4 (Operand.tmp 23)), some (18, false)⟩,
    ⟨some 25, (Op.pick (Operand.tmp 18) (Operand.const (Value.bool true)) (Operand.tmp 24)), none⟩,
    ⟨some 26, (Op.move (Operand.tmp 25)), none⟩,
    ⟨some 27, (Op.move (Operand.tmp 3)), some (26, false)⟩,
    ⟨some 28, (Op.binOp BinOp.lss 3 (Operand.tmp 27) (Operand.const (Value.int IntKind.i64 0)) 3), some (26, false)⟩,
    ⟨some 29, (Op.pick (Operand.tmp 26) (Operand.const (Value.bool true)) (Operand.tmp 28)), none⟩,
    ⟨some 30, (Op.move (Operand.tmp 29)), none⟩,
    ⟨some 31, (Op.move (Operand.tmp 3)), some (30, false)⟩,
    ⟨some 32, (Op.move (Operand.tmp 1)), some (30, false)⟩,
    ⟨some 33, (Op.call { callee := (Callee.value (Operand.func 88)), args := #[(Operand.tmp 32)], argTypes := #[22] }), some (30, false)⟩,
    ⟨some 34, (Op.binOp BinOp.geq 3 (Operand.tmp 31) (Operand.tmp 33) 3), some (30, false)⟩,
    ⟨some 35, (Op.pick (Operand.tmp 30) (Operand.const (Value.bool true)) (Operand.tmp 34)), none⟩])
  (.cond (Operand.tmp 35)
    (.seq (.reg false [⟨some 8, (Op.assign (Operand.const (Value.slice none 0 0))), none⟩,
      ⟨some 9, (Op.assign (Operand.const (Value.bool false))), none⟩])
    .ret)
    .skip))
  (.seq (.reg false [⟨some 36, (Op.move (Operand.tmp 1)), none⟩,
    ⟨some 37, (Op.move (Operand.tmp 3)), none⟩,
    ⟨some 38, (Op.call { callee := (Callee.value (Operand.func 123)), args := #[(Operand.tmp 36), (Operand.tmp 37)], argTypes := #[22, 3] }), none⟩,
    ⟨some 10, (Op.assign (Operand.tmp 38)), none⟩])
  (.seq (.reg false [⟨some 11, (Op.assign (Operand.const (Value.slice none 0 0))), none⟩])
  (.seq (.seq (.reg false [⟨some 39, (Op.move (Operand.tmp 2)), none⟩,
    ⟨some 40, (Op.call { callee := (Callee.builtin Builtin.len), args := #[(Operand.tmp 39)], argTypes := #[22] }), none⟩,
    ⟨some 41, (Op.move (Operand.const (Value.int IntKind.i64 0))), none⟩])
  (.block 0 (.loop [0, 1, 10, 11, 39, 40, 41] false
    (.seq (.reg false [⟨some 42, (Op.binOp BinOp.lss 3 (Operand.tmp 41) (Operand.tmp 40) 3), none⟩])
    (.seq (.cond (Operand.tmp 42)
      .skip
      (.exit 0))
    (.seq (.block 1 (.seq (.reg false [⟨some 43, (Op.move (Operand.tmp 41)), none⟩,
      ⟨some 44, (Op.indexAddr 22 (Operand.tmp 39) (Operand.tmp 41)), none⟩,
      ⟨some 45, (Op.load 3 (Operand.tmp 44)), none⟩,
      ⟨some 12, (Op.assign (Operand.tmp 43)), none⟩,
      ⟨some 13, (Op.assign (Operand.tmp 45)), none⟩])
    (.seq (.reg false [⟨some 46, (Op.move (Operand.tmp 0)), none⟩,
      ⟨some 47, (Op.move (Operand.tmp 12)), none⟩,
      ⟨some 48, (Op.indexAddr 22 (Operand.tmp 46) (Operand.tmp 47)), none⟩,
      ⟨some 49, (Op.load 3 (Operand.tmp 48)), none⟩,
      ⟨some 50, (Op.build 86 #[(0, (Operand.const (Value.int IntKind.i64 0))), (1, (Operand.tmp 49))]), none⟩,
      ⟨some 14, (Op.alloc 86), none⟩,
      ⟨none, (Op.store 86 (Operand.tmp 14) (Operand.tmp 50)), none⟩])
    (.seq (.seq (.reg false [⟨some 51, (Op.move (Operand.tmp 13)), none⟩,
      ⟨some 52, (Op.binOp BinOp.geq 3 (Operand.tmp 51) (Operand.const (Value.int IntKind.i64 0)) 3), none⟩])
    (.cond (Operand.tmp 52)
      (.reg false [⟨some 54, (Op.move (Operand.tmp 0)), none⟩,
        ⟨some 55, (Op.move (Operand.tmp 12)), none⟩,
        ⟨some 56, (Op.indexAddr 22 (Operand.tmp 54) (Operand.tmp 55)), none⟩,
        ⟨some 57, (Op.load 3 (Operand.tmp 56)), none⟩,
        ⟨some 58, (Op.move (Operand.tmp 1)), none⟩,
        ⟨some 59, (Op.move (Operand.tmp 13)), none⟩,
        ⟨some 60, (Op.indexAddr 22 (Operand.tmp 58) (Operand.tmp 59)), none⟩,
        ⟨some 61, (Op.load 3 (Operand.tmp 60)), none⟩,
        ⟨some 62, (Op.move (Operand.tmp 10)), none⟩,
        ⟨some 63, (Op.move (Operand.tmp 13)), none⟩,
        ⟨some 64, (Op.indexAddr 22 (Operand.tmp 62) (Operand.tmp 63)), none⟩,
        ⟨some 65, (Op.load 3 (Operand.tmp 64)), none⟩,
        ⟨some 66, (Op.call { callee := (Callee.value (Operand.func 60)), args := #[(Operand.tmp 57), (Operand.tmp 61), (Operand.tmp 65)], argTypes := #[3, 3, 3] }), none⟩,
        ⟨some 53, (Op.move (Operand.tmp 66)), none⟩,
        ⟨some 67, (Op.extract (Operand.tmp 53) 0), none⟩,
        ⟨some 68, (Op.extract (Operand.tmp 53) 1), none⟩,
        ⟨some 69, (Op.indexAddr 86 (Operand.tmp 14) (Operand.const (Value.int IntKind.i64 0))), none⟩,
        ⟨none, (Op.store 3 (Operand.tmp 69) (Operand.tmp 67)), none⟩,
        ⟨some 70, (Op.indexAddr 86 (Operand.tmp 14) (Operand.const (Value.int IntKind.i64 1))), none⟩,
        ⟨none, (Op.store 3 (Operand.tmp 70) (Operand.tmp 68)), none⟩])
      .skip))
    (.reg false [⟨some 71, (Op.move (Operand.tmp 11)), none⟩,
      ⟨some 72, (Op.load 86 (Operand.tmp 14)), none⟩,
      ⟨some 73, (Op.buildSlice 83 1 #[(0, (Operand.tmp 72))]), none⟩,
      ⟨some 74, (Op.call { callee := (Callee.builtin Builtin.append), args := #[(Operand.tmp 71), (Operand.tmp 73)], argTypes := #[83, 83] }), none⟩,
      ⟨some 11, (Op.assign (Operand.tmp 74)), none⟩])))))
    (.reg false [⟨some 75, (Op.binOp BinOp.add 3 (Operand.tmp 41) (Operand.const (Value.int IntKind.i64 1)) 3), none⟩,
      ⟨some 41, (Op.move (Operand.tmp 75)), none⟩])))))))
  (.seq (.reg false [⟨some 76, (Op.move (Operand.tmp 11)), none⟩,
    ⟨some 8, (Op.assign (Operand.tmp 76)), none⟩,
    ⟨some 9, (Op.assign (Operand.const (Value.bool true))), none⟩])
  .ret))))))
noncomputable def b57 : Code := Try.f57.body.getD .skip
theorem hb57 : Try.f57.body = some b57 := by kernel_rfl
theorem sh57 : shortC A57 b57 = c57 := by kernel_rfl
theorem ok57 : (okSlots Try.f57.ntmps b57 && okRecs A57 b57) = true := by kernel_rfl
def rs57 : List ResultVar := [(ResultVar.tmp 8), (ResultVar.tmp 9)]
theorem hr57 : Try.f57.results.toList = rs57 := by kernel_rfl
/-! parquetry/tile.Size (4 parameters; calls 57 parquetry/tile.cuts) -/
def A21 : Ann := { live := fun i => if i = 4 then [11, 22, 23, 24] else [], drop := fun i => false }
noncomputable def c21 : Cc :=
  (.seq (.reg false [⟨some 8, (Op.assign (Operand.const (Value.slice none 0 0))), none⟩])
  (.seq (.reg false [⟨some 15, (Op.move (Operand.tmp 0)), none⟩,
    ⟨some 16, (Op.move (Operand.tmp 1)), none⟩,
    ⟨some 17, (Op.move (Operand.tmp 2)), none⟩,
    ⟨some 18, (Op.move (Operand.tmp 3)), none⟩,
    ⟨some 19, (Op.call { callee := (Callee.value (Operand.func 57)), args := #[(Operand.tmp 15), (Operand.tmp 16), (Operand.tmp 17), (Operand.tmp 18)], argTypes := #[22, 22, 22, 3] }), none⟩,
    ⟨some 14, (Op.move (Operand.tmp 19)), none⟩,
    ⟨some 20, (Op.extract (Operand.tmp 14) 0), none⟩,
    ⟨some 21, (Op.extract (Operand.tmp 14) 1), none⟩,
    ⟨some 9, (Op.assign (Operand.tmp 20)), none⟩,
    ⟨some 10, (Op.assign (Operand.tmp 21)), none⟩])
  (.seq (.reg false [⟨some 11, (Op.assign (Operand.const (Value.slice none 0 0))), none⟩])
  (.seq (.seq (.reg false [⟨some 22, (Op.move (Operand.tmp 9)), none⟩,
    ⟨some 23, (Op.call { callee := (Callee.builtin Builtin.len), args := #[(Operand.tmp 22)], argTypes := #[83] }), none⟩,
    ⟨some 24, (Op.move (Operand.const (Value.int IntKind.i64 0))), none⟩])
  (.block 0 (.loop [11, 22, 23, 24] false
    (.seq (.reg false [⟨some 25, (Op.binOp BinOp.lss 3 (Operand.tmp 24) (Operand.tmp 23) 3), none⟩])
    (.seq (.cond (Operand.tmp 25)
      .skip
      (.exit 0))
    (.seq (.block 1 (.seq (.reg false [⟨some 26, (Op.indexAddr 83 (Operand.tmp 22) (Operand.tmp 24)), none⟩,
      ⟨some 27, (Op.load 86 (Operand.tmp 26)), none⟩,
      ⟨some 13, (Op.alloc 86), none⟩,
      ⟨none, (Op.store 86 (Operand.tmp 13) (Operand.tmp 27)), none⟩])
    (.reg false [⟨some 28, (Op.move (Operand.tmp 11)), none⟩,
      ⟨some 29, (Op.indexAddr 86 (Operand.tmp 13) (Operand.const (Value.int IntKind.i64 1))), none⟩,
      ⟨some 30, (Op.load 3 (Operand.tmp 29)), none⟩,
      ⟨some 31, (Op.indexAddr 86 (Operand.tmp 13) (Operand.const (Value.int IntKind.i64 0))), none⟩,
      ⟨some 32, (Op.load 3 (Operand.tmp 31)), none⟩,
      ⟨some 33, (Op.binOp BinOp.sub 3 (Operand.tmp 30) (Operand.tmp 32) 3), none⟩,
      ⟨some 34, (Op.buildSlice 22 1 #[(0, (Operand.tmp 33))]), none⟩,
      ⟨some 35, (Op.call { callee := (Callee.builtin Builtin.append), args := #[(Operand.tmp 28), (Operand.tmp 34)], argTypes := #[22, 22] }), none⟩,
      ⟨some 11, (Op.assign (Operand.tmp 35)), none⟩])))
    (.reg false [⟨some 36, (Op.binOp BinOp.add 3 (Operand.tmp 24) (Operand.const (Value.int IntKind.i64 1)) 3), none⟩,
      ⟨some 24, (Op.move (Operand.tmp 36)), none⟩])))))))
  (.seq (.reg false [⟨some 37, (Op.move (Operand.tmp 11)), none⟩,
    ⟨some 8, (Op.assign (Operand.tmp 37)), none⟩])
  .ret)))))
noncomputable def b21 : Code := Try.f21.body.getD .skip
theorem hb21 : Try.f21.body = some b21 := by kernel_rfl
theorem sh21 : shortC A21 b21 = c21 := by kernel_rfl
theorem ok21 : (okSlots Try.f21.ntmps b21 && okRecs A21 b21) = true := by kernel_rfl
def rs21 : List ResultVar := [(ResultVar.tmp 8)]
theorem hr21 : Try.f21.results.toList = rs21 := by kernel_rfl
/-! parquetry/tile.From (4 parameters; calls 57 parquetry/tile.cuts) -/
def A22 : Ann := { live := fun i => if i = 4 then [11, 22, 23, 24] else [], drop := fun i => false }
noncomputable def c22 : Cc :=
  (.seq (.reg false [⟨some 8, (Op.assign (Operand.const (Value.slice none 0 0))), none⟩])
  (.seq (.reg false [⟨some 15, (Op.move (Operand.tmp 0)), none⟩,
    ⟨some 16, (Op.move (Operand.tmp 1)), none⟩,
    ⟨some 17, (Op.move (Operand.tmp 2)), none⟩,
    ⟨some 18, (Op.move (Operand.tmp 3)), none⟩,
    ⟨some 19, (Op.call { callee := (Callee.value (Operand.func 57)), args := #[(Operand.tmp 15), (Operand.tmp 16), (Operand.tmp 17), (Operand.tmp 18)], argTypes := #[22, 22, 22, 3] }), none⟩,
    ⟨some 14, (Op.move (Operand.tmp 19)), none⟩,
    ⟨some 20, (Op.extract (Operand.tmp 14) 0), none⟩,
    ⟨some 21, (Op.extract (Operand.tmp 14) 1), none⟩,
    ⟨some 9, (Op.assign (Operand.tmp 20)), none⟩,
    ⟨some 10, (Op.assign (Operand.tmp 21)), none⟩])
  (.seq (.reg false [⟨some 11, (Op.assign (Operand.const (Value.slice none 0 0))), none⟩])
  (.seq (.seq (.reg false [⟨some 22, (Op.move (Operand.tmp 9)), none⟩,
    ⟨some 23, (Op.call { callee := (Callee.builtin Builtin.len), args := #[(Operand.tmp 22)], argTypes := #[83] }), none⟩,
    ⟨some 24, (Op.move (Operand.const (Value.int IntKind.i64 0))), none⟩])
  (.block 0 (.loop [11, 22, 23, 24] false
    (.seq (.reg false [⟨some 25, (Op.binOp BinOp.lss 3 (Operand.tmp 24) (Operand.tmp 23) 3), none⟩])
    (.seq (.cond (Operand.tmp 25)
      .skip
      (.exit 0))
    (.seq (.block 1 (.seq (.reg false [⟨some 26, (Op.indexAddr 83 (Operand.tmp 22) (Operand.tmp 24)), none⟩,
      ⟨some 27, (Op.load 86 (Operand.tmp 26)), none⟩,
      ⟨some 13, (Op.alloc 86), none⟩,
      ⟨none, (Op.store 86 (Operand.tmp 13) (Operand.tmp 27)), none⟩])
    (.reg false [⟨some 28, (Op.move (Operand.tmp 11)), none⟩,
      ⟨some 29, (Op.indexAddr 86 (Operand.tmp 13) (Operand.const (Value.int IntKind.i64 0))), none⟩,
      ⟨some 30, (Op.load 3 (Operand.tmp 29)), none⟩,
      ⟨some 31, (Op.buildSlice 22 1 #[(0, (Operand.tmp 30))]), none⟩,
      ⟨some 32, (Op.call { callee := (Callee.builtin Builtin.append), args := #[(Operand.tmp 28), (Operand.tmp 31)], argTypes := #[22, 22] }), none⟩,
      ⟨some 11, (Op.assign (Operand.tmp 32)), none⟩])))
    (.reg false [⟨some 33, (Op.binOp BinOp.add 3 (Operand.tmp 24) (Operand.const (Value.int IntKind.i64 1)) 3), none⟩,
      ⟨some 24, (Op.move (Operand.tmp 33)), none⟩])))))))
  (.seq (.reg false [⟨some 34, (Op.move (Operand.tmp 11)), none⟩,
    ⟨some 8, (Op.assign (Operand.tmp 34)), none⟩])
  .ret)))))
noncomputable def b22 : Code := Try.f22.body.getD .skip
theorem hb22 : Try.f22.body = some b22 := by kernel_rfl
theorem sh22 : shortC A22 b22 = c22 := by kernel_rfl
theorem ok22 : (okSlots Try.f22.ntmps b22 && okRecs A22 b22) = true := by kernel_rfl
def rs22 : List ResultVar := [(ResultVar.tmp 8)]
theorem hr22 : Try.f22.results.toList = rs22 := by kernel_rfl
/-! parquetry/tile.Most (3 parameters; calls 21 parquetry/tile.Size) -/
def A19 : Ann := { drop := fun i => false }
noncomputable def c19 : Cc :=
  (.seq (.reg false [⟨some 6, (Op.assign (Operand.const (Value.slice none 0 0))), none⟩])
  (.seq (.reg false [⟨some 7, (Op.move (Operand.tmp 0)), none⟩,
    ⟨some 8, (Op.move (Operand.tmp 1)), none⟩,
    ⟨some 9, (Op.move (Operand.tmp 2)), none⟩,
    ⟨some 10, (Op.call { callee := (Callee.value (Operand.func 21)), args := #[(Operand.tmp 7), (Operand.tmp 8), (Operand.tmp 9), (Operand.const (Value.int IntKind.i64 0))], argTypes := #[22, 22, 22, 3] }), none⟩,
    ⟨some 6, (Op.assign (Operand.tmp 10)), none⟩])
  .ret))
noncomputable def b19 : Code := Try.f19.body.getD .skip
theorem hb19 : Try.f19.body = some b19 := by kernel_rfl
theorem sh19 : shortC A19 b19 = c19 := by kernel_rfl
theorem ok19 : (okSlots Try.f19.ntmps b19 && okRecs A19 b19) = true := by kernel_rfl
def rs19 : List ResultVar := [(ResultVar.tmp 6)]
theorem hr19 : Try.f19.results.toList = rs19 := by kernel_rfl
/-! parquetry/parquetrybook.Same[int] (2 parameters; calls none) -/
def A62 : Ann := { live := fun i => if i = 4 then [0, 1, 5] else [], drop := fun i => false }
noncomputable def c62 : Cc :=
  (.seq (.reg false [⟨some 4, (Op.assign (Operand.const (Value.bool false))), none⟩])
  (.seq (.seq (.reg false [⟨some 6, (Op.move (Operand.tmp 0)), none⟩,
    ⟨some 7, (Op.call { callee := (Callee.builtin Builtin.len), args := #[(Operand.tmp 6)], argTypes := #[22] }), none⟩,
    ⟨some 8, (Op.move (Operand.tmp 1)), none⟩,
    ⟨some 9, (Op.call { callee := (Callee.builtin Builtin.len), args := #[(Operand.tmp 8)], argTypes := #[22] }), none⟩,
    ⟨some 10, (Op.binOp BinOp.neq 3 (Operand.tmp 7) (Operand.tmp 9) 3), none⟩])
  (.cond (Operand.tmp 10)
    (.seq (.reg false [⟨some 4, (Op.assign (Operand.const (Value.bool false))), none⟩])
    .ret)
    .skip))
  (.seq (.seq (.reg false [⟨some 5, (Op.assign (Operand.const (Value.int IntKind.i64 0))), none⟩])
  (.block 0 (.loop [0, 1, 5] false
    (.seq (.seq (.reg false [⟨some 11, (Op.move (Operand.tmp 5)), none⟩,
      ⟨some 12, (Op.move (Operand.tmp 0)), none⟩,
      ⟨some 13, (Op.call { callee := (Callee.builtin Builtin.len), args := #[(Operand.tmp 12)], argTypes := #[22] }), none⟩,
      ⟨some 14, (Op.binOp BinOp.lss 3 (Operand.tmp 11) (Operand.tmp 13) 3), none⟩])
    (.cond (Operand.tmp 14)
      .skip
      (.exit 0)))
    (.seq (.block 1 (.seq (.reg false [⟨some 17, (Op.move (Operand.tmp 0)), none⟩,
      ⟨some 18, (Op.move (Operand.tmp 5)), none⟩,
      ⟨some 19, (Op.indexAddr 22 (Operand.tmp 17) (Operand.tmp 18)), none⟩,
      ⟨some 20, (Op.load 3 (Operand.tmp 19)), none⟩,
      ⟨some 21, (Op.move (Operand.tmp 1)), none⟩,
      ⟨some 22, (Op.move (Operand.tmp 5)), none⟩,
      ⟨some 23, (Op.indexAddr 22 (Operand.tmp 21) (Operand.tmp 22)), none⟩,
      ⟨some 24, (Op.load 3 (Operand.tmp 23)), none⟩,
      ⟨some 25, (Op.binOp BinOp.neq 3 (Operand.tmp 20) (Operand.tmp 24) 3), none⟩])
    (.cond (Operand.tmp 25)
      (.seq (.reg false [⟨some 4, (Op.assign (Operand.const (Value.bool false))), none⟩])
      .ret)
      .skip)))
    (.reg false [⟨some 15, (Op.move (Operand.tmp 5)), none⟩,
      ⟨some 16, (Op.binOp BinOp.add 3 (Operand.tmp 15) (Operand.const (Value.int IntKind.i64 1)) 3), none⟩,
      ⟨some 5, (Op.assign (Operand.tmp 16)), none⟩]))))))
  (.seq (.reg false [⟨some 4, (Op.assign (Operand.const (Value.bool true))), none⟩])
  .ret))))
noncomputable def b62 : Code := Try.f62.body.getD .skip
theorem hb62 : Try.f62.body = some b62 := by kernel_rfl
theorem sh62 : shortC A62 b62 = c62 := by kernel_rfl
theorem ok62 : (okSlots Try.f62.ntmps b62 && okRecs A62 b62) = true := by kernel_rfl
def rs62 : List ResultVar := [(ResultVar.tmp 4)]
theorem hr62 : Try.f62.results.toList = rs62 := by kernel_rfl
/-! parquetry/parquetrylaw16.known (0 parameters; calls 19 parquetry/tile.Most, 21 parquetry/tile.Size, 22 parquetry/tile.From, 60 parquetry/tile.Cut, 61 parquetry/tile.Width, 62 parquetry/parquetrybook.Same[int]) -/
def A24 : Ann := { drop := fun i => false }
noncomputable def c24 : Cc :=
  (.seq (.reg false [⟨some 0, (Op.assign (Operand.const (Value.bool false))), none⟩])
  (.seq (.reg false [⟨some 6, (Op.call { callee := (Callee.value (Operand.func 60)), args := #[(Operand.const (Value.int IntKind.i64 5)), (Operand.const (Value.int IntKind.i64 2)), (Operand.const (Value.int IntKind.i64 1))], argTypes := #[3, 3, 3] }), none⟩,
    ⟨some 5, (Op.move (Operand.tmp 6)), none⟩,
    ⟨some 7, (Op.extract (Operand.tmp 5) 0), none⟩,
    ⟨some 8, (Op.extract (Operand.tmp 5) 1), none⟩,
    ⟨some 1, (Op.assign (Operand.tmp 7)), none⟩,
    ⟨some 2, (Op.assign (Operand.tmp 8)), none⟩])
  (.seq (.reg false [⟨some 10, (Op.call { callee := (Callee.value (Operand.func 60)), args := #[(Operand.const (Value.int IntKind.i64 2)), (Operand.const (Value.int IntKind.i64 4)), (Operand.const (Value.int IntKind.i64 3))], argTypes := #[3, 3, 3] }), none⟩,
    ⟨some 9, (Op.move (Operand.tmp 10)), none⟩,
    ⟨some 11, (Op.extract (Operand.tmp 9) 0), none⟩,
    ⟨some 12, (Op.extract (Operand.tmp 9) 1), none⟩,
    ⟨some 3, (Op.assign (Operand.tmp 11)), none⟩,
    ⟨some 4, (Op.assign (Operand.tmp 12)), none⟩])
  (.seq (.reg false [⟨some 13, (Op.move (Operand.tmp 1)), none⟩,
    ⟨some 14, (Op.binOp BinOp.eql 3 (Operand.tmp 13) (Operand.const (Value.int IntKind.i64 3)) 3), none⟩,
    ⟨some 15, (Op.move (Operand.tmp 14)), none⟩,
    ⟨some 16, (Op.move (Operand.tmp 2)), some (15, true)⟩,
    ⟨some 17, (Op.binOp BinOp.eql 3 (Operand.tmp 16) (Operand.const (Value.int IntKind.i64 5)) 3), some (15, true)⟩,
    ⟨some 18, (Op.pick (Operand.tmp 15) (Operand.tmp 17) (Operand.const (Value.bool false))), none⟩,
    ⟨some 19, (Op.move (Operand.tmp 18)), none⟩,
    ⟨some 20, (Op.move (Operand.tmp 3)), some (19, true)⟩,
    ⟨some 21, (Op.binOp BinOp.eql 3 (Operand.tmp 20) (Operand.const (Value.int IntKind.i64 2)) 3), some (19, true)⟩,
    ⟨some 22, (Op.pick (Operand.tmp 19) (Operand.tmp 21) (Operand.const (Value.bool false))), none⟩,
    ⟨some 23, (Op.move (Operand.tmp 22)), none⟩,
    ⟨some 24, (Op.move (Operand.tmp 4)), some (23, true)⟩,
    ⟨some 25, (Op.binOp BinOp.eql 3 (Operand.tmp 24) (Operand.const (Value.int IntKind.i64 2)) 3), some (23, true)⟩,
    ⟨some 26, (Op.pick (Operand.tmp 23) (Operand.tmp 25) (Operand.const (Value.bool false))), none⟩,
    ⟨some 27, (Op.move (Operand.tmp 26)), none⟩,
    ⟨some 28, (Op.call { callee := (Callee.value (Operand.func 61)), args := #[(Operand.const (Value.int IntKind.i64 5)), (Operand.const (Value.int IntKind.i64 2))], argTypes := #[3, 3] }), some (27, true)⟩,
    ⟨some 29, (Op.binOp BinOp.eql 3 (Operand.tmp 28) (Operand.const (Value.int IntKind.i64 3)) 3), some (27, true)⟩,
    ⟨some 30, (Op.pick (Operand.tmp 27) (Operand.tmp 29) (Operand.const (Value.bool false))), none⟩,
    ⟨some 31, (Op.move (Operand.tmp 30)), none⟩,
    ⟨some 32, (Op.buildSlice 22 1 #[(0, (Operand.const (Value.int IntKind.i64 5)))]), some (31, true)⟩,
    ⟨some 33, (Op.buildSlice 22 1 #[(0, (Operand.const (Value.int IntKind.i64 2)))]), some (31, true)⟩,
    ⟨some 34, (Op.buildSlice 22 1 #[(0, (Operand.const (Value.int IntKind.i64 0)))]), some (31, true)⟩,
    ⟨some 35, (Op.call { callee := (Callee.value (Operand.func 21)), args := #[(Operand.tmp 32), (Operand.tmp 33), (Operand.tmp 34), (Operand.const (Value.int IntKind.i64 1))], argTypes := #[22, 22, 22, 3] }), some (31, true)⟩,
    ⟨some 36, (Op.buildSlice 22 1 #[(0, (Operand.const (Value.int IntKind.i64 2)))]), some (31, true)⟩,
    ⟨some 37, (Op.call { callee := (Callee.value (Operand.func 62)), args := #[(Operand.tmp 35), (Operand.tmp 36)], argTypes := #[22, 22] }), some (31, true)⟩,
    ⟨some 38, (Op.pick (Operand.tmp 31) (Operand.tmp 37) (Operand.const (Value.bool false))), none⟩,
    ⟨some 39, (Op.move (Operand.tmp 38)), none⟩,
    ⟨some 40, (Op.buildSlice 22 1 #[(0, (Operand.const (Value.int IntKind.i64 5)))]), some (39, true)⟩,
    ⟨some 41, (Op.buildSlice 22 1 #[(0, (Operand.const (Value.int IntKind.i64 2)))]), some (39, true)⟩,
    ⟨some 42, (Op.buildSlice 22 1 #[(0, (Operand.const (Value.int IntKind.i64 0)))]), some (39, true)⟩,
    ⟨some 43, (Op.call { callee := (Callee.value (Operand.func 22)), args := #[(Operand.tmp 40), (Operand.tmp 41), (Operand.tmp 42), (Operand.const (Value.int IntKind.i64 1))], argTypes := #[22, 22, 22, 3] }), some (39, true)⟩,
    ⟨some 44, (Op.buildSlice 22 1 #[(0, (Operand.const (Value.int IntKind.i64 3)))]), some (39, true)⟩,
    ⟨some 45, (Op.call { callee := (Callee.value (Operand.func 62)), args := #[(Operand.tmp 43), (Operand.tmp 44)], argTypes := #[22, 22] }), some (39, true)⟩,
    ⟨some 46, (Op.pick (Operand.tmp 39) (Operand.tmp 45) (Operand.const (Value.bool false))), none⟩,
    ⟨some 47, (Op.move (Operand.tmp 46)), none⟩,
    ⟨some 48, (Op.buildSlice 22 1 #[(0, (Operand.const (Value.int IntKind.i64 5)))]), some (47, true)⟩,
    ⟨some 49, (Op.buildSlice 22 1 #[(0, (Operand.const (Value.int IntKind.i64 2)))]), some (47, true)⟩,
    ⟨some 50, (Op.buildSlice 22 1 #[(0, (Operand.const (Value.int IntKind.i64 0)))]), some (47, true)⟩,
    ⟨some 51, (Op.call { callee := (Callee.value (Operand.func 19)), args := #[(Operand.tmp 48), (Operand.tmp 49), (Operand.tmp 50)], argTypes := #[22, 22, 22] }), some (47, true)⟩,
    ⟨some 52, (Op.buildSlice 22 1 #[(0, (Operand.const (Value.int IntKind.i64 3)))]), some (47, true)⟩,
    ⟨some 53, (Op.call { callee := (Callee.value (Operand.func 62)), args := #[(Operand.tmp 51), (Operand.tmp 52)], argTypes := #[22, 22] }), some (47, true)⟩,
    ⟨some 54, (Op.pick (Operand.tmp 47) (Operand.tmp 53) (Operand.const (Value.bool false))), none⟩,
    ⟨some 0, (Op.assign (Operand.tmp 54)), none⟩])
  .ret))))
noncomputable def b24 : Code := Try.f24.body.getD .skip
theorem hb24 : Try.f24.body = some b24 := by kernel_rfl
theorem sh24 : shortC A24 b24 = c24 := by kernel_rfl
theorem ok24 : (okSlots Try.f24.ntmps b24 && okRecs A24 b24) = true := by kernel_rfl
def rs24 : List ResultVar := [(ResultVar.tmp 0)]
theorem hr24 : Try.f24.results.toList = rs24 := by kernel_rfl
/-! (*parquetry/parquetrykeep.Tape).Next (2 parameters; calls 45 parquetry/parquetrybook.Within) -/
def A16 : Ann := { drop := fun i => false }
noncomputable def c16 : Cc :=
  (.seq (.reg false [⟨some 4, (Op.assign (Operand.const (Value.int IntKind.i64 0))), none⟩])
  (.seq (.seq (.reg false [⟨some 5, (Op.move (Operand.tmp 0)), none⟩,
    ⟨some 6, (Op.nilCheck (Operand.tmp 5)), none⟩,
    ⟨some 7, (Op.fieldAddr 25 (Operand.tmp 6) 1), none⟩,
    ⟨some 8, (Op.load 3 (Operand.tmp 7)), none⟩,
    ⟨some 9, (Op.move (Operand.tmp 0)), none⟩,
    ⟨some 10, (Op.nilCheck (Operand.tmp 9)), none⟩,
    ⟨some 11, (Op.fieldAddr 25 (Operand.tmp 10) 0), none⟩,
    ⟨some 12, (Op.load 22 (Operand.tmp 11)), none⟩,
    ⟨some 13, (Op.call { callee := (Callee.builtin Builtin.len), args := #[(Operand.tmp 12)], argTypes := #[22] }), none⟩,
    ⟨some 14, (Op.binOp BinOp.geq 3 (Operand.tmp 8) (Operand.tmp 13) 3), none⟩,
    ⟨some 15, (Op.move (Operand.tmp 14)), none⟩,
    ⟨some 16, (Op.move (Operand.tmp 1)), some (15, false)⟩,
    ⟨some 17, (Op.binOp BinOp.lss 3 (Operand.tmp 16) (Operand.const (Value.int IntKind.i64 1)) 3), some (15, false)⟩,
    ⟨some 18, (Op.pick (Operand.tmp 15) (Operand.const (Value.bool true)) (Operand.tmp 17)), none⟩])
  (.cond (Operand.tmp 18)
    (.seq (.reg false [⟨some 4, (Op.assign (Operand.const (Value.int IntKind.i64 0))), none⟩])
    .ret)
    .skip))
  (.seq (.reg false [⟨some 19, (Op.move (Operand.tmp 0)), none⟩,
    ⟨some 20, (Op.nilCheck (Operand.tmp 19)), none⟩,
    ⟨some 21, (Op.fieldAddr 25 (Operand.tmp 20) 1), none⟩,
    ⟨some 22, (Op.load 3 (Operand.tmp 21)), none⟩,
    ⟨some 23, (Op.binOp BinOp.add 3 (Operand.tmp 22) (Operand.const (Value.int IntKind.i64 1)) 3), none⟩,
    ⟨some 24, (Op.nilCheck (Operand.tmp 19)), none⟩,
    ⟨some 25, (Op.fieldAddr 25 (Operand.tmp 24) 1), none⟩,
    ⟨none, (Op.store 3 (Operand.tmp 25) (Operand.tmp 23)), none⟩])
  (.seq (.reg false [⟨some 26, (Op.move (Operand.tmp 0)), none⟩,
    ⟨some 27, (Op.nilCheck (Operand.tmp 26)), none⟩,
    ⟨some 28, (Op.fieldAddr 25 (Operand.tmp 27) 0), none⟩,
    ⟨some 29, (Op.load 22 (Operand.tmp 28)), none⟩,
    ⟨some 30, (Op.move (Operand.tmp 0)), none⟩,
    ⟨some 31, (Op.nilCheck (Operand.tmp 30)), none⟩,
    ⟨some 32, (Op.fieldAddr 25 (Operand.tmp 31) 1), none⟩,
    ⟨some 33, (Op.load 3 (Operand.tmp 32)), none⟩,
    ⟨some 34, (Op.binOp BinOp.sub 3 (Operand.tmp 33) (Operand.const (Value.int IntKind.i64 1)) 3), none⟩,
    ⟨some 35, (Op.indexAddr 22 (Operand.tmp 29) (Operand.tmp 34)), none⟩,
    ⟨some 36, (Op.load 3 (Operand.tmp 35)), none⟩,
    ⟨some 37, (Op.call { callee := (Callee.value (Operand.func 45)), args := #[(Operand.tmp 36), (Operand.const (Value.int IntKind.i64 0)), (Operand.const (Value.int IntKind.i64 1073741824))], argTypes := #[3, 3, 3] }), none⟩,
    ⟨some 38, (Op.move (Operand.tmp 1)), none⟩,
    ⟨some 39, (Op.binOp BinOp.rem 3 (Operand.tmp 37) (Operand.tmp 38) 3), none⟩,
    ⟨some 4, (Op.assign (Operand.tmp 39)), none⟩])
  .ret))))
noncomputable def b16 : Code := Try.f16.body.getD .skip
theorem hb16 : Try.f16.body = some b16 := by kernel_rfl
theorem sh16 : shortC A16 b16 = c16 := by kernel_rfl
theorem ok16 : (okSlots Try.f16.ntmps b16 && okRecs A16 b16) = true := by kernel_rfl
def rs16 : List ResultVar := [(ResultVar.tmp 4)]
theorem hr16 : Try.f16.results.toList = rs16 := by kernel_rfl
/-! (*parquetry/parquetrykeep.Tape).Shape (1 parameters; calls 16 (*parquetry/parquetrykeep.Tape).Next) -/
def A17 : Ann := { live := fun i => if i = 3 then [0, 3, 4] else [], drop := fun i => false }
noncomputable def c17 : Cc :=
  (.seq (.reg false [⟨some 2, (Op.assign (Operand.const (Value.slice none 0 0))), none⟩])
  (.seq (.reg false [⟨some 3, (Op.assign (Operand.const (Value.slice none 0 0))), none⟩])
  (.seq (.seq (.reg false [⟨some 5, (Op.move (Operand.tmp 0)), none⟩,
    ⟨some 6, (Op.call { callee := (Callee.value (Operand.func 16)), args := #[(Operand.tmp 5), (Operand.const (Value.int IntKind.i64 4))], argTypes := #[23, 3] }), none⟩,
    ⟨some 4, (Op.assign (Operand.tmp 6)), none⟩])
  (.block 0 (.loop [0, 3, 4] false
    (.seq (.seq (.reg false [⟨some 7, (Op.move (Operand.tmp 4)), none⟩,
      ⟨some 8, (Op.binOp BinOp.gtr 3 (Operand.tmp 7) (Operand.const (Value.int IntKind.i64 0)) 3), none⟩])
    (.cond (Operand.tmp 8)
      .skip
      (.exit 0)))
    (.seq (.block 1 (.reg false [⟨some 11, (Op.move (Operand.tmp 3)), none⟩,
      ⟨some 12, (Op.buildSlice 22 8 #[(0, (Operand.const (Value.int IntKind.i64 1))), (1, (Operand.const (Value.int IntKind.i64 2))), (2, (Operand.const (Value.int IntKind.i64 3))), (3, (Operand.const (Value.int IntKind.i64 4))), (4, (Operand.const (Value.int IntKind.i64 5))), (5, (Operand.const (Value.int IntKind.i64 0))), (6, (Operand.const (Value.int IntKind.i64 7))), (7, (Operand.const (Value.int IntKind.i64 2)))]), none⟩,
      ⟨some 13, (Op.move (Operand.tmp 0)), none⟩,
      ⟨some 14, (Op.call { callee := (Callee.value (Operand.func 16)), args := #[(Operand.tmp 13), (Operand.const (Value.int IntKind.i64 8))], argTypes := #[23, 3] }), none⟩,
      ⟨some 15, (Op.indexAddr 22 (Operand.tmp 12) (Operand.tmp 14)), none⟩,
      ⟨some 16, (Op.load 3 (Operand.tmp 15)), none⟩,
      ⟨some 17, (Op.buildSlice 22 1 #[(0, (Operand.tmp 16))]), none⟩,
      ⟨some 18, (Op.call { callee := (Callee.builtin Builtin.append), args := #[(Operand.tmp 11), (Operand.tmp 17)], argTypes := #[22, 22] }), none⟩,
      ⟨some 3, (Op.assign (Operand.tmp 18)), none⟩]))
    (.reg false [⟨some 9, (Op.move (Operand.tmp 4)), none⟩,
      ⟨some 10, (Op.binOp BinOp.sub 3 (Operand.tmp 9) (Operand.const (Value.int IntKind.i64 1)) 3), none⟩,
      ⟨some 4, (Op.assign (Operand.tmp 10)), none⟩]))))))
  (.seq (.reg false [⟨some 19, (Op.move (Operand.tmp 3)), none⟩,
    ⟨some 2, (Op.assign (Operand.tmp 19)), none⟩])
  .ret))))
noncomputable def b17 : Code := Try.f17.body.getD .skip
theorem hb17 : Try.f17.body = some b17 := by kernel_rfl
theorem sh17 : shortC A17 b17 = c17 := by kernel_rfl
theorem ok17 : (okSlots Try.f17.ntmps b17 && okRecs A17 b17) = true := by kernel_rfl
def rs17 : List ResultVar := [(ResultVar.tmp 2)]
theorem hr17 : Try.f17.results.toList = rs17 := by kernel_rfl
/-! (*parquetry/parquetrykeep.Tape).Spec (3 parameters; calls 16 (*parquetry/parquetrykeep.Tape).Next) -/
def A18 : Ann := { live := fun i => if i = 4 then [0, 1, 7, 8, 17, 18] else [], drop := fun i => false }
noncomputable def c18 : Cc :=
  (.seq (.reg false [⟨some 6, (Op.assign (Operand.const (Value.slice none 0 0))), none⟩])
  (.seq (.reg false [⟨some 11, (Op.move (Operand.tmp 2)), none⟩,
    ⟨some 12, (Op.makeSlice 22 (Operand.tmp 11) (Operand.tmp 11)), none⟩,
    ⟨some 7, (Op.assign (Operand.tmp 12)), none⟩])
  (.seq (.reg false [⟨some 13, (Op.move (Operand.tmp 1)), none⟩,
    ⟨some 14, (Op.call { callee := (Callee.builtin Builtin.len), args := #[(Operand.tmp 13)], argTypes := #[22] }), none⟩,
    ⟨some 15, (Op.makeSlice 82 (Operand.tmp 14) (Operand.tmp 14)), none⟩,
    ⟨some 8, (Op.assign (Operand.tmp 15)), none⟩])
  (.seq (.seq (.reg false [⟨some 16, (Op.move (Operand.tmp 7)), none⟩,
    ⟨some 17, (Op.call { callee := (Callee.builtin Builtin.len), args := #[(Operand.tmp 16)], argTypes := #[22] }), none⟩,
    ⟨some 18, (Op.move (Operand.const (Value.int IntKind.i64 0))), none⟩])
  (.block 0 (.loop [0, 1, 7, 8, 17, 18] false
    (.seq (.reg false [⟨some 19, (Op.binOp BinOp.lss 3 (Operand.tmp 18) (Operand.tmp 17) 3), none⟩])
    (.seq (.cond (Operand.tmp 19)
      .skip
      (.exit 0))
    (.seq (.block 1 (.seq (.reg false [⟨some 20, (Op.move (Operand.tmp 18)), none⟩,
      ⟨some 9, (Op.assign (Operand.tmp 20)), none⟩])
    (.seq (.reg false [⟨some 21, (Op.move (Operand.tmp 7)), none⟩,
      ⟨some 22, (Op.move (Operand.tmp 9)), none⟩,
      ⟨some 23, (Op.indexAddr 22 (Operand.tmp 21) (Operand.tmp 22)), none⟩,
      ⟨none, (Op.store 3 (Operand.tmp 23) (Operand.const (Value.int IntKind.i64 (-1)))), none⟩])
    (.seq (.reg false [⟨some 24, (Op.move (Operand.tmp 1)), none⟩,
      ⟨some 25, (Op.call { callee := (Callee.builtin Builtin.len), args := #[(Operand.tmp 24)], argTypes := #[22] }), none⟩,
      ⟨some 26, (Op.binOp BinOp.gtr 3 (Operand.tmp 25) (Operand.const (Value.int IntKind.i64 0)) 3), none⟩,
      ⟨some 27, (Op.move (Operand.tmp 26)), none⟩,
      ⟨some 28, (Op.move (Operand.tmp 0)), some (27, true)⟩,
      ⟨some 29, (Op.call { callee := (Callee.value (Operand.func 16)), args := #[(Operand.tmp 28), (Operand.const (Value.int IntKind.i64 2))], argTypes := #[23, 3] }), some (27, true)⟩,
      ⟨some 30, (Op.binOp BinOp.eql 3 (Operand.tmp 29) (Operand.const (Value.int IntKind.i64 0)) 3), some (27, true)⟩,
      ⟨some 31, (Op.pick (Operand.tmp 27) (Operand.tmp 30) (Operand.const (Value.bool false))), none⟩])
    (.cond (Operand.tmp 31)
      (.seq (.reg false [⟨some 32, (Op.move (Operand.tmp 0)), none⟩,
        ⟨some 33, (Op.move (Operand.tmp 1)), none⟩,
        ⟨some 34, (Op.call { callee := (Callee.builtin Builtin.len), args := #[(Operand.tmp 33)], argTypes := #[22] }), none⟩,
        ⟨some 35, (Op.call { callee := (Callee.value (Operand.func 16)), args := #[(Operand.tmp 32), (Operand.tmp 34)], argTypes := #[23, 3] }), none⟩,
        ⟨some 10, (Op.assign (Operand.tmp 35)), none⟩])
      (.seq (.reg false [⟨some 36, (Op.move (Operand.tmp 8)), none⟩,
        ⟨some 37, (Op.move (Operand.tmp 10)), none⟩,
        ⟨some 38, (Op.indexAddr 82 (Operand.tmp 36) (Operand.tmp 37)), none⟩,
        ⟨some 39, (Op.load 4 (Operand.tmp 38)), none⟩,
        ⟨some 40, (Op.unOp UnOp.not 4 (Operand.tmp 39)), none⟩])
      (.cond (Operand.tmp 40)
        (.reg false [⟨some 41, (Op.move (Operand.tmp 7)), none⟩,
          ⟨some 42, (Op.move (Operand.tmp 9)), none⟩,
          ⟨some 43, (Op.move (Operand.tmp 8)), none⟩,
          ⟨some 44, (Op.move (Operand.tmp 10)), none⟩,
          ⟨some 45, (Op.move (Operand.tmp 10)), none⟩,
          ⟨some 46, (Op.indexAddr 22 (Operand.tmp 41) (Operand.tmp 42)), none⟩,
          ⟨none, (Op.store 3 (Operand.tmp 46) (Operand.tmp 45)), none⟩,
          ⟨some 47, (Op.indexAddr 82 (Operand.tmp 43) (Operand.tmp 44)), none⟩,
          ⟨none, (Op.store 4 (Operand.tmp 47) (Operand.const (Value.bool true))), none⟩])
        .skip)))
      .skip)))))
    (.reg false [⟨some 48, (Op.binOp BinOp.add 3 (Operand.tmp 18) (Operand.const (Value.int IntKind.i64 1)) 3), none⟩,
      ⟨some 18, (Op.move (Operand.tmp 48)), none⟩])))))))
  (.seq (.reg false [⟨some 49, (Op.move (Operand.tmp 7)), none⟩,
    ⟨some 6, (Op.assign (Operand.tmp 49)), none⟩])
  .ret)))))
noncomputable def b18 : Code := Try.f18.body.getD .skip
theorem hb18 : Try.f18.body = some b18 := by kernel_rfl
theorem sh18 : shortC A18 b18 = c18 := by kernel_rfl
theorem ok18 : (okSlots Try.f18.ntmps b18 && okRecs A18 b18) = true := by kernel_rfl
def rs18 : List ResultVar := [(ResultVar.tmp 6)]
theorem hr18 : Try.f18.results.toList = rs18 := by kernel_rfl
/- Functions in short form. -/
/-! parquetry/mesh.Devices (1 parameters; calls 89 parquetry/mesh.Right) -/
def A88 : Ann := { live := fun i => if i = 5 then [3, 9, 10, 11] else [], drop := fun i => false }
noncomputable def c88 : Cc :=
  (.seq (.reg false [⟨some 2, (Op.assign (Operand.const (Value.int IntKind.i64 0))), none⟩])
  (.seq (.seq (.reg false [⟨some 6, (Op.move (Operand.tmp 0)), none⟩,
    ⟨some 7, (Op.call { callee := (Callee.value (Operand.func 89)), args := #[(Operand.tmp 6)], argTypes := #[22] }), none⟩,
    ⟨some 8, (Op.unOp UnOp.not 4 (Operand.tmp 7)), none⟩])
  (.cond (Operand.tmp 8)
    (.seq (.reg false [⟨some 2, (Op.assign (Operand.const (Value.int IntKind.i64 0))), none⟩])
    .ret)
    .skip))
  (.seq (.reg false [⟨some 3, (Op.assign (Operand.const (Value.int IntKind.i64 1))), none⟩])
  (.seq (.seq (.reg false [⟨some 9, (Op.move (Operand.tmp 0)), none⟩,
    ⟨some 10, (Op.call { callee := (Callee.builtin Builtin.len), args := #[(Operand.tmp 9)], argTypes := #[22] }), none⟩,
    ⟨some 11, (Op.move (Operand.const (Value.int IntKind.i64 0))), none⟩])
  (.block 0 (.loop [3, 9, 10, 11] false
    (.seq (.reg false [⟨some 12, (Op.binOp BinOp.lss 3 (Operand.tmp 11) (Operand.tmp 10) 3), none⟩])
    (.seq (.cond (Operand.tmp 12)
      .skip
      (.exit 0))
    (.seq (.block 1 (.seq (.reg false [⟨some 13, (Op.indexAddr 22 (Operand.tmp 9) (Operand.tmp 11)), none⟩,
      ⟨some 14, (Op.load 3 (Operand.tmp 13)), none⟩,
      ⟨some 5, (Op.assign (Operand.tmp 14)), none⟩])
    (.reg false [⟨some 15, (Op.move (Operand.tmp 3)), none⟩,
      ⟨some 16, (Op.move (Operand.tmp 5)), none⟩,
      ⟨some 17, (Op.binOp BinOp.mul 3 (Operand.tmp 15) (Operand.tmp 16) 3), none⟩,
      ⟨some 3, (Op.assign (Operand.tmp 17)), none⟩])))
    (.reg false [⟨some 18, (Op.binOp BinOp.add 3 (Operand.tmp 11) (Operand.const (Value.int IntKind.i64 1)) 3), none⟩,
      ⟨some 11, (Op.move (Operand.tmp 18)), none⟩])))))))
  (.seq (.reg false [⟨some 19, (Op.move (Operand.tmp 3)), none⟩,
    ⟨some 2, (Op.assign (Operand.tmp 19)), none⟩])
  .ret)))))
noncomputable def b88 : Code := Try.f88.body.getD .skip
theorem hb88 : Try.f88.body = some b88 := by kernel_rfl
theorem sh88 : shortC A88 b88 = c88 := by kernel_rfl
theorem ok88 : (okSlots Try.f88.ntmps b88 && okRecs A88 b88) = true := by kernel_rfl
def rs88 : List ResultVar := [(ResultVar.tmp 2)]
theorem hr88 : Try.f88.results.toList = rs88 := by kernel_rfl
/-! parquetry/shape.Right (1 parameters; calls none) -/
def A90 : Ann := { live := fun i => if i = 5 then [3, 9, 10, 11] else [], drop := fun i => false }
noncomputable def c90 : Cc :=
  (.seq (.reg false [⟨some 2, (Op.assign (Operand.const (Value.bool false))), none⟩])
  (.seq (.seq (.reg false [⟨some 6, (Op.move (Operand.tmp 0)), none⟩,
    ⟨some 7, (Op.call { callee := (Callee.builtin Builtin.len), args := #[(Operand.tmp 6)], argTypes := #[22] }), none⟩,
    ⟨some 8, (Op.binOp BinOp.gtr 3 (Operand.tmp 7) (Operand.const (Value.int IntKind.i64 4)) 3), none⟩])
  (.cond (Operand.tmp 8)
    (.seq (.reg false [⟨some 2, (Op.assign (Operand.const (Value.bool false))), none⟩])
    .ret)
    .skip))
  (.seq (.reg false [⟨some 3, (Op.assign (Operand.const (Value.int IntKind.i64 1))), none⟩])
  (.seq (.seq (.reg false [⟨some 9, (Op.move (Operand.tmp 0)), none⟩,
    ⟨some 10, (Op.call { callee := (Callee.builtin Builtin.len), args := #[(Operand.tmp 9)], argTypes := #[22] }), none⟩,
    ⟨some 11, (Op.move (Operand.const (Value.int IntKind.i64 0))), none⟩])
  (.block 0 (.loop [3, 9, 10, 11] false
    (.seq (.reg false [⟨some 12, (Op.binOp BinOp.lss 3 (Operand.tmp 11) (Operand.tmp 10) 3), none⟩])
    (.seq (.cond (Operand.tmp 12)
      .skip
      (.exit 0))
    (.seq (.block 1 (.seq (.reg false [⟨some 13, (Op.indexAddr 22 (Operand.tmp 9) (Operand.tmp 11)), none⟩,
      ⟨some 14, (Op.load 3 (Operand.tmp 13)), none⟩,
      ⟨some 5, (Op.assign (Operand.tmp 14)), none⟩])
    (.seq (.seq (.reg false [⟨some 15, (Op.move (Operand.tmp 5)), none⟩,
      ⟨some 16, (Op.binOp BinOp.lss 3 (Operand.tmp 15) (Operand.const (Value.int IntKind.i64 0)) 3), none⟩,
      ⟨some 17, (Op.move (Operand.tmp 16)), none⟩,
      ⟨some 18, (Op.move (Operand.tmp 5)), some (17, false)⟩,
      ⟨some 19, (Op.binOp BinOp.gtr 3 (Operand.tmp 18) (Operand.const (Value.int IntKind.i64 32)) 3), some (17, false)⟩,
      ⟨some 20, (Op.pick (Operand.tmp 17) (Operand.const (Value.bool true)) (Operand.tmp 19)), none⟩])
    (.cond (Operand.tmp 20)
      (.seq (.reg false [⟨some 2, (Op.assign (Operand.const (Value.bool false))), none⟩])
      .ret)
      .skip))
    (.reg false [⟨some 21, (Op.move (Operand.tmp 3)), none⟩,
      ⟨some 22, (Op.move (Operand.tmp 5)), none⟩,
      ⟨some 23, (Op.binOp BinOp.mul 3 (Operand.tmp 21) (Operand.tmp 22) 3), none⟩,
      ⟨some 3, (Op.assign (Operand.tmp 23)), none⟩]))))
    (.reg false [⟨some 24, (Op.binOp BinOp.add 3 (Operand.tmp 11) (Operand.const (Value.int IntKind.i64 1)) 3), none⟩,
      ⟨some 11, (Op.move (Operand.tmp 24)), none⟩])))))))
  (.seq (.reg false [⟨some 25, (Op.move (Operand.tmp 3)), none⟩,
    ⟨some 26, (Op.binOp BinOp.leq 3 (Operand.tmp 25) (Operand.const (Value.int IntKind.i64 4096)) 3), none⟩,
    ⟨some 2, (Op.assign (Operand.tmp 26)), none⟩])
  .ret)))))
noncomputable def b90 : Code := Try.f90.body.getD .skip
theorem hb90 : Try.f90.body = some b90 := by kernel_rfl
theorem sh90 : shortC A90 b90 = c90 := by kernel_rfl
theorem ok90 : (okSlots Try.f90.ntmps b90 && okRecs A90 b90) = true := by kernel_rfl
def rs90 : List ResultVar := [(ResultVar.tmp 2)]
theorem hr90 : Try.f90.results.toList = rs90 := by kernel_rfl
/-! slices.Index[[]int,int] (2 parameters; calls none) -/
def A157 : Ann := { live := fun i => if i = 2 then [0, 1, 7, 8] else [], drop := fun i => false }
noncomputable def c157 : Cc :=
  (.seq (.reg false [⟨some 4, (Op.assign (Operand.const (Value.int IntKind.i64 0))), none⟩])
  (.seq (.seq (.reg false [⟨some 6, (Op.move (Operand.tmp 0)), none⟩,
    ⟨some 7, (Op.call { callee := (Callee.builtin Builtin.len), args := #[(Operand.tmp 6)], argTypes := #[22] }), none⟩,
    ⟨some 8, (Op.move (Operand.const (Value.int IntKind.i64 0))), none⟩])
  (.block 0 (.loop [0, 1, 7, 8] false
    (.seq (.reg false [⟨some 9, (Op.binOp BinOp.lss 3 (Operand.tmp 8) (Operand.tmp 7) 3), none⟩])
    (.seq (.cond (Operand.tmp 9)
      .skip
      (.exit 0))
    (.seq (.block 1 (.seq (.reg false [⟨some 10, (Op.move (Operand.tmp 8)), none⟩,
      ⟨some 5, (Op.assign (Operand.tmp 10)), none⟩])
    (.seq (.reg false [⟨some 11, (Op.move (Operand.tmp 1)), none⟩,
      ⟨some 12, (Op.move (Operand.tmp 0)), none⟩,
      ⟨some 13, (Op.move (Operand.tmp 5)), none⟩,
      ⟨some 14, (Op.indexAddr 22 (Operand.tmp 12) (Operand.tmp 13)), none⟩,
      ⟨some 15, (Op.load 3 (Operand.tmp 14)), none⟩,
      ⟨some 16, (Op.binOp BinOp.eql 3 (Operand.tmp 11) (Operand.tmp 15) 3), none⟩])
    (.cond (Operand.tmp 16)
      (.seq (.reg false [⟨some 17, (Op.move (Operand.tmp 5)), none⟩,
        ⟨some 4, (Op.assign (Operand.tmp 17)), none⟩])
      .ret)
      .skip))))
    (.reg false [⟨some 18, (Op.binOp BinOp.add 3 (Operand.tmp 8) (Operand.const (Value.int IntKind.i64 1)) 3), none⟩,
      ⟨some 8, (Op.move (Operand.tmp 18)), none⟩])))))))
  (.seq (.reg false [⟨some 4, (Op.assign (Operand.const (Value.int IntKind.i64 (-1)))), none⟩])
  .ret)))
noncomputable def b157 : Code := Try.f157.body.getD .skip
theorem hb157 : Try.f157.body = some b157 := by kernel_rfl
theorem sh157 : shortC A157 b157 = c157 := by kernel_rfl
theorem ok157 : (okSlots Try.f157.ntmps b157 && okRecs A157 b157) = true := by kernel_rfl
def rs157 : List ResultVar := [(ResultVar.tmp 4)]
theorem hr157 : Try.f157.results.toList = rs157 := by kernel_rfl
/-! slices.Contains[[]int,int] (2 parameters; calls 157 slices.Index[[]int,int]) -/
def A125 : Ann := { drop := fun i => false }
noncomputable def c125 : Cc :=
  (.seq (.reg false [⟨some 4, (Op.assign (Operand.const (Value.bool false))), none⟩])
  (.seq (.reg false [⟨some 5, (Op.move (Operand.tmp 0)), none⟩,
    ⟨some 6, (Op.move (Operand.tmp 1)), none⟩,
    ⟨some 7, (Op.call { callee := (Callee.value (Operand.func 157)), args := #[(Operand.tmp 5), (Operand.tmp 6)], argTypes := #[22, 3] }), none⟩,
    ⟨some 8, (Op.binOp BinOp.geq 3 (Operand.tmp 7) (Operand.const (Value.int IntKind.i64 0)) 3), none⟩,
    ⟨some 4, (Op.assign (Operand.tmp 8)), none⟩])
  .ret))
noncomputable def b125 : Code := Try.f125.body.getD .skip
theorem hb125 : Try.f125.body = some b125 := by kernel_rfl
theorem sh125 : shortC A125 b125 = c125 := by kernel_rfl
theorem ok125 : (okSlots Try.f125.ntmps b125 && okRecs A125 b125) = true := by kernel_rfl
def rs125 : List ResultVar := [(ResultVar.tmp 4)]
theorem hr125 : Try.f125.results.toList = rs125 := by kernel_rfl
/-! parquetry/spec.Right (3 parameters; calls 89 parquetry/mesh.Right, 125 slices.Contains[[]int,int]) -/
def A63 : Ann := { live := fun i => if i = 4 then [0, 1, 18, 19, 20] else [], drop := fun i => false }
noncomputable def c63 : Cc :=
  (.seq (.reg false [⟨some 6, (Op.assign (Operand.const (Value.bool false))), none⟩])
  (.seq (.seq (.reg false [⟨some 9, (Op.move (Operand.tmp 0)), none⟩,
    ⟨some 10, (Op.call { callee := (Callee.value (Operand.func 89)), args := #[(Operand.tmp 9)], argTypes := #[22] }), none⟩,
    ⟨some 11, (Op.unOp UnOp.not 4 (Operand.tmp 10)), none⟩,
    ⟨some 12, (Op.move (Operand.tmp 11)), none⟩,
    ⟨some 13, (Op.move (Operand.tmp 1)), some (12, false)⟩,
    ⟨some 14, (Op.call { callee := (Callee.builtin Builtin.len), args := #[(Operand.tmp 13)], argTypes := #[22] }), some (12, false)⟩,
    ⟨some 15, (Op.move (Operand.tmp 2)), some (12, false)⟩,
    ⟨some 16, (Op.binOp BinOp.neq 3 (Operand.tmp 14) (Operand.tmp 15) 3), some (12, false)⟩,
    ⟨some 17, (Op.pick (Operand.tmp 12) (Operand.const (Value.bool true)) (Operand.tmp 16)), none⟩])
  (.cond (Operand.tmp 17)
    (.seq (.reg false [⟨some 6, (Op.assign (Operand.const (Value.bool false))), none⟩])
    .ret)
    .skip))
  (.seq (.seq (.reg false [⟨some 18, (Op.move (Operand.tmp 1)), none⟩,
    ⟨some 19, (Op.call { callee := (Callee.builtin Builtin.len), args := #[(Operand.tmp 18)], argTypes := #[22] }), none⟩,
    ⟨some 20, (Op.move (Operand.const (Value.int IntKind.i64 0))), none⟩])
  (.block 0 (.loop [0, 1, 18, 19, 20] false
    (.seq (.reg false [⟨some 21, (Op.binOp BinOp.lss 3 (Operand.tmp 20) (Operand.tmp 19) 3), none⟩])
    (.seq (.cond (Operand.tmp 21)
      .skip
      (.exit 0))
    (.seq (.block 1 (.seq (.reg false [⟨some 22, (Op.move (Operand.tmp 20)), none⟩,
      ⟨some 23, (Op.indexAddr 22 (Operand.tmp 18) (Operand.tmp 20)), none⟩,
      ⟨some 24, (Op.load 3 (Operand.tmp 23)), none⟩,
      ⟨some 7, (Op.assign (Operand.tmp 22)), none⟩,
      ⟨some 8, (Op.assign (Operand.tmp 24)), none⟩])
    (.seq (.reg false [⟨some 25, (Op.move (Operand.tmp 8)), none⟩,
      ⟨some 26, (Op.binOp BinOp.lss 3 (Operand.tmp 25) (Operand.const (Value.int IntKind.i64 (-1))) 3), none⟩,
      ⟨some 27, (Op.move (Operand.tmp 26)), none⟩,
      ⟨some 28, (Op.move (Operand.tmp 8)), some (27, false)⟩,
      ⟨some 29, (Op.move (Operand.tmp 0)), some (27, false)⟩,
      ⟨some 30, (Op.call { callee := (Callee.builtin Builtin.len), args := #[(Operand.tmp 29)], argTypes := #[22] }), some (27, false)⟩,
      ⟨some 31, (Op.binOp BinOp.geq 3 (Operand.tmp 28) (Operand.tmp 30) 3), some (27, false)⟩,
      ⟨some 32, (Op.pick (Operand.tmp 27) (Operand.const (Value.bool true)) (Operand.tmp 31)), none⟩,
      ⟨some 33, (Op.move (Operand.tmp 32)), none⟩,
      ⟨some 34, (Op.move (Operand.tmp 8)), some (33, false)⟩,
      ⟨some 35, (Op.binOp BinOp.neq 3 (Operand.tmp 34) (Operand.const (Value.int IntKind.i64 (-1))) 3), some (33, false)⟩,
      ⟨some 36, (Op.move (Operand.tmp 35)), some (33, false)⟩,
      ⟨some 37, (Op.move (Operand.tmp 1)), some (36, true)⟩,
      ⟨some 38, (Op.move (Operand.tmp 7)), some (36, true)⟩,
      ⟨some 39, (Op.slice 22 (Operand.tmp 37) none (some (Operand.tmp 38)) none), some (36, true)⟩,
      ⟨some 40, (Op.move (Operand.tmp 8)), some (36, true)⟩,
      ⟨some 41, (Op.call { callee := (Callee.value (Operand.func 125)), args := #[(Operand.tmp 39), (Operand.tmp 40)], argTypes := #[22, 3] }), some (36, true)⟩,
      ⟨some 42, (Op.pick (Operand.tmp 36) (Operand.tmp 41) (Operand.const (Value.bool false))), some (33, false)⟩,
      ⟨some 43, (Op.pick (Operand.tmp 33) (Operand.const (Value.bool true)) (Operand.tmp 42)), none⟩])
    (.cond (Operand.tmp 43)
      (.seq (.reg false [⟨some 6, (Op.assign (Operand.const (Value.bool false))), none⟩])
      .ret)
      .skip))))
    (.reg false [⟨some 44, (Op.binOp BinOp.add 3 (Operand.tmp 20) (Operand.const (Value.int IntKind.i64 1)) 3), none⟩,
      ⟨some 20, (Op.move (Operand.tmp 44)), none⟩])))))))
  (.seq (.reg false [⟨some 6, (Op.assign (Operand.const (Value.bool true))), none⟩])
  .ret))))
noncomputable def b63 : Code := Try.f63.body.getD .skip
theorem hb63 : Try.f63.body = some b63 := by kernel_rfl
theorem sh63 : shortC A63 b63 = c63 := by kernel_rfl
theorem ok63 : (okSlots Try.f63.ntmps b63 && okRecs A63 b63) = true := by kernel_rfl
def rs63 : List ResultVar := [(ResultVar.tmp 6)]
theorem hr63 : Try.f63.results.toList = rs63 := by kernel_rfl
/-! parquetry/parquetryref14.Right (1 parameters; calls none) -/
def A56 : Ann := { live := fun i => if i = 3 then [0, 3, 6, 7] else [], drop := fun i => false }
noncomputable def c56 : Cc :=
  (.seq (.reg false [⟨some 2, (Op.assign (Operand.const (Value.bool false))), none⟩])
  (.seq (.reg false [⟨some 3, (Op.assign (Operand.const (Value.int IntKind.i64 1))), none⟩])
  (.seq (.seq (.reg false [⟨some 5, (Op.move (Operand.tmp 0)), none⟩,
    ⟨some 6, (Op.call { callee := (Callee.builtin Builtin.len), args := #[(Operand.tmp 5)], argTypes := #[22] }), none⟩,
    ⟨some 7, (Op.move (Operand.const (Value.int IntKind.i64 0))), none⟩])
  (.block 0 (.loop [0, 3, 6, 7] false
    (.seq (.reg false [⟨some 8, (Op.binOp BinOp.lss 3 (Operand.tmp 7) (Operand.tmp 6) 3), none⟩])
    (.seq (.cond (Operand.tmp 8)
      .skip
      (.exit 0))
    (.seq (.block 1 (.seq (.reg false [⟨some 9, (Op.move (Operand.tmp 7)), none⟩,
      ⟨some 4, (Op.assign (Operand.tmp 9)), none⟩])
    (.seq (.seq (.reg false [⟨some 10, (Op.move (Operand.tmp 4)), none⟩,
      ⟨some 11, (Op.binOp BinOp.geq 3 (Operand.tmp 10) (Operand.const (Value.int IntKind.i64 3)) 3), none⟩,
      ⟨some 12, (Op.move (Operand.tmp 11)), none⟩,
      ⟨some 13, (Op.move (Operand.tmp 0)), some (12, false)⟩,
      ⟨some 14, (Op.move (Operand.tmp 4)), some (12, false)⟩,
      ⟨some 15, (Op.indexAddr 22 (Operand.tmp 13) (Operand.tmp 14)), some (12, false)⟩,
      ⟨some 16, (Op.load 3 (Operand.tmp 15)), some (12, false)⟩,
      ⟨some 17, (Op.binOp BinOp.lss 3 (Operand.tmp 16) (Operand.const (Value.int IntKind.i64 1)) 3), some (12, false)⟩,
      ⟨some 18, (Op.pick (Operand.tmp 12) (Operand.const (Value.bool true)) (Operand.tmp 17)), none⟩,
      ⟨some 19, (Op.move (Operand.tmp 18)), none⟩,
      ⟨some 20, (Op.move (Operand.tmp 0)), some (19, false)⟩,
      ⟨some 21, (Op.move (Operand.tmp 4)), some (19, false)⟩,
      ⟨some 22, (Op.indexAddr 22 (Operand.tmp 20) (Operand.tmp 21)), some (19, false)⟩,
      ⟨some 23, (Op.load 3 (Operand.tmp 22)), some (19, false)⟩,
      ⟨some 24, (Op.binOp BinOp.gtr 3 (Operand.tmp 23) (Operand.const (Value.int IntKind.i64 8)) 3), some (19, false)⟩,
      ⟨some 25, (Op.pick (Operand.tmp 19) (Operand.const (Value.bool true)) (Operand.tmp 24)), none⟩])
    (.cond (Operand.tmp 25)
      (.seq (.reg false [⟨some 2, (Op.assign (Operand.const (Value.bool false))), none⟩])
      .ret)
      .skip))
    (.reg false [⟨some 26, (Op.move (Operand.tmp 3)), none⟩,
      ⟨some 27, (Op.move (Operand.tmp 0)), none⟩,
      ⟨some 28, (Op.move (Operand.tmp 4)), none⟩,
      ⟨some 29, (Op.indexAddr 22 (Operand.tmp 27) (Operand.tmp 28)), none⟩,
      ⟨some 30, (Op.load 3 (Operand.tmp 29)), none⟩,
      ⟨some 31, (Op.binOp BinOp.mul 3 (Operand.tmp 26) (Operand.tmp 30) 3), none⟩,
      ⟨some 3, (Op.assign (Operand.tmp 31)), none⟩]))))
    (.reg false [⟨some 32, (Op.binOp BinOp.add 3 (Operand.tmp 7) (Operand.const (Value.int IntKind.i64 1)) 3), none⟩,
      ⟨some 7, (Op.move (Operand.tmp 32)), none⟩])))))))
  (.seq (.reg false [⟨some 33, (Op.move (Operand.tmp 3)), none⟩,
    ⟨some 34, (Op.binOp BinOp.leq 3 (Operand.tmp 33) (Operand.const (Value.int IntKind.i64 8)) 3), none⟩,
    ⟨some 2, (Op.assign (Operand.tmp 34)), none⟩])
  .ret))))
noncomputable def b56 : Code := Try.f56.body.getD .skip
theorem hb56 : Try.f56.body = some b56 := by kernel_rfl
theorem sh56 : shortC A56 b56 = c56 := by kernel_rfl
theorem ok56 : (okSlots Try.f56.ntmps b56 && okRecs A56 b56) = true := by kernel_rfl
def rs56 : List ResultVar := [(ResultVar.tmp 2)]
theorem hr56 : Try.f56.results.toList = rs56 := by kernel_rfl
/-! parquetry/parquetryref14.Devices (1 parameters; calls 56 parquetry/parquetryref14.Right) -/
def A20 : Ann := { live := fun i => if i = 5 then [0, 3, 9, 10] else [], drop := fun i => false }
noncomputable def c20 : Cc :=
  (.seq (.reg false [⟨some 2, (Op.assign (Operand.const (Value.int IntKind.i64 0))), none⟩])
  (.seq (.seq (.reg false [⟨some 5, (Op.move (Operand.tmp 0)), none⟩,
    ⟨some 6, (Op.call { callee := (Callee.value (Operand.func 56)), args := #[(Operand.tmp 5)], argTypes := #[22] }), none⟩,
    ⟨some 7, (Op.unOp UnOp.not 4 (Operand.tmp 6)), none⟩])
  (.cond (Operand.tmp 7)
    (.seq (.reg false [⟨some 2, (Op.assign (Operand.const (Value.int IntKind.i64 0))), none⟩])
    .ret)
    .skip))
  (.seq (.reg false [⟨some 3, (Op.assign (Operand.const (Value.int IntKind.i64 1))), none⟩])
  (.seq (.seq (.reg false [⟨some 8, (Op.move (Operand.tmp 0)), none⟩,
    ⟨some 9, (Op.call { callee := (Callee.builtin Builtin.len), args := #[(Operand.tmp 8)], argTypes := #[22] }), none⟩,
    ⟨some 10, (Op.move (Operand.const (Value.int IntKind.i64 0))), none⟩])
  (.block 0 (.loop [0, 3, 9, 10] false
    (.seq (.reg false [⟨some 11, (Op.binOp BinOp.lss 3 (Operand.tmp 10) (Operand.tmp 9) 3), none⟩])
    (.seq (.cond (Operand.tmp 11)
      .skip
      (.exit 0))
    (.seq (.block 1 (.seq (.reg false [⟨some 12, (Op.move (Operand.tmp 10)), none⟩,
      ⟨some 4, (Op.assign (Operand.tmp 12)), none⟩])
    (.reg false [⟨some 13, (Op.move (Operand.tmp 3)), none⟩,
      ⟨some 14, (Op.move (Operand.tmp 0)), none⟩,
      ⟨some 15, (Op.move (Operand.tmp 4)), none⟩,
      ⟨some 16, (Op.indexAddr 22 (Operand.tmp 14) (Operand.tmp 15)), none⟩,
      ⟨some 17, (Op.load 3 (Operand.tmp 16)), none⟩,
      ⟨some 18, (Op.binOp BinOp.mul 3 (Operand.tmp 13) (Operand.tmp 17) 3), none⟩,
      ⟨some 3, (Op.assign (Operand.tmp 18)), none⟩])))
    (.reg false [⟨some 19, (Op.binOp BinOp.add 3 (Operand.tmp 10) (Operand.const (Value.int IntKind.i64 1)) 3), none⟩,
      ⟨some 10, (Op.move (Operand.tmp 19)), none⟩])))))))
  (.seq (.reg false [⟨some 20, (Op.move (Operand.tmp 3)), none⟩,
    ⟨some 2, (Op.assign (Operand.tmp 20)), none⟩])
  .ret)))))
noncomputable def b20 : Code := Try.f20.body.getD .skip
theorem hb20 : Try.f20.body = some b20 := by kernel_rfl
theorem sh20 : shortC A20 b20 = c20 := by kernel_rfl
theorem ok20 : (okSlots Try.f20.ntmps b20 && okRecs A20 b20) = true := by kernel_rfl
def rs20 : List ResultVar := [(ResultVar.tmp 2)]
theorem hr20 : Try.f20.results.toList = rs20 := by kernel_rfl
/-! parquetry/parquetryref14.Spec (3 parameters; calls 56 parquetry/parquetryref14.Right) -/
def A58 : Ann := { live := fun i => if i = 4 then [0, 1, 19, 20] else if i = 9 then [0, 1, 7, 8, 19, 20] else [], drop := fun i => false }
noncomputable def c58 : Cc :=
  (.seq (.reg false [⟨some 6, (Op.assign (Operand.const (Value.bool false))), none⟩])
  (.seq (.seq (.reg false [⟨some 9, (Op.move (Operand.tmp 0)), none⟩,
    ⟨some 10, (Op.call { callee := (Callee.value (Operand.func 56)), args := #[(Operand.tmp 9)], argTypes := #[22] }), none⟩,
    ⟨some 11, (Op.unOp UnOp.not 4 (Operand.tmp 10)), none⟩,
    ⟨some 12, (Op.move (Operand.tmp 11)), none⟩,
    ⟨some 13, (Op.move (Operand.tmp 1)), some (12, false)⟩,
    ⟨some 14, (Op.call { callee := (Callee.builtin Builtin.len), args := #[(Operand.tmp 13)], argTypes := #[22] }), some (12, false)⟩,
    ⟨some 15, (Op.move (Operand.tmp 2)), some (12, false)⟩,
    ⟨some 16, (Op.binOp BinOp.neq 3 (Operand.tmp 14) (Operand.tmp 15) 3), some (12, false)⟩,
    ⟨some 17, (Op.pick (Operand.tmp 12) (Operand.const (Value.bool true)) (Operand.tmp 16)), none⟩])
  (.cond (Operand.tmp 17)
    (.seq (.reg false [⟨some 6, (Op.assign (Operand.const (Value.bool false))), none⟩])
    .ret)
    .skip))
  (.seq (.seq (.reg false [⟨some 18, (Op.move (Operand.tmp 1)), none⟩,
    ⟨some 19, (Op.call { callee := (Callee.builtin Builtin.len), args := #[(Operand.tmp 18)], argTypes := #[22] }), none⟩,
    ⟨some 20, (Op.move (Operand.const (Value.int IntKind.i64 0))), none⟩])
  (.block 0 (.loop [0, 1, 19, 20] false
    (.seq (.reg false [⟨some 21, (Op.binOp BinOp.lss 3 (Operand.tmp 20) (Operand.tmp 19) 3), none⟩])
    (.seq (.cond (Operand.tmp 21)
      .skip
      (.exit 0))
    (.seq (.block 1 (.seq (.reg false [⟨some 22, (Op.move (Operand.tmp 20)), none⟩,
      ⟨some 7, (Op.assign (Operand.tmp 22)), none⟩])
    (.seq (.seq (.reg false [⟨some 23, (Op.move (Operand.tmp 1)), none⟩,
      ⟨some 24, (Op.move (Operand.tmp 7)), none⟩,
      ⟨some 25, (Op.indexAddr 22 (Operand.tmp 23) (Operand.tmp 24)), none⟩,
      ⟨some 26, (Op.load 3 (Operand.tmp 25)), none⟩,
      ⟨some 27, (Op.binOp BinOp.lss 3 (Operand.tmp 26) (Operand.const (Value.int IntKind.i64 (-1))) 3), none⟩,
      ⟨some 28, (Op.move (Operand.tmp 27)), none⟩,
      ⟨some 29, (Op.move (Operand.tmp 1)), some (28, false)⟩,
      ⟨some 30, (Op.move (Operand.tmp 7)), some (28, false)⟩,
      ⟨some 31, (Op.indexAddr 22 (Operand.tmp 29) (Operand.tmp 30)), some (28, false)⟩,
      ⟨some 32, (Op.load 3 (Operand.tmp 31)), some (28, false)⟩,
      ⟨some 33, (Op.move (Operand.tmp 0)), some (28, false)⟩,
      ⟨some 34, (Op.call { callee := (Callee.builtin Builtin.len), args := #[(Operand.tmp 33)], argTypes := #[22] }), some (28, false)⟩,
      ⟨some 35, (Op.binOp BinOp.geq 3 (Operand.tmp 32) (Operand.tmp 34) 3), some (28, false)⟩,
      ⟨some 36, (Op.pick (Operand.tmp 28) (Operand.const (Value.bool true)) (Operand.tmp 35)), none⟩])
    (.cond (Operand.tmp 36)
      (.seq (.reg false [⟨some 6, (Op.assign (Operand.const (Value.bool false))), none⟩])
      .ret)
      .skip))
    (.seq (.reg false [⟨some 8, (Op.assign (Operand.const (Value.int IntKind.i64 0))), none⟩])
    (.block 2 (.loop [0, 1, 7, 8, 19, 20] false
      (.seq (.seq (.reg false [⟨some 37, (Op.move (Operand.tmp 8)), none⟩,
        ⟨some 38, (Op.move (Operand.tmp 7)), none⟩,
        ⟨some 39, (Op.binOp BinOp.lss 3 (Operand.tmp 37) (Operand.tmp 38) 3), none⟩,
        ⟨some 40, (Op.move (Operand.tmp 39)), none⟩,
        ⟨some 41, (Op.move (Operand.tmp 1)), some (40, true)⟩,
        ⟨some 42, (Op.move (Operand.tmp 7)), some (40, true)⟩,
        ⟨some 43, (Op.indexAddr 22 (Operand.tmp 41) (Operand.tmp 42)), some (40, true)⟩,
        ⟨some 44, (Op.load 3 (Operand.tmp 43)), some (40, true)⟩,
        ⟨some 45, (Op.binOp BinOp.geq 3 (Operand.tmp 44) (Operand.const (Value.int IntKind.i64 0)) 3), some (40, true)⟩,
        ⟨some 46, (Op.pick (Operand.tmp 40) (Operand.tmp 45) (Operand.const (Value.bool false))), none⟩])
      (.cond (Operand.tmp 46)
        .skip
        (.exit 2)))
      (.seq (.block 3 (.seq (.reg false [⟨some 49, (Op.move (Operand.tmp 1)), none⟩,
        ⟨some 50, (Op.move (Operand.tmp 8)), none⟩,
        ⟨some 51, (Op.indexAddr 22 (Operand.tmp 49) (Operand.tmp 50)), none⟩,
        ⟨some 52, (Op.load 3 (Operand.tmp 51)), none⟩,
        ⟨some 53, (Op.move (Operand.tmp 1)), none⟩,
        ⟨some 54, (Op.move (Operand.tmp 7)), none⟩,
        ⟨some 55, (Op.indexAddr 22 (Operand.tmp 53) (Operand.tmp 54)), none⟩,
        ⟨some 56, (Op.load 3 (Operand.tmp 55)), none⟩,
        ⟨some 57, (Op.binOp BinOp.eql 3 (Operand.tmp 52) (Operand.tmp 56) 3), none⟩])
      (.cond (Operand.tmp 57)
        (.seq (.reg false [⟨some 6, (Op.assign (Operand.const (Value.bool false))), none⟩])
        .ret)
        .skip)))
      (.reg false [⟨some 47, (Op.move (Operand.tmp 8)), none⟩,
        ⟨some 48, (Op.binOp BinOp.add 3 (Operand.tmp 47) (Operand.const (Value.int IntKind.i64 1)) 3), none⟩,
        ⟨some 8, (Op.assign (Operand.tmp 48)), none⟩])))))))))
    (.reg false [⟨some 58, (Op.binOp BinOp.add 3 (Operand.tmp 20) (Operand.const (Value.int IntKind.i64 1)) 3), none⟩,
      ⟨some 20, (Op.move (Operand.tmp 58)), none⟩])))))))
  (.seq (.reg false [⟨some 6, (Op.assign (Operand.const (Value.bool true))), none⟩])
  .ret))))
noncomputable def b58 : Code := Try.f58.body.getD .skip
theorem hb58 : Try.f58.body = some b58 := by kernel_rfl
theorem sh58 : shortC A58 b58 = c58 := by kernel_rfl
theorem ok58 : (okSlots Try.f58.ntmps b58 && okRecs A58 b58) = true := by kernel_rfl
def rs58 : List ResultVar := [(ResultVar.tmp 6)]
theorem hr58 : Try.f58.results.toList = rs58 := by kernel_rfl
/-! parquetry/parquetryref14.Parts (2 parameters; calls 56 parquetry/parquetryref14.Right, 58 parquetry/parquetryref14.Spec) -/
def A59 : Ann := { live := fun i => if i = 5 then [0, 1, 5, 20, 21] else [], drop := fun i => false }
noncomputable def c59 : Cc :=
  (.seq (.reg false [⟨some 4, (Op.assign (Operand.const (Value.slice none 0 0))), none⟩])
  (.seq (.seq (.reg false [⟨some 8, (Op.move (Operand.tmp 0)), none⟩,
    ⟨some 9, (Op.call { callee := (Callee.value (Operand.func 56)), args := #[(Operand.tmp 8)], argTypes := #[22] }), none⟩,
    ⟨some 10, (Op.unOp UnOp.not 4 (Operand.tmp 9)), none⟩,
    ⟨some 11, (Op.move (Operand.tmp 10)), none⟩,
    ⟨some 12, (Op.move (Operand.tmp 0)), some (11, false)⟩,
    ⟨some 13, (Op.move (Operand.tmp 1)), some (11, false)⟩,
    ⟨some 14, (Op.move (Operand.tmp 1)), some (11, false)⟩,
    ⟨some 15, (Op.call { callee := (Callee.builtin Builtin.len), args := #[(Operand.tmp 14)], argTypes := #[22] }), some (11, false)⟩,
    ⟨some 16, (Op.call { callee := (Callee.value (Operand.func 58)), args := #[(Operand.tmp 12), (Operand.tmp 13), (Operand.tmp 15)], argTypes := #[22, 22, 3] }), some (11, false)⟩,
    ⟨some 17, (Op.unOp UnOp.not 4 (Operand.tmp 16)), some (11, false)⟩,
    ⟨some 18, (Op.pick (Operand.tmp 11) (Operand.const (Value.bool true)) (Operand.tmp 17)), none⟩])
  (.cond (Operand.tmp 18)
    (.seq (.reg false [⟨some 4, (Op.assign (Operand.const (Value.slice none 0 0))), none⟩])
    .ret)
    .skip))
  (.seq (.reg false [⟨some 5, (Op.assign (Operand.const (Value.slice none 0 0))), none⟩])
  (.seq (.seq (.reg false [⟨some 19, (Op.move (Operand.tmp 1)), none⟩,
    ⟨some 20, (Op.call { callee := (Callee.builtin Builtin.len), args := #[(Operand.tmp 19)], argTypes := #[22] }), none⟩,
    ⟨some 21, (Op.move (Operand.const (Value.int IntKind.i64 0))), none⟩])
  (.block 0 (.loop [0, 1, 5, 20, 21] false
    (.seq (.reg false [⟨some 22, (Op.binOp BinOp.lss 3 (Operand.tmp 21) (Operand.tmp 20) 3), none⟩])
    (.seq (.cond (Operand.tmp 22)
      .skip
      (.exit 0))
    (.seq (.block 1 (.seq (.reg false [⟨some 23, (Op.move (Operand.tmp 21)), none⟩,
      ⟨some 6, (Op.assign (Operand.tmp 23)), none⟩])
    (.seq (.reg false [⟨some 7, (Op.assign (Operand.const (Value.int IntKind.i64 1))), none⟩])
    (.seq (.seq (.reg false [⟨some 24, (Op.move (Operand.tmp 1)), none⟩,
      ⟨some 25, (Op.move (Operand.tmp 6)), none⟩,
      ⟨some 26, (Op.indexAddr 22 (Operand.tmp 24) (Operand.tmp 25)), none⟩,
      ⟨some 27, (Op.load 3 (Operand.tmp 26)), none⟩,
      ⟨some 28, (Op.binOp BinOp.geq 3 (Operand.tmp 27) (Operand.const (Value.int IntKind.i64 0)) 3), none⟩])
    (.cond (Operand.tmp 28)
      (.reg false [⟨some 29, (Op.move (Operand.tmp 0)), none⟩,
        ⟨some 30, (Op.move (Operand.tmp 1)), none⟩,
        ⟨some 31, (Op.move (Operand.tmp 6)), none⟩,
        ⟨some 32, (Op.indexAddr 22 (Operand.tmp 30) (Operand.tmp 31)), none⟩,
        ⟨some 33, (Op.load 3 (Operand.tmp 32)), none⟩,
        ⟨some 34, (Op.indexAddr 22 (Operand.tmp 29) (Operand.tmp 33)), none⟩,
        ⟨some 35, (Op.load 3 (Operand.tmp 34)), none⟩,
        ⟨some 7, (Op.assign (Operand.tmp 35)), none⟩])
      .skip))
    (.reg false [⟨some 36, (Op.move (Operand.tmp 5)), none⟩,
      ⟨some 37, (Op.move (Operand.tmp 7)), none⟩,
      ⟨some 38, (Op.buildSlice 22 1 #[(0, (Operand.tmp 37))]), none⟩,
      ⟨some 39, (Op.call { callee := (Callee.builtin Builtin.append), args := #[(Operand.tmp 36), (Operand.tmp 38)], argTypes := #[22, 22] }), none⟩,
      ⟨some 5, (Op.assign (Operand.tmp 39)), none⟩])))))
    (.reg false [⟨some 40, (Op.binOp BinOp.add 3 (Operand.tmp 21) (Operand.const (Value.int IntKind.i64 1)) 3), none⟩,
      ⟨some 21, (Op.move (Operand.tmp 40)), none⟩])))))))
  (.seq (.reg false [⟨some 41, (Op.move (Operand.tmp 5)), none⟩,
    ⟨some 4, (Op.assign (Operand.tmp 41)), none⟩])
  .ret)))))
noncomputable def b59 : Code := Try.f59.body.getD .skip
theorem hb59 : Try.f59.body = some b59 := by kernel_rfl
theorem sh59 : shortC A59 b59 = c59 := by kernel_rfl
theorem ok59 : (okSlots Try.f59.ntmps b59 && okRecs A59 b59) = true := by kernel_rfl
def rs59 : List ResultVar := [(ResultVar.tmp 4)]
theorem hr59 : Try.f59.results.toList = rs59 := by kernel_rfl
/-! parquetry/parquetryref14.Copies (2 parameters; calls 20 parquetry/parquetryref14.Devices, 56 parquetry/parquetryref14.Right, 58 parquetry/parquetryref14.Spec, 59 parquetry/parquetryref14.Parts) -/
def A23 : Ann := { live := fun i => if i = 5 then [5, 23, 24, 25] else [], drop := fun i => false }
noncomputable def c23 : Cc :=
  (.seq (.reg false [⟨some 4, (Op.assign (Operand.const (Value.int IntKind.i64 0))), none⟩])
  (.seq (.seq (.reg false [⟨some 8, (Op.move (Operand.tmp 0)), none⟩,
    ⟨some 9, (Op.call { callee := (Callee.value (Operand.func 56)), args := #[(Operand.tmp 8)], argTypes := #[22] }), none⟩,
    ⟨some 10, (Op.unOp UnOp.not 4 (Operand.tmp 9)), none⟩,
    ⟨some 11, (Op.move (Operand.tmp 10)), none⟩,
    ⟨some 12, (Op.move (Operand.tmp 0)), some (11, false)⟩,
    ⟨some 13, (Op.move (Operand.tmp 1)), some (11, false)⟩,
    ⟨some 14, (Op.move (Operand.tmp 1)), some (11, false)⟩,
    ⟨some 15, (Op.call { callee := (Callee.builtin Builtin.len), args := #[(Operand.tmp 14)], argTypes := #[22] }), some (11, false)⟩,
    ⟨some 16, (Op.call { callee := (Callee.value (Operand.func 58)), args := #[(Operand.tmp 12), (Operand.tmp 13), (Operand.tmp 15)], argTypes := #[22, 22, 3] }), some (11, false)⟩,
    ⟨some 17, (Op.unOp UnOp.not 4 (Operand.tmp 16)), some (11, false)⟩,
    ⟨some 18, (Op.pick (Operand.tmp 11) (Operand.const (Value.bool true)) (Operand.tmp 17)), none⟩])
  (.cond (Operand.tmp 18)
    (.seq (.reg false [⟨some 4, (Op.assign (Operand.const (Value.int IntKind.i64 0))), none⟩])
    .ret)
    .skip))
  (.seq (.reg false [⟨some 19, (Op.move (Operand.tmp 0)), none⟩,
    ⟨some 20, (Op.call { callee := (Callee.value (Operand.func 20)), args := #[(Operand.tmp 19)], argTypes := #[22] }), none⟩,
    ⟨some 5, (Op.assign (Operand.tmp 20)), none⟩])
  (.seq (.seq (.reg false [⟨some 21, (Op.move (Operand.tmp 0)), none⟩,
    ⟨some 22, (Op.move (Operand.tmp 1)), none⟩,
    ⟨some 23, (Op.call { callee := (Callee.value (Operand.func 59)), args := #[(Operand.tmp 21), (Operand.tmp 22)], argTypes := #[22, 22] }), none⟩,
    ⟨some 24, (Op.call { callee := (Callee.builtin Builtin.len), args := #[(Operand.tmp 23)], argTypes := #[22] }), none⟩,
    ⟨some 25, (Op.move (Operand.const (Value.int IntKind.i64 0))), none⟩])
  (.block 0 (.loop [5, 23, 24, 25] false
    (.seq (.reg false [⟨some 26, (Op.binOp BinOp.lss 3 (Operand.tmp 25) (Operand.tmp 24) 3), none⟩])
    (.seq (.cond (Operand.tmp 26)
      .skip
      (.exit 0))
    (.seq (.block 1 (.seq (.reg false [⟨some 27, (Op.indexAddr 22 (Operand.tmp 23) (Operand.tmp 25)), none⟩,
      ⟨some 28, (Op.load 3 (Operand.tmp 27)), none⟩,
      ⟨some 7, (Op.assign (Operand.tmp 28)), none⟩])
    (.reg false [⟨some 29, (Op.move (Operand.tmp 5)), none⟩,
      ⟨some 30, (Op.move (Operand.tmp 7)), none⟩,
      ⟨some 31, (Op.binOp BinOp.quo 3 (Operand.tmp 29) (Operand.tmp 30) 3), none⟩,
      ⟨some 5, (Op.assign (Operand.tmp 31)), none⟩])))
    (.reg false [⟨some 32, (Op.binOp BinOp.add 3 (Operand.tmp 25) (Operand.const (Value.int IntKind.i64 1)) 3), none⟩,
      ⟨some 25, (Op.move (Operand.tmp 32)), none⟩])))))))
  (.seq (.reg false [⟨some 33, (Op.move (Operand.tmp 5)), none⟩,
    ⟨some 4, (Op.assign (Operand.tmp 33)), none⟩])
  .ret)))))
noncomputable def b23 : Code := Try.f23.body.getD .skip
theorem hb23 : Try.f23.body = some b23 := by kernel_rfl
theorem sh23 : shortC A23 b23 = c23 := by kernel_rfl
theorem ok23 : (okSlots Try.f23.ntmps b23 && okRecs A23 b23) = true := by kernel_rfl
def rs23 : List ResultVar := [(ResultVar.tmp 4)]
theorem hr23 : Try.f23.results.toList = rs23 := by kernel_rfl
/- Functions in short form. -/
/-! parquetry/parquetrybook.Within (3 parameters; calls none) -/
def A45 : Ann := { drop := fun i => false }
noncomputable def c45 : Cc :=
  (.seq (.reg false [⟨some 6, (Op.assign (Operand.const (Value.int IntKind.i64 0))), none⟩])
  (.seq (.seq (.reg false [⟨some 7, (Op.move (Operand.tmp 0)), none⟩,
    ⟨some 8, (Op.move (Operand.tmp 1)), none⟩,
    ⟨some 9, (Op.binOp BinOp.geq 3 (Operand.tmp 7) (Operand.tmp 8) 3), none⟩,
    ⟨some 10, (Op.move (Operand.tmp 9)), none⟩,
    ⟨some 11, (Op.move (Operand.tmp 0)), some (10, true)⟩,
    ⟨some 12, (Op.move (Operand.tmp 2)), some (10, true)⟩,
    ⟨some 13, (Op.binOp BinOp.leq 3 (Operand.tmp 11) (Operand.tmp 12) 3), some (10, true)⟩,
    ⟨some 14, (Op.pick (Operand.tmp 10) (Operand.tmp 13) (Operand.const (Value.bool false))), none⟩])
  (.cond (Operand.tmp 14)
    (.seq (.reg false [⟨some 15, (Op.move (Operand.tmp 0)), none⟩,
      ⟨some 6, (Op.assign (Operand.tmp 15)), none⟩])
    .ret)
    .skip))
  (.seq (.reg false [⟨some 16, (Op.move (Operand.tmp 0)), none⟩,
    ⟨some 17, (Op.move (Operand.tmp 2)), none⟩,
    ⟨some 18, (Op.move (Operand.tmp 1)), none⟩,
    ⟨some 19, (Op.binOp BinOp.sub 3 (Operand.tmp 17) (Operand.tmp 18) 3), none⟩,
    ⟨some 20, (Op.binOp BinOp.add 3 (Operand.tmp 19) (Operand.const (Value.int IntKind.i64 1)) 3), none⟩,
    ⟨some 21, (Op.binOp BinOp.rem 3 (Operand.tmp 16) (Operand.tmp 20) 3), none⟩,
    ⟨some 0, (Op.assign (Operand.tmp 21)), none⟩])
  (.seq (.seq (.reg false [⟨some 22, (Op.move (Operand.tmp 0)), none⟩,
    ⟨some 23, (Op.binOp BinOp.lss 3 (Operand.tmp 22) (Operand.const (Value.int IntKind.i64 0)) 3), none⟩])
  (.cond (Operand.tmp 23)
    (.reg false [⟨some 24, (Op.move (Operand.tmp 0)), none⟩,
      ⟨some 25, (Op.move (Operand.tmp 2)), none⟩,
      ⟨some 26, (Op.binOp BinOp.add 3 (Operand.tmp 24) (Operand.tmp 25) 3), none⟩,
      ⟨some 27, (Op.move (Operand.tmp 1)), none⟩,
      ⟨some 28, (Op.binOp BinOp.sub 3 (Operand.tmp 26) (Operand.tmp 27) 3), none⟩,
      ⟨some 29, (Op.binOp BinOp.add 3 (Operand.tmp 28) (Operand.const (Value.int IntKind.i64 1)) 3), none⟩,
      ⟨some 0, (Op.assign (Operand.tmp 29)), none⟩])
    .skip))
  (.seq (.reg false [⟨some 30, (Op.move (Operand.tmp 1)), none⟩,
    ⟨some 31, (Op.move (Operand.tmp 0)), none⟩,
    ⟨some 32, (Op.binOp BinOp.add 3 (Operand.tmp 30) (Operand.tmp 31) 3), none⟩,
    ⟨some 6, (Op.assign (Operand.tmp 32)), none⟩])
  .ret)))))
noncomputable def b45 : Code := Try.f45.body.getD .skip
theorem hb45 : Try.f45.body = some b45 := by kernel_rfl
theorem sh45 : shortC A45 b45 = c45 := by kernel_rfl
theorem ok45 : (okSlots Try.f45.ntmps b45 && okRecs A45 b45) = true := by kernel_rfl
def rs45 : List ResultVar := [(ResultVar.tmp 6)]
theorem hr45 : Try.f45.results.toList = rs45 := by kernel_rfl
/-! parquetry/mesh.Right (1 parameters; calls none) -/
def A89 : Ann := { live := fun i => if i = 5 then [3, 9, 10, 11] else [], drop := fun i => false }
noncomputable def c89 : Cc :=
  (.seq (.reg false [⟨some 2, (Op.assign (Operand.const (Value.bool false))), none⟩])
  (.seq (.seq (.reg false [⟨some 6, (Op.move (Operand.tmp 0)), none⟩,
    ⟨some 7, (Op.call { callee := (Callee.builtin Builtin.len), args := #[(Operand.tmp 6)], argTypes := #[22] }), none⟩,
    ⟨some 8, (Op.binOp BinOp.gtr 3 (Operand.tmp 7) (Operand.const (Value.int IntKind.i64 3)) 3), none⟩])
  (.cond (Operand.tmp 8)
    (.seq (.reg false [⟨some 2, (Op.assign (Operand.const (Value.bool false))), none⟩])
    .ret)
    .skip))
  (.seq (.reg false [⟨some 3, (Op.assign (Operand.const (Value.int IntKind.i64 1))), none⟩])
  (.seq (.seq (.reg false [⟨some 9, (Op.move (Operand.tmp 0)), none⟩,
    ⟨some 10, (Op.call { callee := (Callee.builtin Builtin.len), args := #[(Operand.tmp 9)], argTypes := #[22] }), none⟩,
    ⟨some 11, (Op.move (Operand.const (Value.int IntKind.i64 0))), none⟩])
  (.block 0 (.loop [3, 9, 10, 11] false
    (.seq (.reg false [⟨some 12, (Op.binOp BinOp.lss 3 (Operand.tmp 11) (Operand.tmp 10) 3), none⟩])
    (.seq (.cond (Operand.tmp 12)
      .skip
      (.exit 0))
    (.seq (.block 1 (.seq (.reg false [⟨some 13, (Op.indexAddr 22 (Operand.tmp 9) (Operand.tmp 11)), none⟩,
      ⟨some 14, (Op.load 3 (Operand.tmp 13)), none⟩,
      ⟨some 5, (Op.assign (Operand.tmp 14)), none⟩])
    (.seq (.seq (.reg false [⟨some 15, (Op.move (Operand.tmp 5)), none⟩,
      ⟨some 16, (Op.binOp BinOp.lss 3 (Operand.tmp 15) (Operand.const (Value.int IntKind.i64 1)) 3), none⟩,
      ⟨some 17, (Op.move (Operand.tmp 16)), none⟩,
      ⟨some 18, (Op.move (Operand.tmp 5)), some (17, false)⟩,
      ⟨some 19, (Op.binOp BinOp.gtr 3 (Operand.tmp 18) (Operand.const (Value.int IntKind.i64 8)) 3), some (17, false)⟩,
      ⟨some 20, (Op.pick (Operand.tmp 17) (Operand.const (Value.bool true)) (Operand.tmp 19)), none⟩])
    (.cond (Operand.tmp 20)
      (.seq (.reg false [⟨some 2, (Op.assign (Operand.const (Value.bool false))), none⟩])
      .ret)
      .skip))
    (.reg false [⟨some 21, (Op.move (Operand.tmp 3)), none⟩,
      ⟨some 22, (Op.move (Operand.tmp 5)), none⟩,
      ⟨some 23, (Op.binOp BinOp.mul 3 (Operand.tmp 21) (Operand.tmp 22) 3), none⟩,
      ⟨some 3, (Op.assign (Operand.tmp 23)), none⟩]))))
    (.reg false [⟨some 24, (Op.binOp BinOp.add 3 (Operand.tmp 11) (Operand.const (Value.int IntKind.i64 1)) 3), none⟩,
      ⟨some 11, (Op.move (Operand.tmp 24)), none⟩])))))))
  (.seq (.reg false [⟨some 25, (Op.move (Operand.tmp 3)), none⟩,
    ⟨some 26, (Op.binOp BinOp.leq 3 (Operand.tmp 25) (Operand.const (Value.int IntKind.i64 8)) 3), none⟩,
    ⟨some 2, (Op.assign (Operand.tmp 26)), none⟩])
  .ret)))))
noncomputable def b89 : Code := Try.f89.body.getD .skip
theorem hb89 : Try.f89.body = some b89 := by kernel_rfl
theorem sh89 : shortC A89 b89 = c89 := by kernel_rfl
theorem ok89 : (okSlots Try.f89.ntmps b89 && okRecs A89 b89) = true := by kernel_rfl
def rs89 : List ResultVar := [(ResultVar.tmp 2)]
theorem hr89 : Try.f89.results.toList = rs89 := by kernel_rfl
/-! parquetry/tile.Width (2 parameters; calls none) -/
def A61 : Ann := { drop := fun i => false }
noncomputable def c61 : Cc :=
  (.seq (.reg false [⟨some 4, (Op.assign (Operand.const (Value.int IntKind.i64 0))), none⟩])
  (.seq (.seq (.reg false [⟨some 5, (Op.move (Operand.tmp 0)), none⟩,
    ⟨some 6, (Op.binOp BinOp.lss 3 (Operand.tmp 5) (Operand.const (Value.int IntKind.i64 0)) 3), none⟩,
    ⟨some 7, (Op.move (Operand.tmp 6)), none⟩,
    ⟨some 8, (Op.move (Operand.tmp 1)), some (7, false)⟩,
    ⟨some 9, (Op.binOp BinOp.lss 3 (Operand.tmp 8) (Operand.const (Value.int IntKind.i64 1)) 3), some (7, false)⟩,
    ⟨some 10, (Op.pick (Operand.tmp 7) (Operand.const (Value.bool true)) (Operand.tmp 9)), none⟩])
  (.cond (Operand.tmp 10)
    (.seq (.reg false [⟨some 4, (Op.assign (Operand.const (Value.int IntKind.i64 0))), none⟩])
    .ret)
    .skip))
  (.seq (.seq (.reg false [⟨some 11, (Op.move (Operand.tmp 0)), none⟩,
    ⟨some 12, (Op.binOp BinOp.eql 3 (Operand.tmp 11) (Operand.const (Value.int IntKind.i64 0)) 3), none⟩])
  (.cond (Operand.tmp 12)
    (.seq (.reg false [⟨some 4, (Op.assign (Operand.const (Value.int IntKind.i64 0))), none⟩])
    .ret)
    .skip))
  (.seq (.reg false [⟨some 13, (Op.move (Operand.tmp 0)), none⟩,
    ⟨some 14, (Op.binOp BinOp.sub 3 (Operand.tmp 13) (Operand.const (Value.int IntKind.i64 1)) 3), none⟩,
    ⟨some 15, (Op.move (Operand.tmp 1)), none⟩,
    ⟨some 16, (Op.binOp BinOp.quo 3 (Operand.tmp 14) (Operand.tmp 15) 3), none⟩,
    ⟨some 17, (Op.binOp BinOp.add 3 (Operand.tmp 16) (Operand.const (Value.int IntKind.i64 1)) 3), none⟩,
    ⟨some 4, (Op.assign (Operand.tmp 17)), none⟩])
  .ret))))
noncomputable def b61 : Code := Try.f61.body.getD .skip
theorem hb61 : Try.f61.body = some b61 := by kernel_rfl
theorem sh61 : shortC A61 b61 = c61 := by kernel_rfl
theorem ok61 : (okSlots Try.f61.ntmps b61 && okRecs A61 b61) = true := by kernel_rfl
def rs61 : List ResultVar := [(ResultVar.tmp 4)]
theorem hr61 : Try.f61.results.toList = rs61 := by kernel_rfl
/-! parquetry/tile.times (3 parameters; calls none) -/
def A124 : Ann := { drop := fun i => false }
noncomputable def c124 : Cc :=
  (.seq (.reg false [⟨some 6, (Op.assign (Operand.const (Value.int IntKind.i64 0))), none⟩])
  (.seq (.seq (.reg false [⟨some 7, (Op.move (Operand.tmp 0)), none⟩,
    ⟨some 8, (Op.binOp BinOp.gtr 3 (Operand.tmp 7) (Operand.const (Value.int IntKind.i64 0)) 3), none⟩,
    ⟨some 9, (Op.move (Operand.tmp 8)), none⟩,
    ⟨some 10, (Op.move (Operand.tmp 1)), some (9, true)⟩,
    ⟨some 11, (Op.move (Operand.tmp 2)), some (9, true)⟩,
    ⟨some 12, (Op.move (Operand.tmp 0)), some (9, true)⟩,
    ⟨some 13, (Op.binOp BinOp.quo 3 (Operand.tmp 11) (Operand.tmp 12) 3), some (9, true)⟩,
    ⟨some 14, (Op.binOp BinOp.gtr 3 (Operand.tmp 10) (Operand.tmp 13) 3), some (9, true)⟩,
    ⟨some 15, (Op.pick (Operand.tmp 9) (Operand.tmp 14) (Operand.const (Value.bool false))), none⟩])
  (.cond (Operand.tmp 15)
    (.seq (.reg false [⟨some 16, (Op.move (Operand.tmp 2)), none⟩,
      ⟨some 6, (Op.assign (Operand.tmp 16)), none⟩])
    .ret)
    .skip))
  (.seq (.reg false [⟨some 17, (Op.move (Operand.tmp 0)), none⟩,
    ⟨some 18, (Op.move (Operand.tmp 1)), none⟩,
    ⟨some 19, (Op.binOp BinOp.mul 3 (Operand.tmp 17) (Operand.tmp 18) 3), none⟩,
    ⟨some 20, (Op.move (Operand.tmp 2)), none⟩,
    ⟨some 21, (Op.call { callee := (Callee.builtin Builtin.min), args := #[(Operand.tmp 19), (Operand.tmp 20)], argTypes := #[3, 3] }), none⟩,
    ⟨some 6, (Op.assign (Operand.tmp 21)), none⟩])
  .ret)))
noncomputable def b124 : Code := Try.f124.body.getD .skip
theorem hb124 : Try.f124.body = some b124 := by kernel_rfl
theorem sh124 : shortC A124 b124 = c124 := by kernel_rfl
theorem ok124 : (okSlots Try.f124.ntmps b124 && okRecs A124 b124) = true := by kernel_rfl
def rs124 : List ResultVar := [(ResultVar.tmp 6)]
theorem hr124 : Try.f124.results.toList = rs124 := by kernel_rfl
/-! parquetry/tile.Cut (3 parameters; calls 61 parquetry/tile.Width, 124 parquetry/tile.times) -/
def A60 : Ann := { drop := fun i => false }
noncomputable def c60 : Cc :=
  (.seq (.reg false [⟨some 6, (Op.assign (Operand.const (Value.int IntKind.i64 0))), none⟩,
    ⟨some 7, (Op.assign (Operand.const (Value.int IntKind.i64 0))), none⟩])
  (.seq (.reg false [⟨some 9, (Op.move (Operand.tmp 0)), none⟩,
    ⟨some 10, (Op.move (Operand.tmp 1)), none⟩,
    ⟨some 11, (Op.call { callee := (Callee.value (Operand.func 61)), args := #[(Operand.tmp 9), (Operand.tmp 10)], argTypes := #[3, 3] }), none⟩,
    ⟨some 8, (Op.assign (Operand.tmp 11)), none⟩])
  (.seq (.seq (.reg false [⟨some 12, (Op.move (Operand.tmp 8)), none⟩,
    ⟨some 13, (Op.binOp BinOp.eql 3 (Operand.tmp 12) (Operand.const (Value.int IntKind.i64 0)) 3), none⟩,
    ⟨some 14, (Op.move (Operand.tmp 13)), none⟩,
    ⟨some 15, (Op.move (Operand.tmp 2)), some (14, false)⟩,
    ⟨some 16, (Op.binOp BinOp.lss 3 (Operand.tmp 15) (Operand.const (Value.int IntKind.i64 0)) 3), some (14, false)⟩,
    ⟨some 17, (Op.pick (Operand.tmp 14) (Operand.const (Value.bool true)) (Operand.tmp 16)), none⟩,
    ⟨some 18, (Op.move (Operand.tmp 17)), none⟩,
    ⟨some 19, (Op.move (Operand.tmp 2)), some (18, false)⟩,
    ⟨some 20, (Op.move (Operand.tmp 1)), some (18, false)⟩,
    ⟨some 21, (Op.binOp BinOp.geq 3 (Operand.tmp 19) (Operand.tmp 20) 3), some (18, false)⟩,
    ⟨some 22, (Op.pick (Operand.tmp 18) (Operand.const (Value.bool true)) (Operand.tmp 21)), none⟩])
  (.cond (Operand.tmp 22)
    (.seq (.reg false [⟨some 6, (Op.assign (Operand.const (Value.int IntKind.i64 0))), none⟩,
      ⟨some 7, (Op.assign (Operand.const (Value.int IntKind.i64 0))), none⟩])
    .ret)
    .skip))
  (.seq (.reg false [⟨some 23, (Op.move (Operand.tmp 8)), none⟩,
    ⟨some 24, (Op.move (Operand.tmp 2)), none⟩,
    ⟨some 25, (Op.move (Operand.tmp 0)), none⟩,
    ⟨some 26, (Op.call { callee := (Callee.value (Operand.func 124)), args := #[(Operand.tmp 23), (Operand.tmp 24), (Operand.tmp 25)], argTypes := #[3, 3, 3] }), none⟩,
    ⟨some 27, (Op.move (Operand.tmp 8)), none⟩,
    ⟨some 28, (Op.move (Operand.tmp 2)), none⟩,
    ⟨some 29, (Op.binOp BinOp.add 3 (Operand.tmp 28) (Operand.const (Value.int IntKind.i64 1)) 3), none⟩,
    ⟨some 30, (Op.move (Operand.tmp 0)), none⟩,
    ⟨some 31, (Op.call { callee := (Callee.value (Operand.func 124)), args := #[(Operand.tmp 27), (Operand.tmp 29), (Operand.tmp 30)], argTypes := #[3, 3, 3] }), none⟩,
    ⟨some 6, (Op.assign (Operand.tmp 26)), none⟩,
    ⟨some 7, (Op.assign (Operand.tmp 31)), none⟩])
  .ret))))
noncomputable def b60 : Code := Try.f60.body.getD .skip
theorem hb60 : Try.f60.body = some b60 := by kernel_rfl
theorem sh60 : shortC A60 b60 = c60 := by kernel_rfl
theorem ok60 : (okSlots Try.f60.ntmps b60 && okRecs A60 b60) = true := by kernel_rfl
def rs60 : List ResultVar := [(ResultVar.tmp 6), (ResultVar.tmp 7)]
theorem hr60 : Try.f60.results.toList = rs60 := by kernel_rfl
/- Walks: numbers and lengths. -/
theorem mixed : Try.prog.follows .mixedOrders = true := by kernel_rfl
def within (n lo hi : Int) : Int :=
  if lo ≤ n ∧ n ≤ hi then n else
  w (lo + (if n.tmod (w (w (hi - lo) + 1)) < 0 then w (w (w (n.tmod (w (w (hi - lo) + 1)) + hi) - lo) + 1) else n.tmod (w (w (hi - lo) + 1))))
def F45 (args : List AV) (_ : Hp) : Option AV := match args with
  | [.int .i64 n, .int .i64 lo, .int .i64 hi] => if w (w (hi - lo) + 1) = 0 then none else some (.int .i64 (within n lo hi))
  | _ => none
theorem snd45 : Sound Try.prog 45 (FSem.pure F45).run := by
  refine sound_of hT (EOK_nil _) mixed A45 Try.func45 hb45 (by kernel_rfl) (by kernel_rfl) (by kernel_rfl) (by kernel_rfl) sh45 3 (by kernel_rfl) rs45 hr45 ?_
  intro args H r H' hw h
  obtain ⟨rfl, hv⟩ := pureAt h
  clear h
  unfold F45 at hv
  split at hv
  · split at hv
    · cases hv
    · cases hv
      refine ⟨rfl, go ?_⟩
      unfold c45
      simp only [argSl]
      repeat' (first | apply goSeq | apply goReg | apply goSeqN | apply goSeqR | apply goSkip | apply goRet | apply goNil | apply goBlock | apply goExit | apply goBlkN | apply goBlkR | apply goBlkE | apply goSeqE | apply goLoopR | apply goLoopE | (apply goOp; (· (simp [*]; try exact rfl)); (· exact rfl)) | (apply goOp0; (· (simp [*]; try exact rfl)); (· exact rfl)) | (apply goYes; (· (simp [*]; done)); (· (simp [*]; try exact rfl)); (· exact rfl)) | (apply goNo; (· (simp [*]; done))) | (apply goNoU; (· (simp; exact rfl))) | (apply goIfT; (· (simp [*]; done))) | (apply goIfF; (· (simp [*]; done))) | (apply goIf; (· (simp; exact rfl)); (· with_reducible exact rfl)) | (apply goSplit; (· (simp; exact rfl)); (· with_reducible exact rfl)) | (apply goIfQ; (· (simp; exact rfl)); (· exact rfl)) | (apply goSplitQ; (· (simp; exact rfl)); (· exact rfl)) | (apply goBlkX; (· rfl)) | intro _)
      all_goals (refine goEnd hw (Pre.refl _) (by simp) (by simp [rs45]; exact rfl) rfl ?_; simp [within, *])
  · cases hv
def width (n k : Int) : Int := if n < 0 ∨ k < 1 then 0 else if n = 0 then 0 else w (w ((w (n - 1)).tdiv k) + 1)
def F61 (args : List AV) (_ : Hp) : Option AV := match args with
  | [.int .i64 n, .int .i64 k] => some (.int .i64 (width n k))
  | _ => none
theorem snd61 : Sound Try.prog 61 (FSem.pure F61).run := by
  refine sound_of hT (EOK_nil _) mixed A61 Try.func61 hb61 (by kernel_rfl) (by kernel_rfl) (by kernel_rfl) (by kernel_rfl) sh61 2 (by kernel_rfl) rs61 hr61 ?_
  intro args H r H' hw h
  obtain ⟨rfl, hv⟩ := pureAt h
  clear h
  unfold F61 at hv
  split at hv
  · rename_i n k
    cases hv
    have hk : ¬ k < 1 → ¬ k = 0 := by omega
    refine ⟨rfl, go ?_⟩
    unfold c61
    simp only [argSl]
    repeat' (first | apply goSeq | apply goReg | apply goSeqN | apply goSeqR | apply goSkip | apply goRet | apply goNil | apply goBlock | apply goExit | apply goBlkN | apply goBlkR | apply goBlkE | apply goSeqE | apply goLoopR | apply goLoopE | (apply goOp; (· (simp [*]; try exact rfl)); (· exact rfl)) | (apply goOp0; (· (simp [*]; try exact rfl)); (· exact rfl)) | (apply goYes; (· (simp [*]; done)); (· (simp [*]; try exact rfl)); (· exact rfl)) | (apply goNo; (· (simp [*]; done))) | (apply goNoU; (· (simp; exact rfl))) | (apply goIfT; (· (simp [*]; done))) | (apply goIfF; (· (simp [*]; done))) | (apply goIf; (· (simp; exact rfl)); (· with_reducible exact rfl)) | (apply goSplit; (· (simp; exact rfl)); (· with_reducible exact rfl)) | (apply goIfQ; (· (simp; exact rfl)); (· exact rfl)) | (apply goSplitQ; (· (simp; exact rfl)); (· exact rfl)) | (apply goBlkX; (· rfl)) | intro _)
    all_goals (refine goEnd hw (Pre.refl _) (by simp) (by simp [rs61]; exact rfl) rfl ?_; simp [width, *])
  · cases hv
def times (a i m : Int) : Int := if 0 < a ∧ w (m.tdiv a) < i then m else if w (a * i) ≤ m then w (a * i) else m
def F124 (args : List AV) (_ : Hp) : Option AV := match args with
  | [.int .i64 a, .int .i64 i, .int .i64 m] => some (.int .i64 (times a i m))
  | _ => none
theorem snd124 : Sound Try.prog 124 (FSem.pure F124).run := by
  refine sound_of hT (EOK_nil _) mixed A124 Try.func124 hb124 (by kernel_rfl) (by kernel_rfl) (by kernel_rfl) (by kernel_rfl) sh124 3 (by kernel_rfl) rs124 hr124 ?_
  intro args H r H' hw h
  obtain ⟨rfl, hv⟩ := pureAt h
  clear h
  unfold F124 at hv
  split at hv
  · rename_i a i m
    cases hv
    have hk : 0 < a → ¬ a = 0 := by omega
    refine ⟨rfl, go ?_⟩
    unfold c124
    simp only [argSl]
    repeat' (first | apply goSeq | apply goReg | apply goSeqN | apply goSeqR | apply goSkip | apply goRet | apply goNil | apply goBlock | apply goExit | apply goBlkN | apply goBlkR | apply goBlkE | apply goSeqE | apply goLoopR | apply goLoopE | (apply goOp; (· (simp [*]; try exact rfl)); (· exact rfl)) | (apply goOp0; (· (simp [*]; try exact rfl)); (· exact rfl)) | (apply goYes; (· (simp [*]; done)); (· (simp [*]; try exact rfl)); (· exact rfl)) | (apply goNo; (· (simp [*]; done))) | (apply goNoU; (· (simp; exact rfl))) | (apply goIfT; (· (simp [*]; done))) | (apply goIfF; (· (simp [*]; done))) | (apply goIf; (· (simp; exact rfl)); (· with_reducible exact rfl)) | (apply goSplit; (· (simp; exact rfl)); (· with_reducible exact rfl)) | (apply goIfQ; (· (simp; exact rfl)); (· exact rfl)) | (apply goSplitQ; (· (simp; exact rfl)); (· exact rfl)) | (apply goBlkX; (· rfl)) | intro _)
    all_goals (refine goEnd hw (Pre.refl _) (by simp) (by simp [rs124]; exact rfl) rfl ?_; simp [times, *])
  · cases hv
def cut (n k i : Int) : Int × Int := if width n k = 0 ∨ i < 0 ∨ k ≤ i then (0, 0) else (times (width n k) i n, times (width n k) (w (i + 1)) n)
def F60 (args : List AV) (_ : Hp) : Option AV := match args with
  | [.int .i64 n, .int .i64 k, .int .i64 i] => some (.tup [.int .i64 (cut n k i).1, .int .i64 (cut n k i).2])
  | _ => none
theorem snd60 : Sound Try.prog 60 (FSem.pure F60).run := by
  refine sound_of hT (EOK_cons snd61 (EOK_cons snd124 (EOK_nil _))) mixed A60 Try.func60 hb60 (by kernel_rfl) (by kernel_rfl) (by kernel_rfl) (by kernel_rfl) sh60 3 (by kernel_rfl) rs60 hr60 ?_
  intro args H r H' hw h
  obtain ⟨rfl, hv⟩ := pureAt h
  clear h
  unfold F60 at hv
  split at hv
  · rename_i n k i
    cases hv
    have e1 : ∀ a b H, F61 [.int .i64 a, .int .i64 b] H = some (.int .i64 (width a b)) := fun _ _ _ => rfl
    have e2 : ∀ a b c H, F124 [.int .i64 a, .int .i64 b, .int .i64 c] H = some (.int .i64 (times a b c)) := fun _ _ _ _ => rfl
    refine ⟨rfl, go ?_⟩
    unfold c60
    simp only [argSl]
    repeat' (first | apply goSeq | apply goReg | apply goSeqN | apply goSeqR | apply goSkip | apply goRet | apply goNil | apply goBlock | apply goExit | apply goBlkN | apply goBlkR | apply goBlkE | apply goSeqE | apply goLoopR | apply goLoopE | (apply goOp; (· (simp [*]; try exact rfl)); (· exact rfl)) | (apply goOp0; (· (simp [*]; try exact rfl)); (· exact rfl)) | (apply goYes; (· (simp [*]; done)); (· (simp [*]; try exact rfl)); (· exact rfl)) | (apply goNo; (· (simp [*]; done))) | (apply goNoU; (· (simp; exact rfl))) | (apply goIfT; (· (simp [*]; done))) | (apply goIfF; (· (simp [*]; done))) | (apply goIf; (· (simp; exact rfl)); (· with_reducible exact rfl)) | (apply goSplit; (· (simp; exact rfl)); (· with_reducible exact rfl)) | (apply goIfQ; (· (simp; exact rfl)); (· exact rfl)) | (apply goSplitQ; (· (simp; exact rfl)); (· exact rfl)) | (apply goBlkX; (· rfl)) | intro _)
    all_goals (refine goEnd hw (Pre.refl _) (by simp) (by simp [rs60]; exact rfl) rfl ?_; simp [cut, *])
  · cases hv
theorem aidx22 (v i : AV) : aidx T 22 v i = aidxS 1 v i := by simp [aidx, D22, T3]
theorem alen22 (v : AV) : alen T 22 v = alenS v := by simp [alen, D22]
def meshGo : Int → List Int → Bool
  | n, [] => decide (n ≤ 8)
  | n, k :: l => if k < 1 ∨ 8 < k then false else meshGo (w (n * k)) l
def meshOK (l : List Int) : Bool := if 3 < l.length then false else meshGo 1 l
def F89 (args : List AV) (H : Hp) : Option AV := match args with
  | [v] => (ints H v).map fun l => .bool (meshOK l)
  | _ => none
theorem snd89 : Sound Try.prog 89 (FSem.pure F89).run := by
  refine sound_of hT (EOK_nil _) mixed A89 Try.func89 hb89 (by kernel_rfl) (by kernel_rfl) (by kernel_rfl) (by kernel_rfl) sh89 1 (by kernel_rfl) rs89 hr89 ?_
  intro args H r H' hw h
  obtain ⟨rfl, hv⟩ := pureAt h
  clear h
  unfold F89 at hv
  split at hv
  · rename_i v
    obtain ⟨l, hl, hv⟩ := Option.map_eq_some_iff.1 hv
    cases hv
    have hlen := alenS_ints hl
    have hb := ints_len hl
    have hix := aidxS_ints hl .i64
    have hld := aload_nth T3 rfl hl
    refine ⟨rfl, go ?_⟩
    unfold c89
    simp only [argSl]
    simp only [← aidx22, ← alen22] at hix hlen
    repeat' (first | apply goSeq | apply goReg | apply goSeqN | apply goSeqR | apply goSkip | apply goRet | apply goNil | apply goBlock | apply goExit | apply goBlkN | apply goBlkR | apply goBlkE | apply goSeqE | apply goLoopR | apply goLoopE | (apply goOp; (· (simp [*]; try exact rfl)); (· exact rfl)) | (apply goOp0; (· (simp [*]; try exact rfl)); (· exact rfl)) | (apply goYes; (· (simp [*]; done)); (· (simp [*]; try exact rfl)); (· exact rfl)) | (apply goNo; (· (simp [*]; done))) | (apply goNoU; (· (simp; exact rfl))) | (apply goIfT; (· (simp [*]; done))) | (apply goIfF; (· (simp [*]; done))) | (apply goIf; (· (simp; exact rfl)); (· with_reducible exact rfl)) | (apply goSplit; (· (simp; exact rfl)); (· with_reducible exact rfl)) | (apply goIfQ; (· (simp; exact rfl)); (· exact rfl)) | (apply goSplitQ; (· (simp; exact rfl)); (· exact rfl)) | (apply goBlkX; (· rfl)) | intro _)
    · rename_i h3
      have h3' : 3 < l.length := by omega
      refine goEnd hw (Pre.refl _) (by simp) (by simp [rs89]; exact rfl) rfl ?_
      simp [meshOK, h3']
    · rename_i h3
      have h3' : ¬ 3 < l.length := by omega
      refine goLoop (fun m s1 H1 => H1 = H' ∧ ∃ (i : Nat) (n : Int), m = l.length - i ∧ i ≤ l.length ∧ get s1 3 = .int .i64 n ∧ get s1 9 = v ∧ get s1 10 = .int .i64 l.length ∧ get s1 11 = .int .i64 i ∧ meshGo n (l.drop i) = meshOK l) l.length ?_ ?_
      · exact ⟨rfl, 0, 1, rfl, Nat.zero_le _, rfl, rfl, rfl, rfl, by simp [meshOK, h3']⟩
      · rintro m s1 H1 ⟨rfl, i, n, hm, hi, g3, g9, g10, g11, hgo⟩
        simp only [cut_cons, cut_nil, g3, g9, g10, g11]
        have hi0 : (0 : Int) ≤ i := Int.natCast_nonneg i
        have hd := fun h => drop_nth l i h
        have hnil : ¬ i < l.length → l.drop i = [] := fun h => List.drop_of_length_le (by omega)
        have hw1 : w ((i : Int) + 1) = ((i + 1 : Nat) : Int) := w_id (by omega)
        clear g3 g9 g10 g11
        repeat' (first | apply goSeq | apply goReg | apply goSeqN | apply goSeqR | apply goSkip | apply goRet | apply goNil | apply goBlock | apply goExit | apply goBlkN | apply goBlkR | apply goBlkE | apply goSeqE | apply goLoopR | apply goLoopE | (apply goOp; (· (simp [*]; try exact rfl)); (· exact rfl)) | (apply goOp0; (· (simp [*]; try exact rfl)); (· exact rfl)) | (apply goYes; (· (simp [*]; done)); (· (simp [*]; try exact rfl)); (· exact rfl)) | (apply goNo; (· (simp [*]; done))) | (apply goNoU; (· (simp; exact rfl))) | (apply goIfT; (· (simp [*]; done))) | (apply goIfF; (· (simp [*]; done))) | (apply goIf; (· (simp; exact rfl)); (· with_reducible exact rfl)) | (apply goSplit; (· (simp; exact rfl)); (· with_reducible exact rfl)) | (apply goIfQ; (· (simp; exact rfl)); (· exact rfl)) | (apply goSplitQ; (· (simp; exact rfl)); (· exact rfl)) | (apply goBlkX; (· rfl)) | intro _)
        all_goals first
          | (refine goEnd hw (Pre.refl _) (by simp) (by simp [rs89]; exact rfl) rfl ?_; rw [← hgo]; simp [meshGo, hd, hnil, *]; done)
          | (refine goLoopN (l.length - (i + 1)) (by omega) ⟨rfl, i + 1, _, rfl, by omega, rfl, rfl, rfl, rfl, ?_⟩; rw [← hgo]; simp [meshGo, hd, *])
  · cases hv
/- Walks: meshes, shapes, specs. -/
@[simp] theorem F89_at (v : AV) (H : Hp) : F89 [v] H = (ints H v).map fun l => .bool (meshOK l) := rfl
theorem xdo_slice22 {E : Env} {sh : Bool} {s : Sl} {H : Hp} (x lo hi mx) : xdo E T sh (.slice 22 x lo hi mx) s H = (aslice 1 (ev s x) (lo.map (ev s)) (hi.map (ev s)) (mx.map (ev s))).map fun v => (v, H) := by
  simp [xdo, aop, D22, T3]
def prodW : Int → List Int → Int
  | n, [] => n
  | n, k :: l => prodW (w (n * k)) l
def devs (l : List Int) : Int := if meshOK l = true then prodW 1 l else 0
def F88 (args : List AV) (H : Hp) : Option AV := match args with
  | [v] => (ints H v).map fun l => .int .i64 (devs l)
  | _ => none
theorem snd88 : Sound Try.prog 88 (FSem.pure F88).run := by
  refine sound_of hT (EOK_cons snd89 (EOK_nil _)) mixed A88 Try.func88 hb88 (by kernel_rfl) (by kernel_rfl) (by kernel_rfl) (by kernel_rfl) sh88 1 (by kernel_rfl) rs88 hr88 ?_
  intro args H r H' hw h
  obtain ⟨rfl, hv⟩ := pureAt h
  clear h
  unfold F88 at hv
  split at hv
  · rename_i v
    obtain ⟨l, hl, hv⟩ := Option.map_eq_some_iff.1 hv
    cases hv
    have hlen := alenS_ints hl
    have hb := ints_len hl
    have hix := aidxS_ints hl .i64
    have hld := aload_nth T3 rfl hl
    refine ⟨rfl, go ?_⟩
    unfold c88
    simp only [argSl]
    simp only [← aidx22, ← alen22] at hix hlen
    repeat' (first | apply goSeq | apply goReg | apply goSeqN | apply goSeqR | apply goSkip | apply goRet | apply goNil | apply goBlock | apply goExit | apply goBlkN | apply goBlkR | apply goBlkE | apply goSeqE | apply goLoopR | apply goLoopE | (apply goOp; (· (simp [*]; try exact rfl)); (· exact rfl)) | (apply goOp0; (· (simp [*]; try exact rfl)); (· exact rfl)) | (apply goYes; (· (simp [*]; done)); (· (simp [*]; try exact rfl)); (· exact rfl)) | (apply goNo; (· (simp [*]; done))) | (apply goNoU; (· (simp; exact rfl))) | (apply goIfT; (· (simp [*]; done))) | (apply goIfF; (· (simp [*]; done))) | (apply goIf; (· (simp; exact rfl)); (· with_reducible exact rfl)) | (apply goSplit; (· (simp; exact rfl)); (· with_reducible exact rfl)) | (apply goIfQ; (· (simp; exact rfl)); (· exact rfl)) | (apply goSplitQ; (· (simp; exact rfl)); (· exact rfl)) | (apply goBlkX; (· rfl)) | intro _)
    · refine goEnd hw (Pre.refl _) (by simp) (by simp [rs88]; exact rfl) rfl ?_
      simp_all [devs]
    · rename_i hm
      have hm' : meshOK l = true := by simpa using hm
      refine goLoop (fun m s1 H1 => H1 = H' ∧ ∃ (i : Nat) (n : Int), m = l.length - i ∧ i ≤ l.length ∧ get s1 3 = .int .i64 n ∧ get s1 9 = v ∧ get s1 10 = .int .i64 l.length ∧ get s1 11 = .int .i64 i ∧ prodW n (l.drop i) = devs l) l.length ?_ ?_
      · exact ⟨rfl, 0, 1, rfl, Nat.zero_le _, rfl, rfl, rfl, rfl, by simp [devs, hm']⟩
      · rintro m s1 H1 ⟨rfl, i, n, hmm, hi, g3, g9, g10, g11, hgo⟩
        simp only [cut_cons, cut_nil, g3, g9, g10, g11]
        have hi0 : (0 : Int) ≤ i := Int.natCast_nonneg i
        have hd := fun h => drop_nth l i h
        have hnil : ¬ i < l.length → l.drop i = [] := fun h => List.drop_of_length_le (by omega)
        have hw1 : w ((i : Int) + 1) = ((i + 1 : Nat) : Int) := w_id (by omega)
        clear g3 g9 g10 g11
        repeat' (first | apply goSeq | apply goReg | apply goSeqN | apply goSeqR | apply goSkip | apply goRet | apply goNil | apply goBlock | apply goExit | apply goBlkN | apply goBlkR | apply goBlkE | apply goSeqE | apply goLoopR | apply goLoopE | (apply goOp; (· (simp [*]; try exact rfl)); (· exact rfl)) | (apply goOp0; (· (simp [*]; try exact rfl)); (· exact rfl)) | (apply goYes; (· (simp [*]; done)); (· (simp [*]; try exact rfl)); (· exact rfl)) | (apply goNo; (· (simp [*]; done))) | (apply goNoU; (· (simp; exact rfl))) | (apply goIfT; (· (simp [*]; done))) | (apply goIfF; (· (simp [*]; done))) | (apply goIf; (· (simp; exact rfl)); (· with_reducible exact rfl)) | (apply goSplit; (· (simp; exact rfl)); (· with_reducible exact rfl)) | (apply goIfQ; (· (simp; exact rfl)); (· exact rfl)) | (apply goSplitQ; (· (simp; exact rfl)); (· exact rfl)) | (apply goBlkX; (· rfl)) | intro _)
        all_goals first
          | (refine goEnd hw (Pre.refl _) (by simp) (by simp [rs88]; exact rfl) rfl ?_; rw [← hgo]; simp [prodW, hd, hnil, *]; done)
          | (refine goLoopN (l.length - (i + 1)) (by omega) ⟨rfl, i + 1, _, rfl, by omega, rfl, rfl, rfl, rfl, ?_⟩; rw [← hgo]; simp [prodW, hd, *])
  · cases hv
@[simp] theorem F88_at (v : AV) (H : Hp) : F88 [v] H = (ints H v).map fun l => .int .i64 (devs l) := rfl
def shapeGo : Int → List Int → Bool
  | n, [] => decide (n ≤ 4096)
  | n, k :: l => if k < 0 ∨ 32 < k then false else shapeGo (w (n * k)) l
def shapeOK (l : List Int) : Bool := if 4 < l.length then false else shapeGo 1 l
def F90 (args : List AV) (H : Hp) : Option AV := match args with
  | [v] => (ints H v).map fun l => .bool (shapeOK l)
  | _ => none
theorem snd90 : Sound Try.prog 90 (FSem.pure F90).run := by
  refine sound_of hT (EOK_nil _) mixed A90 Try.func90 hb90 (by kernel_rfl) (by kernel_rfl) (by kernel_rfl) (by kernel_rfl) sh90 1 (by kernel_rfl) rs90 hr90 ?_
  intro args H r H' hw h
  obtain ⟨rfl, hv⟩ := pureAt h
  clear h
  unfold F90 at hv
  split at hv
  · rename_i v
    obtain ⟨l, hl, hv⟩ := Option.map_eq_some_iff.1 hv
    cases hv
    have hlen := alenS_ints hl
    have hb := ints_len hl
    have hix := aidxS_ints hl .i64
    have hld := aload_nth T3 rfl hl
    refine ⟨rfl, go ?_⟩
    unfold c90
    simp only [argSl]
    simp only [← aidx22, ← alen22] at hix hlen
    repeat' (first | apply goSeq | apply goReg | apply goSeqN | apply goSeqR | apply goSkip | apply goRet | apply goNil | apply goBlock | apply goExit | apply goBlkN | apply goBlkR | apply goBlkE | apply goSeqE | apply goLoopR | apply goLoopE | (apply goOp; (· (simp [*]; try exact rfl)); (· exact rfl)) | (apply goOp0; (· (simp [*]; try exact rfl)); (· exact rfl)) | (apply goYes; (· (simp [*]; done)); (· (simp [*]; try exact rfl)); (· exact rfl)) | (apply goNo; (· (simp [*]; done))) | (apply goNoU; (· (simp; exact rfl))) | (apply goIfT; (· (simp [*]; done))) | (apply goIfF; (· (simp [*]; done))) | (apply goIf; (· (simp; exact rfl)); (· with_reducible exact rfl)) | (apply goSplit; (· (simp; exact rfl)); (· with_reducible exact rfl)) | (apply goIfQ; (· (simp; exact rfl)); (· exact rfl)) | (apply goSplitQ; (· (simp; exact rfl)); (· exact rfl)) | (apply goBlkX; (· rfl)) | intro _)
    · rename_i h3
      have h3' : 4 < l.length := by omega
      refine goEnd hw (Pre.refl _) (by simp) (by simp [rs90]; exact rfl) rfl ?_
      simp [shapeOK, h3']
    · rename_i h3
      have h3' : ¬ 4 < l.length := by omega
      refine goLoop (fun m s1 H1 => H1 = H' ∧ ∃ (i : Nat) (n : Int), m = l.length - i ∧ i ≤ l.length ∧ get s1 3 = .int .i64 n ∧ get s1 9 = v ∧ get s1 10 = .int .i64 l.length ∧ get s1 11 = .int .i64 i ∧ shapeGo n (l.drop i) = shapeOK l) l.length ?_ ?_
      · exact ⟨rfl, 0, 1, rfl, Nat.zero_le _, rfl, rfl, rfl, rfl, by simp [shapeOK, h3']⟩
      · rintro m s1 H1 ⟨rfl, i, n, hm, hi, g3, g9, g10, g11, hgo⟩
        simp only [cut_cons, cut_nil, g3, g9, g10, g11]
        have hi0 : (0 : Int) ≤ i := Int.natCast_nonneg i
        have hd := fun h => drop_nth l i h
        have hnil : ¬ i < l.length → l.drop i = [] := fun h => List.drop_of_length_le (by omega)
        have hw1 : w ((i : Int) + 1) = ((i + 1 : Nat) : Int) := w_id (by omega)
        clear g3 g9 g10 g11
        repeat' (first | apply goSeq | apply goReg | apply goSeqN | apply goSeqR | apply goSkip | apply goRet | apply goNil | apply goBlock | apply goExit | apply goBlkN | apply goBlkR | apply goBlkE | apply goSeqE | apply goLoopR | apply goLoopE | (apply goOp; (· (simp [*]; try exact rfl)); (· exact rfl)) | (apply goOp0; (· (simp [*]; try exact rfl)); (· exact rfl)) | (apply goYes; (· (simp [*]; done)); (· (simp [*]; try exact rfl)); (· exact rfl)) | (apply goNo; (· (simp [*]; done))) | (apply goNoU; (· (simp; exact rfl))) | (apply goIfT; (· (simp [*]; done))) | (apply goIfF; (· (simp [*]; done))) | (apply goIf; (· (simp; exact rfl)); (· with_reducible exact rfl)) | (apply goSplit; (· (simp; exact rfl)); (· with_reducible exact rfl)) | (apply goIfQ; (· (simp; exact rfl)); (· exact rfl)) | (apply goSplitQ; (· (simp; exact rfl)); (· exact rfl)) | (apply goBlkX; (· rfl)) | intro _)
        all_goals first
          | (refine goEnd hw (Pre.refl _) (by simp) (by simp [rs90]; exact rfl) rfl ?_; rw [← hgo]; simp [shapeGo, hd, hnil, *]; done)
          | (refine goLoopN (l.length - (i + 1)) (by omega) ⟨rfl, i + 1, _, rfl, by omega, rfl, rfl, rfl, rfl, ?_⟩; rw [← hgo]; simp [shapeGo, hd, *])
  · cases hv
@[simp] theorem F90_at (v : AV) (H : Hp) : F90 [v] H = (ints H v).map fun l => .bool (shapeOK l) := rfl
def idxGo (x : Int) : Int → List Int → Int
  | _, [] => -1
  | i, a :: l => if x = a then i else idxGo x (i + 1) l
def F157 (args : List AV) (H : Hp) : Option AV := match args with
  | [v, .int .i64 x] => (ints H v).map fun l => .int .i64 (idxGo x 0 l)
  | _ => none
theorem snd157 : Sound Try.prog 157 (FSem.pure F157).run := by
  refine sound_of hT (EOK_nil _) mixed A157 Try.func157 hb157 (by kernel_rfl) (by kernel_rfl) (by kernel_rfl) (by kernel_rfl) sh157 2 (by kernel_rfl) rs157 hr157 ?_
  intro args H r H' hw h
  obtain ⟨rfl, hv⟩ := pureAt h
  clear h
  unfold F157 at hv
  split at hv
  · rename_i v x
    obtain ⟨l, hl, hv⟩ := Option.map_eq_some_iff.1 hv
    cases hv
    have hlen := alenS_ints hl
    have hb := ints_len hl
    have hix := aidxS_ints hl .i64
    have hld := aload_nth T3 rfl hl
    refine ⟨rfl, go ?_⟩
    unfold c157
    simp only [argSl]
    simp only [← aidx22, ← alen22] at hix hlen
    repeat' (first | apply goSeq | apply goReg | apply goSeqN | apply goSeqR | apply goSkip | apply goRet | apply goNil | apply goBlock | apply goExit | apply goBlkN | apply goBlkR | apply goBlkE | apply goSeqE | apply goLoopR | apply goLoopE | (apply goOp; (· (simp [*]; try exact rfl)); (· exact rfl)) | (apply goOp0; (· (simp [*]; try exact rfl)); (· exact rfl)) | (apply goYes; (· (simp [*]; done)); (· (simp [*]; try exact rfl)); (· exact rfl)) | (apply goNo; (· (simp [*]; done))) | (apply goNoU; (· (simp; exact rfl))) | (apply goIfT; (· (simp [*]; done))) | (apply goIfF; (· (simp [*]; done))) | (apply goIf; (· (simp; exact rfl)); (· with_reducible exact rfl)) | (apply goSplit; (· (simp; exact rfl)); (· with_reducible exact rfl)) | (apply goIfQ; (· (simp; exact rfl)); (· exact rfl)) | (apply goSplitQ; (· (simp; exact rfl)); (· exact rfl)) | (apply goBlkX; (· rfl)) | intro _)
    refine goLoop (fun m s1 H1 => H1 = H' ∧ ∃ (i : Nat), m = l.length - i ∧ i ≤ l.length ∧ get s1 0 = v ∧ get s1 1 = .int .i64 x ∧ get s1 7 = .int .i64 l.length ∧ get s1 8 = .int .i64 i ∧ idxGo x i (l.drop i) = idxGo x 0 l) l.length ?_ ?_
    · exact ⟨rfl, 0, rfl, Nat.zero_le _, rfl, rfl, rfl, rfl, rfl⟩
    · rintro m s1 H1 ⟨rfl, i, hm, hi, g3, g9, g10, g11, hgo⟩
      simp only [cut_cons, cut_nil, g3, g9, g10, g11]
      have hi0 : (0 : Int) ≤ i := Int.natCast_nonneg i
      have hd := fun h => drop_nth l i h
      have hnil : ¬ i < l.length → l.drop i = [] := fun h => List.drop_of_length_le (by omega)
      have hw1 : w ((i : Int) + 1) = ((i + 1 : Nat) : Int) := w_id (by omega)
      clear g3 g9 g10 g11
      repeat' (first | apply goSeq | apply goReg | apply goSeqN | apply goSeqR | apply goSkip | apply goRet | apply goNil | apply goBlock | apply goExit | apply goBlkN | apply goBlkR | apply goBlkE | apply goSeqE | apply goLoopR | apply goLoopE | (apply goOp; (· (simp [*]; try exact rfl)); (· exact rfl)) | (apply goOp0; (· (simp [*]; try exact rfl)); (· exact rfl)) | (apply goYes; (· (simp [*]; done)); (· (simp [*]; try exact rfl)); (· exact rfl)) | (apply goNo; (· (simp [*]; done))) | (apply goNoU; (· (simp; exact rfl))) | (apply goIfT; (· (simp [*]; done))) | (apply goIfF; (· (simp [*]; done))) | (apply goIf; (· (simp; exact rfl)); (· with_reducible exact rfl)) | (apply goSplit; (· (simp; exact rfl)); (· with_reducible exact rfl)) | (apply goIfQ; (· (simp; exact rfl)); (· exact rfl)) | (apply goSplitQ; (· (simp; exact rfl)); (· exact rfl)) | (apply goBlkX; (· rfl)) | intro _)
      all_goals first
        | (refine goEnd hw (Pre.refl _) (by simp) (by simp [rs157]; exact rfl) rfl ?_; rw [← hgo]; simp [idxGo, hd, hnil, *]; done)
        | (refine goLoopN (l.length - (i + 1)) (by omega) ⟨rfl, i + 1, rfl, by omega, rfl, rfl, rfl, rfl, ?_⟩; rw [← hgo]; simp [idxGo, hd, *])
  · cases hv
@[simp] theorem F157_at (v : AV) (x : Int) (H : Hp) : F157 [v, .int .i64 x] H = (ints H v).map fun l => .int .i64 (idxGo x 0 l) := rfl
def contains (l : List Int) (x : Int) : Bool := decide (0 ≤ idxGo x 0 l)
def F125 (args : List AV) (H : Hp) : Option AV := match args with
  | [v, .int .i64 x] => (ints H v).map fun l => .bool (contains l x)
  | _ => none
theorem snd125 : Sound Try.prog 125 (FSem.pure F125).run := by
  refine sound_of hT (EOK_cons snd157 (EOK_nil _)) mixed A125 Try.func125 hb125 (by kernel_rfl) (by kernel_rfl) (by kernel_rfl) (by kernel_rfl) sh125 2 (by kernel_rfl) rs125 hr125 ?_
  intro args H r H' hw h
  obtain ⟨rfl, hv⟩ := pureAt h
  clear h
  unfold F125 at hv
  split at hv
  · rename_i v x
    obtain ⟨l, hl, hv⟩ := Option.map_eq_some_iff.1 hv
    cases hv
    refine ⟨rfl, go ?_⟩
    unfold c125
    simp only [argSl]
    repeat' (first | apply goSeq | apply goReg | apply goSeqN | apply goSeqR | apply goSkip | apply goRet | apply goNil | apply goBlock | apply goExit | apply goBlkN | apply goBlkR | apply goBlkE | apply goSeqE | apply goLoopR | apply goLoopE | (apply goOp; (· (simp [*]; try exact rfl)); (· exact rfl)) | (apply goOp0; (· (simp [*]; try exact rfl)); (· exact rfl)) | (apply goYes; (· (simp [*]; done)); (· (simp [*]; try exact rfl)); (· exact rfl)) | (apply goNo; (· (simp [*]; done))) | (apply goNoU; (· (simp; exact rfl))) | (apply goIfT; (· (simp [*]; done))) | (apply goIfF; (· (simp [*]; done))) | (apply goIf; (· (simp; exact rfl)); (· with_reducible exact rfl)) | (apply goSplit; (· (simp; exact rfl)); (· with_reducible exact rfl)) | (apply goIfQ; (· (simp; exact rfl)); (· exact rfl)) | (apply goSplitQ; (· (simp; exact rfl)); (· exact rfl)) | (apply goBlkX; (· rfl)) | intro _)
    refine goEnd hw (Pre.refl _) (by simp) (by simp [rs125]; exact rfl) rfl ?_
    simp [contains]
  · cases hv
@[simp] theorem F125_at (v : AV) (x : Int) (H : Hp) : F125 [v, .int .i64 x] H = (ints H v).map fun l => .bool (contains l x) := rfl
/- Walks: the document's meshes; specs. -/
theorem take_nth (l : List Int) (i : Nat) (h : i < l.length) : l.take (i + 1) = l.take i ++ [nth l i] := by
  rw [List.take_add_one, List.getElem?_eq_getElem h]
  simp [nth, List.getD_eq_getElem?_getD, h]
def rGo : Nat → Int → List Int → Bool
  | _, n, [] => decide (n ≤ 8)
  | i, n, k :: l => if (3 : Int) ≤ i ∨ k < 1 ∨ 8 < k then false else rGo (i + 1) (w (n * k)) l
def rOK (l : List Int) : Bool := rGo 0 1 l
def F56 (args : List AV) (H : Hp) : Option AV := match args with
  | [v] => (ints H v).map fun l => .bool (rOK l)
  | _ => none
theorem snd56 : Sound Try.prog 56 (FSem.pure F56).run := by
  refine sound_of hT (EOK_nil _) mixed A56 Try.func56 hb56 (by kernel_rfl) (by kernel_rfl) (by kernel_rfl) (by kernel_rfl) sh56 1 (by kernel_rfl) rs56 hr56 ?_
  intro args H r H' hw h
  obtain ⟨rfl, hv⟩ := pureAt h
  clear h
  unfold F56 at hv
  split at hv
  · rename_i v
    obtain ⟨l, hl, hv⟩ := Option.map_eq_some_iff.1 hv
    cases hv
    have hlen := alenS_ints hl
    have hb := ints_len hl
    have hix := aidxS_ints hl .i64
    have hld := aload_nth T3 rfl hl
    refine ⟨rfl, go ?_⟩
    unfold c56
    simp only [argSl]
    simp only [← aidx22, ← alen22] at hix hlen
    repeat' (first | apply goSeq | apply goReg | apply goSeqN | apply goSeqR | apply goSkip | apply goRet | apply goNil | apply goBlock | apply goExit | apply goBlkN | apply goBlkR | apply goBlkE | apply goSeqE | apply goLoopR | apply goLoopE | (apply goOp; (· (simp [*]; try exact rfl)); (· exact rfl)) | (apply goOp0; (· (simp [*]; try exact rfl)); (· exact rfl)) | (apply goYes; (· (simp [*]; done)); (· (simp [*]; try exact rfl)); (· exact rfl)) | (apply goNo; (· (simp [*]; done))) | (apply goNoU; (· (simp; exact rfl))) | (apply goIfT; (· (simp [*]; done))) | (apply goIfF; (· (simp [*]; done))) | (apply goIf; (· (simp; exact rfl)); (· with_reducible exact rfl)) | (apply goSplit; (· (simp; exact rfl)); (· with_reducible exact rfl)) | (apply goIfQ; (· (simp; exact rfl)); (· exact rfl)) | (apply goSplitQ; (· (simp; exact rfl)); (· exact rfl)) | (apply goBlkX; (· rfl)) | intro _)
    refine goLoop (fun m s1 H1 => H1 = H' ∧ ∃ (i : Nat) (n : Int), m = l.length - i ∧ i ≤ l.length ∧ get s1 0 = v ∧ get s1 3 = .int .i64 n ∧ get s1 6 = .int .i64 l.length ∧ get s1 7 = .int .i64 i ∧ rGo i n (l.drop i) = rOK l) l.length ?_ ?_
    · exact ⟨rfl, 0, 1, rfl, Nat.zero_le _, rfl, rfl, rfl, rfl, rfl⟩
    · rintro m s1 H1 ⟨rfl, i, n, hm, hi, g3, g9, g10, g11, hgo⟩
      simp only [cut_cons, cut_nil, g3, g9, g10, g11]
      have hi0 : (0 : Int) ≤ i := Int.natCast_nonneg i
      have hd := fun h => drop_nth l i h
      have hnil : ¬ i < l.length → l.drop i = [] := fun h => List.drop_of_length_le (by omega)
      have hw1 : w ((i : Int) + 1) = ((i + 1 : Nat) : Int) := w_id (by omega)
      clear g3 g9 g10 g11
      repeat' (first | apply goSeq | apply goReg | apply goSeqN | apply goSeqR | apply goSkip | apply goRet | apply goNil | apply goBlock | apply goExit | apply goBlkN | apply goBlkR | apply goBlkE | apply goSeqE | apply goLoopR | apply goLoopE | (apply goOp; (· (simp [*]; try exact rfl)); (· exact rfl)) | (apply goOp0; (· (simp [*]; try exact rfl)); (· exact rfl)) | (apply goYes; (· (simp [*]; done)); (· (simp [*]; try exact rfl)); (· exact rfl)) | (apply goNo; (· (simp [*]; done))) | (apply goNoU; (· (simp; exact rfl))) | (apply goIfT; (· (simp [*]; done))) | (apply goIfF; (· (simp [*]; done))) | (apply goIf; (· (simp; exact rfl)); (· with_reducible exact rfl)) | (apply goSplit; (· (simp; exact rfl)); (· with_reducible exact rfl)) | (apply goIfQ; (· (simp; exact rfl)); (· exact rfl)) | (apply goSplitQ; (· (simp; exact rfl)); (· exact rfl)) | (apply goBlkX; (· rfl)) | intro _)
      all_goals first
        | (refine goEnd hw (Pre.refl _) (by simp) (by simp [rs56]; exact rfl) rfl ?_; rw [← hgo]; simp [rGo, hd, hnil, *]; done)
        | (refine goLoopN (l.length - (i + 1)) (by omega) ⟨rfl, i + 1, _, rfl, by omega, rfl, rfl, rfl, rfl, ?_⟩; rw [← hgo]; simp [rGo, hd, *])
  · cases hv
@[simp] theorem F56_at (v : AV) (H : Hp) : F56 [v] H = (ints H v).map fun l => .bool (rOK l) := rfl
def rDevs (l : List Int) : Int := if rOK l = true then prodW 1 l else 0
def F20 (args : List AV) (H : Hp) : Option AV := match args with
  | [v] => (ints H v).map fun l => .int .i64 (rDevs l)
  | _ => none
theorem snd20 : Sound Try.prog 20 (FSem.pure F20).run := by
  refine sound_of hT (EOK_cons snd56 (EOK_nil _)) mixed A20 Try.func20 hb20 (by kernel_rfl) (by kernel_rfl) (by kernel_rfl) (by kernel_rfl) sh20 1 (by kernel_rfl) rs20 hr20 ?_
  intro args H r H' hw h
  obtain ⟨rfl, hv⟩ := pureAt h
  clear h
  unfold F20 at hv
  split at hv
  · rename_i v
    obtain ⟨l, hl, hv⟩ := Option.map_eq_some_iff.1 hv
    cases hv
    have hlen := alenS_ints hl
    have hb := ints_len hl
    have hix := aidxS_ints hl .i64
    have hld := aload_nth T3 rfl hl
    refine ⟨rfl, go ?_⟩
    unfold c20
    simp only [argSl]
    simp only [← aidx22, ← alen22] at hix hlen
    repeat' (first | apply goSeq | apply goReg | apply goSeqN | apply goSeqR | apply goSkip | apply goRet | apply goNil | apply goBlock | apply goExit | apply goBlkN | apply goBlkR | apply goBlkE | apply goSeqE | apply goLoopR | apply goLoopE | (apply goOp; (· (simp [*]; try exact rfl)); (· exact rfl)) | (apply goOp0; (· (simp [*]; try exact rfl)); (· exact rfl)) | (apply goYes; (· (simp [*]; done)); (· (simp [*]; try exact rfl)); (· exact rfl)) | (apply goNo; (· (simp [*]; done))) | (apply goNoU; (· (simp; exact rfl))) | (apply goIfT; (· (simp [*]; done))) | (apply goIfF; (· (simp [*]; done))) | (apply goIf; (· (simp; exact rfl)); (· with_reducible exact rfl)) | (apply goSplit; (· (simp; exact rfl)); (· with_reducible exact rfl)) | (apply goIfQ; (· (simp; exact rfl)); (· exact rfl)) | (apply goSplitQ; (· (simp; exact rfl)); (· exact rfl)) | (apply goBlkX; (· rfl)) | intro _)
    · refine goEnd hw (Pre.refl _) (by simp) (by simp [rs20]; exact rfl) rfl ?_
      simp_all [rDevs]
    · rename_i hm
      have hm' : rOK l = true := by simpa using hm
      refine goLoop (fun m s1 H1 => H1 = H' ∧ ∃ (i : Nat) (n : Int), m = l.length - i ∧ i ≤ l.length ∧ get s1 0 = v ∧ get s1 3 = .int .i64 n ∧ get s1 9 = .int .i64 l.length ∧ get s1 10 = .int .i64 i ∧ prodW n (l.drop i) = rDevs l) l.length ?_ ?_
      · exact ⟨rfl, 0, 1, rfl, Nat.zero_le _, rfl, rfl, rfl, rfl, by simp [rDevs, hm']⟩
      · rintro m s1 H1 ⟨rfl, i, n, hmm, hi, g3, g9, g10, g11, hgo⟩
        simp only [cut_cons, cut_nil, g3, g9, g10, g11]
        have hi0 : (0 : Int) ≤ i := Int.natCast_nonneg i
        have hd := fun h => drop_nth l i h
        have hnil : ¬ i < l.length → l.drop i = [] := fun h => List.drop_of_length_le (by omega)
        have hw1 : w ((i : Int) + 1) = ((i + 1 : Nat) : Int) := w_id (by omega)
        clear g3 g9 g10 g11
        repeat' (first | apply goSeq | apply goReg | apply goSeqN | apply goSeqR | apply goSkip | apply goRet | apply goNil | apply goBlock | apply goExit | apply goBlkN | apply goBlkR | apply goBlkE | apply goSeqE | apply goLoopR | apply goLoopE | (apply goOp; (· (simp [*]; try exact rfl)); (· exact rfl)) | (apply goOp0; (· (simp [*]; try exact rfl)); (· exact rfl)) | (apply goYes; (· (simp [*]; done)); (· (simp [*]; try exact rfl)); (· exact rfl)) | (apply goNo; (· (simp [*]; done))) | (apply goNoU; (· (simp; exact rfl))) | (apply goIfT; (· (simp [*]; done))) | (apply goIfF; (· (simp [*]; done))) | (apply goIf; (· (simp; exact rfl)); (· with_reducible exact rfl)) | (apply goSplit; (· (simp; exact rfl)); (· with_reducible exact rfl)) | (apply goIfQ; (· (simp; exact rfl)); (· exact rfl)) | (apply goSplitQ; (· (simp; exact rfl)); (· exact rfl)) | (apply goBlkX; (· rfl)) | intro _)
        all_goals first
          | (refine goEnd hw (Pre.refl _) (by simp) (by simp [rs20]; exact rfl) rfl ?_; rw [← hgo]; simp [prodW, hd, hnil, *]; done)
          | (refine goLoopN (l.length - (i + 1)) (by omega) ⟨rfl, i + 1, _, rfl, by omega, rfl, rfl, rfl, rfl, ?_⟩; rw [← hgo]; simp [prodW, hd, *])
  · cases hv
@[simp] theorem F20_at (v : AV) (H : Hp) : F20 [v] H = (ints H v).map fun l => .int .i64 (rDevs l) := rfl
def specGo (n : Int) : List Int → List Int → Bool
  | _, [] => true
  | pre, k :: r => if k < -1 ∨ n ≤ k then false else if k ≠ -1 ∧ contains pre k = true then false else specGo n (pre ++ [k]) r
def specOK (sz sp : List Int) (rank : Int) : Bool := if meshOK sz = false ∨ (sp.length : Int) ≠ rank then false else specGo sz.length [] sp
def F63 (args : List AV) (H : Hp) : Option AV := match args with
  | [a, b, .int .i64 r] => (ints H a).bind fun sz => (ints H b).map fun sp => .bool (specOK sz sp r)
  | _ => none
set_option maxHeartbeats 1000000 in
theorem snd63 : Sound Try.prog 63 (FSem.pure F63).run := by
  refine sound_of hT (EOK_cons snd89 (EOK_cons snd125 (EOK_nil _))) mixed A63 Try.func63 hb63 (by kernel_rfl) (by kernel_rfl) (by kernel_rfl) (by kernel_rfl) sh63 3 (by kernel_rfl) rs63 hr63 ?_
  intro args H r H' hw h
  obtain ⟨rfl, hv⟩ := pureAt h
  clear h
  unfold F63 at hv
  split at hv
  · rename_i a v r
    obtain ⟨sz, hsz, hv⟩ := Option.bind_eq_some_iff.1 hv
    obtain ⟨l, hl, hv⟩ := Option.map_eq_some_iff.1 hv
    cases hv
    have hlen := alenS_ints hl
    have hb := ints_len hl
    have hix := aidxS_ints hl .i64
    have hld := aload_nth T3 rfl hl
    have hlen2 := alenS_ints hsz
    have hsl := aslice_pre hl .i64
    have hpre := ints_pre hl
    refine ⟨rfl, go ?_⟩
    unfold c63
    simp only [argSl]
    simp only [← aidx22, ← alen22] at hix hlen hlen2
    have hx := @xdo_slice22
    repeat' (first | apply goSeq | apply goReg | apply goSeqN | apply goSeqR | apply goSkip | apply goRet | apply goNil | apply goBlock | apply goExit | apply goBlkN | apply goBlkR | apply goBlkE | apply goSeqE | apply goLoopR | apply goLoopE | (apply goOp; (· (simp [*]; try exact rfl)); (· exact rfl)) | (apply goOp0; (· (simp [*]; try exact rfl)); (· exact rfl)) | (apply goYes; (· (simp [*]; done)); (· (simp [*]; try exact rfl)); (· exact rfl)) | (apply goNo; (· (simp [*]; done))) | (apply goNoU; (· (simp; exact rfl))) | (apply goIfT; (· (simp [*]; done))) | (apply goIfF; (· (simp [*]; done))) | (apply goIf; (· (simp; exact rfl)); (· with_reducible exact rfl)) | (apply goSplit; (· (simp; exact rfl)); (· with_reducible exact rfl)) | (apply goIfQ; (· (simp; exact rfl)); (· exact rfl)) | (apply goSplitQ; (· (simp; exact rfl)); (· exact rfl)) | (apply goBlkX; (· rfl)) | intro _)
    · refine goEnd hw (Pre.refl _) (by simp) (by simp [rs63]; exact rfl) rfl ?_
      simp_all [specOK]
    · refine goEnd hw (Pre.refl _) (by simp) (by simp [rs63]; exact rfl) rfl ?_
      simp_all [specOK]
    · rename_i hm hr
      have hm' : meshOK sz = true := by simpa using hm
      have hr' : (l.length : Int) = r := by simpa using hr
      clear hr
      subst hr'
      refine goLoop (fun m s1 H1 => H1 = H' ∧ ∃ (i : Nat), m = l.length - i ∧ i ≤ l.length ∧ get s1 0 = a ∧ get s1 1 = v ∧ get s1 18 = v ∧ get s1 19 = .int .i64 l.length ∧ get s1 20 = .int .i64 i ∧ specGo sz.length (l.take i) (l.drop i) = specOK sz l l.length) l.length ?_ ?_
      · exact ⟨rfl, 0, rfl, Nat.zero_le _, rfl, rfl, rfl, rfl, rfl, by simp [specOK, hm']⟩
      · rintro m s1 H1 ⟨rfl, i, hmm, hi, g3, g9, g10, g11, g12, hgo⟩
        simp only [cut_cons, cut_nil, g3, g9, g10, g11, g12]
        have hi0 : (0 : Int) ≤ i := Int.natCast_nonneg i
        have hd := fun h => drop_nth l i h
        have ht := fun h => take_nth l i h
        have hnil : ¬ i < l.length → l.drop i = [] := fun h => List.drop_of_length_le (by omega)
        have hw1 : w ((i : Int) + 1) = ((i + 1 : Nat) : Int) := w_id (by omega)
        clear g3 g9 g10 g11 g12 hm
        replace hgo := Hide.mk hgo
        replace hm' := Hide.mk hm'
        have hz : ¬ (sz.length : Int) ≤ -1 := by omega
        repeat' (first | apply goSeq | apply goReg | apply goSeqN | apply goSeqR | apply goSkip | apply goRet | apply goNil | apply goBlock | apply goExit | apply goBlkN | apply goBlkR | apply goBlkE | apply goSeqE | apply goLoopR | apply goLoopE | (apply goOp; (· (simp [*]; try exact rfl)); (· exact rfl)) | (apply goOp0; (· (simp [*]; try exact rfl)); (· exact rfl)) | (apply goYes; (· (simp [*]; done)); (· (simp [*]; try exact rfl)); (· exact rfl)) | (apply goNo; (· (simp [*]; done))) | (apply goNoU; (· (simp; exact rfl))) | (apply goIfT; (· (simp [*]; done))) | (apply goIfF; (· (simp [*]; done))) | (apply goIf; (· (simp; exact rfl)); (· with_reducible exact rfl)) | (apply goSplit; (· (simp; exact rfl)); (· with_reducible exact rfl)) | (apply goIfQ; (· (simp; exact rfl)); (· exact rfl)) | (apply goSplitQ; (· (simp; exact rfl)); (· exact rfl)) | (apply goBlkX; (· rfl)) | intro _)
        all_goals replace hgo := hgo.out
        all_goals (try simp only [Bool.not_eq_true', decide_eq_false_iff_not, Bool.not_eq_false', decide_eq_true_eq] at *)
        all_goals first
          | (refine goEnd hw (Pre.refl _) (by simp) (by simp [rs63]; exact rfl) rfl ?_; rw [← hgo]; simp [specGo, hd, hnil, *]; done)
          | (refine goLoopN (l.length - (i + 1)) (by omega) ⟨rfl, i + 1, rfl, by omega, rfl, rfl, rfl, rfl, rfl, ?_⟩; rw [← hgo]; simp [specGo, hd, ht, *]; done)
  · cases hv
@[simp] theorem F63_at (a b : AV) (r : Int) (H : Hp) : F63 [a, b, .int .i64 r] H = (ints H a).bind fun sz => (ints H b).map fun sp => .bool (specOK sz sp r) := rfl
def anyEq (x : Int) : List Int → Bool
  | [] => false
  | a :: l => if a = x then true else anyEq x l
def rSpecGo (n : Int) : List Int → List Int → Bool
  | _, [] => true
  | pre, k :: r => if k < -1 ∨ n ≤ k then false else if 0 ≤ k ∧ anyEq k pre = true then false else rSpecGo n (pre ++ [k]) r
def rSpecOK (sz sp : List Int) (rank : Int) : Bool := if rOK sz = false ∨ (sp.length : Int) ≠ rank then false else rSpecGo sz.length [] sp
def F58 (args : List AV) (H : Hp) : Option AV := match args with
  | [a, b, .int .i64 r] => (ints H a).bind fun sz => (ints H b).map fun sp => .bool (rSpecOK sz sp r)
  | _ => none
theorem nth_take (l : List Int) (i k : Nat) (h : k < i) : nth (l.take i) k = nth l k := by
  simp [nth, List.getD_eq_getElem?_getD, List.getElem?_take, h]
set_option maxHeartbeats 1000000 in
theorem snd58 : Sound Try.prog 58 (FSem.pure F58).run := by
  refine sound_of hT (EOK_cons snd56 (EOK_nil _)) mixed A58 Try.func58 hb58 (by kernel_rfl) (by kernel_rfl) (by kernel_rfl) (by kernel_rfl) sh58 3 (by kernel_rfl) rs58 hr58 ?_
  intro args H r H' hw h
  obtain ⟨rfl, hv⟩ := pureAt h
  clear h
  unfold F58 at hv
  split at hv
  · rename_i a v r
    obtain ⟨sz, hsz, hv⟩ := Option.bind_eq_some_iff.1 hv
    obtain ⟨l, hl, hv⟩ := Option.map_eq_some_iff.1 hv
    cases hv
    have hlen := alenS_ints hl
    have hb := ints_len hl
    have hix := aidxS_ints hl .i64
    have hld := aload_nth T3 rfl hl
    have hlen2 := alenS_ints hsz
    refine ⟨rfl, go ?_⟩
    unfold c58
    simp only [argSl]
    simp only [← aidx22, ← alen22] at hix hlen hlen2
    repeat' (first | apply goSeq | apply goReg | apply goSeqN | apply goSeqR | apply goSkip | apply goRet | apply goNil | apply goBlock | apply goExit | apply goBlkN | apply goBlkR | apply goBlkE | apply goSeqE | apply goLoopR | apply goLoopE | (apply goOp; (· (simp [*]; try exact rfl)); (· exact rfl)) | (apply goOp0; (· (simp [*]; try exact rfl)); (· exact rfl)) | (apply goYes; (· (simp [*]; done)); (· (simp [*]; try exact rfl)); (· exact rfl)) | (apply goNo; (· (simp [*]; done))) | (apply goNoU; (· (simp; exact rfl))) | (apply goIfT; (· (simp [*]; done))) | (apply goIfF; (· (simp [*]; done))) | (apply goIf; (· (simp; exact rfl)); (· with_reducible exact rfl)) | (apply goSplit; (· (simp; exact rfl)); (· with_reducible exact rfl)) | (apply goIfQ; (· (simp; exact rfl)); (· exact rfl)) | (apply goSplitQ; (· (simp; exact rfl)); (· exact rfl)) | (apply goBlkX; (· rfl)) | intro _)
    · refine goEnd hw (Pre.refl _) (by simp) (by simp [rs58]; exact rfl) rfl ?_
      simp_all [rSpecOK]
    · refine goEnd hw (Pre.refl _) (by simp) (by simp [rs58]; exact rfl) rfl ?_
      simp_all [rSpecOK]
    · rename_i hm hr
      have hm' : rOK sz = true := by simpa using hm
      have hr' : (l.length : Int) = r := by simpa using hr
      clear hr hv
      subst hr'
      refine goLoop (fun m s1 H1 => H1 = H' ∧ ∃ (i : Nat), m = l.length - i ∧ i ≤ l.length ∧ get s1 0 = a ∧ get s1 1 = v ∧ get s1 19 = .int .i64 l.length ∧ get s1 20 = .int .i64 i ∧ rSpecGo sz.length (l.take i) (l.drop i) = rSpecOK sz l l.length) l.length ?_ ?_
      · exact ⟨rfl, 0, rfl, Nat.zero_le _, rfl, rfl, rfl, rfl, by simp [rSpecOK, hm']⟩
      · rintro m s1 H1 ⟨rfl, i, hmm, hi, g3, g9, g11, g12, hgo⟩
        simp only [cut_cons, cut_nil, g3, g9, g11, g12]
        have hi0 : (0 : Int) ≤ i := Int.natCast_nonneg i
        have hd := fun h => drop_nth l i h
        have ht := fun h => take_nth l i h
        have hnil : ¬ i < l.length → l.drop i = [] := fun h => List.drop_of_length_le (by omega)
        have hw1 : w ((i : Int) + 1) = ((i + 1 : Nat) : Int) := w_id (by omega)
        clear g3 g9 g11 g12 hm
        replace hgo := Hide.mk hgo
        replace hm' := Hide.mk hm'
        repeat' (first | apply goSeq | apply goReg | apply goSeqN | apply goSeqR | apply goSkip | apply goRet | apply goNil | apply goBlock | apply goExit | apply goBlkN | apply goBlkR | apply goBlkE | apply goSeqE | apply goLoopR | apply goLoopE | (apply goOp; (· (simp [*]; try exact rfl)); (· exact rfl)) | (apply goOp0; (· (simp [*]; try exact rfl)); (· exact rfl)) | (apply goYes; (· (simp [*]; done)); (· (simp [*]; try exact rfl)); (· exact rfl)) | (apply goNo; (· (simp [*]; done))) | (apply goNoU; (· (simp; exact rfl))) | (apply goIfT; (· (simp [*]; done))) | (apply goIfF; (· (simp [*]; done))) | (apply goIf; (· (simp; exact rfl)); (· with_reducible exact rfl)) | (apply goSplit; (· (simp; exact rfl)); (· with_reducible exact rfl)) | (apply goIfQ; (· (simp; exact rfl)); (· exact rfl)) | (apply goSplitQ; (· (simp; exact rfl)); (· exact rfl)) | (apply goBlkX; (· rfl)) | intro _)
        all_goals replace hgo := hgo.out
        all_goals (try simp only [Bool.not_eq_true', decide_eq_false_iff_not, Bool.not_eq_false', decide_eq_true_eq] at *)
        all_goals first
          | (refine goEnd hw (Pre.refl _) (by simp) (by simp [rs58]; exact rfl) rfl ?_; rw [← hgo]; simp [rSpecGo, hd, hnil, *]; done)
          | skip
        rename_i hlt hn1 hn2
        refine goLoop (fun m s1 H2 => H2 = H1 ∧ ∃ (k : Nat), m = i - k ∧ k ≤ i ∧ get s1 0 = a ∧ get s1 1 = v ∧ get s1 7 = .int .i64 i ∧ get s1 8 = .int .i64 k ∧ get s1 19 = .int .i64 l.length ∧ get s1 20 = .int .i64 i ∧ anyEq (nth l i) ((l.take i).drop k) = anyEq (nth l i) (l.take i)) i ?_ ?_
        · exact ⟨rfl, 0, rfl, Nat.zero_le _, rfl, rfl, rfl, rfl, rfl, rfl, rfl⟩
        · rintro m2 s2 H2 ⟨rfl, k, hmk, hk, g3, g9, g11, g12, g13, g14, hg2⟩
          simp only [cut_cons, cut_nil, g3, g9, g11, g12, g13, g14]
          clear g3 g9 g11 g12 g13 g14
          have hk0 : (0 : Int) ≤ k := Int.natCast_nonneg k
          have hki : k < i → k < l.length := by omega
          have hdk : k < i → (l.take i).drop k = nth l k :: (l.take i).drop (k + 1) := by
            intro h
            rw [drop_nth (l.take i) k (by simp; omega), nth_take l i k h]
          have hdn : ¬ k < i → (l.take i).drop k = [] := fun h => List.drop_of_length_le (by simp; omega)
          have hw2 : w ((k : Int) + 1) = ((k + 1 : Nat) : Int) := w_id (by omega)
          replace hgo := Hide.mk hgo
          replace hg2 := Hide.mk hg2
          repeat' (first | apply goSeq | apply goReg | apply goSeqN | apply goSeqR | apply goSkip | apply goRet | apply goNil | apply goBlock | apply goExit | apply goBlkN | apply goBlkR | apply goBlkE | apply goSeqE | apply goLoopR | apply goLoopE | (apply goOp; (· (simp [*]; try exact rfl)); (· exact rfl)) | (apply goOp0; (· (simp [*]; try exact rfl)); (· exact rfl)) | (apply goYes; (· (simp [*]; done)); (· (simp [*]; try exact rfl)); (· exact rfl)) | (apply goNo; (· (simp [*]; done))) | (apply goNoU; (· (simp; exact rfl))) | (apply goIfT; (· (simp [*]; done))) | (apply goIfF; (· (simp [*]; done))) | (apply goIf; (· (simp; exact rfl)); (· with_reducible exact rfl)) | (apply goSplit; (· (simp; exact rfl)); (· with_reducible exact rfl)) | (apply goIfQ; (· (simp; exact rfl)); (· exact rfl)) | (apply goSplitQ; (· (simp; exact rfl)); (· exact rfl)) | (apply goBlkX; (· rfl)) | intro _)
          all_goals replace hgo := hgo.out
          all_goals replace hg2 := hg2.out
          all_goals (try simp only [Bool.not_eq_true', decide_eq_false_iff_not, Bool.not_eq_false', decide_eq_true_eq] at *)
          · have hq : anyEq (nth l i) (l.take i) = true := by rw [← hg2, hdk (by assumption)]; simp [anyEq, *]
            refine goEnd hw (Pre.refl _) (by simp) (by simp [rs58]; exact rfl) rfl ?_
            rw [← hgo, hd hlt]; simp [rSpecGo, *]
          · refine goLoopN (i - (k + 1)) (by omega) ⟨rfl, k + 1, rfl, by omega, rfl, rfl, rfl, rfl, rfl, rfl, ?_⟩
            rw [← hg2, hdk (by assumption)]; simp [anyEq, *]
          · rename_i hneg
            refine goLoopN (l.length - (i + 1)) (by omega) ⟨rfl, i + 1, rfl, by omega, rfl, rfl, rfl, rfl, ?_⟩
            rw [← hgo, hd hlt, ht hlt]; simp [rSpecGo, hn1, hn2, hneg]
          · have hq : anyEq (nth l i) (l.take i) = false := by rw [← hg2, hdn (by assumption)]; rfl
            refine goLoopN (l.length - (i + 1)) (by omega) ⟨rfl, i + 1, rfl, by omega, rfl, rfl, rfl, rfl, ?_⟩
            rw [← hgo, hd hlt, ht hlt]; simp [rSpecGo, hn1, hn2, hq]
  · cases hv
@[simp] theorem F58_at (a b : AV) (r : Int) (H : Hp) : F58 [a, b, .int .i64 r] H = (ints H a).bind fun sz => (ints H b).map fun sp => .bool (rSpecOK sz sp r) := rfl
/- Walks: parts, copies. -/
def partOf (sz : List Int) (k : Int) : Int := if 0 ≤ k then nth sz k else 1
def rParts (sz sp : List Int) : List Int := if rOK sz = true ∧ rSpecOK sz sp sp.length = true then sp.map (partOf sz) else []
theorem map_take (f : Int → Int) (l : List Int) (i : Nat) (h : i < l.length) : (l.take (i + 1)).map f = (l.take i).map f ++ [f (nth l i)] := by
  rw [take_nth l i h]; simp
def F59 (args : List AV) (H : Hp) : Option (AV × Hp) := match args with
  | [a, b] => (ints H a).bind fun sz => (ints H b).bind fun sp => if sp.length < 1099511627776 then some (mkS H (rParts sz sp)) else none
  | _ => none
theorem rSpecGo_lt {n : Int} : ∀ (l pre : List Int), rSpecGo n pre l = true → ∀ (i : Nat), i < l.length → -1 ≤ nth l i ∧ nth l i < n := by
  intro l
  induction l with
  | nil => intro pre _ i hi; simp at hi
  | cons a l ih =>
    intro pre h i hi
    simp only [rSpecGo] at h
    split at h
    · cases h
    · rename_i h1
      split at h
      · cases h
      · cases i with
        | zero => simp [nth]; omega
        | succ i =>
          have := ih _ h i (by simpa using hi)
          simpa [nth] using this
set_option maxHeartbeats 1000000 in
theorem snd59 : Sound Try.prog 59 (FSem.eff F59).run := by
  refine sound_of hT (EOK_cons snd56 (EOK_cons snd58 (EOK_nil _))) mixed A59 Try.func59 hb59 (by kernel_rfl) (by kernel_rfl) (by kernel_rfl) (by kernel_rfl) sh59 2 (by kernel_rfl) rs59 hr59 ?_
  intro args H r H' hw h
  have hv : F59 args H = some (r, H') := h
  clear h
  unfold F59 at hv
  split at hv
  · rename_i a v
    obtain ⟨sz, hsz, hv⟩ := Option.bind_eq_some_iff.1 hv
    obtain ⟨l, hl, hv⟩ := Option.bind_eq_some_iff.1 hv
    split at hv
    rotate_left
    · cases hv
    rename_i hmax
    replace hv : mkS H (rParts sz l) = (r, H') := Option.some.inj hv
    have hlen := alenS_ints hl
    have hb := ints_len hl
    have hix := aidxS_ints hl .i64
    have hld := fun {H1 : Hp} (he : Pre H H1) => aload_nth T3 rfl (ints_ext he hl)
    have hix2 := aidxS_ints hsz .i64
    have hld2 := fun {H1 : Hp} (he : Pre H H1) => aload_nth T3 rfl (ints_ext he hsz)
    refine ⟨rfl, go ?_⟩
    unfold c59
    simp only [argSl]
    simp only [← aidx22, ← alen22] at hix hix2 hlen
    replace hv := Hide.mk hv
    repeat' (first | apply goSeq | apply goReg | apply goSeqN | apply goSeqR | apply goSkip | apply goRet | apply goNil | apply goBlock | apply goExit | apply goBlkN | apply goBlkR | apply goBlkE | apply goSeqE | apply goLoopR | apply goLoopE | (apply goOp; (· (simp [*]; try exact rfl)); (· exact rfl)) | (apply goOp0; (· (simp [*]; try exact rfl)); (· exact rfl)) | (apply goYes; (· (simp [*]; done)); (· (simp [*]; try exact rfl)); (· exact rfl)) | (apply goNo; (· (simp [*]; done))) | (apply goNoU; (· (simp; exact rfl))) | (apply goIfT; (· (simp [*]; done))) | (apply goIfF; (· (simp [*]; done))) | (apply goIf; (· (simp; exact rfl)); (· with_reducible exact rfl)) | (apply goSplit; (· (simp; exact rfl)); (· with_reducible exact rfl)) | (apply goIfQ; (· (simp; exact rfl)); (· exact rfl)) | (apply goSplitQ; (· (simp; exact rfl)); (· exact rfl)) | (apply goBlkX; (· rfl)) | intro _)
    · refine goEndS hw (Ext.refl hw) (.inl ⟨rfl, rfl⟩) (by simp) (by simp [rs59]) rfl ?_
      rw [← hv.out]
      simp_all [rParts]
    · refine goEndS hw (Ext.refl hw) (.inl ⟨rfl, rfl⟩) (by simp) (by simp [rs59]) rfl ?_
      rw [← hv.out]
      simp_all [rParts]
    · rename_i h1 h2
      have h1' : rOK sz = true := by simpa using h1
      have h2' : rSpecOK sz l l.length = true := by simpa using h2
      have hall : ∀ i : Nat, i < l.length → nth l i < sz.length := by
        intro i hi
        have : rSpecGo sz.length [] l = true := by
          have := h2'
          unfold rSpecOK at this
          rw [if_neg (by simp [h1'])] at this
          exact this
        exact (rSpecGo_lt l [] this i hi).2
      have hres : rParts sz l = l.map (partOf sz) := by simp [rParts, h1', h2']
      rw [hres] at hv
      clear h1 h2 h1' h2' hres
      refine goLoop (fun m s1 H1 => Ext H H1 ∧ ∃ (i : Nat) (u : AV), m = l.length - i ∧ i ≤ l.length ∧ get s1 0 = a ∧ get s1 1 = v ∧ get s1 5 = u ∧ get s1 20 = .int .i64 l.length ∧ get s1 21 = .int .i64 i ∧ Own H H1 u ((l.take i).map (partOf sz))) l.length ?_ ?_
      · exact ⟨Ext.refl hw, 0, .nilS, rfl, Nat.zero_le _, rfl, rfl, rfl, rfl, rfl, .inl ⟨rfl, rfl⟩⟩
      · rintro m s1 H1 ⟨he, i, u, hmm, hi, g1, g2, g3, g4, g5, ho⟩
        simp only [cut_cons, cut_nil, g1, g2, g3, g4, g5]
        clear g1 g2 g3 g4 g5
        have hi0 : (0 : Int) ≤ i := Int.natCast_nonneg i
        have hw1 : w ((i : Int) + 1) = ((i + 1 : Nat) : Int) := w_id (by omega)
        have hl1 := hld he.pre
        have hl2 := hld2 he.pre
        have hlt := hall i
        have hm := map_take (partOf sz) l i
        replace ho := Hide.mk ho
        repeat' (first | apply goSeq | apply goReg | apply goSeqN | apply goSeqR | apply goSkip | apply goRet | apply goNil | apply goBlock | apply goExit | apply goBlkN | apply goBlkR | apply goBlkE | apply goSeqE | apply goLoopR | apply goLoopE | (apply goOp; (· (simp [*]; try exact rfl)); (· exact rfl)) | (apply goOp0; (· (simp [*]; try exact rfl)); (· exact rfl)) | (apply goYes; (· (simp [*]; done)); (· (simp [*]; try exact rfl)); (· exact rfl)) | (apply goNo; (· (simp [*]; done))) | (apply goNoU; (· (simp; exact rfl))) | (apply goIfT; (· (simp [*]; done))) | (apply goIfF; (· (simp [*]; done))) | (apply goIf; (· (simp; exact rfl)); (· with_reducible exact rfl)) | (apply goSplit; (· (simp; exact rfl)); (· with_reducible exact rfl)) | (apply goIfQ; (· (simp; exact rfl)); (· exact rfl)) | (apply goSplitQ; (· (simp; exact rfl)); (· exact rfl)) | (apply goBlkX; (· rfl)) | intro _)
        · rename_i hil hk
          obtain ⟨u', H2, e, ho', he'⟩ := app_own hw he ho.out (by simp; omega) (nth sz (nth l i))
          refine goOp (v := u') (H' := H2) rfl (by simp; exact e) ?_
          repeat' (first | apply goSeq | apply goReg | apply goSeqN | apply goSeqR | apply goSkip | apply goRet | apply goNil | apply goBlock | apply goExit | apply goBlkN | apply goBlkR | apply goBlkE | apply goSeqE | apply goLoopR | apply goLoopE | (apply goOp; (· (simp [*]; try exact rfl)); (· exact rfl)) | (apply goOp0; (· (simp [*]; try exact rfl)); (· exact rfl)) | (apply goYes; (· (simp [*]; done)); (· (simp [*]; try exact rfl)); (· exact rfl)) | (apply goNo; (· (simp [*]; done))) | (apply goNoU; (· (simp; exact rfl))) | (apply goIfT; (· (simp [*]; done))) | (apply goIfF; (· (simp [*]; done))) | (apply goIf; (· (simp; exact rfl)); (· with_reducible exact rfl)) | (apply goSplit; (· (simp; exact rfl)); (· with_reducible exact rfl)) | (apply goIfQ; (· (simp; exact rfl)); (· exact rfl)) | (apply goSplitQ; (· (simp; exact rfl)); (· exact rfl)) | (apply goBlkX; (· rfl)) | intro _)
          exact goLoopN (l.length - (i + 1)) (by omega) ⟨he', i + 1, u', rfl, by omega, rfl, rfl, rfl, rfl, rfl, by rw [hm hil]; simpa [partOf, hk] using ho'⟩
        · rename_i hil hk
          obtain ⟨u', H2, e, ho', he'⟩ := app_own hw he ho.out (by simp; omega) 1
          refine goOp (v := u') (H' := H2) rfl (by simp; exact e) ?_
          repeat' (first | apply goSeq | apply goReg | apply goSeqN | apply goSeqR | apply goSkip | apply goRet | apply goNil | apply goBlock | apply goExit | apply goBlkN | apply goBlkR | apply goBlkE | apply goSeqE | apply goLoopR | apply goLoopE | (apply goOp; (· (simp [*]; try exact rfl)); (· exact rfl)) | (apply goOp0; (· (simp [*]; try exact rfl)); (· exact rfl)) | (apply goYes; (· (simp [*]; done)); (· (simp [*]; try exact rfl)); (· exact rfl)) | (apply goNo; (· (simp [*]; done))) | (apply goNoU; (· (simp; exact rfl))) | (apply goIfT; (· (simp [*]; done))) | (apply goIfF; (· (simp [*]; done))) | (apply goIf; (· (simp; exact rfl)); (· with_reducible exact rfl)) | (apply goSplit; (· (simp; exact rfl)); (· with_reducible exact rfl)) | (apply goIfQ; (· (simp; exact rfl)); (· exact rfl)) | (apply goSplitQ; (· (simp; exact rfl)); (· exact rfl)) | (apply goBlkX; (· rfl)) | intro _)
          exact goLoopN (l.length - (i + 1)) (by omega) ⟨he', i + 1, u', rfl, by omega, rfl, rfl, rfl, rfl, rfl, by rw [hm hil]; simpa [partOf, hk] using ho'⟩
        · rename_i hil
          have : l.take i = l := List.take_of_length_le (by omega)
          refine goEndS hw he ho.out (by simp) (by simp [rs59]) rfl ?_
          rw [← hv.out, this]
  · cases hv
@[simp] theorem F59_at (a b : AV) (H : Hp) : F59 [a, b] H = (ints H a).bind fun sz => (ints H b).bind fun sp => if sp.length < 1099511627776 then some ((mkS H (rParts sz sp)).1, (mkS H (rParts sz sp)).2) else none := rfl
theorem rGo_pos : ∀ (l : List Int) (i : Nat) (n : Int), rGo i n l = true → ∀ (j : Nat), j < l.length → 1 ≤ nth l j ∧ nth l j ≤ 8 := by
  intro l
  induction l with
  | nil => intro i n _ j hj; simp at hj
  | cons a l ih =>
    intro i n h j hj
    simp only [rGo] at h
    split at h
    · cases h
    · rename_i h1
      cases j with
      | zero => simp [nth]; omega
      | succ j =>
        have := ih _ _ h j (by simpa using hj)
        simpa [nth] using this
theorem rSpec_lt {sz sp : List Int} {r : Int} (h1 : rOK sz = true) (h2 : rSpecOK sz sp r = true) : ∀ i : Nat, i < sp.length → -1 ≤ nth sp i ∧ nth sp i < sz.length := by
  unfold rSpecOK at h2
  split at h2
  · cases h2
  · exact rSpecGo_lt sp [] h2
theorem nth_map (f : Int → Int) (l : List Int) (i : Nat) (h : i < l.length) : nth (l.map f) i = f (nth l i) := by
  simp [nth, List.getD_eq_getElem?_getD, h]
theorem rParts_pos {sz sp : List Int} (h1 : rOK sz = true) (h2 : rSpecOK sz sp sp.length = true) : rParts sz sp = sp.map (partOf sz) ∧ ∀ i : Nat, i < (rParts sz sp).length → 1 ≤ nth (rParts sz sp) i := by
  have e : rParts sz sp = sp.map (partOf sz) := by simp [rParts, h1, h2]
  refine ⟨e, fun i hi => ?_⟩
  rw [e] at hi ⊢
  simp at hi
  rw [nth_map _ _ _ hi]
  unfold partOf
  split
  · rename_i h0
    have h3 := (rSpec_lt h1 h2 i hi).2
    have := (rGo_pos sz 0 1 h1 (nth sp i).toNat (by omega)).1
    rwa [Int.toNat_of_nonneg h0] at this
  · omega
def divW : Int → List Int → Int
  | n, [] => n
  | n, k :: l => divW (w (n.tdiv k)) l
def rCopies (sz sp : List Int) : Int := if rOK sz = true ∧ rSpecOK sz sp sp.length = true then divW (rDevs sz) (rParts sz sp) else 0
def F23 (args : List AV) (H : Hp) : Option AV := match args with
  | [a, b] => (ints H a).bind fun sz => (ints H b).bind fun sp => if sp.length < 1099511627776 then some (.int .i64 (rCopies sz sp)) else none
  | _ => none
set_option maxHeartbeats 1000000 in
theorem snd23 : Sound Try.prog 23 (FSem.pure F23).run := by
  refine sound_of hT (EOK_cons snd56 (EOK_cons snd58 (EOK_cons snd20 (EOK_cons snd59 (EOK_nil _))))) mixed A23 Try.func23 hb23 (by kernel_rfl) (by kernel_rfl) (by kernel_rfl) (by kernel_rfl) sh23 2 (by kernel_rfl) rs23 hr23 ?_
  intro args H r H' hw h
  obtain ⟨rfl, hv⟩ := pureAt h
  clear h
  unfold F23 at hv
  split at hv
  · rename_i a v
    obtain ⟨sz, hsz, hv⟩ := Option.bind_eq_some_iff.1 hv
    obtain ⟨l, hl, hv⟩ := Option.bind_eq_some_iff.1 hv
    split at hv
    rotate_left
    · cases hv
    rename_i hmax
    replace hv : AV.int .i64 (rCopies sz l) = r := Option.some.inj hv
    subst hv
    have hlen := alenS_ints hl
    have hP := mkS_ext hw (rParts sz l)
    have hpl : (rParts sz l).length ≤ l.length := by unfold rParts; split <;> simp
    have hpi := ints_of_own (mkS_own H' (rParts sz l)) (by omega)
    have hlen3 := alenS_ints hpi
    have hix3 := aidxS_ints hpi .i64
    have hld3 := aload_nth T3 rfl hpi
    refine ⟨rfl, go ?_⟩
    unfold c23
    simp only [argSl]
    simp only [← aidx22, ← alen22] at hix3 hlen hlen3
    replace hP := Hide.mk hP
    replace hpi := Hide.mk hpi
    repeat' (first | apply goSeq | apply goReg | apply goSeqN | apply goSeqR | apply goSkip | apply goRet | apply goNil | apply goBlock | apply goExit | apply goBlkN | apply goBlkR | apply goBlkE | apply goSeqE | apply goLoopR | apply goLoopE | (apply goOp; (· (simp [*]; try exact rfl)); (· exact rfl)) | (apply goOp0; (· (simp [*]; try exact rfl)); (· exact rfl)) | (apply goYes; (· (simp [*]; done)); (· (simp [*]; try exact rfl)); (· exact rfl)) | (apply goNo; (· (simp [*]; done))) | (apply goNoU; (· (simp; exact rfl))) | (apply goIfT; (· (simp [*]; done))) | (apply goIfF; (· (simp [*]; done))) | (apply goIf; (· (simp; exact rfl)); (· with_reducible exact rfl)) | (apply goSplit; (· (simp; exact rfl)); (· with_reducible exact rfl)) | (apply goIfQ; (· (simp; exact rfl)); (· exact rfl)) | (apply goSplitQ; (· (simp; exact rfl)); (· exact rfl)) | (apply goBlkX; (· rfl)) | intro _)
    · refine goEnd hw (Pre.refl _) (by simp) (by simp [rs23]; exact rfl) rfl ?_
      simp_all [rCopies]
    · refine goEnd hw (Pre.refl _) (by simp) (by simp [rs23]; exact rfl) rfl ?_
      simp_all [rCopies]
    · rename_i h1 h2
      have h1' : rOK sz = true := by simpa using h1
      have h2' : rSpecOK sz l l.length = true := by simpa using h2
      have hpos := (rParts_pos h1' h2').2
      have hres : rCopies sz l = divW (rDevs sz) (rParts sz l) := by simp [rCopies, h1', h2']
      rw [hres]
      clear hres h1 h2
      generalize hL : rParts sz l = L at *
      refine goLoop (fun m s1 H1 => H1 = (mkS H' L).2 ∧ ∃ (i : Nat) (n : Int), m = L.length - i ∧ i ≤ L.length ∧ get s1 5 = .int .i64 n ∧ get s1 23 = (mkS H' L).1 ∧ get s1 24 = .int .i64 L.length ∧ get s1 25 = .int .i64 i ∧ divW n (L.drop i) = divW (rDevs sz) L) L.length ?_ ?_
      · exact ⟨rfl, 0, _, rfl, Nat.zero_le _, rfl, rfl, rfl, rfl, rfl⟩
      · rintro m s1 H1 ⟨rfl, i, n, hmm, hi, g1, g2, g3, g4, hgo⟩
        simp only [cut_cons, cut_nil, g1, g2, g3, g4]
        clear g1 g2 g3 g4
        have hi0 : (0 : Int) ≤ i := Int.natCast_nonneg i
        have hw1 : w ((i : Int) + 1) = ((i + 1 : Nat) : Int) := w_id (by omega)
        have hd := fun h => drop_nth L i h
        have hnil : ¬ i < L.length → L.drop i = [] := fun h => List.drop_of_length_le (by omega)
        have hp0 : i < L.length → ¬ nth L i = 0 := fun h => by have := hpos i h; omega
        replace hgo := Hide.mk hgo
        repeat' (first | apply goSeq | apply goReg | apply goSeqN | apply goSeqR | apply goSkip | apply goRet | apply goNil | apply goBlock | apply goExit | apply goBlkN | apply goBlkR | apply goBlkE | apply goSeqE | apply goLoopR | apply goLoopE | (apply goOp; (· (simp [*]; try exact rfl)); (· exact rfl)) | (apply goOp0; (· (simp [*]; try exact rfl)); (· exact rfl)) | (apply goYes; (· (simp [*]; done)); (· (simp [*]; try exact rfl)); (· exact rfl)) | (apply goNo; (· (simp [*]; done))) | (apply goNoU; (· (simp; exact rfl))) | (apply goIfT; (· (simp [*]; done))) | (apply goIfF; (· (simp [*]; done))) | (apply goIf; (· (simp; exact rfl)); (· with_reducible exact rfl)) | (apply goSplit; (· (simp; exact rfl)); (· with_reducible exact rfl)) | (apply goIfQ; (· (simp; exact rfl)); (· exact rfl)) | (apply goSplitQ; (· (simp; exact rfl)); (· exact rfl)) | (apply goBlkX; (· rfl)) | intro _)
        all_goals replace hgo := hgo.out
        all_goals first
          | (refine goEnd hw hP.out.pre (by simp) (by simp [rs23]; exact rfl) rfl ?_; rw [← hgo]; simp [divW, hd, hnil, *]; done)
          | (refine goLoopN (L.length - (i + 1)) (by omega) ⟨rfl, i + 1, _, rfl, by omega, rfl, rfl, rfl, rfl, ?_⟩; rw [← hgo]; simp [divW, hd, *])
  · cases hv
@[simp] theorem F23_at (a b : AV) (H : Hp) : F23 [a, b] H = (ints H a).bind fun sz => (ints H b).bind fun sp => if sp.length < 1099511627776 then some (.int .i64 (rCopies sz sp)) else none := rfl
/- Walks: where a device is; the parts' places. -/
theorem meshGo_pos : ∀ (l : List Int) (n : Int), meshGo n l = true → ∀ (j : Nat), j < l.length → 1 ≤ nth l j ∧ nth l j ≤ 8 := by
  intro l
  induction l with
  | nil => intro n _ j hj; simp at hj
  | cons a l ih =>
    intro n h j hj
    simp only [meshGo] at h
    split at h
    · cases h
    · rename_i h1
      cases j with
      | zero => simp [nth]; omega
      | succ j =>
        have := ih _ h j (by simpa using hj)
        simpa [nth] using this
theorem meshOK_pos {l : List Int} (h : meshOK l = true) : l.length ≤ 3 ∧ ∀ (j : Nat), j < l.length → 1 ≤ nth l j ∧ nth l j ≤ 8 := by
  unfold meshOK at h
  split at h
  · cases h
  · exact ⟨by omega, meshGo_pos l 1 h⟩
def atW (sz : List Int) : Nat → Int → List Int → List Int
  | 0, _, out => out
  | i + 1, d, out => atW sz i (w (d.tdiv (nth sz i))) (out.set i (d.tmod (nth sz i)))
/-- Where device d is. -/
def meshAt (sz : List Int) (d : Int) : List Int := atW sz sz.length d (List.replicate sz.length 0)
def F123 (args : List AV) (H : Hp) : Option (AV × Hp) := match args with
  | [a, .int .i64 d] => (ints H a).map fun sz => if d < 0 ∨ devs sz ≤ d then (.nilS, H) else mkF H (meshAt sz d)
  | _ => none
set_option maxHeartbeats 1000000 in
theorem snd123 : Sound Try.prog 123 (FSem.eff F123).run := by
  refine sound_of hT (EOK_cons snd88 (EOK_nil _)) mixed A123 Try.func123 hb123 (by kernel_rfl) (by kernel_rfl) (by kernel_rfl) (by kernel_rfl) sh123 2 (by kernel_rfl) rs123 hr123 ?_
  intro args H r H' hw h
  have hv : F123 args H = some (r, H') := h
  clear h
  unfold F123 at hv
  split at hv
  · rename_i v d
    obtain ⟨l, hl, hv⟩ := Option.map_eq_some_iff.1 hv
    have hlen := alenS_ints hl
    have hb := ints_len hl
    have hix := aidxS_ints hl .i64
    have hld := fun {H1 : Hp} (he : Pre H H1) => aload_nth T3 rfl (ints_ext he hl)
    refine ⟨rfl, go ?_⟩
    unfold c123
    simp only [argSl]
    simp only [← aidx22, ← alen22] at hix hlen
    replace hv := Hide.mk hv
    repeat' (first | apply goSeq | apply goReg | apply goSeqN | apply goSeqR | apply goSkip | apply goRet | apply goNil | apply goBlock | apply goExit | apply goBlkN | apply goBlkR | apply goBlkE | apply goSeqE | apply goLoopR | apply goLoopE | (apply goOp; (· (simp [*]; try exact rfl)); (· exact rfl)) | (apply goOp0; (· (simp [*]; try exact rfl)); (· exact rfl)) | (apply goYes; (· (simp [*]; done)); (· (simp [*]; try exact rfl)); (· exact rfl)) | (apply goNo; (· (simp [*]; done))) | (apply goNoU; (· (simp; exact rfl))) | (apply goIfT; (· (simp [*]; done))) | (apply goIfF; (· (simp [*]; done))) | (apply goIf; (· (simp; exact rfl)); (· with_reducible exact rfl)) | (apply goSplit; (· (simp; exact rfl)); (· with_reducible exact rfl)) | (apply goIfQ; (· (simp; exact rfl)); (· exact rfl)) | (apply goSplitQ; (· (simp; exact rfl)); (· exact rfl)) | (apply goBlkX; (· rfl)) | intro _)
    · rename_i h1
      replace hv := hv.out
      rw [if_pos (.inl h1)] at hv
      exact goEndS (l := []) hw (Ext.refl hw) (.inl ⟨rfl, rfl⟩) (by simp) (by simp [rs123]) rfl hv
    · rename_i h1 h2
      replace hv := hv.out
      rw [if_pos (.inr h2)] at hv
      exact goEndS (l := []) hw (Ext.refl hw) (.inl ⟨rfl, rfl⟩) (by simp) (by simp [rs123]) rfl hv
    · rename_i h1 h2
      replace hv := hv.out
      rw [if_neg (by omega)] at hv
      have hm : meshOK l = true := by
        rcases hmm : meshOK l with _ | _
        · exfalso; simp [devs, hmm] at h2; omega
        · rfl
      obtain ⟨h3, hpos⟩ := meshOK_pos hm
      obtain ⟨u, H1, e, ho, he⟩ := make_own (Ext.refl hw) l.length (by omega)
      refine goOp (v := u) (H' := H1) rfl (by simp; exact e) ?_
      replace hv := Hide.mk hv
      repeat' (first | apply goSeq | apply goReg | apply goSeqN | apply goSeqR | apply goSkip | apply goRet | apply goNil | apply goBlock | apply goExit | apply goBlkN | apply goBlkR | apply goBlkE | apply goSeqE | apply goLoopR | apply goLoopE | (apply goOp; (· (simp [*]; try exact rfl)); (· exact rfl)) | (apply goOp0; (· (simp [*]; try exact rfl)); (· exact rfl)) | (apply goYes; (· (simp [*]; done)); (· (simp [*]; try exact rfl)); (· exact rfl)) | (apply goNo; (· (simp [*]; done))) | (apply goNoU; (· (simp; exact rfl))) | (apply goIfT; (· (simp [*]; done))) | (apply goIfF; (· (simp [*]; done))) | (apply goIf; (· (simp; exact rfl)); (· with_reducible exact rfl)) | (apply goSplit; (· (simp; exact rfl)); (· with_reducible exact rfl)) | (apply goIfQ; (· (simp; exact rfl)); (· exact rfl)) | (apply goSplitQ; (· (simp; exact rfl)); (· exact rfl)) | (apply goBlkX; (· rfl)) | intro _)
      have hwl : w ((l.length : Int) - 1) = (l.length : Int) - 1 := w_id (by omega)
      rw [hwl]
      refine goLoop (fun m s1 H1 => Ext H H1 ∧ ∃ (d1 : Int) (out : List Int) (u : AV), m ≤ l.length ∧ get s1 0 = v ∧ get s1 1 = .int .i64 d1 ∧ get s1 5 = u ∧ get s1 6 = .int .i64 ((m : Int) - 1) ∧ OwnF H H1 u out ∧ out.length = l.length ∧ atW l m d1 out = meshAt l d) l.length ?_ ?_
      · exact ⟨he, d, _, u, Nat.le_refl _, rfl, rfl, rfl, rfl, ho, by simp, rfl⟩
      · clear he ho e hwl h1 h2 hm
        rintro m s1 H1 ⟨he, d1, out, u, hi, g1, g2, g3, g4, ho, hol, hgo⟩
        have hixu := aidxS_ints (ints_of_ownF ho (by omega)) .i64
        simp only [← aidx22] at hixu
        have hl1 := hld he.pre
        cases m with
        | zero =>
          simp only [cut_cons, cut_nil, g1, g2, g3, g4]
          clear g1 g2 g3 g4
          replace ho := Hide.mk ho
          replace hgo := Hide.mk hgo
          repeat' (first | apply goSeq | apply goReg | apply goSeqN | apply goSeqR | apply goSkip | apply goRet | apply goNil | apply goBlock | apply goExit | apply goBlkN | apply goBlkR | apply goBlkE | apply goSeqE | apply goLoopR | apply goLoopE | (apply goOp; (· (simp [*]; try exact rfl)); (· exact rfl)) | (apply goOp0; (· (simp [*]; try exact rfl)); (· exact rfl)) | (apply goYes; (· (simp [*]; done)); (· (simp [*]; try exact rfl)); (· exact rfl)) | (apply goNo; (· (simp [*]; done))) | (apply goNoU; (· (simp; exact rfl))) | (apply goIfT; (· (simp [*]; done))) | (apply goIfF; (· (simp [*]; done))) | (apply goIf; (· (simp; exact rfl)); (· with_reducible exact rfl)) | (apply goSplit; (· (simp; exact rfl)); (· with_reducible exact rfl)) | (apply goIfQ; (· (simp; exact rfl)); (· exact rfl)) | (apply goSplitQ; (· (simp; exact rfl)); (· exact rfl)) | (apply goBlkX; (· rfl)) | intro _)
          refine goEndF hw he ho.out (by simp) (by simp [rs123]) rfl ?_
          rw [← hv.out, ← hgo.out]
          rfl
        | succ m =>
          rw [show (((m + 1 : Nat) : Int) - 1) = (m : Int) by omega] at g4
          simp only [cut_cons, cut_nil, g1, g2, g3, g4]
          clear g1 g2 g3 g4
          have hm0 : (0 : Int) ≤ m := Int.natCast_nonneg m
          have hml : m < l.length := by omega
          have hne : ¬ nth l m = 0 := by have := hpos m hml; omega
          have hwm : w ((m : Int) - 1) = (m : Int) - 1 := w_id (by omega)
          replace ho := Hide.mk ho
          replace hgo := Hide.mk hgo
          repeat' (first | apply goSeq | apply goReg | apply goSeqN | apply goSeqR | apply goSkip | apply goRet | apply goNil | apply goBlock | apply goExit | apply goBlkN | apply goBlkR | apply goBlkE | apply goSeqE | apply goLoopR | apply goLoopE | (apply goOp; (· (simp [*]; try exact rfl)); (· exact rfl)) | (apply goOp0; (· (simp [*]; try exact rfl)); (· exact rfl)) | (apply goYes; (· (simp [*]; done)); (· (simp [*]; try exact rfl)); (· exact rfl)) | (apply goNo; (· (simp [*]; done))) | (apply goNoU; (· (simp; exact rfl))) | (apply goIfT; (· (simp [*]; done))) | (apply goIfF; (· (simp [*]; done))) | (apply goIf; (· (simp; exact rfl)); (· with_reducible exact rfl)) | (apply goSplit; (· (simp; exact rfl)); (· with_reducible exact rfl)) | (apply goIfQ; (· (simp; exact rfl)); (· exact rfl)) | (apply goSplitQ; (· (simp; exact rfl)); (· exact rfl)) | (apply goBlkX; (· rfl)) | intro _)
          obtain ⟨H2, e, ho', he'⟩ := store_own hw he ho.out m (by omega) (d1.tmod (nth l m))
          have hl2 := hld he'.pre
          refine goOp0 (v := .bad) (H' := H2) rfl (by simp [e]) ?_
          replace ho' := Hide.mk ho'
          clear e
          repeat' (first | apply goSeq | apply goReg | apply goSeqN | apply goSeqR | apply goSkip | apply goRet | apply goNil | apply goBlock | apply goExit | apply goBlkN | apply goBlkR | apply goBlkE | apply goSeqE | apply goLoopR | apply goLoopE | (apply goOp; (· (simp [*]; try exact rfl)); (· exact rfl)) | (apply goOp0; (· (simp [*]; try exact rfl)); (· exact rfl)) | (apply goYes; (· (simp [*]; done)); (· (simp [*]; try exact rfl)); (· exact rfl)) | (apply goNo; (· (simp [*]; done))) | (apply goNoU; (· (simp; exact rfl))) | (apply goIfT; (· (simp [*]; done))) | (apply goIfF; (· (simp [*]; done))) | (apply goIf; (· (simp; exact rfl)); (· with_reducible exact rfl)) | (apply goSplit; (· (simp; exact rfl)); (· with_reducible exact rfl)) | (apply goIfQ; (· (simp; exact rfl)); (· exact rfl)) | (apply goSplitQ; (· (simp; exact rfl)); (· exact rfl)) | (apply goBlkX; (· rfl)) | intro _)
          exact goLoopN m (by omega) ⟨he', _, _, u, by omega, rfl, rfl, rfl, rfl, ho'.out, by simp [hol], by rw [← hgo.out]; rfl⟩
  · cases hv
end Go.Proofs.Ytokadkakmhfdeaa.Pq
