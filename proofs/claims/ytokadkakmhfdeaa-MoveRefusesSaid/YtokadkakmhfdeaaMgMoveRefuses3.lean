/- What the proof of a statement of this seat rests on, part 3: PqT, PqV, PqC3, PqC2, PqC1, PqW1, PqW2, PqW3, PqW4, PqW5, PqW6, PqW7, PqX1, PqW9, PqWA, PqVb, PqWB, PqC5a, PqWEa, PqWFa, PqX2, PqW8, PqWCa, PqC6, PqTr, PqWK, PqC7, PqWL. -/
import Derived.Test.YtokadkakmhfdeaaProg
import Derived.Eval
import Derived.Test.YtokadkakmhfdeaaMgMoveRefuses2
set_option linter.unusedVariables false
set_option linter.unusedSimpArgs false
set_option linter.unusedSectionVars false
namespace Go.Proofs.Ytokadkakmhfdeaa.Pq
open Go.RowKit
/- The types of the program. -/
def tys : List (Nat × TI) :=
  [(1, ⟨.func, 1, 8, [.nilF]⟩),
  (2, ⟨.int .i64, 1, 8, [.int .i64 0]⟩),
  (3, ⟨.int .i64, 1, 8, [.int .i64 0]⟩),
  (4, ⟨.bool, 1, 1, [.bool false]⟩),
  (5, ⟨.int .u8, 1, 1, [.int .u8 0]⟩),
  (6, ⟨.int .u8, 1, 1, [.int .u8 0]⟩),
  (7, ⟨.struct [(0, 2), (1, 3), (2, 4), (3, 6)], 4, 24, [.int .i64 0, .int .i64 0, .bool false, .int .u8 0]⟩),
  (8, ⟨.struct [(0, 2), (1, 3), (2, 4), (3, 6)], 4, 24, [.int .i64 0, .int .i64 0, .bool false, .int .u8 0]⟩),
  (9, ⟨.str, 1, 16, [.str .empty]⟩),
  (10, ⟨.str, 1, 16, [.str .empty]⟩),
  (11, ⟨.str, 1, 16, [.str .empty]⟩),
  (12, ⟨.int .u64, 1, 8, [.int .u64 0]⟩),
  (13, ⟨.struct [(0, 9), (1, 12)], 2, 24, [.str .empty, .int .u64 0]⟩),
  (14, ⟨.struct [(0, 9), (1, 12)], 2, 24, [.str .empty, .int .u64 0]⟩),
  (15, ⟨.ptr 203, 1, 8, [.nilP]⟩),
  (16, ⟨.ptr 206, 1, 8, [.nilP]⟩),
  (17, ⟨.ptr 214, 1, 8, [.nilP]⟩),
  (18, ⟨.struct [(0, 17)], 1, 8, [.nilP]⟩),
  (19, ⟨.struct [(0, 17)], 1, 8, [.nilP]⟩),
  (21, ⟨.int .i32, 1, 4, [.int .i32 0]⟩),
  (22, ⟨.slice 3, 1, 24, [.nilS]⟩),
  (23, ⟨.ptr 25, 1, 8, [.nilP]⟩),
  (24, ⟨.struct [(0, 22), (1, 3)], 2, 32, [.nilS, .int .i64 0]⟩),
  (25, ⟨.struct [(0, 22), (1, 3)], 2, 32, [.nilS, .int .i64 0]⟩),
  (26, ⟨.slice 22, 1, 24, [.nilS]⟩),
  (27, ⟨.func, 1, 8, [.nilF]⟩),
  (28, ⟨.func, 1, 8, [.nilF]⟩),
  (29, ⟨.func, 1, 8, [.nilF]⟩),
  (30, ⟨.func, 1, 8, [.nilF]⟩),
  (31, ⟨.func, 1, 8, [.nilF]⟩),
  (32, ⟨.func, 1, 8, [.nilF]⟩),
  (33, ⟨.func, 1, 8, [.nilF]⟩),
  (34, ⟨.func, 1, 8, [.nilF]⟩),
  (35, ⟨.func, 1, 8, [.nilF]⟩),
  (36, ⟨.func, 1, 8, [.nilF]⟩),
  (37, ⟨.func, 1, 8, [.nilF]⟩),
  (38, ⟨.slice 2, 1, 24, [.nilS]⟩),
  (39, ⟨.struct [(0, 22), (1, 38)], 2, 48, [.nilS, .nilS]⟩),
  (40, ⟨.struct [(0, 22), (1, 38)], 2, 48, [.nilS, .nilS]⟩),
  (42, ⟨.func, 1, 8, [.nilF]⟩),
  (43, ⟨.func, 1, 8, [.nilF]⟩),
  (44, ⟨.func, 1, 8, [.nilF]⟩),
  (45, ⟨.slice 40, 1, 24, [.nilS]⟩),
  (46, ⟨.int .i64, 1, 8, [.int .i64 0]⟩),
  (48, ⟨.func, 1, 8, [.nilF]⟩),
  (49, ⟨.func, 1, 8, [.nilF]⟩),
  (50, ⟨.func, 1, 8, [.nilF]⟩),
  (52, ⟨.func, 1, 8, [.nilF]⟩),
  (53, ⟨.func, 1, 8, [.nilF]⟩),
  (55, ⟨.func, 1, 8, [.nilF]⟩),
  (56, ⟨.func, 1, 8, [.nilF]⟩),
  (57, ⟨.func, 1, 8, [.nilF]⟩),
  (58, ⟨.func, 1, 8, [.nilF]⟩),
  (59, ⟨.ptr 64, 1, 8, [.nilP]⟩),
  (60, ⟨.func, 1, 8, [.nilF]⟩),
  (61, ⟨.ptr 135, 1, 8, [.nilP]⟩),
  (62, ⟨.slice 45, 1, 24, [.nilS]⟩),
  (63, ⟨.struct [(0, 61), (1, 62), (2, 22), (3, 3)], 4, 64, [.nilP, .nilS, .nilS, .int .i64 0]⟩),
  (64, ⟨.struct [(0, 61), (1, 62), (2, 22), (3, 3)], 4, 64, [.nilP, .nilS, .nilS, .int .i64 0]⟩),
  (66, ⟨.func, 1, 8, [.nilF]⟩),
  (67, ⟨.ptr 77, 1, 8, [.nilP]⟩),
  (69, ⟨.func, 1, 8, [.nilF]⟩),
  (70, ⟨.slice 141, 1, 24, [.nilS]⟩),
  (71, ⟨.func, 1, 8, [.nilF]⟩),
  (73, ⟨.slice 72, 1, 24, [.nilS]⟩),
  (74, ⟨.slice 169, 1, 24, [.nilS]⟩),
  (75, ⟨.slice 46, 1, 24, [.nilS]⟩),
  (76, ⟨.struct [(0, 70), (1, 62), (2, 73), (3, 22), (4, 74), (5, 3), (6, 75)], 7, 152, [.nilS, .nilS, .nilS, .nilS, .nilS, .int .i64 0, .nilS]⟩),
  (77, ⟨.struct [(0, 70), (1, 62), (2, 73), (3, 22), (4, 74), (5, 3), (6, 75)], 7, 152, [.nilS, .nilS, .nilS, .nilS, .nilS, .int .i64 0, .nilS]⟩),
  (79, ⟨.func, 1, 8, [.nilF]⟩),
  (80, ⟨.func, 1, 8, [.nilF]⟩),
  (81, ⟨.func, 1, 8, [.nilF]⟩),
  (82, ⟨.slice 4, 1, 24, [.nilS]⟩),
  (83, ⟨.slice 86, 1, 24, [.nilS]⟩),
  (85, ⟨.func, 1, 8, [.nilF]⟩),
  (86, ⟨.array 2 3, 2, 16, [.int .i64 0, .int .i64 0]⟩),
  (87, ⟨.func, 1, 8, [.nilF]⟩),
  (88, ⟨.func, 1, 8, [.nilF]⟩),
  (90, ⟨.func, 1, 8, [.nilF]⟩),
  (91, ⟨.func, 1, 8, [.nilF]⟩),
  (92, ⟨.func, 1, 8, [.nilF]⟩),
  (93, ⟨.func, 1, 8, [.nilF]⟩),
  (94, ⟨.func, 1, 8, [.nilF]⟩),
  (95, ⟨.func, 1, 8, [.nilF]⟩),
  (96, ⟨.func, 1, 8, [.nilF]⟩),
  (97, ⟨.func, 1, 8, [.nilF]⟩),
  (98, ⟨.func, 1, 8, [.nilF]⟩),
  (99, ⟨.func, 1, 8, [.nilF]⟩),
  (100, ⟨.struct [(0, 3), (1, 22), (2, 22), (3, 22), (4, 2), (5, 3), (6, 9)], 7, 112, [.int .i64 0, .nilS, .nilS, .nilS, .int .i64 0, .int .i64 0, .str .empty]⟩),
  (101, ⟨.struct [(0, 3), (1, 22), (2, 22), (3, 22), (4, 2), (5, 3), (6, 9)], 7, 112, [.int .i64 0, .nilS, .nilS, .nilS, .int .i64 0, .int .i64 0, .str .empty]⟩),
  (102, ⟨.struct [(0, 3), (1, 3), (2, 22), (3, 101), (10, 3), (11, 3), (12, 3)], 13, 176, [.int .i64 0, .int .i64 0, .nilS, .int .i64 0, .nilS, .nilS, .nilS, .int .i64 0, .int .i64 0, .str .empty, .int .i64 0, .int .i64 0, .int .i64 0]⟩),
  (103, ⟨.struct [(0, 3), (1, 3), (2, 22), (3, 101), (10, 3), (11, 3), (12, 3)], 13, 176, [.int .i64 0, .int .i64 0, .nilS, .int .i64 0, .nilS, .nilS, .nilS, .int .i64 0, .int .i64 0, .str .empty, .int .i64 0, .int .i64 0, .int .i64 0]⟩),
  (104, ⟨.func, 1, 8, [.nilF]⟩),
  (106, ⟨.func, 1, 8, [.nilF]⟩),
  (107, ⟨.func, 1, 8, [.nilF]⟩),
  (108, ⟨.func, 1, 8, [.nilF]⟩),
  (109, ⟨.func, 1, 8, [.nilF]⟩),
  (110, ⟨.func, 1, 8, [.nilF]⟩),
  (111, ⟨.func, 1, 8, [.nilF]⟩),
  (112, ⟨.func, 1, 8, [.nilF]⟩),
  (113, ⟨.func, 1, 8, [.nilF]⟩),
  (114, ⟨.func, 1, 8, [.nilF]⟩),
  (115, ⟨.func, 1, 8, [.nilF]⟩),
  (116, ⟨.func, 1, 8, [.nilF]⟩),
  (117, ⟨.func, 1, 8, [.nilF]⟩),
  (118, ⟨.slice 120, 1, 24, [.nilS]⟩),
  (119, ⟨.struct [(0, 3), (1, 3), (2, 3), (3, 3)], 4, 32, [.int .i64 0, .int .i64 0, .int .i64 0, .int .i64 0]⟩),
  (120, ⟨.struct [(0, 3), (1, 3), (2, 3), (3, 3)], 4, 32, [.int .i64 0, .int .i64 0, .int .i64 0, .int .i64 0]⟩),
  (121, ⟨.func, 1, 8, [.nilF]⟩),
  (122, ⟨.func, 1, 8, [.nilF]⟩),
  (123, ⟨.func, 1, 8, [.nilF]⟩),
  (124, ⟨.func, 1, 8, [.nilF]⟩),
  (125, ⟨.func, 1, 8, [.nilF]⟩),
  (126, ⟨.func, 1, 8, [.nilF]⟩),
  (128, ⟨.func, 1, 8, [.nilF]⟩),
  (130, ⟨.func, 1, 8, [.nilF]⟩),
  (131, ⟨.func, 1, 8, [.nilF]⟩),
  (133, ⟨.func, 1, 8, [.nilF]⟩),
  (134, ⟨.struct [(0, 70), (1, 22), (2, 3)], 3, 56, [.nilS, .nilS, .int .i64 0]⟩),
  (135, ⟨.struct [(0, 70), (1, 22), (2, 3)], 3, 56, [.nilS, .nilS, .int .i64 0]⟩),
  (136, ⟨.func, 1, 8, [.nilF]⟩),
  (137, ⟨.func, 1, 8, [.nilF]⟩),
  (138, ⟨.func, 1, 8, [.nilF]⟩),
  (139, ⟨.func, 1, 8, [.nilF]⟩),
  (140, ⟨.slice 103, 1, 24, [.nilS]⟩),
  (141, ⟨.slice 103, 1, 24, [.nilS]⟩),
  (142, ⟨.func, 1, 8, [.nilF]⟩),
  (143, ⟨.func, 1, 8, [.nilF]⟩),
  (144, ⟨.func, 1, 8, [.nilF]⟩),
  (145, ⟨.func, 1, 8, [.nilF]⟩),
  (146, ⟨.func, 1, 8, [.nilF]⟩),
  (147, ⟨.func, 1, 8, [.nilF]⟩),
  (148, ⟨.func, 1, 8, [.nilF]⟩),
  (149, ⟨.func, 1, 8, [.nilF]⟩),
  (150, ⟨.func, 1, 8, [.nilF]⟩),
  (151, ⟨.func, 1, 8, [.nilF]⟩),
  (152, ⟨.struct [(0, 22), (1, 22), (2, 22), (3, 22), (4, 22)], 5, 120, [.nilS, .nilS, .nilS, .nilS, .nilS]⟩),
  (153, ⟨.struct [(0, 22), (1, 22), (2, 22), (3, 22), (4, 22)], 5, 120, [.nilS, .nilS, .nilS, .nilS, .nilS]⟩),
  (154, ⟨.func, 1, 8, [.nilF]⟩),
  (155, ⟨.func, 1, 8, [.nilF]⟩),
  (157, ⟨.func, 1, 8, [.nilF]⟩),
  (158, ⟨.func, 1, 8, [.nilF]⟩),
  (159, ⟨.int .u64, 1, 8, [.int .u64 0]⟩),
  (161, ⟨.func, 1, 8, [.nilF]⟩),
  (162, ⟨.func, 1, 8, [.nilF]⟩),
  (163, ⟨.func, 1, 8, [.nilF]⟩),
  (164, ⟨.func, 1, 8, [.nilF]⟩),
  (165, ⟨.func, 1, 8, [.nilF]⟩),
  (166, ⟨.func, 1, 8, [.nilF]⟩),
  (167, ⟨.func, 1, 8, [.nilF]⟩),
  (168, ⟨.struct [(0, 3), (1, 3), (2, 3), (3, 40)], 5, 72, [.int .i64 0, .int .i64 0, .int .i64 0, .nilS, .nilS]⟩),
  (169, ⟨.struct [(0, 3), (1, 3), (2, 3), (3, 40)], 5, 72, [.int .i64 0, .int .i64 0, .int .i64 0, .nilS, .nilS]⟩),
  (170, ⟨.func, 1, 8, [.nilF]⟩),
  (171, ⟨.func, 1, 8, [.nilF]⟩),
  (172, ⟨.func, 1, 8, [.nilF]⟩),
  (173, ⟨.int .u32, 1, 4, [.int .u32 0]⟩),
  (175, ⟨.func, 1, 8, [.nilF]⟩),
  (176, ⟨.int .u64, 1, 8, [.int .u64 0]⟩),
  (178, ⟨.func, 1, 8, [.nilF]⟩),
  (180, ⟨.func, 1, 8, [.nilF]⟩),
  (181, ⟨.func, 1, 8, [.nilF]⟩),
  (182, ⟨.func, 1, 8, [.nilF]⟩),
  (183, ⟨.func, 1, 8, [.nilF]⟩),
  (184, ⟨.func, 1, 8, [.nilF]⟩),
  (185, ⟨.func, 1, 8, [.nilF]⟩),
  (186, ⟨.func, 1, 8, [.nilF]⟩),
  (187, ⟨.func, 1, 8, [.nilF]⟩),
  (188, ⟨.func, 1, 8, [.nilF]⟩),
  (189, ⟨.func, 1, 8, [.nilF]⟩),
  (190, ⟨.func, 1, 8, [.nilF]⟩),
  (191, ⟨.func, 1, 8, [.nilF]⟩),
  (192, ⟨.func, 1, 8, [.nilF]⟩),
  (193, ⟨.func, 1, 8, [.nilF]⟩),
  (194, ⟨.func, 1, 8, [.nilF]⟩),
  (196, ⟨.func, 1, 8, [.nilF]⟩),
  (197, ⟨.func, 1, 8, [.nilF]⟩),
  (198, ⟨.func, 1, 8, [.nilF]⟩),
  (199, ⟨.func, 1, 8, [.nilF]⟩),
  (200, ⟨.func, 1, 8, [.nilF]⟩),
  (201, ⟨.func, 1, 8, [.nilF]⟩),
  (202, ⟨.struct [(0, 17), (1, 17), (2, 17), (3, 9)], 4, 40, [.nilP, .nilP, .nilP, .str .empty]⟩),
  (203, ⟨.struct [(0, 17), (1, 17), (2, 17), (3, 9)], 4, 40, [.nilP, .nilP, .nilP, .str .empty]⟩),
  (204, ⟨.array 0 16, 0, 0, []⟩),
  (205, ⟨.struct [(0, 204)], 0, 0, []⟩),
  (206, ⟨.struct [(0, 204)], 0, 0, []⟩),
  (207, ⟨.int .u8, 1, 1, [.int .u8 0]⟩),
  (208, ⟨.int .u8, 1, 1, [.int .u8 0]⟩),
  (209, ⟨.func, 1, 8, [.nilF]⟩),
  (210, ⟨.ptr 5, 1, 8, [.nilP]⟩),
  (211, ⟨.int .i32, 1, 4, [.int .i32 0]⟩),
  (212, ⟨.int .i32, 1, 4, [.int .i32 0]⟩),
  (213, ⟨.struct [(0, 12), (1, 12), (2, 173), (3, 207), (4, 5), (5, 5), (6, 208), (7, 209), (8, 210), (9, 211), (10, 212)], 11, 48, [.int .u64 0, .int .u64 0, .int .u32 0, .int .u8 0, .int .u8 0, .int .u8 0, .int .u8 0, .nilF, .nilP, .int .i32 0, .int .i32 0]⟩),
  (214, ⟨.struct [(0, 12), (1, 12), (2, 173), (3, 207), (4, 5), (5, 5), (6, 208), (7, 209), (8, 210), (9, 211), (10, 212)], 11, 48, [.int .u64 0, .int .u64 0, .int .u32 0, .int .u8 0, .int .u8 0, .int .u8 0, .int .u8 0, .nilF, .nilP, .int .i32 0, .int .i32 0]⟩)]
def T : Tab := lookT tys
theorem T2 : T 2 = some ⟨.int .i64, 1, 8, [.int .i64 0]⟩ := by kernel_rfl
theorem T3 : T 3 = some ⟨.int .i64, 1, 8, [.int .i64 0]⟩ := by kernel_rfl
theorem T4 : T 4 = some ⟨.bool, 1, 1, [.bool false]⟩ := by kernel_rfl
theorem T22 : T 22 = some ⟨.slice 3, 1, 24, [.nilS]⟩ := by kernel_rfl
theorem D22 : T.d 22 = .slice 3 := by kernel_rfl
theorem T25 : T 25 = some ⟨.struct [(0, 22), (1, 3)], 2, 32, [.nilS, .int .i64 0]⟩ := by kernel_rfl
theorem D25 : T.d 25 = .struct [(0, 22), (1, 3)] := by kernel_rfl
theorem D26 : T.d 26 = .slice 22 := by kernel_rfl
theorem T38 : T 38 = some ⟨.slice 2, 1, 24, [.nilS]⟩ := by kernel_rfl
theorem D38 : T.d 38 = .slice 2 := by kernel_rfl
theorem T40 : T 40 = some ⟨.struct [(0, 22), (1, 38)], 2, 48, [.nilS, .nilS]⟩ := by kernel_rfl
theorem D40 : T.d 40 = .struct [(0, 22), (1, 38)] := by kernel_rfl
theorem D45 : T.d 45 = .slice 40 := by kernel_rfl
theorem T70 : T 70 = some ⟨.slice 141, 1, 24, [.nilS]⟩ := by kernel_rfl
theorem D70 : T.d 70 = .slice 141 := by kernel_rfl
theorem D82 : T.d 82 = .slice 4 := by kernel_rfl
theorem D83 : T.d 83 = .slice 86 := by kernel_rfl
theorem T86 : T 86 = some ⟨.array 2 3, 2, 16, [.int .i64 0, .int .i64 0]⟩ := by kernel_rfl
theorem D86 : T.d 86 = .array 2 3 := by kernel_rfl
theorem T103 : T 103 = some ⟨.struct [(0, 3), (1, 3), (2, 22), (3, 101), (10, 3), (11, 3), (12, 3)], 13, 176, [.int .i64 0, .int .i64 0, .nilS, .int .i64 0, .nilS, .nilS, .nilS, .int .i64 0, .int .i64 0, .str .empty, .int .i64 0, .int .i64 0, .int .i64 0]⟩ := by kernel_rfl
theorem T135 : T 135 = some ⟨.struct [(0, 70), (1, 22), (2, 3)], 3, 56, [.nilS, .nilS, .int .i64 0]⟩ := by kernel_rfl
theorem T141 : T 141 = some ⟨.slice 103, 1, 24, [.nilS]⟩ := by kernel_rfl
theorem D141 : T.d 141 = .slice 103 := by kernel_rfl
set_option maxRecDepth 100000 in
theorem hT : TOK Try.prog T := tok_list (by kernel_rfl)
/- Lists that a function makes: by append, by make; handing them back. -/
theorem Wf.new {H : Hp} (h : Wf H) (cells : List AV) : Wf (H.new cells) := by
  intro b k hk
  simp only [Hp.new] at hk ⊢
  rcases Nat.lt_or_ge b H.bs.length with hb | hb
  · rw [List.getElem?_append_left hb] at hk
    exact Nat.lt_succ_of_lt (h b k hk)
  · rw [List.getElem?_append_right hb] at hk
    have := (List.getElem?_eq_some_iff.1 hk).1
    simp at this
    have hb' : b = H.bs.length := by omega
    subst hb'
    simp at hk
    subst hk
    exact Nat.lt_succ_self _
theorem at_lt {H : Hp} (h : Wf H) {b ver : Nat} {k : Blk} (hk : H.at b ver = some k) : ver < H.c := by
  obtain ⟨h1, h2⟩ := Hp.at_some hk
  rw [← h2]; exact h b k h1
theorem new_at (H : Hp) (cells : List AV) : (H.new cells).at H.bs.length H.c = some ⟨H.c, cells, true, true⟩ := by
  simp [Hp.new, Hp.at]
theorem at_new {H : Hp} {b ver : Nat} {k : Blk} (hk : H.at b ver = some k) (cells : List AV) : (H.new cells).at b ver = some k := Pre.at (Pre.new (Pre.refl H) cells) hk
/-- A list of numbers that is this function's own: made since H0, it may be appended to, and written. -/
def Own (H0 H : Hp) (v : AV) (l : List Int) : Prop :=
  (l = [] ∧ v = .nilS) ∨ ∃ b ver, v = .sl b ver 0 l.length 1 false ∧ H0.c ≤ ver ∧ l ≠ [] ∧ H.at b ver = some ⟨ver, l.map (.int .i64), true, true⟩
theorem ints_of_own {H0 H : Hp} {v : AV} {l : List Int} (h : Own H0 H v l) (hl : l.length ≤ 1152921504606846976) : ints H v = some l := by
  rcases h with ⟨rfl, rfl⟩ | ⟨b, ver, rfl, _, _, hk⟩
  · rfl
  · simp only [ints, hl, and_self, if_true, hk, List.drop_zero]
    rw [if_pos (by simp), List.take_of_length_le (by simp), toInts_map]
/-- What was there is as it was; versions are in order; time goes on. -/
structure Ext (H0 H : Hp) : Prop where
  pre : Pre H0 H
  wf : Wf H
  c : H0.c ≤ H.c
theorem Ext.refl {H : Hp} (h : Wf H) : Ext H H := ⟨Pre.refl H, h, Nat.le_refl _⟩
theorem Ext.trans {A B C : Hp} (h : Ext A B) (k : Ext B C) : Ext A C := ⟨h.pre.trans k.pre, k.wf, Nat.le_trans h.c k.c⟩
theorem Ext.new {A B : Hp} (h : Ext A B) (cells : List AV) : Ext A (B.new cells) := ⟨h.pre.new cells, h.wf.new cells, Nat.le_succ_of_le h.c⟩
theorem ints_ext {H H' : Hp} (h : Pre H H') {v : AV} {l : List Int} (hv : ints H v = some l) : ints H' v = some l := by
  unfold ints at hv ⊢
  split at hv
  · exact hv
  · exact hv
  · split at hv
    · rename_i he
      split at hv
      · rename_i k hk
        simp only [he, and_self, if_true, h.at hk]
        exact hv
      · cases hv
    · cases hv
  · cases hv
def abs1 (v : AV) (H : Hp) : Option (AV × Hp) := (afill (fun j => some (j * 1, 1)) [.int .i64 0] [(0, v)]).map fun cs => (.sl H.bs.length H.c 0 1 1 true, H.new cs)
@[simp] theorem abs1_int (n : Int) (H : Hp) : abs1 (.int .i64 n) H = some (.sl H.bs.length H.c 0 1 1 true, H.new [.int .i64 n]) := rfl
@[simp] theorem xdo_bs1 {E : Env} {sh : Bool} {s : Sl} {H : Hp} (x : Operand) : xdo E T sh (.buildSlice 22 1 #[(0, x)]) s H = abs1 (ev s x) H := by
  simp [xdo, aop, D22, T3, rep, abs1]
/-- A number is appended. -/
theorem app_own {H0 H : Hp} {v : AV} {l : List Int} (hw0 : Wf H0) (he : Ext H0 H) (h : Own H0 H v l) (hl : l.length < 1099511627776) (n : Int) :
    ∃ v' H', aapp T false 22 22 v (.sl H.bs.length H.c 0 1 1 true) (H.new [.int .i64 n]) = some (v', H') ∧ Own H0 H' v' (l ++ [n]) ∧ Ext H0 H' := by
  have hx : slCells (H.new [.int .i64 n]) (.sl H.bs.length H.c 0 1 1 true) = some (1, [.int .i64 n]) := by
    simp [slCells, new_at]
  have he1 : Ext H0 (H.new [.int .i64 n]) := he.new _
  rcases h with ⟨rfl, rfl⟩ | ⟨b, ver, rfl, hv, hne, hk⟩
  · refine ⟨.sl (H.new [.int .i64 n]).bs.length (H.new [.int .i64 n]).c 0 1 1 false, (H.new [.int .i64 n]).new [.int .i64 n], ?_, ?_, he1.new _⟩
    · simp only [aapp, D22, T3, Option.bind_some, aappend, hx]
      simp [maxBytes]
    · exact .inr ⟨_, _, rfl, he1.c, by simp, new_at _ _⟩
  · have hk' := at_new hk [.int .i64 n]
    obtain ⟨g1, g2⟩ := Hp.at_some hk'
    have hb := (List.getElem?_eq_some_iff.1 g1).1
    refine ⟨.sl b (H.new [.int .i64 n]).c 0 (l.length + 1) 1 false, ⟨(H.new [.int .i64 n]).bs.set b ⟨(H.new [.int .i64 n]).c, l.map (.int .i64) ++ [.int .i64 n], true, true⟩, (H.new [.int .i64 n]).c + 1⟩, ?_, ?_, ?_⟩
    · simp only [aapp, D22, T3, Option.bind_some, aappend, hx, hk']
      simp [maxBytes]
      omega
    · refine .inr ⟨b, _, by simp, he1.c, by simp, ?_⟩
      simp [Hp.at, hb]
    · refine ⟨?_, ?_, Nat.le_succ_of_le he1.c⟩
      · intro i k hi
        have h1 := he1.pre i k hi
        show ((H.new [.int .i64 n]).bs.set b _)[i]? = some k
        by_cases hib : b = i
        · subst hib
          rw [g1] at h1
          cases h1
          exact absurd (hw0 b _ hi) (Nat.not_lt.2 hv)
        · rw [List.getElem?_set_ne hib]; exact h1
      · intro i k hi
        by_cases hib : b = i
        · subst hib
          simp [hb] at hi
          subst hi
          exact Nat.lt_succ_self _
        · simp only [List.getElem?_set_ne hib] at hi
          exact Nat.lt_succ_of_lt (he1.wf i k hi)
/-- A list of numbers, as it is handed back. -/
def mkS (H : Hp) (l : List Int) : AV × Hp :=
  if l = [] then (.nilS, H) else (.sl H.bs.length H.c 0 l.length 1 false, H.new (l.map (.int .i64)))
theorem mkS_ext {H : Hp} (h : Wf H) (l : List Int) : Ext H (mkS H l).2 := by
  unfold mkS; split
  · exact Ext.refl h
  · exact (Ext.refl h).new _
theorem mkS_own (H : Hp) (l : List Int) : Own H (mkS H l).2 (mkS H l).1 l := by
  unfold mkS; split
  · rename_i h; exact .inl ⟨h, rfl⟩
  · rename_i h; exact .inr ⟨_, _, rfl, Nat.le_refl _, h, new_at _ _⟩
theorem all_flat (l : List Int) : (l.map (AV.int .i64)).all flat = true := by
  induction l with
  | nil => rfl
  | cons a l ih => simp [flat]
theorem goEndS {E : Env} {H0 H : Hp} {x : Ex} {s : Sl} {rs : List ResultVar} {q : Option (List AV)} {v : AV} {l : List Int} {r : AV} {Hr : Hp} (hw : Wf H0) (he : Ext H0 H) (ho : Own H0 H v l) (hx : x = .norm ∨ x = .ret) (e : xres T s H rs = q) (eq : q = some [v]) (hr : mkS H0 l = (r, Hr)) :
    K E T (.fin fun x s' H2 => (x = .norm ∨ x = .ret) ∧ ∃ vs js, xres T s' H2 rs = some vs ∧ Can H0 H2 Hr (xret vs) r js) x s H := by
  rcases ho with ⟨rfl, rfl⟩ | ⟨b, ver, rfl, hv, hne, hk⟩
  · simp only [mkS, if_true] at hr
    cases hr
    exact ⟨⟨hx, _, [], e.trans eq, Can.pure hw he.pre rfl⟩⟩
  · simp only [mkS, if_neg hne] at hr
    cases hr
    refine ⟨⟨hx, _, [(b, ver)], e.trans eq, ?_⟩⟩
    have := Can.one (r2 := .sl b ver 0 l.length 1 false) (r := .sl H0.bs.length H0.c 0 l.length 1 false) hw he.pre hk hv (all_flat l) (by simp [AV.rel, relR, pos, Nat.not_lt.2 hv])
    exact this
/-- A list that was made by make: as long as it is, it may be written. -/
def OwnF (H0 H : Hp) (v : AV) (l : List Int) : Prop :=
  ∃ b ver, v = .sl b ver 0 l.length 1 true ∧ H0.c ≤ ver ∧ H.at b ver = some ⟨ver, l.map (.int .i64), true, true⟩
theorem ints_of_ownF {H0 H : Hp} {v : AV} {l : List Int} (h : OwnF H0 H v l) (hl : l.length ≤ 1152921504606846976) : ints H v = some l := by
  obtain ⟨b, ver, rfl, _, hk⟩ := h
  simp only [ints, hl, and_self, if_true, hk, List.drop_zero]
  rw [if_pos (by simp), List.take_of_length_le (by simp), toInts_map]
theorem rep_ints (n : Nat) : rep n [.int .i64 0] = (List.replicate n (0 : Int)).map (.int .i64) := by
  induction n with
  | zero => rfl
  | succ n ih => simp [rep, ih, List.replicate_succ]
theorem setAll_one : ∀ (l : List Int) (j : Nat) (x : Int), setAll (l.map (AV.int .i64)) j [.int .i64 x] = (l.set j x).map (.int .i64) := by
  intro l j x
  simp [setAll, List.map_set]
/-- A made list, as it is handed back. -/
def mkF (H : Hp) (l : List Int) : AV × Hp := (.sl H.bs.length H.c 0 l.length 1 true, H.new (l.map (.int .i64)))
theorem mkF_ext {H : Hp} (h : Wf H) (l : List Int) : Ext H (mkF H l).2 := (Ext.refl h).new _
theorem mkF_own (H : Hp) (l : List Int) : OwnF H (mkF H l).2 (mkF H l).1 l := ⟨_, _, rfl, Nat.le_refl _, new_at _ _⟩
theorem goEndF {E : Env} {H0 H : Hp} {x : Ex} {s : Sl} {rs : List ResultVar} {q : Option (List AV)} {v : AV} {l : List Int} {r : AV} {Hr : Hp} (hw : Wf H0) (he : Ext H0 H) (ho : OwnF H0 H v l) (hx : x = .norm ∨ x = .ret) (e : xres T s H rs = q) (eq : q = some [v]) (hr : mkF H0 l = (r, Hr)) :
    K E T (.fin fun x s' H2 => (x = .norm ∨ x = .ret) ∧ ∃ vs js, xres T s' H2 rs = some vs ∧ Can H0 H2 Hr (xret vs) r js) x s H := by
  obtain ⟨b, ver, rfl, hv, hk⟩ := ho
  cases hr
  refine ⟨⟨hx, _, [(b, ver)], e.trans eq, ?_⟩⟩
  exact Can.one (r2 := .sl b ver 0 l.length 1 true) (r := .sl H0.bs.length H0.c 0 l.length 1 true) hw he.pre hk hv (all_flat l) (by simp [AV.rel, relR, pos, Nat.not_lt.2 hv])
theorem Own.new {H0 H : Hp} {v : AV} {l : List Int} (h : Own H0 H v l) (xs : List AV) : Own H0 (H.new xs) v l := by
  rcases h with h | ⟨b, ver, h1, h2, h3, hk⟩
  · exact .inl h
  · exact .inr ⟨b, ver, h1, h2, h3, at_new hk xs⟩
theorem Own.old {A B H : Hp} {v : AV} {l : List Int} (h : Own B H v l) (hc : A.c ≤ B.c) : Own A H v l := by
  rcases h with h | ⟨b, ver, h1, h2, h3, hk⟩
  · exact .inl h
  · exact .inr ⟨b, ver, h1, Nat.le_trans hc h2, h3, hk⟩
/-- As Own, of any cells: n elements of es cells each. -/
def OwnG (es : Nat) (H0 H : Hp) (v : AV) (n : Nat) (cs : List AV) : Prop :=
  (n = 0 ∧ v = .nilS ∧ cs = []) ∨ ∃ b ver, v = .sl b ver 0 n es false ∧ H0.c ≤ ver ∧ n ≠ 0 ∧ cs.length = n * es ∧ H.at b ver = some ⟨ver, cs, true, true⟩
def mkG (H : Hp) (es n : Nat) (cs : List AV) : AV × Hp :=
  if n = 0 then (.nilS, H) else (.sl H.bs.length H.c 0 n es false, H.new cs)
theorem Can.g {H H2 Hr : Hp} {es n : Nat} {cs : List AV} {v r : AV} (hw : Wf H) (he : Ext H H2) (ho : OwnG es H H2 v n cs) (hf : cs.all flat = true) (hr : mkG H es n cs = (r, Hr)) :
    ∃ js, (∀ b, Can H H2 Hr (.tup [v, .bool b]) (.tup [r, .bool b]) js) := by
  rcases ho with ⟨rfl, rfl, rfl⟩ | ⟨b, ver, rfl, hv, hne, _, hk⟩
  · cases hr
    exact ⟨[], fun b => Can.pure hw he.pre rfl⟩
  · simp only [mkG, if_neg hne] at hr
    cases hr
    exact ⟨[(b, ver)], fun _ => Can.one (r2 := .tup [.sl b ver 0 n es false, .bool _]) (r := .tup [.sl H.bs.length H.c 0 n es false, .bool _]) hw he.pre hk hv hf (by simp [AV.rel, rels, relR, pos, Nat.not_lt.2 hv])⟩
/- Functions in short form. -/
/-! parquetry/mesh.At (2 parameters; calls 88 parquetry/mesh.Devices) -/
/-! parquetry/tile.cuts (4 parameters; calls 60 parquetry/tile.Cut, 63 parquetry/spec.Right, 88 parquetry/mesh.Devices, 90 parquetry/shape.Right, 123 parquetry/mesh.At) -/
/-! parquetry/tile.Size (4 parameters; calls 57 parquetry/tile.cuts) -/
/-! parquetry/tile.From (4 parameters; calls 57 parquetry/tile.cuts) -/
/-! parquetry/tile.Most (3 parameters; calls 21 parquetry/tile.Size) -/
/-! parquetry/parquetrybook.Same[int] (2 parameters; calls none) -/
/-! parquetry/parquetrylaw16.known (0 parameters; calls 19 parquetry/tile.Most, 21 parquetry/tile.Size, 22 parquetry/tile.From, 60 parquetry/tile.Cut, 61 parquetry/tile.Width, 62 parquetry/parquetrybook.Same[int]) -/
/-! (*parquetry/parquetrykeep.Tape).Next (2 parameters; calls 45 parquetry/parquetrybook.Within) -/
def A16 : Ann := { drop := fun i => false }
noncomputable def c16 : Cc :=
  (.seq (.reg false [⟨some 4, (Op.assign (Operand.const (Value.int IntKind.i64 0))), none⟩])
  (.seq (.seq (.reg false [⟨some 5, (Op.move (Operand.tmp 0)), none⟩,
    ⟨some 6, (Op.nilCheck (Operand.tmp 5)), none⟩,
    ⟨some 7, (Op.fieldAddr 25 (Operand.tmp 6) 1), none⟩,
    ⟨some 8, (Op.load 3 (Operand.tmp 7)), none⟩,
    ⟨some 9, (Op.move (Operand.tmp 0)), none⟩,
    ⟨some 10, (Op.nilCheck (Operand.tmp 9)), none⟩,
    ⟨some 11, (Op.fieldAddr 25 (Operand.tmp 10) 0), none⟩,
    ⟨some 12, (Op.load 22 (Operand.tmp 11)), none⟩,
    ⟨some 13, (Op.call { callee := (Callee.builtin Builtin.len), args := #[(Operand.tmp 12)], argTypes := #[22] }), none⟩,
    ⟨some 14, (Op.binOp BinOp.geq 3 (Operand.tmp 8) (Operand.tmp 13) 3), none⟩,
    ⟨some 15, (Op.move (Operand.tmp 14)), none⟩,
    ⟨some 16, (Op.move (Operand.tmp 1)), some (15, false)⟩,
    ⟨some 17, (Op.binOp BinOp.lss 3 (Operand.tmp 16) (Operand.const (Value.int IntKind.i64 1)) 3), some (15, false)⟩,
    ⟨some 18, (Op.pick (Operand.tmp 15) (Operand.const (Value.bool true)) (Operand.tmp 17)), none⟩])
  (.cond (Operand.tmp 18)
    (.seq (.reg false [⟨some 4, (Op.assign (Operand.const (Value.int IntKind.i64 0))), none⟩])
    .ret)
    .skip))
  (.seq (.reg false [⟨some 19, (Op.move (Operand.tmp 0)), none⟩,
    ⟨some 20, (Op.nilCheck (Operand.tmp 19)), none⟩,
    ⟨some 21, (Op.fieldAddr 25 (Operand.tmp 20) 1), none⟩,
    ⟨some 22, (Op.load 3 (Operand.tmp 21)), none⟩,
    ⟨some 23, (Op.binOp BinOp.add 3 (Operand.tmp 22) (Operand.const (Value.int IntKind.i64 1)) 3), none⟩,
    ⟨some 24, (Op.nilCheck (Operand.tmp 19)), none⟩,
    ⟨some 25, (Op.fieldAddr 25 (Operand.tmp 24) 1), none⟩,
    ⟨none, (Op.store 3 (Operand.tmp 25) (Operand.tmp 23)), none⟩])
  (.seq (.reg false [⟨some 26, (Op.move (Operand.tmp 0)), none⟩,
    ⟨some 27, (Op.nilCheck (Operand.tmp 26)), none⟩,
    ⟨some 28, (Op.fieldAddr 25 (Operand.tmp 27) 0), none⟩,
    ⟨some 29, (Op.load 22 (Operand.tmp 28)), none⟩,
    ⟨some 30, (Op.move (Operand.tmp 0)), none⟩,
    ⟨some 31, (Op.nilCheck (Operand.tmp 30)), none⟩,
    ⟨some 32, (Op.fieldAddr 25 (Operand.tmp 31) 1), none⟩,
    ⟨some 33, (Op.load 3 (Operand.tmp 32)), none⟩,
    ⟨some 34, (Op.binOp BinOp.sub 3 (Operand.tmp 33) (Operand.const (Value.int IntKind.i64 1)) 3), none⟩,
    ⟨some 35, (Op.indexAddr 22 (Operand.tmp 29) (Operand.tmp 34)), none⟩,
    ⟨some 36, (Op.load 3 (Operand.tmp 35)), none⟩,
    ⟨some 37, (Op.call { callee := (Callee.value (Operand.func 45)), args := #[(Operand.tmp 36), (Operand.const (Value.int IntKind.i64 0)), (Operand.const (Value.int IntKind.i64 1073741824))], argTypes := #[3, 3, 3] }), none⟩,
    ⟨some 38, (Op.move (Operand.tmp 1)), none⟩,
    ⟨some 39, (Op.binOp BinOp.rem 3 (Operand.tmp 37) (Operand.tmp 38) 3), none⟩,
    ⟨some 4, (Op.assign (Operand.tmp 39)), none⟩])
  .ret))))
noncomputable def b16 : Code := Try.f16.body.getD .skip
theorem hb16 : Try.f16.body = some b16 := by kernel_rfl
theorem sh16 : shortC A16 b16 = c16 := by kernel_rfl
def rs16 : List ResultVar := [(ResultVar.tmp 4)]
theorem hr16 : Try.f16.results.toList = rs16 := by kernel_rfl
/-! (*parquetry/parquetrykeep.Tape).Shape (1 parameters; calls 16 (*parquetry/parquetrykeep.Tape).Next) -/
def A17 : Ann := { live := fun i => if i = 3 then [0, 3, 4] else [], drop := fun i => false }
noncomputable def c17 : Cc :=
  (.seq (.reg false [⟨some 2, (Op.assign (Operand.const (Value.slice none 0 0))), none⟩])
  (.seq (.reg false [⟨some 3, (Op.assign (Operand.const (Value.slice none 0 0))), none⟩])
  (.seq (.seq (.reg false [⟨some 5, (Op.move (Operand.tmp 0)), none⟩,
    ⟨some 6, (Op.call { callee := (Callee.value (Operand.func 16)), args := #[(Operand.tmp 5), (Operand.const (Value.int IntKind.i64 4))], argTypes := #[23, 3] }), none⟩,
    ⟨some 4, (Op.assign (Operand.tmp 6)), none⟩])
  (.block 0 (.loop [0, 3, 4] false
    (.seq (.seq (.reg false [⟨some 7, (Op.move (Operand.tmp 4)), none⟩,
      ⟨some 8, (Op.binOp BinOp.gtr 3 (Operand.tmp 7) (Operand.const (Value.int IntKind.i64 0)) 3), none⟩])
    (.cond (Operand.tmp 8)
      .skip
      (.exit 0)))
    (.seq (.block 1 (.reg false [⟨some 11, (Op.move (Operand.tmp 3)), none⟩,
      ⟨some 12, (Op.buildSlice 22 8 #[(0, (Operand.const (Value.int IntKind.i64 1))), (1, (Operand.const (Value.int IntKind.i64 2))), (2, (Operand.const (Value.int IntKind.i64 3))), (3, (Operand.const (Value.int IntKind.i64 4))), (4, (Operand.const (Value.int IntKind.i64 5))), (5, (Operand.const (Value.int IntKind.i64 0))), (6, (Operand.const (Value.int IntKind.i64 7))), (7, (Operand.const (Value.int IntKind.i64 2)))]), none⟩,
      ⟨some 13, (Op.move (Operand.tmp 0)), none⟩,
      ⟨some 14, (Op.call { callee := (Callee.value (Operand.func 16)), args := #[(Operand.tmp 13), (Operand.const (Value.int IntKind.i64 8))], argTypes := #[23, 3] }), none⟩,
      ⟨some 15, (Op.indexAddr 22 (Operand.tmp 12) (Operand.tmp 14)), none⟩,
      ⟨some 16, (Op.load 3 (Operand.tmp 15)), none⟩,
      ⟨some 17, (Op.buildSlice 22 1 #[(0, (Operand.tmp 16))]), none⟩,
      ⟨some 18, (Op.call { callee := (Callee.builtin Builtin.append), args := #[(Operand.tmp 11), (Operand.tmp 17)], argTypes := #[22, 22] }), none⟩,
      ⟨some 3, (Op.assign (Operand.tmp 18)), none⟩]))
    (.reg false [⟨some 9, (Op.move (Operand.tmp 4)), none⟩,
      ⟨some 10, (Op.binOp BinOp.sub 3 (Operand.tmp 9) (Operand.const (Value.int IntKind.i64 1)) 3), none⟩,
      ⟨some 4, (Op.assign (Operand.tmp 10)), none⟩]))))))
  (.seq (.reg false [⟨some 19, (Op.move (Operand.tmp 3)), none⟩,
    ⟨some 2, (Op.assign (Operand.tmp 19)), none⟩])
  .ret))))
noncomputable def b17 : Code := Try.f17.body.getD .skip
theorem hb17 : Try.f17.body = some b17 := by kernel_rfl
theorem sh17 : shortC A17 b17 = c17 := by kernel_rfl
def rs17 : List ResultVar := [(ResultVar.tmp 2)]
theorem hr17 : Try.f17.results.toList = rs17 := by kernel_rfl
/-! (*parquetry/parquetrykeep.Tape).Spec (3 parameters; calls 16 (*parquetry/parquetrykeep.Tape).Next) -/
def A18 : Ann := { live := fun i => if i = 4 then [0, 1, 7, 8, 17, 18] else [], drop := fun i => false }
noncomputable def c18 : Cc :=
  (.seq (.reg false [⟨some 6, (Op.assign (Operand.const (Value.slice none 0 0))), none⟩])
  (.seq (.reg false [⟨some 11, (Op.move (Operand.tmp 2)), none⟩,
    ⟨some 12, (Op.makeSlice 22 (Operand.tmp 11) (Operand.tmp 11)), none⟩,
    ⟨some 7, (Op.assign (Operand.tmp 12)), none⟩])
  (.seq (.reg false [⟨some 13, (Op.move (Operand.tmp 1)), none⟩,
    ⟨some 14, (Op.call { callee := (Callee.builtin Builtin.len), args := #[(Operand.tmp 13)], argTypes := #[22] }), none⟩,
    ⟨some 15, (Op.makeSlice 82 (Operand.tmp 14) (Operand.tmp 14)), none⟩,
    ⟨some 8, (Op.assign (Operand.tmp 15)), none⟩])
  (.seq (.seq (.reg false [⟨some 16, (Op.move (Operand.tmp 7)), none⟩,
    ⟨some 17, (Op.call { callee := (Callee.builtin Builtin.len), args := #[(Operand.tmp 16)], argTypes := #[22] }), none⟩,
    ⟨some 18, (Op.move (Operand.const (Value.int IntKind.i64 0))), none⟩])
  (.block 0 (.loop [0, 1, 7, 8, 17, 18] false
    (.seq (.reg false [⟨some 19, (Op.binOp BinOp.lss 3 (Operand.tmp 18) (Operand.tmp 17) 3), none⟩])
    (.seq (.cond (Operand.tmp 19)
      .skip
      (.exit 0))
    (.seq (.block 1 (.seq (.reg false [⟨some 20, (Op.move (Operand.tmp 18)), none⟩,
      ⟨some 9, (Op.assign (Operand.tmp 20)), none⟩])
    (.seq (.reg false [⟨some 21, (Op.move (Operand.tmp 7)), none⟩,
      ⟨some 22, (Op.move (Operand.tmp 9)), none⟩,
      ⟨some 23, (Op.indexAddr 22 (Operand.tmp 21) (Operand.tmp 22)), none⟩,
      ⟨none, (Op.store 3 (Operand.tmp 23) (Operand.const (Value.int IntKind.i64 (-1)))), none⟩])
    (.seq (.reg false [⟨some 24, (Op.move (Operand.tmp 1)), none⟩,
      ⟨some 25, (Op.call { callee := (Callee.builtin Builtin.len), args := #[(Operand.tmp 24)], argTypes := #[22] }), none⟩,
      ⟨some 26, (Op.binOp BinOp.gtr 3 (Operand.tmp 25) (Operand.const (Value.int IntKind.i64 0)) 3), none⟩,
      ⟨some 27, (Op.move (Operand.tmp 26)), none⟩,
      ⟨some 28, (Op.move (Operand.tmp 0)), some (27, true)⟩,
      ⟨some 29, (Op.call { callee := (Callee.value (Operand.func 16)), args := #[(Operand.tmp 28), (Operand.const (Value.int IntKind.i64 2))], argTypes := #[23, 3] }), some (27, true)⟩,
      ⟨some 30, (Op.binOp BinOp.eql 3 (Operand.tmp 29) (Operand.const (Value.int IntKind.i64 0)) 3), some (27, true)⟩,
      ⟨some 31, (Op.pick (Operand.tmp 27) (Operand.tmp 30) (Operand.const (Value.bool false))), none⟩])
    (.cond (Operand.tmp 31)
      (.seq (.reg false [⟨some 32, (Op.move (Operand.tmp 0)), none⟩,
        ⟨some 33, (Op.move (Operand.tmp 1)), none⟩,
        ⟨some 34, (Op.call { callee := (Callee.builtin Builtin.len), args := #[(Operand.tmp 33)], argTypes := #[22] }), none⟩,
        ⟨some 35, (Op.call { callee := (Callee.value (Operand.func 16)), args := #[(Operand.tmp 32), (Operand.tmp 34)], argTypes := #[23, 3] }), none⟩,
        ⟨some 10, (Op.assign (Operand.tmp 35)), none⟩])
      (.seq (.reg false [⟨some 36, (Op.move (Operand.tmp 8)), none⟩,
        ⟨some 37, (Op.move (Operand.tmp 10)), none⟩,
        ⟨some 38, (Op.indexAddr 82 (Operand.tmp 36) (Operand.tmp 37)), none⟩,
        ⟨some 39, (Op.load 4 (Operand.tmp 38)), none⟩,
        ⟨some 40, (Op.unOp UnOp.not 4 (Operand.tmp 39)), none⟩])
      (.cond (Operand.tmp 40)
        (.reg false [⟨some 41, (Op.move (Operand.tmp 7)), none⟩,
          ⟨some 42, (Op.move (Operand.tmp 9)), none⟩,
          ⟨some 43, (Op.move (Operand.tmp 8)), none⟩,
          ⟨some 44, (Op.move (Operand.tmp 10)), none⟩,
          ⟨some 45, (Op.move (Operand.tmp 10)), none⟩,
          ⟨some 46, (Op.indexAddr 22 (Operand.tmp 41) (Operand.tmp 42)), none⟩,
          ⟨none, (Op.store 3 (Operand.tmp 46) (Operand.tmp 45)), none⟩,
          ⟨some 47, (Op.indexAddr 82 (Operand.tmp 43) (Operand.tmp 44)), none⟩,
          ⟨none, (Op.store 4 (Operand.tmp 47) (Operand.const (Value.bool true))), none⟩])
        .skip)))
      .skip)))))
    (.reg false [⟨some 48, (Op.binOp BinOp.add 3 (Operand.tmp 18) (Operand.const (Value.int IntKind.i64 1)) 3), none⟩,
      ⟨some 18, (Op.move (Operand.tmp 48)), none⟩])))))))
  (.seq (.reg false [⟨some 49, (Op.move (Operand.tmp 7)), none⟩,
    ⟨some 6, (Op.assign (Operand.tmp 49)), none⟩])
  .ret)))))
noncomputable def b18 : Code := Try.f18.body.getD .skip
theorem hb18 : Try.f18.body = some b18 := by kernel_rfl
theorem sh18 : shortC A18 b18 = c18 := by kernel_rfl
def rs18 : List ResultVar := [(ResultVar.tmp 6)]
theorem hr18 : Try.f18.results.toList = rs18 := by kernel_rfl
/- Functions in short form. -/
/-! parquetry/mesh.Devices (1 parameters; calls 89 parquetry/mesh.Right) -/
def A88 : Ann := { live := fun i => if i = 5 then [3, 9, 10, 11] else [], drop := fun i => false }
noncomputable def c88 : Cc :=
  (.seq (.reg false [⟨some 2, (Op.assign (Operand.const (Value.int IntKind.i64 0))), none⟩])
  (.seq (.seq (.reg false [⟨some 6, (Op.move (Operand.tmp 0)), none⟩,
    ⟨some 7, (Op.call { callee := (Callee.value (Operand.func 89)), args := #[(Operand.tmp 6)], argTypes := #[22] }), none⟩,
    ⟨some 8, (Op.unOp UnOp.not 4 (Operand.tmp 7)), none⟩])
  (.cond (Operand.tmp 8)
    (.seq (.reg false [⟨some 2, (Op.assign (Operand.const (Value.int IntKind.i64 0))), none⟩])
    .ret)
    .skip))
  (.seq (.reg false [⟨some 3, (Op.assign (Operand.const (Value.int IntKind.i64 1))), none⟩])
  (.seq (.seq (.reg false [⟨some 9, (Op.move (Operand.tmp 0)), none⟩,
    ⟨some 10, (Op.call { callee := (Callee.builtin Builtin.len), args := #[(Operand.tmp 9)], argTypes := #[22] }), none⟩,
    ⟨some 11, (Op.move (Operand.const (Value.int IntKind.i64 0))), none⟩])
  (.block 0 (.loop [3, 9, 10, 11] false
    (.seq (.reg false [⟨some 12, (Op.binOp BinOp.lss 3 (Operand.tmp 11) (Operand.tmp 10) 3), none⟩])
    (.seq (.cond (Operand.tmp 12)
      .skip
      (.exit 0))
    (.seq (.block 1 (.seq (.reg false [⟨some 13, (Op.indexAddr 22 (Operand.tmp 9) (Operand.tmp 11)), none⟩,
      ⟨some 14, (Op.load 3 (Operand.tmp 13)), none⟩,
      ⟨some 5, (Op.assign (Operand.tmp 14)), none⟩])
    (.reg false [⟨some 15, (Op.move (Operand.tmp 3)), none⟩,
      ⟨some 16, (Op.move (Operand.tmp 5)), none⟩,
      ⟨some 17, (Op.binOp BinOp.mul 3 (Operand.tmp 15) (Operand.tmp 16) 3), none⟩,
      ⟨some 3, (Op.assign (Operand.tmp 17)), none⟩])))
    (.reg false [⟨some 18, (Op.binOp BinOp.add 3 (Operand.tmp 11) (Operand.const (Value.int IntKind.i64 1)) 3), none⟩,
      ⟨some 11, (Op.move (Operand.tmp 18)), none⟩])))))))
  (.seq (.reg false [⟨some 19, (Op.move (Operand.tmp 3)), none⟩,
    ⟨some 2, (Op.assign (Operand.tmp 19)), none⟩])
  .ret)))))
noncomputable def b88 : Code := Try.f88.body.getD .skip
theorem hb88 : Try.f88.body = some b88 := by kernel_rfl
theorem sh88 : shortC A88 b88 = c88 := by kernel_rfl
def rs88 : List ResultVar := [(ResultVar.tmp 2)]
theorem hr88 : Try.f88.results.toList = rs88 := by kernel_rfl
/-! parquetry/shape.Right (1 parameters; calls none) -/
def A90 : Ann := { live := fun i => if i = 5 then [3, 9, 10, 11] else [], drop := fun i => false }
noncomputable def c90 : Cc :=
  (.seq (.reg false [⟨some 2, (Op.assign (Operand.const (Value.bool false))), none⟩])
  (.seq (.seq (.reg false [⟨some 6, (Op.move (Operand.tmp 0)), none⟩,
    ⟨some 7, (Op.call { callee := (Callee.builtin Builtin.len), args := #[(Operand.tmp 6)], argTypes := #[22] }), none⟩,
    ⟨some 8, (Op.binOp BinOp.gtr 3 (Operand.tmp 7) (Operand.const (Value.int IntKind.i64 4)) 3), none⟩])
  (.cond (Operand.tmp 8)
    (.seq (.reg false [⟨some 2, (Op.assign (Operand.const (Value.bool false))), none⟩])
    .ret)
    .skip))
  (.seq (.reg false [⟨some 3, (Op.assign (Operand.const (Value.int IntKind.i64 1))), none⟩])
  (.seq (.seq (.reg false [⟨some 9, (Op.move (Operand.tmp 0)), none⟩,
    ⟨some 10, (Op.call { callee := (Callee.builtin Builtin.len), args := #[(Operand.tmp 9)], argTypes := #[22] }), none⟩,
    ⟨some 11, (Op.move (Operand.const (Value.int IntKind.i64 0))), none⟩])
  (.block 0 (.loop [3, 9, 10, 11] false
    (.seq (.reg false [⟨some 12, (Op.binOp BinOp.lss 3 (Operand.tmp 11) (Operand.tmp 10) 3), none⟩])
    (.seq (.cond (Operand.tmp 12)
      .skip
      (.exit 0))
    (.seq (.block 1 (.seq (.reg false [⟨some 13, (Op.indexAddr 22 (Operand.tmp 9) (Operand.tmp 11)), none⟩,
      ⟨some 14, (Op.load 3 (Operand.tmp 13)), none⟩,
      ⟨some 5, (Op.assign (Operand.tmp 14)), none⟩])
    (.seq (.seq (.reg false [⟨some 15, (Op.move (Operand.tmp 5)), none⟩,
      ⟨some 16, (Op.binOp BinOp.lss 3 (Operand.tmp 15) (Operand.const (Value.int IntKind.i64 0)) 3), none⟩,
      ⟨some 17, (Op.move (Operand.tmp 16)), none⟩,
      ⟨some 18, (Op.move (Operand.tmp 5)), some (17, false)⟩,
      ⟨some 19, (Op.binOp BinOp.gtr 3 (Operand.tmp 18) (Operand.const (Value.int IntKind.i64 32)) 3), some (17, false)⟩,
      ⟨some 20, (Op.pick (Operand.tmp 17) (Operand.const (Value.bool true)) (Operand.tmp 19)), none⟩])
    (.cond (Operand.tmp 20)
      (.seq (.reg false [⟨some 2, (Op.assign (Operand.const (Value.bool false))), none⟩])
      .ret)
      .skip))
    (.reg false [⟨some 21, (Op.move (Operand.tmp 3)), none⟩,
      ⟨some 22, (Op.move (Operand.tmp 5)), none⟩,
      ⟨some 23, (Op.binOp BinOp.mul 3 (Operand.tmp 21) (Operand.tmp 22) 3), none⟩,
      ⟨some 3, (Op.assign (Operand.tmp 23)), none⟩]))))
    (.reg false [⟨some 24, (Op.binOp BinOp.add 3 (Operand.tmp 11) (Operand.const (Value.int IntKind.i64 1)) 3), none⟩,
      ⟨some 11, (Op.move (Operand.tmp 24)), none⟩])))))))
  (.seq (.reg false [⟨some 25, (Op.move (Operand.tmp 3)), none⟩,
    ⟨some 26, (Op.binOp BinOp.leq 3 (Operand.tmp 25) (Operand.const (Value.int IntKind.i64 4096)) 3), none⟩,
    ⟨some 2, (Op.assign (Operand.tmp 26)), none⟩])
  .ret)))))
noncomputable def b90 : Code := Try.f90.body.getD .skip
theorem hb90 : Try.f90.body = some b90 := by kernel_rfl
theorem sh90 : shortC A90 b90 = c90 := by kernel_rfl
def rs90 : List ResultVar := [(ResultVar.tmp 2)]
theorem hr90 : Try.f90.results.toList = rs90 := by kernel_rfl
/-! slices.Index[[]int,int] (2 parameters; calls none) -/
def A157 : Ann := { live := fun i => if i = 2 then [0, 1, 7, 8] else [], drop := fun i => false }
noncomputable def c157 : Cc :=
  (.seq (.reg false [⟨some 4, (Op.assign (Operand.const (Value.int IntKind.i64 0))), none⟩])
  (.seq (.seq (.reg false [⟨some 6, (Op.move (Operand.tmp 0)), none⟩,
    ⟨some 7, (Op.call { callee := (Callee.builtin Builtin.len), args := #[(Operand.tmp 6)], argTypes := #[22] }), none⟩,
    ⟨some 8, (Op.move (Operand.const (Value.int IntKind.i64 0))), none⟩])
  (.block 0 (.loop [0, 1, 7, 8] false
    (.seq (.reg false [⟨some 9, (Op.binOp BinOp.lss 3 (Operand.tmp 8) (Operand.tmp 7) 3), none⟩])
    (.seq (.cond (Operand.tmp 9)
      .skip
      (.exit 0))
    (.seq (.block 1 (.seq (.reg false [⟨some 10, (Op.move (Operand.tmp 8)), none⟩,
      ⟨some 5, (Op.assign (Operand.tmp 10)), none⟩])
    (.seq (.reg false [⟨some 11, (Op.move (Operand.tmp 1)), none⟩,
      ⟨some 12, (Op.move (Operand.tmp 0)), none⟩,
      ⟨some 13, (Op.move (Operand.tmp 5)), none⟩,
      ⟨some 14, (Op.indexAddr 22 (Operand.tmp 12) (Operand.tmp 13)), none⟩,
      ⟨some 15, (Op.load 3 (Operand.tmp 14)), none⟩,
      ⟨some 16, (Op.binOp BinOp.eql 3 (Operand.tmp 11) (Operand.tmp 15) 3), none⟩])
    (.cond (Operand.tmp 16)
      (.seq (.reg false [⟨some 17, (Op.move (Operand.tmp 5)), none⟩,
        ⟨some 4, (Op.assign (Operand.tmp 17)), none⟩])
      .ret)
      .skip))))
    (.reg false [⟨some 18, (Op.binOp BinOp.add 3 (Operand.tmp 8) (Operand.const (Value.int IntKind.i64 1)) 3), none⟩,
      ⟨some 8, (Op.move (Operand.tmp 18)), none⟩])))))))
  (.seq (.reg false [⟨some 4, (Op.assign (Operand.const (Value.int IntKind.i64 (-1)))), none⟩])
  .ret)))
noncomputable def b157 : Code := Try.f157.body.getD .skip
theorem hb157 : Try.f157.body = some b157 := by kernel_rfl
theorem sh157 : shortC A157 b157 = c157 := by kernel_rfl
def rs157 : List ResultVar := [(ResultVar.tmp 4)]
theorem hr157 : Try.f157.results.toList = rs157 := by kernel_rfl
/-! slices.Contains[[]int,int] (2 parameters; calls 157 slices.Index[[]int,int]) -/
def A125 : Ann := { drop := fun i => false }
noncomputable def c125 : Cc :=
  (.seq (.reg false [⟨some 4, (Op.assign (Operand.const (Value.bool false))), none⟩])
  (.seq (.reg false [⟨some 5, (Op.move (Operand.tmp 0)), none⟩,
    ⟨some 6, (Op.move (Operand.tmp 1)), none⟩,
    ⟨some 7, (Op.call { callee := (Callee.value (Operand.func 157)), args := #[(Operand.tmp 5), (Operand.tmp 6)], argTypes := #[22, 3] }), none⟩,
    ⟨some 8, (Op.binOp BinOp.geq 3 (Operand.tmp 7) (Operand.const (Value.int IntKind.i64 0)) 3), none⟩,
    ⟨some 4, (Op.assign (Operand.tmp 8)), none⟩])
  .ret))
noncomputable def b125 : Code := Try.f125.body.getD .skip
theorem hb125 : Try.f125.body = some b125 := by kernel_rfl
theorem sh125 : shortC A125 b125 = c125 := by kernel_rfl
def rs125 : List ResultVar := [(ResultVar.tmp 4)]
theorem hr125 : Try.f125.results.toList = rs125 := by kernel_rfl
/-! parquetry/spec.Right (3 parameters; calls 89 parquetry/mesh.Right, 125 slices.Contains[[]int,int]) -/
def A63 : Ann := { live := fun i => if i = 4 then [0, 1, 18, 19, 20] else [], drop := fun i => false }
noncomputable def c63 : Cc :=
  (.seq (.reg false [⟨some 6, (Op.assign (Operand.const (Value.bool false))), none⟩])
  (.seq (.seq (.reg false [⟨some 9, (Op.move (Operand.tmp 0)), none⟩,
    ⟨some 10, (Op.call { callee := (Callee.value (Operand.func 89)), args := #[(Operand.tmp 9)], argTypes := #[22] }), none⟩,
    ⟨some 11, (Op.unOp UnOp.not 4 (Operand.tmp 10)), none⟩,
    ⟨some 12, (Op.move (Operand.tmp 11)), none⟩,
    ⟨some 13, (Op.move (Operand.tmp 1)), some (12, false)⟩,
    ⟨some 14, (Op.call { callee := (Callee.builtin Builtin.len), args := #[(Operand.tmp 13)], argTypes := #[22] }), some (12, false)⟩,
    ⟨some 15, (Op.move (Operand.tmp 2)), some (12, false)⟩,
    ⟨some 16, (Op.binOp BinOp.neq 3 (Operand.tmp 14) (Operand.tmp 15) 3), some (12, false)⟩,
    ⟨some 17, (Op.pick (Operand.tmp 12) (Operand.const (Value.bool true)) (Operand.tmp 16)), none⟩])
  (.cond (Operand.tmp 17)
    (.seq (.reg false [⟨some 6, (Op.assign (Operand.const (Value.bool false))), none⟩])
    .ret)
    .skip))
  (.seq (.seq (.reg false [⟨some 18, (Op.move (Operand.tmp 1)), none⟩,
    ⟨some 19, (Op.call { callee := (Callee.builtin Builtin.len), args := #[(Operand.tmp 18)], argTypes := #[22] }), none⟩,
    ⟨some 20, (Op.move (Operand.const (Value.int IntKind.i64 0))), none⟩])
  (.block 0 (.loop [0, 1, 18, 19, 20] false
    (.seq (.reg false [⟨some 21, (Op.binOp BinOp.lss 3 (Operand.tmp 20) (Operand.tmp 19) 3), none⟩])
    (.seq (.cond (Operand.tmp 21)
      .skip
      (.exit 0))
    (.seq (.block 1 (.seq (.reg false [⟨some 22, (Op.move (Operand.tmp 20)), none⟩,
      ⟨some 23, (Op.indexAddr 22 (Operand.tmp 18) (Operand.tmp 20)), none⟩,
      ⟨some 24, (Op.load 3 (Operand.tmp 23)), none⟩,
      ⟨some 7, (Op.assign (Operand.tmp 22)), none⟩,
      ⟨some 8, (Op.assign (Operand.tmp 24)), none⟩])
    (.seq (.reg false [⟨some 25, (Op.move (Operand.tmp 8)), none⟩,
      ⟨some 26, (Op.binOp BinOp.lss 3 (Operand.tmp 25) (Operand.const (Value.int IntKind.i64 (-1))) 3), none⟩,
      ⟨some 27, (Op.move (Operand.tmp 26)), none⟩,
      ⟨some 28, (Op.move (Operand.tmp 8)), some (27, false)⟩,
      ⟨some 29, (Op.move (Operand.tmp 0)), some (27, false)⟩,
      ⟨some 30, (Op.call { callee := (Callee.builtin Builtin.len), args := #[(Operand.tmp 29)], argTypes := #[22] }), some (27, false)⟩,
      ⟨some 31, (Op.binOp BinOp.geq 3 (Operand.tmp 28) (Operand.tmp 30) 3), some (27, false)⟩,
      ⟨some 32, (Op.pick (Operand.tmp 27) (Operand.const (Value.bool true)) (Operand.tmp 31)), none⟩,
      ⟨some 33, (Op.move (Operand.tmp 32)), none⟩,
      ⟨some 34, (Op.move (Operand.tmp 8)), some (33, false)⟩,
      ⟨some 35, (Op.binOp BinOp.neq 3 (Operand.tmp 34) (Operand.const (Value.int IntKind.i64 (-1))) 3), some (33, false)⟩,
      ⟨some 36, (Op.move (Operand.tmp 35)), some (33, false)⟩,
      ⟨some 37, (Op.move (Operand.tmp 1)), some (36, true)⟩,
      ⟨some 38, (Op.move (Operand.tmp 7)), some (36, true)⟩,
      ⟨some 39, (Op.slice 22 (Operand.tmp 37) none (some (Operand.tmp 38)) none), some (36, true)⟩,
      ⟨some 40, (Op.move (Operand.tmp 8)), some (36, true)⟩,
      ⟨some 41, (Op.call { callee := (Callee.value (Operand.func 125)), args := #[(Operand.tmp 39), (Operand.tmp 40)], argTypes := #[22, 3] }), some (36, true)⟩,
      ⟨some 42, (Op.pick (Operand.tmp 36) (Operand.tmp 41) (Operand.const (Value.bool false))), some (33, false)⟩,
      ⟨some 43, (Op.pick (Operand.tmp 33) (Operand.const (Value.bool true)) (Operand.tmp 42)), none⟩])
    (.cond (Operand.tmp 43)
      (.seq (.reg false [⟨some 6, (Op.assign (Operand.const (Value.bool false))), none⟩])
      .ret)
      .skip))))
    (.reg false [⟨some 44, (Op.binOp BinOp.add 3 (Operand.tmp 20) (Operand.const (Value.int IntKind.i64 1)) 3), none⟩,
      ⟨some 20, (Op.move (Operand.tmp 44)), none⟩])))))))
  (.seq (.reg false [⟨some 6, (Op.assign (Operand.const (Value.bool true))), none⟩])
  .ret))))
noncomputable def b63 : Code := Try.f63.body.getD .skip
theorem hb63 : Try.f63.body = some b63 := by kernel_rfl
theorem sh63 : shortC A63 b63 = c63 := by kernel_rfl
def rs63 : List ResultVar := [(ResultVar.tmp 6)]
theorem hr63 : Try.f63.results.toList = rs63 := by kernel_rfl
/-! parquetry/parquetryref14.Right (1 parameters; calls none) -/
def A56 : Ann := { live := fun i => if i = 3 then [0, 3, 6, 7] else [], drop := fun i => false }
noncomputable def c56 : Cc :=
  (.seq (.reg false [⟨some 2, (Op.assign (Operand.const (Value.bool false))), none⟩])
  (.seq (.reg false [⟨some 3, (Op.assign (Operand.const (Value.int IntKind.i64 1))), none⟩])
  (.seq (.seq (.reg false [⟨some 5, (Op.move (Operand.tmp 0)), none⟩,
    ⟨some 6, (Op.call { callee := (Callee.builtin Builtin.len), args := #[(Operand.tmp 5)], argTypes := #[22] }), none⟩,
    ⟨some 7, (Op.move (Operand.const (Value.int IntKind.i64 0))), none⟩])
  (.block 0 (.loop [0, 3, 6, 7] false
    (.seq (.reg false [⟨some 8, (Op.binOp BinOp.lss 3 (Operand.tmp 7) (Operand.tmp 6) 3), none⟩])
    (.seq (.cond (Operand.tmp 8)
      .skip
      (.exit 0))
    (.seq (.block 1 (.seq (.reg false [⟨some 9, (Op.move (Operand.tmp 7)), none⟩,
      ⟨some 4, (Op.assign (Operand.tmp 9)), none⟩])
    (.seq (.seq (.reg false [⟨some 10, (Op.move (Operand.tmp 4)), none⟩,
      ⟨some 11, (Op.binOp BinOp.geq 3 (Operand.tmp 10) (Operand.const (Value.int IntKind.i64 3)) 3), none⟩,
      ⟨some 12, (Op.move (Operand.tmp 11)), none⟩,
      ⟨some 13, (Op.move (Operand.tmp 0)), some (12, false)⟩,
      ⟨some 14, (Op.move (Operand.tmp 4)), some (12, false)⟩,
      ⟨some 15, (Op.indexAddr 22 (Operand.tmp 13) (Operand.tmp 14)), some (12, false)⟩,
      ⟨some 16, (Op.load 3 (Operand.tmp 15)), some (12, false)⟩,
      ⟨some 17, (Op.binOp BinOp.lss 3 (Operand.tmp 16) (Operand.const (Value.int IntKind.i64 1)) 3), some (12, false)⟩,
      ⟨some 18, (Op.pick (Operand.tmp 12) (Operand.const (Value.bool true)) (Operand.tmp 17)), none⟩,
      ⟨some 19, (Op.move (Operand.tmp 18)), none⟩,
      ⟨some 20, (Op.move (Operand.tmp 0)), some (19, false)⟩,
      ⟨some 21, (Op.move (Operand.tmp 4)), some (19, false)⟩,
      ⟨some 22, (Op.indexAddr 22 (Operand.tmp 20) (Operand.tmp 21)), some (19, false)⟩,
      ⟨some 23, (Op.load 3 (Operand.tmp 22)), some (19, false)⟩,
      ⟨some 24, (Op.binOp BinOp.gtr 3 (Operand.tmp 23) (Operand.const (Value.int IntKind.i64 8)) 3), some (19, false)⟩,
      ⟨some 25, (Op.pick (Operand.tmp 19) (Operand.const (Value.bool true)) (Operand.tmp 24)), none⟩])
    (.cond (Operand.tmp 25)
      (.seq (.reg false [⟨some 2, (Op.assign (Operand.const (Value.bool false))), none⟩])
      .ret)
      .skip))
    (.reg false [⟨some 26, (Op.move (Operand.tmp 3)), none⟩,
      ⟨some 27, (Op.move (Operand.tmp 0)), none⟩,
      ⟨some 28, (Op.move (Operand.tmp 4)), none⟩,
      ⟨some 29, (Op.indexAddr 22 (Operand.tmp 27) (Operand.tmp 28)), none⟩,
      ⟨some 30, (Op.load 3 (Operand.tmp 29)), none⟩,
      ⟨some 31, (Op.binOp BinOp.mul 3 (Operand.tmp 26) (Operand.tmp 30) 3), none⟩,
      ⟨some 3, (Op.assign (Operand.tmp 31)), none⟩]))))
    (.reg false [⟨some 32, (Op.binOp BinOp.add 3 (Operand.tmp 7) (Operand.const (Value.int IntKind.i64 1)) 3), none⟩,
      ⟨some 7, (Op.move (Operand.tmp 32)), none⟩])))))))
  (.seq (.reg false [⟨some 33, (Op.move (Operand.tmp 3)), none⟩,
    ⟨some 34, (Op.binOp BinOp.leq 3 (Operand.tmp 33) (Operand.const (Value.int IntKind.i64 8)) 3), none⟩,
    ⟨some 2, (Op.assign (Operand.tmp 34)), none⟩])
  .ret))))
noncomputable def b56 : Code := Try.f56.body.getD .skip
theorem hb56 : Try.f56.body = some b56 := by kernel_rfl
theorem sh56 : shortC A56 b56 = c56 := by kernel_rfl
def rs56 : List ResultVar := [(ResultVar.tmp 2)]
theorem hr56 : Try.f56.results.toList = rs56 := by kernel_rfl
/-! parquetry/parquetryref14.Devices (1 parameters; calls 56 parquetry/parquetryref14.Right) -/
def A20 : Ann := { live := fun i => if i = 5 then [0, 3, 9, 10] else [], drop := fun i => false }
noncomputable def c20 : Cc :=
  (.seq (.reg false [⟨some 2, (Op.assign (Operand.const (Value.int IntKind.i64 0))), none⟩])
  (.seq (.seq (.reg false [⟨some 5, (Op.move (Operand.tmp 0)), none⟩,
    ⟨some 6, (Op.call { callee := (Callee.value (Operand.func 56)), args := #[(Operand.tmp 5)], argTypes := #[22] }), none⟩,
    ⟨some 7, (Op.unOp UnOp.not 4 (Operand.tmp 6)), none⟩])
  (.cond (Operand.tmp 7)
    (.seq (.reg false [⟨some 2, (Op.assign (Operand.const (Value.int IntKind.i64 0))), none⟩])
    .ret)
    .skip))
  (.seq (.reg false [⟨some 3, (Op.assign (Operand.const (Value.int IntKind.i64 1))), none⟩])
  (.seq (.seq (.reg false [⟨some 8, (Op.move (Operand.tmp 0)), none⟩,
    ⟨some 9, (Op.call { callee := (Callee.builtin Builtin.len), args := #[(Operand.tmp 8)], argTypes := #[22] }), none⟩,
    ⟨some 10, (Op.move (Operand.const (Value.int IntKind.i64 0))), none⟩])
  (.block 0 (.loop [0, 3, 9, 10] false
    (.seq (.reg false [⟨some 11, (Op.binOp BinOp.lss 3 (Operand.tmp 10) (Operand.tmp 9) 3), none⟩])
    (.seq (.cond (Operand.tmp 11)
      .skip
      (.exit 0))
    (.seq (.block 1 (.seq (.reg false [⟨some 12, (Op.move (Operand.tmp 10)), none⟩,
      ⟨some 4, (Op.assign (Operand.tmp 12)), none⟩])
    (.reg false [⟨some 13, (Op.move (Operand.tmp 3)), none⟩,
      ⟨some 14, (Op.move (Operand.tmp 0)), none⟩,
      ⟨some 15, (Op.move (Operand.tmp 4)), none⟩,
      ⟨some 16, (Op.indexAddr 22 (Operand.tmp 14) (Operand.tmp 15)), none⟩,
      ⟨some 17, (Op.load 3 (Operand.tmp 16)), none⟩,
      ⟨some 18, (Op.binOp BinOp.mul 3 (Operand.tmp 13) (Operand.tmp 17) 3), none⟩,
      ⟨some 3, (Op.assign (Operand.tmp 18)), none⟩])))
    (.reg false [⟨some 19, (Op.binOp BinOp.add 3 (Operand.tmp 10) (Operand.const (Value.int IntKind.i64 1)) 3), none⟩,
      ⟨some 10, (Op.move (Operand.tmp 19)), none⟩])))))))
  (.seq (.reg false [⟨some 20, (Op.move (Operand.tmp 3)), none⟩,
    ⟨some 2, (Op.assign (Operand.tmp 20)), none⟩])
  .ret)))))
noncomputable def b20 : Code := Try.f20.body.getD .skip
theorem hb20 : Try.f20.body = some b20 := by kernel_rfl
theorem sh20 : shortC A20 b20 = c20 := by kernel_rfl
def rs20 : List ResultVar := [(ResultVar.tmp 2)]
theorem hr20 : Try.f20.results.toList = rs20 := by kernel_rfl
/-! parquetry/parquetryref14.Spec (3 parameters; calls 56 parquetry/parquetryref14.Right) -/
def A58 : Ann := { live := fun i => if i = 4 then [0, 1, 19, 20] else if i = 9 then [0, 1, 7, 8, 19, 20] else [], drop := fun i => false }
noncomputable def c58 : Cc :=
  (.seq (.reg false [⟨some 6, (Op.assign (Operand.const (Value.bool false))), none⟩])
  (.seq (.seq (.reg false [⟨some 9, (Op.move (Operand.tmp 0)), none⟩,
    ⟨some 10, (Op.call { callee := (Callee.value (Operand.func 56)), args := #[(Operand.tmp 9)], argTypes := #[22] }), none⟩,
    ⟨some 11, (Op.unOp UnOp.not 4 (Operand.tmp 10)), none⟩,
    ⟨some 12, (Op.move (Operand.tmp 11)), none⟩,
    ⟨some 13, (Op.move (Operand.tmp 1)), some (12, false)⟩,
    ⟨some 14, (Op.call { callee := (Callee.builtin Builtin.len), args := #[(Operand.tmp 13)], argTypes := #[22] }), some (12, false)⟩,
    ⟨some 15, (Op.move (Operand.tmp 2)), some (12, false)⟩,
    ⟨some 16, (Op.binOp BinOp.neq 3 (Operand.tmp 14) (Operand.tmp 15) 3), some (12, false)⟩,
    ⟨some 17, (Op.pick (Operand.tmp 12) (Operand.const (Value.bool true)) (Operand.tmp 16)), none⟩])
  (.cond (Operand.tmp 17)
    (.seq (.reg false [⟨some 6, (Op.assign (Operand.const (Value.bool false))), none⟩])
    .ret)
    .skip))
  (.seq (.seq (.reg false [⟨some 18, (Op.move (Operand.tmp 1)), none⟩,
    ⟨some 19, (Op.call { callee := (Callee.builtin Builtin.len), args := #[(Operand.tmp 18)], argTypes := #[22] }), none⟩,
    ⟨some 20, (Op.move (Operand.const (Value.int IntKind.i64 0))), none⟩])
  (.block 0 (.loop [0, 1, 19, 20] false
    (.seq (.reg false [⟨some 21, (Op.binOp BinOp.lss 3 (Operand.tmp 20) (Operand.tmp 19) 3), none⟩])
    (.seq (.cond (Operand.tmp 21)
      .skip
      (.exit 0))
    (.seq (.block 1 (.seq (.reg false [⟨some 22, (Op.move (Operand.tmp 20)), none⟩,
      ⟨some 7, (Op.assign (Operand.tmp 22)), none⟩])
    (.seq (.seq (.reg false [⟨some 23, (Op.move (Operand.tmp 1)), none⟩,
      ⟨some 24, (Op.move (Operand.tmp 7)), none⟩,
      ⟨some 25, (Op.indexAddr 22 (Operand.tmp 23) (Operand.tmp 24)), none⟩,
      ⟨some 26, (Op.load 3 (Operand.tmp 25)), none⟩,
      ⟨some 27, (Op.binOp BinOp.lss 3 (Operand.tmp 26) (Operand.const (Value.int IntKind.i64 (-1))) 3), none⟩,
      ⟨some 28, (Op.move (Operand.tmp 27)), none⟩,
      ⟨some 29, (Op.move (Operand.tmp 1)), some (28, false)⟩,
      ⟨some 30, (Op.move (Operand.tmp 7)), some (28, false)⟩,
      ⟨some 31, (Op.indexAddr 22 (Operand.tmp 29) (Operand.tmp 30)), some (28, false)⟩,
      ⟨some 32, (Op.load 3 (Operand.tmp 31)), some (28, false)⟩,
      ⟨some 33, (Op.move (Operand.tmp 0)), some (28, false)⟩,
      ⟨some 34, (Op.call { callee := (Callee.builtin Builtin.len), args := #[(Operand.tmp 33)], argTypes := #[22] }), some (28, false)⟩,
      ⟨some 35, (Op.binOp BinOp.geq 3 (Operand.tmp 32) (Operand.tmp 34) 3), some (28, false)⟩,
      ⟨some 36, (Op.pick (Operand.tmp 28) (Operand.const (Value.bool true)) (Operand.tmp 35)), none⟩])
    (.cond (Operand.tmp 36)
      (.seq (.reg false [⟨some 6, (Op.assign (Operand.const (Value.bool false))), none⟩])
      .ret)
      .skip))
    (.seq (.reg false [⟨some 8, (Op.assign (Operand.const (Value.int IntKind.i64 0))), none⟩])
    (.block 2 (.loop [0, 1, 7, 8, 19, 20] false
      (.seq (.seq (.reg false [⟨some 37, (Op.move (Operand.tmp 8)), none⟩,
        ⟨some 38, (Op.move (Operand.tmp 7)), none⟩,
        ⟨some 39, (Op.binOp BinOp.lss 3 (Operand.tmp 37) (Operand.tmp 38) 3), none⟩,
        ⟨some 40, (Op.move (Operand.tmp 39)), none⟩,
        ⟨some 41, (Op.move (Operand.tmp 1)), some (40, true)⟩,
        ⟨some 42, (Op.move (Operand.tmp 7)), some (40, true)⟩,
        ⟨some 43, (Op.indexAddr 22 (Operand.tmp 41) (Operand.tmp 42)), some (40, true)⟩,
        ⟨some 44, (Op.load 3 (Operand.tmp 43)), some (40, true)⟩,
        ⟨some 45, (Op.binOp BinOp.geq 3 (Operand.tmp 44) (Operand.const (Value.int IntKind.i64 0)) 3), some (40, true)⟩,
        ⟨some 46, (Op.pick (Operand.tmp 40) (Operand.tmp 45) (Operand.const (Value.bool false))), none⟩])
      (.cond (Operand.tmp 46)
        .skip
        (.exit 2)))
      (.seq (.block 3 (.seq (.reg false [⟨some 49, (Op.move (Operand.tmp 1)), none⟩,
        ⟨some 50, (Op.move (Operand.tmp 8)), none⟩,
        ⟨some 51, (Op.indexAddr 22 (Operand.tmp 49) (Operand.tmp 50)), none⟩,
        ⟨some 52, (Op.load 3 (Operand.tmp 51)), none⟩,
        ⟨some 53, (Op.move (Operand.tmp 1)), none⟩,
        ⟨some 54, (Op.move (Operand.tmp 7)), none⟩,
        ⟨some 55, (Op.indexAddr 22 (Operand.tmp 53) (Operand.tmp 54)), none⟩,
        ⟨some 56, (Op.load 3 (Operand.tmp 55)), none⟩,
        ⟨some 57, (Op.binOp BinOp.eql 3 (Operand.tmp 52) (Operand.tmp 56) 3), none⟩])
      (.cond (Operand.tmp 57)
        (.seq (.reg false [⟨some 6, (Op.assign (Operand.const (Value.bool false))), none⟩])
        .ret)
        .skip)))
      (.reg false [⟨some 47, (Op.move (Operand.tmp 8)), none⟩,
        ⟨some 48, (Op.binOp BinOp.add 3 (Operand.tmp 47) (Operand.const (Value.int IntKind.i64 1)) 3), none⟩,
        ⟨some 8, (Op.assign (Operand.tmp 48)), none⟩])))))))))
    (.reg false [⟨some 58, (Op.binOp BinOp.add 3 (Operand.tmp 20) (Operand.const (Value.int IntKind.i64 1)) 3), none⟩,
      ⟨some 20, (Op.move (Operand.tmp 58)), none⟩])))))))
  (.seq (.reg false [⟨some 6, (Op.assign (Operand.const (Value.bool true))), none⟩])
  .ret))))
noncomputable def b58 : Code := Try.f58.body.getD .skip
theorem hb58 : Try.f58.body = some b58 := by kernel_rfl
theorem sh58 : shortC A58 b58 = c58 := by kernel_rfl
def rs58 : List ResultVar := [(ResultVar.tmp 6)]
theorem hr58 : Try.f58.results.toList = rs58 := by kernel_rfl
/-! parquetry/parquetryref14.Parts (2 parameters; calls 56 parquetry/parquetryref14.Right, 58 parquetry/parquetryref14.Spec) -/
/-! parquetry/parquetryref14.Copies (2 parameters; calls 20 parquetry/parquetryref14.Devices, 56 parquetry/parquetryref14.Right, 58 parquetry/parquetryref14.Spec, 59 parquetry/parquetryref14.Parts) -/
/- Functions in short form. -/
/-! parquetry/parquetrybook.Within (3 parameters; calls none) -/
def A45 : Ann := { drop := fun i => false }
noncomputable def c45 : Cc :=
  (.seq (.reg false [⟨some 6, (Op.assign (Operand.const (Value.int IntKind.i64 0))), none⟩])
  (.seq (.seq (.reg false [⟨some 7, (Op.move (Operand.tmp 0)), none⟩,
    ⟨some 8, (Op.move (Operand.tmp 1)), none⟩,
    ⟨some 9, (Op.binOp BinOp.geq 3 (Operand.tmp 7) (Operand.tmp 8) 3), none⟩,
    ⟨some 10, (Op.move (Operand.tmp 9)), none⟩,
    ⟨some 11, (Op.move (Operand.tmp 0)), some (10, true)⟩,
    ⟨some 12, (Op.move (Operand.tmp 2)), some (10, true)⟩,
    ⟨some 13, (Op.binOp BinOp.leq 3 (Operand.tmp 11) (Operand.tmp 12) 3), some (10, true)⟩,
    ⟨some 14, (Op.pick (Operand.tmp 10) (Operand.tmp 13) (Operand.const (Value.bool false))), none⟩])
  (.cond (Operand.tmp 14)
    (.seq (.reg false [⟨some 15, (Op.move (Operand.tmp 0)), none⟩,
      ⟨some 6, (Op.assign (Operand.tmp 15)), none⟩])
    .ret)
    .skip))
  (.seq (.reg false [⟨some 16, (Op.move (Operand.tmp 0)), none⟩,
    ⟨some 17, (Op.move (Operand.tmp 2)), none⟩,
    ⟨some 18, (Op.move (Operand.tmp 1)), none⟩,
    ⟨some 19, (Op.binOp BinOp.sub 3 (Operand.tmp 17) (Operand.tmp 18) 3), none⟩,
    ⟨some 20, (Op.binOp BinOp.add 3 (Operand.tmp 19) (Operand.const (Value.int IntKind.i64 1)) 3), none⟩,
    ⟨some 21, (Op.binOp BinOp.rem 3 (Operand.tmp 16) (Operand.tmp 20) 3), none⟩,
    ⟨some 0, (Op.assign (Operand.tmp 21)), none⟩])
  (.seq (.seq (.reg false [⟨some 22, (Op.move (Operand.tmp 0)), none⟩,
    ⟨some 23, (Op.binOp BinOp.lss 3 (Operand.tmp 22) (Operand.const (Value.int IntKind.i64 0)) 3), none⟩])
  (.cond (Operand.tmp 23)
    (.reg false [⟨some 24, (Op.move (Operand.tmp 0)), none⟩,
      ⟨some 25, (Op.move (Operand.tmp 2)), none⟩,
      ⟨some 26, (Op.binOp BinOp.add 3 (Operand.tmp 24) (Operand.tmp 25) 3), none⟩,
      ⟨some 27, (Op.move (Operand.tmp 1)), none⟩,
      ⟨some 28, (Op.binOp BinOp.sub 3 (Operand.tmp 26) (Operand.tmp 27) 3), none⟩,
      ⟨some 29, (Op.binOp BinOp.add 3 (Operand.tmp 28) (Operand.const (Value.int IntKind.i64 1)) 3), none⟩,
      ⟨some 0, (Op.assign (Operand.tmp 29)), none⟩])
    .skip))
  (.seq (.reg false [⟨some 30, (Op.move (Operand.tmp 1)), none⟩,
    ⟨some 31, (Op.move (Operand.tmp 0)), none⟩,
    ⟨some 32, (Op.binOp BinOp.add 3 (Operand.tmp 30) (Operand.tmp 31) 3), none⟩,
    ⟨some 6, (Op.assign (Operand.tmp 32)), none⟩])
  .ret)))))
noncomputable def b45 : Code := Try.f45.body.getD .skip
theorem hb45 : Try.f45.body = some b45 := by kernel_rfl
theorem sh45 : shortC A45 b45 = c45 := by kernel_rfl
def rs45 : List ResultVar := [(ResultVar.tmp 6)]
theorem hr45 : Try.f45.results.toList = rs45 := by kernel_rfl
/-! parquetry/mesh.Right (1 parameters; calls none) -/
def A89 : Ann := { live := fun i => if i = 5 then [3, 9, 10, 11] else [], drop := fun i => false }
noncomputable def c89 : Cc :=
  (.seq (.reg false [⟨some 2, (Op.assign (Operand.const (Value.bool false))), none⟩])
  (.seq (.seq (.reg false [⟨some 6, (Op.move (Operand.tmp 0)), none⟩,
    ⟨some 7, (Op.call { callee := (Callee.builtin Builtin.len), args := #[(Operand.tmp 6)], argTypes := #[22] }), none⟩,
    ⟨some 8, (Op.binOp BinOp.gtr 3 (Operand.tmp 7) (Operand.const (Value.int IntKind.i64 3)) 3), none⟩])
  (.cond (Operand.tmp 8)
    (.seq (.reg false [⟨some 2, (Op.assign (Operand.const (Value.bool false))), none⟩])
    .ret)
    .skip))
  (.seq (.reg false [⟨some 3, (Op.assign (Operand.const (Value.int IntKind.i64 1))), none⟩])
  (.seq (.seq (.reg false [⟨some 9, (Op.move (Operand.tmp 0)), none⟩,
    ⟨some 10, (Op.call { callee := (Callee.builtin Builtin.len), args := #[(Operand.tmp 9)], argTypes := #[22] }), none⟩,
    ⟨some 11, (Op.move (Operand.const (Value.int IntKind.i64 0))), none⟩])
  (.block 0 (.loop [3, 9, 10, 11] false
    (.seq (.reg false [⟨some 12, (Op.binOp BinOp.lss 3 (Operand.tmp 11) (Operand.tmp 10) 3), none⟩])
    (.seq (.cond (Operand.tmp 12)
      .skip
      (.exit 0))
    (.seq (.block 1 (.seq (.reg false [⟨some 13, (Op.indexAddr 22 (Operand.tmp 9) (Operand.tmp 11)), none⟩,
      ⟨some 14, (Op.load 3 (Operand.tmp 13)), none⟩,
      ⟨some 5, (Op.assign (Operand.tmp 14)), none⟩])
    (.seq (.seq (.reg false [⟨some 15, (Op.move (Operand.tmp 5)), none⟩,
      ⟨some 16, (Op.binOp BinOp.lss 3 (Operand.tmp 15) (Operand.const (Value.int IntKind.i64 1)) 3), none⟩,
      ⟨some 17, (Op.move (Operand.tmp 16)), none⟩,
      ⟨some 18, (Op.move (Operand.tmp 5)), some (17, false)⟩,
      ⟨some 19, (Op.binOp BinOp.gtr 3 (Operand.tmp 18) (Operand.const (Value.int IntKind.i64 8)) 3), some (17, false)⟩,
      ⟨some 20, (Op.pick (Operand.tmp 17) (Operand.const (Value.bool true)) (Operand.tmp 19)), none⟩])
    (.cond (Operand.tmp 20)
      (.seq (.reg false [⟨some 2, (Op.assign (Operand.const (Value.bool false))), none⟩])
      .ret)
      .skip))
    (.reg false [⟨some 21, (Op.move (Operand.tmp 3)), none⟩,
      ⟨some 22, (Op.move (Operand.tmp 5)), none⟩,
      ⟨some 23, (Op.binOp BinOp.mul 3 (Operand.tmp 21) (Operand.tmp 22) 3), none⟩,
      ⟨some 3, (Op.assign (Operand.tmp 23)), none⟩]))))
    (.reg false [⟨some 24, (Op.binOp BinOp.add 3 (Operand.tmp 11) (Operand.const (Value.int IntKind.i64 1)) 3), none⟩,
      ⟨some 11, (Op.move (Operand.tmp 24)), none⟩])))))))
  (.seq (.reg false [⟨some 25, (Op.move (Operand.tmp 3)), none⟩,
    ⟨some 26, (Op.binOp BinOp.leq 3 (Operand.tmp 25) (Operand.const (Value.int IntKind.i64 8)) 3), none⟩,
    ⟨some 2, (Op.assign (Operand.tmp 26)), none⟩])
  .ret)))))
noncomputable def b89 : Code := Try.f89.body.getD .skip
theorem hb89 : Try.f89.body = some b89 := by kernel_rfl
theorem sh89 : shortC A89 b89 = c89 := by kernel_rfl
def rs89 : List ResultVar := [(ResultVar.tmp 2)]
theorem hr89 : Try.f89.results.toList = rs89 := by kernel_rfl
/-! parquetry/tile.Width (2 parameters; calls none) -/
/-! parquetry/tile.times (3 parameters; calls none) -/
/-! parquetry/tile.Cut (3 parameters; calls 61 parquetry/tile.Width, 124 parquetry/tile.times) -/
/- Walks: numbers and lengths. -/
theorem mixed : Try.prog.follows .mixedOrders = true := by kernel_rfl
def within (n lo hi : Int) : Int :=
  if lo ≤ n ∧ n ≤ hi then n else
  w (lo + (if n.tmod (w (w (hi - lo) + 1)) < 0 then w (w (w (n.tmod (w (w (hi - lo) + 1)) + hi) - lo) + 1) else n.tmod (w (w (hi - lo) + 1))))
def F45 (args : List AV) (_ : Hp) : Option AV := match args with
  | [.int .i64 n, .int .i64 lo, .int .i64 hi] => if w (w (hi - lo) + 1) = 0 then none else some (.int .i64 (within n lo hi))
  | _ => none
theorem snd45 : Sound Try.prog 45 (FSem.pure F45).run := by
  refine sound_of hT (EOK_nil _) mixed A45 Try.func45 hb45 (by kernel_rfl) (by kernel_rfl) (by kernel_rfl) (by kernel_rfl) sh45 3 (by kernel_rfl) rs45 hr45 ?_
  intro args H r H' hw h
  obtain ⟨rfl, hv⟩ := pureAt h
  clear h
  unfold F45 at hv
  split at hv
  · split at hv
    · cases hv
    · cases hv
      refine ⟨rfl, go ?_⟩
      unfold c45
      simp only [argSl]
      repeat' (first | apply goSeq | apply goReg | apply goSeqN | apply goSeqR | apply goSkip | apply goRet | apply goNil | apply goBlock | apply goExit | apply goBlkN | apply goBlkR | apply goBlkE | apply goSeqE | apply goLoopR | apply goLoopE | refine xOp ?_ | refine xOp0 ?_ | refine xYes ?_ | refine xNo ?_ | refine xNoU ?_ | refine xIfT ?_ | refine xIfF ?_ | refine xIf ?_ ?_ | refine xSplit ?_ ?_ | refine xIfQ ?_ ?_ | refine xSplitQ ?_ ?_ | refine xBlkX ?_ | intro _)
      all_goals (refine goEnd hw (Pre.refl _) (by simp) (by simp [rs45]; exact rfl) rfl ?_; simp [within, *])
  · cases hv
def width (n k : Int) : Int := if n < 0 ∨ k < 1 then 0 else if n = 0 then 0 else w (w ((w (n - 1)).tdiv k) + 1)
def F61 (args : List AV) (_ : Hp) : Option AV := match args with
  | [.int .i64 n, .int .i64 k] => some (.int .i64 (width n k))
  | _ => none
def times (a i m : Int) : Int := if 0 < a ∧ w (m.tdiv a) < i then m else if w (a * i) ≤ m then w (a * i) else m
def cut (n k i : Int) : Int × Int := if width n k = 0 ∨ i < 0 ∨ k ≤ i then (0, 0) else (times (width n k) i n, times (width n k) (w (i + 1)) n)
def F60 (args : List AV) (_ : Hp) : Option AV := match args with
  | [.int .i64 n, .int .i64 k, .int .i64 i] => some (.tup [.int .i64 (cut n k i).1, .int .i64 (cut n k i).2])
  | _ => none
theorem aidx22 (v i : AV) : aidx T 22 v i = aidxS 1 v i := by simp [aidx, D22, T3]
theorem alen22 (v : AV) : alen T 22 v = alenS v := by simp [alen, D22]
def meshGo : Int → List Int → Bool
  | n, [] => decide (n ≤ 8)
  | n, k :: l => if k < 1 ∨ 8 < k then false else meshGo (w (n * k)) l
def meshOK (l : List Int) : Bool := if 3 < l.length then false else meshGo 1 l
def F89 (args : List AV) (H : Hp) : Option AV := match args with
  | [v] => (ints H v).map fun l => .bool (meshOK l)
  | _ => none
theorem snd89 : Sound Try.prog 89 (FSem.pure F89).run := by
  refine sound_of hT (EOK_nil _) mixed A89 Try.func89 hb89 (by kernel_rfl) (by kernel_rfl) (by kernel_rfl) (by kernel_rfl) sh89 1 (by kernel_rfl) rs89 hr89 ?_
  intro args H r H' hw h
  obtain ⟨rfl, hv⟩ := pureAt h
  clear h
  unfold F89 at hv
  split at hv
  · rename_i v
    obtain ⟨l, hl, hv⟩ := Option.map_eq_some_iff.1 hv
    cases hv
    have hlen := alenS_ints hl
    have hb := ints_len hl
    have hix := aidxS_ints hl .i64
    have hld := aload_nth T3 rfl hl
    refine ⟨rfl, go ?_⟩
    unfold c89
    simp only [argSl]
    simp only [← aidx22, ← alen22] at hix hlen
    repeat' (first | apply goSeq | apply goReg | apply goSeqN | apply goSeqR | apply goSkip | apply goRet | apply goNil | apply goBlock | apply goExit | apply goBlkN | apply goBlkR | apply goBlkE | apply goSeqE | apply goLoopR | apply goLoopE | refine xOp ?_ | refine xOp0 ?_ | refine xYes ?_ | refine xNo ?_ | refine xNoU ?_ | refine xIfT ?_ | refine xIfF ?_ | refine xIf ?_ ?_ | refine xSplit ?_ ?_ | refine xIfQ ?_ ?_ | refine xSplitQ ?_ ?_ | refine xBlkX ?_ | intro _)
    · rename_i h3
      have h3' : 3 < l.length := by omega
      refine goEnd hw (Pre.refl _) (by simp) (by simp [rs89]; exact rfl) rfl ?_
      simp [meshOK, h3']
    · rename_i h3
      have h3' : ¬ 3 < l.length := by omega
      refine goLoop (fun m s1 H1 => H1 = H' ∧ ∃ (i : Nat) (n : Int), m = l.length - i ∧ i ≤ l.length ∧ get s1 3 = .int .i64 n ∧ get s1 9 = v ∧ get s1 10 = .int .i64 l.length ∧ get s1 11 = .int .i64 i ∧ meshGo n (l.drop i) = meshOK l) l.length ?_ ?_
      · exact ⟨rfl, 0, 1, rfl, Nat.zero_le _, rfl, rfl, rfl, rfl, by simp [meshOK, h3']⟩
      · rintro m s1 H1 ⟨rfl, i, n, hm, hi, g3, g9, g10, g11, hgo⟩
        simp only [cut_cons, cut_nil, g3, g9, g10, g11]
        have hi0 : (0 : Int) ≤ i := Int.natCast_nonneg i
        have hd := fun h => drop_nth l i h
        have hnil : ¬ i < l.length → l.drop i = [] := fun h => List.drop_of_length_le (by omega)
        have hw1 : w ((i : Int) + 1) = ((i + 1 : Nat) : Int) := w_id (by omega)
        clear g3 g9 g10 g11
        repeat' (first | apply goSeq | apply goReg | apply goSeqN | apply goSeqR | apply goSkip | apply goRet | apply goNil | apply goBlock | apply goExit | apply goBlkN | apply goBlkR | apply goBlkE | apply goSeqE | apply goLoopR | apply goLoopE | refine xOp ?_ | refine xOp0 ?_ | refine xYes ?_ | refine xNo ?_ | refine xNoU ?_ | refine xIfT ?_ | refine xIfF ?_ | refine xIf ?_ ?_ | refine xSplit ?_ ?_ | refine xIfQ ?_ ?_ | refine xSplitQ ?_ ?_ | refine xBlkX ?_ | intro _)
        all_goals first
          | (refine goEnd hw (Pre.refl _) (by simp) (by simp [rs89]; exact rfl) rfl ?_; rw [← hgo]; simp [meshGo, hd, hnil, *]; done)
          | (refine goLoopN (l.length - (i + 1)) (by omega) ⟨rfl, i + 1, _, rfl, by omega, rfl, rfl, rfl, rfl, ?_⟩; rw [← hgo]; simp [meshGo, hd, *])
  · cases hv
/- Walks: meshes, shapes, specs. -/
@[simp] theorem F89_at (v : AV) (H : Hp) : F89 [v] H = (ints H v).map fun l => .bool (meshOK l) := rfl
theorem xdo_slice22 {E : Env} {sh : Bool} {s : Sl} {H : Hp} (x lo hi mx) : xdo E T sh (.slice 22 x lo hi mx) s H = (aslice 1 (ev s x) (lo.map (ev s)) (hi.map (ev s)) (mx.map (ev s))).map fun v => (v, H) := by
  simp [xdo, aop, D22, T3]
def prodW : Int → List Int → Int
  | n, [] => n
  | n, k :: l => prodW (w (n * k)) l
def devs (l : List Int) : Int := if meshOK l = true then prodW 1 l else 0
def F88 (args : List AV) (H : Hp) : Option AV := match args with
  | [v] => (ints H v).map fun l => .int .i64 (devs l)
  | _ => none
theorem snd88 : Sound Try.prog 88 (FSem.pure F88).run := by
  refine sound_of hT (EOK_cons snd89 (EOK_nil _)) mixed A88 Try.func88 hb88 (by kernel_rfl) (by kernel_rfl) (by kernel_rfl) (by kernel_rfl) sh88 1 (by kernel_rfl) rs88 hr88 ?_
  intro args H r H' hw h
  obtain ⟨rfl, hv⟩ := pureAt h
  clear h
  unfold F88 at hv
  split at hv
  · rename_i v
    obtain ⟨l, hl, hv⟩ := Option.map_eq_some_iff.1 hv
    cases hv
    have hlen := alenS_ints hl
    have hb := ints_len hl
    have hix := aidxS_ints hl .i64
    have hld := aload_nth T3 rfl hl
    refine ⟨rfl, go ?_⟩
    unfold c88
    simp only [argSl]
    simp only [← aidx22, ← alen22] at hix hlen
    repeat' (first | apply goSeq | apply goReg | apply goSeqN | apply goSeqR | apply goSkip | apply goRet | apply goNil | apply goBlock | apply goExit | apply goBlkN | apply goBlkR | apply goBlkE | apply goSeqE | apply goLoopR | apply goLoopE | refine xOp ?_ | refine xOp0 ?_ | refine xYes ?_ | refine xNo ?_ | refine xNoU ?_ | refine xIfT ?_ | refine xIfF ?_ | refine xIf ?_ ?_ | refine xSplit ?_ ?_ | refine xIfQ ?_ ?_ | refine xSplitQ ?_ ?_ | refine xBlkX ?_ | intro _)
    · refine goEnd hw (Pre.refl _) (by simp) (by simp [rs88]; exact rfl) rfl ?_
      simp_all [devs]
    · rename_i hm
      have hm' : meshOK l = true := by simpa using hm
      refine goLoop (fun m s1 H1 => H1 = H' ∧ ∃ (i : Nat) (n : Int), m = l.length - i ∧ i ≤ l.length ∧ get s1 3 = .int .i64 n ∧ get s1 9 = v ∧ get s1 10 = .int .i64 l.length ∧ get s1 11 = .int .i64 i ∧ prodW n (l.drop i) = devs l) l.length ?_ ?_
      · exact ⟨rfl, 0, 1, rfl, Nat.zero_le _, rfl, rfl, rfl, rfl, by simp [devs, hm']⟩
      · rintro m s1 H1 ⟨rfl, i, n, hmm, hi, g3, g9, g10, g11, hgo⟩
        simp only [cut_cons, cut_nil, g3, g9, g10, g11]
        have hi0 : (0 : Int) ≤ i := Int.natCast_nonneg i
        have hd := fun h => drop_nth l i h
        have hnil : ¬ i < l.length → l.drop i = [] := fun h => List.drop_of_length_le (by omega)
        have hw1 : w ((i : Int) + 1) = ((i + 1 : Nat) : Int) := w_id (by omega)
        clear g3 g9 g10 g11
        repeat' (first | apply goSeq | apply goReg | apply goSeqN | apply goSeqR | apply goSkip | apply goRet | apply goNil | apply goBlock | apply goExit | apply goBlkN | apply goBlkR | apply goBlkE | apply goSeqE | apply goLoopR | apply goLoopE | refine xOp ?_ | refine xOp0 ?_ | refine xYes ?_ | refine xNo ?_ | refine xNoU ?_ | refine xIfT ?_ | refine xIfF ?_ | refine xIf ?_ ?_ | refine xSplit ?_ ?_ | refine xIfQ ?_ ?_ | refine xSplitQ ?_ ?_ | refine xBlkX ?_ | intro _)
        all_goals first
          | (refine goEnd hw (Pre.refl _) (by simp) (by simp [rs88]; exact rfl) rfl ?_; rw [← hgo]; simp [prodW, hd, hnil, *]; done)
          | (refine goLoopN (l.length - (i + 1)) (by omega) ⟨rfl, i + 1, _, rfl, by omega, rfl, rfl, rfl, rfl, ?_⟩; rw [← hgo]; simp [prodW, hd, *])
  · cases hv
@[simp] theorem F88_at (v : AV) (H : Hp) : F88 [v] H = (ints H v).map fun l => .int .i64 (devs l) := rfl
def shapeGo : Int → List Int → Bool
  | n, [] => decide (n ≤ 4096)
  | n, k :: l => if k < 0 ∨ 32 < k then false else shapeGo (w (n * k)) l
def shapeOK (l : List Int) : Bool := if 4 < l.length then false else shapeGo 1 l
def F90 (args : List AV) (H : Hp) : Option AV := match args with
  | [v] => (ints H v).map fun l => .bool (shapeOK l)
  | _ => none
theorem snd90 : Sound Try.prog 90 (FSem.pure F90).run := by
  refine sound_of hT (EOK_nil _) mixed A90 Try.func90 hb90 (by kernel_rfl) (by kernel_rfl) (by kernel_rfl) (by kernel_rfl) sh90 1 (by kernel_rfl) rs90 hr90 ?_
  intro args H r H' hw h
  obtain ⟨rfl, hv⟩ := pureAt h
  clear h
  unfold F90 at hv
  split at hv
  · rename_i v
    obtain ⟨l, hl, hv⟩ := Option.map_eq_some_iff.1 hv
    cases hv
    have hlen := alenS_ints hl
    have hb := ints_len hl
    have hix := aidxS_ints hl .i64
    have hld := aload_nth T3 rfl hl
    refine ⟨rfl, go ?_⟩
    unfold c90
    simp only [argSl]
    simp only [← aidx22, ← alen22] at hix hlen
    repeat' (first | apply goSeq | apply goReg | apply goSeqN | apply goSeqR | apply goSkip | apply goRet | apply goNil | apply goBlock | apply goExit | apply goBlkN | apply goBlkR | apply goBlkE | apply goSeqE | apply goLoopR | apply goLoopE | refine xOp ?_ | refine xOp0 ?_ | refine xYes ?_ | refine xNo ?_ | refine xNoU ?_ | refine xIfT ?_ | refine xIfF ?_ | refine xIf ?_ ?_ | refine xSplit ?_ ?_ | refine xIfQ ?_ ?_ | refine xSplitQ ?_ ?_ | refine xBlkX ?_ | intro _)
    · rename_i h3
      have h3' : 4 < l.length := by omega
      refine goEnd hw (Pre.refl _) (by simp) (by simp [rs90]; exact rfl) rfl ?_
      simp [shapeOK, h3']
    · rename_i h3
      have h3' : ¬ 4 < l.length := by omega
      refine goLoop (fun m s1 H1 => H1 = H' ∧ ∃ (i : Nat) (n : Int), m = l.length - i ∧ i ≤ l.length ∧ get s1 3 = .int .i64 n ∧ get s1 9 = v ∧ get s1 10 = .int .i64 l.length ∧ get s1 11 = .int .i64 i ∧ shapeGo n (l.drop i) = shapeOK l) l.length ?_ ?_
      · exact ⟨rfl, 0, 1, rfl, Nat.zero_le _, rfl, rfl, rfl, rfl, by simp [shapeOK, h3']⟩
      · rintro m s1 H1 ⟨rfl, i, n, hm, hi, g3, g9, g10, g11, hgo⟩
        simp only [cut_cons, cut_nil, g3, g9, g10, g11]
        have hi0 : (0 : Int) ≤ i := Int.natCast_nonneg i
        have hd := fun h => drop_nth l i h
        have hnil : ¬ i < l.length → l.drop i = [] := fun h => List.drop_of_length_le (by omega)
        have hw1 : w ((i : Int) + 1) = ((i + 1 : Nat) : Int) := w_id (by omega)
        clear g3 g9 g10 g11
        repeat' (first | apply goSeq | apply goReg | apply goSeqN | apply goSeqR | apply goSkip | apply goRet | apply goNil | apply goBlock | apply goExit | apply goBlkN | apply goBlkR | apply goBlkE | apply goSeqE | apply goLoopR | apply goLoopE | refine xOp ?_ | refine xOp0 ?_ | refine xYes ?_ | refine xNo ?_ | refine xNoU ?_ | refine xIfT ?_ | refine xIfF ?_ | refine xIf ?_ ?_ | refine xSplit ?_ ?_ | refine xIfQ ?_ ?_ | refine xSplitQ ?_ ?_ | refine xBlkX ?_ | intro _)
        all_goals first
          | (refine goEnd hw (Pre.refl _) (by simp) (by simp [rs90]; exact rfl) rfl ?_; rw [← hgo]; simp [shapeGo, hd, hnil, *]; done)
          | (refine goLoopN (l.length - (i + 1)) (by omega) ⟨rfl, i + 1, _, rfl, by omega, rfl, rfl, rfl, rfl, ?_⟩; rw [← hgo]; simp [shapeGo, hd, *])
  · cases hv
@[simp] theorem F90_at (v : AV) (H : Hp) : F90 [v] H = (ints H v).map fun l => .bool (shapeOK l) := rfl
def idxGo (x : Int) : Int → List Int → Int
  | _, [] => -1
  | i, a :: l => if x = a then i else idxGo x (i + 1) l
def F157 (args : List AV) (H : Hp) : Option AV := match args with
  | [v, .int .i64 x] => (ints H v).map fun l => .int .i64 (idxGo x 0 l)
  | _ => none
theorem snd157 : Sound Try.prog 157 (FSem.pure F157).run := by
  refine sound_of hT (EOK_nil _) mixed A157 Try.func157 hb157 (by kernel_rfl) (by kernel_rfl) (by kernel_rfl) (by kernel_rfl) sh157 2 (by kernel_rfl) rs157 hr157 ?_
  intro args H r H' hw h
  obtain ⟨rfl, hv⟩ := pureAt h
  clear h
  unfold F157 at hv
  split at hv
  · rename_i v x
    obtain ⟨l, hl, hv⟩ := Option.map_eq_some_iff.1 hv
    cases hv
    have hlen := alenS_ints hl
    have hb := ints_len hl
    have hix := aidxS_ints hl .i64
    have hld := aload_nth T3 rfl hl
    refine ⟨rfl, go ?_⟩
    unfold c157
    simp only [argSl]
    simp only [← aidx22, ← alen22] at hix hlen
    repeat' (first | apply goSeq | apply goReg | apply goSeqN | apply goSeqR | apply goSkip | apply goRet | apply goNil | apply goBlock | apply goExit | apply goBlkN | apply goBlkR | apply goBlkE | apply goSeqE | apply goLoopR | apply goLoopE | refine xOp ?_ | refine xOp0 ?_ | refine xYes ?_ | refine xNo ?_ | refine xNoU ?_ | refine xIfT ?_ | refine xIfF ?_ | refine xIf ?_ ?_ | refine xSplit ?_ ?_ | refine xIfQ ?_ ?_ | refine xSplitQ ?_ ?_ | refine xBlkX ?_ | intro _)
    refine goLoop (fun m s1 H1 => H1 = H' ∧ ∃ (i : Nat), m = l.length - i ∧ i ≤ l.length ∧ get s1 0 = v ∧ get s1 1 = .int .i64 x ∧ get s1 7 = .int .i64 l.length ∧ get s1 8 = .int .i64 i ∧ idxGo x i (l.drop i) = idxGo x 0 l) l.length ?_ ?_
    · exact ⟨rfl, 0, rfl, Nat.zero_le _, rfl, rfl, rfl, rfl, rfl⟩
    · rintro m s1 H1 ⟨rfl, i, hm, hi, g3, g9, g10, g11, hgo⟩
      simp only [cut_cons, cut_nil, g3, g9, g10, g11]
      have hi0 : (0 : Int) ≤ i := Int.natCast_nonneg i
      have hd := fun h => drop_nth l i h
      have hnil : ¬ i < l.length → l.drop i = [] := fun h => List.drop_of_length_le (by omega)
      have hw1 : w ((i : Int) + 1) = ((i + 1 : Nat) : Int) := w_id (by omega)
      clear g3 g9 g10 g11
      repeat' (first | apply goSeq | apply goReg | apply goSeqN | apply goSeqR | apply goSkip | apply goRet | apply goNil | apply goBlock | apply goExit | apply goBlkN | apply goBlkR | apply goBlkE | apply goSeqE | apply goLoopR | apply goLoopE | refine xOp ?_ | refine xOp0 ?_ | refine xYes ?_ | refine xNo ?_ | refine xNoU ?_ | refine xIfT ?_ | refine xIfF ?_ | refine xIf ?_ ?_ | refine xSplit ?_ ?_ | refine xIfQ ?_ ?_ | refine xSplitQ ?_ ?_ | refine xBlkX ?_ | intro _)
      all_goals first
        | (refine goEnd hw (Pre.refl _) (by simp) (by simp [rs157]; exact rfl) rfl ?_; rw [← hgo]; simp [idxGo, hd, hnil, *]; done)
        | (refine goLoopN (l.length - (i + 1)) (by omega) ⟨rfl, i + 1, rfl, by omega, rfl, rfl, rfl, rfl, ?_⟩; rw [← hgo]; simp [idxGo, hd, *])
  · cases hv
@[simp] theorem F157_at (v : AV) (x : Int) (H : Hp) : F157 [v, .int .i64 x] H = (ints H v).map fun l => .int .i64 (idxGo x 0 l) := rfl
def contains (l : List Int) (x : Int) : Bool := decide (0 ≤ idxGo x 0 l)
def F125 (args : List AV) (H : Hp) : Option AV := match args with
  | [v, .int .i64 x] => (ints H v).map fun l => .bool (contains l x)
  | _ => none
theorem snd125 : Sound Try.prog 125 (FSem.pure F125).run := by
  refine sound_of hT (EOK_cons snd157 (EOK_nil _)) mixed A125 Try.func125 hb125 (by kernel_rfl) (by kernel_rfl) (by kernel_rfl) (by kernel_rfl) sh125 2 (by kernel_rfl) rs125 hr125 ?_
  intro args H r H' hw h
  obtain ⟨rfl, hv⟩ := pureAt h
  clear h
  unfold F125 at hv
  split at hv
  · rename_i v x
    obtain ⟨l, hl, hv⟩ := Option.map_eq_some_iff.1 hv
    cases hv
    refine ⟨rfl, go ?_⟩
    unfold c125
    simp only [argSl]
    repeat' (first | apply goSeq | apply goReg | apply goSeqN | apply goSeqR | apply goSkip | apply goRet | apply goNil | apply goBlock | apply goExit | apply goBlkN | apply goBlkR | apply goBlkE | apply goSeqE | apply goLoopR | apply goLoopE | refine xOp ?_ | refine xOp0 ?_ | refine xYes ?_ | refine xNo ?_ | refine xNoU ?_ | refine xIfT ?_ | refine xIfF ?_ | refine xIf ?_ ?_ | refine xSplit ?_ ?_ | refine xIfQ ?_ ?_ | refine xSplitQ ?_ ?_ | refine xBlkX ?_ | intro _)
    refine goEnd hw (Pre.refl _) (by simp) (by simp [rs125]; exact rfl) rfl ?_
    simp [contains]
  · cases hv
@[simp] theorem F125_at (v : AV) (x : Int) (H : Hp) : F125 [v, .int .i64 x] H = (ints H v).map fun l => .bool (contains l x) := rfl
/- Walks: the document's meshes; specs. -/
theorem take_nth (l : List Int) (i : Nat) (h : i < l.length) : l.take (i + 1) = l.take i ++ [nth l i] := by
  rw [List.take_add_one, List.getElem?_eq_getElem h]
  simp [nth, List.getD_eq_getElem?_getD, h]
def rGo : Nat → Int → List Int → Bool
  | _, n, [] => decide (n ≤ 8)
  | i, n, k :: l => if (3 : Int) ≤ i ∨ k < 1 ∨ 8 < k then false else rGo (i + 1) (w (n * k)) l
def rOK (l : List Int) : Bool := rGo 0 1 l
def F56 (args : List AV) (H : Hp) : Option AV := match args with
  | [v] => (ints H v).map fun l => .bool (rOK l)
  | _ => none
theorem snd56 : Sound Try.prog 56 (FSem.pure F56).run := by
  refine sound_of hT (EOK_nil _) mixed A56 Try.func56 hb56 (by kernel_rfl) (by kernel_rfl) (by kernel_rfl) (by kernel_rfl) sh56 1 (by kernel_rfl) rs56 hr56 ?_
  intro args H r H' hw h
  obtain ⟨rfl, hv⟩ := pureAt h
  clear h
  unfold F56 at hv
  split at hv
  · rename_i v
    obtain ⟨l, hl, hv⟩ := Option.map_eq_some_iff.1 hv
    cases hv
    have hlen := alenS_ints hl
    have hb := ints_len hl
    have hix := aidxS_ints hl .i64
    have hld := aload_nth T3 rfl hl
    refine ⟨rfl, go ?_⟩
    unfold c56
    simp only [argSl]
    simp only [← aidx22, ← alen22] at hix hlen
    repeat' (first | apply goSeq | apply goReg | apply goSeqN | apply goSeqR | apply goSkip | apply goRet | apply goNil | apply goBlock | apply goExit | apply goBlkN | apply goBlkR | apply goBlkE | apply goSeqE | apply goLoopR | apply goLoopE | refine xOp ?_ | refine xOp0 ?_ | refine xYes ?_ | refine xNo ?_ | refine xNoU ?_ | refine xIfT ?_ | refine xIfF ?_ | refine xIf ?_ ?_ | refine xSplit ?_ ?_ | refine xIfQ ?_ ?_ | refine xSplitQ ?_ ?_ | refine xBlkX ?_ | intro _)
    refine goLoop (fun m s1 H1 => H1 = H' ∧ ∃ (i : Nat) (n : Int), m = l.length - i ∧ i ≤ l.length ∧ get s1 0 = v ∧ get s1 3 = .int .i64 n ∧ get s1 6 = .int .i64 l.length ∧ get s1 7 = .int .i64 i ∧ rGo i n (l.drop i) = rOK l) l.length ?_ ?_
    · exact ⟨rfl, 0, 1, rfl, Nat.zero_le _, rfl, rfl, rfl, rfl, rfl⟩
    · rintro m s1 H1 ⟨rfl, i, n, hm, hi, g3, g9, g10, g11, hgo⟩
      simp only [cut_cons, cut_nil, g3, g9, g10, g11]
      have hi0 : (0 : Int) ≤ i := Int.natCast_nonneg i
      have hd := fun h => drop_nth l i h
      have hnil : ¬ i < l.length → l.drop i = [] := fun h => List.drop_of_length_le (by omega)
      have hw1 : w ((i : Int) + 1) = ((i + 1 : Nat) : Int) := w_id (by omega)
      clear g3 g9 g10 g11
      repeat' (first | apply goSeq | apply goReg | apply goSeqN | apply goSeqR | apply goSkip | apply goRet | apply goNil | apply goBlock | apply goExit | apply goBlkN | apply goBlkR | apply goBlkE | apply goSeqE | apply goLoopR | apply goLoopE | refine xOp ?_ | refine xOp0 ?_ | refine xYes ?_ | refine xNo ?_ | refine xNoU ?_ | refine xIfT ?_ | refine xIfF ?_ | refine xIf ?_ ?_ | refine xSplit ?_ ?_ | refine xIfQ ?_ ?_ | refine xSplitQ ?_ ?_ | refine xBlkX ?_ | intro _)
      all_goals first
        | (refine goEnd hw (Pre.refl _) (by simp) (by simp [rs56]; exact rfl) rfl ?_; rw [← hgo]; simp [rGo, hd, hnil, *]; done)
        | (refine goLoopN (l.length - (i + 1)) (by omega) ⟨rfl, i + 1, _, rfl, by omega, rfl, rfl, rfl, rfl, ?_⟩; rw [← hgo]; simp [rGo, hd, *])
  · cases hv
@[simp] theorem F56_at (v : AV) (H : Hp) : F56 [v] H = (ints H v).map fun l => .bool (rOK l) := rfl
def rDevs (l : List Int) : Int := if rOK l = true then prodW 1 l else 0
def F20 (args : List AV) (H : Hp) : Option AV := match args with
  | [v] => (ints H v).map fun l => .int .i64 (rDevs l)
  | _ => none
theorem snd20 : Sound Try.prog 20 (FSem.pure F20).run := by
  refine sound_of hT (EOK_cons snd56 (EOK_nil _)) mixed A20 Try.func20 hb20 (by kernel_rfl) (by kernel_rfl) (by kernel_rfl) (by kernel_rfl) sh20 1 (by kernel_rfl) rs20 hr20 ?_
  intro args H r H' hw h
  obtain ⟨rfl, hv⟩ := pureAt h
  clear h
  unfold F20 at hv
  split at hv
  · rename_i v
    obtain ⟨l, hl, hv⟩ := Option.map_eq_some_iff.1 hv
    cases hv
    have hlen := alenS_ints hl
    have hb := ints_len hl
    have hix := aidxS_ints hl .i64
    have hld := aload_nth T3 rfl hl
    refine ⟨rfl, go ?_⟩
    unfold c20
    simp only [argSl]
    simp only [← aidx22, ← alen22] at hix hlen
    repeat' (first | apply goSeq | apply goReg | apply goSeqN | apply goSeqR | apply goSkip | apply goRet | apply goNil | apply goBlock | apply goExit | apply goBlkN | apply goBlkR | apply goBlkE | apply goSeqE | apply goLoopR | apply goLoopE | refine xOp ?_ | refine xOp0 ?_ | refine xYes ?_ | refine xNo ?_ | refine xNoU ?_ | refine xIfT ?_ | refine xIfF ?_ | refine xIf ?_ ?_ | refine xSplit ?_ ?_ | refine xIfQ ?_ ?_ | refine xSplitQ ?_ ?_ | refine xBlkX ?_ | intro _)
    · refine goEnd hw (Pre.refl _) (by simp) (by simp [rs20]; exact rfl) rfl ?_
      simp_all [rDevs]
    · rename_i hm
      have hm' : rOK l = true := by simpa using hm
      refine goLoop (fun m s1 H1 => H1 = H' ∧ ∃ (i : Nat) (n : Int), m = l.length - i ∧ i ≤ l.length ∧ get s1 0 = v ∧ get s1 3 = .int .i64 n ∧ get s1 9 = .int .i64 l.length ∧ get s1 10 = .int .i64 i ∧ prodW n (l.drop i) = rDevs l) l.length ?_ ?_
      · exact ⟨rfl, 0, 1, rfl, Nat.zero_le _, rfl, rfl, rfl, rfl, by simp [rDevs, hm']⟩
      · rintro m s1 H1 ⟨rfl, i, n, hmm, hi, g3, g9, g10, g11, hgo⟩
        simp only [cut_cons, cut_nil, g3, g9, g10, g11]
        have hi0 : (0 : Int) ≤ i := Int.natCast_nonneg i
        have hd := fun h => drop_nth l i h
        have hnil : ¬ i < l.length → l.drop i = [] := fun h => List.drop_of_length_le (by omega)
        have hw1 : w ((i : Int) + 1) = ((i + 1 : Nat) : Int) := w_id (by omega)
        clear g3 g9 g10 g11
        repeat' (first | apply goSeq | apply goReg | apply goSeqN | apply goSeqR | apply goSkip | apply goRet | apply goNil | apply goBlock | apply goExit | apply goBlkN | apply goBlkR | apply goBlkE | apply goSeqE | apply goLoopR | apply goLoopE | refine xOp ?_ | refine xOp0 ?_ | refine xYes ?_ | refine xNo ?_ | refine xNoU ?_ | refine xIfT ?_ | refine xIfF ?_ | refine xIf ?_ ?_ | refine xSplit ?_ ?_ | refine xIfQ ?_ ?_ | refine xSplitQ ?_ ?_ | refine xBlkX ?_ | intro _)
        all_goals first
          | (refine goEnd hw (Pre.refl _) (by simp) (by simp [rs20]; exact rfl) rfl ?_; rw [← hgo]; simp [prodW, hd, hnil, *]; done)
          | (refine goLoopN (l.length - (i + 1)) (by omega) ⟨rfl, i + 1, _, rfl, by omega, rfl, rfl, rfl, rfl, ?_⟩; rw [← hgo]; simp [prodW, hd, *])
  · cases hv
@[simp] theorem F20_at (v : AV) (H : Hp) : F20 [v] H = (ints H v).map fun l => .int .i64 (rDevs l) := rfl
def specGo (n : Int) : List Int → List Int → Bool
  | _, [] => true
  | pre, k :: r => if k < -1 ∨ n ≤ k then false else if k ≠ -1 ∧ contains pre k = true then false else specGo n (pre ++ [k]) r
def specOK (sz sp : List Int) (rank : Int) : Bool := if meshOK sz = false ∨ (sp.length : Int) ≠ rank then false else specGo sz.length [] sp
def F63 (args : List AV) (H : Hp) : Option AV := match args with
  | [a, b, .int .i64 r] => (ints H a).bind fun sz => (ints H b).map fun sp => .bool (specOK sz sp r)
  | _ => none
set_option maxHeartbeats 1000000 in
theorem snd63 : Sound Try.prog 63 (FSem.pure F63).run := by
  refine sound_of hT (EOK_cons snd89 (EOK_cons snd125 (EOK_nil _))) mixed A63 Try.func63 hb63 (by kernel_rfl) (by kernel_rfl) (by kernel_rfl) (by kernel_rfl) sh63 3 (by kernel_rfl) rs63 hr63 ?_
  intro args H r H' hw h
  obtain ⟨rfl, hv⟩ := pureAt h
  clear h
  unfold F63 at hv
  split at hv
  · rename_i a v r
    obtain ⟨sz, hsz, hv⟩ := Option.bind_eq_some_iff.1 hv
    obtain ⟨l, hl, hv⟩ := Option.map_eq_some_iff.1 hv
    cases hv
    have hlen := alenS_ints hl
    have hb := ints_len hl
    have hix := aidxS_ints hl .i64
    have hld := aload_nth T3 rfl hl
    have hlen2 := alenS_ints hsz
    have hsl := aslice_pre hl .i64
    have hpre := ints_pre hl
    refine ⟨rfl, go ?_⟩
    unfold c63
    simp only [argSl]
    simp only [← aidx22, ← alen22] at hix hlen hlen2
    have hx := @xdo_slice22
    repeat' (first | apply goSeq | apply goReg | apply goSeqN | apply goSeqR | apply goSkip | apply goRet | apply goNil | apply goBlock | apply goExit | apply goBlkN | apply goBlkR | apply goBlkE | apply goSeqE | apply goLoopR | apply goLoopE | refine xOp ?_ | refine xOp0 ?_ | refine xYes ?_ | refine xNo ?_ | refine xNoU ?_ | refine xIfT ?_ | refine xIfF ?_ | refine xIf ?_ ?_ | refine xSplit ?_ ?_ | refine xIfQ ?_ ?_ | refine xSplitQ ?_ ?_ | refine xBlkX ?_ | intro _)
    · refine goEnd hw (Pre.refl _) (by simp) (by simp [rs63]; exact rfl) rfl ?_
      simp_all [specOK]
    · refine goEnd hw (Pre.refl _) (by simp) (by simp [rs63]; exact rfl) rfl ?_
      simp_all [specOK]
    · rename_i hm hr
      have hm' : meshOK sz = true := by simpa using hm
      have hr' : (l.length : Int) = r := by simpa using hr
      clear hr
      subst hr'
      refine goLoop (fun m s1 H1 => H1 = H' ∧ ∃ (i : Nat), m = l.length - i ∧ i ≤ l.length ∧ get s1 0 = a ∧ get s1 1 = v ∧ get s1 18 = v ∧ get s1 19 = .int .i64 l.length ∧ get s1 20 = .int .i64 i ∧ specGo sz.length (l.take i) (l.drop i) = specOK sz l l.length) l.length ?_ ?_
      · exact ⟨rfl, 0, rfl, Nat.zero_le _, rfl, rfl, rfl, rfl, rfl, by simp [specOK, hm']⟩
      · rintro m s1 H1 ⟨rfl, i, hmm, hi, g3, g9, g10, g11, g12, hgo⟩
        simp only [cut_cons, cut_nil, g3, g9, g10, g11, g12]
        have hi0 : (0 : Int) ≤ i := Int.natCast_nonneg i
        have hd := fun h => drop_nth l i h
        have ht := fun h => take_nth l i h
        have hnil : ¬ i < l.length → l.drop i = [] := fun h => List.drop_of_length_le (by omega)
        have hw1 : w ((i : Int) + 1) = ((i + 1 : Nat) : Int) := w_id (by omega)
        clear g3 g9 g10 g11 g12 hm
        replace hgo := Hide.mk hgo
        replace hm' := Hide.mk hm'
        have hz : ¬ (sz.length : Int) ≤ -1 := by omega
        repeat' (first | apply goSeq | apply goReg | apply goSeqN | apply goSeqR | apply goSkip | apply goRet | apply goNil | apply goBlock | apply goExit | apply goBlkN | apply goBlkR | apply goBlkE | apply goSeqE | apply goLoopR | apply goLoopE | refine xOp ?_ | refine xOp0 ?_ | refine xYes ?_ | refine xNo ?_ | refine xNoU ?_ | refine xIfT ?_ | refine xIfF ?_ | refine xIf ?_ ?_ | refine xSplit ?_ ?_ | refine xIfQ ?_ ?_ | refine xSplitQ ?_ ?_ | refine xBlkX ?_ | intro _)
        all_goals replace hgo := hgo.out
        all_goals (try simp only [Bool.not_eq_true', decide_eq_false_iff_not, Bool.not_eq_false', decide_eq_true_eq] at *)
        all_goals first
          | (refine goEnd hw (Pre.refl _) (by simp) (by simp [rs63]; exact rfl) rfl ?_; rw [← hgo]; simp [specGo, hd, hnil, *]; done)
          | (refine goLoopN (l.length - (i + 1)) (by omega) ⟨rfl, i + 1, rfl, by omega, rfl, rfl, rfl, rfl, rfl, ?_⟩; rw [← hgo]; simp [specGo, hd, ht, *]; done)
  · cases hv
@[simp] theorem F63_at (a b : AV) (r : Int) (H : Hp) : F63 [a, b, .int .i64 r] H = (ints H a).bind fun sz => (ints H b).map fun sp => .bool (specOK sz sp r) := rfl
def anyEq (x : Int) : List Int → Bool
  | [] => false
  | a :: l => if a = x then true else anyEq x l
def rSpecGo (n : Int) : List Int → List Int → Bool
  | _, [] => true
  | pre, k :: r => if k < -1 ∨ n ≤ k then false else if 0 ≤ k ∧ anyEq k pre = true then false else rSpecGo n (pre ++ [k]) r
def rSpecOK (sz sp : List Int) (rank : Int) : Bool := if rOK sz = false ∨ (sp.length : Int) ≠ rank then false else rSpecGo sz.length [] sp
def F58 (args : List AV) (H : Hp) : Option AV := match args with
  | [a, b, .int .i64 r] => (ints H a).bind fun sz => (ints H b).map fun sp => .bool (rSpecOK sz sp r)
  | _ => none
theorem nth_take (l : List Int) (i k : Nat) (h : k < i) : nth (l.take i) k = nth l k := by
  simp [nth, List.getD_eq_getElem?_getD, List.getElem?_take, h]
set_option maxHeartbeats 1000000 in
theorem snd58 : Sound Try.prog 58 (FSem.pure F58).run := by
  refine sound_of hT (EOK_cons snd56 (EOK_nil _)) mixed A58 Try.func58 hb58 (by kernel_rfl) (by kernel_rfl) (by kernel_rfl) (by kernel_rfl) sh58 3 (by kernel_rfl) rs58 hr58 ?_
  intro args H r H' hw h
  obtain ⟨rfl, hv⟩ := pureAt h
  clear h
  unfold F58 at hv
  split at hv
  · rename_i a v r
    obtain ⟨sz, hsz, hv⟩ := Option.bind_eq_some_iff.1 hv
    obtain ⟨l, hl, hv⟩ := Option.map_eq_some_iff.1 hv
    cases hv
    have hlen := alenS_ints hl
    have hb := ints_len hl
    have hix := aidxS_ints hl .i64
    have hld := aload_nth T3 rfl hl
    have hlen2 := alenS_ints hsz
    refine ⟨rfl, go ?_⟩
    unfold c58
    simp only [argSl]
    simp only [← aidx22, ← alen22] at hix hlen hlen2
    repeat' (first | apply goSeq | apply goReg | apply goSeqN | apply goSeqR | apply goSkip | apply goRet | apply goNil | apply goBlock | apply goExit | apply goBlkN | apply goBlkR | apply goBlkE | apply goSeqE | apply goLoopR | apply goLoopE | refine xOp ?_ | refine xOp0 ?_ | refine xYes ?_ | refine xNo ?_ | refine xNoU ?_ | refine xIfT ?_ | refine xIfF ?_ | refine xIf ?_ ?_ | refine xSplit ?_ ?_ | refine xIfQ ?_ ?_ | refine xSplitQ ?_ ?_ | refine xBlkX ?_ | intro _)
    · refine goEnd hw (Pre.refl _) (by simp) (by simp [rs58]; exact rfl) rfl ?_
      simp_all [rSpecOK]
    · refine goEnd hw (Pre.refl _) (by simp) (by simp [rs58]; exact rfl) rfl ?_
      simp_all [rSpecOK]
    · rename_i hm hr
      have hm' : rOK sz = true := by simpa using hm
      have hr' : (l.length : Int) = r := by simpa using hr
      clear hr hv
      subst hr'
      refine goLoop (fun m s1 H1 => H1 = H' ∧ ∃ (i : Nat), m = l.length - i ∧ i ≤ l.length ∧ get s1 0 = a ∧ get s1 1 = v ∧ get s1 19 = .int .i64 l.length ∧ get s1 20 = .int .i64 i ∧ rSpecGo sz.length (l.take i) (l.drop i) = rSpecOK sz l l.length) l.length ?_ ?_
      · exact ⟨rfl, 0, rfl, Nat.zero_le _, rfl, rfl, rfl, rfl, by simp [rSpecOK, hm']⟩
      · rintro m s1 H1 ⟨rfl, i, hmm, hi, g3, g9, g11, g12, hgo⟩
        simp only [cut_cons, cut_nil, g3, g9, g11, g12]
        have hi0 : (0 : Int) ≤ i := Int.natCast_nonneg i
        have hd := fun h => drop_nth l i h
        have ht := fun h => take_nth l i h
        have hnil : ¬ i < l.length → l.drop i = [] := fun h => List.drop_of_length_le (by omega)
        have hw1 : w ((i : Int) + 1) = ((i + 1 : Nat) : Int) := w_id (by omega)
        clear g3 g9 g11 g12 hm
        replace hgo := Hide.mk hgo
        replace hm' := Hide.mk hm'
        repeat' (first | apply goSeq | apply goReg | apply goSeqN | apply goSeqR | apply goSkip | apply goRet | apply goNil | apply goBlock | apply goExit | apply goBlkN | apply goBlkR | apply goBlkE | apply goSeqE | apply goLoopR | apply goLoopE | refine xOp ?_ | refine xOp0 ?_ | refine xYes ?_ | refine xNo ?_ | refine xNoU ?_ | refine xIfT ?_ | refine xIfF ?_ | refine xIf ?_ ?_ | refine xSplit ?_ ?_ | refine xIfQ ?_ ?_ | refine xSplitQ ?_ ?_ | refine xBlkX ?_ | intro _)
        all_goals replace hgo := hgo.out
        all_goals (try simp only [Bool.not_eq_true', decide_eq_false_iff_not, Bool.not_eq_false', decide_eq_true_eq] at *)
        all_goals first
          | (refine goEnd hw (Pre.refl _) (by simp) (by simp [rs58]; exact rfl) rfl ?_; rw [← hgo]; simp [rSpecGo, hd, hnil, *]; done)
          | skip
        rename_i hlt hn1 hn2
        refine goLoop (fun m s1 H2 => H2 = H1 ∧ ∃ (k : Nat), m = i - k ∧ k ≤ i ∧ get s1 0 = a ∧ get s1 1 = v ∧ get s1 7 = .int .i64 i ∧ get s1 8 = .int .i64 k ∧ get s1 19 = .int .i64 l.length ∧ get s1 20 = .int .i64 i ∧ anyEq (nth l i) ((l.take i).drop k) = anyEq (nth l i) (l.take i)) i ?_ ?_
        · exact ⟨rfl, 0, rfl, Nat.zero_le _, rfl, rfl, rfl, rfl, rfl, rfl, rfl⟩
        · rintro m2 s2 H2 ⟨rfl, k, hmk, hk, g3, g9, g11, g12, g13, g14, hg2⟩
          simp only [cut_cons, cut_nil, g3, g9, g11, g12, g13, g14]
          clear g3 g9 g11 g12 g13 g14
          have hk0 : (0 : Int) ≤ k := Int.natCast_nonneg k
          have hki : k < i → k < l.length := by omega
          have hdk : k < i → (l.take i).drop k = nth l k :: (l.take i).drop (k + 1) := by
            intro h
            rw [drop_nth (l.take i) k (by simp; omega), nth_take l i k h]
          have hdn : ¬ k < i → (l.take i).drop k = [] := fun h => List.drop_of_length_le (by simp; omega)
          have hw2 : w ((k : Int) + 1) = ((k + 1 : Nat) : Int) := w_id (by omega)
          replace hgo := Hide.mk hgo
          replace hg2 := Hide.mk hg2
          repeat' (first | apply goSeq | apply goReg | apply goSeqN | apply goSeqR | apply goSkip | apply goRet | apply goNil | apply goBlock | apply goExit | apply goBlkN | apply goBlkR | apply goBlkE | apply goSeqE | apply goLoopR | apply goLoopE | refine xOp ?_ | refine xOp0 ?_ | refine xYes ?_ | refine xNo ?_ | refine xNoU ?_ | refine xIfT ?_ | refine xIfF ?_ | refine xIf ?_ ?_ | refine xSplit ?_ ?_ | refine xIfQ ?_ ?_ | refine xSplitQ ?_ ?_ | refine xBlkX ?_ | intro _)
          all_goals replace hgo := hgo.out
          all_goals replace hg2 := hg2.out
          all_goals (try simp only [Bool.not_eq_true', decide_eq_false_iff_not, Bool.not_eq_false', decide_eq_true_eq] at *)
          · have hq : anyEq (nth l i) (l.take i) = true := by rw [← hg2, hdk (by assumption)]; simp [anyEq, *]
            refine goEnd hw (Pre.refl _) (by simp) (by simp [rs58]; exact rfl) rfl ?_
            rw [← hgo, hd hlt]; simp [rSpecGo, *]
          · refine goLoopN (i - (k + 1)) (by omega) ⟨rfl, k + 1, rfl, by omega, rfl, rfl, rfl, rfl, rfl, rfl, ?_⟩
            rw [← hg2, hdk (by assumption)]; simp [anyEq, *]
          · rename_i hneg
            refine goLoopN (l.length - (i + 1)) (by omega) ⟨rfl, i + 1, rfl, by omega, rfl, rfl, rfl, rfl, ?_⟩
            rw [← hgo, hd hlt, ht hlt]; simp [rSpecGo, hn1, hn2, hneg]
          · have hq : anyEq (nth l i) (l.take i) = false := by rw [← hg2, hdn (by assumption)]; rfl
            refine goLoopN (l.length - (i + 1)) (by omega) ⟨rfl, i + 1, rfl, by omega, rfl, rfl, rfl, rfl, ?_⟩
            rw [← hgo, hd hlt, ht hlt]; simp [rSpecGo, hn1, hn2, hq]
  · cases hv
@[simp] theorem F58_at (a b : AV) (r : Int) (H : Hp) : F58 [a, b, .int .i64 r] H = (ints H a).bind fun sz => (ints H b).map fun sp => .bool (rSpecOK sz sp r) := rfl
/- Walks: parts, copies. -/
def partOf (sz : List Int) (k : Int) : Int := if 0 ≤ k then nth sz k else 1
def rParts (sz sp : List Int) : List Int := if rOK sz = true ∧ rSpecOK sz sp sp.length = true then sp.map (partOf sz) else []
theorem map_take (f : Int → Int) (l : List Int) (i : Nat) (h : i < l.length) : (l.take (i + 1)).map f = (l.take i).map f ++ [f (nth l i)] := by
  rw [take_nth l i h]; simp
def F59 (args : List AV) (H : Hp) : Option (AV × Hp) := match args with
  | [a, b] => (ints H a).bind fun sz => (ints H b).bind fun sp => if sp.length < 1099511627776 then some (mkS H (rParts sz sp)) else none
  | _ => none
theorem rSpecGo_lt {n : Int} : ∀ (l pre : List Int), rSpecGo n pre l = true → ∀ (i : Nat), i < l.length → -1 ≤ nth l i ∧ nth l i < n := by
  intro l
  induction l with
  | nil => intro pre _ i hi; simp at hi
  | cons a l ih =>
    intro pre h i hi
    simp only [rSpecGo] at h
    split at h
    · cases h
    · rename_i h1
      split at h
      · cases h
      · cases i with
        | zero => simp [nth]; omega
        | succ i =>
          have := ih _ h i (by simpa using hi)
          simpa [nth] using this
@[simp] theorem F59_at (a b : AV) (H : Hp) : F59 [a, b] H = (ints H a).bind fun sz => (ints H b).bind fun sp => if sp.length < 1099511627776 then some ((mkS H (rParts sz sp)).1, (mkS H (rParts sz sp)).2) else none := rfl
def divW : Int → List Int → Int
  | n, [] => n
  | n, k :: l => divW (w (n.tdiv k)) l
def rCopies (sz sp : List Int) : Int := if rOK sz = true ∧ rSpecOK sz sp sp.length = true then divW (rDevs sz) (rParts sz sp) else 0
def F23 (args : List AV) (H : Hp) : Option AV := match args with
  | [a, b] => (ints H a).bind fun sz => (ints H b).bind fun sp => if sp.length < 1099511627776 then some (.int .i64 (rCopies sz sp)) else none
  | _ => none
@[simp] theorem F23_at (a b : AV) (H : Hp) : F23 [a, b] H = (ints H a).bind fun sz => (ints H b).bind fun sp => if sp.length < 1099511627776 then some (.int .i64 (rCopies sz sp)) else none := rfl
/- Walks: where a device is; the parts' places. -/
theorem meshGo_pos : ∀ (l : List Int) (n : Int), meshGo n l = true → ∀ (j : Nat), j < l.length → 1 ≤ nth l j ∧ nth l j ≤ 8 := by
  intro l
  induction l with
  | nil => intro n _ j hj; simp at hj
  | cons a l ih =>
    intro n h j hj
    simp only [meshGo] at h
    split at h
    · cases h
    · rename_i h1
      cases j with
      | zero => simp [nth]; omega
      | succ j =>
        have := ih _ h j (by simpa using hj)
        simpa [nth] using this
theorem meshOK_pos {l : List Int} (h : meshOK l = true) : l.length ≤ 3 ∧ ∀ (j : Nat), j < l.length → 1 ≤ nth l j ∧ nth l j ≤ 8 := by
  unfold meshOK at h
  split at h
  · cases h
  · exact ⟨by omega, meshGo_pos l 1 h⟩
def atW (sz : List Int) : Nat → Int → List Int → List Int
  | 0, _, out => out
  | i + 1, d, out => atW sz i (w (d.tdiv (nth sz i))) (out.set i (d.tmod (nth sz i)))
/-- Where device d is. -/
def meshAt (sz : List Int) (d : Int) : List Int := atW sz sz.length d (List.replicate sz.length 0)
def F123 (args : List AV) (H : Hp) : Option (AV × Hp) := match args with
  | [a, .int .i64 d] => (ints H a).map fun sz => if d < 0 ∨ devs sz ≤ d then (.nilS, H) else mkF H (meshAt sz d)
  | _ => none
/- Walks: where parts lie. -/
/-! ### pairs of numbers -/
def pr (p : Int × Int) : List AV := [.int .i64 p.1, .int .i64 p.2]
def enc (l : List (Int × Int)) : List AV := l.flatMap pr
def bld86 (x y : AV) : Option AV := (afill (fun j => some (j * 1, 1)) [.int .i64 0, .int .i64 0] [(0, x), (1, y)]).map .agg
@[simp] theorem bld86_int (a b : Int) : bld86 (.int .i64 a) (.int .i64 b) = some (.agg [.int .i64 a, .int .i64 b]) := rfl
section
variable {E : Env} {sh : Bool} {s : Sl} {H : Hp}
@[simp] theorem xdo_build86 (x y : Operand) : xdo E T sh (.build 86 #[(0, x), (1, y)]) s H = (bld86 (ev s x) (ev s y)).map fun v => (v, H) := by
  simp only [xdo, aop, T86, T3, bld86, Option.bind_some, Option.map_map]
  rfl
@[simp] theorem xdo_alloc86 : xdo E T sh (.alloc 86) s H = some (.ptr H.bs.length H.c 0, H.new [.int .i64 0, .int .i64 0]) := by
  simp [xdo, aop, T86]
theorem set_last (l : List Blk) (x y : Blk) : (l ++ [x]).set l.length y = l ++ [y] := by
  induction l with
  | nil => rfl
  | cons a l ih => simp
@[simp] theorem st86 (a b x y : Int) : astore T 86 (.ptr H.bs.length H.c 0) (.agg [.int .i64 x, .int .i64 y]) (H.new [.int .i64 a, .int .i64 b]) = some (H.new [.int .i64 x, .int .i64 y]) := by
  simp only [astore, T86, new_at]
  rw [if_pos (by simp [AV.cells, AV.one])]
  simp [Hp.put, Hp.new, setAll, AV.cells, set_last]
@[simp] theorem st3a (a b x : Int) : astore T 3 (.ptr H.bs.length H.c 0) (.int .i64 x) (H.new [.int .i64 a, .int .i64 b]) = some (H.new [.int .i64 x, .int .i64 b]) := by
  simp only [astore, T3, new_at]
  rw [if_pos (by simp [AV.cells, AV.one])]
  simp [Hp.put, Hp.new, setAll, AV.cells, set_last]
@[simp] theorem st3b (a b x : Int) : astore T 3 (.ptr H.bs.length H.c 1) (.int .i64 x) (H.new [.int .i64 a, .int .i64 b]) = some (H.new [.int .i64 a, .int .i64 x]) := by
  simp only [astore, T3, new_at]
  rw [if_pos (by simp [AV.cells, AV.one])]
  simp [Hp.put, Hp.new, setAll, AV.cells, set_last]
@[simp] theorem ld86 (a b : Int) : aload T 86 (.ptr H.bs.length H.c 0) (H.new [.int .i64 a, .int .i64 b]) = some (.agg [.int .i64 a, .int .i64 b]) := by
  simp [aload, T86, new_at]
@[simp] theorem ld3a (a b : Int) : aload T 3 (.ptr H.bs.length H.c 0) (H.new [.int .i64 a, .int .i64 b]) = some (.int .i64 a) := by
  simp [aload, T3, new_at]
@[simp] theorem ld3b (a b : Int) : aload T 3 (.ptr H.bs.length H.c 1) (H.new [.int .i64 a, .int .i64 b]) = some (.int .i64 b) := by
  simp [aload, T3, new_at]
@[simp] theorem ix86a (b v o : Nat) : aidx T 86 (.ptr b v o) (.int .i64 0) = some (.ptr b v o) := by simp [aidx, D86, T3, aidxA]
@[simp] theorem ix86b (b v o : Nat) : aidx T 86 (.ptr b v o) (.int .i64 1) = some (.ptr b v (o + 1)) := by simp [aidx, D86, T3, aidxA]
def abs2 (v : AV) (H : Hp) : Option (AV × Hp) := (afill (fun j => some (j * 2, 2)) [.int .i64 0, .int .i64 0] [(0, v)]).map fun cs => (.sl H.bs.length H.c 0 1 2 true, H.new cs)
@[simp] theorem abs2_pr (a b : Int) : abs2 (.agg [.int .i64 a, .int .i64 b]) H = some (.sl H.bs.length H.c 0 1 2 true, H.new [.int .i64 a, .int .i64 b]) := rfl
@[simp] theorem xdo_bs2 (x : Operand) : xdo E T sh (.buildSlice 83 1 #[(0, x)]) s H = abs2 (ev s x) H := by
  simp [xdo, aop, D83, T86, rep, abs2]
end
@[simp] theorem F123_at (a : AV) (d : Int) (H : Hp) : F123 [a, .int .i64 d] H = (ints H a).map fun sz => if d < 0 ∨ devs sz ≤ d then (.nilS, H) else mkF H (meshAt sz d) := rfl
@[simp] theorem F60_at (n k i : Int) (H : Hp) : F60 [.int .i64 n, .int .i64 k, .int .i64 i] H = some (.tup [.int .i64 (cut n k i).1, .int .i64 (cut n k i).2]) := rfl
/-- Where a device's part goes from and to, one way. -/
def cutAt (s sz at' : List Int) (i k : Int) : Int × Int := if 0 ≤ k then cut (nth s i) (nth sz k) (nth at' k) else (0, nth s i)
def cutsGo (s sz at' sp : List Int) : Nat → List (Int × Int)
  | 0 => []
  | i + 1 => cutsGo s sz at' sp i ++ [cutAt s sz at' i (nth sp i)]
def mayCut (s sz sp : List Int) (d : Int) : Prop := shapeOK s = true ∧ specOK sz sp s.length = true ∧ 0 ≤ d ∧ d < devs sz
theorem cutsGo_len (s sz at' sp : List Int) (n : Nat) : (cutsGo s sz at' sp n).length = n := by
  induction n with
  | zero => rfl
  | succ n ih => simp [cutsGo, ih]
open Classical in
noncomputable def cutsF (H : Hp) (s sz sp : List Int) (d : Int) : AV × Hp :=
  if mayCut s sz sp d then (.tup [(mkG H 2 sp.length (enc (cutsGo s sz (meshAt sz d) sp sp.length))).1, .bool true], (mkG H 2 sp.length (enc (cutsGo s sz (meshAt sz d) sp sp.length))).2) else (.tup [.nilS, .bool false], H)
noncomputable def F57 (args : List AV) (H : Hp) : Option (AV × Hp) := match args with
  | [a, b, c, .int .i64 d] => (ints H a).bind fun s => (ints H b).bind fun sz => (ints H c).map fun sp => cutsF H s sz sp d
  | _ => none
theorem OwnG.new {es : Nat} {H0 H : Hp} {v : AV} {n : Nat} {cs : List AV} (h : OwnG es H0 H v n cs) (xs : List AV) : OwnG es H0 (H.new xs) v n cs := by
  rcases h with h | ⟨b, ver, h1, h2, h3, h4, hk⟩
  · exact .inl h
  · exact .inr ⟨b, ver, h1, h2, h3, h4, at_new hk xs⟩
theorem OwnG.old {es : Nat} {A B H : Hp} {v : AV} {n : Nat} {cs : List AV} (h : OwnG es B H v n cs) (hc : A.c ≤ B.c) : OwnG es A H v n cs := by
  rcases h with h | ⟨b, ver, h1, h2, h3, h4, hk⟩
  · exact .inl h
  · exact .inr ⟨b, ver, h1, Nat.le_trans hc h2, h3, h4, hk⟩
/- Walks: how long parts are. -/
open Classical in
noncomputable def cutsL (s sz sp : List Int) (d : Int) : List (Int × Int) := if mayCut s sz sp d then cutsGo s sz (meshAt sz d) sp sp.length else []
open Classical in
theorem cutsF_eq (H : Hp) (s sz sp : List Int) (d : Int) : cutsF H s sz sp d = (.tup [(mkG H 2 (cutsL s sz sp d).length (enc (cutsL s sz sp d))).1, .bool (decide (mayCut s sz sp d))], (mkG H 2 (cutsL s sz sp d).length (enc (cutsL s sz sp d))).2) := by
  unfold cutsF cutsL
  by_cases h : mayCut s sz sp d
  · simp [h, cutsGo_len]
  · simp [h, mkG]
open Classical in
@[simp] theorem F57_at (a b c : AV) (d : Int) (H : Hp) : F57 [a, b, c, .int .i64 d] H = (ints H a).bind fun s => (ints H b).bind fun sz => (ints H c).map fun sp => (.tup [(mkG H 2 (cutsL s sz sp d).length (enc (cutsL s sz sp d))).1, .bool (decide (mayCut s sz sp d))], (mkG H 2 (cutsL s sz sp d).length (enc (cutsL s sz sp d))).2) := by
  simp only [F57, cutsF_eq]
noncomputable def sizeL (s sz sp : List Int) (d : Int) : List Int := (cutsL s sz sp d).map fun p => w (p.2 - p.1)
noncomputable def F21 (args : List AV) (H : Hp) : Option (AV × Hp) := match args with
  | [a, b, c, .int .i64 d] => (ints H a).bind fun s => (ints H b).bind fun sz => (ints H c).map fun sp => mkS H (sizeL s sz sp d)
  | _ => none
@[simp] theorem F21_at (a b c : AV) (d : Int) (H : Hp) : F21 [a, b, c, .int .i64 d] H = (ints H a).bind fun s => (ints H b).bind fun sz => (ints H c).map fun sp => ((mkS H (sizeL s sz sp d)).1, (mkS H (sizeL s sz sp d)).2) := rfl
noncomputable def fromL (s sz sp : List Int) (d : Int) : List Int := (cutsL s sz sp d).map fun p => p.1
noncomputable def F22 (args : List AV) (H : Hp) : Option (AV × Hp) := match args with
  | [a, b, c, .int .i64 d] => (ints H a).bind fun s => (ints H b).bind fun sz => (ints H c).map fun sp => mkS H (fromL s sz sp d)
  | _ => none
@[simp] theorem F22_at (a b c : AV) (d : Int) (H : Hp) : F22 [a, b, c, .int .i64 d] H = (ints H a).bind fun s => (ints H b).bind fun sz => (ints H c).map fun sp => ((mkS H (fromL s sz sp d)).1, (mkS H (fromL s sz sp d)).2) := rfl
noncomputable def F19 (args : List AV) (H : Hp) : Option (AV × Hp) := match args with
  | [a, b, c] => (ints H a).bind fun s => (ints H b).bind fun sz => (ints H c).map fun sp => mkS H (sizeL s sz sp 0)
  | _ => none
@[simp] theorem F19_at (a b c : AV) (H : Hp) : F19 [a, b, c] H = (ints H a).bind fun s => (ints H b).bind fun sz => (ints H c).map fun sp => ((mkS H (sizeL s sz sp 0)).1, (mkS H (sizeL s sz sp 0)).2) := rfl
def sameGo : List Int → List Int → Bool
  | [], _ => true
  | a :: l, m => if a = nth m 0 then sameGo l (m.drop 1) else false
def sameL (l m : List Int) : Bool := if l.length = m.length then sameGo l m else false
def F62 (args : List AV) (H : Hp) : Option AV := match args with
  | [a, b] => (ints H a).bind fun l => (ints H b).map fun m => .bool (sameL l m)
  | _ => none
@[simp] theorem F62_at (a b : AV) (H : Hp) : F62 [a, b] H = (ints H a).bind fun l => (ints H b).map fun m => .bool (sameL l m) := rfl
/- Plain laws: the document's meshes and specs are the program's. -/
theorem rGo_eq : ∀ (l : List Int) (i : Nat) (n : Int), i ≤ 3 → rGo i n l = if 3 < i + l.length then false else meshGo n l := by
  intro l
  induction l with
  | nil => intro i n hi; simp [rGo, meshGo]; omega
  | cons k l ih =>
    intro i n hi
    simp only [rGo, meshGo, List.length_cons]
    by_cases h3 : 3 ≤ i
    · have : (3 : Int) ≤ (i : Int) := by omega
      rw [if_pos (.inl this), if_pos (by omega)]
    · have h3' : ¬ (3 : Int) ≤ (i : Int) := by omega
      by_cases hk : k < 1 ∨ 8 < k
      · rw [if_pos (.inr hk), if_pos hk]; simp
      · rw [if_neg (by simp [h3', hk]), if_neg hk, ih (i + 1) _ (by omega)]
        rw [show i + 1 + l.length = i + (l.length + 1) by omega]
theorem rOK_eq (l : List Int) : rOK l = meshOK l := by
  simp [rOK, meshOK, rGo_eq l 0 1 (by omega)]
theorem rDevs_eq (l : List Int) : rDevs l = devs l := by simp [rDevs, devs, rOK_eq]
theorem idxGo_mem (x : Int) : ∀ (l : List Int) (i : Int), 0 ≤ i → (0 ≤ idxGo x i l ↔ x ∈ l) := by
  intro l
  induction l with
  | nil => intro i _; simp [idxGo]
  | cons a l ih =>
    intro i hi
    simp only [idxGo, List.mem_cons]
    by_cases h : x = a
    · simp [h, hi]
    · simp [h, ih (i + 1) (by omega)]
theorem contains_iff (l : List Int) (x : Int) : contains l x = true ↔ x ∈ l := by
  simp [contains, idxGo_mem x l 0 (by omega)]
theorem anyEq_iff (x : Int) (l : List Int) : anyEq x l = true ↔ x ∈ l := by
  induction l with
  | nil => simp [anyEq]
  | cons a l ih =>
    simp only [anyEq, List.mem_cons]
    by_cases h : a = x
    · simp [h]
    · simp [h, ih, Ne.symm h, fun e : x = a => h e.symm]
theorem specGo_eq (n : Int) : ∀ (l pre : List Int), rSpecGo n pre l = specGo n pre l := by
  intro l
  induction l with
  | nil => intro pre; rfl
  | cons k l ih =>
    intro pre
    simp only [rSpecGo, specGo]
    by_cases h : k < -1 ∨ n ≤ k
    · rw [if_pos h, if_pos h]
    · rw [if_neg h, if_neg h]
      have hc : (0 ≤ k ∧ anyEq k pre = true) ↔ (k ≠ -1 ∧ contains pre k = true) := by
        rw [anyEq_iff, contains_iff]
        constructor
        · rintro ⟨a, b⟩; exact ⟨by omega, b⟩
        · rintro ⟨a, b⟩; exact ⟨by omega, b⟩
      by_cases h2 : k ≠ -1 ∧ contains pre k = true
      · rw [if_pos (hc.2 h2), if_pos h2]
      · rw [if_neg (fun e => h2 (hc.1 e)), if_neg h2, ih]
theorem rSpecOK_eq (sz sp : List Int) (r : Int) : rSpecOK sz sp r = specOK sz sp r := by
  simp only [rSpecOK, specOK, rOK_eq, specGo_eq]
/- Walks: the tape. -/
theorem Can.put {H H2 : Hp} {b : Nat} {k k' : Blk} {r2 r : AV} (hw : Wf H) (hk : H.bs[b]? = some k) (hv : k'.ver = k.ver) (hrel : rels H.bs.length H.c [] k'.cells = k'.cells)
    (hp : ∀ (b0 : Nat) (k0 : Blk), (H.put b k').bs[b0]? = some k0 → H2.bs[b0]? = some k0) (hr : r2.rel H.bs.length H.c [] = r) : Can H H2 (H.put b k') r2 r [] := by
  have hb := (List.getElem?_eq_some_iff.1 hk).1
  refine ⟨rfl, by simp [Hp.put], fun b0 hb0 => ?_, fun i j ver h => by simp at h, List.nodup_nil, fun i k0 hk0 => ?_, hr⟩
  · by_cases e : b = b0
    · subst e
      have : (H.put b k').bs[b]? = some k' := by simp [Hp.put, hb]
      exact ⟨k', hp b k' this, by rw [hv]; exact hw b k hk, this, .inr hrel⟩
    · have h1 : H.bs[b0]? = some H.bs[b0] := List.getElem?_eq_getElem hb0
      have : (H.put b k').bs[b0]? = some H.bs[b0] := by simp only [Hp.put]; rw [List.getElem?_set_ne e, h1]
      exact ⟨H.bs[b0], hp b0 _ this, hw b0 _ h1, this, .inl h1⟩
  · have := (List.getElem?_eq_some_iff.1 hk0).1
    simp [Hp.put] at this
    omega
/-- The value does not lie in block b. -/
def off (v : AV) (b : Nat) : Bool := match v with | .sl b' _ _ _ _ _ => !(b' == b) | .nilS => true | .mtS => true | _ => false
theorem at_put {H : Hp} {b b' ver : Nat} {k : Blk} (h : b' ≠ b) : (H.put b k).at b' ver = H.at b' ver := by
  simp only [Hp.at, Hp.put]; rw [List.getElem?_set_ne (fun e => h e.symm)]
theorem ints_put {H : Hp} {b : Nat} {k : Blk} {v : AV} (h : off v b = true) : ints (H.put b k) v = ints H v := by
  unfold ints
  cases v <;> simp only
  rename_i b' ver o n es f
  have : b' ≠ b := by simpa [off] using h
  rw [at_put this]
theorem at_put_same {H : Hp} {b ver : Nat} {k k' : Blk} (h : H.at b ver = some k) (hv : k'.ver = ver) : (H.put b k').at b ver = some k' := by
  have hb := (List.getElem?_eq_some_iff.1 (Hp.at_some h).1).1
  simp [Hp.at, Hp.put, hb, hv]
theorem put_put (H : Hp) (b : Nat) (k k' : Blk) : (H.put b k).put b k' = H.put b k' := by simp [Hp.put]
theorem rel_ints {H : Hp} (hw : Wf H) {v : AV} {l : List Int} (h : ints H v = some l) {js : List (Nat × Nat)} : v.rel H.bs.length H.c js = v := by
  unfold ints at h
  split at h
  · rfl
  · rfl
  · split at h
    · split at h
      · rename_i k hk
        have := at_lt hw hk
        simp [AV.rel, relR, this]
      · cases h
    · cases h
  · cases h
@[simp] theorem anil_ptr (b v o : Nat) : anil (.ptr b v o) = some (.ptr b v o) := rfl
@[simp] theorem fa25_0 (b v o : Nat) : afaddr' T 25 (.ptr b v o) 0 = some (.ptr b v o) := by simp [afaddr', D25, afaddr, T22]
@[simp] theorem fa25_1 (b v o : Nat) : afaddr' T 25 (.ptr b v o) 1 = some (.ptr b v (o + 1)) := by simp [afaddr', D25, afaddr, T3]
/-- A tape: where it is, its numbers' slice, its numbers, how far it is read. -/
structure Tape (H : Hp) (b ver : Nat) (v : AV) (l : List Int) (a : Nat) : Prop where
  at' : H.at b ver = some ⟨ver, [v, .int .i64 a], true, true⟩
  ints : ints H v = some l
  off : off v b = true
  le : a ≤ l.length
  rng : ∀ j : Nat, j < l.length → -9223372036854775808 ≤ nth l j ∧ nth l j < 9223372036854775808
def nextOf (l : List Int) (a : Nat) (n : Int) : Int := if a < l.length ∧ 1 ≤ n then (within (nth l a) 0 1073741824).tmod n else 0
def nextAt (l : List Int) (a : Nat) (n : Int) : Nat := if a < l.length ∧ 1 ≤ n then a + 1 else a
def tapePut (H : Hp) (b ver : Nat) (v : AV) (a : Nat) : Hp := H.put b ⟨ver, [v, .int .i64 a], true, true⟩
open Classical in
noncomputable def F16 (args : List AV) (H : Hp) : Option (AV × Hp) := match args with
  | [.ptr b ver 0, .int .i64 n] => if h : ∃ p : AV × List Int × Nat, Tape H b ver p.1 p.2.1 p.2.2 then
      let p := h.choose
      some (.int .i64 (nextOf p.2.1 p.2.2 n), tapePut H b ver p.1 (nextAt p.2.1 p.2.2 n)) else none
  | _ => none
theorem Tape.uniq {H : Hp} {b ver : Nat} {v v' : AV} {l l' : List Int} {a a' : Nat} (h : Tape H b ver v l a) (h' : Tape H b ver v' l' a') : v = v' ∧ l = l' ∧ a = a' := by
  have e := h.at'
  rw [h'.at'] at e
  simp only [Option.some.injEq, Blk.mk.injEq, List.cons.injEq, AV.int.injEq, true_and, and_true] at e
  obtain ⟨rfl, e2⟩ := e
  have e3 := h.ints
  rw [h'.ints] at e3
  exact ⟨rfl, (Option.some.inj e3).symm, by omega⟩
theorem F16_at {H : Hp} {b ver : Nat} {v : AV} {l : List Int} {a : Nat} (h : Tape H b ver v l a) (n : Int) : F16 [.ptr b ver 0, .int .i64 n] H = some (.int .i64 (nextOf l a n), tapePut H b ver v (nextAt l a n)) := by
  have hex : ∃ p : AV × List Int × Nat, Tape H b ver p.1 p.2.1 p.2.2 := ⟨(v, l, a), h⟩
  have := Tape.uniq hex.choose_spec h
  simp only [F16]
  rw [dif_pos hex]
  rw [this.1, this.2.1, this.2.2]
theorem put_self {H : Hp} {b ver : Nat} {k : Blk} (h : H.at b ver = some k) : H.put b k = H := by
  obtain ⟨h1, _⟩ := Hp.at_some h
  have hb := (List.getElem?_eq_some_iff.1 h1).1
  have : H.bs.set b k = H.bs := by
    apply List.ext_getElem?
    intro i
    by_cases e : b = i
    · subst e; rw [h1]; simp [hb]
    · rw [List.getElem?_set_ne e]
  show (⟨H.bs.set b k, H.c⟩ : Hp) = H
  rw [this]
set_option maxHeartbeats 1000000 in
theorem snd16 : Sound Try.prog 16 (FSem.eff F16).run := by
  refine sound_of hT (EOK_cons snd45 (EOK_nil _)) mixed A16 Try.func16 hb16 (by kernel_rfl) (by kernel_rfl) (by kernel_rfl) (by kernel_rfl) sh16 2 (by kernel_rfl) rs16 hr16 ?_
  intro args H r H' hw h
  have hv : F16 args H = some (r, H') := h
  clear h
  have hargs : ∃ b ver n v l a, args = [.ptr b ver 0, .int .i64 n] ∧ Tape H b ver v l a := by
    unfold F16 at hv
    split at hv
    · rename_i b ver n
      split at hv
      · rename_i hex
        exact ⟨b, ver, n, _, _, _, rfl, hex.choose_spec⟩
      · cases hv
    · cases hv
  obtain ⟨b, ver, n, v, l, a, rfl, ht⟩ := hargs
  rw [F16_at ht] at hv
  have hlen := alenS_ints ht.ints
  have hb := ints_len ht.ints
  have hix := aidxS_ints ht.ints .i64
  have hle := ht.le
  have hk := ht.at'
  have l1 : aload T 3 (.ptr b ver 1) H = some (.int .i64 a) := by simp [aload, T3, hk]
  have l0 : aload T 22 (.ptr b ver 0) H = some v := by simp [aload, T22, hk]
  have ha0 : (0 : Int) ≤ a := Int.natCast_nonneg a
  have hw1 : w ((a : Int) + 1) = ((a + 1 : Nat) : Int) := w_id (by omega)
  have hw2 : w (a : Int) = (a : Int) := w_id (by omega)
  have st : astore T 3 (.ptr b ver 1) (.int .i64 ((a : Int) + 1)) H = some (tapePut H b ver v (a + 1)) := by
    simp only [astore, T3, hk]
    rw [if_pos (by simp [AV.cells, AV.one])]
    rfl
  have hk2 : (tapePut H b ver v (a + 1)).at b ver = some ⟨ver, [v, .int .i64 ((a + 1 : Nat) : Int)], true, true⟩ := at_put_same hk rfl
  have m1 : aload T 3 (.ptr b ver 1) (tapePut H b ver v (a + 1)) = some (.int .i64 ((a : Int) + 1)) := by simp [aload, T3, hk2]
  have m0 : aload T 22 (.ptr b ver 0) (tapePut H b ver v (a + 1)) = some v := by simp [aload, T22, hk2]
  have hi2 : ints (tapePut H b ver v (a + 1)) v = some l := by unfold tapePut; rw [ints_put ht.off]; exact ht.ints
  have hld := aload_nth T3 rfl hi2
  have e45 : ∀ x (G : Hp), F45 [.int .i64 x, .int .i64 0, .int .i64 1073741824] G = some (.int .i64 (within x 0 1073741824)) := by
    intro x G
    simp only [F45]
    rw [if_neg (by decide)]
  refine ⟨rfl, go ?_⟩
  unfold c16
  simp only [argSl]
  simp only [← aidx22, ← alen22] at hix hlen
  have ht' := Hide.mk ht
  have hi3 := Hide.mk hi2
  have hk3 := Hide.mk hk
  have hn : ¬ n < 1 → ¬ n = 0 := by omega
  have hlt2 : ¬ l.length ≤ a → a < l.length := by omega
  clear ht hi2 hk hk2
  replace hv := Hide.mk hv
  repeat' (first | apply goSeq | apply goReg | apply goSeqN | apply goSeqR | apply goSkip | apply goRet | apply goNil | apply goBlock | apply goExit | apply goBlkN | apply goBlkR | apply goBlkE | apply goSeqE | apply goLoopR | apply goLoopE | refine xOp ?_ | refine xOp0 ?_ | refine xYes ?_ | refine xNo ?_ | refine xNoU ?_ | refine xIfT ?_ | refine xIfF ?_ | refine xIf ?_ ?_ | refine xSplit ?_ ?_ | refine xIfQ ?_ ?_ | refine xSplitQ ?_ ?_ | refine xBlkX ?_ | intro _)
  · rename_i h1
    have h0 : ¬ a < l.length := by omega
    have hv := hv.out
    simp only [nextOf, nextAt, h0, false_and, if_false] at hv
    rw [show tapePut H b ver v a = H from put_self hk3.out] at hv
    cases hv
    exact goEnd hw (Pre.refl _) (by simp) (by simp [rs16]; exact rfl) rfl rfl
  · rename_i h1 h2
    have h0 : ¬ 1 ≤ n := by omega
    have hv := hv.out
    simp only [nextOf, nextAt, h0, and_false, if_false] at hv
    rw [show tapePut H b ver v a = H from put_self hk3.out] at hv
    cases hv
    exact goEnd hw (Pre.refl _) (by simp) (by simp [rs16]; exact rfl) rfl rfl
  · rename_i h1 h2
    have h0 : a < l.length ∧ 1 ≤ n := by omega
    have hv := hv.out
    simp only [nextOf, nextAt, h0, and_self, if_true] at hv
    cases hv
    obtain ⟨g1, g2⟩ := Hp.at_some hk3.out
    refine ⟨⟨.inr rfl, [.int .i64 ((within (nth l a) 0 1073741824).tmod n)], [], by simp [rs16], ?_⟩⟩
    refine Can.put hw g1 rfl ?_ (fun _ _ h => h) rfl
    simp only [rels_cons, rels_nil, rel_int, rel_ints hw ht'.out.ints]
/- Walks: shapes of a tape. -/
theorem Tape.ext {H H1 : Hp} {b ver : Nat} {v : AV} {l : List Int} {a : Nat} (h : Tape H b ver v l a) (he : Pre H H1) : Tape H1 b ver v l a :=
  ⟨he.at h.at', ints_ext he h.ints, h.off, h.le, h.rng⟩
theorem Tape.put {H : Hp} {b ver : Nat} {v : AV} {l : List Int} {a a' : Nat} (h : Tape H b ver v l a) (ha : a' ≤ l.length) : Tape (tapePut H b ver v a') b ver v l a' :=
  ⟨at_put_same h.at' rfl, by unfold tapePut; rw [ints_put h.off]; exact h.ints, h.off, ha, h.rng⟩
theorem Tape.wf {H : Hp} {b ver : Nat} {v : AV} {l : List Int} {a a' : Nat} (h : Tape H b ver v l a) (hw : Wf H) : Wf (tapePut H b ver v a') := by
  obtain ⟨g1, g2⟩ := Hp.at_some h.at'
  have hb := (List.getElem?_eq_some_iff.1 g1).1
  intro i k hi
  by_cases e : b = i
  · subst e
    simp [tapePut, Hp.put, hb] at hi
    subst hi
    exact (hw b _ g1 : ver < H.c)
  · simp only [tapePut, Hp.put] at hi
    rw [List.getElem?_set_ne e] at hi
    exact hw i k hi
theorem nextAt_le {l : List Int} {a : Nat} {n : Int} (h : a ≤ l.length) : nextAt l a n ≤ l.length := by
  unfold nextAt; split <;> omega
theorem tape_tape (H : Hp) (b ver : Nat) (v : AV) (a a' : Nat) : tapePut (tapePut H b ver v a) b ver v a' = tapePut H b ver v a' := put_put _ _ _ _
/-- The tape is read on: what was made stays. -/
theorem Ext.tape {H H1 : Hp} {b ver : Nat} {v : AV} {l : List Int} {a a' : Nat} (h : Tape H b ver v l a) (he : Ext H H1) : Ext (tapePut H b ver v a') (tapePut H1 b ver v a') := by
  obtain ⟨g1, g2⟩ := Hp.at_some h.at'
  have hb := (List.getElem?_eq_some_iff.1 g1).1
  obtain ⟨m1, _⟩ := Hp.at_some (h.ext he.pre).at'
  have hb1 := (List.getElem?_eq_some_iff.1 m1).1
  refine ⟨?_, (h.ext he.pre).wf he.wf, he.c⟩
  intro i k hi
  by_cases e : b = i
  · subst e
    simp [tapePut, Hp.put, hb] at hi
    simp [tapePut, Hp.put, hb1, hi]
  · simp only [tapePut, Hp.put] at hi ⊢
    rw [List.getElem?_set_ne e] at hi ⊢
    exact he.pre i k hi
theorem Own.tape {H0 H1 : Hp} {b ver : Nat} {v u : AV} {l L : List Int} {a a' : Nat} (h : Tape H1 b ver v l a) (hver : ver < H0.c) (ho : Own H0 H1 u L) : Own H0 (tapePut H1 b ver v a') u L := by
  rcases ho with ho | ⟨b2, ver2, h1, h2, h3, hk⟩
  · exact .inl ho
  · refine .inr ⟨b2, ver2, h1, h2, h3, ?_⟩
    have hne : b2 ≠ b := by
      intro e
      subst e
      obtain ⟨g1, g2⟩ := Hp.at_some hk
      obtain ⟨g3, g4⟩ := Hp.at_some h.at'
      rw [g1] at g3
      have e := congrArg Blk.ver (Option.some.inj g3)
      simp only at e
      omega
    unfold tapePut
    rw [at_put hne]; exact hk
theorem OwnF.tape {H0 H1 : Hp} {b ver : Nat} {v u : AV} {l L : List Int} {a a' : Nat} (h : Tape H1 b ver v l a) (hver : ver < H0.c) (ho : OwnF H0 H1 u L) : OwnF H0 (tapePut H1 b ver v a') u L := by
  obtain ⟨b2, ver2, h1, h2, hk⟩ := ho
  refine ⟨b2, ver2, h1, h2, ?_⟩
  have hne : b2 ≠ b := by
    intro e
    subst e
    obtain ⟨g1, g2⟩ := Hp.at_some hk
    obtain ⟨g3, g4⟩ := Hp.at_some h.at'
    rw [g1] at g3
    have e := congrArg Blk.ver (Option.some.inj g3)
    simp only at e
    omega
  unfold tapePut
  rw [at_put hne]; exact hk
/-- What is handed back over a memory whose tape was read on. -/
theorem Can.tape {H H2 Hr : Hp} {b ver : Nat} {v : AV} {l : List Int} {a a' : Nat} {r2 r : AV} {js : List (Nat × Nat)} (hw : Wf H) (h : Tape H b ver v l a) (hc : Can (tapePut H b ver v a') H2 Hr r2 r js) : Can H H2 Hr r2 r js := by
  obtain ⟨g1, g2⟩ := Hp.at_some h.at'
  have hb := (List.getElem?_eq_some_iff.1 g1).1
  have hl : (tapePut H b ver v a').bs.length = H.bs.length := by simp [tapePut, Hp.put]
  refine ⟨hc.c, by rw [hc.len, hl], fun b0 hb0 => ?_, fun i j w' hi => ?_, hc.nodup, fun i k hk => hc.good i k (by rw [hl]; exact hk), by rw [← hl]; exact hc.r⟩
  · obtain ⟨k, e1, e2, e3, e4⟩ := hc.old b0 (by rw [hl]; exact hb0)
    rw [hl] at e4
    refine ⟨k, e1, e2, e3, ?_⟩
    rcases e4 with e4 | e4
    · by_cases e : b = b0
      · subst e
        simp [tapePut, Hp.put, hb] at e4
        subst e4
        exact .inr (by simp only [rels_cons, rels_nil, rel_int, rel_ints hw h.ints])
      · simp only [tapePut, Hp.put] at e4
        rw [List.getElem?_set_ne e] at e4
        exact .inl e4
    · exact .inr e4
  · obtain ⟨e1, k, e2, e3, e4⟩ := hc.new i j w' hi
    rw [hl] at e4
    exact ⟨e1, k, e2, e3, e4⟩
def lens : List Int := [1, 2, 3, 4, 5, 0, 7, 2]
theorem xdo_bs8 {E : Env} {sh : Bool} {s : Sl} {H : Hp} : xdo E T sh (.buildSlice 22 8 #[(0, (.const (.int .i64 1))), (1, (.const (.int .i64 2))), (2, (.const (.int .i64 3))), (3, (.const (.int .i64 4))), (4, (.const (.int .i64 5))), (5, (.const (.int .i64 0))), (6, (.const (.int .i64 7))), (7, (.const (.int .i64 2)))]) s H = some (.sl H.bs.length H.c 0 8 1 true, H.new (lens.map (.int .i64))) := by
  simp [xdo, aop, D22, T3, rep, afill, setAll, AV.cells, AV.one, lens]
def shapeT (l : List Int) : Nat → Nat → List Int × Nat
  | 0, a => ([], a)
  | n + 1, a => (nth lens (nextOf l a 8) :: (shapeT l n (nextAt l a 8)).1, (shapeT l n (nextAt l a 8)).2)
theorem tmod_range (x n : Int) (h : 1 ≤ n) (hx : 0 ≤ x) : 0 ≤ x.tmod n ∧ x.tmod n < n := ⟨Int.tmod_nonneg n hx, Int.tmod_lt_of_pos x (by omega)⟩
theorem within_range (n : Int) (hn : -9223372036854775808 ≤ n ∧ n < 9223372036854775808) : 0 ≤ within n 0 1073741824 := by
  unfold within
  split
  · omega
  · have h1 : w (w (1073741824 - 0) + 1) = 1073741825 := by decide
    rw [h1]
    have h2 := Int.tmod_lt_of_pos n (show (0 : Int) < 1073741825 by omega)
    have h3 : -1073741825 < n.tmod 1073741825 := by
      have := Int.tmod_lt_of_pos (-n) (show (0 : Int) < 1073741825 by omega)
      rw [Int.neg_tmod] at this
      omega
    split
    · rw [w_id (by rw [w_id (by rw [w_id (by rw [w_id (by omega)]; omega)]; rw [w_id (by omega)]; omega)]; rw [w_id (by rw [w_id (by omega)]; omega), w_id (by omega)]; omega)]
      rw [w_id (by rw [w_id (by rw [w_id (by omega)]; omega), w_id (by omega)]; omega), w_id (by rw [w_id (by omega)]; omega), w_id (by omega)]
      omega
    · rw [w_id (by omega)]; omega
theorem next_range {H : Hp} {b ver : Nat} {v : AV} {l : List Int} {a a' : Nat} (h : Tape H b ver v l a) (n : Int) (hn : 1 ≤ n) : 0 ≤ nextOf l a' n ∧ nextOf l a' n < n := by
  unfold nextOf
  split
  · rename_i h1
    exact tmod_range _ n hn (within_range _ (h.rng a' h1.1))
  · omega
open Classical in
noncomputable def tapeF (H : Hp) (b ver : Nat) (f : AV → List Int → Nat → AV × Hp) : Option (AV × Hp) :=
  if h : ∃ p : AV × List Int × Nat, Tape H b ver p.1 p.2.1 p.2.2 then some (f h.choose.1 h.choose.2.1 h.choose.2.2) else none
theorem tapeF_at {H : Hp} {b ver : Nat} {f : AV → List Int → Nat → AV × Hp} {v : AV} {l : List Int} {a : Nat} (h : Tape H b ver v l a) : tapeF H b ver f = some (f v l a) := by
  have hex : ∃ p : AV × List Int × Nat, Tape H b ver p.1 p.2.1 p.2.2 := ⟨(v, l, a), h⟩
  have := Tape.uniq hex.choose_spec h
  unfold tapeF
  rw [dif_pos hex, this.1, this.2.1, this.2.2]
theorem tapeF_some {H : Hp} {b ver : Nat} {f : AV → List Int → Nat → AV × Hp} {x : AV × Hp} (h : tapeF H b ver f = some x) : ∃ v l a, Tape H b ver v l a ∧ f v l a = x := by
  unfold tapeF at h
  split at h
  · rename_i hex
    exact ⟨_, _, _, hex.choose_spec, Option.some.inj h⟩
  · cases h
noncomputable def F17 (args : List AV) (H : Hp) : Option (AV × Hp) := match args with
  | [.ptr b ver 0] => tapeF H b ver fun v l a => mkS (tapePut H b ver v (shapeT l (nextOf l a 4).toNat (nextAt l a 4)).2) (shapeT l (nextOf l a 4).toNat (nextAt l a 4)).1
  | _ => none
theorem goEndSt {E : Env} {H0 H : Hp} {b ver : Nat} {v0 : AV} {l0 : List Int} {a a' : Nat} {x : Ex} {s : Sl} {rs : List ResultVar} {q : Option (List AV)} {v : AV} {l : List Int} {r : AV} {Hr : Hp} (hw : Wf H0) (ht : Tape H0 b ver v0 l0 a) (he : Ext (tapePut H0 b ver v0 a') H) (ho : Own (tapePut H0 b ver v0 a') H v l) (hx : x = .norm ∨ x = .ret) (e : xres T s H rs = q) (eq : q = some [v]) (hr : mkS (tapePut H0 b ver v0 a') l = (r, Hr)) :
    K E T (.fin fun x s' H2 => (x = .norm ∨ x = .ret) ∧ ∃ vs js, xres T s' H2 rs = some vs ∧ Can H0 H2 Hr (xret vs) r js) x s H := by
  obtain ⟨h1, vs, js, h2, h3⟩ := (goEndS (E := E) (ht.wf hw) he ho hx e eq hr).out
  exact ⟨⟨h1, vs, js, h2, h3.tape hw ht⟩⟩
set_option maxHeartbeats 1000000 in
theorem snd17 : Sound Try.prog 17 (FSem.eff F17).run := by
  refine sound_of hT (EOK_cons snd16 (EOK_nil _)) mixed A17 Try.func17 hb17 (by kernel_rfl) (by kernel_rfl) (by kernel_rfl) (by kernel_rfl) sh17 1 (by kernel_rfl) rs17 hr17 ?_
  intro args H r H' hw h
  have hv : F17 args H = some (r, H') := h
  clear h
  unfold F17 at hv
  split at hv
  · rename_i b ver
    obtain ⟨v, l, a, ht, hv⟩ := tapeF_some hv
    have e16 := F16_at ht 4
    have hver : ver < H.c := at_lt hw ht.at'
    refine ⟨rfl, go ?_⟩
    unfold c17
    simp only [argSl]
    have ht' := Hide.mk ht
    clear ht
    replace hv := Hide.mk hv
    repeat' (first | apply goSeq | apply goReg | apply goSeqN | apply goSeqR | apply goSkip | apply goRet | apply goNil | apply goBlock | apply goExit | apply goBlkN | apply goBlkR | apply goBlkE | apply goSeqE | apply goLoopR | apply goLoopE | refine xOp ?_ | refine xOp0 ?_ | refine xYes ?_ | refine xNo ?_ | refine xNoU ?_ | refine xIfT ?_ | refine xIfF ?_ | refine xIf ?_ ?_ | refine xSplit ?_ ?_ | refine xIfQ ?_ ?_ | refine xSplitQ ?_ ?_ | refine xBlkX ?_ | intro _)
    have ht := ht'.out
    have hn := next_range (a' := a) ht 4 (by omega)
    obtain ⟨n, hn2⟩ : ∃ n : Nat, nextOf l a 4 = n := ⟨(nextOf l a 4).toNat, by omega⟩
    have hv := hv.out
    rw [hn2, Int.toNat_natCast] at hv
    rw [hn2]
    rw [hn2] at hn
    refine goLoop (fun m s1 H1 => ∃ (a1 : Nat) (u : AV) (L1 : List Int), a1 ≤ l.length ∧ L1.length + m ≤ 3 ∧ get s1 0 = .ptr b ver 0 ∧ get s1 3 = u ∧ get s1 4 = .int .i64 (m : Nat) ∧ Ext (tapePut H b ver v a1) H1 ∧ Own H H1 u L1 ∧ L1 ++ (shapeT l m a1).1 = (shapeT l n (nextAt l a 4)).1 ∧ (shapeT l m a1).2 = (shapeT l n (nextAt l a 4)).2) n ?_ ?_
    · exact ⟨nextAt l a 4, .nilS, [], nextAt_le ht.le, by simp; omega, rfl, rfl, rfl, Ext.refl (ht.wf hw), .inl ⟨rfl, rfl⟩, by simp, rfl⟩
    · rintro m s1 H1 ⟨a1, u, L1, ha1, hlm, g1, g2, g3, he, ho, hL, hA⟩
      simp only [cut_cons, cut_nil, g1, g2, g3]
      clear g1 g2 g3 e16
      have hm0 : (0 : Int) ≤ m := Int.natCast_nonneg m
      cases m with
      | zero =>
        replace hL := Hide.mk hL
        replace hA := Hide.mk hA
        replace ho := Hide.mk ho
        repeat' (first | apply goSeq | apply goReg | apply goSeqN | apply goSeqR | apply goSkip | apply goRet | apply goNil | apply goBlock | apply goExit | apply goBlkN | apply goBlkR | apply goBlkE | apply goSeqE | apply goLoopR | apply goLoopE | refine xOp ?_ | refine xOp0 ?_ | refine xYes ?_ | refine xNo ?_ | refine xNoU ?_ | refine xIfT ?_ | refine xIfF ?_ | refine xIf ?_ ?_ | refine xSplit ?_ ?_ | refine xIfQ ?_ ?_ | refine xSplitQ ?_ ?_ | refine xBlkX ?_ | intro _)
        refine goEndSt (a' := a1) hw ht he (Own.old ho.out (Nat.le_refl _)) (by simp) (by simp [rs17]) rfl ?_
        have h1 := hL.out
        have h2 := hA.out
        simp only [shapeT, List.append_nil] at h1 h2
        rw [← hv, h1, h2]
      | succ m =>
        have ht1 : Tape (H1.new (lens.map (.int .i64))) b ver v l a1 := ((ht.put ha1).ext he.pre).ext (Pre.new (Pre.refl _) _)
        have e16 := F16_at ht1 8
        have hb8 := @xdo_bs8
        have hwm : w (m : Int) = (m : Int) := w_id (by omega)
        have hpos : (0 : Int) < ((m + 1 : Nat) : Int) := by omega
        replace hL := Hide.mk hL
        replace hA := Hide.mk hA
        replace ho := Hide.mk ho
        obtain ⟨hr1, hr2⟩ := next_range (a' := a1) ht 8 (by omega)
        have hbl : b < H1.bs.length := by
          obtain ⟨g1, _⟩ := Hp.at_some ((ht.put ha1).ext he.pre).at'
          exact (List.getElem?_eq_some_iff.1 g1).1
        have hil : ints (tapePut (H1.new (lens.map (.int .i64))) b ver v (nextAt l a1 8)) (.sl H1.bs.length H1.c 0 8 1 true) = some lens := by
          unfold tapePut
          rw [ints_put (by simp [off]; omega)]
          exact ints_of_ownF (mkF_own H1 lens) (by decide)
        have hix := aidxS_ints hil .i64
        have hld := aload_nth T3 rfl hil
        simp only [← aidx22, show ((lens.length : Nat) : Int) = 8 from rfl] at hix hld
        have ht2 : Tape (tapePut (H1.new (lens.map (.int .i64))) b ver v (nextAt l a1 8)) b ver v l (nextAt l a1 8) := ht1.put (nextAt_le ha1)
        have he2 : Ext (tapePut H b ver v (nextAt l a1 8)) (tapePut (H1.new (lens.map (.int .i64))) b ver v (nextAt l a1 8)) := by
          have := Ext.tape (a' := nextAt l a1 8) (ht.put ha1) (he.new (lens.map (.int .i64)))
          rwa [tape_tape] at this
        replace ht1 := Hide.mk ht1
        replace ht2 := Hide.mk ht2
        replace hv := Hide.mk hv
        repeat' (first | apply goSeq | apply goReg | apply goSeqN | apply goSeqR | apply goSkip | apply goRet | apply goNil | apply goBlock | apply goExit | apply goBlkN | apply goBlkR | apply goBlkE | apply goSeqE | apply goLoopR | apply goLoopE | refine xOp ?_ | refine xOp0 ?_ | refine xYes ?_ | refine xNo ?_ | refine xNoU ?_ | refine xIfT ?_ | refine xIfF ?_ | refine xIf ?_ ?_ | refine xSplit ?_ ?_ | refine xIfQ ?_ ?_ | refine xSplitQ ?_ ?_ | refine xBlkX ?_ | intro _)
        have ho2 : Own (tapePut H b ver v (nextAt l a1 8)) (tapePut (H1.new (lens.map (.int .i64))) b ver v (nextAt l a1 8)) u L1 := Own.tape ht1.out hver ((Own.new ho.out _).old (Nat.le_refl _))
        obtain ⟨u', H2, e, ho', he'⟩ := app_own (ht.wf hw) he2 ho2 (by omega) (nth lens (nextOf l a1 8))
        refine goOp (v := u') (H' := H2) rfl (by simp; exact e) ?_
        clear e
        replace ho' := Hide.mk ho'
        repeat' (first | apply goSeq | apply goReg | apply goSeqN | apply goSeqR | apply goSkip | apply goRet | apply goNil | apply goBlock | apply goExit | apply goBlkN | apply goBlkR | apply goBlkE | apply goSeqE | apply goLoopR | apply goLoopE | refine xOp ?_ | refine xOp0 ?_ | refine xYes ?_ | refine xNo ?_ | refine xNoU ?_ | refine xIfT ?_ | refine xIfF ?_ | refine xIf ?_ ?_ | refine xSplit ?_ ?_ | refine xIfQ ?_ ?_ | refine xSplitQ ?_ ?_ | refine xBlkX ?_ | intro _)
        refine goLoopN m (by omega) ⟨nextAt l a1 8, u', L1 ++ [nth lens (nextOf l a1 8)], nextAt_le ha1, by simp; omega, rfl, rfl, rfl, he', ho'.out.old (Nat.le_refl _), ?_, hA.out⟩
        rw [← hL.out]
        simp [shapeT]
  · cases hv
/- Made lists of any single cells; two of them side by side. -/
/-- A made list in block b: n cells. -/
structure OwnC (H0 H : Hp) (b ver : Nat) (cs : List AV) : Prop where
  new : H0.c ≤ ver
  at' : H.at b ver = some ⟨ver, cs, true, true⟩
def slC (b ver n : Nat) : AV := .sl b ver 0 n 1 true
theorem OwnC.ints {H0 H : Hp} {b ver : Nat} {l : List Int} (h : OwnC H0 H b ver (l.map (.int .i64))) (hl : l.length ≤ 1152921504606846976) : ints H (slC b ver l.length) = some l :=
  ints_of_ownF ⟨b, ver, rfl, h.new, h.at'⟩ hl
theorem OwnC.f {H0 H : Hp} {b ver : Nat} {l : List Int} (h : OwnC H0 H b ver (l.map (.int .i64))) : OwnF H0 H (slC b ver l.length) l := ⟨b, ver, rfl, h.new, h.at'⟩
theorem idx_gen (b ver n : Nat) (k : IntKind) (j : Int) : aidxS 1 (slC b ver n) (.int k j) = if 0 ≤ j ∧ j < n then some (.ptr b ver j.toNat) else none := by
  simp [aidxS, slC]
theorem load_gen {H0 H : Hp} {b ver t : Nat} {i : TI} {cs : List AV} (h : OwnC H0 H b ver cs) (ht : T t = some i) (hd : (match i.d with | .struct _ | .array _ _ => False | _ => True)) (j : Nat) : aload T t (.ptr b ver j) H = cs[j]? := by
  simp only [aload, ht, h.at']
  cases hi : i.d <;> simp only [hi] at hd ⊢ <;> first | rfl | exact hd.elim
theorem make_gen {H0 H : Hp} {t e : Nat} {ie : TI} {z : AV} (hD : T.d t = .slice e) (hT : T e = some ie) (hs : ie.size = 1) (hb : ie.bytes ≤ 8) (hz : ie.zero = [z]) (he : Ext H0 H) (n : Nat) (hn : n < 1099511627776) :
    amake T t (.int .i64 n) (.int .i64 n) H = some (slC H.bs.length H.c n, H.new (List.replicate n z)) ∧ OwnC H0 (H.new (List.replicate n z)) H.bs.length H.c (List.replicate n z) ∧ Ext H0 (H.new (List.replicate n z)) := by
  have hr : ∀ n, rep n [z] = List.replicate n z := by
    intro n
    induction n with
    | zero => rfl
    | succ n ih => simp [rep, ih, List.replicate_succ]
  refine ⟨?_, ⟨he.c, new_at _ _⟩, he.new _⟩
  simp only [amake, hD, hT, Option.bind_some]
  have : ((ie.bytes : Int)) * (n : Int) ≤ 8 * (n : Int) := Int.mul_le_mul_of_nonneg_right (by omega) (by omega)
  rw [if_pos (by refine ⟨trivial, by omega, by omega, by omega⟩), hz, hr, hs]
  simp [slC]
theorem store_gen {H0 H : Hp} {b ver t : Nat} {i : TI} {cs : List AV} {x : AV} (hw0 : Wf H0) (he : Ext H0 H) (h : OwnC H0 H b ver cs) (ht : T t = some i) (hs : i.size = 1) (hx : flat x = true) (j : Nat) (hj : j < cs.length) :
    astore T t (.ptr b ver j) x H = some (H.put b ⟨ver, cs.set j x, true, true⟩) ∧ OwnC H0 (H.put b ⟨ver, cs.set j x, true, true⟩) b ver (cs.set j x) ∧ Ext H0 (H.put b ⟨ver, cs.set j x, true, true⟩) := by
  obtain ⟨g1, g2⟩ := Hp.at_some h.at'
  have hb := (List.getElem?_eq_some_iff.1 g1).1
  have hc : x.cells = [x] := by cases x <;> first | rfl | cases hx
  have ho : x.one = true := by cases x <;> first | rfl | cases hx
  refine ⟨?_, ⟨h.new, by simp [Hp.at, Hp.put, hb]⟩, ?_, ?_, he.c⟩
  · simp only [astore, ht, h.at']
    rw [if_pos (by simp [hc, ho, hs]; omega)]
    simp [hc, setAll]
  · intro i k hi
    have h1 := he.pre i k hi
    show (H.bs.set b _)[i]? = some k
    by_cases hib : b = i
    · subst hib
      rw [g1] at h1
      cases h1
      exact absurd (hw0 b _ hi) (Nat.not_lt.2 h.new)
    · rw [List.getElem?_set_ne hib]; exact h1
  · intro i k hi
    simp only [Hp.put] at hi ⊢
    by_cases hib : b = i
    · subst hib
      simp [hb] at hi
      subst hi
      exact (he.wf b _ g1 : ver < H.c)
    · rw [List.getElem?_set_ne hib] at hi
      exact he.wf i k hi
/-- Another block is written. -/
theorem OwnC.put {H0 H : Hp} {b ver b' : Nat} {cs : List AV} {k : Blk} (h : OwnC H0 H b ver cs) (hne : b ≠ b') : OwnC H0 (H.put b' k) b ver cs := by
  refine ⟨h.new, ?_⟩
  have := h.at'
  simp only [Hp.at, Hp.put] at this ⊢
  rw [List.getElem?_set_ne (fun e => hne e.symm)]
  exact this
theorem OwnC.grow {H0 H : Hp} {b ver : Nat} {cs : List AV} (h : OwnC H0 H b ver cs) (xs : List AV) : OwnC H0 (H.new xs) b ver cs := ⟨h.new, at_new h.at' xs⟩
theorem OwnC.old {A B H : Hp} {b ver : Nat} {cs : List AV} (h : OwnC B H b ver cs) (hc : A.c ≤ B.c) : OwnC A H b ver cs := ⟨Nat.le_trans hc h.new, h.at'⟩
/- Walks: specs of a tape. -/
theorem OwnC.tape {H0 H1 : Hp} {b ver b2 ver2 : Nat} {v : AV} {l : List Int} {cs : List AV} {a a' : Nat} (h : Tape H1 b ver v l a) (hver : ver < H0.c) (ho : OwnC H0 H1 b2 ver2 cs) : OwnC H0 (tapePut H1 b ver v a') b2 ver2 cs := by
  refine ho.put ?_
  intro e
  subst e
  obtain ⟨g1, g2⟩ := Hp.at_some ho.at'
  obtain ⟨g3, g4⟩ := Hp.at_some h.at'
  rw [g1] at g3
  have e := congrArg Blk.ver (Option.some.inj g3)
  have := ho.new
  simp only at e
  omega
theorem aidx82 (v i : AV) : aidx T 82 v i = aidxS 1 v i := by simp [aidx, D82, T4]
/-- A spec of a tape: what is told from here on, and how far the tape is read then. -/
def specT (l : List Int) (k : Nat) : Nat → Nat → List Bool → List Int × Nat
  | 0, a, _ => ([], a)
  | m + 1, a, us =>
    if 0 < k then
      (if nextOf l a 2 = 0 then
        (if us.getD (nextOf l (nextAt l a 2) k).toNat false = true then (-1 :: (specT l k m (nextAt l (nextAt l a 2) k) us).1, (specT l k m (nextAt l (nextAt l a 2) k) us).2)
        else (nextOf l (nextAt l a 2) k :: (specT l k m (nextAt l (nextAt l a 2) k) (us.set (nextOf l (nextAt l a 2) k).toNat true)).1, (specT l k m (nextAt l (nextAt l a 2) k) (us.set (nextOf l (nextAt l a 2) k).toNat true)).2))
      else (-1 :: (specT l k m (nextAt l a 2) us).1, (specT l k m (nextAt l a 2) us).2))
    else (-1 :: (specT l k m a us).1, (specT l k m a us).2)
theorem goEndFt {E : Env} {H0 H : Hp} {b ver : Nat} {v0 : AV} {l0 : List Int} {a a' : Nat} {x : Ex} {s : Sl} {rs : List ResultVar} {q : Option (List AV)} {v : AV} {l : List Int} {r : AV} {Hr : Hp} (hw : Wf H0) (ht : Tape H0 b ver v0 l0 a) (he : Ext (tapePut H0 b ver v0 a') H) (ho : OwnF (tapePut H0 b ver v0 a') H v l) (hx : x = .norm ∨ x = .ret) (e : xres T s H rs = q) (eq : q = some [v]) (hr : mkF (tapePut H0 b ver v0 a') l = (r, Hr)) :
    K E T (.fin fun x s' H2 => (x = .norm ∨ x = .ret) ∧ ∃ vs js, xres T s' H2 rs = some vs ∧ Can H0 H2 Hr (xret vs) r js) x s H := by
  obtain ⟨h1, vs, js, h2, h3⟩ := (goEndF (E := E) (ht.wf hw) he ho hx e eq hr).out
  exact ⟨⟨h1, vs, js, h2, h3.tape hw ht⟩⟩
theorem take_set1 (L : List Int) (i : Nat) (x : Int) (h : i < L.length) : (L.set i x).take (i + 1) = L.take i ++ [x] := by
  rw [List.take_add_one, List.getElem?_set]
  simp [h, List.take_set_of_le]
noncomputable def F18 (args : List AV) (H : Hp) : Option (AV × Hp) := match args with
  | [.ptr b ver 0, sz, .int .i64 n] => (ints H sz).bind fun z => if 0 ≤ n ∧ n < 1048576 ∧ z.length < 1048576 ∧ off sz b = true then tapeF H b ver fun v l a => mkF (tapePut H b ver v (specT l z.length n.toNat a (List.replicate z.length false)).2) (specT l z.length n.toNat a (List.replicate z.length false)).1 else none
  | _ => none
set_option maxHeartbeats 1000000 in
theorem snd18 : Sound Try.prog 18 (FSem.eff F18).run := by
  refine sound_of hT (EOK_cons snd16 (EOK_nil _)) mixed A18 Try.func18 hb18 (by kernel_rfl) (by kernel_rfl) (by kernel_rfl) (by kernel_rfl) sh18 3 (by kernel_rfl) rs18 hr18 ?_
  intro args H r H' hw h
  have hv : F18 args H = some (r, H') := h
  clear h
  unfold F18 at hv
  split at hv
  · rename_i b ver sz nn
    obtain ⟨z, hz, hv⟩ := Option.bind_eq_some_iff.1 hv
    split at hv
    rotate_left
    · cases hv
    rename_i hc
    obtain ⟨hn0, hn1, hz1, hoff⟩ := hc
    obtain ⟨v, l, a, ht, hv⟩ := tapeF_some hv
    obtain ⟨n, rfl⟩ : ∃ n : Nat, nn = n := ⟨nn.toNat, by omega⟩
    have hver : ver < H.c := at_lt hw ht.at'
    have hlz := alenS_ints hz
    simp only [← alen22] at hlz
    obtain ⟨m1, o1, x1⟩ := make_gen (t := 22) D22 T3 rfl (by decide) rfl (Ext.refl hw) n (by omega)
    obtain ⟨m2, o2, x2⟩ := make_gen (t := 82) D82 T4 rfl (by decide) rfl x1 z.length (by omega)
    have o1' := o1.grow (List.replicate z.length (.bool false))
    have hbb : H.bs.length ≠ (H.new (List.replicate n (AV.int .i64 0))).bs.length := by simp [Hp.new]
    generalize hA : H.new (List.replicate n (AV.int .i64 0)) = HA at *
    generalize hB : HA.new (List.replicate z.length (.bool false)) = HB at *
    generalize hb1 : H.bs.length = b1 at *
    generalize hv1 : H.c = ver1 at *
    generalize hb2 : HA.bs.length = b2 at *
    generalize hv2 : HA.c = ver2 at *
    have hln : alen T 22 (slC b1 ver1 n) = some (.int .i64 n) := by rw [alen22]; rfl
    have hvh := Hide.mk hv
    have ht' := Hide.mk ht
    clear hv
    refine ⟨rfl, go ?_⟩
    unfold c18
    simp only [argSl]
    clear ht o1 x1
    repeat' (first | apply goSeq | apply goReg | apply goSeqN | apply goSeqR | apply goSkip | apply goRet | apply goNil | apply goBlock | apply goExit | apply goBlkN | apply goBlkR | apply goBlkE | apply goSeqE | apply goLoopR | apply goLoopE | refine xOp ?_ | refine xOp0 ?_ | refine xYes ?_ | refine xNo ?_ | refine xNoU ?_ | refine xIfT ?_ | refine xIfF ?_ | refine xIf ?_ ?_ | refine xSplit ?_ ?_ | refine xIfQ ?_ ?_ | refine xSplitQ ?_ ?_ | refine xBlkX ?_ | intro _)
    have ht := ht'.out
    have hverH : ver < H.c := by omega
    generalize hFL : (specT l z.length ((n : Int)).toNat a (List.replicate z.length false)).1 = FL at *
    generalize hFA : (specT l z.length ((n : Int)).toNat a (List.replicate z.length false)).2 = FA at *
    rw [Int.toNat_natCast] at hFL hFA
    refine goLoop (fun m s1 H1 => ∃ (i a1 : Nat) (L : List Int) (us : List Bool), m + i = n ∧ a1 ≤ l.length ∧ L.length = n ∧ us.length = z.length ∧ get s1 0 = .ptr b ver 0 ∧ get s1 1 = sz ∧ get s1 7 = slC b1 ver1 n ∧ get s1 8 = slC b2 ver2 z.length ∧ get s1 17 = .int .i64 n ∧ get s1 18 = .int .i64 i ∧ Ext (tapePut H b ver v a1) H1 ∧ OwnC H H1 b1 ver1 (L.map (.int .i64)) ∧ OwnC H H1 b2 ver2 (us.map .bool) ∧ L.take i ++ (specT l z.length m a1 us).1 = FL ∧ (specT l z.length m a1 us).2 = FA) n ?_ ?_
    · have hself : tapePut H b ver v a = H := put_self ht.at'
      exact ⟨0, a, List.replicate n 0, List.replicate z.length false, rfl, ht.le, by simp, by simp, rfl, rfl, rfl, rfl, rfl, rfl, by rw [hself]; exact x2, by simpa using o1', by simpa using o2, by simpa using hFL, hFA⟩
    · clear x2 o1' o2 m1 m2 hlz hln
      rintro m s1 H1 ⟨i, a1, L, us, hmi, ha1, hLn, hus, g1, g2, g3, g4, g5, g6, he, q1, q2, hL, hA'⟩
      simp only [cut_cons, cut_nil, g1, g2, g3, g4, g5, g6]
      clear g1 g2 g3 g4 g5 g6
      have hi0 : (0 : Int) ≤ i := Int.natCast_nonneg i
      cases m with
      | zero =>
        have hin : i = n := by omega
        subst hin
        replace hL := Hide.mk hL
        replace hA' := Hide.mk hA'
        replace q1 := Hide.mk q1
        replace q2 := Hide.mk q2
        repeat' (first | apply goSeq | apply goReg | apply goSeqN | apply goSeqR | apply goSkip | apply goRet | apply goNil | apply goBlock | apply goExit | apply goBlkN | apply goBlkR | apply goBlkE | apply goSeqE | apply goLoopR | apply goLoopE | refine xOp ?_ | refine xOp0 ?_ | refine xYes ?_ | refine xNo ?_ | refine xNoU ?_ | refine xIfT ?_ | refine xIfF ?_ | refine xIf ?_ ?_ | refine xSplit ?_ ?_ | refine xIfQ ?_ ?_ | refine xSplitQ ?_ ?_ | refine xBlkX ?_ | intro _)
        refine goEndFt (a' := a1) (v := slC b1 ver1 i) (l := L) hw ht he ?_ (by simp) (by simp [rs18]) rfl ?_
        · have := (q1.out.f)
          rw [hLn] at this
          obtain ⟨x, y, e1, e2, e3⟩ := this
          exact ⟨x, y, e1, e2, e3⟩
        · have h1 := hL.out
          have h2 := hA'.out
          simp only [specT, List.append_nil] at h1 h2
          rw [List.take_of_length_le (by omega)] at h1
          rw [← hvh.out, h1, h2]
      | succ m =>
        have hin : i < n := by omega
        have hlz : alen T 22 sz = some (.int .i64 z.length) := by rw [alen22]; exact alenS_ints hz
        have hi1 : aidx T 22 (slC b1 ver1 n) (.int .i64 i) = some (.ptr b1 ver1 i) := by
          rw [aidx22, idx_gen, if_pos (by omega)]; simp
        obtain ⟨s1a, q1a, hea⟩ := store_gen (t := 3) (x := .int .i64 (-1)) (ht.wf hw) he (q1.old (Nat.le_refl _)) T3 rfl rfl i (by simp; omega)
        have q2a := q2.put (b' := b1) (k := ⟨ver1, (L.map (AV.int .i64)).set i (.int .i64 (-1)), true, true⟩) (fun e => hbb e.symm)
        generalize hHa : H1.put b1 ⟨ver1, (L.map (AV.int .i64)).set i (.int .i64 (-1)), true, true⟩ = Ha at *
        have ta : Tape Ha b ver v l a1 := (ht.put ha1).ext hea.pre
        have ea := F16_at ta 2
        have hw1 : w ((i : Int) + 1) = ((i + 1 : Nat) : Int) := w_id (by omega)
        have hzp : (0 : Int) < (z.length : Int) ↔ 0 < z.length := by omega
        replace hL := Hide.mk hL
        replace hA' := Hide.mk hA'
        replace q1 := Hide.mk q1
        replace q2 := Hide.mk q2
        replace q1a := Hide.mk q1a
        replace q2a := Hide.mk q2a
        replace ta := Hide.mk ta
        replace hz := Hide.mk hz
        have hb0 : Ext (tapePut H b ver v (nextAt l a1 2)) (tapePut Ha b ver v (nextAt l a1 2)) := by
          have := Ext.tape (a' := nextAt l a1 2) (ht.put ha1) hea
          rwa [tape_tape] at this
        have ha2 := nextAt_le (n := 2) ha1
        by_cases hz0 : 0 < z.length
        · obtain ⟨hr1, hr2⟩ := next_range (a' := nextAt l a1 2) ht z.length (by omega)
          have eb := F16_at (ta.out.put ha2) z.length
          rw [tape_tape] at eb
          generalize hk : nextOf l (nextAt l a1 2) z.length = k' at *
          obtain ⟨j, rfl⟩ : ∃ j : Nat, k' = j := ⟨k'.toNat, by omega⟩
          have hjz : j < z.length := by omega
          generalize ha3 : nextAt l (nextAt l a1 2) z.length = a3 at *
          have ha3l : a3 ≤ l.length := by rw [← ha3]; exact nextAt_le ha2
          have hc0 : Ext (tapePut H b ver v a3) (tapePut Ha b ver v a3) := by
            have := Ext.tape (a' := a3) (ht.put ha1) hea
            rwa [tape_tape] at this
          have q2c : OwnC H (tapePut Ha b ver v a3) b2 ver2 (us.map .bool) := OwnC.tape ta.out hverH q2a.out
          have q1c : OwnC H (tapePut Ha b ver v a3) b1 ver1 ((L.map (AV.int .i64)).set i (.int .i64 (-1))) := OwnC.tape ta.out hverH (q1a.out.old (Nat.le_refl _))
          have hi2 : aidx T 82 (slC b2 ver2 z.length) (.int .i64 j) = some (.ptr b2 ver2 j) := by
            rw [aidx82, idx_gen, if_pos (by omega)]; simp
          have hl2 : aload T 4 (.ptr b2 ver2 j) (tapePut Ha b ver v a3) = some (.bool (us.getD j false)) := by
            rw [load_gen q2c T4 trivial j]
            simp [List.getD_eq_getElem?_getD, hus, hjz]
          obtain ⟨s1c, q1d, hd0⟩ := store_gen (t := 3) (x := .int .i64 j) (ht.wf hw) hc0 (q1c.old (Nat.le_refl _)) T3 rfl rfl i (by simp; omega)
          have q2d := q2c.put (b' := b1) (k := ⟨ver1, ((L.map (AV.int .i64)).set i (.int .i64 (-1))).set i (.int .i64 j), true, true⟩) (fun e => hbb e.symm)
          generalize hHd : (tapePut Ha b ver v a3).put b1 ⟨ver1, ((L.map (AV.int .i64)).set i (.int .i64 (-1))).set i (.int .i64 j), true, true⟩ = Hd at *
          obtain ⟨s2d, q2e, he0⟩ := store_gen (t := 4) (x := .bool true) (ht.wf hw) hd0 (q2d.old (Nat.le_refl _)) T4 rfl rfl j (by simp; omega)
          have q1e := q1d.put (b' := b2) (k := ⟨ver2, (us.map AV.bool).set j (.bool true), true, true⟩) hbb
          generalize hHe : Hd.put b2 ⟨ver2, (us.map AV.bool).set j (.bool true), true, true⟩ = He at *
          replace q1c := Hide.mk q1c
          replace q2c := Hide.mk q2c
          replace q1d := Hide.mk q1d
          replace q2d := Hide.mk q2d
          replace q1e := Hide.mk q1e
          replace q2e := Hide.mk q2e
          replace hus := Hide.mk hus
          replace hLn := Hide.mk hLn
          repeat' (first | apply goSeq | apply goReg | apply goSeqN | apply goSeqR | apply goSkip | apply goRet | apply goNil | apply goBlock | apply goExit | apply goBlkN | apply goBlkR | apply goBlkE | apply goSeqE | apply goLoopR | apply goLoopE | refine xOp ?_ | refine xOp0 ?_ | refine xYes ?_ | refine xNo ?_ | refine xNoU ?_ | refine xIfT ?_ | refine xIfF ?_ | refine xIf ?_ ?_ | refine xSplit ?_ ?_ | refine xIfQ ?_ ?_ | refine xSplitQ ?_ ?_ | refine xBlkX ?_ | intro _)
          · rename_i hn0' hu
            have hu' : us[j]?.getD false = false := by simpa using hu
            have hLn := hLn.out
            have hus := hus.out
            refine goLoopN m (by omega) ⟨i + 1, a3, L.set i j, us.set j true, by omega, ha3l, by simp [hLn], by simp [hus], rfl, rfl, rfl, rfl, rfl, rfl, he0, ?_, ?_, ?_, ?_⟩
            · have := q1e.out.old (A := H) (Nat.le_refl _)
              simpa [List.map_set] using this
            · have := q2e.out.old (A := H) (Nat.le_refl _)
              simpa [List.map_set] using this
            · rw [take_set1 L i _ (by omega), ← hL.out]; simp [specT, hz0, hn0', hk, ha3, hu', List.append_assoc]
            · rw [← hA'.out]; simp [specT, hz0, hn0', hk, ha3, hu']
          · rename_i hn0' hu
            have hu' : us[j]?.getD false = true := by simpa using hu
            have hLn := hLn.out
            have hus := hus.out
            refine goLoopN m (by omega) ⟨i + 1, a3, L.set i (-1), us, by omega, ha3l, by simp [hLn], hus, rfl, rfl, rfl, rfl, rfl, rfl, hc0, ?_, q2c.out, ?_, ?_⟩
            · have := q1c.out.old (A := H) (Nat.le_refl _)
              simpa [List.map_set] using this
            · rw [take_set1 L i _ (by omega), ← hL.out]; simp [specT, hz0, hn0', hk, ha3, hu', List.append_assoc]
            · rw [← hA'.out]; simp [specT, hz0, hn0', hk, ha3, hu']
          · rename_i hn0'
            have hLn := hLn.out
            have hus := hus.out
            refine goLoopN m (by omega) ⟨i + 1, nextAt l a1 2, L.set i (-1), us, by omega, ha2, by simp [hLn], hus, rfl, rfl, rfl, rfl, rfl, rfl, hb0, ?_, OwnC.tape ta.out hverH q2a.out, ?_, ?_⟩
            · have : OwnC H (tapePut Ha b ver v (nextAt l a1 2)) b1 ver1 ((L.map (AV.int .i64)).set i (.int .i64 (-1))) := OwnC.tape ta.out hverH (q1a.out.old (Nat.le_refl _))
              simpa [List.map_set] using this
            · rw [take_set1 L i _ (by omega), ← hL.out]; simp [specT, hz0, hn0', List.append_assoc]
            · rw [← hA'.out]; simp [specT, hz0, hn0']
        · repeat' (first | apply goSeq | apply goReg | apply goSeqN | apply goSeqR | apply goSkip | apply goRet | apply goNil | apply goBlock | apply goExit | apply goBlkN | apply goBlkR | apply goBlkE | apply goSeqE | apply goLoopR | apply goLoopE | refine xOp ?_ | refine xOp0 ?_ | refine xYes ?_ | refine xNo ?_ | refine xNoU ?_ | refine xIfT ?_ | refine xIfF ?_ | refine xIf ?_ ?_ | refine xSplit ?_ ?_ | refine xIfQ ?_ ?_ | refine xSplitQ ?_ ?_ | refine xBlkX ?_ | intro _)
          refine goLoopN m (by omega) ⟨i + 1, a1, L.set i (-1), us, by omega, ha1, by simp [hLn], hus, rfl, rfl, rfl, rfl, rfl, rfl, hea, ?_, q2a.out, ?_, ?_⟩
          · have := q1a.out.old (A := H) (Nat.le_refl _)
            simpa [List.map_set] using this
          · rw [take_set1 L i _ (by omega), ← hL.out]; simp [specT, hz0]
          · rw [← hA'.out]; simp [specT, hz0]
  · cases hv
/- Functions in short form. -/
/-! parquetry/mesh.Of (2 parameters; calls 89 parquetry/mesh.Right) -/
/-! parquetry/spec.First (3 parameters; calls 63 parquetry/spec.Right, 88 parquetry/mesh.Devices, 123 parquetry/mesh.At, 125 slices.Contains[[]int,int], 126 parquetry/mesh.Of) -/
/-! slices.Equal[[]int,int] (2 parameters; calls none) -/
/- Walks: which device is somewhere; lists that are the same. -/
def ofGo : Int → List Int → List Int → Int
  | d, s :: sz, k :: l => if k < 0 ∨ s ≤ k then -1 else ofGo (w (w (d * s) + k)) sz l
  | d, _, _ => d
/-- Which device is there. -/
def ofL (sz l : List Int) : Int := if meshOK sz = false ∨ l.length ≠ sz.length then -1 else ofGo 0 sz l
def F126 (args : List AV) (H : Hp) : Option AV := match args with
  | [a, b] => (ints H a).bind fun sz => (ints H b).map fun l => .int .i64 (ofL sz l)
  | _ => none
@[simp] theorem F126_at (a b : AV) (H : Hp) : F126 [a, b] H = (ints H a).bind fun sz => (ints H b).map fun l => .int .i64 (ofL sz l) := rfl
/- Walks: where a device is, in the document; slices.Equal; the least device that has the same part. -/
def F129 (args : List AV) (H : Hp) : Option AV := match args with
  | [a, b] => (ints H a).bind fun l => (ints H b).map fun m => .bool (sameL l m)
  | _ => none
@[simp] theorem F129_at (a b : AV) (H : Hp) : F129 [a, b] H = (ints H a).bind fun l => (ints H b).map fun m => .bool (sameL l m) := rfl
/-- Only the axes that a spec has. -/
def maskL (sp : List Int) : Nat → List Int → List Int
  | _, [] => []
  | i, a :: l => (if contains sp i = true then a else 0) :: maskL sp (i + 1) l
/-- The least device that has the same part. -/
def firstL (sz sp : List Int) (d : Int) : Int := if specOK sz sp sp.length = false ∨ d < 0 ∨ devs sz ≤ d then -1 else ofL sz (maskL sp 0 (meshAt sz d))
def F66 (args : List AV) (H : Hp) : Option AV := match args with
  | [a, b, .int .i64 d] => (ints H a).bind fun sz => (ints H b).map fun sp => .int .i64 (firstL sz sp d)
  | _ => none
@[simp] theorem F66_at (a b : AV) (d : Int) (H : Hp) : F66 [a, b, .int .i64 d] H = (ints H a).bind fun sz => (ints H b).map fun sp => .int .i64 (firstL sz sp d) := rfl
/- Plain law of TileShares: all devices' parts together are the shape's numbers as often as there are copies. -/
def six : List (List Int) := [[2], [2, 4], [3, 2], [2, 2, 2], [], [5], [2, 2]]
/-- The tape's numbers are numbers of 64 bits. -/
def In64 (l : List Int) : Prop := ∀ j : Nat, j < l.length → -9223372036854775808 ≤ nth l j ∧ nth l j < 9223372036854775808
theorem next_in {l : List Int} (h : In64 l) (a : Nat) (n : Int) (hn : 1 ≤ n) : 0 ≤ nextOf l a n ∧ nextOf l a n < n := by
  unfold nextOf
  split
  · rename_i h1
    exact tmod_range _ n hn (within_range _ (h a h1.1))
  · omega
theorem lens_mem : ∀ k : Nat, k < 8 → nth lens (k : Int) ∈ lens := by decide
theorem shapeT_len (l : List Int) : ∀ n a, (shapeT l n a).1.length = n := by
  intro n
  induction n with
  | zero => intro a; rfl
  | succ n ih => intro a; simp [shapeT, ih]
theorem shapeT_mem {l : List Int} (h : In64 l) : ∀ n a, ∀ x ∈ (shapeT l n a).1, x ∈ lens := by
  intro n
  induction n with
  | zero => intro a x hx; simp [shapeT] at hx
  | succ n ih =>
    intro a x hx
    simp only [shapeT, List.mem_cons] at hx
    rcases hx with rfl | hx
    · obtain ⟨h1, h2⟩ := next_in h a 8 (by omega)
      have := lens_mem (nextOf l a 8).toNat (by omega)
      rwa [Int.toNat_of_nonneg h1] at this
    · exact ih _ x hx
theorem specT_len (l : List Int) (k : Nat) : ∀ m a us, (specT l k m a us).1.length = m := by
  intro m
  induction m with
  | zero => intro a us; rfl
  | succ m ih =>
    intro a us
    simp only [specT]
    split
    · split
      · split <;> simp [ih]
      · simp [ih]
    · simp [ih]
theorem specT_ok {l : List Int} (h : In64 l) (k : Nat) : ∀ m a us pre, us.length = k → (∀ j : Nat, j < k → us.getD j false = false → (j : Int) ∉ pre) → specGo k pre (specT l k m a us).1 = true := by
  intro m
  induction m with
  | zero => intro a us pre _ _; rfl
  | succ m ih =>
    intro a us pre hl hu
    have none' : ∀ a', specGo k pre (-1 :: (specT l k m a' us).1) = true := by
      intro a'
      simp only [specGo]
      rw [if_neg (by omega), if_neg (by simp)]
      refine ih a' us _ hl fun j hj hf hm => ?_
      rcases List.mem_append.1 hm with hm | hm
      · exact hu j hj hf hm
      · simp at hm
    simp only [specT]
    by_cases hk : 0 < k
    · rw [if_pos hk]
      by_cases hc : nextOf l a 2 = 0
      · rw [if_pos hc]
        obtain ⟨h1, h2⟩ := next_in h (nextAt l a 2) k (by omega)
        generalize nextOf l (nextAt l a 2) k = x at *
        generalize nextAt l (nextAt l a 2) k = a' at *
        obtain ⟨j, rfl⟩ : ∃ j : Nat, x = j := ⟨x.toNat, by omega⟩
        simp only [Int.toNat_natCast]
        have hj : j < k := by omega
        by_cases hus : us.getD j false = true
        · rw [if_pos hus]; exact none' a'
        · rw [if_neg hus]
          have hus' : us.getD j false = false := by simpa using hus
          simp only [specGo]
          rw [if_neg (by omega), if_neg (by rw [contains_iff]; exact fun e => hu j hj hus' e.2)]
          refine ih a' _ _ (by simp [hl]) fun i hi hf hm => ?_
          by_cases hij : j = i
          · subst hij
            simp [List.getD_eq_getElem?_getD, hl, hj] at hf
          · rw [List.getD_eq_getElem?_getD, List.getElem?_set_ne hij] at hf
            rcases List.mem_append.1 hm with hm | hm
            · exact hu i hi (by rw [List.getD_eq_getElem?_getD]; exact hf) hm
            · simp at hm; omega
      · rw [if_neg hc]; exact none' _
    · rw [if_neg hk]; exact none' a
/-! ### the parts of a length -/
/-- How long part c of a length n in k parts is. -/
def cutS (n k c : Int) : Int := w ((cut n k c).2 - (cut n k c).1)
/-- What a device at this place has of a length. -/
def szOf (m at' : List Int) (n k : Int) : Int := if 0 ≤ k then cutS n (nth m k) (nth at' k) else n
def szs (m at' : List Int) : List Int → List Int → List Int
  | n :: s, k :: p => szOf m at' n k :: szs m at' s p
  | _, _ => []
theorem szs_app (m at' : List Int) : ∀ (s p : List Int), s.length = p.length → ∀ a x, szs m at' (s ++ [a]) (p ++ [x]) = szs m at' s p ++ [szOf m at' a x] := by
  intro s
  induction s with
  | nil => intro p h a x; cases p with | nil => rfl | cons _ _ => simp at h
  | cons n s ih =>
    intro p h a x
    cases p with
    | nil => simp at h
    | cons k p => simp [szs, ih p (by simpa using h) a x]
theorem cutsGo_szs (s m at' p : List Int) (hl : s.length = p.length) (hr : ∀ i : Nat, i < s.length → w (nth s i) = nth s i) : ∀ n : Nat, n ≤ p.length → (cutsGo s m at' p n).map (fun q => w (q.2 - q.1)) = szs m at' (s.take n) (p.take n) := by
  intro n
  induction n with
  | zero => intro _; simp [cutsGo, szs]
  | succ n ih =>
    intro hn
    rw [take_nth s n (by omega), take_nth p n (by omega), szs_app _ _ _ _ (by simp; omega), cutsGo, List.map_append, ih (by omega)]
    congr 1
    simp only [List.map_cons, List.map_nil, szOf, cutAt]
    split
    · rfl
    · simp [hr n (by omega)]
theorem szs_len (m at' : List Int) : ∀ (s p : List Int), s.length = p.length → (szs m at' s p).length = s.length := by
  intro s
  induction s with
  | nil => intro p _; rfl
  | cons n s ih =>
    intro p h
    cases p with
    | nil => simp at h
    | cons k p => simp [szs, ih p (by simpa using h)]
theorem lens_rng : ∀ n ∈ lens, 0 ≤ n ∧ n ≤ 7 := by decide
theorem lens_w {s : List Int} (h : ∀ x ∈ s, x ∈ lens) (i : Nat) (hi : i < s.length) : w (nth s i) = nth s i := by
  have hm : nth s i ∈ s := by simp [nth, hi]
  have := lens_rng _ (h _ hm)
  exact w_id (by omega)
theorem sizeL_szs {s m p : List Int} {d : Int} (hs : ∀ x ∈ s, x ∈ lens) (hl : p.length = s.length) (hc : mayCut s m p d) : sizeL s m p d = szs m (meshAt m d) s p := by
  unfold sizeL cutsL
  rw [if_pos hc, cutsGo_szs s m (meshAt m d) p hl.symm (lens_w hs) p.length (Nat.le_refl _)]
  rw [List.take_of_length_le (by omega), List.take_of_length_le (by omega)]
/-! ### what the meshes' parts are -/
def chk (m : List Int) : Bool := (List.range (devs m).toNat).all fun d => lens.all fun n => (List.range m.length).all fun k => decide (0 ≤ szOf m (meshAt m d) n k ∧ szOf m (meshAt m d) n k ≤ szOf m (meshAt m 0) n k ∧ szOf m (meshAt m 0) n k ≤ 7)
theorem chk_six : six.all chk = true := by decide
/- Walks: some of chapter 16's runs. -/
theorem new_len (H : Hp) (cs : List AV) : (H.new cs).bs.length = H.bs.length + 1 := by simp [Hp.new]
theorem new_c (H : Hp) (cs : List AV) : (H.new cs).c = H.c + 1 := rfl
@[simp] theorem F61_at (n k : Int) (H : Hp) : F61 [.int .i64 n, .int .i64 k] H = some (.int .i64 (width n k)) := rfl
/- Lists in the text, tapes, on the way to a statement that reads a tape. -/
/-! ### what is new here: a struct, a box, lists of lists -/
def bld25 (x : AV) : Option AV := (afill (fun j => ([(0, 22), (1, 3)][j]?).bind fun f => (T f.2).map fun i => (f.1, i.size)) [.nilS, .int .i64 0] [(0, x)]).map .agg
def abox (v : AV) (H : Hp) : Option (AV × Hp) := if v.cells.all AV.one = true then some (.ptr H.bs.length H.c 0, H.new v.cells) else none
theorem aidx26 (v i : AV) : aidx T 26 v i = aidxS 1 v i := by simp [aidx, D26, T22]
section
variable {E : Env} {sh : Bool} {s : Sl} {H : Hp}
@[simp] theorem xdo_build25 (x : Operand) : xdo E T sh (.build 25 #[(0, x)]) s H = (bld25 (ev s x)).map fun v => (v, H) := by
  simp only [xdo, aop, T25, bld25, Option.map_map]
  rfl
@[simp] theorem xdo_box (t : Nat) (x : Operand) : xdo E T sh (.box t x) s H = abox (ev s x) H := rfl
theorem xdo_bs22_1 (a : Int) : xdo E T sh (.buildSlice 22 1 #[(0, .const (.int .i64 a))]) s H = some (.sl H.bs.length H.c 0 1 1 true, H.new ([a].map (.int .i64))) := by
  simp [xdo, aop, D22, T3, rep, afill, setAll, AV.cells, AV.one]
theorem xdo_bs22_2 (a b : Int) : xdo E T sh (.buildSlice 22 2 #[(0, .const (.int .i64 a)), (1, .const (.int .i64 b))]) s H = some (.sl H.bs.length H.c 0 2 1 true, H.new ([a, b].map (.int .i64))) := by
  simp [xdo, aop, D22, T3, rep, afill, setAll, AV.cells, AV.one]
theorem xdo_bs22_3 (a b c : Int) : xdo E T sh (.buildSlice 22 3 #[(0, .const (.int .i64 a)), (1, .const (.int .i64 b)), (2, .const (.int .i64 c))]) s H = some (.sl H.bs.length H.c 0 3 1 true, H.new ([a, b, c].map (.int .i64))) := by
  simp [xdo, aop, D22, T3, rep, afill, setAll, AV.cells, AV.one]
theorem xdo_bs22_0 : xdo E T sh (.buildSlice 22 0 #[]) s H = some (.sl H.bs.length H.c 0 0 1 true, H.new []) := by
  simp [xdo, aop, D22, T3, rep, afill]
end
/-- Lists that stand in the text: the memory after them, and their values. -/
def litH (H : Hp) : List (List Int) → List AV × Hp
  | [] => ([], H)
  | l :: r => (.sl H.bs.length H.c 0 l.length 1 true :: (litH (H.new (l.map (.int .i64))) r).1, (litH (H.new (l.map (.int .i64))) r).2)
theorem litH_ext : ∀ (L : List (List Int)) {H : Hp}, Wf H → Ext H (litH H L).2 := by
  intro L
  induction L with
  | nil => intro H hw; exact Ext.refl hw
  | cons l L ih => intro H hw; exact ((Ext.refl hw).new _).trans (ih (hw.new _))
theorem F18_at {H : Hp} {b ver : Nat} {v sz : AV} {l z : List Int} {a n : Nat} (ht : Tape H b ver v l a) (hz : ints H sz = some z) (hn : n < 1048576) (hzl : z.length < 1048576) (ho : off sz b = true) :
    F18 [.ptr b ver 0, sz, .int .i64 n] H = some (mkF (tapePut H b ver v (specT l z.length n a (List.replicate z.length false)).2) (specT l z.length n a (List.replicate z.length false)).1) := by
  have c : 0 ≤ (n : Int) ∧ (n : Int) < 1048576 ∧ z.length < 1048576 ∧ off sz b = true := ⟨by omega, by omega, hzl, ho⟩
  show (ints H sz).bind _ = _
  rw [hz, Option.bind_some]
  rw [if_pos c, tapeF_at ht, Int.toNat_natCast]
theorem Pre.le {H H1 : Hp} (h : Pre H H1) : H.bs.length ≤ H1.bs.length := by
  rcases Nat.lt_or_ge H1.bs.length H.bs.length with hl | hl
  · have := h _ _ (List.getElem?_eq_getElem hl)
    have := (List.getElem?_eq_some_iff.1 this).1
    omega
  · exact hl
theorem Ext.tapeN {H X : Hp} {b ver : Nat} {v : AV} {l : List Int} {a a' : Nat} (h : Ext H X) (hb : H.bs.length ≤ b) (ht : Tape X b ver v l a) : Ext H (tapePut X b ver v a') := by
  refine ⟨?_, ht.wf h.wf, h.c⟩
  intro i k hi
  have hlt := (List.getElem?_eq_some_iff.1 hi).1
  simp only [tapePut, Hp.put]
  rw [List.getElem?_set_ne (by omega)]
  exact h.pre i k hi
theorem Own.off {H0 H1 : Hp} {b ver : Nat} {v u : AV} {l L : List Int} {a : Nat} (h : Tape H1 b ver v l a) (hver : ver < H0.c) (ho : Own H0 H1 u L) : off u b = true := by
  rcases ho with ⟨_, rfl⟩ | ⟨b2, ver2, rfl, h2, h3, hk⟩
  · rfl
  · have hne : b2 ≠ b := by
      intro e
      subst e
      obtain ⟨g1, g2⟩ := Hp.at_some hk
      obtain ⟨g3, g4⟩ := Hp.at_some h.at'
      rw [g1] at g3
      have e := congrArg Blk.ver (Option.some.inj g3)
      simp only at e
      omega
    simpa [Pq.off] using hne
theorem ints_cell {H : Hp} {v : AV} {l : List Int} (h : ints H v = some l) : bld25 v = some (.agg [v, .int .i64 0]) ∧ v.one = true ∧ off v H.bs.length = true := by
  unfold ints at h
  split at h
  · exact ⟨by simp [bld25, afill, setAll, AV.cells, AV.one, T22], rfl, rfl⟩
  · exact ⟨by simp [bld25, afill, setAll, AV.cells, AV.one, T22], rfl, rfl⟩
  · split at h
    · split at h
      · rename_i hk
        have := (List.getElem?_eq_some_iff.1 (Hp.at_some hk).1).1
        refine ⟨by simp [bld25, afill, setAll, AV.cells, AV.one, T22], rfl, ?_⟩
        simp [Pq.off]; omega
      · cases h
    · cases h
  · cases h
theorem shapeT_le (l : List Int) : ∀ n a, a ≤ l.length → (shapeT l n a).2 ≤ l.length := by
  intro n
  induction n with
  | zero => intro a h; exact h
  | succ n ih => intro a h; exact ih _ (nextAt_le h)
/- Functions in short form. -/
/-! parquetry/parquetryref1.Right (1 parameters; calls none) -/
def A101 : Ann := { live := fun i => if i = 3 then [0, 3, 4] else [], drop := fun i => false }
noncomputable def c101 : Cc :=
  (.seq (.reg false [⟨some 2, (Op.assign (Operand.const (Value.bool false))), none⟩])
  (.seq (.reg false [⟨some 3, (Op.assign (Operand.const (Value.int IntKind.i64 1))), none⟩])
  (.seq (.seq (.reg false [⟨some 4, (Op.assign (Operand.const (Value.int IntKind.i64 0))), none⟩])
  (.block 0 (.loop [0, 3, 4] false
    (.seq (.seq (.reg false [⟨some 5, (Op.move (Operand.tmp 4)), none⟩,
      ⟨some 6, (Op.move (Operand.tmp 0)), none⟩,
      ⟨some 7, (Op.call { callee := (Callee.builtin Builtin.len), args := #[(Operand.tmp 6)], argTypes := #[22] }), none⟩,
      ⟨some 8, (Op.binOp BinOp.lss 3 (Operand.tmp 5) (Operand.tmp 7) 3), none⟩])
    (.cond (Operand.tmp 8)
      .skip
      (.exit 0)))
    (.seq (.block 1 (.seq (.seq (.reg false [⟨some 11, (Op.move (Operand.tmp 0)), none⟩,
      ⟨some 12, (Op.move (Operand.tmp 4)), none⟩,
      ⟨some 13, (Op.indexAddr 22 (Operand.tmp 11) (Operand.tmp 12)), none⟩,
      ⟨some 14, (Op.load 3 (Operand.tmp 13)), none⟩,
      ⟨some 15, (Op.binOp BinOp.lss 3 (Operand.tmp 14) (Operand.const (Value.int IntKind.i64 0)) 3), none⟩,
      ⟨some 16, (Op.move (Operand.tmp 15)), none⟩,
      ⟨some 17, (Op.move (Operand.tmp 0)), some (16, false)⟩,
      ⟨some 18, (Op.move (Operand.tmp 4)), some (16, false)⟩,
      ⟨some 19, (Op.indexAddr 22 (Operand.tmp 17) (Operand.tmp 18)), some (16, false)⟩,
      ⟨some 20, (Op.load 3 (Operand.tmp 19)), some (16, false)⟩,
      ⟨some 21, (Op.binOp BinOp.gtr 3 (Operand.tmp 20) (Operand.const (Value.int IntKind.i64 32)) 3), some (16, false)⟩,
      ⟨some 22, (Op.pick (Operand.tmp 16) (Operand.const (Value.bool true)) (Operand.tmp 21)), none⟩,
      ⟨some 23, (Op.move (Operand.tmp 22)), none⟩,
      ⟨some 24, (Op.move (Operand.tmp 4)), some (23, false)⟩,
      ⟨some 25, (Op.binOp BinOp.geq 3 (Operand.tmp 24) (Operand.const (Value.int IntKind.i64 4)) 3), some (23, false)⟩,
      ⟨some 26, (Op.pick (Operand.tmp 23) (Operand.const (Value.bool true)) (Operand.tmp 25)), none⟩])
    (.cond (Operand.tmp 26)
      (.seq (.reg false [⟨some 2, (Op.assign (Operand.const (Value.bool false))), none⟩])
      .ret)
      .skip))
    (.reg false [⟨some 27, (Op.move (Operand.tmp 3)), none⟩,
      ⟨some 28, (Op.move (Operand.tmp 0)), none⟩,
      ⟨some 29, (Op.move (Operand.tmp 4)), none⟩,
      ⟨some 30, (Op.indexAddr 22 (Operand.tmp 28) (Operand.tmp 29)), none⟩,
      ⟨some 31, (Op.load 3 (Operand.tmp 30)), none⟩,
      ⟨some 32, (Op.binOp BinOp.mul 3 (Operand.tmp 27) (Operand.tmp 31) 3), none⟩,
      ⟨some 3, (Op.assign (Operand.tmp 32)), none⟩])))
    (.reg false [⟨some 9, (Op.move (Operand.tmp 4)), none⟩,
      ⟨some 10, (Op.binOp BinOp.add 3 (Operand.tmp 9) (Operand.const (Value.int IntKind.i64 1)) 3), none⟩,
      ⟨some 4, (Op.assign (Operand.tmp 10)), none⟩]))))))
  (.seq (.reg false [⟨some 33, (Op.move (Operand.tmp 3)), none⟩,
    ⟨some 34, (Op.binOp BinOp.leq 3 (Operand.tmp 33) (Operand.const (Value.int IntKind.i64 4096)) 3), none⟩,
    ⟨some 2, (Op.assign (Operand.tmp 34)), none⟩])
  .ret))))
noncomputable def b101 : Code := Try.f101.body.getD .skip
theorem hb101 : Try.f101.body = some b101 := by kernel_rfl
theorem sh101 : shortC A101 b101 = c101 := by kernel_rfl
def rs101 : List ResultVar := [(ResultVar.tmp 2)]
theorem hr101 : Try.f101.results.toList = rs101 := by kernel_rfl
/-! parquetry/parquetryref1.Size (1 parameters; calls 101 parquetry/parquetryref1.Right) -/
def A100 : Ann := { live := fun i => if i = 5 then [0, 3, 4] else [], drop := fun i => false }
noncomputable def c100 : Cc :=
  (.seq (.reg false [⟨some 2, (Op.assign (Operand.const (Value.int IntKind.i64 0))), none⟩])
  (.seq (.seq (.reg false [⟨some 5, (Op.move (Operand.tmp 0)), none⟩,
    ⟨some 6, (Op.call { callee := (Callee.value (Operand.func 101)), args := #[(Operand.tmp 5)], argTypes := #[22] }), none⟩,
    ⟨some 7, (Op.unOp UnOp.not 4 (Operand.tmp 6)), none⟩])
  (.cond (Operand.tmp 7)
    (.seq (.reg false [⟨some 2, (Op.assign (Operand.const (Value.int IntKind.i64 0))), none⟩])
    .ret)
    .skip))
  (.seq (.reg false [⟨some 3, (Op.assign (Operand.const (Value.int IntKind.i64 1))), none⟩])
  (.seq (.seq (.reg false [⟨some 4, (Op.assign (Operand.const (Value.int IntKind.i64 0))), none⟩])
  (.block 0 (.loop [0, 3, 4] false
    (.seq (.seq (.reg false [⟨some 8, (Op.move (Operand.tmp 4)), none⟩,
      ⟨some 9, (Op.move (Operand.tmp 0)), none⟩,
      ⟨some 10, (Op.call { callee := (Callee.builtin Builtin.len), args := #[(Operand.tmp 9)], argTypes := #[22] }), none⟩,
      ⟨some 11, (Op.binOp BinOp.lss 3 (Operand.tmp 8) (Operand.tmp 10) 3), none⟩])
    (.cond (Operand.tmp 11)
      .skip
      (.exit 0)))
    (.seq (.block 1 (.reg false [⟨some 14, (Op.move (Operand.tmp 3)), none⟩,
      ⟨some 15, (Op.move (Operand.tmp 0)), none⟩,
      ⟨some 16, (Op.move (Operand.tmp 4)), none⟩,
      ⟨some 17, (Op.indexAddr 22 (Operand.tmp 15) (Operand.tmp 16)), none⟩,
      ⟨some 18, (Op.load 3 (Operand.tmp 17)), none⟩,
      ⟨some 19, (Op.binOp BinOp.mul 3 (Operand.tmp 14) (Operand.tmp 18) 3), none⟩,
      ⟨some 3, (Op.assign (Operand.tmp 19)), none⟩]))
    (.reg false [⟨some 12, (Op.move (Operand.tmp 4)), none⟩,
      ⟨some 13, (Op.binOp BinOp.add 3 (Operand.tmp 12) (Operand.const (Value.int IntKind.i64 1)) 3), none⟩,
      ⟨some 4, (Op.assign (Operand.tmp 13)), none⟩]))))))
  (.seq (.reg false [⟨some 20, (Op.move (Operand.tmp 3)), none⟩,
    ⟨some 2, (Op.assign (Operand.tmp 20)), none⟩])
  .ret)))))
noncomputable def b100 : Code := Try.f100.body.getD .skip
theorem hb100 : Try.f100.body = some b100 := by kernel_rfl
theorem sh100 : shortC A100 b100 = c100 := by kernel_rfl
def rs100 : List ResultVar := [(ResultVar.tmp 2)]
theorem hr100 : Try.f100.results.toList = rs100 := by kernel_rfl
/-! parquetry/parquetryref1.Fill (2 parameters; calls 100 parquetry/parquetryref1.Size) -/
def A70 : Ann := { live := fun i => if i = 3 then [0, 1, 4, 5, 6] else [], drop := fun i => false }
noncomputable def c70 : Cc :=
  (.seq (.reg false [⟨some 4, (Op.alloc 40), none⟩])
  (.seq (.reg false [⟨some 7, (Op.buildSlice 22 0 #[]), none⟩,
    ⟨some 8, (Op.move (Operand.tmp 0)), none⟩,
    ⟨some 9, (Op.call { callee := (Callee.builtin Builtin.append), args := #[(Operand.tmp 7), (Operand.tmp 8)], argTypes := #[22, 22] }), none⟩,
    ⟨some 10, (Op.build 40 #[(0, (Operand.tmp 9))]), none⟩,
    ⟨some 5, (Op.alloc 40), none⟩,
    ⟨none, (Op.store 40 (Operand.tmp 5) (Operand.tmp 10)), none⟩])
  (.seq (.seq (.reg false [⟨some 6, (Op.assign (Operand.const (Value.int IntKind.i64 0))), none⟩])
  (.block 0 (.loop [0, 1, 4, 5, 6] false
    (.seq (.seq (.reg false [⟨some 11, (Op.move (Operand.tmp 6)), none⟩,
      ⟨some 12, (Op.move (Operand.tmp 0)), none⟩,
      ⟨some 13, (Op.call { callee := (Callee.value (Operand.func 100)), args := #[(Operand.tmp 12)], argTypes := #[22] }), none⟩,
      ⟨some 14, (Op.binOp BinOp.lss 3 (Operand.tmp 11) (Operand.tmp 13) 3), none⟩])
    (.cond (Operand.tmp 14)
      .skip
      (.exit 0)))
    (.seq (.block 1 (.reg false [⟨some 17, (Op.fieldAddr 40 (Operand.tmp 5) 1), none⟩,
      ⟨some 18, (Op.load 38 (Operand.tmp 17)), none⟩,
      ⟨some 19, (Op.move (Operand.tmp 1)), none⟩,
      ⟨some 20, (Op.buildSlice 38 1 #[(0, (Operand.tmp 19))]), none⟩,
      ⟨some 21, (Op.call { callee := (Callee.builtin Builtin.append), args := #[(Operand.tmp 18), (Operand.tmp 20)], argTypes := #[38, 38] }), none⟩,
      ⟨some 22, (Op.fieldAddr 40 (Operand.tmp 5) 1), none⟩,
      ⟨none, (Op.store 38 (Operand.tmp 22) (Operand.tmp 21)), none⟩]))
    (.reg false [⟨some 15, (Op.move (Operand.tmp 6)), none⟩,
      ⟨some 16, (Op.binOp BinOp.add 3 (Operand.tmp 15) (Operand.const (Value.int IntKind.i64 1)) 3), none⟩,
      ⟨some 6, (Op.assign (Operand.tmp 16)), none⟩]))))))
  (.seq (.reg false [⟨some 23, (Op.load 40 (Operand.tmp 5)), none⟩,
    ⟨none, (Op.store 40 (Operand.tmp 4) (Operand.tmp 23)), none⟩])
  .ret))))
noncomputable def b70 : Code := Try.f70.body.getD .skip
theorem hb70 : Try.f70.body = some b70 := by kernel_rfl
theorem sh70 : shortC A70 b70 = c70 := by kernel_rfl
def rs70 : List ResultVar := [(ResultVar.cell 4 40)]
theorem hr70 : Try.f70.results.toList = rs70 := by kernel_rfl
/-! (*parquetry/parquetrykeep.Tape).Number (1 parameters; calls 16 (*parquetry/parquetrykeep.Tape).Next) -/
def A133 : Ann := { drop := fun i => false }
noncomputable def c133 : Cc :=
  (.seq (.reg false [⟨some 2, (Op.assign (Operand.const (Value.int IntKind.i64 0))), none⟩])
  (.seq (.seq (.reg false [⟨some 3, (Op.move (Operand.tmp 0)), none⟩,
    ⟨some 4, (Op.call { callee := (Callee.value (Operand.func 16)), args := #[(Operand.tmp 3), (Operand.const (Value.int IntKind.i64 9))], argTypes := #[23, 3] }), none⟩])
  (.block 0 (.seq (.reg false [⟨some 6, (Op.binOp BinOp.eql 3 (Operand.tmp 4) (Operand.const (Value.int IntKind.i64 0)) 3), none⟩,
    ⟨some 5, (Op.assign (Operand.tmp 6)), none⟩])
  (.cond (Operand.tmp 5)
    (.seq (.reg false [⟨some 7, (Op.buildSlice 38 6 #[(0, (Operand.const (Value.int IntKind.i64 9223372036854775807))), (1, (Operand.const (Value.int IntKind.i64 (-9223372036854775808)))), (2, (Operand.const (Value.int IntKind.i64 4611686018427387904))), (3, (Operand.const (Value.int IntKind.i64 (-1099511627776)))), (4, (Operand.const (Value.int IntKind.i64 8589934592))), (5, (Operand.const (Value.int IntKind.i64 3037000500)))]), none⟩,
      ⟨some 8, (Op.move (Operand.tmp 0)), none⟩,
      ⟨some 9, (Op.call { callee := (Callee.value (Operand.func 16)), args := #[(Operand.tmp 8), (Operand.const (Value.int IntKind.i64 6))], argTypes := #[23, 3] }), none⟩,
      ⟨some 10, (Op.indexAddr 38 (Operand.tmp 7) (Operand.tmp 9)), none⟩,
      ⟨some 11, (Op.load 2 (Operand.tmp 10)), none⟩,
      ⟨some 2, (Op.assign (Operand.tmp 11)), none⟩])
    .ret)
    (.seq (.reg false [⟨some 13, (Op.binOp BinOp.eql 3 (Operand.tmp 4) (Operand.const (Value.int IntKind.i64 1)) 3), none⟩,
      ⟨some 12, (Op.assign (Operand.tmp 13)), none⟩])
    (.cond (Operand.tmp 12)
      (.seq (.reg false [⟨some 2, (Op.assign (Operand.const (Value.int IntKind.i64 0))), none⟩])
      .ret)
      .skip))))))
  (.seq (.reg false [⟨some 14, (Op.move (Operand.tmp 0)), none⟩,
    ⟨some 15, (Op.call { callee := (Callee.value (Operand.func 16)), args := #[(Operand.tmp 14), (Operand.const (Value.int IntKind.i64 19))], argTypes := #[23, 3] }), none⟩,
    ⟨some 16, (Op.binOp BinOp.sub 2 (Operand.tmp 15) (Operand.const (Value.int IntKind.i64 9)) 2), none⟩,
    ⟨some 2, (Op.assign (Operand.tmp 16)), none⟩])
  .ret)))
noncomputable def b133 : Code := Try.f133.body.getD .skip
theorem hb133 : Try.f133.body = some b133 := by kernel_rfl
theorem sh133 : shortC A133 b133 = c133 := by kernel_rfl
def rs133 : List ResultVar := [(ResultVar.tmp 2)]
theorem hr133 : Try.f133.results.toList = rs133 := by kernel_rfl
/-! (*parquetry/parquetrykeep.Tape).Tensor (2 parameters; calls 70 parquetry/parquetryref1.Fill, 133 (*parquetry/parquetrykeep.Tape).Number) -/
def A80 : Ann := { recs := fun i => if i = 5 then [(0, 5), (1, 5), (2, 5)] else [], live := fun i => if i = 3 then [0, 4, 5, 11, 12] else [], drop := fun i => false }
noncomputable def c80 : Cc :=
  (.seq (.reg false [⟨some 4, (Op.alloc 40), none⟩])
  (.seq (.reg false [⟨some 7, (Op.move (Operand.tmp 1)), none⟩,
    ⟨some 8, (Op.call { callee := (Callee.value (Operand.func 70)), args := #[(Operand.tmp 7), (Operand.const (Value.int IntKind.i64 0))], argTypes := #[22, 2] }), none⟩,
    ⟨some 5, (Op.alloc 40), none⟩,
    ⟨none, (Op.store 40 (Operand.tmp 5) (Operand.tmp 8)), none⟩])
  (.seq (.seq (.reg false [⟨some 9, (Op.fieldAddr 40 (Operand.tmp 5) 1), none⟩,
    ⟨some 10, (Op.load 38 (Operand.tmp 9)), none⟩,
    ⟨some 11, (Op.call { callee := (Callee.builtin Builtin.len), args := #[(Operand.tmp 10)], argTypes := #[38] }), none⟩,
    ⟨some 12, (Op.move (Operand.const (Value.int IntKind.i64 0))), none⟩])
  (.block 0 (.loop [0, 4, 5, 11, 12] false
    (.seq (.reg false [⟨some 13, (Op.binOp BinOp.lss 3 (Operand.tmp 12) (Operand.tmp 11) 3), none⟩])
    (.seq (.cond (Operand.tmp 13)
      .skip
      (.exit 0))
    (.seq (.block 1 (.seq (.reg false [⟨some 14, (Op.move (Operand.tmp 12)), none⟩,
      ⟨some 6, (Op.assign (Operand.tmp 14)), none⟩])
    (.drw false [⟨some 15, (Op.fieldAddr 40 (Operand.tmp 5) 1), none⟩,
      ⟨some 16, (Op.load 38 (Operand.tmp 15)), none⟩,
      ⟨some 17, (Op.move (Operand.tmp 6)), none⟩,
      ⟨some 18, (Op.move (Operand.tmp 0)), none⟩,
      ⟨some 19, (Op.call { callee := (Callee.value (Operand.func 133)), args := #[(Operand.tmp 18)], argTypes := #[23] }), none⟩,
      ⟨some 20, (Op.indexAddr 38 (Operand.tmp 16) (Operand.tmp 17)), none⟩,
      ⟨none, (Op.store 2 (Operand.tmp 20) (Operand.tmp 19)), none⟩] [(1, 5)])))
    (.reg false [⟨some 21, (Op.binOp BinOp.add 3 (Operand.tmp 12) (Operand.const (Value.int IntKind.i64 1)) 3), none⟩,
      ⟨some 12, (Op.move (Operand.tmp 21)), none⟩])))))))
  (.seq (.reg false [⟨some 22, (Op.load 40 (Operand.tmp 5)), none⟩,
    ⟨none, (Op.store 40 (Operand.tmp 4) (Operand.tmp 22)), none⟩])
  .ret))))
noncomputable def b80 : Code := Try.f80.body.getD .skip
theorem hb80 : Try.f80.body = some b80 := by kernel_rfl
theorem sh80 : shortC A80 b80 = c80 := by kernel_rfl
def rs80 : List ResultVar := [(ResultVar.cell 4 40)]
theorem hr80 : Try.f80.results.toList = rs80 := by kernel_rfl
/-! parquetry/shape.Size (1 parameters; calls 90 parquetry/shape.Right) -/
/-! parquetry/tensor.Right (1 parameters; calls 90 parquetry/shape.Right, 136 parquetry/shape.Size) -/
/-! parquetry/shape.Place (2 parameters; calls 136 parquetry/shape.Size) -/
/-! slices.Clone[[]int,int] (1 parameters; calls none) -/
/-! parquetry/tensor.Fill$1 (1 parameters; calls none) -/
/-! parquetry/tensor.Made (2 parameters; calls 95 parquetry/shape.Place, 103 slices.Clone[[]int,int], 136 parquetry/shape.Size) -/
/-! parquetry/tensor.Fill (2 parameters; calls 90 parquetry/shape.Right, 138 parquetry/tensor.Made) -/
/- What a function hands back, as a tree: its blocks in a fixed order. -/
/-- A value that a function hands back: what was, or what is new. -/
inductive Tr where
  | at (a : AV)
  | sl (n es : Nat) (full : Bool) (cs : List Tr)
  | bx (cs : List Tr)
  | agg (cs : List Tr)
  | tup (cs : List Tr)
/-- A value without address, or of a time that was. -/
def old (c : Nat) : AV → Bool
  | .sl _ ver _ _ _ _ => decide (ver < c)
  | .ptr _ ver _ => decide (ver < c)
  | .agg _ | .tup _ | .func .. | .bad => false
  | _ => true
theorem old_rel {L c : Nat} {js : List (Nat × Nat)} {a : AV} (h : old c a = true) : a.rel L c js = a ∧ a ≠ .bad := by
  cases a <;> first
    | (simp only [old, Bool.false_eq_true] at h; done)
    | exact ⟨rfl, fun e => by cases e⟩
    | (simp only [old, decide_eq_true_eq] at h; exact ⟨by simp only [AV.rel, relR]; rw [if_pos h], fun e => by cases e⟩)
theorem old_mono {c c' : Nat} {a : AV} (h : old c a = true) (hc : c ≤ c') : old c' a = true := by
  cases a <;> first | exact h | (simp only [old, decide_eq_true_eq] at h ⊢; omega)
mutual
def mk : Tr → Hp → AV × Hp
  | .at a, H => (a, H)
  | .sl n es full cs, H => (.sl (mks cs H).2.bs.length (mks cs H).2.c 0 n es full, (mks cs H).2.new (mks cs H).1)
  | .bx cs, H => (.ptr (mks cs H).2.bs.length (mks cs H).2.c 0, (mks cs H).2.new (mks cs H).1)
  | .agg cs, H => (.agg (mks cs H).1, (mks cs H).2)
  | .tup cs, H => (.tup (mks cs H).1, (mks cs H).2)
def mks : List Tr → Hp → List AV × Hp
  | [], H => ([], H)
  | t :: l, H => ((mk t H).1 :: (mks l (mk t H).2).1, (mks l (mk t H).2).2)
end
mutual
/-- The value stands for the tree; its blocks, since time c, in order. -/
def Rep (c : Nat) (H : Hp) : Tr → AV → List (Nat × Nat) → Prop
  | .at a, v, bs => v = a ∧ bs = [] ∧ old c a = true
  | .sl n es full cs, v, bs => ∃ b ver vs bs', v = .sl b ver 0 n es full ∧ c ≤ ver ∧ H.at b ver = some ⟨ver, vs, true, true⟩ ∧ Reps c H cs vs bs' ∧ bs = bs' ++ [(b, ver)]
  | .bx cs, v, bs => ∃ b ver vs bs', v = .ptr b ver 0 ∧ c ≤ ver ∧ H.at b ver = some ⟨ver, vs, true, true⟩ ∧ Reps c H cs vs bs' ∧ bs = bs' ++ [(b, ver)]
  | .agg cs, v, bs => ∃ vs, v = .agg vs ∧ Reps c H cs vs bs
  | .tup cs, v, bs => ∃ vs, v = .tup vs ∧ Reps c H cs vs bs
def Reps (c : Nat) (H : Hp) : List Tr → List AV → List (Nat × Nat) → Prop
  | [], vs, bs => vs = [] ∧ bs = []
  | t :: l, vs, bs => ∃ v vs' b1 b2, vs = v :: vs' ∧ Rep c H t v b1 ∧ Reps c H l vs' b2 ∧ bs = b1 ++ b2
end
mutual
theorem Rep.mono {c c' : Nat} {H H' : Hp} (hc : c' ≤ c) (ho : ∀ a, old c a = true → old c' a = true ∨ False) (hp : Pre H H') : ∀ (t : Tr) {v : AV} {bs : List (Nat × Nat)}, Rep c H t v bs → Rep c' H' t v bs
  | .at a, v, bs, h => by
    simp only [Rep] at h ⊢
    exact ⟨h.1, h.2.1, (ho a h.2.2).elim id False.elim⟩
  | .sl n es full cs, v, bs, h => by
    simp only [Rep] at h ⊢
    obtain ⟨b, ver, vs, bs', e1, e2, e3, e4, e5⟩ := h
    exact ⟨b, ver, vs, bs', e1, Nat.le_trans hc e2, hp.at e3, Reps.mono hc ho hp cs e4, e5⟩
  | .bx cs, v, bs, h => by
    simp only [Rep] at h ⊢
    obtain ⟨b, ver, vs, bs', e1, e2, e3, e4, e5⟩ := h
    exact ⟨b, ver, vs, bs', e1, Nat.le_trans hc e2, hp.at e3, Reps.mono hc ho hp cs e4, e5⟩
  | .agg cs, v, bs, h => by
    simp only [Rep] at h ⊢
    obtain ⟨vs, e1, e2⟩ := h
    exact ⟨vs, e1, Reps.mono hc ho hp cs e2⟩
  | .tup cs, v, bs, h => by
    simp only [Rep] at h ⊢
    obtain ⟨vs, e1, e2⟩ := h
    exact ⟨vs, e1, Reps.mono hc ho hp cs e2⟩
theorem Reps.mono {c c' : Nat} {H H' : Hp} (hc : c' ≤ c) (ho : ∀ a, old c a = true → old c' a = true ∨ False) (hp : Pre H H') : ∀ (l : List Tr) {vs : List AV} {bs : List (Nat × Nat)}, Reps c H l vs bs → Reps c' H' l vs bs
  | [], vs, bs, h => by simpa only [Reps] using h
  | t :: l, vs, bs, h => by
    simp only [Reps] at h ⊢
    obtain ⟨v, vs', b1, b2, e1, e2, e3, e4⟩ := h
    exact ⟨v, vs', b1, b2, e1, Rep.mono hc ho hp t e2, Reps.mono hc ho hp l e3, e4⟩
end
theorem Rep.ext {c : Nat} {H H' : Hp} (hp : Pre H H') {t : Tr} {v : AV} {bs : List (Nat × Nat)} (h : Rep c H t v bs) : Rep c H' t v bs := h.mono (Nat.le_refl _) (fun _ h => .inl h) hp
theorem Reps.ext {c : Nat} {H H' : Hp} (hp : Pre H H') {l : List Tr} {vs : List AV} {bs : List (Nat × Nat)} (h : Reps c H l vs bs) : Reps c H' l vs bs := h.mono (Nat.le_refl _) (fun _ h => .inl h) hp
/-! ### what is handed back is named anew -/
def cellsAt (H : Hp) (p : Nat × Nat) : List AV := match H.at p.1 p.2 with | some k => k.cells | none => []
def nb (L c : Nat) (js : List (Nat × Nat)) (H : Hp) : Nat → List (Nat × Nat) → List Blk
  | _, [] => []
  | i, p :: l => ⟨c + i, rels L c js (cellsAt H p), true, true⟩ :: nb L c js H (i + 1) l
theorem nb_len (L c : Nat) (js : List (Nat × Nat)) (H : Hp) : ∀ (l : List (Nat × Nat)) (i : Nat), (nb L c js H i l).length = l.length := by
  intro l
  induction l with
  | nil => intro i; rfl
  | cons p l ih => intro i; simp [nb, ih]
theorem nb_app (L c : Nat) (js : List (Nat × Nat)) (H : Hp) : ∀ (l m : List (Nat × Nat)) (i : Nat), nb L c js H i (l ++ m) = nb L c js H i l ++ nb L c js H (i + l.length) m := by
  intro l
  induction l with
  | nil => intro m i; simp [nb]
  | cons p l ih => intro m i; simp [nb, ih, Nat.add_assoc, Nat.add_comm 1]
theorem nb_at (L c : Nat) (js : List (Nat × Nat)) (H : Hp) : ∀ (l : List (Nat × Nat)) (i j : Nat) (p : Nat × Nat), l[j]? = some p → (nb L c js H i l)[j]? = some ⟨c + i + j, rels L c js (cellsAt H p), true, true⟩ := by
  intro l
  induction l with
  | nil => intro i j p h; simp at h
  | cons q l ih =>
    intro i j p h
    cases j with
    | zero => simp at h; subst h; simp [nb]
    | succ j =>
      have := ih (i + 1) j p (by simpa using h)
      simp only [nb, List.getElem?_cons_succ, this]
      congr 2; omega
theorem pos_of : ∀ (js : List (Nat × Nat)) (i k : Nat) (b ver : Nat), js[i]? = some (b, ver) → js.Nodup → pos js k b ver = some (k + i) := by
  intro js
  induction js with
  | nil => intro i k b ver h; simp at h
  | cons p l ih =>
    intro i k b ver h hn
    rw [List.nodup_cons] at hn
    cases i with
    | zero => simp at h; subst h; simp [pos]
    | succ i =>
      have h' : l[i]? = some (b, ver) := by simpa using h
      have hne : ¬ (b = p.1 ∧ ver = p.2) := by
        rintro ⟨rfl, rfl⟩
        exact hn.1 (List.mem_of_getElem? h')
      simp only [pos]
      rw [if_neg hne, ih i (k + 1) b ver h' hn.2]
      congr 1; omega
section
variable {L c : Nat} {H : Hp} {js : List (Nat × Nat)} (hn : js.Nodup)
include hn
mutual
theorem rep_mk : ∀ (t : Tr) {v : AV} {bs : List (Nat × Nat)} (p q : List (Nat × Nat)) (HP : Hp), js = p ++ bs ++ q → HP.bs.length = L + p.length → HP.c = c + p.length → Rep c H t v bs →
    (mk t HP).1 = v.rel L c js ∧ (mk t HP).1 ≠ .bad ∧ (mk t HP).2 = ⟨HP.bs ++ nb L c js H p.length bs, HP.c + bs.length⟩ ∧ (∀ k ∈ nb L c js H p.length bs, .bad ∉ k.cells) ∧ ∀ x ∈ bs, c ≤ x.2 ∧ ∃ cs, H.at x.1 x.2 = some ⟨x.2, cs, true, true⟩
  | .at a, v, bs, p, q, HP, hj, h1, h2, h => by
    simp only [Rep] at h
    obtain ⟨rfl, rfl, ho⟩ := h
    obtain ⟨e1, e2⟩ := old_rel (L := L) (c := c) (js := js) ho
    simp only [mk]
    exact ⟨e1.symm, e2, by simp [nb], by simp [nb], by simp⟩
  | .agg cs, v, bs, p, q, HP, hj, h1, h2, h => by
    simp only [Rep] at h
    obtain ⟨vs, rfl, hc⟩ := h
    obtain ⟨e1, e2, e3, e4, e5⟩ := reps_mk cs p q HP hj h1 h2 hc
    simp only [mk, AV.rel]
    exact ⟨by rw [e1], fun e => (by cases e), e3, e4, e5⟩
  | .tup cs, v, bs, p, q, HP, hj, h1, h2, h => by
    simp only [Rep] at h
    obtain ⟨vs, rfl, hc⟩ := h
    obtain ⟨e1, e2, e3, e4, e5⟩ := reps_mk cs p q HP hj h1 h2 hc
    simp only [mk, AV.rel]
    exact ⟨by rw [e1], fun e => (by cases e), e3, e4, e5⟩
  | .sl n es full cs, v, bs, p, q, HP, hj, h1, h2, h => by
    simp only [Rep] at h
    obtain ⟨b, ver, vs, bs', rfl, hv, hk, hc, rfl⟩ := h
    have hj' : js = p ++ bs' ++ ((b, ver) :: q) := by rw [hj]; simp
    obtain ⟨e1, e2, e3, e4, e5⟩ := reps_mk cs p ((b, ver) :: q) HP hj' h1 h2 hc
    have hi : js[p.length + bs'.length]? = some (b, ver) := by rw [hj']; simp
    have hr : relR L c js b ver = some (L + (p.length + bs'.length), c + (p.length + bs'.length)) := by
      unfold relR
      rw [if_neg (Nat.not_lt.2 hv), pos_of js _ 0 b ver hi hn]
      simp
    have hce : cellsAt H (b, ver) = vs := by simp [cellsAt, hk]
    simp only [mk, AV.rel, hr, e3]
    refine ⟨?_, fun e => (by cases e), ?_, ?_, ?_⟩
    · simp only [List.length_append, nb_len, h1, h2, Nat.add_assoc]
    · simp only [Hp.new, nb_app, nb, hce, e1, List.append_assoc, List.length_append, List.length_singleton, h2, Nat.add_assoc]
    · intro k hk'
      rw [nb_app] at hk'
      rcases List.mem_append.1 hk' with hk' | hk'
      · exact e4 k hk'
      · simp only [nb, List.mem_singleton] at hk'
        subst hk'
        simp only [hce]
        rw [← e1]; exact e2
    · intro x hx
      rcases List.mem_append.1 hx with hx | hx
      · exact e5 x hx
      · simp at hx; subst hx; exact ⟨hv, vs, hk⟩
  | .bx cs, v, bs, p, q, HP, hj, h1, h2, h => by
    simp only [Rep] at h
    obtain ⟨b, ver, vs, bs', rfl, hv, hk, hc, rfl⟩ := h
    have hj' : js = p ++ bs' ++ ((b, ver) :: q) := by rw [hj]; simp
    obtain ⟨e1, e2, e3, e4, e5⟩ := reps_mk cs p ((b, ver) :: q) HP hj' h1 h2 hc
    have hi : js[p.length + bs'.length]? = some (b, ver) := by rw [hj']; simp
    have hr : relR L c js b ver = some (L + (p.length + bs'.length), c + (p.length + bs'.length)) := by
      unfold relR
      rw [if_neg (Nat.not_lt.2 hv), pos_of js _ 0 b ver hi hn]
      simp
    have hce : cellsAt H (b, ver) = vs := by simp [cellsAt, hk]
    simp only [mk, AV.rel, hr, e3]
    refine ⟨?_, fun e => (by cases e), ?_, ?_, ?_⟩
    · simp only [List.length_append, nb_len, h1, h2, Nat.add_assoc]
    · simp only [Hp.new, nb_app, nb, hce, e1, List.append_assoc, List.length_append, List.length_singleton, h2, Nat.add_assoc]
    · intro k hk'
      rw [nb_app] at hk'
      rcases List.mem_append.1 hk' with hk' | hk'
      · exact e4 k hk'
      · simp only [nb, List.mem_singleton] at hk'
        subst hk'
        simp only [hce]
        rw [← e1]; exact e2
    · intro x hx
      rcases List.mem_append.1 hx with hx | hx
      · exact e5 x hx
      · simp at hx; subst hx; exact ⟨hv, vs, hk⟩
theorem reps_mk : ∀ (l : List Tr) {vs : List AV} {bs : List (Nat × Nat)} (p q : List (Nat × Nat)) (HP : Hp), js = p ++ bs ++ q → HP.bs.length = L + p.length → HP.c = c + p.length → Reps c H l vs bs →
    (mks l HP).1 = rels L c js vs ∧ .bad ∉ (mks l HP).1 ∧ (mks l HP).2 = ⟨HP.bs ++ nb L c js H p.length bs, HP.c + bs.length⟩ ∧ (∀ k ∈ nb L c js H p.length bs, .bad ∉ k.cells) ∧ ∀ x ∈ bs, c ≤ x.2 ∧ ∃ cs, H.at x.1 x.2 = some ⟨x.2, cs, true, true⟩
  | [], vs, bs, p, q, HP, hj, h1, h2, h => by
    simp only [Reps] at h
    obtain ⟨rfl, rfl⟩ := h
    simp [mks, rels, nb]
  | t :: l, vs, bs, p, q, HP, hj, h1, h2, h => by
    simp only [Reps] at h
    obtain ⟨v, vs', b1, b2, rfl, ht, hl, rfl⟩ := h
    obtain ⟨e1, e2, e3, e4, e5⟩ := rep_mk t p (b2 ++ q) HP (by rw [hj]; simp) h1 h2 ht
    obtain ⟨f1, f2, f3, f4, f5⟩ := reps_mk l (p ++ b1) q (mk t HP).2 (by rw [hj]; simp) (by rw [e3]; simp [nb_len, h1]; omega) (by rw [e3]; simp [h2]; omega) hl
    simp only [mks, rels]
    refine ⟨by rw [e1, f1], ?_, ?_, ?_, ?_⟩
    · intro hm
      rcases List.mem_cons.1 hm with hm | hm
      · exact e2 hm.symm
      · exact f2 hm
    · rw [f3, e3, nb_app]
      simp [Nat.add_assoc]
    · intro k hk
      rw [nb_app] at hk
      rcases List.mem_append.1 hk with hk | hk
      · exact e4 k hk
      · exact f4 k (by simpa using hk)
    · intro x hx
      rcases List.mem_append.1 hx with hx | hx
      · exact e5 x hx
      · exact f5 x hx
end
end
theorem can_rep {H0 H : Hp} (hw : Wf H0) (hp : Pre H0 H) {t : Tr} {v : AV} {bs : List (Nat × Nat)} (h : Rep H0.c H t v bs) (hn : bs.Nodup) : Can H0 H (mk t H0).2 v (mk t H0).1 bs := by
  obtain ⟨e1, e2, e3, e4, e5⟩ := rep_mk (L := H0.bs.length) (c := H0.c) (H := H) hn t [] [] H0 (by simp) (by simp) (by simp) h
  rw [e3]
  refine ⟨by simp, by simp [nb_len], fun b hb => ?_, fun i j ver hi => ?_, hn, fun i k hk => ?_, e1.symm⟩
  · have h1 : H0.bs[b]? = some H0.bs[b] := List.getElem?_eq_getElem hb
    exact ⟨H0.bs[b], hp b _ h1, hw b _ h1, by simp [List.getElem?_append_left hb, h1], .inl h1⟩
  · obtain ⟨g1, cs, g2⟩ := e5 _ (List.mem_of_getElem? hi)
    obtain ⟨g3, g4⟩ := Hp.at_some g2
    refine ⟨g1, _, g3, rfl, ?_⟩
    simp only
    rw [List.getElem?_append_right (by omega), Nat.add_sub_cancel_left]
    have := nb_at H0.bs.length H0.c bs H bs 0 i (j, ver) hi
    simp only [cellsAt, g2, Nat.add_zero] at this
    exact this
  · simp only at hk
    rw [List.getElem?_append_right (by omega)] at hk
    exact e4 k (List.mem_of_getElem? hk)
/-! ### what a call has handed back -/
mutual
def okT (c : Nat) : Tr → Bool
  | .at a => old c a
  | .sl _ _ _ cs => okTs c cs
  | .bx cs => okTs c cs
  | .agg cs => okTs c cs
  | .tup cs => okTs c cs
def okTs (c : Nat) : List Tr → Bool
  | [] => true
  | t :: l => okT c t && okTs c l
end
/-- New blocks in order: of a time from c on, before d. -/
def Fresh (c d : Nat) (bs : List (Nat × Nat)) : Prop := bs.Nodup ∧ ∀ p ∈ bs, c ≤ p.2 ∧ p.2 < d
theorem Fresh.nil (c d : Nat) : Fresh c d [] := ⟨List.nodup_nil, by simp⟩
theorem Fresh.app {c d e : Nat} {a b : List (Nat × Nat)} (h : Fresh c d a) (k : Fresh d e b) (hcd : c ≤ d) (hde : d ≤ e) : Fresh c e (a ++ b) := by
  refine ⟨List.nodup_append.2 ⟨h.1, k.1, ?_⟩, ?_⟩
  · intro x hx y hy hxy
    subst hxy
    have := (h.2 x hx).2
    have := (k.2 x hy).1
    omega
  · intro p hp
    rcases List.mem_append.1 hp with hp | hp
    · have := h.2 p hp; omega
    · have := k.2 p hp; omega
theorem Fresh.one {c d b ver : Nat} (h1 : c ≤ ver) (h2 : ver < d) : Fresh c d [(b, ver)] := ⟨by simp, by simp; omega⟩
theorem Fresh.wide {c d c' d' : Nat} {bs : List (Nat × Nat)} (h : Fresh c d bs) (h1 : c' ≤ c) (h2 : d ≤ d') : Fresh c' d' bs := ⟨h.1, fun p hp => by have := h.2 p hp; omega⟩
mutual
theorem mk_rep : ∀ (t : Tr) {c0 : Nat} {H : Hp}, Wf H → c0 ≤ H.c → okT c0 t = true → ∃ bs, Rep H.c (mk t H).2 t (mk t H).1 bs ∧ Fresh H.c (mk t H).2.c bs ∧ Ext H (mk t H).2
  | .at a, c0, H, hw, hc, h => by
    simp only [okT] at h
    exact ⟨[], by simp only [Rep, mk]; exact ⟨trivial, trivial, old_mono h hc⟩, Fresh.nil _ _, Ext.refl hw⟩
  | .sl n es full cs, c0, H, hw, hc, h => by
    simp only [okT] at h
    obtain ⟨bs, h1, h2, h3⟩ := mks_rep cs hw hc h
    simp only [mk, Rep]
    refine ⟨bs ++ [((mks cs H).2.bs.length, (mks cs H).2.c)], ⟨_, _, _, bs, rfl, h3.c, new_at _ _, h1.ext (Pre.new (Pre.refl _) _), rfl⟩, ?_, h3.new _⟩
    exact h2.app (Fresh.one (Nat.le_refl _) (Nat.lt_succ_self _)) h3.c (Nat.le_succ _)
  | .bx cs, c0, H, hw, hc, h => by
    simp only [okT] at h
    obtain ⟨bs, h1, h2, h3⟩ := mks_rep cs hw hc h
    simp only [mk, Rep]
    refine ⟨bs ++ [((mks cs H).2.bs.length, (mks cs H).2.c)], ⟨_, _, _, bs, rfl, h3.c, new_at _ _, h1.ext (Pre.new (Pre.refl _) _), rfl⟩, ?_, h3.new _⟩
    exact h2.app (Fresh.one (Nat.le_refl _) (Nat.lt_succ_self _)) h3.c (Nat.le_succ _)
  | .agg cs, c0, H, hw, hc, h => by
    simp only [okT] at h
    obtain ⟨bs, h1, h2, h3⟩ := mks_rep cs hw hc h
    simp only [mk, Rep]
    exact ⟨bs, ⟨_, rfl, h1⟩, h2, h3⟩
  | .tup cs, c0, H, hw, hc, h => by
    simp only [okT] at h
    obtain ⟨bs, h1, h2, h3⟩ := mks_rep cs hw hc h
    simp only [mk, Rep]
    exact ⟨bs, ⟨_, rfl, h1⟩, h2, h3⟩
theorem mks_rep : ∀ (l : List Tr) {c0 : Nat} {H : Hp}, Wf H → c0 ≤ H.c → okTs c0 l = true → ∃ bs, Reps H.c (mks l H).2 l (mks l H).1 bs ∧ Fresh H.c (mks l H).2.c bs ∧ Ext H (mks l H).2
  | [], c0, H, hw, hc, h => ⟨[], by simp only [Reps, mks]; exact ⟨trivial, trivial⟩, Fresh.nil _ _, Ext.refl hw⟩
  | t :: l, c0, H, hw, hc, h => by
    simp only [okTs, Bool.and_eq_true] at h
    obtain ⟨b1, h1, h2, h3⟩ := mk_rep t hw hc h.1
    obtain ⟨b2, g1, g2, g3⟩ := mks_rep l (H := (mk t H).2) h3.wf (Nat.le_trans hc h3.c) h.2
    simp only [mks, Reps]
    refine ⟨b1 ++ b2, ⟨_, _, b1, b2, rfl, h1.ext g3.pre, ?_, rfl⟩, h2.app g2 h3.c g3.c, h3.trans g3⟩
    exact reps_down l h.2 hc h3.c g1
theorem rep_down : ∀ (t : Tr) {c0 c d : Nat} {H : Hp} {v : AV} {bs : List (Nat × Nat)}, okT c0 t = true → c0 ≤ c → c ≤ d → Rep d H t v bs → Rep c H t v bs
  | .at a, c0, c, d, H, v, bs, h, h1, h2, h3 => by
    simp only [okT] at h
    simp only [Rep] at h3 ⊢
    exact ⟨h3.1, h3.2.1, old_mono h h1⟩
  | .sl n es full cs, c0, c, d, H, v, bs, h, h1, h2, h3 => by
    simp only [okT] at h
    simp only [Rep] at h3 ⊢
    obtain ⟨b, ver, vs, bs', e1, e2, e3, e4, e5⟩ := h3
    exact ⟨b, ver, vs, bs', e1, Nat.le_trans h2 e2, e3, reps_down cs h h1 h2 e4, e5⟩
  | .bx cs, c0, c, d, H, v, bs, h, h1, h2, h3 => by
    simp only [okT] at h
    simp only [Rep] at h3 ⊢
    obtain ⟨b, ver, vs, bs', e1, e2, e3, e4, e5⟩ := h3
    exact ⟨b, ver, vs, bs', e1, Nat.le_trans h2 e2, e3, reps_down cs h h1 h2 e4, e5⟩
  | .agg cs, c0, c, d, H, v, bs, h, h1, h2, h3 => by
    simp only [okT] at h
    simp only [Rep] at h3 ⊢
    obtain ⟨vs, e1, e4⟩ := h3
    exact ⟨vs, e1, reps_down cs h h1 h2 e4⟩
  | .tup cs, c0, c, d, H, v, bs, h, h1, h2, h3 => by
    simp only [okT] at h
    simp only [Rep] at h3 ⊢
    obtain ⟨vs, e1, e4⟩ := h3
    exact ⟨vs, e1, reps_down cs h h1 h2 e4⟩
theorem reps_down : ∀ (l : List Tr) {c0 c d : Nat} {H : Hp} {vs : List AV} {bs : List (Nat × Nat)}, okTs c0 l = true → c0 ≤ c → c ≤ d → Reps d H l vs bs → Reps c H l vs bs
  | [], c0, c, d, H, vs, bs, h, h1, h2, h3 => by simpa only [Reps] using h3
  | t :: l, c0, c, d, H, vs, bs, h, h1, h2, h3 => by
    simp only [okTs, Bool.and_eq_true] at h
    simp only [Reps] at h3 ⊢
    obtain ⟨v, vs', b1, b2, e1, e2, e3, e4⟩ := h3
    exact ⟨v, vs', b1, b2, e1, rep_down t h.1 h1 h2 e2, reps_down l h.2 h1 h2 e3, e4⟩
end
/-! ### lists of numbers as trees -/
def trI (l : List Int) : List Tr := l.map fun n => .at (.int .i64 n)
def trS (l : List Int) : Tr := if l = [] then .at .nilS else .sl l.length 1 false (trI l)
def trF (l : List Int) : Tr := .sl l.length 1 true (trI l)
theorem okT_I (c : Nat) (l : List Int) : okTs c (trI l) = true := by
  induction l with
  | nil => rfl
  | cons a l ih => simp only [trI, List.map_cons, okTs, okT, old, Bool.true_and] at ih ⊢; exact ih
theorem okT_S (c : Nat) (l : List Int) : okT c (trS l) = true := by
  unfold trS; split
  · rfl
  · exact okT_I c l
theorem okT_F (c : Nat) (l : List Int) : okT c (trF l) = true := okT_I c l
theorem reps_I {c : Nat} {H : Hp} : ∀ {l : List Int} {vs : List AV} {bs : List (Nat × Nat)}, Reps c H (trI l) vs bs ↔ vs = l.map (.int .i64) ∧ bs = [] := by
  intro l
  induction l with
  | nil => intro vs bs; simp [trI, Reps]
  | cons a l ih =>
    intro vs bs
    simp only [trI, List.map_cons, Reps, Rep] at ih ⊢
    constructor
    · rintro ⟨v, vs', b1, b2, rfl, ⟨rfl, rfl, _⟩, h, rfl⟩
      obtain ⟨rfl, rfl⟩ := ih.1 h
      exact ⟨rfl, rfl⟩
    · rintro ⟨rfl, rfl⟩
      exact ⟨_, _, [], [], rfl, ⟨rfl, rfl, rfl⟩, ih.2 ⟨rfl, rfl⟩, rfl⟩
theorem rep_F {c : Nat} {H : Hp} {l : List Int} {v : AV} {bs : List (Nat × Nat)} : Rep c H (trF l) v bs ↔ ∃ b ver, v = .sl b ver 0 l.length 1 true ∧ c ≤ ver ∧ H.at b ver = some ⟨ver, l.map (.int .i64), true, true⟩ ∧ bs = [(b, ver)] := by
  simp only [trF, Rep, reps_I]
  constructor
  · rintro ⟨b, ver, vs, bs', rfl, h1, h2, ⟨rfl, rfl⟩, rfl⟩
    exact ⟨b, ver, rfl, h1, h2, rfl⟩
  · rintro ⟨b, ver, rfl, h1, h2, rfl⟩
    exact ⟨b, ver, _, [], rfl, h1, h2, ⟨rfl, rfl⟩, rfl⟩
theorem rep_S {c : Nat} {H : Hp} {l : List Int} {v : AV} {bs : List (Nat × Nat)} : Rep c H (trS l) v bs ↔ (l = [] ∧ v = .nilS ∧ bs = []) ∨ ∃ b ver, v = .sl b ver 0 l.length 1 false ∧ c ≤ ver ∧ l ≠ [] ∧ H.at b ver = some ⟨ver, l.map (.int .i64), true, true⟩ ∧ bs = [(b, ver)] := by
  unfold trS
  by_cases h : l = []
  · subst h
    simp [Rep, old]
  · rw [if_neg h]
    simp only [Rep, reps_I, h, false_and, false_or]
    constructor
    · rintro ⟨b, ver, vs, bs', rfl, h1, h2, ⟨rfl, rfl⟩, rfl⟩
      exact ⟨b, ver, rfl, h1, h, h2, rfl⟩
    · rintro ⟨b, ver, rfl, h1, _, h2, rfl⟩
      exact ⟨b, ver, _, [], rfl, h1, h2, ⟨rfl, rfl⟩, rfl⟩
/-- The end of a walk that hands back a tree. -/
theorem goEndR {E : Env} {H0 H : Hp} {x : Ex} {s : Sl} {rs : List ResultVar} {q : Option (List AV)} {vs : List AV} {t : Tr} {bs : List (Nat × Nat)} {d : Nat} {r : AV} {Hr : Hp} (hw : Wf H0) (he : Pre H0 H) (ho : Rep H0.c H t (xret vs) bs) (hf : Fresh H0.c d bs) (hx : x = .norm ∨ x = .ret) (e : xres T s H rs = q) (eq : q = some vs) (hr : mk t H0 = (r, Hr)) :
    K E T (.fin fun x s' H2 => (x = .norm ∨ x = .ret) ∧ ∃ vs js, xres T s' H2 rs = some vs ∧ Can H0 H2 Hr (xret vs) r js) x s H := by
  have := can_rep hw he ho hf.1
  rw [hr] at this
  exact ⟨⟨hx, vs, bs, e.trans eq, this⟩⟩
/- Walks: shapes, as tensors have them. -/
def r1Go : Nat → Int → List Int → Bool
  | _, n, [] => decide (n ≤ 4096)
  | i, n, k :: l => if k < 0 ∨ 32 < k ∨ (4 : Int) ≤ i then false else r1Go (i + 1) (w (n * k)) l
def r1OK (l : List Int) : Bool := r1Go 0 1 l
theorem r1Go_eq : ∀ (l : List Int) (i : Nat) (n : Int), i ≤ 4 → r1Go i n l = if 4 < i + l.length then false else shapeGo n l := by
  intro l
  induction l with
  | nil => intro i n hi; simp [r1Go, shapeGo]; omega
  | cons k l ih =>
    intro i n hi
    simp only [r1Go, shapeGo, List.length_cons]
    by_cases h3 : 4 ≤ i
    · have : (4 : Int) ≤ (i : Int) := by omega
      rw [if_pos (.inr (.inr this)), if_pos (by omega)]
    · have h3' : ¬ (4 : Int) ≤ (i : Int) := by omega
      by_cases hk : k < 0 ∨ 32 < k
      · rw [if_pos (by rcases hk with h | h; exact .inl h; exact .inr (.inl h)), if_pos hk]; simp
      · rw [if_neg (by simp only [h3', or_false]; exact hk), if_neg hk, ih (i + 1) _ (by omega)]
        rw [show i + 1 + l.length = i + (l.length + 1) by omega]
theorem r1OK_eq (l : List Int) : r1OK l = shapeOK l := by
  simp [r1OK, shapeOK, r1Go_eq l 0 1 (by omega)]
def F101 (args : List AV) (H : Hp) : Option AV := match args with
  | [v] => (ints H v).map fun l => .bool (r1OK l)
  | _ => none
theorem snd101 : Sound Try.prog 101 (FSem.pure F101).run := by
  refine sound_of hT (EOK_nil _) mixed A101 Try.func101 hb101 (by kernel_rfl) (by kernel_rfl) (by kernel_rfl) (by kernel_rfl) sh101 1 (by kernel_rfl) rs101 hr101 ?_
  intro args H r H' hw h
  obtain ⟨rfl, hv⟩ := pureAt h
  clear h
  unfold F101 at hv
  split at hv
  · rename_i v
    obtain ⟨l, hl, hv⟩ := Option.map_eq_some_iff.1 hv
    cases hv
    have hlen := alenS_ints hl
    have hb := ints_len hl
    have hix := aidxS_ints hl .i64
    have hld := aload_nth T3 rfl hl
    refine ⟨rfl, go ?_⟩
    unfold c101
    simp only [argSl]
    simp only [← aidx22, ← alen22] at hix hlen
    repeat' (first | apply goSeq | apply goReg | apply goSeqN | apply goSeqR | apply goSkip | apply goRet | apply goNil | apply goBlock | apply goExit | apply goBlkN | apply goBlkR | apply goBlkE | apply goSeqE | apply goLoopR | apply goLoopE | refine xOp ?_ | refine xOp0 ?_ | refine xYes ?_ | refine xNo ?_ | refine xNoU ?_ | refine xIfT ?_ | refine xIfF ?_ | refine xIf ?_ ?_ | refine xSplit ?_ ?_ | refine xIfQ ?_ ?_ | refine xSplitQ ?_ ?_ | refine xBlkX ?_ | intro _)
    refine goLoop (fun m s1 H1 => H1 = H' ∧ ∃ (i : Nat) (n : Int), m = l.length - i ∧ i ≤ l.length ∧ get s1 0 = v ∧ get s1 3 = .int .i64 n ∧ get s1 4 = .int .i64 i ∧ r1Go i n (l.drop i) = r1OK l) l.length ?_ ?_
    · exact ⟨rfl, 0, 1, rfl, Nat.zero_le _, rfl, rfl, rfl, rfl⟩
    · rintro m s1 H1 ⟨rfl, i, n, hm, hi, g3, g9, g10, hgo⟩
      simp only [cut_cons, cut_nil, g3, g9, g10]
      have hi0 : (0 : Int) ≤ i := Int.natCast_nonneg i
      have hd := fun h => drop_nth l i h
      have hnil : ¬ i < l.length → l.drop i = [] := fun h => List.drop_of_length_le (by omega)
      have hw1 : w ((i : Int) + 1) = ((i + 1 : Nat) : Int) := w_id (by omega)
      clear g3 g9 g10
      repeat' (first | apply goSeq | apply goReg | apply goSeqN | apply goSeqR | apply goSkip | apply goRet | apply goNil | apply goBlock | apply goExit | apply goBlkN | apply goBlkR | apply goBlkE | apply goSeqE | apply goLoopR | apply goLoopE | refine xOp ?_ | refine xOp0 ?_ | refine xYes ?_ | refine xNo ?_ | refine xNoU ?_ | refine xIfT ?_ | refine xIfF ?_ | refine xIf ?_ ?_ | refine xSplit ?_ ?_ | refine xIfQ ?_ ?_ | refine xSplitQ ?_ ?_ | refine xBlkX ?_ | intro _)
      all_goals first
        | (refine goEnd hw (Pre.refl _) (by simp) (by simp [rs101]; exact rfl) rfl ?_; rw [← hgo]; simp [r1Go, hd, hnil, *]; done)
        | (refine goLoopN (l.length - (i + 1)) (by omega) ⟨rfl, i + 1, _, rfl, by omega, rfl, rfl, rfl, ?_⟩; rw [← hgo]; simp [r1Go, hd, *])
  · cases hv
@[simp] theorem F101_at (v : AV) (H : Hp) : F101 [v] H = (ints H v).map fun l => .bool (r1OK l) := rfl
/-- How many numbers there are. -/
def sizeOf (l : List Int) : Int := if shapeOK l = true then prodW 1 l else 0
def F100 (args : List AV) (H : Hp) : Option AV := match args with
  | [v] => (ints H v).map fun l => .int .i64 (sizeOf l)
  | _ => none
theorem snd100 : Sound Try.prog 100 (FSem.pure F100).run := by
  refine sound_of hT (EOK_cons snd101 (EOK_nil _)) mixed A100 Try.func100 hb100 (by kernel_rfl) (by kernel_rfl) (by kernel_rfl) (by kernel_rfl) sh100 1 (by kernel_rfl) rs100 hr100 ?_
  intro args H r H' hw h
  obtain ⟨rfl, hv⟩ := pureAt h
  clear h
  unfold F100 at hv
  split at hv
  · rename_i v
    obtain ⟨l, hl, hv⟩ := Option.map_eq_some_iff.1 hv
    cases hv
    have hr1 := r1OK_eq l
    have hlen := alenS_ints hl
    have hb := ints_len hl
    have hix := aidxS_ints hl .i64
    have hld := aload_nth T3 rfl hl
    refine ⟨rfl, go ?_⟩
    unfold c100
    simp only [argSl]
    simp only [← aidx22, ← alen22] at hix hlen
    repeat' (first | apply goSeq | apply goReg | apply goSeqN | apply goSeqR | apply goSkip | apply goRet | apply goNil | apply goBlock | apply goExit | apply goBlkN | apply goBlkR | apply goBlkE | apply goSeqE | apply goLoopR | apply goLoopE | refine xOp ?_ | refine xOp0 ?_ | refine xYes ?_ | refine xNo ?_ | refine xNoU ?_ | refine xIfT ?_ | refine xIfF ?_ | refine xIf ?_ ?_ | refine xSplit ?_ ?_ | refine xIfQ ?_ ?_ | refine xSplitQ ?_ ?_ | refine xBlkX ?_ | intro _)
    · refine goEnd hw (Pre.refl _) (by simp) (by simp [rs100]; exact rfl) rfl ?_
      simp_all [sizeOf]
    · rename_i hm
      have hm' : shapeOK l = true := by simpa using hm
      refine goLoop (fun m s1 H1 => H1 = H' ∧ ∃ (i : Nat) (n : Int), m = l.length - i ∧ i ≤ l.length ∧ get s1 0 = v ∧ get s1 3 = .int .i64 n ∧ get s1 4 = .int .i64 i ∧ prodW n (l.drop i) = sizeOf l) l.length ?_ ?_
      · exact ⟨rfl, 0, 1, rfl, Nat.zero_le _, rfl, rfl, rfl, by simp [sizeOf, hm']⟩
      · rintro m s1 H1 ⟨rfl, i, n, hmm, hi, g3, g9, g10, hgo⟩
        simp only [cut_cons, cut_nil, g3, g9, g10]
        have hi0 : (0 : Int) ≤ i := Int.natCast_nonneg i
        have hd := fun h => drop_nth l i h
        have hnil : ¬ i < l.length → l.drop i = [] := fun h => List.drop_of_length_le (by omega)
        have hw1 : w ((i : Int) + 1) = ((i + 1 : Nat) : Int) := w_id (by omega)
        clear g3 g9 g10
        repeat' (first | apply goSeq | apply goReg | apply goSeqN | apply goSeqR | apply goSkip | apply goRet | apply goNil | apply goBlock | apply goExit | apply goBlkN | apply goBlkR | apply goBlkE | apply goSeqE | apply goLoopR | apply goLoopE | refine xOp ?_ | refine xOp0 ?_ | refine xYes ?_ | refine xNo ?_ | refine xNoU ?_ | refine xIfT ?_ | refine xIfF ?_ | refine xIf ?_ ?_ | refine xSplit ?_ ?_ | refine xIfQ ?_ ?_ | refine xSplitQ ?_ ?_ | refine xBlkX ?_ | intro _)
        all_goals first
          | (refine goEnd hw (Pre.refl _) (by simp) (by simp [rs100]; exact rfl) rfl ?_; rw [← hgo]; simp [prodW, hd, hnil, *]; done)
          | (refine goLoopN (l.length - (i + 1)) (by omega) ⟨rfl, i + 1, _, rfl, by omega, rfl, rfl, rfl, ?_⟩; rw [← hgo]; simp [prodW, hd, *])
  · cases hv
@[simp] theorem F100_at (v : AV) (H : Hp) : F100 [v] H = (ints H v).map fun l => .int .i64 (sizeOf l) := rfl
def F136 (args : List AV) (H : Hp) : Option AV := match args with
  | [v] => (ints H v).map fun l => .int .i64 (sizeOf l)
  | _ => none
@[simp] theorem F136_at (v : AV) (H : Hp) : F136 [v] H = (ints H v).map fun l => .int .i64 (sizeOf l) := rfl
/- Functions in short form. -/
/-! parquetry/split.may (3 parameters; calls 63 parquetry/spec.Right, 89 parquetry/mesh.Right, 91 parquetry/tensor.Right) -/
/-! parquetry/shape.Same (2 parameters; calls 129 slices.Equal[[]int,int]) -/
/-! parquetry/tensor.Same (2 parameters; calls 92 parquetry/shape.Same, 137 slices.Equal[[]int64,int64]) -/
/-! parquetry/shape.Index (2 parameters; calls 90 parquetry/shape.Right) -/
/-! parquetry/parquetryref1.Ints (2 parameters; calls none) -/
/-! parquetry/parquetryref1.Same (2 parameters; calls 97 parquetry/parquetryref1.Ints) -/
/-! slices.Equal[[]int64,int64] (2 parameters; calls none) -/
/- Walks: what reads shapes and tensors. -/
theorem alen38 (v : AV) : alen T 38 v = alenS v := by simp [alen, D38]
theorem aidx38 (v i : AV) : aidx T 38 v i = aidxS 1 v i := by simp [aidx, D38, T2]
def F97 (args : List AV) (H : Hp) : Option AV := match args with
  | [a, b] => (ints H a).bind fun l => (ints H b).map fun m => .bool (sameL l m)
  | _ => none
@[simp] theorem F97_at (a b : AV) (H : Hp) : F97 [a, b] H = (ints H a).bind fun l => (ints H b).map fun m => .bool (sameL l m) := rfl
def F137 (args : List AV) (H : Hp) : Option AV := match args with
  | [a, b] => (ints H a).bind fun l => (ints H b).map fun m => .bool (sameL l m)
  | _ => none
@[simp] theorem F137_at (a b : AV) (H : Hp) : F137 [a, b] H = (ints H a).bind fun l => (ints H b).map fun m => .bool (sameL l m) := rfl
def F92 (args : List AV) (H : Hp) : Option AV := match args with
  | [a, b] => (ints H a).bind fun l => (ints H b).map fun m => .bool (sameL l m)
  | _ => none
@[simp] theorem F92_at (a b : AV) (H : Hp) : F92 [a, b] H = (ints H a).bind fun l => (ints H b).map fun m => .bool (sameL l m) := rfl
/-- The number of a place; -1: there is none. -/
def idxL (sz l : List Int) : Int := if shapeOK sz = false ∨ l.length ≠ sz.length then -1 else ofGo 0 sz l
def F96 (args : List AV) (H : Hp) : Option AV := match args with
  | [a, b] => (ints H a).bind fun sz => (ints H b).map fun l => .int .i64 (idxL sz l)
  | _ => none
@[simp] theorem F96_at (a b : AV) (H : Hp) : F96 [a, b] H = (ints H a).bind fun sz => (ints H b).map fun l => .int .i64 (idxL sz l) := rfl
theorem shapeGo_rng : ∀ (l : List Int) (n : Int), shapeGo n l = true → ∀ j : Nat, j < l.length → 0 ≤ nth l j ∧ nth l j ≤ 32 := by
  intro l
  induction l with
  | nil => intro n _ j hj; simp at hj
  | cons k l ih =>
    intro n h j hj
    simp only [shapeGo] at h
    split at h
    · cases h
    · cases j with
      | zero => simp [nth]; omega
      | succ j => simpa [nth] using ih _ h j (by simpa using hj)
theorem shapeOK_rng {l : List Int} (h : shapeOK l = true) : l.length ≤ 4 ∧ ∀ j : Nat, j < l.length → 0 ≤ nth l j ∧ nth l j ≤ 32 := by
  unfold shapeOK at h
  split at h
  · cases h
  · exact ⟨by omega, shapeGo_rng l 1 h⟩
def F95 (args : List AV) (H : Hp) : Option (AV × Hp) := match args with
  | [a, .int .i64 d] => (ints H a).map fun sz => if d < 0 ∨ sizeOf sz ≤ d then (.nilS, H) else mkF H (meshAt sz d)
  | _ => none
@[simp] theorem F95_at (a : AV) (d : Int) (H : Hp) : F95 [a, .int .i64 d] H = (ints H a).map fun sz => if d < 0 ∨ sizeOf sz ≤ d then (.nilS, H) else mkF H (meshAt sz d) := rfl
/-! ### tensors -/
def tens (H : Hp) (a : AV) : Option (List Int × List Int) := match a with
  | .agg [x, y] => (ints H x).bind fun s => (ints H y).map fun d => (s, d)
  | _ => none
theorem tens_some {H : Hp} {a : AV} {p : List Int × List Int} (h : tens H a = some p) : ∃ x y, a = .agg [x, y] ∧ ints H x = some p.1 ∧ ints H y = some p.2 := by
  unfold tens at h
  split at h
  · rename_i x y
    obtain ⟨s, hs, h⟩ := Option.bind_eq_some_iff.1 h
    obtain ⟨d, hd, h⟩ := Option.map_eq_some_iff.1 h
    cases h
    exact ⟨x, y, rfl, hs, hd⟩
  · cases h
theorem tens_of {H : Hp} {x y : AV} {s d : List Int} (hs : ints H x = some s) (hd : ints H y = some d) : tens H (.agg [x, y]) = some (s, d) := by
  simp [tens, hs, hd]
theorem ints_one' {H : Hp} {v : AV} {l : List Int} (h : ints H v = some l) : v.one = true := (ints_cell h).2.1
@[simp] theorem fa40_0 (b v o : Nat) : afaddr' T 40 (.ptr b v o) 0 = some (.ptr b v o) := by simp [afaddr', D40, afaddr, T22]
@[simp] theorem fa40_1 (b v o : Nat) : afaddr' T 40 (.ptr b v o) 1 = some (.ptr b v (o + 1)) := by simp [afaddr', D40, afaddr, T38]
theorem ld22 {H : Hp} {b ver : Nat} {k : Blk} (h : H.at b ver = some k) (j : Nat) : aload T 22 (.ptr b ver j) H = k.cells[j]? := by simp [aload, T22, h]
theorem ld38 {H : Hp} {b ver : Nat} {k : Blk} (h : H.at b ver = some k) (j : Nat) : aload T 38 (.ptr b ver j) H = k.cells[j]? := by simp [aload, T38, h]
theorem ld40 {H : Hp} {b ver : Nat} {x y : AV} {t s : Bool} (h : H.at b ver = some ⟨ver, [x, y], t, s⟩) : aload T 40 (.ptr b ver 0) H = some (.agg [x, y]) := by simp [aload, T40, h]
/-- Is it right? -/
def tOK (p : List Int × List Int) : Bool := shapeOK p.1 && decide ((p.2.length : Int) = sizeOf p.1)
def F91 (args : List AV) (H : Hp) : Option AV := match args with
  | [t] => (tens H t).map fun p => .bool (tOK p)
  | _ => none
@[simp] theorem F91_at (t : AV) (H : Hp) : F91 [t] H = (tens H t).map fun p => .bool (tOK p) := rfl
/-- May it be parted so? -/
def mayL (p : List Int × List Int) (sz sp : List Int) : Int := if tOK p = false then 13 else if specOK sz sp p.1.length = false then 1 else 0
def F87 (args : List AV) (H : Hp) : Option AV := match args with
  | [t, a, b] => (tens H t).bind fun p => (ints H a).bind fun sz => (ints H b).map fun sp => .int .i64 (mayL p sz sp)
  | _ => none
@[simp] theorem F87_at (t a b : AV) (H : Hp) : F87 [t, a, b] H = (tens H t).bind fun p => (ints H a).bind fun sz => (ints H b).map fun sp => .int .i64 (mayL p sz sp) := rfl
/-- Are two tensors the same? -/
def sameT (p q : List Int × List Int) : Bool := sameL p.1 q.1 && sameL p.2 q.2
def F93 (args : List AV) (H : Hp) : Option AV := match args with
  | [t, u] => (tens H t).bind fun p => (tens H u).map fun q => .bool (sameT p q)
  | _ => none
@[simp] theorem F93_at (t u : AV) (H : Hp) : F93 [t, u] H = (tens H t).bind fun p => (tens H u).map fun q => .bool (sameT p q) := rfl
def F39 (args : List AV) (H : Hp) : Option AV := match args with
  | [t, u] => (tens H t).bind fun p => (tens H u).map fun q => .bool (sameT p q)
  | _ => none
@[simp] theorem F39_at (t u : AV) (H : Hp) : F39 [t, u] H = (tens H t).bind fun p => (tens H u).map fun q => .bool (sameT p q) := rfl
end Go.Proofs.Ytokadkakmhfdeaa.Pq
