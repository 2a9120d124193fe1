/- The types of the program. -/
import Derived.Test.YtokadkakmhfdeaaPqR
import Derived.Test.YtokadkakmhfdeaaProg
set_option linter.unusedVariables false
namespace Go.Proofs.Ytokadkakmhfdeaa.Pq
open Go.RowKit
def tys : List (Nat × TI) :=
  [(1, ⟨.func, 1, 8, [.nilF]⟩),
  (2, ⟨.int .i64, 1, 8, [.int .i64 0]⟩),
  (3, ⟨.int .i64, 1, 8, [.int .i64 0]⟩),
  (4, ⟨.bool, 1, 1, [.bool false]⟩),
  (5, ⟨.int .u8, 1, 1, [.int .u8 0]⟩),
  (6, ⟨.int .u8, 1, 1, [.int .u8 0]⟩),
  (7, ⟨.struct [(0, 2), (1, 3), (2, 4), (3, 6)], 4, 24, [.int .i64 0, .int .i64 0, .bool false, .int .u8 0]⟩),
  (8, ⟨.struct [(0, 2), (1, 3), (2, 4), (3, 6)], 4, 24, [.int .i64 0, .int .i64 0, .bool false, .int .u8 0]⟩),
  (9, ⟨.str, 1, 16, [.str .empty]⟩),
  (10, ⟨.str, 1, 16, [.str .empty]⟩),
  (11, ⟨.str, 1, 16, [.str .empty]⟩),
  (12, ⟨.int .u64, 1, 8, [.int .u64 0]⟩),
  (13, ⟨.struct [(0, 9), (1, 12)], 2, 24, [.str .empty, .int .u64 0]⟩),
  (14, ⟨.struct [(0, 9), (1, 12)], 2, 24, [.str .empty, .int .u64 0]⟩),
  (15, ⟨.ptr 203, 1, 8, [.nilP]⟩),
  (16, ⟨.ptr 206, 1, 8, [.nilP]⟩),
  (17, ⟨.ptr 214, 1, 8, [.nilP]⟩),
  (18, ⟨.struct [(0, 17)], 1, 8, [.nilP]⟩),
  (19, ⟨.struct [(0, 17)], 1, 8, [.nilP]⟩),
  (21, ⟨.int .i32, 1, 4, [.int .i32 0]⟩),
  (22, ⟨.slice 3, 1, 24, [.nilS]⟩),
  (23, ⟨.ptr 25, 1, 8, [.nilP]⟩),
  (24, ⟨.struct [(0, 22), (1, 3)], 2, 32, [.nilS, .int .i64 0]⟩),
  (25, ⟨.struct [(0, 22), (1, 3)], 2, 32, [.nilS, .int .i64 0]⟩),
  (26, ⟨.slice 22, 1, 24, [.nilS]⟩),
  (27, ⟨.func, 1, 8, [.nilF]⟩),
  (28, ⟨.func, 1, 8, [.nilF]⟩),
  (29, ⟨.func, 1, 8, [.nilF]⟩),
  (30, ⟨.func, 1, 8, [.nilF]⟩),
  (31, ⟨.func, 1, 8, [.nilF]⟩),
  (32, ⟨.func, 1, 8, [.nilF]⟩),
  (33, ⟨.func, 1, 8, [.nilF]⟩),
  (34, ⟨.func, 1, 8, [.nilF]⟩),
  (35, ⟨.func, 1, 8, [.nilF]⟩),
  (36, ⟨.func, 1, 8, [.nilF]⟩),
  (37, ⟨.func, 1, 8, [.nilF]⟩),
  (38, ⟨.slice 2, 1, 24, [.nilS]⟩),
  (39, ⟨.struct [(0, 22), (1, 38)], 2, 48, [.nilS, .nilS]⟩),
  (40, ⟨.struct [(0, 22), (1, 38)], 2, 48, [.nilS, .nilS]⟩),
  (42, ⟨.func, 1, 8, [.nilF]⟩),
  (43, ⟨.func, 1, 8, [.nilF]⟩),
  (44, ⟨.func, 1, 8, [.nilF]⟩),
  (45, ⟨.slice 40, 1, 24, [.nilS]⟩),
  (46, ⟨.int .i64, 1, 8, [.int .i64 0]⟩),
  (48, ⟨.func, 1, 8, [.nilF]⟩),
  (49, ⟨.func, 1, 8, [.nilF]⟩),
  (50, ⟨.func, 1, 8, [.nilF]⟩),
  (52, ⟨.func, 1, 8, [.nilF]⟩),
  (53, ⟨.func, 1, 8, [.nilF]⟩),
  (55, ⟨.func, 1, 8, [.nilF]⟩),
  (56, ⟨.func, 1, 8, [.nilF]⟩),
  (57, ⟨.func, 1, 8, [.nilF]⟩),
  (58, ⟨.func, 1, 8, [.nilF]⟩),
  (59, ⟨.ptr 64, 1, 8, [.nilP]⟩),
  (60, ⟨.func, 1, 8, [.nilF]⟩),
  (61, ⟨.ptr 135, 1, 8, [.nilP]⟩),
  (62, ⟨.slice 45, 1, 24, [.nilS]⟩),
  (63, ⟨.struct [(0, 61), (1, 62), (2, 22), (3, 3)], 4, 64, [.nilP, .nilS, .nilS, .int .i64 0]⟩),
  (64, ⟨.struct [(0, 61), (1, 62), (2, 22), (3, 3)], 4, 64, [.nilP, .nilS, .nilS, .int .i64 0]⟩),
  (66, ⟨.func, 1, 8, [.nilF]⟩),
  (67, ⟨.ptr 77, 1, 8, [.nilP]⟩),
  (69, ⟨.func, 1, 8, [.nilF]⟩),
  (70, ⟨.slice 141, 1, 24, [.nilS]⟩),
  (71, ⟨.func, 1, 8, [.nilF]⟩),
  (73, ⟨.slice 72, 1, 24, [.nilS]⟩),
  (74, ⟨.slice 169, 1, 24, [.nilS]⟩),
  (75, ⟨.slice 46, 1, 24, [.nilS]⟩),
  (76, ⟨.struct [(0, 70), (1, 62), (2, 73), (3, 22), (4, 74), (5, 3), (6, 75)], 7, 152, [.nilS, .nilS, .nilS, .nilS, .nilS, .int .i64 0, .nilS]⟩),
  (77, ⟨.struct [(0, 70), (1, 62), (2, 73), (3, 22), (4, 74), (5, 3), (6, 75)], 7, 152, [.nilS, .nilS, .nilS, .nilS, .nilS, .int .i64 0, .nilS]⟩),
  (79, ⟨.func, 1, 8, [.nilF]⟩),
  (80, ⟨.func, 1, 8, [.nilF]⟩),
  (81, ⟨.func, 1, 8, [.nilF]⟩),
  (82, ⟨.slice 4, 1, 24, [.nilS]⟩),
  (83, ⟨.slice 86, 1, 24, [.nilS]⟩),
  (85, ⟨.func, 1, 8, [.nilF]⟩),
  (86, ⟨.array 2 3, 2, 16, [.int .i64 0, .int .i64 0]⟩),
  (87, ⟨.func, 1, 8, [.nilF]⟩),
  (88, ⟨.func, 1, 8, [.nilF]⟩),
  (90, ⟨.func, 1, 8, [.nilF]⟩),
  (91, ⟨.func, 1, 8, [.nilF]⟩),
  (92, ⟨.func, 1, 8, [.nilF]⟩),
  (93, ⟨.func, 1, 8, [.nilF]⟩),
  (94, ⟨.func, 1, 8, [.nilF]⟩),
  (95, ⟨.func, 1, 8, [.nilF]⟩),
  (96, ⟨.func, 1, 8, [.nilF]⟩),
  (97, ⟨.func, 1, 8, [.nilF]⟩),
  (98, ⟨.func, 1, 8, [.nilF]⟩),
  (99, ⟨.func, 1, 8, [.nilF]⟩),
  (100, ⟨.struct [(0, 3), (1, 22), (2, 22), (3, 22), (4, 2), (5, 3), (6, 9)], 7, 112, [.int .i64 0, .nilS, .nilS, .nilS, .int .i64 0, .int .i64 0, .str .empty]⟩),
  (101, ⟨.struct [(0, 3), (1, 22), (2, 22), (3, 22), (4, 2), (5, 3), (6, 9)], 7, 112, [.int .i64 0, .nilS, .nilS, .nilS, .int .i64 0, .int .i64 0, .str .empty]⟩),
  (102, ⟨.struct [(0, 3), (1, 3), (2, 22), (3, 101), (10, 3), (11, 3), (12, 3)], 13, 176, [.int .i64 0, .int .i64 0, .nilS, .int .i64 0, .nilS, .nilS, .nilS, .int .i64 0, .int .i64 0, .str .empty, .int .i64 0, .int .i64 0, .int .i64 0]⟩),
  (103, ⟨.struct [(0, 3), (1, 3), (2, 22), (3, 101), (10, 3), (11, 3), (12, 3)], 13, 176, [.int .i64 0, .int .i64 0, .nilS, .int .i64 0, .nilS, .nilS, .nilS, .int .i64 0, .int .i64 0, .str .empty, .int .i64 0, .int .i64 0, .int .i64 0]⟩),
  (104, ⟨.func, 1, 8, [.nilF]⟩),
  (106, ⟨.func, 1, 8, [.nilF]⟩),
  (107, ⟨.func, 1, 8, [.nilF]⟩),
  (108, ⟨.func, 1, 8, [.nilF]⟩),
  (109, ⟨.func, 1, 8, [.nilF]⟩),
  (110, ⟨.func, 1, 8, [.nilF]⟩),
  (111, ⟨.func, 1, 8, [.nilF]⟩),
  (112, ⟨.func, 1, 8, [.nilF]⟩),
  (113, ⟨.func, 1, 8, [.nilF]⟩),
  (114, ⟨.func, 1, 8, [.nilF]⟩),
  (115, ⟨.func, 1, 8, [.nilF]⟩),
  (116, ⟨.func, 1, 8, [.nilF]⟩),
  (117, ⟨.func, 1, 8, [.nilF]⟩),
  (118, ⟨.slice 120, 1, 24, [.nilS]⟩),
  (119, ⟨.struct [(0, 3), (1, 3), (2, 3), (3, 3)], 4, 32, [.int .i64 0, .int .i64 0, .int .i64 0, .int .i64 0]⟩),
  (120, ⟨.struct [(0, 3), (1, 3), (2, 3), (3, 3)], 4, 32, [.int .i64 0, .int .i64 0, .int .i64 0, .int .i64 0]⟩),
  (121, ⟨.func, 1, 8, [.nilF]⟩),
  (122, ⟨.func, 1, 8, [.nilF]⟩),
  (123, ⟨.func, 1, 8, [.nilF]⟩),
  (124, ⟨.func, 1, 8, [.nilF]⟩),
  (125, ⟨.func, 1, 8, [.nilF]⟩),
  (126, ⟨.func, 1, 8, [.nilF]⟩),
  (128, ⟨.func, 1, 8, [.nilF]⟩),
  (130, ⟨.func, 1, 8, [.nilF]⟩),
  (131, ⟨.func, 1, 8, [.nilF]⟩),
  (133, ⟨.func, 1, 8, [.nilF]⟩),
  (134, ⟨.struct [(0, 70), (1, 22), (2, 3)], 3, 56, [.nilS, .nilS, .int .i64 0]⟩),
  (135, ⟨.struct [(0, 70), (1, 22), (2, 3)], 3, 56, [.nilS, .nilS, .int .i64 0]⟩),
  (136, ⟨.func, 1, 8, [.nilF]⟩),
  (137, ⟨.func, 1, 8, [.nilF]⟩),
  (138, ⟨.func, 1, 8, [.nilF]⟩),
  (139, ⟨.func, 1, 8, [.nilF]⟩),
  (140, ⟨.slice 103, 1, 24, [.nilS]⟩),
  (141, ⟨.slice 103, 1, 24, [.nilS]⟩),
  (142, ⟨.func, 1, 8, [.nilF]⟩),
  (143, ⟨.func, 1, 8, [.nilF]⟩),
  (144, ⟨.func, 1, 8, [.nilF]⟩),
  (145, ⟨.func, 1, 8, [.nilF]⟩),
  (146, ⟨.func, 1, 8, [.nilF]⟩),
  (147, ⟨.func, 1, 8, [.nilF]⟩),
  (148, ⟨.func, 1, 8, [.nilF]⟩),
  (149, ⟨.func, 1, 8, [.nilF]⟩),
  (150, ⟨.func, 1, 8, [.nilF]⟩),
  (151, ⟨.func, 1, 8, [.nilF]⟩),
  (152, ⟨.struct [(0, 22), (1, 22), (2, 22), (3, 22), (4, 22)], 5, 120, [.nilS, .nilS, .nilS, .nilS, .nilS]⟩),
  (153, ⟨.struct [(0, 22), (1, 22), (2, 22), (3, 22), (4, 22)], 5, 120, [.nilS, .nilS, .nilS, .nilS, .nilS]⟩),
  (154, ⟨.func, 1, 8, [.nilF]⟩),
  (155, ⟨.func, 1, 8, [.nilF]⟩),
  (157, ⟨.func, 1, 8, [.nilF]⟩),
  (158, ⟨.func, 1, 8, [.nilF]⟩),
  (159, ⟨.int .u64, 1, 8, [.int .u64 0]⟩),
  (161, ⟨.func, 1, 8, [.nilF]⟩),
  (162, ⟨.func, 1, 8, [.nilF]⟩),
  (163, ⟨.func, 1, 8, [.nilF]⟩),
  (164, ⟨.func, 1, 8, [.nilF]⟩),
  (165, ⟨.func, 1, 8, [.nilF]⟩),
  (166, ⟨.func, 1, 8, [.nilF]⟩),
  (167, ⟨.func, 1, 8, [.nilF]⟩),
  (168, ⟨.struct [(0, 3), (1, 3), (2, 3), (3, 40)], 5, 72, [.int .i64 0, .int .i64 0, .int .i64 0, .nilS, .nilS]⟩),
  (169, ⟨.struct [(0, 3), (1, 3), (2, 3), (3, 40)], 5, 72, [.int .i64 0, .int .i64 0, .int .i64 0, .nilS, .nilS]⟩),
  (170, ⟨.func, 1, 8, [.nilF]⟩),
  (171, ⟨.func, 1, 8, [.nilF]⟩),
  (172, ⟨.func, 1, 8, [.nilF]⟩),
  (173, ⟨.int .u32, 1, 4, [.int .u32 0]⟩),
  (175, ⟨.func, 1, 8, [.nilF]⟩),
  (176, ⟨.int .u64, 1, 8, [.int .u64 0]⟩),
  (178, ⟨.func, 1, 8, [.nilF]⟩),
  (180, ⟨.func, 1, 8, [.nilF]⟩),
  (181, ⟨.func, 1, 8, [.nilF]⟩),
  (182, ⟨.func, 1, 8, [.nilF]⟩),
  (183, ⟨.func, 1, 8, [.nilF]⟩),
  (184, ⟨.func, 1, 8, [.nilF]⟩),
  (185, ⟨.func, 1, 8, [.nilF]⟩),
  (186, ⟨.func, 1, 8, [.nilF]⟩),
  (187, ⟨.func, 1, 8, [.nilF]⟩),
  (188, ⟨.func, 1, 8, [.nilF]⟩),
  (189, ⟨.func, 1, 8, [.nilF]⟩),
  (190, ⟨.func, 1, 8, [.nilF]⟩),
  (191, ⟨.func, 1, 8, [.nilF]⟩),
  (192, ⟨.func, 1, 8, [.nilF]⟩),
  (193, ⟨.func, 1, 8, [.nilF]⟩),
  (194, ⟨.func, 1, 8, [.nilF]⟩),
  (196, ⟨.func, 1, 8, [.nilF]⟩),
  (197, ⟨.func, 1, 8, [.nilF]⟩),
  (198, ⟨.func, 1, 8, [.nilF]⟩),
  (199, ⟨.func, 1, 8, [.nilF]⟩),
  (200, ⟨.func, 1, 8, [.nilF]⟩),
  (201, ⟨.func, 1, 8, [.nilF]⟩),
  (202, ⟨.struct [(0, 17), (1, 17), (2, 17), (3, 9)], 4, 40, [.nilP, .nilP, .nilP, .str .empty]⟩),
  (203, ⟨.struct [(0, 17), (1, 17), (2, 17), (3, 9)], 4, 40, [.nilP, .nilP, .nilP, .str .empty]⟩),
  (204, ⟨.array 0 16, 0, 0, []⟩),
  (205, ⟨.struct [(0, 204)], 0, 0, []⟩),
  (206, ⟨.struct [(0, 204)], 0, 0, []⟩),
  (207, ⟨.int .u8, 1, 1, [.int .u8 0]⟩),
  (208, ⟨.int .u8, 1, 1, [.int .u8 0]⟩),
  (209, ⟨.func, 1, 8, [.nilF]⟩),
  (210, ⟨.ptr 5, 1, 8, [.nilP]⟩),
  (211, ⟨.int .i32, 1, 4, [.int .i32 0]⟩),
  (212, ⟨.int .i32, 1, 4, [.int .i32 0]⟩),
  (213, ⟨.struct [(0, 12), (1, 12), (2, 173), (3, 207), (4, 5), (5, 5), (6, 208), (7, 209), (8, 210), (9, 211), (10, 212)], 11, 48, [.int .u64 0, .int .u64 0, .int .u32 0, .int .u8 0, .int .u8 0, .int .u8 0, .int .u8 0, .nilF, .nilP, .int .i32 0, .int .i32 0]⟩),
  (214, ⟨.struct [(0, 12), (1, 12), (2, 173), (3, 207), (4, 5), (5, 5), (6, 208), (7, 209), (8, 210), (9, 211), (10, 212)], 11, 48, [.int .u64 0, .int .u64 0, .int .u32 0, .int .u8 0, .int .u8 0, .int .u8 0, .int .u8 0, .nilF, .nilP, .int .i32 0, .int .i32 0]⟩)]
def T : Tab := lookT tys
theorem T1 : T 1 = some ⟨.func, 1, 8, [.nilF]⟩ := by kernel_rfl
theorem D1 : T.d 1 = .func := by kernel_rfl
theorem T2 : T 2 = some ⟨.int .i64, 1, 8, [.int .i64 0]⟩ := by kernel_rfl
theorem D2 : T.d 2 = .int .i64 := by kernel_rfl
theorem T3 : T 3 = some ⟨.int .i64, 1, 8, [.int .i64 0]⟩ := by kernel_rfl
theorem D3 : T.d 3 = .int .i64 := by kernel_rfl
theorem T4 : T 4 = some ⟨.bool, 1, 1, [.bool false]⟩ := by kernel_rfl
theorem D4 : T.d 4 = .bool := by kernel_rfl
theorem T5 : T 5 = some ⟨.int .u8, 1, 1, [.int .u8 0]⟩ := by kernel_rfl
theorem D5 : T.d 5 = .int .u8 := by kernel_rfl
theorem T6 : T 6 = some ⟨.int .u8, 1, 1, [.int .u8 0]⟩ := by kernel_rfl
theorem D6 : T.d 6 = .int .u8 := by kernel_rfl
theorem T7 : T 7 = some ⟨.struct [(0, 2), (1, 3), (2, 4), (3, 6)], 4, 24, [.int .i64 0, .int .i64 0, .bool false, .int .u8 0]⟩ := by kernel_rfl
theorem D7 : T.d 7 = .struct [(0, 2), (1, 3), (2, 4), (3, 6)] := by kernel_rfl
theorem T8 : T 8 = some ⟨.struct [(0, 2), (1, 3), (2, 4), (3, 6)], 4, 24, [.int .i64 0, .int .i64 0, .bool false, .int .u8 0]⟩ := by kernel_rfl
theorem D8 : T.d 8 = .struct [(0, 2), (1, 3), (2, 4), (3, 6)] := by kernel_rfl
theorem T9 : T 9 = some ⟨.str, 1, 16, [.str .empty]⟩ := by kernel_rfl
theorem D9 : T.d 9 = .str := by kernel_rfl
theorem T10 : T 10 = some ⟨.str, 1, 16, [.str .empty]⟩ := by kernel_rfl
theorem D10 : T.d 10 = .str := by kernel_rfl
theorem T11 : T 11 = some ⟨.str, 1, 16, [.str .empty]⟩ := by kernel_rfl
theorem D11 : T.d 11 = .str := by kernel_rfl
theorem T12 : T 12 = some ⟨.int .u64, 1, 8, [.int .u64 0]⟩ := by kernel_rfl
theorem D12 : T.d 12 = .int .u64 := by kernel_rfl
theorem T13 : T 13 = some ⟨.struct [(0, 9), (1, 12)], 2, 24, [.str .empty, .int .u64 0]⟩ := by kernel_rfl
theorem D13 : T.d 13 = .struct [(0, 9), (1, 12)] := by kernel_rfl
theorem T14 : T 14 = some ⟨.struct [(0, 9), (1, 12)], 2, 24, [.str .empty, .int .u64 0]⟩ := by kernel_rfl
theorem D14 : T.d 14 = .struct [(0, 9), (1, 12)] := by kernel_rfl
theorem T15 : T 15 = some ⟨.ptr 203, 1, 8, [.nilP]⟩ := by kernel_rfl
theorem D15 : T.d 15 = .ptr 203 := by kernel_rfl
theorem T16 : T 16 = some ⟨.ptr 206, 1, 8, [.nilP]⟩ := by kernel_rfl
theorem D16 : T.d 16 = .ptr 206 := by kernel_rfl
theorem T17 : T 17 = some ⟨.ptr 214, 1, 8, [.nilP]⟩ := by kernel_rfl
theorem D17 : T.d 17 = .ptr 214 := by kernel_rfl
theorem T18 : T 18 = some ⟨.struct [(0, 17)], 1, 8, [.nilP]⟩ := by kernel_rfl
theorem D18 : T.d 18 = .struct [(0, 17)] := by kernel_rfl
theorem T19 : T 19 = some ⟨.struct [(0, 17)], 1, 8, [.nilP]⟩ := by kernel_rfl
theorem D19 : T.d 19 = .struct [(0, 17)] := by kernel_rfl
theorem T21 : T 21 = some ⟨.int .i32, 1, 4, [.int .i32 0]⟩ := by kernel_rfl
theorem D21 : T.d 21 = .int .i32 := by kernel_rfl
theorem T22 : T 22 = some ⟨.slice 3, 1, 24, [.nilS]⟩ := by kernel_rfl
theorem D22 : T.d 22 = .slice 3 := by kernel_rfl
theorem T23 : T 23 = some ⟨.ptr 25, 1, 8, [.nilP]⟩ := by kernel_rfl
theorem D23 : T.d 23 = .ptr 25 := by kernel_rfl
theorem T24 : T 24 = some ⟨.struct [(0, 22), (1, 3)], 2, 32, [.nilS, .int .i64 0]⟩ := by kernel_rfl
theorem D24 : T.d 24 = .struct [(0, 22), (1, 3)] := by kernel_rfl
theorem T25 : T 25 = some ⟨.struct [(0, 22), (1, 3)], 2, 32, [.nilS, .int .i64 0]⟩ := by kernel_rfl
theorem D25 : T.d 25 = .struct [(0, 22), (1, 3)] := by kernel_rfl
theorem T26 : T 26 = some ⟨.slice 22, 1, 24, [.nilS]⟩ := by kernel_rfl
theorem D26 : T.d 26 = .slice 22 := by kernel_rfl
theorem T27 : T 27 = some ⟨.func, 1, 8, [.nilF]⟩ := by kernel_rfl
theorem D27 : T.d 27 = .func := by kernel_rfl
theorem T28 : T 28 = some ⟨.func, 1, 8, [.nilF]⟩ := by kernel_rfl
theorem D28 : T.d 28 = .func := by kernel_rfl
theorem T29 : T 29 = some ⟨.func, 1, 8, [.nilF]⟩ := by kernel_rfl
theorem D29 : T.d 29 = .func := by kernel_rfl
theorem T30 : T 30 = some ⟨.func, 1, 8, [.nilF]⟩ := by kernel_rfl
theorem D30 : T.d 30 = .func := by kernel_rfl
theorem T31 : T 31 = some ⟨.func, 1, 8, [.nilF]⟩ := by kernel_rfl
theorem D31 : T.d 31 = .func := by kernel_rfl
theorem T32 : T 32 = some ⟨.func, 1, 8, [.nilF]⟩ := by kernel_rfl
theorem D32 : T.d 32 = .func := by kernel_rfl
theorem T33 : T 33 = some ⟨.func, 1, 8, [.nilF]⟩ := by kernel_rfl
theorem D33 : T.d 33 = .func := by kernel_rfl
theorem T34 : T 34 = some ⟨.func, 1, 8, [.nilF]⟩ := by kernel_rfl
theorem D34 : T.d 34 = .func := by kernel_rfl
theorem T35 : T 35 = some ⟨.func, 1, 8, [.nilF]⟩ := by kernel_rfl
theorem D35 : T.d 35 = .func := by kernel_rfl
theorem T36 : T 36 = some ⟨.func, 1, 8, [.nilF]⟩ := by kernel_rfl
theorem D36 : T.d 36 = .func := by kernel_rfl
theorem T37 : T 37 = some ⟨.func, 1, 8, [.nilF]⟩ := by kernel_rfl
theorem D37 : T.d 37 = .func := by kernel_rfl
theorem T38 : T 38 = some ⟨.slice 2, 1, 24, [.nilS]⟩ := by kernel_rfl
theorem D38 : T.d 38 = .slice 2 := by kernel_rfl
theorem T39 : T 39 = some ⟨.struct [(0, 22), (1, 38)], 2, 48, [.nilS, .nilS]⟩ := by kernel_rfl
theorem D39 : T.d 39 = .struct [(0, 22), (1, 38)] := by kernel_rfl
theorem T40 : T 40 = some ⟨.struct [(0, 22), (1, 38)], 2, 48, [.nilS, .nilS]⟩ := by kernel_rfl
theorem D40 : T.d 40 = .struct [(0, 22), (1, 38)] := by kernel_rfl
theorem T42 : T 42 = some ⟨.func, 1, 8, [.nilF]⟩ := by kernel_rfl
theorem D42 : T.d 42 = .func := by kernel_rfl
theorem T43 : T 43 = some ⟨.func, 1, 8, [.nilF]⟩ := by kernel_rfl
theorem D43 : T.d 43 = .func := by kernel_rfl
theorem T44 : T 44 = some ⟨.func, 1, 8, [.nilF]⟩ := by kernel_rfl
theorem D44 : T.d 44 = .func := by kernel_rfl
theorem T45 : T 45 = some ⟨.slice 40, 1, 24, [.nilS]⟩ := by kernel_rfl
theorem D45 : T.d 45 = .slice 40 := by kernel_rfl
theorem T46 : T 46 = some ⟨.int .i64, 1, 8, [.int .i64 0]⟩ := by kernel_rfl
theorem D46 : T.d 46 = .int .i64 := by kernel_rfl
theorem T48 : T 48 = some ⟨.func, 1, 8, [.nilF]⟩ := by kernel_rfl
theorem D48 : T.d 48 = .func := by kernel_rfl
theorem T49 : T 49 = some ⟨.func, 1, 8, [.nilF]⟩ := by kernel_rfl
theorem D49 : T.d 49 = .func := by kernel_rfl
theorem T50 : T 50 = some ⟨.func, 1, 8, [.nilF]⟩ := by kernel_rfl
theorem D50 : T.d 50 = .func := by kernel_rfl
theorem T52 : T 52 = some ⟨.func, 1, 8, [.nilF]⟩ := by kernel_rfl
theorem D52 : T.d 52 = .func := by kernel_rfl
theorem T53 : T 53 = some ⟨.func, 1, 8, [.nilF]⟩ := by kernel_rfl
theorem D53 : T.d 53 = .func := by kernel_rfl
theorem T55 : T 55 = some ⟨.func, 1, 8, [.nilF]⟩ := by kernel_rfl
theorem D55 : T.d 55 = .func := by kernel_rfl
theorem T56 : T 56 = some ⟨.func, 1, 8, [.nilF]⟩ := by kernel_rfl
theorem D56 : T.d 56 = .func := by kernel_rfl
theorem T57 : T 57 = some ⟨.func, 1, 8, [.nilF]⟩ := by kernel_rfl
theorem D57 : T.d 57 = .func := by kernel_rfl
theorem T58 : T 58 = some ⟨.func, 1, 8, [.nilF]⟩ := by kernel_rfl
theorem D58 : T.d 58 = .func := by kernel_rfl
theorem T59 : T 59 = some ⟨.ptr 64, 1, 8, [.nilP]⟩ := by kernel_rfl
theorem D59 : T.d 59 = .ptr 64 := by kernel_rfl
theorem T60 : T 60 = some ⟨.func, 1, 8, [.nilF]⟩ := by kernel_rfl
theorem D60 : T.d 60 = .func := by kernel_rfl
theorem T61 : T 61 = some ⟨.ptr 135, 1, 8, [.nilP]⟩ := by kernel_rfl
theorem D61 : T.d 61 = .ptr 135 := by kernel_rfl
theorem T62 : T 62 = some ⟨.slice 45, 1, 24, [.nilS]⟩ := by kernel_rfl
theorem D62 : T.d 62 = .slice 45 := by kernel_rfl
theorem T63 : T 63 = some ⟨.struct [(0, 61), (1, 62), (2, 22), (3, 3)], 4, 64, [.nilP, .nilS, .nilS, .int .i64 0]⟩ := by kernel_rfl
theorem D63 : T.d 63 = .struct [(0, 61), (1, 62), (2, 22), (3, 3)] := by kernel_rfl
theorem T64 : T 64 = some ⟨.struct [(0, 61), (1, 62), (2, 22), (3, 3)], 4, 64, [.nilP, .nilS, .nilS, .int .i64 0]⟩ := by kernel_rfl
theorem D64 : T.d 64 = .struct [(0, 61), (1, 62), (2, 22), (3, 3)] := by kernel_rfl
theorem T66 : T 66 = some ⟨.func, 1, 8, [.nilF]⟩ := by kernel_rfl
theorem D66 : T.d 66 = .func := by kernel_rfl
theorem T67 : T 67 = some ⟨.ptr 77, 1, 8, [.nilP]⟩ := by kernel_rfl
theorem D67 : T.d 67 = .ptr 77 := by kernel_rfl
theorem T69 : T 69 = some ⟨.func, 1, 8, [.nilF]⟩ := by kernel_rfl
theorem D69 : T.d 69 = .func := by kernel_rfl
theorem T70 : T 70 = some ⟨.slice 141, 1, 24, [.nilS]⟩ := by kernel_rfl
theorem D70 : T.d 70 = .slice 141 := by kernel_rfl
theorem T71 : T 71 = some ⟨.func, 1, 8, [.nilF]⟩ := by kernel_rfl
theorem D71 : T.d 71 = .func := by kernel_rfl
theorem T73 : T 73 = some ⟨.slice 72, 1, 24, [.nilS]⟩ := by kernel_rfl
theorem D73 : T.d 73 = .slice 72 := by kernel_rfl
theorem T74 : T 74 = some ⟨.slice 169, 1, 24, [.nilS]⟩ := by kernel_rfl
theorem D74 : T.d 74 = .slice 169 := by kernel_rfl
theorem T75 : T 75 = some ⟨.slice 46, 1, 24, [.nilS]⟩ := by kernel_rfl
theorem D75 : T.d 75 = .slice 46 := by kernel_rfl
theorem T76 : T 76 = some ⟨.struct [(0, 70), (1, 62), (2, 73), (3, 22), (4, 74), (5, 3), (6, 75)], 7, 152, [.nilS, .nilS, .nilS, .nilS, .nilS, .int .i64 0, .nilS]⟩ := by kernel_rfl
theorem D76 : T.d 76 = .struct [(0, 70), (1, 62), (2, 73), (3, 22), (4, 74), (5, 3), (6, 75)] := by kernel_rfl
theorem T77 : T 77 = some ⟨.struct [(0, 70), (1, 62), (2, 73), (3, 22), (4, 74), (5, 3), (6, 75)], 7, 152, [.nilS, .nilS, .nilS, .nilS, .nilS, .int .i64 0, .nilS]⟩ := by kernel_rfl
theorem D77 : T.d 77 = .struct [(0, 70), (1, 62), (2, 73), (3, 22), (4, 74), (5, 3), (6, 75)] := by kernel_rfl
theorem T79 : T 79 = some ⟨.func, 1, 8, [.nilF]⟩ := by kernel_rfl
theorem D79 : T.d 79 = .func := by kernel_rfl
theorem T80 : T 80 = some ⟨.func, 1, 8, [.nilF]⟩ := by kernel_rfl
theorem D80 : T.d 80 = .func := by kernel_rfl
theorem T81 : T 81 = some ⟨.func, 1, 8, [.nilF]⟩ := by kernel_rfl
theorem D81 : T.d 81 = .func := by kernel_rfl
theorem T82 : T 82 = some ⟨.slice 4, 1, 24, [.nilS]⟩ := by kernel_rfl
theorem D82 : T.d 82 = .slice 4 := by kernel_rfl
theorem T83 : T 83 = some ⟨.slice 86, 1, 24, [.nilS]⟩ := by kernel_rfl
theorem D83 : T.d 83 = .slice 86 := by kernel_rfl
theorem T85 : T 85 = some ⟨.func, 1, 8, [.nilF]⟩ := by kernel_rfl
theorem D85 : T.d 85 = .func := by kernel_rfl
theorem T86 : T 86 = some ⟨.array 2 3, 2, 16, [.int .i64 0, .int .i64 0]⟩ := by kernel_rfl
theorem D86 : T.d 86 = .array 2 3 := by kernel_rfl
theorem T87 : T 87 = some ⟨.func, 1, 8, [.nilF]⟩ := by kernel_rfl
theorem D87 : T.d 87 = .func := by kernel_rfl
theorem T88 : T 88 = some ⟨.func, 1, 8, [.nilF]⟩ := by kernel_rfl
theorem D88 : T.d 88 = .func := by kernel_rfl
theorem T90 : T 90 = some ⟨.func, 1, 8, [.nilF]⟩ := by kernel_rfl
theorem D90 : T.d 90 = .func := by kernel_rfl
theorem T91 : T 91 = some ⟨.func, 1, 8, [.nilF]⟩ := by kernel_rfl
theorem D91 : T.d 91 = .func := by kernel_rfl
theorem T92 : T 92 = some ⟨.func, 1, 8, [.nilF]⟩ := by kernel_rfl
theorem D92 : T.d 92 = .func := by kernel_rfl
theorem T93 : T 93 = some ⟨.func, 1, 8, [.nilF]⟩ := by kernel_rfl
theorem D93 : T.d 93 = .func := by kernel_rfl
theorem T94 : T 94 = some ⟨.func, 1, 8, [.nilF]⟩ := by kernel_rfl
theorem D94 : T.d 94 = .func := by kernel_rfl
theorem T95 : T 95 = some ⟨.func, 1, 8, [.nilF]⟩ := by kernel_rfl
theorem D95 : T.d 95 = .func := by kernel_rfl
theorem T96 : T 96 = some ⟨.func, 1, 8, [.nilF]⟩ := by kernel_rfl
theorem D96 : T.d 96 = .func := by kernel_rfl
theorem T97 : T 97 = some ⟨.func, 1, 8, [.nilF]⟩ := by kernel_rfl
theorem D97 : T.d 97 = .func := by kernel_rfl
theorem T98 : T 98 = some ⟨.func, 1, 8, [.nilF]⟩ := by kernel_rfl
theorem D98 : T.d 98 = .func := by kernel_rfl
theorem T99 : T 99 = some ⟨.func, 1, 8, [.nilF]⟩ := by kernel_rfl
theorem D99 : T.d 99 = .func := by kernel_rfl
theorem T100 : T 100 = some ⟨.struct [(0, 3), (1, 22), (2, 22), (3, 22), (4, 2), (5, 3), (6, 9)], 7, 112, [.int .i64 0, .nilS, .nilS, .nilS, .int .i64 0, .int .i64 0, .str .empty]⟩ := by kernel_rfl
theorem D100 : T.d 100 = .struct [(0, 3), (1, 22), (2, 22), (3, 22), (4, 2), (5, 3), (6, 9)] := by kernel_rfl
theorem T101 : T 101 = some ⟨.struct [(0, 3), (1, 22), (2, 22), (3, 22), (4, 2), (5, 3), (6, 9)], 7, 112, [.int .i64 0, .nilS, .nilS, .nilS, .int .i64 0, .int .i64 0, .str .empty]⟩ := by kernel_rfl
theorem D101 : T.d 101 = .struct [(0, 3), (1, 22), (2, 22), (3, 22), (4, 2), (5, 3), (6, 9)] := by kernel_rfl
theorem T102 : T 102 = some ⟨.struct [(0, 3), (1, 3), (2, 22), (3, 101), (10, 3), (11, 3), (12, 3)], 13, 176, [.int .i64 0, .int .i64 0, .nilS, .int .i64 0, .nilS, .nilS, .nilS, .int .i64 0, .int .i64 0, .str .empty, .int .i64 0, .int .i64 0, .int .i64 0]⟩ := by kernel_rfl
theorem D102 : T.d 102 = .struct [(0, 3), (1, 3), (2, 22), (3, 101), (10, 3), (11, 3), (12, 3)] := by kernel_rfl
theorem T103 : T 103 = some ⟨.struct [(0, 3), (1, 3), (2, 22), (3, 101), (10, 3), (11, 3), (12, 3)], 13, 176, [.int .i64 0, .int .i64 0, .nilS, .int .i64 0, .nilS, .nilS, .nilS, .int .i64 0, .int .i64 0, .str .empty, .int .i64 0, .int .i64 0, .int .i64 0]⟩ := by kernel_rfl
theorem D103 : T.d 103 = .struct [(0, 3), (1, 3), (2, 22), (3, 101), (10, 3), (11, 3), (12, 3)] := by kernel_rfl
theorem T104 : T 104 = some ⟨.func, 1, 8, [.nilF]⟩ := by kernel_rfl
theorem D104 : T.d 104 = .func := by kernel_rfl
theorem T106 : T 106 = some ⟨.func, 1, 8, [.nilF]⟩ := by kernel_rfl
theorem D106 : T.d 106 = .func := by kernel_rfl
theorem T107 : T 107 = some ⟨.func, 1, 8, [.nilF]⟩ := by kernel_rfl
theorem D107 : T.d 107 = .func := by kernel_rfl
theorem T108 : T 108 = some ⟨.func, 1, 8, [.nilF]⟩ := by kernel_rfl
theorem D108 : T.d 108 = .func := by kernel_rfl
theorem T109 : T 109 = some ⟨.func, 1, 8, [.nilF]⟩ := by kernel_rfl
theorem D109 : T.d 109 = .func := by kernel_rfl
theorem T110 : T 110 = some ⟨.func, 1, 8, [.nilF]⟩ := by kernel_rfl
theorem D110 : T.d 110 = .func := by kernel_rfl
theorem T111 : T 111 = some ⟨.func, 1, 8, [.nilF]⟩ := by kernel_rfl
theorem D111 : T.d 111 = .func := by kernel_rfl
theorem T112 : T 112 = some ⟨.func, 1, 8, [.nilF]⟩ := by kernel_rfl
theorem D112 : T.d 112 = .func := by kernel_rfl
theorem T113 : T 113 = some ⟨.func, 1, 8, [.nilF]⟩ := by kernel_rfl
theorem D113 : T.d 113 = .func := by kernel_rfl
theorem T114 : T 114 = some ⟨.func, 1, 8, [.nilF]⟩ := by kernel_rfl
theorem D114 : T.d 114 = .func := by kernel_rfl
theorem T115 : T 115 = some ⟨.func, 1, 8, [.nilF]⟩ := by kernel_rfl
theorem D115 : T.d 115 = .func := by kernel_rfl
theorem T116 : T 116 = some ⟨.func, 1, 8, [.nilF]⟩ := by kernel_rfl
theorem D116 : T.d 116 = .func := by kernel_rfl
theorem T117 : T 117 = some ⟨.func, 1, 8, [.nilF]⟩ := by kernel_rfl
theorem D117 : T.d 117 = .func := by kernel_rfl
theorem T118 : T 118 = some ⟨.slice 120, 1, 24, [.nilS]⟩ := by kernel_rfl
theorem D118 : T.d 118 = .slice 120 := by kernel_rfl
theorem T119 : T 119 = some ⟨.struct [(0, 3), (1, 3), (2, 3), (3, 3)], 4, 32, [.int .i64 0, .int .i64 0, .int .i64 0, .int .i64 0]⟩ := by kernel_rfl
theorem D119 : T.d 119 = .struct [(0, 3), (1, 3), (2, 3), (3, 3)] := by kernel_rfl
theorem T120 : T 120 = some ⟨.struct [(0, 3), (1, 3), (2, 3), (3, 3)], 4, 32, [.int .i64 0, .int .i64 0, .int .i64 0, .int .i64 0]⟩ := by kernel_rfl
theorem D120 : T.d 120 = .struct [(0, 3), (1, 3), (2, 3), (3, 3)] := by kernel_rfl
theorem T121 : T 121 = some ⟨.func, 1, 8, [.nilF]⟩ := by kernel_rfl
theorem D121 : T.d 121 = .func := by kernel_rfl
theorem T122 : T 122 = some ⟨.func, 1, 8, [.nilF]⟩ := by kernel_rfl
theorem D122 : T.d 122 = .func := by kernel_rfl
theorem T123 : T 123 = some ⟨.func, 1, 8, [.nilF]⟩ := by kernel_rfl
theorem D123 : T.d 123 = .func := by kernel_rfl
theorem T124 : T 124 = some ⟨.func, 1, 8, [.nilF]⟩ := by kernel_rfl
theorem D124 : T.d 124 = .func := by kernel_rfl
theorem T125 : T 125 = some ⟨.func, 1, 8, [.nilF]⟩ := by kernel_rfl
theorem D125 : T.d 125 = .func := by kernel_rfl
theorem T126 : T 126 = some ⟨.func, 1, 8, [.nilF]⟩ := by kernel_rfl
theorem D126 : T.d 126 = .func := by kernel_rfl
theorem T128 : T 128 = some ⟨.func, 1, 8, [.nilF]⟩ := by kernel_rfl
theorem D128 : T.d 128 = .func := by kernel_rfl
theorem T130 : T 130 = some ⟨.func, 1, 8, [.nilF]⟩ := by kernel_rfl
theorem D130 : T.d 130 = .func := by kernel_rfl
theorem T131 : T 131 = some ⟨.func, 1, 8, [.nilF]⟩ := by kernel_rfl
theorem D131 : T.d 131 = .func := by kernel_rfl
theorem T133 : T 133 = some ⟨.func, 1, 8, [.nilF]⟩ := by kernel_rfl
theorem D133 : T.d 133 = .func := by kernel_rfl
theorem T134 : T 134 = some ⟨.struct [(0, 70), (1, 22), (2, 3)], 3, 56, [.nilS, .nilS, .int .i64 0]⟩ := by kernel_rfl
theorem D134 : T.d 134 = .struct [(0, 70), (1, 22), (2, 3)] := by kernel_rfl
theorem T135 : T 135 = some ⟨.struct [(0, 70), (1, 22), (2, 3)], 3, 56, [.nilS, .nilS, .int .i64 0]⟩ := by kernel_rfl
theorem D135 : T.d 135 = .struct [(0, 70), (1, 22), (2, 3)] := by kernel_rfl
theorem T136 : T 136 = some ⟨.func, 1, 8, [.nilF]⟩ := by kernel_rfl
theorem D136 : T.d 136 = .func := by kernel_rfl
theorem T137 : T 137 = some ⟨.func, 1, 8, [.nilF]⟩ := by kernel_rfl
theorem D137 : T.d 137 = .func := by kernel_rfl
theorem T138 : T 138 = some ⟨.func, 1, 8, [.nilF]⟩ := by kernel_rfl
theorem D138 : T.d 138 = .func := by kernel_rfl
theorem T139 : T 139 = some ⟨.func, 1, 8, [.nilF]⟩ := by kernel_rfl
theorem D139 : T.d 139 = .func := by kernel_rfl
theorem T140 : T 140 = some ⟨.slice 103, 1, 24, [.nilS]⟩ := by kernel_rfl
theorem D140 : T.d 140 = .slice 103 := by kernel_rfl
theorem T141 : T 141 = some ⟨.slice 103, 1, 24, [.nilS]⟩ := by kernel_rfl
theorem D141 : T.d 141 = .slice 103 := by kernel_rfl
theorem T142 : T 142 = some ⟨.func, 1, 8, [.nilF]⟩ := by kernel_rfl
theorem D142 : T.d 142 = .func := by kernel_rfl
theorem T143 : T 143 = some ⟨.func, 1, 8, [.nilF]⟩ := by kernel_rfl
theorem D143 : T.d 143 = .func := by kernel_rfl
theorem T144 : T 144 = some ⟨.func, 1, 8, [.nilF]⟩ := by kernel_rfl
theorem D144 : T.d 144 = .func := by kernel_rfl
theorem T145 : T 145 = some ⟨.func, 1, 8, [.nilF]⟩ := by kernel_rfl
theorem D145 : T.d 145 = .func := by kernel_rfl
theorem T146 : T 146 = some ⟨.func, 1, 8, [.nilF]⟩ := by kernel_rfl
theorem D146 : T.d 146 = .func := by kernel_rfl
theorem T147 : T 147 = some ⟨.func, 1, 8, [.nilF]⟩ := by kernel_rfl
theorem D147 : T.d 147 = .func := by kernel_rfl
theorem T148 : T 148 = some ⟨.func, 1, 8, [.nilF]⟩ := by kernel_rfl
theorem D148 : T.d 148 = .func := by kernel_rfl
theorem T149 : T 149 = some ⟨.func, 1, 8, [.nilF]⟩ := by kernel_rfl
theorem D149 : T.d 149 = .func := by kernel_rfl
theorem T150 : T 150 = some ⟨.func, 1, 8, [.nilF]⟩ := by kernel_rfl
theorem D150 : T.d 150 = .func := by kernel_rfl
theorem T151 : T 151 = some ⟨.func, 1, 8, [.nilF]⟩ := by kernel_rfl
theorem D151 : T.d 151 = .func := by kernel_rfl
theorem T152 : T 152 = some ⟨.struct [(0, 22), (1, 22), (2, 22), (3, 22), (4, 22)], 5, 120, [.nilS, .nilS, .nilS, .nilS, .nilS]⟩ := by kernel_rfl
theorem D152 : T.d 152 = .struct [(0, 22), (1, 22), (2, 22), (3, 22), (4, 22)] := by kernel_rfl
theorem T153 : T 153 = some ⟨.struct [(0, 22), (1, 22), (2, 22), (3, 22), (4, 22)], 5, 120, [.nilS, .nilS, .nilS, .nilS, .nilS]⟩ := by kernel_rfl
theorem D153 : T.d 153 = .struct [(0, 22), (1, 22), (2, 22), (3, 22), (4, 22)] := by kernel_rfl
theorem T154 : T 154 = some ⟨.func, 1, 8, [.nilF]⟩ := by kernel_rfl
theorem D154 : T.d 154 = .func := by kernel_rfl
theorem T155 : T 155 = some ⟨.func, 1, 8, [.nilF]⟩ := by kernel_rfl
theorem D155 : T.d 155 = .func := by kernel_rfl
theorem T157 : T 157 = some ⟨.func, 1, 8, [.nilF]⟩ := by kernel_rfl
theorem D157 : T.d 157 = .func := by kernel_rfl
theorem T158 : T 158 = some ⟨.func, 1, 8, [.nilF]⟩ := by kernel_rfl
theorem D158 : T.d 158 = .func := by kernel_rfl
theorem T159 : T 159 = some ⟨.int .u64, 1, 8, [.int .u64 0]⟩ := by kernel_rfl
theorem D159 : T.d 159 = .int .u64 := by kernel_rfl
theorem T161 : T 161 = some ⟨.func, 1, 8, [.nilF]⟩ := by kernel_rfl
theorem D161 : T.d 161 = .func := by kernel_rfl
theorem T162 : T 162 = some ⟨.func, 1, 8, [.nilF]⟩ := by kernel_rfl
theorem D162 : T.d 162 = .func := by kernel_rfl
theorem T163 : T 163 = some ⟨.func, 1, 8, [.nilF]⟩ := by kernel_rfl
theorem D163 : T.d 163 = .func := by kernel_rfl
theorem T164 : T 164 = some ⟨.func, 1, 8, [.nilF]⟩ := by kernel_rfl
theorem D164 : T.d 164 = .func := by kernel_rfl
theorem T165 : T 165 = some ⟨.func, 1, 8, [.nilF]⟩ := by kernel_rfl
theorem D165 : T.d 165 = .func := by kernel_rfl
theorem T166 : T 166 = some ⟨.func, 1, 8, [.nilF]⟩ := by kernel_rfl
theorem D166 : T.d 166 = .func := by kernel_rfl
theorem T167 : T 167 = some ⟨.func, 1, 8, [.nilF]⟩ := by kernel_rfl
theorem D167 : T.d 167 = .func := by kernel_rfl
theorem T168 : T 168 = some ⟨.struct [(0, 3), (1, 3), (2, 3), (3, 40)], 5, 72, [.int .i64 0, .int .i64 0, .int .i64 0, .nilS, .nilS]⟩ := by kernel_rfl
theorem D168 : T.d 168 = .struct [(0, 3), (1, 3), (2, 3), (3, 40)] := by kernel_rfl
theorem T169 : T 169 = some ⟨.struct [(0, 3), (1, 3), (2, 3), (3, 40)], 5, 72, [.int .i64 0, .int .i64 0, .int .i64 0, .nilS, .nilS]⟩ := by kernel_rfl
theorem D169 : T.d 169 = .struct [(0, 3), (1, 3), (2, 3), (3, 40)] := by kernel_rfl
theorem T170 : T 170 = some ⟨.func, 1, 8, [.nilF]⟩ := by kernel_rfl
theorem D170 : T.d 170 = .func := by kernel_rfl
theorem T171 : T 171 = some ⟨.func, 1, 8, [.nilF]⟩ := by kernel_rfl
theorem D171 : T.d 171 = .func := by kernel_rfl
theorem T172 : T 172 = some ⟨.func, 1, 8, [.nilF]⟩ := by kernel_rfl
theorem D172 : T.d 172 = .func := by kernel_rfl
theorem T173 : T 173 = some ⟨.int .u32, 1, 4, [.int .u32 0]⟩ := by kernel_rfl
theorem D173 : T.d 173 = .int .u32 := by kernel_rfl
theorem T175 : T 175 = some ⟨.func, 1, 8, [.nilF]⟩ := by kernel_rfl
theorem D175 : T.d 175 = .func := by kernel_rfl
theorem T176 : T 176 = some ⟨.int .u64, 1, 8, [.int .u64 0]⟩ := by kernel_rfl
theorem D176 : T.d 176 = .int .u64 := by kernel_rfl
theorem T178 : T 178 = some ⟨.func, 1, 8, [.nilF]⟩ := by kernel_rfl
theorem D178 : T.d 178 = .func := by kernel_rfl
theorem T180 : T 180 = some ⟨.func, 1, 8, [.nilF]⟩ := by kernel_rfl
theorem D180 : T.d 180 = .func := by kernel_rfl
theorem T181 : T 181 = some ⟨.func, 1, 8, [.nilF]⟩ := by kernel_rfl
theorem D181 : T.d 181 = .func := by kernel_rfl
theorem T182 : T 182 = some ⟨.func, 1, 8, [.nilF]⟩ := by kernel_rfl
theorem D182 : T.d 182 = .func := by kernel_rfl
theorem T183 : T 183 = some ⟨.func, 1, 8, [.nilF]⟩ := by kernel_rfl
theorem D183 : T.d 183 = .func := by kernel_rfl
theorem T184 : T 184 = some ⟨.func, 1, 8, [.nilF]⟩ := by kernel_rfl
theorem D184 : T.d 184 = .func := by kernel_rfl
theorem T185 : T 185 = some ⟨.func, 1, 8, [.nilF]⟩ := by kernel_rfl
theorem D185 : T.d 185 = .func := by kernel_rfl
theorem T186 : T 186 = some ⟨.func, 1, 8, [.nilF]⟩ := by kernel_rfl
theorem D186 : T.d 186 = .func := by kernel_rfl
theorem T187 : T 187 = some ⟨.func, 1, 8, [.nilF]⟩ := by kernel_rfl
theorem D187 : T.d 187 = .func := by kernel_rfl
theorem T188 : T 188 = some ⟨.func, 1, 8, [.nilF]⟩ := by kernel_rfl
theorem D188 : T.d 188 = .func := by kernel_rfl
theorem T189 : T 189 = some ⟨.func, 1, 8, [.nilF]⟩ := by kernel_rfl
theorem D189 : T.d 189 = .func := by kernel_rfl
theorem T190 : T 190 = some ⟨.func, 1, 8, [.nilF]⟩ := by kernel_rfl
theorem D190 : T.d 190 = .func := by kernel_rfl
theorem T191 : T 191 = some ⟨.func, 1, 8, [.nilF]⟩ := by kernel_rfl
theorem D191 : T.d 191 = .func := by kernel_rfl
theorem T192 : T 192 = some ⟨.func, 1, 8, [.nilF]⟩ := by kernel_rfl
theorem D192 : T.d 192 = .func := by kernel_rfl
theorem T193 : T 193 = some ⟨.func, 1, 8, [.nilF]⟩ := by kernel_rfl
theorem D193 : T.d 193 = .func := by kernel_rfl
theorem T194 : T 194 = some ⟨.func, 1, 8, [.nilF]⟩ := by kernel_rfl
theorem D194 : T.d 194 = .func := by kernel_rfl
theorem T196 : T 196 = some ⟨.func, 1, 8, [.nilF]⟩ := by kernel_rfl
theorem D196 : T.d 196 = .func := by kernel_rfl
theorem T197 : T 197 = some ⟨.func, 1, 8, [.nilF]⟩ := by kernel_rfl
theorem D197 : T.d 197 = .func := by kernel_rfl
theorem T198 : T 198 = some ⟨.func, 1, 8, [.nilF]⟩ := by kernel_rfl
theorem D198 : T.d 198 = .func := by kernel_rfl
theorem T199 : T 199 = some ⟨.func, 1, 8, [.nilF]⟩ := by kernel_rfl
theorem D199 : T.d 199 = .func := by kernel_rfl
theorem T200 : T 200 = some ⟨.func, 1, 8, [.nilF]⟩ := by kernel_rfl
theorem D200 : T.d 200 = .func := by kernel_rfl
theorem T201 : T 201 = some ⟨.func, 1, 8, [.nilF]⟩ := by kernel_rfl
theorem D201 : T.d 201 = .func := by kernel_rfl
theorem T202 : T 202 = some ⟨.struct [(0, 17), (1, 17), (2, 17), (3, 9)], 4, 40, [.nilP, .nilP, .nilP, .str .empty]⟩ := by kernel_rfl
theorem D202 : T.d 202 = .struct [(0, 17), (1, 17), (2, 17), (3, 9)] := by kernel_rfl
theorem T203 : T 203 = some ⟨.struct [(0, 17), (1, 17), (2, 17), (3, 9)], 4, 40, [.nilP, .nilP, .nilP, .str .empty]⟩ := by kernel_rfl
theorem D203 : T.d 203 = .struct [(0, 17), (1, 17), (2, 17), (3, 9)] := by kernel_rfl
theorem T204 : T 204 = some ⟨.array 0 16, 0, 0, []⟩ := by kernel_rfl
theorem D204 : T.d 204 = .array 0 16 := by kernel_rfl
theorem T205 : T 205 = some ⟨.struct [(0, 204)], 0, 0, []⟩ := by kernel_rfl
theorem D205 : T.d 205 = .struct [(0, 204)] := by kernel_rfl
theorem T206 : T 206 = some ⟨.struct [(0, 204)], 0, 0, []⟩ := by kernel_rfl
theorem D206 : T.d 206 = .struct [(0, 204)] := by kernel_rfl
theorem T207 : T 207 = some ⟨.int .u8, 1, 1, [.int .u8 0]⟩ := by kernel_rfl
theorem D207 : T.d 207 = .int .u8 := by kernel_rfl
theorem T208 : T 208 = some ⟨.int .u8, 1, 1, [.int .u8 0]⟩ := by kernel_rfl
theorem D208 : T.d 208 = .int .u8 := by kernel_rfl
theorem T209 : T 209 = some ⟨.func, 1, 8, [.nilF]⟩ := by kernel_rfl
theorem D209 : T.d 209 = .func := by kernel_rfl
theorem T210 : T 210 = some ⟨.ptr 5, 1, 8, [.nilP]⟩ := by kernel_rfl
theorem D210 : T.d 210 = .ptr 5 := by kernel_rfl
theorem T211 : T 211 = some ⟨.int .i32, 1, 4, [.int .i32 0]⟩ := by kernel_rfl
theorem D211 : T.d 211 = .int .i32 := by kernel_rfl
theorem T212 : T 212 = some ⟨.int .i32, 1, 4, [.int .i32 0]⟩ := by kernel_rfl
theorem D212 : T.d 212 = .int .i32 := by kernel_rfl
theorem T213 : T 213 = some ⟨.struct [(0, 12), (1, 12), (2, 173), (3, 207), (4, 5), (5, 5), (6, 208), (7, 209), (8, 210), (9, 211), (10, 212)], 11, 48, [.int .u64 0, .int .u64 0, .int .u32 0, .int .u8 0, .int .u8 0, .int .u8 0, .int .u8 0, .nilF, .nilP, .int .i32 0, .int .i32 0]⟩ := by kernel_rfl
theorem D213 : T.d 213 = .struct [(0, 12), (1, 12), (2, 173), (3, 207), (4, 5), (5, 5), (6, 208), (7, 209), (8, 210), (9, 211), (10, 212)] := by kernel_rfl
theorem T214 : T 214 = some ⟨.struct [(0, 12), (1, 12), (2, 173), (3, 207), (4, 5), (5, 5), (6, 208), (7, 209), (8, 210), (9, 211), (10, 212)], 11, 48, [.int .u64 0, .int .u64 0, .int .u32 0, .int .u8 0, .int .u8 0, .int .u8 0, .int .u8 0, .nilF, .nilP, .int .i32 0, .int .i32 0]⟩ := by kernel_rfl
theorem D214 : T.d 214 = .struct [(0, 12), (1, 12), (2, 173), (3, 207), (4, 5), (5, 5), (6, 208), (7, 209), (8, 210), (9, 211), (10, 212)] := by kernel_rfl
set_option maxRecDepth 100000 in
theorem hT : TOK Try.prog T := tok_list (by kernel_rfl)
end Go.Proofs.Ytokadkakmhfdeaa.Pq
