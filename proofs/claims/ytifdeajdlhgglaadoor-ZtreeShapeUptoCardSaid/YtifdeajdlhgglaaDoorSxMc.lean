/- A part of the proof, merged from several texts. -/
import Derived.Test.YtifdeajdlhgglaaDoorSxMb
import Derived.Test.YtifdeajdlhgglaaDoorProg
import Derived.Test.YtifdeajdlhgglaaDoorZLaw
namespace Go.Proofs.YtifdeajdlhgglaaDoor
set_option maxRecDepth 100000 in
def tab : List (Nat × TI) := [
 (1, ⟨false, [.v (.nilFunc)], none, [], false, none, .fn⟩),
 (2, ⟨false, [.v (.int .i64 0)], none, [], false, some .i64, .no⟩),
 (3, ⟨false, [.v (.int .i64 0)], none, [], false, some .i64, .no⟩),
 (4, ⟨false, [.ff], none, [], false, none, .bool⟩),
 (5, ⟨false, [.v (.int .u8 0)], none, [], false, some .u8, .no⟩),
 (6, ⟨false, [.v (.int .u8 0)], none, [], false, some .u8, .no⟩),
 (7, ⟨true, [.v (.int .i64 0), .v (.int .i64 0), .ff, .v (.int .u8 0)], none, [(2, 0), (3, 1), (4, 2), (6, 3)], false, none, .no⟩),
 (8, ⟨true, [.v (.int .i64 0), .v (.int .i64 0), .ff, .v (.int .u8 0)], none, [(2, 0), (3, 1), (4, 2), (6, 3)], false, none, .no⟩),
 (9, ⟨false, [.v (.string ⟨#[]⟩)], none, [], true, none, .no⟩),
 (10, ⟨false, [.v (.string ⟨#[]⟩)], none, [], true, none, .no⟩),
 (11, ⟨false, [.v (.string ⟨#[]⟩)], none, [], true, none, .no⟩),
 (12, ⟨false, [.v (.int .u64 0)], none, [], false, some .u64, .no⟩),
 (13, ⟨true, [.v (.string ⟨#[]⟩), .v (.int .u64 0)], none, [(9, 0), (12, 1)], false, none, .no⟩),
 (14, ⟨true, [.v (.string ⟨#[]⟩), .v (.int .u64 0)], none, [(9, 0), (12, 1)], false, none, .no⟩),
 (15, ⟨false, [.v (.pointer none)], none, [], false, none, .ptr⟩),
 (16, ⟨false, [.v (.pointer none)], none, [], false, none, .ptr⟩),
 (17, ⟨false, [.v (.pointer none)], none, [], false, none, .ptr⟩),
 (18, ⟨true, [.v (.pointer none)], none, [(17, 0)], false, none, .no⟩),
 (19, ⟨true, [.v (.pointer none)], none, [(17, 0)], false, none, .no⟩),
 (20, ⟨false, [.v (.nilIface)], none, [], false, none, .no⟩),
 (21, ⟨false, [.v (.int .i32 0)], none, [], false, some .i32, .no⟩),
 (22, ⟨false, [.nl], some (28, 4), [], false, none, .no⟩),
 (23, ⟨false, [.v (.pointer none)], none, [], false, none, .ptr⟩),
 (24, ⟨false, [.v (.nilFunc)], none, [], false, none, .fn⟩),
 (25, ⟨false, [.v (.nilFunc)], none, [], false, none, .fn⟩),
 (26, ⟨false, [.nl], some (48, 6), [], false, none, .no⟩),
 (27, ⟨true, [.v (.int .i64 0), .v (.int .i64 0), .v (.int .i64 0), .nl], none, [(3, 0), (3, 1), (3, 2), (26, 3)], false, none, .no⟩),
 (28, ⟨true, [.v (.int .i64 0), .v (.int .i64 0), .v (.int .i64 0), .nl], none, [(3, 0), (3, 1), (3, 2), (26, 3)], false, none, .no⟩),
 (29, ⟨false, [.nl], some (68, 3), [], false, none, .no⟩),
 (30, ⟨false, [.v (.nilFunc)], none, [], false, none, .fn⟩),
 (31, ⟨false, [.nl], some (9, 1), [], false, none, .no⟩),
 (32, ⟨false, [.v (.int .i64 0)], none, [], false, some .i64, .no⟩),
 (34, ⟨false, [.v (.nilFunc)], none, [], false, none, .fn⟩),
 (35, ⟨false, [.nl], some (40, 9), [], false, none, .no⟩),
 (36, ⟨false, [.v (.nilFunc)], none, [], false, none, .fn⟩),
 (37, ⟨true, [.v (.int .i64 0), .v (.int .i64 0), .v (.int .i64 0), .v (.int .i64 0), .v (.int .i64 0), .v (.int .i64 0)], none, [(3, 0), (3, 1), (3, 2), (3, 3), (3, 4), (3, 5)], false, none, .no⟩),
 (38, ⟨true, [.v (.int .i64 0), .v (.int .i64 0), .v (.int .i64 0), .v (.int .i64 0), .v (.int .i64 0), .v (.int .i64 0)], none, [(3, 0), (3, 1), (3, 2), (3, 3), (3, 4), (3, 5)], false, none, .no⟩),
 (39, ⟨true, [.v (.string ⟨#[]⟩), .v (.string ⟨#[]⟩), .v (.int .i64 0), .v (.int .i64 0), .v (.int .i64 0), .v (.int .i64 0), .v (.int .i64 0), .v (.int .i64 0), .v (.int .i64 0)], none, [(9, 0), (9, 1), (38, 2), (3, 8)], false, none, .no⟩),
 (40, ⟨true, [.v (.string ⟨#[]⟩), .v (.string ⟨#[]⟩), .v (.int .i64 0), .v (.int .i64 0), .v (.int .i64 0), .v (.int .i64 0), .v (.int .i64 0), .v (.int .i64 0), .v (.int .i64 0)], none, [(9, 0), (9, 1), (38, 2), (3, 8)], false, none, .no⟩),
 (42, ⟨false, [.v (.nilFunc)], none, [], false, none, .fn⟩),
 (44, ⟨false, [.v (.nilFunc)], none, [], false, none, .fn⟩),
 (45, ⟨false, [.v (.nilFunc)], none, [], false, none, .fn⟩),
 (46, ⟨false, [.v (.nilFunc)], none, [], false, none, .fn⟩),
 (47, ⟨true, [.v (.int .i64 0), .v (.string ⟨#[]⟩), .v (.string ⟨#[]⟩), .v (.int .i64 0), .ff, .ff], none, [(3, 0), (9, 1), (9, 2), (3, 3), (4, 4), (4, 5)], false, none, .no⟩),
 (48, ⟨true, [.v (.int .i64 0), .v (.string ⟨#[]⟩), .v (.string ⟨#[]⟩), .v (.int .i64 0), .ff, .ff], none, [(3, 0), (9, 1), (9, 2), (3, 3), (4, 4), (4, 5)], false, none, .no⟩),
 (49, ⟨false, [.v (.nilFunc)], none, [], false, none, .fn⟩),
 (50, ⟨false, [.v (.map none)], none, [], false, none, .map true 40⟩),
 (51, ⟨true, [.v (.map none)], none, [(50, 0)], false, none, .no⟩),
 (52, ⟨true, [.v (.map none)], none, [(50, 0)], false, none, .no⟩),
 (53, ⟨false, [.v (.nilFunc)], none, [], false, none, .fn⟩),
 (54, ⟨false, [.v (.nilFunc)], none, [], false, none, .fn⟩),
 (55, ⟨false, [.v (.nilFunc)], none, [], false, none, .fn⟩),
 (57, ⟨false, [.v (.nilFunc)], none, [], false, none, .fn⟩),
 (58, ⟨true, [.v (.int .i64 0), .v (.string ⟨#[]⟩), .v (.string ⟨#[]⟩), .v (.int .i64 0), .ff, .ff, .v (.int .i64 0), .v (.int .i64 0)], none, [(48, 0), (3, 6), (3, 7)], false, none, .no⟩),
 (59, ⟨true, [.v (.int .i64 0), .v (.string ⟨#[]⟩), .v (.string ⟨#[]⟩), .v (.int .i64 0), .ff, .ff, .v (.int .i64 0), .v (.int .i64 0)], none, [(48, 0), (3, 6), (3, 7)], false, none, .no⟩),
 (60, ⟨false, [.v (.nilFunc)], none, [], false, none, .fn⟩),
 (61, ⟨false, [.v (.nilFunc)], none, [], false, none, .fn⟩),
 (63, ⟨false, [.v (.nilFunc)], none, [], false, none, .fn⟩),
 (64, ⟨false, [.v (.nilFunc)], none, [], false, none, .fn⟩),
 (65, ⟨false, [.v (.nilFunc)], none, [], false, none, .fn⟩),
 (66, ⟨false, [.v (.nilFunc)], none, [], false, none, .fn⟩),
 (67, ⟨true, [.v (.int .i64 0), .v (.int .i64 0), .v (.string ⟨#[]⟩)], none, [(3, 0), (3, 1), (9, 2)], false, none, .no⟩),
 (68, ⟨true, [.v (.int .i64 0), .v (.int .i64 0), .v (.string ⟨#[]⟩)], none, [(3, 0), (3, 1), (9, 2)], false, none, .no⟩),
 (69, ⟨false, [.v (.nilFunc)], none, [], false, none, .fn⟩),
 (70, ⟨false, [.v (.nilFunc)], none, [], false, none, .fn⟩),
 (72, ⟨false, [.v (.nilFunc)], none, [], false, none, .fn⟩),
 (73, ⟨false, [.v (.nilFunc)], none, [], false, none, .fn⟩),
 (74, ⟨false, [.v (.nilFunc)], none, [], false, none, .fn⟩),
 (75, ⟨false, [.v (.nilFunc)], none, [], false, none, .fn⟩),
 (76, ⟨false, [.v (.nilFunc)], none, [], false, none, .fn⟩),
 (77, ⟨false, [.v (.nilFunc)], none, [], false, none, .fn⟩),
 (78, ⟨false, [.v (.nilFunc)], none, [], false, none, .fn⟩),
 (79, ⟨false, [.v (.nilFunc)], none, [], false, none, .fn⟩),
 (80, ⟨false, [.v (.int .u64 0)], none, [], false, some .u64, .no⟩),
 (81, ⟨false, [.v (.nilFunc)], none, [], false, none, .fn⟩),
 (82, ⟨false, [.v (.nilFunc)], none, [], false, none, .fn⟩),
 (83, ⟨false, [.v (.nilFunc)], none, [], false, none, .fn⟩),
 (84, ⟨false, [.v (.nilFunc)], none, [], false, none, .fn⟩),
 (85, ⟨true, [.v (.int .u8 0), .v (.int .u8 0), .v (.int .u8 0), .v (.int .u8 0), .v (.int .u8 0), .v (.int .u8 0), .v (.int .u8 0), .v (.int .u8 0), .v (.int .u8 0), .v (.int .u8 0)], none, [], false, none, .arr 10 5 1⟩),
 (86, ⟨false, [.nl], some (5, 1), [], false, none, .no⟩),
 (87, ⟨false, [.v (.nilFunc)], none, [], false, none, .fn⟩),
 (88, ⟨false, [.v (.int .i64 0)], none, [], false, some .i64, .no⟩),
 (90, ⟨false, [.v (.nilFunc)], none, [], false, none, .fn⟩),
 (91, ⟨false, [.v (.nilFunc)], none, [], false, none, .fn⟩),
 (92, ⟨false, [.v (.nilFunc)], none, [], false, none, .fn⟩),
 (94, ⟨false, [.v (.nilFunc)], none, [], false, none, .fn⟩),
 (95, ⟨false, [.v (.nilFunc)], none, [], false, none, .fn⟩),
 (96, ⟨false, [.v (.int .u32 0)], none, [], false, some .u32, .no⟩),
 (97, ⟨false, [.v (.nilFunc)], none, [], false, none, .fn⟩),
 (98, ⟨false, [.v (.int .u64 0)], none, [], false, some .u64, .no⟩),
 (99, ⟨false, [.v (.pointer none)], none, [], false, none, .ptr⟩),
 (100, ⟨true, [.v (.pointer none), .nl], none, [(99, 0), (86, 1)], false, none, .no⟩),
 (101, ⟨true, [.v (.pointer none), .nl], none, [(99, 0), (86, 1)], false, none, .no⟩),
 (102, ⟨false, [.v (.nilFunc)], none, [], false, none, .fn⟩),
 (103, ⟨false, [.v (.nilIface)], none, [], false, none, .no⟩),
 (104, ⟨false, [.v (.nilIface)], none, [], false, none, .no⟩),
 (106, ⟨false, [.v (.nilFunc)], none, [], false, none, .fn⟩),
 (107, ⟨false, [.v (.nilFunc)], none, [], false, none, .fn⟩),
 (108, ⟨false, [.v (.nilFunc)], none, [], false, none, .fn⟩),
 (109, ⟨false, [.v (.nilFunc)], none, [], false, none, .fn⟩),
 (110, ⟨false, [.v (.int .u64 0)], none, [], false, some .u64, .no⟩),
 (111, ⟨false, [.v (.nilFunc)], none, [], false, none, .fn⟩),
 (112, ⟨false, [.v (.nilFunc)], none, [], false, none, .fn⟩),
 (113, ⟨false, [.v (.nilFunc)], none, [], false, none, .fn⟩),
 (114, ⟨false, [.v (.pointer none)], none, [], false, none, .ptr⟩),
 (115, ⟨false, [.v (.nilFunc)], none, [], false, none, .fn⟩),
 (116, ⟨false, [.v (.pointer none)], none, [], false, none, .ptr⟩),
 (117, ⟨false, [.v (.nilFunc)], none, [], false, none, .fn⟩),
 (118, ⟨false, [.v (.nilFunc)], none, [], false, none, .fn⟩),
 (119, ⟨false, [.v (.pointer none)], none, [], false, none, .ptr⟩),
 (121, ⟨false, [.v (.nilFunc)], none, [], false, none, .fn⟩),
 (122, ⟨false, [.v (.pointer none)], none, [], false, none, .no⟩),
 (123, ⟨false, [.v (.nilFunc)], none, [], false, none, .fn⟩),
 (124, ⟨false, [.v (.nilFunc)], none, [], false, none, .fn⟩),
 (125, ⟨false, [.v (.nilFunc)], none, [], false, none, .fn⟩),
 (127, ⟨false, [.v (.nilFunc)], none, [], false, none, .fn⟩),
 (128, ⟨false, [.v (.nilFunc)], none, [], false, none, .fn⟩),
 (129, ⟨false, [.v (.nilFunc)], none, [], false, none, .fn⟩),
 (131, ⟨true, [.v (.int .u8 0), .v (.int .u8 0)], none, [(5, 0), (5, 1)], false, none, .no⟩),
 (132, ⟨true, [.v (.int .u8 0), .v (.int .u8 0)], none, [(5, 0), (5, 1)], false, none, .no⟩),
 (133, ⟨true, [.v (.int .u8 0), .v (.int .u8 0), .v (.int .u8 0), .v (.int .u8 0), .v (.int .u8 0), .v (.int .u8 0), .v (.int .u8 0), .v (.int .u8 0), .v (.int .u8 0), .v (.int .u8 0), .v (.int .u8 0), .v (.int .u8 0), .v (.int .u8 0), .v (.int .u8 0), .v (.int .u8 0), .v (.int .u8 0), .v (.int .u8 0), .v (.int .u8 0), .v (.int .u8 0), .v (.int .u8 0), .v (.int .u8 0), .v (.int .u8 0), .v (.int .u8 0), .v (.int .u8 0), .v (.int .u8 0), .v (.int .u8 0), .v (.int .u8 0), .v (.int .u8 0), .v (.int .u8 0), .v (.int .u8 0), .v (.int .u8 0), .v (.int .u8 0)], none, [], false, none, .arr 16 132 2⟩),
 (135, ⟨false, [.v (.nilFunc)], none, [], false, none, .fn⟩),
 (136, ⟨true, [.v (.pointer none), .v (.pointer none), .v (.pointer none), .v (.string ⟨#[]⟩)], none, [(17, 0), (17, 1), (17, 2), (9, 3)], false, none, .no⟩),
 (137, ⟨true, [.v (.pointer none), .v (.pointer none), .v (.pointer none), .v (.string ⟨#[]⟩)], none, [(17, 0), (17, 1), (17, 2), (9, 3)], false, none, .no⟩),
 (138, ⟨true, [], none, [], false, none, .arr 0 16 1⟩),
 (141, ⟨false, [.v (.nilFunc)], none, [], false, none, .fn⟩),
 (142, ⟨false, [.v (.int .u8 0)], none, [], false, some .u8, .no⟩),
 (143, ⟨false, [.v (.int .u8 0)], none, [], false, some .u8, .no⟩),
 (144, ⟨false, [.v (.nilFunc)], none, [], false, none, .fn⟩),
 (145, ⟨false, [.v (.int .i32 0)], none, [], false, some .i32, .no⟩),
 (146, ⟨false, [.v (.int .i32 0)], none, [], false, some .i32, .no⟩),
 (147, ⟨true, [.v (.int .u64 0), .v (.int .u64 0), .v (.int .u32 0), .v (.int .u8 0), .v (.int .u8 0), .v (.int .u8 0), .v (.int .u8 0), .v (.nilFunc), .v (.pointer none), .v (.int .i32 0), .v (.int .i32 0)], none, [(12, 0), (12, 1), (96, 2), (142, 3), (5, 4), (5, 5), (143, 6), (144, 7), (116, 8), (145, 9), (146, 10)], false, none, .no⟩),
 (148, ⟨true, [.v (.int .u64 0), .v (.int .u64 0), .v (.int .u32 0), .v (.int .u8 0), .v (.int .u8 0), .v (.int .u8 0), .v (.int .u8 0), .v (.nilFunc), .v (.pointer none), .v (.int .i32 0), .v (.int .i32 0)], none, [(12, 0), (12, 1), (96, 2), (142, 3), (5, 4), (5, 5), (143, 6), (144, 7), (116, 8), (145, 9), (146, 10)], false, none, .no⟩)]
theorem tabG : tabB Tryd.prog tab = true := by kernel_rfl
theorem fnG {f : FuncId} {fn : Func} {c : Code} {gs : List G} {Q : G → Prop} (hf : Tryd.prog.funcs[f]? = some fn) (hname : (fn.name == "runtime.NumGoroutine") = false) (hb : fn.body = some c) (hn : gs.length ≤ fn.ntmps) (hc : codeB tab fn.ntmps c = true) (h : sxC Tryd.prog tab c (args0 0 gs) [] 0 (sxRes tab fn Q)) : FnV Tryd.prog f gs Q :=
 fn_of_sx (tab_ok tabG) (by kernel_rfl) hf hname hb hn hc h
theorem fnoG {f : FuncId} {fn : Func} {c : Code} {gs gs0 : List G} {rs : List R} {own0 : Os} {n0 : Nat} {roots : List Nat} {Q : G → List R → Prop} (hf : Tryd.prog.funcs[f]? = some fn) (hname : (fn.name == "runtime.NumGoroutine") = false) (hb : fn.body = some c) (hn : gs0.length ≤ fn.ntmps) (hc : codeB tab fn.ntmps c = true) (ho : Lent rs gs own0 n0 gs0 roots) (h : sxC Tryd.prog tab c (args0 0 gs0) own0 n0 (sxResO tab fn roots Q)) : FnO Tryd.prog f gs rs Q :=
 fno_of_sx (tab_ok tabG) (by kernel_rfl) hf hname hb hn hc ho h
end Go.Proofs.YtifdeajdlhgglaaDoor
namespace Go.Proofs.YtifdeajdlhgglaaDoor
open Go.ChangeShapes Go.WideShapes Go.ChangeAt Go.RowKit
inductive Sp where
 | i (k : IntKind)
 | s
 | b
 | sl (e : List Sp)
def flatSF (P : Program) (F : TypeId → Option (List Sp)) : List Field → Nat → Option (List Sp)
 | [], _ => some []
 | f :: fs, off => match Nat.beq f.offset off, F f.type with
  | true, some sh => match Nat.beq (P.cellsOf f.type) sh.length, flatSF P F fs (off + sh.length) with
   | true, some sh' => some (sh ++ sh')
   | _, _ => none
  | _, _ => none
def repS : Nat → List Sp → List Sp
 | 0, _ => []
 | n + 1, l => l ++ repS n l
def flatS (P : Program) : Nat → TypeId → Option (List Sp)
 | 0, _ => none
 | d + 1, t => match P.underlying t with
  | some (.int k) => some [.i k]
  | some .string => some [.s]
  | some .bool => some [.b]
  | some (.slice e) => match flatS P d e with
   | some sh => bif Nat.beq (P.cellsOf e) sh.length && Nat.blt 0 sh.length then some [.sl sh] else none
   | none => none
  | some (.struct fs) => match flatSF P (flatS P d) fs.toList 0 with
   | some sh => bif Nat.beq (P.cellsOf t) sh.length then some sh else none
   | none => none
  | some (.array n e) => match flatS P d e with
   | some sh => bif Nat.beq (P.cellsOf e) sh.length && Nat.beq (P.cellsOf t) (n * sh.length) then some (repS n sh) else none
   | none => none
  | _ => none
inductive TyL : List Sp → List G → Prop
 | nil : TyL [] []
 | i {k : IntKind} {l : List Sp} {gs : List G} (n : Int) (hn : k.min ≤ n ∧ n ≤ k.max) (h : TyL l gs) : TyL (.i k :: l) (.v (.int k n) :: gs)
 | s {l : List Sp} {gs : List G} (s : ByteArray) (hs : s.size ≤ maxLen) (h : TyL l gs) : TyL (.s :: l) (.v (.string s) :: gs)
 | b {l : List Sp} {gs : List G} (b : Bool) (h : TyL l gs) : TyL (.b :: l) (.v (.bool b) :: gs)
 | sl {e l : List Sp} {gs : List G} (rows : List (List G)) (hl : rows.length ≤ maxLen) (hr : ∀ r ∈ rows, TyL e r) (h : TyL l gs) : TyL (.sl e :: l) (.sl rows :: gs)
theorem TyL.nil_inv {gs : List G} (h : TyL [] gs) : gs = [] := by cases h; rfl
theorem TyL.i_inv {k : IntKind} {l : List Sp} {gs : List G} (h : TyL (.i k :: l) gs) : ∃ n gs', gs = .v (.int k n) :: gs' ∧ (k.min ≤ n ∧ n ≤ k.max) ∧ TyL l gs' := by cases h with | i n hn h => exact ⟨n, _, rfl, hn, h⟩
theorem TyL.s_inv {l : List Sp} {gs : List G} (h : TyL (.s :: l) gs) : ∃ s gs', gs = .v (.string s) :: gs' ∧ s.size ≤ maxLen ∧ TyL l gs' := by cases h with | s n hn h => exact ⟨n, _, rfl, hn, h⟩
theorem TyL.b_inv {l : List Sp} {gs : List G} (h : TyL (.b :: l) gs) : ∃ b gs', gs = .v (.bool b) :: gs' ∧ True ∧ TyL l gs' := by cases h with | b n h => exact ⟨n, _, rfl, trivial, h⟩
theorem TyL.sl_inv {e l : List Sp} {gs : List G} (h : TyL (.sl e :: l) gs) : ∃ rows gs', gs = .sl rows :: gs' ∧ rows.length ≤ maxLen ∧ (∀ r ∈ rows, TyL e r) ∧ TyL l gs' := by cases h with | sl n h1 h2 h => exact ⟨n, _, rfl, h1, h2, h⟩
theorem TyL.app {l m : List Sp} {gs hs : List G} (h : TyL l gs) (h' : TyL m hs) : TyL (l ++ m) (gs ++ hs) := by
 induction h with
 | nil => exact h'
 | i n hn _ ih => exact .i n hn ih
 | s n hn _ ih => exact .s n hn ih
 | b n _ ih => exact .b n ih
 | sl n h1 h2 _ _ ih => exact .sl n h1 h2 ih
theorem TyL.len {l : List Sp} {gs : List G} (h : TyL l gs) : gs.length = l.length := by
 induction h with
 | nil => rfl
 | i _ _ _ ih => simp [ih]
 | s _ _ _ ih => simp [ih]
 | b _ _ ih => simp [ih]
 | sl _ _ _ _ _ ih => simp [ih]
theorem rows_of {α : Type} {f : α → List G} {Q : α → Prop} {rows : List (List G)} (h : ∀ r ∈ rows, ∃ x, r = f x ∧ Q x) : ∃ l : List α, rows = l.map f ∧ ∀ x ∈ l, Q x := by
 induction rows with
 | nil => exact ⟨[], rfl, by simp⟩
 | cons r rows ih =>
  obtain ⟨l, h1, h2⟩ := ih fun r hr => h r (by simp [hr])
  obtain ⟨x, rfl, hx⟩ := h r (by simp)
  exact ⟨x :: l, by simp [h1], fun y hy => by
   rcases List.mem_cons.1 hy with rfl | hy
   ·exact hx
   ·exact h2 y hy⟩
def immW (W : World) : Imm := fun b o => W.cell? ⟨b, o, none⟩
theorem immW_mem (W : World) : Mem (immW W) W := fun _ _ _ h => h
section
variable {P : Program} {W : World} {H : Type} {enc : TypeId × Value → H}
theorem wf_rng {k : IntKind} {n : Int} (h : (Lit.int k n).wf = true) : k.min ≤ n ∧ n ≤ k.max := by
 have h2 : (decide (k.min ≤ n) && decide (n ≤ k.max)) = true := h
 simp only [Bool.and_eq_true, decide_eq_true_eq] at h2
 exact h2
theorem pw_take_drop {Q : G → Value → Prop} {gs hs : List G} {cs : List Value} {n : Nat} (h1 : PW Q gs (cs.take n)) (h2 : PW Q hs (cs.drop n)) : PW Q (gs ++ hs) cs := by
 have := h1.append h2
 rwa [List.take_append_drop] at this
theorem given_v {F : FuncId} {gs : List G} (h : FnV P F gs fun q => q = .v (.bool true)) {vs : List Value} (hp : PW (VRep (immW W)) gs vs) : Calls P F vs.toArray W fun e W' => e = .returned (.bool true) ∧ Below W.heap.size W W' :=
 (h.2 (immW W) W vs (immW_mem W) hp).mono fun e w' ⟨x, g, I', he, hq, _, hx, _, _, hb⟩ => by
  subst hq
  cases (show VRep I' (.v (.bool true)) x from hx)
  exact ⟨he, hb⟩
end
end Go.Proofs.YtifdeajdlhgglaaDoor
namespace Go.Proofs.YtifdeajdlhgglaaDoor
open Go.RowKit
def gSt (s : ByteArray) : List G := [.v (.string s)]
theorem eqI {a b : Int} (h : a = b) : (some (G.v (.int .i64 a)) : Option G) = some (G.v (.int .i64 b)) := by rw [h]
theorem eqR {a b : List (List G)} {e sz : Nat} (h : a = b) : (some (R.slc a e sz) : Option R) = some (R.slc b e sz) := by rw [h]
theorem take_more {α : Type} {l : List α} {i : Nat} {x : α} (h : l[i]? = some x) : l.take (i + 1) = l.take i ++ [x] := by
 have hi := (List.getElem?_eq_some_iff.1 h)
 rw [List.take_succ_eq_append_getElem hi.1, hi.2]
theorem lt_of_at {α : Type} {l : List α} {i : Nat} {x : α} (h : l[i]? = some x) : i < l.length := (List.getElem?_eq_some_iff.1 h).1
theorem find_at {α : Type} {p : α → Bool} {l : List α} {i : Nat} {x : α} (h : l[i]? = some x) (hno : ∀ y ∈ l.take i, p y = false) (hp : p x = true) : l.find? p = some x := by
 rw [List.find?_eq_some_iff_getElem]
 obtain ⟨hi, e⟩ := List.getElem?_eq_some_iff.1 h
 refine ⟨hp, i, hi, e, fun j hj => ?_⟩
 have := hno l[j] (List.mem_iff_getElem.2 ⟨j, by rw [List.length_take]; omega, by simp⟩)
 rw [this]; rfl
theorem take_no {α : Type} {p : α → Prop} {l : List α} {i : Nat} {x : α} (h : l[i]? = some x) (hno : ∀ y ∈ l.take i, ¬ p y) (hp : ¬ p x) : ∀ y ∈ l.take (i + 1), ¬ p y := fun y hy => by
 rw [take_more h] at hy
 rcases List.mem_append.1 hy with hy | hy
 ·exact hno y hy
 ·rw [List.mem_singleton.1 hy]; exact hp
theorem take_all {α : Type} {p : α → Prop} {l : List α} {i : Nat} (h : ¬ i < l.length) (hno : ∀ y ∈ l.take i, p y) : ∀ y ∈ l, p y := fun y hy => hno y (by rw [List.take_of_length_le (by omega)]; exact hy)
end Go.Proofs.YtifdeajdlhgglaaDoor
namespace Go.Proofs.YtifdeajdlhgglaaDoor
open Go.RowKit
theorem VR.res {I : Imm} {V : Va} {g : G} {x : Value} (h : VR I g x) : PRes I V g x := by
 cases g with
 | tup l => obtain ⟨cs, e, hp⟩ := h; exact ⟨cs, e, hp.mono fun _ _ h => .of_v h⟩
 | _ => exact PRep.of_v (V := V) h
def Imm.new (I : Imm) (w w' : World) : Imm := fun b o => if w.heap.size ≤ b then w'.cell? ⟨b, o, none⟩ else I b o
theorem Imm.new_le {I : Imm} {w w' : World} (hM : Mem I w) : I.le (I.new w w') := fun b o x hx => by
 unfold Imm.new
 rw [if_neg (by have := hM.lt hx; omega)]
 exact hx
theorem Imm.new_old {I : Imm} {w w' : World} {b o : Nat} (hb : b < w.heap.size) : I.new w w' b o = I b o := if_neg (by omega)
theorem Imm.new_mem {I : Imm} {w w' : World} (hM : Mem I w) (hb : Below w.heap.size w w') : Mem (I.new w w') w' := fun b o x hx => by
 unfold Imm.new at hx
 split at hx
 ·exact hx
 ·exact (hM.keep fun b o x hx => hb.block b (hM.lt hx)) b o x hx
theorem vrep_v {I : Imm} {z x : Value} (h : VRep I (.v z) x) : x = z := by cases h; rfl
abbrev gI (n : Int) : G := .v (.int .i64 n)
abbrev gS (s : ByteArray) : G := .v (.string s)
theorem vr_tup2 {I : Imm} {a b : G} {x y : Value} (h : VRep I a x) (h' : VRep I b y) : VR I (.tup [a, b]) (.tuple #[x, y]) := ⟨[x, y], rfl, .cons h (.cons h' .nil)⟩
theorem vrep_new {α : Type} {I : Imm} {w w' : World} {sz c B : Nat} {f : α → List G} {fv : α → List Value} {l : List α} {A : Option Addr} (hrd : Rd w' B sz fv A l) (hn : ∀ a, A = some a → w.heap.size ≤ a.block) (hs : ∀ a, A = some a → a = ⟨a.block, 0, none⟩) (hc : l.length ≤ c) (hA : A = none → c = 0) (hz : ∀ x, (fv x).length = sz) (hf : ∀ x, PW (VRep (I.new w w')) (f x) (fv x)) : VRep (I.new w w') (.sl (l.map f)) (.slice A l.length c) := by
 have key := VRep.sl (I := I.new w w') (l.map f) A c sz (fun i j => ((l[i]?).bind fun x => (fv x)[j]?).getD undef) (by simpa using hc) hA (fun r hr => by obtain ⟨x, -, rfl⟩ := List.mem_map.1 hr; rw [(hf x).1, hz]) (fun i r hr => ?_) (fun i r j g hr hg => ?_)
 ·simpa using key
 ·rw [List.getElem?_map] at hr
  obtain ⟨x, h1, -⟩ := Option.map_eq_some_iff.1 hr
  obtain ⟨a, rfl, -, hcell⟩ := hrd i x h1
  refine ⟨a.block, 0, congrArg some (hs a rfl), fun j hj => ?_⟩
  have hj' : j < (fv x).length := by rw [hz]; exact hj
  have h2 := hcell j _ (List.getElem?_eq_getElem hj')
  unfold Imm.new
  rw [if_pos (hn a rfl), h1]
  simp only [Option.bind_some, List.getElem?_eq_getElem hj', Option.getD_some]
  rw [← h2]
  have e := hs a rfl
  generalize a.block = b at e
  subst e
  rw [add_off, add_off, Nat.zero_add]
 ·rw [List.getElem?_map] at hr
  obtain ⟨x, h1, rfl⟩ := Option.map_eq_some_iff.1 hr
  obtain ⟨u, h2, h3⟩ := (hf x).get hg
  rw [h1]
  simp only [Option.bind_some, h2, Option.getD_some]
  exact h3
theorem jn {T G : Prop} (f : T → G) (x : T) : G := f x
def okP : G → Bool
 | .v _ | .agg _ | .sl _ | .ptr _ _ | .osl _ | .mp _ | .clo _ _ _ => true
 | _ => false
theorem prep_of_t {I : Imm} {V : Va} {g : G} {x : Value} (h : okP g = true) (ht : TRep I V g x) : PRep I V g x := by cases g <;> first | exact ht | cases h
theorem fno_lift {P : Program} {f : FuncId} {gs gs0 : List G} {rs rs0 : List R} {roots : List Nat} {Q Q0 : G → List R → Prop} (hF : FnO P f gs0 rs0 Q0) (ho : Lent rs gs (objs rs0 0) rs0.length gs0 roots) (hg : allB okP gs0 = true)
  (hend : ∀ g rs', Q0 g rs' → ∃ its g', EndK roots (objs rs' 0) rs'.length g Q its g') : FnO P f gs rs Q :=
 ⟨hF.1, fun I V w vs hH hVn hp => by
  obtain ⟨V2, h2n, hH2, hp2, hF2, hroot⟩ := ho.run I V w vs hH hVn hp
  refine (hF.2 I V2 w vs hH2 h2n ⟨hp2.1, fun j g u h1 h2 => prep_of_t (allB_mem hg g (List.mem_of_getElem? h1)) (hp2.2 j g u h1 h2)⟩).mono fun e w' ⟨x, g, rs', I', V', he, hq, hn', hH', hx, hf', hle⟩ => ?_
  obtain ⟨its, g', hE⟩ := hend g rs' hq
  rw [← hn'] at hE
  obtain ⟨V4, k1, k2, k3, k4, k5, k6⟩ := close_ok hE hH' hx V.s
  have hfro := hF2.trans hf'
  refine ⟨x, g', its.map It.res, I', V4, he, hE.post, by simpa using k1, k2, k3, ⟨hfro.os, hfro.tape, hfro.output, hfro.size, hfro.blk, hfro.mono, fun i r b hi hb hlt => ?_⟩, ?_, fun i hi => ⟨?_, k6 i (by rw [ho.len]; omega)⟩⟩
  ·obtain ⟨k, r', h1, h2⟩ := k4 i b hb
   exact hfro.foot k r' b h1 h2 hlt
  ·rw [k1, hVn, ← ho.len]
   obtain ⟨l, hl⟩ := hE.roots
   have := congrArg List.length hl
   simp at this
   omega
  ·have hi' : i < roots.length := by rw [ho.len]; omega
   have hr := List.getElem?_eq_getElem hi'
   obtain ⟨h1, h2⟩ := hroot i _ hr
   rw [(k5 i _ hr).1, (hle.2 _ (by omega)).1, h1]⟩
end Go.Proofs.YtifdeajdlhgglaaDoor
namespace Go.Proofs.YtifdeajdlhgglaaDoor
open Go.ChangeShapes Go.WideShapes Go.ChangeAt Go.RowKit
mutual
def bulkG : G → Nat
 | .v x => match x with
  | .string s => s.size + 1
  | _ => 1
 | .sl rows => bulkRs rows + 1
 | _ => 1
def bulkR : List G → Nat
 | [] => 0
 | g :: r => bulkG g + bulkR r
def bulkRs : List (List G) → Nat
 | [] => 0
 | r :: rs => bulkR r + bulkRs rs
end
theorem bulkR_app (a b : List G) : bulkR (a ++ b) = bulkR a + bulkR b := by
 induction a with
 | nil => simp [bulkR]
 | cons g a ih => simp only [List.cons_append, bulkR, ih]; omega
theorem bulkRs_le {rows : List (List G)} {r : List G} (h : r ∈ rows) : bulkR r ≤ bulkRs rows := by
 induction rows with
 | nil => cases h
 | cons x rows ih =>
  simp only [bulkRs]
  rcases List.mem_cons.1 h with rfl | h
  ·omega
  ·have := ih h; omega
section
variable {P : Program} {W : World} {H : Type} {enc : TypeId × Value → H}
theorem bulk_map {α : Type} (l : List α) (f : α → List G) (D : α → DataW H) (h : ∀ x ∈ l, bulkR (f x) ≤ Rows.uptoBulk (D x)) : bulkRs (l.map f) ≤ Rows.uptoBulkAll (l.map D) := by
 induction l with
 | nil => simp [bulkRs, Rows.uptoBulkAll]
 | cons x l ih =>
  simp only [List.map_cons, bulkRs, Rows.uptoBulkAll]
  have h1 := h x (by simp)
  have h2 := ih fun y hy => h y (by simp [hy])
  omega
theorem decB : ∀ (d : Nat) (t : TypeId) (sh : List Sp), flatS P d t = some sh → ∀ (fuel : Nat) (cs : List Value) (y : DataW H × List MemPlace), DataW.trod enc P W 0 (fun _ => true) true fuel t cs = some y → ∃ gs, TyL sh gs ∧ PW (VRep (immW W)) gs cs ∧ bulkR gs ≤ Rows.uptoBulk y.1
 | 0, t, sh, h => by cases h
 | d + 1, t, sh, h => by
  intro fuel cs y hy
  unfold flatS at h
  split at h
  ·next k hu =>
   cases h
   obtain ⟨n, rfl, rfl, hw⟩ := DataW.trod_int hu hy
   exact ⟨_, .i n (wf_rng hw) .nil, .cons (.v _) .nil, by simp [bulkR, bulkG, Rows.uptoBulk]⟩
  ·next hu =>
   cases h
   obtain ⟨s, rfl, rfl, hs⟩ := DataW.trod_string hu hy
   exact ⟨_, .s s hs .nil, .cons (.v _) .nil, by simp [bulkR, bulkG, Rows.uptoBulk]⟩
  ·next hu =>
   cases h
   obtain ⟨b, rfl, rfl⟩ := DataW.trod_bool hu hy
   exact ⟨_, .b b .nil, .cons (.v _) .nil, by simp [bulkR, bulkG, Rows.uptoBulk]⟩
  ·next e hu =>
   split at h
   ·next she he =>
    cases hb : Nat.beq (P.cellsOf e) she.length && Nat.blt 0 she.length with
    | false => rw [hb] at h; cases h
    | true =>
     rw [hb] at h
     have h : some [Sp.sl she] = some sh := h
     cases h
     simp only [Bool.and_eq_true] at hb
     have hsz := Nat.eq_of_beq_eq_true hb.1
     have hpos := Nat.le_of_ble_eq_true hb.2
     rcases Go.Deep.open_slice hu hy with ⟨rfl, rfl⟩ | ⟨a, len, cap, m, n, D, Pl, rfl, -, hl, hm, hmm, rfl, hi⟩
     ·exact ⟨_, .sl [] (by simp) (by simp) .nil, .cons (.sl [] none 0 0 (fun _ _ => undef) (Nat.le_refl _) (fun _ => rfl) (by simp) (fun i r h => by simp at h) (fun i r j g h => by simp at h)) .nil, by simp [bulkR, bulkG, bulkRs, Rows.uptoBulk]⟩
     ·simp only [if_true] at hmm
      subst hmm
      have hx : ∀ i, i < len → ∃ p : List G × List Value, TyL she p.1 ∧ PW (VRep (immW W)) p.1 p.2 ∧ p.2.length = she.length ∧ (∀ (j : Nat) u, p.2[j]? = some u → W.cell? ((a.add (i * she.length)).add j) = some u) ∧ bulkR p.1 ≤ Rows.uptoBulk (D i) := fun i hil => by
       obtain ⟨cs', hc, ht'⟩ := hi i (by omega)
       obtain ⟨gs, h1, h2, h3⟩ := decB d e she he n cs' _ ht'
       obtain ⟨-, hcl, hat⟩ := World.cells?_some hc
       rw [hsz] at hcl hat
       refine ⟨(gs, cs'), h1, h2, hcl, fun j u hu => ?_, h3⟩
       have hj : j < she.length := by rw [← hcl]; exact (List.getElem?_eq_some_iff.1 hu).1
       rw [hat j hj]
       exact hu
      haveI : Inhabited (List G × List Value) := ⟨([], [])⟩
      obtain ⟨p, hp⟩ := Go.Deep.choose_lt hx
      have hrow : ∀ (i : Nat) r, ((List.range len).map fun i => (p i).1)[i]? = some r → i < len ∧ r = (p i).1 := fun i r hr => by
       have hi := (List.getElem?_eq_some_iff.1 hr).1
       have hi' : i < len := by simpa using hi
       rw [List.getElem?_map, List.getElem?_range hi'] at hr
       exact ⟨hi', by simpa using hr.symm⟩
      have hsp : 0 < len → a = ⟨a.block, a.off, none⟩ := fun h0 => by
       have hq := (hp 0 h0).2.2.2.1 0 ((p 0).2[0]'(by rw [(hp 0 h0).2.2.1]; exact hpos)) (List.getElem?_eq_getElem _)
       have := World.cell?_spot hq
       simp only [Addr.add, Nat.zero_mul, if_true] at this
       cases a
       simp at this
       subst this
       rfl
      have key := VRep.sl (I := immW W) ((List.range len).map fun i => (p i).1) (some a) m she.length (fun i j => ((p i).2[j]?).getD undef) (by simpa using hl) (fun e => by cases e) (fun r hr => by
       obtain ⟨i, hi, e⟩ := List.mem_iff_getElem.1 hr
       obtain ⟨h1, h2⟩ := hrow i r (by rw [List.getElem?_eq_getElem hi, e])
       rw [h2, (hp i h1).2.1.1, (hp i h1).2.2.1]) (fun i r hr => by
       obtain ⟨h1, -⟩ := hrow i r hr
       refine ⟨a.block, a.off, by rw [← hsp (by omega)], fun j hj => ?_⟩
       have hj' : j < (p i).2.length := by rw [(hp i h1).2.2.1]; exact hj
       have hq := (hp i h1).2.2.2.1 j _ (List.getElem?_eq_getElem hj')
       rw [List.getElem?_eq_getElem hj', Option.getD_some, ← hq]
       unfold immW
       have e := hsp (by omega)
       generalize a.block = b at *
       generalize a.off = o at *
       subst e
       rw [add_off, add_off]) (fun i r j g hr hg => by
       obtain ⟨h1, rfl⟩ := hrow i r hr
       obtain ⟨u, h2, h3⟩ := (hp i h1).2.1.get hg
       rw [h2]
       exact h3)
      refine ⟨_, .sl ((List.range len).map fun i => (p i).1) (by simp; omega) (fun r hr => ?_) .nil, .cons (by simpa using key) .nil, ?_⟩
      ·obtain ⟨i, hi, rfl⟩ := List.mem_map.1 hr
       exact (hp i (List.mem_range.1 hi)).1
      ·have := bulk_map (List.range len) (fun i => (p i).1) D fun i hi => (hp i (List.mem_range.1 hi)).2.2.2.2
       simp only [bulkR, bulkG, Rows.uptoBulk]
       omega
   ·cases h
  ·next fs hu =>
   split at h
   ·next sh' hf =>
    cases hb : Nat.beq (P.cellsOf t) sh'.length with
    | false => rw [hb] at h; cases h
    | true =>
     rw [hb] at h
     have h : some sh' = some sh := h
     cases h
     have hsz := Nat.eq_of_beq_eq_true hb
     obtain ⟨xs, m, -, rfl, hlen, hxl, hel⟩ := DataW.trod_struct hu hy
     have key : ∀ (fs' : List Field) (xs' : List (DataW H × List MemPlace)) (off : Nat) (sh : List Sp), xs'.length = fs'.length → (∀ (j : Nat) f, fs'[j]? = some f → DataW.trod enc P W 0 (fun _ => true) true m f.type ((cs.drop f.offset).take (P.cellsOf f.type)) = xs'[j]?) → flatSF P (flatS P d) fs' off = some sh → cs.length = off + sh.length → ∃ gs, TyL sh gs ∧ PW (VRep (immW W)) gs (cs.drop off) ∧ bulkR gs ≤ Rows.uptoBulkAll (xs'.map (·.1)) := fun fs' => by
      induction fs' with
      | nil =>
       intro xs' off sh _ _ h hl
       cases h
       exact ⟨[], .nil, by rw [List.drop_eq_nil_of_le (by simp at hl; omega)]; exact .nil, by simp [bulkR]⟩
      | cons f fs' ih =>
       intro xs' off sh hxl hall h hl
       cases xs' with
       | nil => cases hxl
       | cons y xs' =>
        unfold flatSF at h
        split at h
        ·next sh1 e1 e2 =>
         split at h
         ·next sh2 e3 e4 =>
          cases h
          have e1 := Nat.eq_of_beq_eq_true e1
          have e3 := Nat.eq_of_beq_eq_true e3
          have hy := hall 0 f rfl
          obtain ⟨g1, t1, p1, b1⟩ := decB d f.type sh1 e2 m _ y hy
          rw [List.length_append] at hl
          obtain ⟨g2, t2, p2, b2⟩ := ih xs' (off + sh1.length) sh2 (by simpa using hxl) (fun j f hf => hall (j + 1) f (by simpa using hf)) e4 (by omega)
          rw [e1, e3] at p1
          refine ⟨g1 ++ g2, t1.app t2, pw_take_drop p1 ?_, ?_⟩
          ·rw [List.drop_drop]
           exact p2
          ·rw [bulkR_app]
           simp only [List.map_cons, Rows.uptoBulkAll]
           omega
         ·cases h
        ·cases h
     obtain ⟨gs, h1, h2, h3⟩ := key fs.toList xs 0 sh (by rw [hxl]; simp) (fun j f hf => hel j f (by simpa using hf)) hf (by omega)
     refine ⟨gs, h1, by simpa using h2, ?_⟩
     simp only [Rows.uptoBulk]
     omega
   ·cases h
  ·next n e hu =>
   split at h
   ·next she he =>
    cases hb : Nat.beq (P.cellsOf e) she.length && Nat.beq (P.cellsOf t) (n * she.length) with
    | false => rw [hb] at h; cases h
    | true =>
     rw [hb] at h
     have h : some (repS n she) = some sh := h
     cases h
     simp only [Bool.and_eq_true] at hb
     have hsz := Nat.eq_of_beq_eq_true hb.1
     have hct := Nat.eq_of_beq_eq_true hb.2
     obtain ⟨xs, m, -, rfl, hlen, hxl, hel⟩ := DataW.trod_array hu hy
     have key : ∀ (k i : Nat), i + k = n → ∃ gs, TyL (repS k she) gs ∧ PW (VRep (immW W)) gs (cs.drop (i * she.length)) ∧ bulkR gs ≤ Rows.uptoBulkAll ((xs.drop i).map (·.1)) := fun k => by
      induction k with
      | zero =>
       intro i hi
       refine ⟨[], .nil, ?_, by simp [bulkR]⟩
       rw [List.drop_eq_nil_of_le (by rw [hlen, hct, ← hi, Nat.add_zero]; exact Nat.le_refl _)]
       exact .nil
      | succ k ih =>
       intro i hi
       have hxi : i < xs.length := by omega
       have h1 := hel i (by omega)
       rw [List.getElem?_eq_getElem hxi] at h1
       obtain ⟨g1, t1, p1, b1⟩ := decB d e she he m _ _ h1
       obtain ⟨g2, t2, p2, b2⟩ := ih (i + 1) (by omega)
       rw [hsz] at p1
       refine ⟨g1 ++ g2, t1.app t2, pw_take_drop p1 ?_, ?_⟩
       ·rw [List.drop_drop]
        rw [Nat.succ_mul] at p2
        exact p2
       ·rw [bulkR_app, List.drop_eq_getElem_cons hxi]
        simp only [List.map_cons, Rows.uptoBulkAll]
        omega
     obtain ⟨gs, h1, h2, h3⟩ := key n 0 (by omega)
     refine ⟨gs, h1, by simpa using h2, ?_⟩
     simp only [Rows.uptoBulk]
     simp at h3
     omega
   ·cases h
  ·cases h
theorem argB_one {t : TypeId} {sp : Sp} {base : Nat} {v : Value} {d : DataW H} {p : List MemPlace} (hf : flatS P 100 t = some [sp]) (ha : aggB P t = some false) (hv : Value.okWide P W .any base t v) (h : DataW.Trod enc P W 0 (fun _ => true) true t v d p) : ∃ g, TyL [sp] [g] ∧ VRep (immW W) g v ∧ bulkG g ≤ Rows.uptoBulk d := by
 obtain ⟨fuel, hy⟩ := h
 obtain ⟨gs, h1, h2, h3⟩ := decB 100 t [sp] hf fuel _ _ hy
 have hag : ∀ cs, v ≠ .agg cs := fun cs e => by
  subst e
  unfold Value.okWide Cell.okWide at hv
  unfold flatS at hf
  unfold aggB at ha
  cases hu : P.underlying t with
  | none => rw [hu] at hf; cases hf
  | some u => rw [hu] at hf hv ha; cases u <;> first | (cases hf; done) | (simp at ha; done) | (simp [Cell.ok, hu] at hv; done)
 have hc : v.cells.toList = [v] := by cases v <;> first | rfl | exact absurd rfl (hag _)
 rw [hc] at h2
 have hl := h1.len
 obtain ⟨g, rfl⟩ := List.length_eq_one_iff.1 hl
 exact ⟨g, h1, h2.2 0 g v rfl rfl, by simpa [bulkR] using h3⟩
end
end Go.Proofs.YtifdeajdlhgglaaDoor
