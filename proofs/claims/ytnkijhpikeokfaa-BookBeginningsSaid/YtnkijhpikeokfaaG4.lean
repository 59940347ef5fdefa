/- The texts Ty, NX, F1, F2, F3, F4, F5. -/
import Derived.Test.YtnkijhpikeokfaaG2
import Derived.Test.YtnkijhpikeokfaaProg
import Derived.KernelRfl
import Derived.Lib.Mul64
import Derived.Laws.Bits64
import Derived.Laws.BitsLemmas
set_option linter.unusedSimpArgs false
set_option linter.unusedVariables false
/- The types of the program, as the abstract operations see them. -/
namespace Go.Proofs.Ytnkijhpikeokfaa
open Go Go.Sym
theorem tk1 : tk Try.prog 1 = some (.other) := by kernel_rfl
theorem ts1 : tsize Try.prog 1 = some 1 := by kernel_rfl
theorem tz1 : tzero Try.prog 1 = some [.nilfunc] := by kernel_rfl
theorem tb1 : tbytes Try.prog 1 = some 8 := by kernel_rfl
theorem tk2 : tk Try.prog 2 = some (.int .i64) := by kernel_rfl
theorem ts2 : tsize Try.prog 2 = some 1 := by kernel_rfl
theorem tz2 : tzero Try.prog 2 = some [.int .i64 0] := by kernel_rfl
theorem tb2 : tbytes Try.prog 2 = some 8 := by kernel_rfl
theorem tk3 : tk Try.prog 3 = some (.int .i64) := by kernel_rfl
theorem ts3 : tsize Try.prog 3 = some 1 := by kernel_rfl
theorem tz3 : tzero Try.prog 3 = some [.int .i64 0] := by kernel_rfl
theorem tb3 : tbytes Try.prog 3 = some 8 := by kernel_rfl
theorem tk4 : tk Try.prog 4 = some (.bool) := by kernel_rfl
theorem ts4 : tsize Try.prog 4 = some 1 := by kernel_rfl
theorem tz4 : tzero Try.prog 4 = some [.bool false] := by kernel_rfl
theorem tb4 : tbytes Try.prog 4 = some 1 := by kernel_rfl
theorem tk5 : tk Try.prog 5 = some (.int .u8) := by kernel_rfl
theorem ts5 : tsize Try.prog 5 = some 1 := by kernel_rfl
theorem tz5 : tzero Try.prog 5 = some [.int .u8 0] := by kernel_rfl
theorem tb5 : tbytes Try.prog 5 = some 1 := by kernel_rfl
theorem tk6 : tk Try.prog 6 = some (.int .u8) := by kernel_rfl
theorem ts6 : tsize Try.prog 6 = some 1 := by kernel_rfl
theorem tz6 : tzero Try.prog 6 = some [.int .u8 0] := by kernel_rfl
theorem tb6 : tbytes Try.prog 6 = some 1 := by kernel_rfl
theorem tk7 : tk Try.prog 7 = some (.st [(0, 2), (1, 3), (2, 4), (3, 6)]) := by kernel_rfl
theorem ts7 : tsize Try.prog 7 = some 4 := by kernel_rfl
theorem tz7 : tzero Try.prog 7 = some [.int .i64 0, .int .i64 0, .bool false, .int .u8 0] := by kernel_rfl
theorem tb7 : tbytes Try.prog 7 = some 24 := by kernel_rfl
theorem pl7 : places Try.prog [(0, 2), (1, 3), (2, 4), (3, 6)] = some [(0, 1), (1, 1), (2, 1), (3, 1)] := by kernel_rfl
theorem tk8 : tk Try.prog 8 = some (.st [(0, 2), (1, 3), (2, 4), (3, 6)]) := by kernel_rfl
theorem ts8 : tsize Try.prog 8 = some 4 := by kernel_rfl
theorem tz8 : tzero Try.prog 8 = some [.int .i64 0, .int .i64 0, .bool false, .int .u8 0] := by kernel_rfl
theorem tb8 : tbytes Try.prog 8 = some 24 := by kernel_rfl
theorem pl8 : places Try.prog [(0, 2), (1, 3), (2, 4), (3, 6)] = some [(0, 1), (1, 1), (2, 1), (3, 1)] := by kernel_rfl
theorem tk9 : tk Try.prog 9 = some (.str) := by kernel_rfl
theorem ts9 : tsize Try.prog 9 = some 1 := by kernel_rfl
theorem tz9 : tzero Try.prog 9 = some [.str { data := #[] }] := by kernel_rfl
theorem tb9 : tbytes Try.prog 9 = some 16 := by kernel_rfl
theorem tk10 : tk Try.prog 10 = some (.str) := by kernel_rfl
theorem ts10 : tsize Try.prog 10 = some 1 := by kernel_rfl
theorem tz10 : tzero Try.prog 10 = some [.str { data := #[] }] := by kernel_rfl
theorem tb10 : tbytes Try.prog 10 = some 16 := by kernel_rfl
theorem tk11 : tk Try.prog 11 = some (.str) := by kernel_rfl
theorem ts11 : tsize Try.prog 11 = some 1 := by kernel_rfl
theorem tz11 : tzero Try.prog 11 = some [.str { data := #[] }] := by kernel_rfl
theorem tb11 : tbytes Try.prog 11 = some 16 := by kernel_rfl
theorem tk12 : tk Try.prog 12 = some (.int .u64) := by kernel_rfl
theorem ts12 : tsize Try.prog 12 = some 1 := by kernel_rfl
theorem tz12 : tzero Try.prog 12 = some [.int .u64 0] := by kernel_rfl
theorem tb12 : tbytes Try.prog 12 = some 8 := by kernel_rfl
theorem tk13 : tk Try.prog 13 = some (.st [(0, 9), (1, 12)]) := by kernel_rfl
theorem ts13 : tsize Try.prog 13 = some 2 := by kernel_rfl
theorem tz13 : tzero Try.prog 13 = some [.str { data := #[] }, .int .u64 0] := by kernel_rfl
theorem tb13 : tbytes Try.prog 13 = some 24 := by kernel_rfl
theorem pl13 : places Try.prog [(0, 9), (1, 12)] = some [(0, 1), (1, 1)] := by kernel_rfl
theorem tk14 : tk Try.prog 14 = some (.st [(0, 9), (1, 12)]) := by kernel_rfl
theorem ts14 : tsize Try.prog 14 = some 2 := by kernel_rfl
theorem tz14 : tzero Try.prog 14 = some [.str { data := #[] }, .int .u64 0] := by kernel_rfl
theorem tb14 : tbytes Try.prog 14 = some 24 := by kernel_rfl
theorem pl14 : places Try.prog [(0, 9), (1, 12)] = some [(0, 1), (1, 1)] := by kernel_rfl
theorem tk15 : tk Try.prog 15 = some (.ptr 218) := by kernel_rfl
theorem ts15 : tsize Try.prog 15 = some 1 := by kernel_rfl
theorem tz15 : tzero Try.prog 15 = some [.nilptr] := by kernel_rfl
theorem tb15 : tbytes Try.prog 15 = some 8 := by kernel_rfl
theorem tk16 : tk Try.prog 16 = some (.ptr 221) := by kernel_rfl
theorem ts16 : tsize Try.prog 16 = some 1 := by kernel_rfl
theorem tz16 : tzero Try.prog 16 = some [.nilptr] := by kernel_rfl
theorem tb16 : tbytes Try.prog 16 = some 8 := by kernel_rfl
theorem tk17 : tk Try.prog 17 = some (.ptr 230) := by kernel_rfl
theorem ts17 : tsize Try.prog 17 = some 1 := by kernel_rfl
theorem tz17 : tzero Try.prog 17 = some [.nilptr] := by kernel_rfl
theorem tb17 : tbytes Try.prog 17 = some 8 := by kernel_rfl
theorem tk18 : tk Try.prog 18 = some (.st [(0, 17)]) := by kernel_rfl
theorem ts18 : tsize Try.prog 18 = some 1 := by kernel_rfl
theorem tz18 : tzero Try.prog 18 = some [.nilptr] := by kernel_rfl
theorem tb18 : tbytes Try.prog 18 = some 8 := by kernel_rfl
theorem pl18 : places Try.prog [(0, 17)] = some [(0, 1)] := by kernel_rfl
theorem tk19 : tk Try.prog 19 = some (.st [(0, 17)]) := by kernel_rfl
theorem ts19 : tsize Try.prog 19 = some 1 := by kernel_rfl
theorem tz19 : tzero Try.prog 19 = some [.nilptr] := by kernel_rfl
theorem tb19 : tbytes Try.prog 19 = some 8 := by kernel_rfl
theorem pl19 : places Try.prog [(0, 17)] = some [(0, 1)] := by kernel_rfl
theorem tk21 : tk Try.prog 21 = some (.int .i32) := by kernel_rfl
theorem ts21 : tsize Try.prog 21 = some 1 := by kernel_rfl
theorem tz21 : tzero Try.prog 21 = some [.int .i32 0] := by kernel_rfl
theorem tb21 : tbytes Try.prog 21 = some 4 := by kernel_rfl
theorem tk22 : tk Try.prog 22 = some (.sl 30) := by kernel_rfl
theorem ts22 : tsize Try.prog 22 = some 1 := by kernel_rfl
theorem tz22 : tzero Try.prog 22 = some [.nilsl] := by kernel_rfl
theorem tb22 : tbytes Try.prog 22 = some 24 := by kernel_rfl
theorem tk23 : tk Try.prog 23 = some (.st [(0, 3), (1, 3), (2, 22)]) := by kernel_rfl
theorem ts23 : tsize Try.prog 23 = some 3 := by kernel_rfl
theorem tz23 : tzero Try.prog 23 = some [.int .i64 0, .int .i64 0, .nilsl] := by kernel_rfl
theorem tb23 : tbytes Try.prog 23 = some 40 := by kernel_rfl
theorem pl23 : places Try.prog [(0, 3), (1, 3), (2, 22)] = some [(0, 1), (1, 1), (2, 1)] := by kernel_rfl
theorem tk24 : tk Try.prog 24 = some (.st [(0, 3), (1, 3), (2, 22)]) := by kernel_rfl
theorem ts24 : tsize Try.prog 24 = some 3 := by kernel_rfl
theorem tz24 : tzero Try.prog 24 = some [.int .i64 0, .int .i64 0, .nilsl] := by kernel_rfl
theorem tb24 : tbytes Try.prog 24 = some 40 := by kernel_rfl
theorem pl24 : places Try.prog [(0, 3), (1, 3), (2, 22)] = some [(0, 1), (1, 1), (2, 1)] := by kernel_rfl
theorem tk25 : tk Try.prog 25 = some (.other) := by kernel_rfl
theorem ts25 : tsize Try.prog 25 = some 1 := by kernel_rfl
theorem tz25 : tzero Try.prog 25 = some [.nilfunc] := by kernel_rfl
theorem tb25 : tbytes Try.prog 25 = some 8 := by kernel_rfl
theorem tk26 : tk Try.prog 26 = some (.other) := by kernel_rfl
theorem ts26 : tsize Try.prog 26 = some 1 := by kernel_rfl
theorem tz26 : tzero Try.prog 26 = some [.nilfunc] := by kernel_rfl
theorem tb26 : tbytes Try.prog 26 = some 8 := by kernel_rfl
theorem tk27 : tk Try.prog 27 = some (.int .i64) := by kernel_rfl
theorem ts27 : tsize Try.prog 27 = some 1 := by kernel_rfl
theorem tz27 : tzero Try.prog 27 = some [.int .i64 0] := by kernel_rfl
theorem tb27 : tbytes Try.prog 27 = some 8 := by kernel_rfl
theorem tk29 : tk Try.prog 29 = some (.other) := by kernel_rfl
theorem ts29 : tsize Try.prog 29 = some 1 := by kernel_rfl
theorem tz29 : tzero Try.prog 29 = some [.nilfunc] := by kernel_rfl
theorem tb29 : tbytes Try.prog 29 = some 8 := by kernel_rfl
theorem tk30 : tk Try.prog 30 = some (.int .i64) := by kernel_rfl
theorem ts30 : tsize Try.prog 30 = some 1 := by kernel_rfl
theorem tz30 : tzero Try.prog 30 = some [.int .i64 0] := by kernel_rfl
theorem tb30 : tbytes Try.prog 30 = some 8 := by kernel_rfl
theorem tk31 : tk Try.prog 31 = some (.other) := by kernel_rfl
theorem ts31 : tsize Try.prog 31 = some 1 := by kernel_rfl
theorem tz31 : tzero Try.prog 31 = some [.nilfunc] := by kernel_rfl
theorem tb31 : tbytes Try.prog 31 = some 8 := by kernel_rfl
theorem tk32 : tk Try.prog 32 = some (.other) := by kernel_rfl
theorem ts32 : tsize Try.prog 32 = some 1 := by kernel_rfl
theorem tz32 : tzero Try.prog 32 = some [.nilfunc] := by kernel_rfl
theorem tb32 : tbytes Try.prog 32 = some 8 := by kernel_rfl
theorem tk33 : tk Try.prog 33 = some (.other) := by kernel_rfl
theorem ts33 : tsize Try.prog 33 = some 1 := by kernel_rfl
theorem tz33 : tzero Try.prog 33 = some [.nilfunc] := by kernel_rfl
theorem tb33 : tbytes Try.prog 33 = some 8 := by kernel_rfl
theorem tk35 : tk Try.prog 35 = some (.other) := by kernel_rfl
theorem ts35 : tsize Try.prog 35 = some 1 := by kernel_rfl
theorem tz35 : tzero Try.prog 35 = some [.nilfunc] := by kernel_rfl
theorem tb35 : tbytes Try.prog 35 = some 8 := by kernel_rfl
theorem tk36 : tk Try.prog 36 = some (.int .i8) := by kernel_rfl
theorem ts36 : tsize Try.prog 36 = some 1 := by kernel_rfl
theorem tz36 : tzero Try.prog 36 = some [.int .i8 0] := by kernel_rfl
theorem tb36 : tbytes Try.prog 36 = some 1 := by kernel_rfl
theorem tk37 : tk Try.prog 37 = some (.arr 3 36) := by kernel_rfl
theorem ts37 : tsize Try.prog 37 = some 3 := by kernel_rfl
theorem tz37 : tzero Try.prog 37 = some [.int .i8 0, .int .i8 0, .int .i8 0] := by kernel_rfl
theorem tb37 : tbytes Try.prog 37 = some 3 := by kernel_rfl
theorem tk38 : tk Try.prog 38 = some (.other) := by kernel_rfl
theorem ts38 : tsize Try.prog 38 = some 1 := by kernel_rfl
theorem tz38 : tzero Try.prog 38 = some [.nilfunc] := by kernel_rfl
theorem tb38 : tbytes Try.prog 38 = some 8 := by kernel_rfl
theorem tk39 : tk Try.prog 39 = some (.other) := by kernel_rfl
theorem ts39 : tsize Try.prog 39 = some 1 := by kernel_rfl
theorem tz39 : tzero Try.prog 39 = some [.nilfunc] := by kernel_rfl
theorem tb39 : tbytes Try.prog 39 = some 8 := by kernel_rfl
theorem tk40 : tk Try.prog 40 = some (.st [(0, 24), (3, 24)]) := by kernel_rfl
theorem ts40 : tsize Try.prog 40 = some 6 := by kernel_rfl
theorem tz40 : tzero Try.prog 40 = some [.int .i64 0, .int .i64 0, .nilsl, .int .i64 0, .int .i64 0, .nilsl] := by kernel_rfl
theorem tb40 : tbytes Try.prog 40 = some 80 := by kernel_rfl
theorem pl40 : places Try.prog [(0, 24), (3, 24)] = some [(0, 3), (3, 3)] := by kernel_rfl
theorem tk41 : tk Try.prog 41 = some (.st [(0, 24), (3, 24)]) := by kernel_rfl
theorem ts41 : tsize Try.prog 41 = some 6 := by kernel_rfl
theorem tz41 : tzero Try.prog 41 = some [.int .i64 0, .int .i64 0, .nilsl, .int .i64 0, .int .i64 0, .nilsl] := by kernel_rfl
theorem tb41 : tbytes Try.prog 41 = some 80 := by kernel_rfl
theorem pl41 : places Try.prog [(0, 24), (3, 24)] = some [(0, 3), (3, 3)] := by kernel_rfl
theorem tk43 : tk Try.prog 43 = some (.other) := by kernel_rfl
theorem ts43 : tsize Try.prog 43 = some 1 := by kernel_rfl
theorem tz43 : tzero Try.prog 43 = some [.nilfunc] := by kernel_rfl
theorem tb43 : tbytes Try.prog 43 = some 8 := by kernel_rfl
theorem tk45 : tk Try.prog 45 = some (.other) := by kernel_rfl
theorem ts45 : tsize Try.prog 45 = some 1 := by kernel_rfl
theorem tz45 : tzero Try.prog 45 = some [.nilfunc] := by kernel_rfl
theorem tb45 : tbytes Try.prog 45 = some 8 := by kernel_rfl
theorem tk46 : tk Try.prog 46 = some (.other) := by kernel_rfl
theorem ts46 : tsize Try.prog 46 = some 1 := by kernel_rfl
theorem tz46 : tzero Try.prog 46 = some [.nilfunc] := by kernel_rfl
theorem tb46 : tbytes Try.prog 46 = some 8 := by kernel_rfl
theorem tk47 : tk Try.prog 47 = some (.int .u16) := by kernel_rfl
theorem ts47 : tsize Try.prog 47 = some 1 := by kernel_rfl
theorem tz47 : tzero Try.prog 47 = some [.int .u16 0] := by kernel_rfl
theorem tb47 : tbytes Try.prog 47 = some 2 := by kernel_rfl
theorem tk48 : tk Try.prog 48 = some (.st [(0, 47), (1, 47), (2, 5), (3, 5)]) := by kernel_rfl
theorem ts48 : tsize Try.prog 48 = some 4 := by kernel_rfl
theorem tz48 : tzero Try.prog 48 = some [.int .u16 0, .int .u16 0, .int .u8 0, .int .u8 0] := by kernel_rfl
theorem tb48 : tbytes Try.prog 48 = some 6 := by kernel_rfl
theorem pl48 : places Try.prog [(0, 47), (1, 47), (2, 5), (3, 5)] = some [(0, 1), (1, 1), (2, 1), (3, 1)] := by kernel_rfl
theorem tk49 : tk Try.prog 49 = some (.st [(0, 47), (1, 47), (2, 5), (3, 5)]) := by kernel_rfl
theorem ts49 : tsize Try.prog 49 = some 4 := by kernel_rfl
theorem tz49 : tzero Try.prog 49 = some [.int .u16 0, .int .u16 0, .int .u8 0, .int .u8 0] := by kernel_rfl
theorem tb49 : tbytes Try.prog 49 = some 6 := by kernel_rfl
theorem pl49 : places Try.prog [(0, 47), (1, 47), (2, 5), (3, 5)] = some [(0, 1), (1, 1), (2, 1), (3, 1)] := by kernel_rfl
theorem tk50 : tk Try.prog 50 = some (.other) := by kernel_rfl
theorem ts50 : tsize Try.prog 50 = some 1 := by kernel_rfl
theorem tz50 : tzero Try.prog 50 = some [.nilfunc] := by kernel_rfl
theorem tb50 : tbytes Try.prog 50 = some 8 := by kernel_rfl
theorem tk51 : tk Try.prog 51 = some (.other) := by kernel_rfl
theorem ts51 : tsize Try.prog 51 = some 1 := by kernel_rfl
theorem tz51 : tzero Try.prog 51 = some [.nilfunc] := by kernel_rfl
theorem tb51 : tbytes Try.prog 51 = some 8 := by kernel_rfl
theorem tk52 : tk Try.prog 52 = some (.other) := by kernel_rfl
theorem ts52 : tsize Try.prog 52 = some 1 := by kernel_rfl
theorem tz52 : tzero Try.prog 52 = some [.nilfunc] := by kernel_rfl
theorem tb52 : tbytes Try.prog 52 = some 8 := by kernel_rfl
theorem tk53 : tk Try.prog 53 = some (.st [(0, 22), (1, 22), (2, 41), (8, 41)]) := by kernel_rfl
theorem ts53 : tsize Try.prog 53 = some 14 := by kernel_rfl
theorem tz53 : tzero Try.prog 53 = some [.nilsl, .nilsl, .int .i64 0, .int .i64 0, .nilsl, .int .i64 0, .int .i64 0, .nilsl, .int .i64 0, .int .i64 0, .nilsl, .int .i64 0, .int .i64 0, .nilsl] := by kernel_rfl
theorem tb53 : tbytes Try.prog 53 = some 208 := by kernel_rfl
theorem pl53 : places Try.prog [(0, 22), (1, 22), (2, 41), (8, 41)] = some [(0, 1), (1, 1), (2, 6), (8, 6)] := by kernel_rfl
theorem tk54 : tk Try.prog 54 = some (.st [(0, 22), (1, 22), (2, 41), (8, 41)]) := by kernel_rfl
theorem ts54 : tsize Try.prog 54 = some 14 := by kernel_rfl
theorem tz54 : tzero Try.prog 54 = some [.nilsl, .nilsl, .int .i64 0, .int .i64 0, .nilsl, .int .i64 0, .int .i64 0, .nilsl, .int .i64 0, .int .i64 0, .nilsl, .int .i64 0, .int .i64 0, .nilsl] := by kernel_rfl
theorem tb54 : tbytes Try.prog 54 = some 208 := by kernel_rfl
theorem pl54 : places Try.prog [(0, 22), (1, 22), (2, 41), (8, 41)] = some [(0, 1), (1, 1), (2, 6), (8, 6)] := by kernel_rfl
theorem tk56 : tk Try.prog 56 = some (.other) := by kernel_rfl
theorem ts56 : tsize Try.prog 56 = some 1 := by kernel_rfl
theorem tz56 : tzero Try.prog 56 = some [.nilfunc] := by kernel_rfl
theorem tb56 : tbytes Try.prog 56 = some 8 := by kernel_rfl
theorem tk57 : tk Try.prog 57 = some (.other) := by kernel_rfl
theorem ts57 : tsize Try.prog 57 = some 1 := by kernel_rfl
theorem tz57 : tzero Try.prog 57 = some [.nilfunc] := by kernel_rfl
theorem tb57 : tbytes Try.prog 57 = some 8 := by kernel_rfl
theorem tk58 : tk Try.prog 58 = some (.other) := by kernel_rfl
theorem ts58 : tsize Try.prog 58 = some 1 := by kernel_rfl
theorem tz58 : tzero Try.prog 58 = some [.nilfunc] := by kernel_rfl
theorem tb58 : tbytes Try.prog 58 = some 8 := by kernel_rfl
theorem tk59 : tk Try.prog 59 = some (.st [(0, 41), (6, 24), (9, 30), (10, 30)]) := by kernel_rfl
theorem ts59 : tsize Try.prog 59 = some 11 := by kernel_rfl
theorem tz59 : tzero Try.prog 59 = some [.int .i64 0, .int .i64 0, .nilsl, .int .i64 0, .int .i64 0, .nilsl, .int .i64 0, .int .i64 0, .nilsl, .int .i64 0, .int .i64 0] := by kernel_rfl
theorem tb59 : tbytes Try.prog 59 = some 136 := by kernel_rfl
theorem pl59 : places Try.prog [(0, 41), (6, 24), (9, 30), (10, 30)] = some [(0, 6), (6, 3), (9, 1), (10, 1)] := by kernel_rfl
theorem tk60 : tk Try.prog 60 = some (.st [(0, 41), (6, 24), (9, 30), (10, 30)]) := by kernel_rfl
theorem ts60 : tsize Try.prog 60 = some 11 := by kernel_rfl
theorem tz60 : tzero Try.prog 60 = some [.int .i64 0, .int .i64 0, .nilsl, .int .i64 0, .int .i64 0, .nilsl, .int .i64 0, .int .i64 0, .nilsl, .int .i64 0, .int .i64 0] := by kernel_rfl
theorem tb60 : tbytes Try.prog 60 = some 136 := by kernel_rfl
theorem pl60 : places Try.prog [(0, 41), (6, 24), (9, 30), (10, 30)] = some [(0, 6), (6, 3), (9, 1), (10, 1)] := by kernel_rfl
theorem tk62 : tk Try.prog 62 = some (.other) := by kernel_rfl
theorem ts62 : tsize Try.prog 62 = some 1 := by kernel_rfl
theorem tz62 : tzero Try.prog 62 = some [.nilfunc] := by kernel_rfl
theorem tb62 : tbytes Try.prog 62 = some 8 := by kernel_rfl
theorem tk63 : tk Try.prog 63 = some (.other) := by kernel_rfl
theorem ts63 : tsize Try.prog 63 = some 1 := by kernel_rfl
theorem tz63 : tzero Try.prog 63 = some [.nilfunc] := by kernel_rfl
theorem tb63 : tbytes Try.prog 63 = some 8 := by kernel_rfl
theorem tk64 : tk Try.prog 64 = some (.arr 3 30) := by kernel_rfl
theorem ts64 : tsize Try.prog 64 = some 3 := by kernel_rfl
theorem tz64 : tzero Try.prog 64 = some [.int .i64 0, .int .i64 0, .int .i64 0] := by kernel_rfl
theorem tb64 : tbytes Try.prog 64 = some 24 := by kernel_rfl
theorem tk65 : tk Try.prog 65 = some (.st [(0, 41), (6, 24), (9, 24), (12, 24), (15, 64)]) := by kernel_rfl
theorem ts65 : tsize Try.prog 65 = some 18 := by kernel_rfl
theorem tz65 : tzero Try.prog 65 = some [.int .i64 0, .int .i64 0, .nilsl, .int .i64 0, .int .i64 0, .nilsl, .int .i64 0, .int .i64 0, .nilsl, .int .i64 0, .int .i64 0, .nilsl, .int .i64 0, .int .i64 0, .nilsl, .int .i64 0, .int .i64 0, .int .i64 0] := by kernel_rfl
theorem tb65 : tbytes Try.prog 65 = some 224 := by kernel_rfl
theorem pl65 : places Try.prog [(0, 41), (6, 24), (9, 24), (12, 24), (15, 64)] = some [(0, 6), (6, 3), (9, 3), (12, 3), (15, 3)] := by kernel_rfl
theorem tk66 : tk Try.prog 66 = some (.st [(0, 41), (6, 24), (9, 24), (12, 24), (15, 64)]) := by kernel_rfl
theorem ts66 : tsize Try.prog 66 = some 18 := by kernel_rfl
theorem tz66 : tzero Try.prog 66 = some [.int .i64 0, .int .i64 0, .nilsl, .int .i64 0, .int .i64 0, .nilsl, .int .i64 0, .int .i64 0, .nilsl, .int .i64 0, .int .i64 0, .nilsl, .int .i64 0, .int .i64 0, .nilsl, .int .i64 0, .int .i64 0, .int .i64 0] := by kernel_rfl
theorem tb66 : tbytes Try.prog 66 = some 224 := by kernel_rfl
theorem pl66 : places Try.prog [(0, 41), (6, 24), (9, 24), (12, 24), (15, 64)] = some [(0, 6), (6, 3), (9, 3), (12, 3), (15, 3)] := by kernel_rfl
theorem tk68 : tk Try.prog 68 = some (.other) := by kernel_rfl
theorem ts68 : tsize Try.prog 68 = some 1 := by kernel_rfl
theorem tz68 : tzero Try.prog 68 = some [.nilfunc] := by kernel_rfl
theorem tb68 : tbytes Try.prog 68 = some 8 := by kernel_rfl
theorem tk69 : tk Try.prog 69 = some (.other) := by kernel_rfl
theorem ts69 : tsize Try.prog 69 = some 1 := by kernel_rfl
theorem tz69 : tzero Try.prog 69 = some [.nilfunc] := by kernel_rfl
theorem tb69 : tbytes Try.prog 69 = some 8 := by kernel_rfl
theorem tk71 : tk Try.prog 71 = some (.other) := by kernel_rfl
theorem ts71 : tsize Try.prog 71 = some 1 := by kernel_rfl
theorem tz71 : tzero Try.prog 71 = some [.nilfunc] := by kernel_rfl
theorem tb71 : tbytes Try.prog 71 = some 8 := by kernel_rfl
theorem tk72 : tk Try.prog 72 = some (.st [(0, 30), (1, 30), (2, 30), (3, 30), (4, 30), (5, 30)]) := by kernel_rfl
theorem ts72 : tsize Try.prog 72 = some 6 := by kernel_rfl
theorem tz72 : tzero Try.prog 72 = some [.int .i64 0, .int .i64 0, .int .i64 0, .int .i64 0, .int .i64 0, .int .i64 0] := by kernel_rfl
theorem tb72 : tbytes Try.prog 72 = some 48 := by kernel_rfl
theorem pl72 : places Try.prog [(0, 30), (1, 30), (2, 30), (3, 30), (4, 30), (5, 30)] = some [(0, 1), (1, 1), (2, 1), (3, 1), (4, 1), (5, 1)] := by kernel_rfl
theorem tk73 : tk Try.prog 73 = some (.st [(0, 30), (1, 30), (2, 30), (3, 30), (4, 30), (5, 30)]) := by kernel_rfl
theorem ts73 : tsize Try.prog 73 = some 6 := by kernel_rfl
theorem tz73 : tzero Try.prog 73 = some [.int .i64 0, .int .i64 0, .int .i64 0, .int .i64 0, .int .i64 0, .int .i64 0] := by kernel_rfl
theorem tb73 : tbytes Try.prog 73 = some 48 := by kernel_rfl
theorem pl73 : places Try.prog [(0, 30), (1, 30), (2, 30), (3, 30), (4, 30), (5, 30)] = some [(0, 1), (1, 1), (2, 1), (3, 1), (4, 1), (5, 1)] := by kernel_rfl
theorem tk74 : tk Try.prog 74 = some (.other) := by kernel_rfl
theorem ts74 : tsize Try.prog 74 = some 1 := by kernel_rfl
theorem tz74 : tzero Try.prog 74 = some [.nilfunc] := by kernel_rfl
theorem tb74 : tbytes Try.prog 74 = some 8 := by kernel_rfl
theorem tk75 : tk Try.prog 75 = some (.arr 4 30) := by kernel_rfl
theorem ts75 : tsize Try.prog 75 = some 4 := by kernel_rfl
theorem tz75 : tzero Try.prog 75 = some [.int .i64 0, .int .i64 0, .int .i64 0, .int .i64 0] := by kernel_rfl
theorem tb75 : tbytes Try.prog 75 = some 32 := by kernel_rfl
theorem tk76 : tk Try.prog 76 = some (.arr 4 30) := by kernel_rfl
theorem ts76 : tsize Try.prog 76 = some 4 := by kernel_rfl
theorem tz76 : tzero Try.prog 76 = some [.int .i64 0, .int .i64 0, .int .i64 0, .int .i64 0] := by kernel_rfl
theorem tb76 : tbytes Try.prog 76 = some 32 := by kernel_rfl
theorem tk77 : tk Try.prog 77 = some (.arr 3 41) := by kernel_rfl
theorem ts77 : tsize Try.prog 77 = some 18 := by kernel_rfl
theorem tz77 : tzero Try.prog 77 = some [.int .i64 0, .int .i64 0, .nilsl, .int .i64 0, .int .i64 0, .nilsl, .int .i64 0, .int .i64 0, .nilsl, .int .i64 0, .int .i64 0, .nilsl, .int .i64 0, .int .i64 0, .nilsl, .int .i64 0, .int .i64 0, .nilsl] := by kernel_rfl
theorem tb77 : tbytes Try.prog 77 = some 240 := by kernel_rfl
theorem tk78 : tk Try.prog 78 = some (.arr 4 3) := by kernel_rfl
theorem ts78 : tsize Try.prog 78 = some 4 := by kernel_rfl
theorem tz78 : tzero Try.prog 78 = some [.int .i64 0, .int .i64 0, .int .i64 0, .int .i64 0] := by kernel_rfl
theorem tb78 : tbytes Try.prog 78 = some 32 := by kernel_rfl
theorem tk79 : tk Try.prog 79 = some (.st [(0, 76), (4, 77), (22, 3), (23, 3), (24, 78), (28, 4)]) := by kernel_rfl
theorem ts79 : tsize Try.prog 79 = some 29 := by kernel_rfl
theorem tz79 : tzero Try.prog 79 = some [.int .i64 0, .int .i64 0, .int .i64 0, .int .i64 0, .int .i64 0, .int .i64 0, .nilsl, .int .i64 0, .int .i64 0, .nilsl, .int .i64 0, .int .i64 0, .nilsl, .int .i64 0, .int .i64 0, .nilsl, .int .i64 0, .int .i64 0, .nilsl, .int .i64 0, .int .i64 0, .nilsl, .int .i64 0, .int .i64 0, .int .i64 0, .int .i64 0, .int .i64 0, .int .i64 0, .bool false] := by kernel_rfl
theorem tb79 : tbytes Try.prog 79 = some 328 := by kernel_rfl
theorem pl79 : places Try.prog [(0, 76), (4, 77), (22, 3), (23, 3), (24, 78), (28, 4)] = some [(0, 4), (4, 18), (22, 1), (23, 1), (24, 4), (28, 1)] := by kernel_rfl
theorem tk80 : tk Try.prog 80 = some (.st [(0, 76), (4, 77), (22, 3), (23, 3), (24, 78), (28, 4)]) := by kernel_rfl
theorem ts80 : tsize Try.prog 80 = some 29 := by kernel_rfl
theorem tz80 : tzero Try.prog 80 = some [.int .i64 0, .int .i64 0, .int .i64 0, .int .i64 0, .int .i64 0, .int .i64 0, .nilsl, .int .i64 0, .int .i64 0, .nilsl, .int .i64 0, .int .i64 0, .nilsl, .int .i64 0, .int .i64 0, .nilsl, .int .i64 0, .int .i64 0, .nilsl, .int .i64 0, .int .i64 0, .nilsl, .int .i64 0, .int .i64 0, .int .i64 0, .int .i64 0, .int .i64 0, .int .i64 0, .bool false] := by kernel_rfl
theorem tb80 : tbytes Try.prog 80 = some 328 := by kernel_rfl
theorem pl80 : places Try.prog [(0, 76), (4, 77), (22, 3), (23, 3), (24, 78), (28, 4)] = some [(0, 4), (4, 18), (22, 1), (23, 1), (24, 4), (28, 1)] := by kernel_rfl
theorem tk82 : tk Try.prog 82 = some (.other) := by kernel_rfl
theorem ts82 : tsize Try.prog 82 = some 1 := by kernel_rfl
theorem tz82 : tzero Try.prog 82 = some [.nilfunc] := by kernel_rfl
theorem tb82 : tbytes Try.prog 82 = some 8 := by kernel_rfl
theorem tk83 : tk Try.prog 83 = some (.arr 3 30) := by kernel_rfl
theorem ts83 : tsize Try.prog 83 = some 3 := by kernel_rfl
theorem tz83 : tzero Try.prog 83 = some [.int .i64 0, .int .i64 0, .int .i64 0] := by kernel_rfl
theorem tb83 : tbytes Try.prog 83 = some 24 := by kernel_rfl
theorem tk85 : tk Try.prog 85 = some (.other) := by kernel_rfl
theorem ts85 : tsize Try.prog 85 = some 1 := by kernel_rfl
theorem tz85 : tzero Try.prog 85 = some [.nilfunc] := by kernel_rfl
theorem tb85 : tbytes Try.prog 85 = some 8 := by kernel_rfl
theorem tk86 : tk Try.prog 86 = some (.st [(0, 4), (1, 83), (4, 83), (7, 4), (8, 30), (9, 4), (10, 83)]) := by kernel_rfl
theorem ts86 : tsize Try.prog 86 = some 13 := by kernel_rfl
theorem tz86 : tzero Try.prog 86 = some [.bool false, .int .i64 0, .int .i64 0, .int .i64 0, .int .i64 0, .int .i64 0, .int .i64 0, .bool false, .int .i64 0, .bool false, .int .i64 0, .int .i64 0, .int .i64 0] := by kernel_rfl
theorem tb86 : tbytes Try.prog 86 = some 104 := by kernel_rfl
theorem pl86 : places Try.prog [(0, 4), (1, 83), (4, 83), (7, 4), (8, 30), (9, 4), (10, 83)] = some [(0, 1), (1, 3), (4, 3), (7, 1), (8, 1), (9, 1), (10, 3)] := by kernel_rfl
theorem tk87 : tk Try.prog 87 = some (.st [(0, 4), (1, 83), (4, 83), (7, 4), (8, 30), (9, 4), (10, 83)]) := by kernel_rfl
theorem ts87 : tsize Try.prog 87 = some 13 := by kernel_rfl
theorem tz87 : tzero Try.prog 87 = some [.bool false, .int .i64 0, .int .i64 0, .int .i64 0, .int .i64 0, .int .i64 0, .int .i64 0, .bool false, .int .i64 0, .bool false, .int .i64 0, .int .i64 0, .int .i64 0] := by kernel_rfl
theorem tb87 : tbytes Try.prog 87 = some 104 := by kernel_rfl
theorem pl87 : places Try.prog [(0, 4), (1, 83), (4, 83), (7, 4), (8, 30), (9, 4), (10, 83)] = some [(0, 1), (1, 3), (4, 3), (7, 1), (8, 1), (9, 1), (10, 3)] := by kernel_rfl
theorem tk88 : tk Try.prog 88 = some (.other) := by kernel_rfl
theorem ts88 : tsize Try.prog 88 = some 1 := by kernel_rfl
theorem tz88 : tzero Try.prog 88 = some [.nilfunc] := by kernel_rfl
theorem tb88 : tbytes Try.prog 88 = some 8 := by kernel_rfl
theorem tk89 : tk Try.prog 89 = some (.other) := by kernel_rfl
theorem ts89 : tsize Try.prog 89 = some 1 := by kernel_rfl
theorem tz89 : tzero Try.prog 89 = some [.nilfunc] := by kernel_rfl
theorem tb89 : tbytes Try.prog 89 = some 8 := by kernel_rfl
theorem tk90 : tk Try.prog 90 = some (.other) := by kernel_rfl
theorem ts90 : tsize Try.prog 90 = some 1 := by kernel_rfl
theorem tz90 : tzero Try.prog 90 = some [.nilfunc] := by kernel_rfl
theorem tb90 : tbytes Try.prog 90 = some 8 := by kernel_rfl
theorem tk91 : tk Try.prog 91 = some (.other) := by kernel_rfl
theorem ts91 : tsize Try.prog 91 = some 1 := by kernel_rfl
theorem tz91 : tzero Try.prog 91 = some [.nilfunc] := by kernel_rfl
theorem tb91 : tbytes Try.prog 91 = some 8 := by kernel_rfl
theorem tk92 : tk Try.prog 92 = some (.other) := by kernel_rfl
theorem ts92 : tsize Try.prog 92 = some 1 := by kernel_rfl
theorem tz92 : tzero Try.prog 92 = some [.nilfunc] := by kernel_rfl
theorem tb92 : tbytes Try.prog 92 = some 8 := by kernel_rfl
theorem tk93 : tk Try.prog 93 = some (.sl 87) := by kernel_rfl
theorem ts93 : tsize Try.prog 93 = some 1 := by kernel_rfl
theorem tz93 : tzero Try.prog 93 = some [.nilsl] := by kernel_rfl
theorem tb93 : tbytes Try.prog 93 = some 24 := by kernel_rfl
theorem tk94 : tk Try.prog 94 = some (.sl 114) := by kernel_rfl
theorem ts94 : tsize Try.prog 94 = some 1 := by kernel_rfl
theorem tz94 : tzero Try.prog 94 = some [.nilsl] := by kernel_rfl
theorem tb94 : tbytes Try.prog 94 = some 24 := by kernel_rfl
theorem tk95 : tk Try.prog 95 = some (.st [(0, 93), (1, 93), (2, 94), (3, 2)]) := by kernel_rfl
theorem ts95 : tsize Try.prog 95 = some 4 := by kernel_rfl
theorem tz95 : tzero Try.prog 95 = some [.nilsl, .nilsl, .nilsl, .int .i64 0] := by kernel_rfl
theorem tb95 : tbytes Try.prog 95 = some 80 := by kernel_rfl
theorem pl95 : places Try.prog [(0, 93), (1, 93), (2, 94), (3, 2)] = some [(0, 1), (1, 1), (2, 1), (3, 1)] := by kernel_rfl
theorem tk96 : tk Try.prog 96 = some (.st [(0, 93), (1, 93), (2, 94), (3, 2)]) := by kernel_rfl
theorem ts96 : tsize Try.prog 96 = some 4 := by kernel_rfl
theorem tz96 : tzero Try.prog 96 = some [.nilsl, .nilsl, .nilsl, .int .i64 0] := by kernel_rfl
theorem tb96 : tbytes Try.prog 96 = some 80 := by kernel_rfl
theorem pl96 : places Try.prog [(0, 93), (1, 93), (2, 94), (3, 2)] = some [(0, 1), (1, 1), (2, 1), (3, 1)] := by kernel_rfl
theorem tk97 : tk Try.prog 97 = some (.other) := by kernel_rfl
theorem ts97 : tsize Try.prog 97 = some 1 := by kernel_rfl
theorem tz97 : tzero Try.prog 97 = some [.nilfunc] := by kernel_rfl
theorem tb97 : tbytes Try.prog 97 = some 8 := by kernel_rfl
theorem tk98 : tk Try.prog 98 = some (.other) := by kernel_rfl
theorem ts98 : tsize Try.prog 98 = some 1 := by kernel_rfl
theorem tz98 : tzero Try.prog 98 = some [.nilfunc] := by kernel_rfl
theorem tb98 : tbytes Try.prog 98 = some 8 := by kernel_rfl
theorem tk99 : tk Try.prog 99 = some (.other) := by kernel_rfl
theorem ts99 : tsize Try.prog 99 = some 1 := by kernel_rfl
theorem tz99 : tzero Try.prog 99 = some [.nilfunc] := by kernel_rfl
theorem tb99 : tbytes Try.prog 99 = some 8 := by kernel_rfl
theorem tk100 : tk Try.prog 100 = some (.sl 112) := by kernel_rfl
theorem ts100 : tsize Try.prog 100 = some 1 := by kernel_rfl
theorem tz100 : tzero Try.prog 100 = some [.nilsl] := by kernel_rfl
theorem tb100 : tbytes Try.prog 100 = some 24 := by kernel_rfl
theorem tk101 : tk Try.prog 101 = some (.other) := by kernel_rfl
theorem ts101 : tsize Try.prog 101 = some 1 := by kernel_rfl
theorem tz101 : tzero Try.prog 101 = some [.nilfunc] := by kernel_rfl
theorem tb101 : tbytes Try.prog 101 = some 8 := by kernel_rfl
theorem tk102 : tk Try.prog 102 = some (.other) := by kernel_rfl
theorem ts102 : tsize Try.prog 102 = some 1 := by kernel_rfl
theorem tz102 : tzero Try.prog 102 = some [.nilfunc] := by kernel_rfl
theorem tb102 : tbytes Try.prog 102 = some 8 := by kernel_rfl
theorem tk103 : tk Try.prog 103 = some (.st [(0, 73), (6, 93), (7, 3), (8, 100)]) := by kernel_rfl
theorem ts103 : tsize Try.prog 103 = some 9 := by kernel_rfl
theorem tz103 : tzero Try.prog 103 = some [.int .i64 0, .int .i64 0, .int .i64 0, .int .i64 0, .int .i64 0, .int .i64 0, .nilsl, .int .i64 0, .nilsl] := by kernel_rfl
theorem tb103 : tbytes Try.prog 103 = some 104 := by kernel_rfl
theorem pl103 : places Try.prog [(0, 73), (6, 93), (7, 3), (8, 100)] = some [(0, 6), (6, 1), (7, 1), (8, 1)] := by kernel_rfl
theorem tk104 : tk Try.prog 104 = some (.st [(0, 73), (6, 93), (7, 3), (8, 100)]) := by kernel_rfl
theorem ts104 : tsize Try.prog 104 = some 9 := by kernel_rfl
theorem tz104 : tzero Try.prog 104 = some [.int .i64 0, .int .i64 0, .int .i64 0, .int .i64 0, .int .i64 0, .int .i64 0, .nilsl, .int .i64 0, .nilsl] := by kernel_rfl
theorem tb104 : tbytes Try.prog 104 = some 104 := by kernel_rfl
theorem pl104 : places Try.prog [(0, 73), (6, 93), (7, 3), (8, 100)] = some [(0, 6), (6, 1), (7, 1), (8, 1)] := by kernel_rfl
theorem tk105 : tk Try.prog 105 = some (.sl 83) := by kernel_rfl
theorem ts105 : tsize Try.prog 105 = some 1 := by kernel_rfl
theorem tz105 : tzero Try.prog 105 = some [.nilsl] := by kernel_rfl
theorem tb105 : tbytes Try.prog 105 = some 24 := by kernel_rfl
theorem tk107 : tk Try.prog 107 = some (.other) := by kernel_rfl
theorem ts107 : tsize Try.prog 107 = some 1 := by kernel_rfl
theorem tz107 : tzero Try.prog 107 = some [.nilfunc] := by kernel_rfl
theorem tb107 : tbytes Try.prog 107 = some 8 := by kernel_rfl
theorem tk108 : tk Try.prog 108 = some (.other) := by kernel_rfl
theorem ts108 : tsize Try.prog 108 = some 1 := by kernel_rfl
theorem tz108 : tzero Try.prog 108 = some [.nilfunc] := by kernel_rfl
theorem tb108 : tbytes Try.prog 108 = some 8 := by kernel_rfl
theorem tk109 : tk Try.prog 109 = some (.other) := by kernel_rfl
theorem ts109 : tsize Try.prog 109 = some 1 := by kernel_rfl
theorem tz109 : tzero Try.prog 109 = some [.nilfunc] := by kernel_rfl
theorem tb109 : tbytes Try.prog 109 = some 8 := by kernel_rfl
theorem tk110 : tk Try.prog 110 = some (.other) := by kernel_rfl
theorem ts110 : tsize Try.prog 110 = some 1 := by kernel_rfl
theorem tz110 : tzero Try.prog 110 = some [.nilfunc] := by kernel_rfl
theorem tb110 : tbytes Try.prog 110 = some 8 := by kernel_rfl
theorem tk111 : tk Try.prog 111 = some (.st [(0, 2), (1, 83)]) := by kernel_rfl
theorem ts111 : tsize Try.prog 111 = some 4 := by kernel_rfl
theorem tz111 : tzero Try.prog 111 = some [.int .i64 0, .int .i64 0, .int .i64 0, .int .i64 0] := by kernel_rfl
theorem tb111 : tbytes Try.prog 111 = some 32 := by kernel_rfl
theorem pl111 : places Try.prog [(0, 2), (1, 83)] = some [(0, 1), (1, 3)] := by kernel_rfl
theorem tk112 : tk Try.prog 112 = some (.st [(0, 2), (1, 83)]) := by kernel_rfl
theorem ts112 : tsize Try.prog 112 = some 4 := by kernel_rfl
theorem tz112 : tzero Try.prog 112 = some [.int .i64 0, .int .i64 0, .int .i64 0, .int .i64 0] := by kernel_rfl
theorem tb112 : tbytes Try.prog 112 = some 32 := by kernel_rfl
theorem pl112 : places Try.prog [(0, 2), (1, 83)] = some [(0, 1), (1, 3)] := by kernel_rfl
theorem tk113 : tk Try.prog 113 = some (.st [(0, 2), (1, 2), (2, 83)]) := by kernel_rfl
theorem ts113 : tsize Try.prog 113 = some 5 := by kernel_rfl
theorem tz113 : tzero Try.prog 113 = some [.int .i64 0, .int .i64 0, .int .i64 0, .int .i64 0, .int .i64 0] := by kernel_rfl
theorem tb113 : tbytes Try.prog 113 = some 40 := by kernel_rfl
theorem pl113 : places Try.prog [(0, 2), (1, 2), (2, 83)] = some [(0, 1), (1, 1), (2, 3)] := by kernel_rfl
theorem tk114 : tk Try.prog 114 = some (.st [(0, 2), (1, 2), (2, 83)]) := by kernel_rfl
theorem ts114 : tsize Try.prog 114 = some 5 := by kernel_rfl
theorem tz114 : tzero Try.prog 114 = some [.int .i64 0, .int .i64 0, .int .i64 0, .int .i64 0, .int .i64 0] := by kernel_rfl
theorem tb114 : tbytes Try.prog 114 = some 40 := by kernel_rfl
theorem pl114 : places Try.prog [(0, 2), (1, 2), (2, 83)] = some [(0, 1), (1, 1), (2, 3)] := by kernel_rfl
theorem tk115 : tk Try.prog 115 = some (.other) := by kernel_rfl
theorem ts115 : tsize Try.prog 115 = some 1 := by kernel_rfl
theorem tz115 : tzero Try.prog 115 = some [.nilfunc] := by kernel_rfl
theorem tb115 : tbytes Try.prog 115 = some 8 := by kernel_rfl
theorem tk116 : tk Try.prog 116 = some (.st [(0, 73), (6, 93), (7, 2), (8, 30)]) := by kernel_rfl
theorem ts116 : tsize Try.prog 116 = some 9 := by kernel_rfl
theorem tz116 : tzero Try.prog 116 = some [.int .i64 0, .int .i64 0, .int .i64 0, .int .i64 0, .int .i64 0, .int .i64 0, .nilsl, .int .i64 0, .int .i64 0] := by kernel_rfl
theorem tb116 : tbytes Try.prog 116 = some 88 := by kernel_rfl
theorem pl116 : places Try.prog [(0, 73), (6, 93), (7, 2), (8, 30)] = some [(0, 6), (6, 1), (7, 1), (8, 1)] := by kernel_rfl
theorem tk117 : tk Try.prog 117 = some (.st [(0, 73), (6, 93), (7, 2), (8, 30)]) := by kernel_rfl
theorem ts117 : tsize Try.prog 117 = some 9 := by kernel_rfl
theorem tz117 : tzero Try.prog 117 = some [.int .i64 0, .int .i64 0, .int .i64 0, .int .i64 0, .int .i64 0, .int .i64 0, .nilsl, .int .i64 0, .int .i64 0] := by kernel_rfl
theorem tb117 : tbytes Try.prog 117 = some 88 := by kernel_rfl
theorem pl117 : places Try.prog [(0, 73), (6, 93), (7, 2), (8, 30)] = some [(0, 6), (6, 1), (7, 1), (8, 1)] := by kernel_rfl
theorem tk118 : tk Try.prog 118 = some (.other) := by kernel_rfl
theorem ts118 : tsize Try.prog 118 = some 1 := by kernel_rfl
theorem tz118 : tzero Try.prog 118 = some [.nilfunc] := by kernel_rfl
theorem tb118 : tbytes Try.prog 118 = some 8 := by kernel_rfl
theorem tk119 : tk Try.prog 119 = some (.other) := by kernel_rfl
theorem ts119 : tsize Try.prog 119 = some 1 := by kernel_rfl
theorem tz119 : tzero Try.prog 119 = some [.nilfunc] := by kernel_rfl
theorem tb119 : tbytes Try.prog 119 = some 8 := by kernel_rfl
theorem tk120 : tk Try.prog 120 = some (.sl 2) := by kernel_rfl
theorem ts120 : tsize Try.prog 120 = some 1 := by kernel_rfl
theorem tz120 : tzero Try.prog 120 = some [.nilsl] := by kernel_rfl
theorem tb120 : tbytes Try.prog 120 = some 24 := by kernel_rfl
theorem tk121 : tk Try.prog 121 = some (.other) := by kernel_rfl
theorem ts121 : tsize Try.prog 121 = some 1 := by kernel_rfl
theorem tz121 : tzero Try.prog 121 = some [.nilfunc] := by kernel_rfl
theorem tb121 : tbytes Try.prog 121 = some 8 := by kernel_rfl
theorem tk122 : tk Try.prog 122 = some (.other) := by kernel_rfl
theorem ts122 : tsize Try.prog 122 = some 1 := by kernel_rfl
theorem tz122 : tzero Try.prog 122 = some [.nilfunc] := by kernel_rfl
theorem tb122 : tbytes Try.prog 122 = some 8 := by kernel_rfl
theorem tk123 : tk Try.prog 123 = some (.other) := by kernel_rfl
theorem ts123 : tsize Try.prog 123 = some 1 := by kernel_rfl
theorem tz123 : tzero Try.prog 123 = some [.nilfunc] := by kernel_rfl
theorem tb123 : tbytes Try.prog 123 = some 8 := by kernel_rfl
theorem tk124 : tk Try.prog 124 = some (.other) := by kernel_rfl
theorem ts124 : tsize Try.prog 124 = some 1 := by kernel_rfl
theorem tz124 : tzero Try.prog 124 = some [.nilfunc] := by kernel_rfl
theorem tb124 : tbytes Try.prog 124 = some 8 := by kernel_rfl
theorem tk125 : tk Try.prog 125 = some (.other) := by kernel_rfl
theorem ts125 : tsize Try.prog 125 = some 1 := by kernel_rfl
theorem tz125 : tzero Try.prog 125 = some [.nilfunc] := by kernel_rfl
theorem tb125 : tbytes Try.prog 125 = some 8 := by kernel_rfl
theorem tk126 : tk Try.prog 126 = some (.other) := by kernel_rfl
theorem ts126 : tsize Try.prog 126 = some 1 := by kernel_rfl
theorem tz126 : tzero Try.prog 126 = some [.nilfunc] := by kernel_rfl
theorem tb126 : tbytes Try.prog 126 = some 8 := by kernel_rfl
theorem tk127 : tk Try.prog 127 = some (.other) := by kernel_rfl
theorem ts127 : tsize Try.prog 127 = some 1 := by kernel_rfl
theorem tz127 : tzero Try.prog 127 = some [.nilfunc] := by kernel_rfl
theorem tb127 : tbytes Try.prog 127 = some 8 := by kernel_rfl
theorem tk128 : tk Try.prog 128 = some (.other) := by kernel_rfl
theorem ts128 : tsize Try.prog 128 = some 1 := by kernel_rfl
theorem tz128 : tzero Try.prog 128 = some [.nilfunc] := by kernel_rfl
theorem tb128 : tbytes Try.prog 128 = some 8 := by kernel_rfl
theorem tk130 : tk Try.prog 130 = some (.other) := by kernel_rfl
theorem ts130 : tsize Try.prog 130 = some 1 := by kernel_rfl
theorem tz130 : tzero Try.prog 130 = some [.nilfunc] := by kernel_rfl
theorem tb130 : tbytes Try.prog 130 = some 8 := by kernel_rfl
theorem tk131 : tk Try.prog 131 = some (.st [(0, 3), (1, 3)]) := by kernel_rfl
theorem ts131 : tsize Try.prog 131 = some 2 := by kernel_rfl
theorem tz131 : tzero Try.prog 131 = some [.int .i64 0, .int .i64 0] := by kernel_rfl
theorem tb131 : tbytes Try.prog 131 = some 16 := by kernel_rfl
theorem pl131 : places Try.prog [(0, 3), (1, 3)] = some [(0, 1), (1, 1)] := by kernel_rfl
theorem tk132 : tk Try.prog 132 = some (.st [(0, 3), (1, 3)]) := by kernel_rfl
theorem ts132 : tsize Try.prog 132 = some 2 := by kernel_rfl
theorem tz132 : tzero Try.prog 132 = some [.int .i64 0, .int .i64 0] := by kernel_rfl
theorem tb132 : tbytes Try.prog 132 = some 16 := by kernel_rfl
theorem pl132 : places Try.prog [(0, 3), (1, 3)] = some [(0, 1), (1, 1)] := by kernel_rfl
theorem tk133 : tk Try.prog 133 = some (.other) := by kernel_rfl
theorem ts133 : tsize Try.prog 133 = some 1 := by kernel_rfl
theorem tz133 : tzero Try.prog 133 = some [.nilfunc] := by kernel_rfl
theorem tb133 : tbytes Try.prog 133 = some 8 := by kernel_rfl
theorem tk134 : tk Try.prog 134 = some (.other) := by kernel_rfl
theorem ts134 : tsize Try.prog 134 = some 1 := by kernel_rfl
theorem tz134 : tzero Try.prog 134 = some [.nilfunc] := by kernel_rfl
theorem tb134 : tbytes Try.prog 134 = some 8 := by kernel_rfl
theorem tk135 : tk Try.prog 135 = some (.other) := by kernel_rfl
theorem ts135 : tsize Try.prog 135 = some 1 := by kernel_rfl
theorem tz135 : tzero Try.prog 135 = some [.nilfunc] := by kernel_rfl
theorem tb135 : tbytes Try.prog 135 = some 8 := by kernel_rfl
theorem tk137 : tk Try.prog 137 = some (.other) := by kernel_rfl
theorem ts137 : tsize Try.prog 137 = some 1 := by kernel_rfl
theorem tz137 : tzero Try.prog 137 = some [.nilfunc] := by kernel_rfl
theorem tb137 : tbytes Try.prog 137 = some 8 := by kernel_rfl
theorem tk138 : tk Try.prog 138 = some (.other) := by kernel_rfl
theorem ts138 : tsize Try.prog 138 = some 1 := by kernel_rfl
theorem tz138 : tzero Try.prog 138 = some [.nilfunc] := by kernel_rfl
theorem tb138 : tbytes Try.prog 138 = some 8 := by kernel_rfl
theorem tk139 : tk Try.prog 139 = some (.other) := by kernel_rfl
theorem ts139 : tsize Try.prog 139 = some 1 := by kernel_rfl
theorem tz139 : tzero Try.prog 139 = some [.nilfunc] := by kernel_rfl
theorem tb139 : tbytes Try.prog 139 = some 8 := by kernel_rfl
theorem tk140 : tk Try.prog 140 = some (.ptr 142) := by kernel_rfl
theorem ts140 : tsize Try.prog 140 = some 1 := by kernel_rfl
theorem tz140 : tzero Try.prog 140 = some [.nilptr] := by kernel_rfl
theorem tb140 : tbytes Try.prog 140 = some 8 := by kernel_rfl
theorem tk141 : tk Try.prog 141 = some (.st [(0, 4)]) := by kernel_rfl
theorem ts141 : tsize Try.prog 141 = some 1 := by kernel_rfl
theorem tz141 : tzero Try.prog 141 = some [.bool false] := by kernel_rfl
theorem tb141 : tbytes Try.prog 141 = some 1 := by kernel_rfl
theorem pl141 : places Try.prog [(0, 4)] = some [(0, 1)] := by kernel_rfl
theorem tk142 : tk Try.prog 142 = some (.st [(0, 4)]) := by kernel_rfl
theorem ts142 : tsize Try.prog 142 = some 1 := by kernel_rfl
theorem tz142 : tzero Try.prog 142 = some [.bool false] := by kernel_rfl
theorem tb142 : tbytes Try.prog 142 = some 1 := by kernel_rfl
theorem pl142 : places Try.prog [(0, 4)] = some [(0, 1)] := by kernel_rfl
theorem tk144 : tk Try.prog 144 = some (.other) := by kernel_rfl
theorem ts144 : tsize Try.prog 144 = some 1 := by kernel_rfl
theorem tz144 : tzero Try.prog 144 = some [.nilfunc] := by kernel_rfl
theorem tb144 : tbytes Try.prog 144 = some 8 := by kernel_rfl
theorem tk145 : tk Try.prog 145 = some (.other) := by kernel_rfl
theorem ts145 : tsize Try.prog 145 = some 1 := by kernel_rfl
theorem tz145 : tzero Try.prog 145 = some [.nilfunc] := by kernel_rfl
theorem tb145 : tbytes Try.prog 145 = some 8 := by kernel_rfl
theorem tk146 : tk Try.prog 146 = some (.other) := by kernel_rfl
theorem ts146 : tsize Try.prog 146 = some 1 := by kernel_rfl
theorem tz146 : tzero Try.prog 146 = some [.nilfunc] := by kernel_rfl
theorem tb146 : tbytes Try.prog 146 = some 8 := by kernel_rfl
theorem tk147 : tk Try.prog 147 = some (.other) := by kernel_rfl
theorem ts147 : tsize Try.prog 147 = some 1 := by kernel_rfl
theorem tz147 : tzero Try.prog 147 = some [.nilfunc] := by kernel_rfl
theorem tb147 : tbytes Try.prog 147 = some 8 := by kernel_rfl
theorem tk149 : tk Try.prog 149 = some (.other) := by kernel_rfl
theorem ts149 : tsize Try.prog 149 = some 1 := by kernel_rfl
theorem tz149 : tzero Try.prog 149 = some [.nilfunc] := by kernel_rfl
theorem tb149 : tbytes Try.prog 149 = some 8 := by kernel_rfl
theorem tk150 : tk Try.prog 150 = some (.other) := by kernel_rfl
theorem ts150 : tsize Try.prog 150 = some 1 := by kernel_rfl
theorem tz150 : tzero Try.prog 150 = some [.nilfunc] := by kernel_rfl
theorem tb150 : tbytes Try.prog 150 = some 8 := by kernel_rfl
theorem tk151 : tk Try.prog 151 = some (.other) := by kernel_rfl
theorem ts151 : tsize Try.prog 151 = some 1 := by kernel_rfl
theorem tz151 : tzero Try.prog 151 = some [.nilfunc] := by kernel_rfl
theorem tb151 : tbytes Try.prog 151 = some 8 := by kernel_rfl
theorem tk152 : tk Try.prog 152 = some (.other) := by kernel_rfl
theorem ts152 : tsize Try.prog 152 = some 1 := by kernel_rfl
theorem tz152 : tzero Try.prog 152 = some [.nilfunc] := by kernel_rfl
theorem tb152 : tbytes Try.prog 152 = some 8 := by kernel_rfl
theorem tk153 : tk Try.prog 153 = some (.ptr 155) := by kernel_rfl
theorem ts153 : tsize Try.prog 153 = some 1 := by kernel_rfl
theorem tz153 : tzero Try.prog 153 = some [.nilptr] := by kernel_rfl
theorem tb153 : tbytes Try.prog 153 = some 8 := by kernel_rfl
theorem tk154 : tk Try.prog 154 = some (.st [(0, 73), (6, 80), (35, 87), (48, 83)]) := by kernel_rfl
theorem ts154 : tsize Try.prog 154 = some 51 := by kernel_rfl
theorem tz154 : tzero Try.prog 154 = some [.int .i64 0, .int .i64 0, .int .i64 0, .int .i64 0, .int .i64 0, .int .i64 0, .int .i64 0, .int .i64 0, .int .i64 0, .int .i64 0, .int .i64 0, .int .i64 0, .nilsl, .int .i64 0, .int .i64 0, .nilsl, .int .i64 0, .int .i64 0, .nilsl, .int .i64 0, .int .i64 0, .nilsl, .int .i64 0, .int .i64 0, .nilsl, .int .i64 0, .int .i64 0, .nilsl, .int .i64 0, .int .i64 0, .int .i64 0, .int .i64 0, .int .i64 0, .int .i64 0, .bool false, .bool false, .int .i64 0, .int .i64 0, .int .i64 0, .int .i64 0, .int .i64 0, .int .i64 0, .bool false, .int .i64 0, .bool false, .int .i64 0, .int .i64 0, .int .i64 0, .int .i64 0, .int .i64 0, .int .i64 0] := by kernel_rfl
theorem tb154 : tbytes Try.prog 154 = some 504 := by kernel_rfl
theorem pl154 : places Try.prog [(0, 73), (6, 80), (35, 87), (48, 83)] = some [(0, 6), (6, 29), (35, 13), (48, 3)] := by kernel_rfl
theorem tk155 : tk Try.prog 155 = some (.st [(0, 73), (6, 80), (35, 87), (48, 83)]) := by kernel_rfl
theorem ts155 : tsize Try.prog 155 = some 51 := by kernel_rfl
theorem tz155 : tzero Try.prog 155 = some [.int .i64 0, .int .i64 0, .int .i64 0, .int .i64 0, .int .i64 0, .int .i64 0, .int .i64 0, .int .i64 0, .int .i64 0, .int .i64 0, .int .i64 0, .int .i64 0, .nilsl, .int .i64 0, .int .i64 0, .nilsl, .int .i64 0, .int .i64 0, .nilsl, .int .i64 0, .int .i64 0, .nilsl, .int .i64 0, .int .i64 0, .nilsl, .int .i64 0, .int .i64 0, .nilsl, .int .i64 0, .int .i64 0, .int .i64 0, .int .i64 0, .int .i64 0, .int .i64 0, .bool false, .bool false, .int .i64 0, .int .i64 0, .int .i64 0, .int .i64 0, .int .i64 0, .int .i64 0, .bool false, .int .i64 0, .bool false, .int .i64 0, .int .i64 0, .int .i64 0, .int .i64 0, .int .i64 0, .int .i64 0] := by kernel_rfl
theorem tb155 : tbytes Try.prog 155 = some 504 := by kernel_rfl
theorem pl155 : places Try.prog [(0, 73), (6, 80), (35, 87), (48, 83)] = some [(0, 6), (6, 29), (35, 13), (48, 3)] := by kernel_rfl
theorem tk156 : tk Try.prog 156 = some (.sl 1) := by kernel_rfl
theorem ts156 : tsize Try.prog 156 = some 1 := by kernel_rfl
theorem tz156 : tzero Try.prog 156 = some [.nilsl] := by kernel_rfl
theorem tb156 : tbytes Try.prog 156 = some 24 := by kernel_rfl
theorem tk157 : tk Try.prog 157 = some (.other) := by kernel_rfl
theorem ts157 : tsize Try.prog 157 = some 1 := by kernel_rfl
theorem tz157 : tzero Try.prog 157 = some [.nilfunc] := by kernel_rfl
theorem tb157 : tbytes Try.prog 157 = some 8 := by kernel_rfl
theorem tk158 : tk Try.prog 158 = some (.other) := by kernel_rfl
theorem ts158 : tsize Try.prog 158 = some 1 := by kernel_rfl
theorem tz158 : tzero Try.prog 158 = some [.nilfunc] := by kernel_rfl
theorem tb158 : tbytes Try.prog 158 = some 8 := by kernel_rfl
theorem tk159 : tk Try.prog 159 = some (.other) := by kernel_rfl
theorem ts159 : tsize Try.prog 159 = some 1 := by kernel_rfl
theorem tz159 : tzero Try.prog 159 = some [.nilfunc] := by kernel_rfl
theorem tb159 : tbytes Try.prog 159 = some 8 := by kernel_rfl
theorem tk160 : tk Try.prog 160 = some (.other) := by kernel_rfl
theorem ts160 : tsize Try.prog 160 = some 1 := by kernel_rfl
theorem tz160 : tzero Try.prog 160 = some [.nilfunc] := by kernel_rfl
theorem tb160 : tbytes Try.prog 160 = some 8 := by kernel_rfl
theorem tk161 : tk Try.prog 161 = some (.other) := by kernel_rfl
theorem ts161 : tsize Try.prog 161 = some 1 := by kernel_rfl
theorem tz161 : tzero Try.prog 161 = some [.nilfunc] := by kernel_rfl
theorem tb161 : tbytes Try.prog 161 = some 8 := by kernel_rfl
theorem tk162 : tk Try.prog 162 = some (.other) := by kernel_rfl
theorem ts162 : tsize Try.prog 162 = some 1 := by kernel_rfl
theorem tz162 : tzero Try.prog 162 = some [.nilfunc] := by kernel_rfl
theorem tb162 : tbytes Try.prog 162 = some 8 := by kernel_rfl
theorem tk163 : tk Try.prog 163 = some (.other) := by kernel_rfl
theorem ts163 : tsize Try.prog 163 = some 1 := by kernel_rfl
theorem tz163 : tzero Try.prog 163 = some [.nilfunc] := by kernel_rfl
theorem tb163 : tbytes Try.prog 163 = some 8 := by kernel_rfl
theorem tk164 : tk Try.prog 164 = some (.other) := by kernel_rfl
theorem ts164 : tsize Try.prog 164 = some 1 := by kernel_rfl
theorem tz164 : tzero Try.prog 164 = some [.nilfunc] := by kernel_rfl
theorem tb164 : tbytes Try.prog 164 = some 8 := by kernel_rfl
theorem tk165 : tk Try.prog 165 = some (.other) := by kernel_rfl
theorem ts165 : tsize Try.prog 165 = some 1 := by kernel_rfl
theorem tz165 : tzero Try.prog 165 = some [.nilfunc] := by kernel_rfl
theorem tb165 : tbytes Try.prog 165 = some 8 := by kernel_rfl
theorem tk166 : tk Try.prog 166 = some (.sl 3) := by kernel_rfl
theorem ts166 : tsize Try.prog 166 = some 1 := by kernel_rfl
theorem tz166 : tzero Try.prog 166 = some [.nilsl] := by kernel_rfl
theorem tb166 : tbytes Try.prog 166 = some 24 := by kernel_rfl
theorem tk167 : tk Try.prog 167 = some (.other) := by kernel_rfl
theorem ts167 : tsize Try.prog 167 = some 1 := by kernel_rfl
theorem tz167 : tzero Try.prog 167 = some [.nilfunc] := by kernel_rfl
theorem tb167 : tbytes Try.prog 167 = some 8 := by kernel_rfl
theorem tk168 : tk Try.prog 168 = some (.other) := by kernel_rfl
theorem ts168 : tsize Try.prog 168 = some 1 := by kernel_rfl
theorem tz168 : tzero Try.prog 168 = some [.nilfunc] := by kernel_rfl
theorem tb168 : tbytes Try.prog 168 = some 8 := by kernel_rfl
theorem tk170 : tk Try.prog 170 = some (.other) := by kernel_rfl
theorem ts170 : tsize Try.prog 170 = some 1 := by kernel_rfl
theorem tz170 : tzero Try.prog 170 = some [.nilfunc] := by kernel_rfl
theorem tb170 : tbytes Try.prog 170 = some 8 := by kernel_rfl
theorem tk171 : tk Try.prog 171 = some (.other) := by kernel_rfl
theorem ts171 : tsize Try.prog 171 = some 1 := by kernel_rfl
theorem tz171 : tzero Try.prog 171 = some [.nilfunc] := by kernel_rfl
theorem tb171 : tbytes Try.prog 171 = some 8 := by kernel_rfl
theorem tk172 : tk Try.prog 172 = some (.int .u64) := by kernel_rfl
theorem ts172 : tsize Try.prog 172 = some 1 := by kernel_rfl
theorem tz172 : tzero Try.prog 172 = some [.int .u64 0] := by kernel_rfl
theorem tb172 : tbytes Try.prog 172 = some 8 := by kernel_rfl
theorem tk173 : tk Try.prog 173 = some (.int .u64) := by kernel_rfl
theorem ts173 : tsize Try.prog 173 = some 1 := by kernel_rfl
theorem tz173 : tzero Try.prog 173 = some [.int .u64 0] := by kernel_rfl
theorem tb173 : tbytes Try.prog 173 = some 8 := by kernel_rfl
theorem tk175 : tk Try.prog 175 = some (.other) := by kernel_rfl
theorem ts175 : tsize Try.prog 175 = some 1 := by kernel_rfl
theorem tz175 : tzero Try.prog 175 = some [.nilfunc] := by kernel_rfl
theorem tb175 : tbytes Try.prog 175 = some 8 := by kernel_rfl
theorem tk177 : tk Try.prog 177 = some (.other) := by kernel_rfl
theorem ts177 : tsize Try.prog 177 = some 1 := by kernel_rfl
theorem tz177 : tzero Try.prog 177 = some [.nilfunc] := by kernel_rfl
theorem tb177 : tbytes Try.prog 177 = some 8 := by kernel_rfl
theorem tk178 : tk Try.prog 178 = some (.other) := by kernel_rfl
theorem ts178 : tsize Try.prog 178 = some 1 := by kernel_rfl
theorem tz178 : tzero Try.prog 178 = some [.nilfunc] := by kernel_rfl
theorem tb178 : tbytes Try.prog 178 = some 8 := by kernel_rfl
theorem tk179 : tk Try.prog 179 = some (.other) := by kernel_rfl
theorem ts179 : tsize Try.prog 179 = some 1 := by kernel_rfl
theorem tz179 : tzero Try.prog 179 = some [.nilfunc] := by kernel_rfl
theorem tb179 : tbytes Try.prog 179 = some 8 := by kernel_rfl
theorem tk180 : tk Try.prog 180 = some (.other) := by kernel_rfl
theorem ts180 : tsize Try.prog 180 = some 1 := by kernel_rfl
theorem tz180 : tzero Try.prog 180 = some [.nilfunc] := by kernel_rfl
theorem tb180 : tbytes Try.prog 180 = some 8 := by kernel_rfl
theorem tk181 : tk Try.prog 181 = some (.other) := by kernel_rfl
theorem ts181 : tsize Try.prog 181 = some 1 := by kernel_rfl
theorem tz181 : tzero Try.prog 181 = some [.nilfunc] := by kernel_rfl
theorem tb181 : tbytes Try.prog 181 = some 8 := by kernel_rfl
theorem tk182 : tk Try.prog 182 = some (.other) := by kernel_rfl
theorem ts182 : tsize Try.prog 182 = some 1 := by kernel_rfl
theorem tz182 : tzero Try.prog 182 = some [.nilfunc] := by kernel_rfl
theorem tb182 : tbytes Try.prog 182 = some 8 := by kernel_rfl
theorem tk183 : tk Try.prog 183 = some (.other) := by kernel_rfl
theorem ts183 : tsize Try.prog 183 = some 1 := by kernel_rfl
theorem tz183 : tzero Try.prog 183 = some [.nilfunc] := by kernel_rfl
theorem tb183 : tbytes Try.prog 183 = some 8 := by kernel_rfl
theorem tk185 : tk Try.prog 185 = some (.other) := by kernel_rfl
theorem ts185 : tsize Try.prog 185 = some 1 := by kernel_rfl
theorem tz185 : tzero Try.prog 185 = some [.nilfunc] := by kernel_rfl
theorem tb185 : tbytes Try.prog 185 = some 8 := by kernel_rfl
theorem tk186 : tk Try.prog 186 = some (.other) := by kernel_rfl
theorem ts186 : tsize Try.prog 186 = some 1 := by kernel_rfl
theorem tz186 : tzero Try.prog 186 = some [.nilfunc] := by kernel_rfl
theorem tb186 : tbytes Try.prog 186 = some 8 := by kernel_rfl
theorem tk187 : tk Try.prog 187 = some (.other) := by kernel_rfl
theorem ts187 : tsize Try.prog 187 = some 1 := by kernel_rfl
theorem tz187 : tzero Try.prog 187 = some [.nilfunc] := by kernel_rfl
theorem tb187 : tbytes Try.prog 187 = some 8 := by kernel_rfl
theorem tk188 : tk Try.prog 188 = some (.other) := by kernel_rfl
theorem ts188 : tsize Try.prog 188 = some 1 := by kernel_rfl
theorem tz188 : tzero Try.prog 188 = some [.nilfunc] := by kernel_rfl
theorem tb188 : tbytes Try.prog 188 = some 8 := by kernel_rfl
theorem tk190 : tk Try.prog 190 = some (.other) := by kernel_rfl
theorem ts190 : tsize Try.prog 190 = some 1 := by kernel_rfl
theorem tz190 : tzero Try.prog 190 = some [.nilfunc] := by kernel_rfl
theorem tb190 : tbytes Try.prog 190 = some 8 := by kernel_rfl
theorem tk191 : tk Try.prog 191 = some (.other) := by kernel_rfl
theorem ts191 : tsize Try.prog 191 = some 1 := by kernel_rfl
theorem tz191 : tzero Try.prog 191 = some [.nilfunc] := by kernel_rfl
theorem tb191 : tbytes Try.prog 191 = some 8 := by kernel_rfl
theorem tk192 : tk Try.prog 192 = some (.other) := by kernel_rfl
theorem ts192 : tsize Try.prog 192 = some 1 := by kernel_rfl
theorem tz192 : tzero Try.prog 192 = some [.nilfunc] := by kernel_rfl
theorem tb192 : tbytes Try.prog 192 = some 8 := by kernel_rfl
theorem tk193 : tk Try.prog 193 = some (.other) := by kernel_rfl
theorem ts193 : tsize Try.prog 193 = some 1 := by kernel_rfl
theorem tz193 : tzero Try.prog 193 = some [.nilfunc] := by kernel_rfl
theorem tb193 : tbytes Try.prog 193 = some 8 := by kernel_rfl
theorem tk194 : tk Try.prog 194 = some (.other) := by kernel_rfl
theorem ts194 : tsize Try.prog 194 = some 1 := by kernel_rfl
theorem tz194 : tzero Try.prog 194 = some [.nilfunc] := by kernel_rfl
theorem tb194 : tbytes Try.prog 194 = some 8 := by kernel_rfl
theorem tk195 : tk Try.prog 195 = some (.other) := by kernel_rfl
theorem ts195 : tsize Try.prog 195 = some 1 := by kernel_rfl
theorem tz195 : tzero Try.prog 195 = some [.nilfunc] := by kernel_rfl
theorem tb195 : tbytes Try.prog 195 = some 8 := by kernel_rfl
theorem tk196 : tk Try.prog 196 = some (.other) := by kernel_rfl
theorem ts196 : tsize Try.prog 196 = some 1 := by kernel_rfl
theorem tz196 : tzero Try.prog 196 = some [.nilfunc] := by kernel_rfl
theorem tb196 : tbytes Try.prog 196 = some 8 := by kernel_rfl
theorem tk197 : tk Try.prog 197 = some (.int .u32) := by kernel_rfl
theorem ts197 : tsize Try.prog 197 = some 1 := by kernel_rfl
theorem tz197 : tzero Try.prog 197 = some [.int .u32 0] := by kernel_rfl
theorem tb197 : tbytes Try.prog 197 = some 4 := by kernel_rfl
theorem tk199 : tk Try.prog 199 = some (.other) := by kernel_rfl
theorem ts199 : tsize Try.prog 199 = some 1 := by kernel_rfl
theorem tz199 : tzero Try.prog 199 = some [.nilfunc] := by kernel_rfl
theorem tb199 : tbytes Try.prog 199 = some 8 := by kernel_rfl
theorem tk200 : tk Try.prog 200 = some (.other) := by kernel_rfl
theorem ts200 : tsize Try.prog 200 = some 1 := by kernel_rfl
theorem tz200 : tzero Try.prog 200 = some [.nilfunc] := by kernel_rfl
theorem tb200 : tbytes Try.prog 200 = some 8 := by kernel_rfl
theorem tk201 : tk Try.prog 201 = some (.other) := by kernel_rfl
theorem ts201 : tsize Try.prog 201 = some 1 := by kernel_rfl
theorem tz201 : tzero Try.prog 201 = some [.nilfunc] := by kernel_rfl
theorem tb201 : tbytes Try.prog 201 = some 8 := by kernel_rfl
theorem tk202 : tk Try.prog 202 = some (.bool) := by kernel_rfl
theorem ts202 : tsize Try.prog 202 = some 1 := by kernel_rfl
theorem tz202 : tzero Try.prog 202 = some [.bool false] := by kernel_rfl
theorem tb202 : tbytes Try.prog 202 = some 1 := by kernel_rfl
theorem tk203 : tk Try.prog 203 = some (.arr 3 3) := by kernel_rfl
theorem ts203 : tsize Try.prog 203 = some 3 := by kernel_rfl
theorem tz203 : tzero Try.prog 203 = some [.int .i64 0, .int .i64 0, .int .i64 0] := by kernel_rfl
theorem tb203 : tbytes Try.prog 203 = some 24 := by kernel_rfl
theorem tk204 : tk Try.prog 204 = some (.other) := by kernel_rfl
theorem ts204 : tsize Try.prog 204 = some 1 := by kernel_rfl
theorem tz204 : tzero Try.prog 204 = some [.nilfunc] := by kernel_rfl
theorem tb204 : tbytes Try.prog 204 = some 8 := by kernel_rfl
theorem tk205 : tk Try.prog 205 = some (.arr 4 203) := by kernel_rfl
theorem ts205 : tsize Try.prog 205 = some 12 := by kernel_rfl
theorem tz205 : tzero Try.prog 205 = some [.int .i64 0, .int .i64 0, .int .i64 0, .int .i64 0, .int .i64 0, .int .i64 0, .int .i64 0, .int .i64 0, .int .i64 0, .int .i64 0, .int .i64 0, .int .i64 0] := by kernel_rfl
theorem tb205 : tbytes Try.prog 205 = some 96 := by kernel_rfl
theorem tk206 : tk Try.prog 206 = some (.arr 4 205) := by kernel_rfl
theorem ts206 : tsize Try.prog 206 = some 48 := by kernel_rfl
theorem tz206 : tzero Try.prog 206 = some [.int .i64 0, .int .i64 0, .int .i64 0, .int .i64 0, .int .i64 0, .int .i64 0, .int .i64 0, .int .i64 0, .int .i64 0, .int .i64 0, .int .i64 0, .int .i64 0, .int .i64 0, .int .i64 0, .int .i64 0, .int .i64 0, .int .i64 0, .int .i64 0, .int .i64 0, .int .i64 0, .int .i64 0, .int .i64 0, .int .i64 0, .int .i64 0, .int .i64 0, .int .i64 0, .int .i64 0, .int .i64 0, .int .i64 0, .int .i64 0, .int .i64 0, .int .i64 0, .int .i64 0, .int .i64 0, .int .i64 0, .int .i64 0, .int .i64 0, .int .i64 0, .int .i64 0, .int .i64 0, .int .i64 0, .int .i64 0, .int .i64 0, .int .i64 0, .int .i64 0, .int .i64 0, .int .i64 0, .int .i64 0] := by kernel_rfl
theorem tb206 : tbytes Try.prog 206 = some 384 := by kernel_rfl
theorem tk207 : tk Try.prog 207 = some (.other) := by kernel_rfl
theorem ts207 : tsize Try.prog 207 = some 1 := by kernel_rfl
theorem tz207 : tzero Try.prog 207 = some [.nilfunc] := by kernel_rfl
theorem tb207 : tbytes Try.prog 207 = some 8 := by kernel_rfl
theorem tk208 : tk Try.prog 208 = some (.other) := by kernel_rfl
theorem ts208 : tsize Try.prog 208 = some 1 := by kernel_rfl
theorem tz208 : tzero Try.prog 208 = some [.nilfunc] := by kernel_rfl
theorem tb208 : tbytes Try.prog 208 = some 8 := by kernel_rfl
theorem tk209 : tk Try.prog 209 = some (.other) := by kernel_rfl
theorem ts209 : tsize Try.prog 209 = some 1 := by kernel_rfl
theorem tz209 : tzero Try.prog 209 = some [.nilfunc] := by kernel_rfl
theorem tb209 : tbytes Try.prog 209 = some 8 := by kernel_rfl
theorem tk210 : tk Try.prog 210 = some (.other) := by kernel_rfl
theorem ts210 : tsize Try.prog 210 = some 1 := by kernel_rfl
theorem tz210 : tzero Try.prog 210 = some [.nilfunc] := by kernel_rfl
theorem tb210 : tbytes Try.prog 210 = some 8 := by kernel_rfl
theorem tk213 : tk Try.prog 213 = some (.other) := by kernel_rfl
theorem ts213 : tsize Try.prog 213 = some 1 := by kernel_rfl
theorem tz213 : tzero Try.prog 213 = some [.nilfunc] := by kernel_rfl
theorem tb213 : tbytes Try.prog 213 = some 8 := by kernel_rfl
theorem tk214 : tk Try.prog 214 = some (.ptr 202) := by kernel_rfl
theorem ts214 : tsize Try.prog 214 = some 1 := by kernel_rfl
theorem tz214 : tzero Try.prog 214 = some [.nilptr] := by kernel_rfl
theorem tb214 : tbytes Try.prog 214 = some 8 := by kernel_rfl
theorem tk215 : tk Try.prog 215 = some (.other) := by kernel_rfl
theorem ts215 : tsize Try.prog 215 = some 1 := by kernel_rfl
theorem tz215 : tzero Try.prog 215 = some [.nilfunc] := by kernel_rfl
theorem tb215 : tbytes Try.prog 215 = some 8 := by kernel_rfl
theorem tk216 : tk Try.prog 216 = some (.other) := by kernel_rfl
theorem ts216 : tsize Try.prog 216 = some 1 := by kernel_rfl
theorem tz216 : tzero Try.prog 216 = some [.nilfunc] := by kernel_rfl
theorem tb216 : tbytes Try.prog 216 = some 8 := by kernel_rfl
theorem tk217 : tk Try.prog 217 = some (.st [(0, 17), (1, 17), (2, 17), (3, 9)]) := by kernel_rfl
theorem ts217 : tsize Try.prog 217 = some 4 := by kernel_rfl
theorem tz217 : tzero Try.prog 217 = some [.nilptr, .nilptr, .nilptr, .str { data := #[] }] := by kernel_rfl
theorem tb217 : tbytes Try.prog 217 = some 40 := by kernel_rfl
theorem pl217 : places Try.prog [(0, 17), (1, 17), (2, 17), (3, 9)] = some [(0, 1), (1, 1), (2, 1), (3, 1)] := by kernel_rfl
theorem tk218 : tk Try.prog 218 = some (.st [(0, 17), (1, 17), (2, 17), (3, 9)]) := by kernel_rfl
theorem ts218 : tsize Try.prog 218 = some 4 := by kernel_rfl
theorem tz218 : tzero Try.prog 218 = some [.nilptr, .nilptr, .nilptr, .str { data := #[] }] := by kernel_rfl
theorem tb218 : tbytes Try.prog 218 = some 40 := by kernel_rfl
theorem pl218 : places Try.prog [(0, 17), (1, 17), (2, 17), (3, 9)] = some [(0, 1), (1, 1), (2, 1), (3, 1)] := by kernel_rfl
theorem tk219 : tk Try.prog 219 = some (.arr 0 16) := by kernel_rfl
theorem ts219 : tsize Try.prog 219 = some 0 := by kernel_rfl
theorem tz219 : tzero Try.prog 219 = some [] := by kernel_rfl
theorem tb219 : tbytes Try.prog 219 = some 0 := by kernel_rfl
theorem tk220 : tk Try.prog 220 = some (.st [(0, 219)]) := by kernel_rfl
theorem ts220 : tsize Try.prog 220 = some 0 := by kernel_rfl
theorem tz220 : tzero Try.prog 220 = some [] := by kernel_rfl
theorem tb220 : tbytes Try.prog 220 = some 0 := by kernel_rfl
theorem pl220 : places Try.prog [(0, 219)] = some [(0, 0)] := by kernel_rfl
theorem tk221 : tk Try.prog 221 = some (.st [(0, 219)]) := by kernel_rfl
theorem ts221 : tsize Try.prog 221 = some 0 := by kernel_rfl
theorem tz221 : tzero Try.prog 221 = some [] := by kernel_rfl
theorem tb221 : tbytes Try.prog 221 = some 0 := by kernel_rfl
theorem pl221 : places Try.prog [(0, 219)] = some [(0, 0)] := by kernel_rfl
theorem tk222 : tk Try.prog 222 = some (.other) := by kernel_rfl
theorem ts222 : tsize Try.prog 222 = some 1 := by kernel_rfl
theorem tz222 : tzero Try.prog 222 = some [.nilfunc] := by kernel_rfl
theorem tb222 : tbytes Try.prog 222 = some 8 := by kernel_rfl
theorem tk223 : tk Try.prog 223 = some (.int .u8) := by kernel_rfl
theorem ts223 : tsize Try.prog 223 = some 1 := by kernel_rfl
theorem tz223 : tzero Try.prog 223 = some [.int .u8 0] := by kernel_rfl
theorem tb223 : tbytes Try.prog 223 = some 1 := by kernel_rfl
theorem tk224 : tk Try.prog 224 = some (.int .u8) := by kernel_rfl
theorem ts224 : tsize Try.prog 224 = some 1 := by kernel_rfl
theorem tz224 : tzero Try.prog 224 = some [.int .u8 0] := by kernel_rfl
theorem tb224 : tbytes Try.prog 224 = some 1 := by kernel_rfl
theorem tk225 : tk Try.prog 225 = some (.other) := by kernel_rfl
theorem ts225 : tsize Try.prog 225 = some 1 := by kernel_rfl
theorem tz225 : tzero Try.prog 225 = some [.nilfunc] := by kernel_rfl
theorem tb225 : tbytes Try.prog 225 = some 8 := by kernel_rfl
theorem tk226 : tk Try.prog 226 = some (.ptr 5) := by kernel_rfl
theorem ts226 : tsize Try.prog 226 = some 1 := by kernel_rfl
theorem tz226 : tzero Try.prog 226 = some [.nilptr] := by kernel_rfl
theorem tb226 : tbytes Try.prog 226 = some 8 := by kernel_rfl
theorem tk227 : tk Try.prog 227 = some (.int .i32) := by kernel_rfl
theorem ts227 : tsize Try.prog 227 = some 1 := by kernel_rfl
theorem tz227 : tzero Try.prog 227 = some [.int .i32 0] := by kernel_rfl
theorem tb227 : tbytes Try.prog 227 = some 4 := by kernel_rfl
theorem tk228 : tk Try.prog 228 = some (.int .i32) := by kernel_rfl
theorem ts228 : tsize Try.prog 228 = some 1 := by kernel_rfl
theorem tz228 : tzero Try.prog 228 = some [.int .i32 0] := by kernel_rfl
theorem tb228 : tbytes Try.prog 228 = some 4 := by kernel_rfl
theorem tk229 : tk Try.prog 229 = some (.st [(0, 12), (1, 12), (2, 197), (3, 223), (4, 5), (5, 5), (6, 224), (7, 225), (8, 226), (9, 227), (10, 228)]) := by kernel_rfl
theorem ts229 : tsize Try.prog 229 = some 11 := by kernel_rfl
theorem tz229 : tzero Try.prog 229 = some [.int .u64 0, .int .u64 0, .int .u32 0, .int .u8 0, .int .u8 0, .int .u8 0, .int .u8 0, .nilfunc, .nilptr, .int .i32 0, .int .i32 0] := by kernel_rfl
theorem tb229 : tbytes Try.prog 229 = some 48 := by kernel_rfl
theorem pl229 : places Try.prog [(0, 12), (1, 12), (2, 197), (3, 223), (4, 5), (5, 5), (6, 224), (7, 225), (8, 226), (9, 227), (10, 228)] = some [(0, 1), (1, 1), (2, 1), (3, 1), (4, 1), (5, 1), (6, 1), (7, 1), (8, 1), (9, 1), (10, 1)] := by kernel_rfl
theorem tk230 : tk Try.prog 230 = some (.st [(0, 12), (1, 12), (2, 197), (3, 223), (4, 5), (5, 5), (6, 224), (7, 225), (8, 226), (9, 227), (10, 228)]) := by kernel_rfl
theorem ts230 : tsize Try.prog 230 = some 11 := by kernel_rfl
theorem tz230 : tzero Try.prog 230 = some [.int .u64 0, .int .u64 0, .int .u32 0, .int .u8 0, .int .u8 0, .int .u8 0, .int .u8 0, .nilfunc, .nilptr, .int .i32 0, .int .i32 0] := by kernel_rfl
theorem tb230 : tbytes Try.prog 230 = some 48 := by kernel_rfl
theorem pl230 : places Try.prog [(0, 12), (1, 12), (2, 197), (3, 223), (4, 5), (5, 5), (6, 224), (7, 225), (8, 226), (9, 227), (10, 228)] = some [(0, 1), (1, 1), (2, 1), (3, 1), (4, 1), (5, 1), (6, 1), (7, 1), (8, 1), (9, 1), (10, 1)] := by kernel_rfl

end Go.Proofs.Ytnkijhpikeokfaa

/- What the steps have in common: each closing of a side goal, said once. -/
namespace Go.Proofs.Ytnkijhpikeokfaa
open Go Go.Sym Go.IntWalk
theorem reL_bool (τ : BId → BId × Nat) (b : Bool) : reL τ [AV.bool b] = [AV.bool b] := rfl
theorem nH2 {p : Prop} (h : p := by simp only [H.app, appO, patchAll, patch, List.map_cons, List.map_nil, List.append_nil, List.nil_append, List.cons_append, List.set_cons_zero, List.set_cons_succ, Option.map_some, Option.map_none, List.contains_cons, List.contains_nil, List.getD_cons_zero, List.getD_cons_succ, Nat.reduceAdd, Nat.reduceEqDiff, Nat.reduceBEq, Bool.or_false, Bool.false_eq_true, reduceIte, Nat.zero_add]; rfl) : p := h
theorem nE2 {p : Prop} (h : p := by simp only [CS.eff, rdsR, rdsO, List.map_cons, List.map_nil, List.getD_cons_zero, List.getD_cons_succ, reL_ints, reL_bool, num, List.nil_append, List.append_nil, List.cons_append]; rfl) : p := h
theorem nH {p : Prop} (h : p := by simp only [H.app, appO, patchAll, patch, List.map_cons, List.map_nil, List.append_nil, List.nil_append, List.cons_append, List.set_cons_zero, List.set_cons_succ, Option.map_some, Option.map_none, List.contains_cons, List.contains_nil, Nat.reduceAdd, Nat.reduceEqDiff, Nat.reduceBEq, Bool.or_false, Bool.false_eq_true, reduceIte, Nat.zero_add]; rfl) : p := h
theorem nL {p : Prop} (h : p := by simp only [List.take_succ_cons, List.drop_succ_cons, List.drop_zero, List.take_zero, List.take_nil, List.drop_nil, Nat.zero_add, Nat.reduceAdd]; rfl) : p := h
theorem nV {p : Prop} (h : p := by first | exact reV_bare _ _ rfl | (simp only [reV, reVs, List.all_cons, List.all_nil, AV.flat, Bool.and_true, Bool.true_and, Bool.false_and, Bool.and_false, Bool.false_eq_true, reduceIte, CS.de, List.getElem?_cons_zero, List.getElem?_cons_succ, List.getElem?_nil, List.length_cons, List.length_nil, Nat.reduceSub, Nat.reduceAdd, Nat.zero_add, Nat.add_zero, Nat.sub_self]; rfl)) : p := h
theorem nE {p : Prop} (h : p := by simp only [CS.eff, rdsR, rdsO, List.map_cons, List.map_nil, reL_ints, num, List.nil_append, List.append_nil, List.cons_append]; rfl) : p := h
theorem nP {p : Prop} (h : p := by first | (apply PRN.flat; rfl) | (apply PRN.flat; simp; done) | (repeat' first | exact PRN.nil | apply PRN.cons | exact RN.self rfl | exact RN.top | exact RN.ptr rfl | exact RN.sl rfl | exact RN.slf rfl | apply RN.agg | apply RN.fn | exact RNs.nil | apply RNs.cons)) : p := h
theorem nR {p : Prop} (h : p := by repeat' first | exact RN.self rfl | exact RN.top | exact RN.ptr rfl | exact RN.sl rfl | exact RN.slf rfl | apply RN.agg | apply RN.tuple | apply RN.fn | exact RNs.nil | apply RNs.cons | (apply RNs.flat; simp; done)) : p := h
theorem nC {p : Prop} (h : p := by (repeat' first | exact cl_nil | exact cL_flat rfl | exact cL_flat (ints_flat _) | apply cL_vs | apply cl_cons | exact cv_flat rfl | apply cv_agg | apply cv_ptr_o | apply cv_sl_o rfl | apply cv_func | exact cO_old rfl | (apply cO_new; (focus rfl); (focus rfl)) | (apply cv_sl_r; (focus rfl); (focus rfl); (focus (simp; done)); (focus (first | exact ints_all _ | rfl))) | (apply cv_ptr_r rfl ?_ rfl rfl) | (simp only [List.nil_append, List.cons_append, List.length_cons, List.length_nil, Nat.zero_add, Nat.reduceAdd, List.set_cons_zero, List.set_cons_succ]; rfl) | rfl)) : p := h
end Go.Proofs.Ytnkijhpikeokfaa

/- The small functions of qfix: by their contracts. -/
namespace Go.Proofs.Ytnkijhpikeokfaa
open Go Go.Sym Go.IntWalk

def clampQ (a : Int) : Int := min (max a (-70368744177664)) 70368744177663

theorem clamp_ite (a : Int) : (if (70368744177663 : Int) < (if (-70368744177664 : Int) > a then -70368744177664 else a) then 70368744177663 else (if (-70368744177664 : Int) > a then -70368744177664 else a)) = clampQ a := by
  unfold clampQ; omega
theorem clampQ_in (a : Int) : -70368744177664 ≤ clampQ a ∧ clampQ a ≤ 70368744177663 := by unfold clampQ; omega

/-- the bounded sum of two bounded numbers, and whether a bound was met -/
def both2 (a b : Int) : Bool := clampQ a != a || clampQ b != b
def addQ (a b : Int) : Int := clampQ (clampQ a + clampQ b)
def addF (a b : Int) : Bool := both2 a b || clampQ (clampQ a + clampQ b) != clampQ a + clampQ b
def subQ (a b : Int) : Int := clampQ (clampQ a - clampQ b)
def subF (a b : Int) : Bool := both2 a b || clampQ (clampQ a - clampQ b) != clampQ a - clampQ b

set_option maxHeartbeats 1000000 in
theorem clamp_ok (a : Int) : SoundC Try.prog 116 [.int .i64 a] ⟨[], []⟩ { val := .tuple [.int .i64 (clampQ a), .bool (clampQ a != a)] } := by
  refine SoundC.of (N := 12) Try.func116 rfl rfl rfl rfl ?_
  refine AW.seq ?_
  refine AW.region (by kernel_rfl) ?_
  refine RunF.q (o_assign rfl) rfl ?_
  refine RunF.q (o_assign rfl) rfl ?_
  refine AW.seq ?_
  refine AW.region (by kernel_rfl) ?_
  refine RunF.q (o_move rfl) rfl ?_
  refine RunF.q (o_max rfl rfl rfl) rfl ?_
  refine RunF.q (o_min (m := clampQ a) rfl rfl (clamp_ite a)) rfl ?_
  refine RunF.q (o_assign rfl) rfl ?_
  refine AW.seq ?_
  refine AW.region (by kernel_rfl) ?_
  refine RunF.q (o_move rfl) rfl ?_
  refine RunF.q (o_move rfl) rfl ?_
  refine RunF.q (o_move rfl) rfl ?_
  refine RunF.q (o_neq rfl rfl) rfl ?_
  refine RunF.q (o_assign rfl) rfl ?_
  refine RunF.q (o_assign rfl) rfl ?_
  refine AW.ret ?_
  exact FinQ.ret [] [] (ress_tmp rfl (ress_tmp rfl ress_nil)) rfl (by first | exact RowsO.nil | skip) (by first | exact RowsR.nil | skip) nR

set_option maxHeartbeats 1000000 in
theorem both_ok (a b : Int) : SoundC Try.prog 115 [.int .i64 a, .int .i64 b] ⟨[], []⟩ { val := .tuple [.int .i64 (clampQ a), .int .i64 (clampQ b), .bool (both2 a b)] } := by
  refine SoundC.of (N := 25) Try.func115 rfl rfl rfl rfl ?_
  refine AW.seq ?_
  refine AW.region (by kernel_rfl) ?_
  refine RunF.q (o_assign rfl) rfl ?_
  refine RunF.q (o_assign rfl) rfl ?_
  refine RunF.q (o_assign rfl) rfl ?_
  refine AW.seq ?_
  refine AW.region (by kernel_rfl) ?_
  refine RunF.q (o_move rfl) rfl ?_
  refine RunF.q (o_call (no := 0) (nr := 0) rfl rfl rfl nC (by rfl) (by exact clamp_ok a) (by rfl) rfl rfl nV rfl) (by rfl) ?_
  refine RunF.q (o_move rfl) rfl ?_
  refine RunF.q (o_extract rfl rfl) rfl ?_
  refine RunF.q (o_extract rfl rfl) rfl ?_
  refine RunF.q (o_assign rfl) rfl ?_
  refine RunF.q (o_assign rfl) rfl ?_
  refine AW.seq ?_
  refine AW.region (by kernel_rfl) ?_
  refine RunF.q (o_move rfl) rfl ?_
  refine RunF.q (o_call (no := 0) (nr := 0) rfl rfl rfl nC (by rfl) (by exact clamp_ok b) (by rfl) rfl rfl nV rfl) (by rfl) ?_
  refine RunF.q (o_move rfl) rfl ?_
  refine RunF.q (o_extract rfl rfl) rfl ?_
  refine RunF.q (o_extract rfl rfl) rfl ?_
  refine RunF.q (o_assign rfl) rfl ?_
  refine RunF.q (o_assign rfl) rfl ?_
  refine AW.seq ?_
  refine AW.region (by kernel_rfl) ?_
  refine RunF.q (o_move rfl) rfl ?_
  refine RunF.q (o_move rfl) rfl ?_
  refine RunF.q (o_move rfl) rfl ?_
  refine RunF.q (o_move rfl) rfl ?_
  refine RunF.gm rfl (o_move rfl) ?_
  first | refine RunF.q (o_pick_t rfl rfl) rfl ?_ | refine RunF.q (o_pick_f rfl rfl) rfl ?_ | refine RunF.q (o_pick_b rfl rfl rfl) rfl ?_ | refine RunF.q (o_pick_or rfl rfl rfl) rfl ?_ | refine RunF.q (o_pick_and rfl rfl rfl) rfl ?_
  refine RunF.q (o_assign rfl) rfl ?_
  refine RunF.q (o_assign rfl) rfl ?_
  refine RunF.q (o_assign rfl) rfl ?_
  refine AW.ret ?_
  exact FinQ.ret [] [] (ress_tmp rfl (ress_tmp rfl (ress_tmp rfl ress_nil))) rfl (by first | exact RowsO.nil | skip) (by first | exact RowsR.nil | skip) nR

set_option maxHeartbeats 1000000 in
theorem add_ok (a b : Int) : SoundC Try.prog 72 [.int .i64 a, .int .i64 b] ⟨[], []⟩ { val := .tuple [.int .i64 (addQ a b), .bool (addF a b)] } := by
  have ha := clampQ_in a
  have hb := clampQ_in b
  refine SoundC.of (N := 28) Try.func72 rfl rfl rfl rfl ?_
  refine AW.seq ?_
  refine AW.region (by kernel_rfl) ?_
  refine RunF.q (o_assign rfl) rfl ?_
  refine RunF.q (o_assign rfl) rfl ?_
  refine AW.seq ?_
  refine AW.region (by kernel_rfl) ?_
  refine RunF.q (o_move rfl) rfl ?_
  refine RunF.q (o_move rfl) rfl ?_
  refine RunF.q (o_call (no := 0) (nr := 0) rfl rfl rfl nC (by rfl) (by exact both_ok a b) (by rfl) rfl rfl nV rfl) (by rfl) ?_
  refine RunF.q (o_move rfl) rfl ?_
  refine RunF.q (o_extract rfl rfl) rfl ?_
  refine RunF.q (o_extract rfl rfl) rfl ?_
  refine RunF.q (o_extract rfl rfl) rfl ?_
  refine RunF.q (o_assign rfl) rfl ?_
  refine RunF.q (o_assign rfl) rfl ?_
  refine RunF.q (o_assign rfl) rfl ?_
  refine AW.seq ?_
  refine AW.region (by kernel_rfl) ?_
  refine RunF.q (o_move rfl) rfl ?_
  refine RunF.q (o_move rfl) rfl ?_
  refine RunF.q (o_add rfl rfl (by first | exact i64_in _ (by omega) | rfl)) rfl ?_
  refine RunF.q (o_call (no := 0) (nr := 0) rfl rfl rfl nC (by rfl) (by exact clamp_ok _) (by rfl) rfl rfl nV rfl) (by rfl) ?_
  refine RunF.q (o_move rfl) rfl ?_
  refine RunF.q (o_extract rfl rfl) rfl ?_
  refine RunF.q (o_extract rfl rfl) rfl ?_
  refine RunF.q (o_assign rfl) rfl ?_
  refine RunF.q (o_assign rfl) rfl ?_
  refine AW.seq ?_
  refine AW.region (by kernel_rfl) ?_
  refine RunF.q (o_move rfl) rfl ?_
  refine RunF.q (o_move rfl) rfl ?_
  refine RunF.q (o_move rfl) rfl ?_
  refine RunF.gm rfl (o_move rfl) ?_
  first | refine RunF.q (o_pick_t rfl rfl) rfl ?_ | refine RunF.q (o_pick_f rfl rfl) rfl ?_ | refine RunF.q (o_pick_b rfl rfl rfl) rfl ?_ | refine RunF.q (o_pick_or rfl rfl rfl) rfl ?_ | refine RunF.q (o_pick_and rfl rfl rfl) rfl ?_
  refine RunF.q (o_assign rfl) rfl ?_
  refine RunF.q (o_assign rfl) rfl ?_
  refine AW.ret ?_
  exact FinQ.ret [] [] (ress_tmp rfl (ress_tmp rfl ress_nil)) rfl (by first | exact RowsO.nil | skip) (by first | exact RowsR.nil | skip) nR

set_option maxHeartbeats 1000000 in
theorem sub_ok (a b : Int) : SoundC Try.prog 73 [.int .i64 a, .int .i64 b] ⟨[], []⟩ { val := .tuple [.int .i64 (subQ a b), .bool (subF a b)] } := by
  have ha := clampQ_in a
  have hb := clampQ_in b
  refine SoundC.of (N := 28) Try.func73 rfl rfl rfl rfl ?_
  refine AW.seq ?_
  refine AW.region (by kernel_rfl) ?_
  refine RunF.q (o_assign rfl) rfl ?_
  refine RunF.q (o_assign rfl) rfl ?_
  refine AW.seq ?_
  refine AW.region (by kernel_rfl) ?_
  refine RunF.q (o_move rfl) rfl ?_
  refine RunF.q (o_move rfl) rfl ?_
  refine RunF.q (o_call (no := 0) (nr := 0) rfl rfl rfl nC (by rfl) (by exact both_ok a b) (by rfl) rfl rfl nV rfl) (by rfl) ?_
  refine RunF.q (o_move rfl) rfl ?_
  refine RunF.q (o_extract rfl rfl) rfl ?_
  refine RunF.q (o_extract rfl rfl) rfl ?_
  refine RunF.q (o_extract rfl rfl) rfl ?_
  refine RunF.q (o_assign rfl) rfl ?_
  refine RunF.q (o_assign rfl) rfl ?_
  refine RunF.q (o_assign rfl) rfl ?_
  refine AW.seq ?_
  refine AW.region (by kernel_rfl) ?_
  refine RunF.q (o_move rfl) rfl ?_
  refine RunF.q (o_move rfl) rfl ?_
  refine RunF.q (o_sub rfl rfl (by first | exact i64_in _ (by omega) | rfl)) rfl ?_
  refine RunF.q (o_call (no := 0) (nr := 0) rfl rfl rfl nC (by rfl) (by exact clamp_ok _) (by rfl) rfl rfl nV rfl) (by rfl) ?_
  refine RunF.q (o_move rfl) rfl ?_
  refine RunF.q (o_extract rfl rfl) rfl ?_
  refine RunF.q (o_extract rfl rfl) rfl ?_
  refine RunF.q (o_assign rfl) rfl ?_
  refine RunF.q (o_assign rfl) rfl ?_
  refine AW.seq ?_
  refine AW.region (by kernel_rfl) ?_
  refine RunF.q (o_move rfl) rfl ?_
  refine RunF.q (o_move rfl) rfl ?_
  refine RunF.q (o_move rfl) rfl ?_
  refine RunF.gm rfl (o_move rfl) ?_
  first | refine RunF.q (o_pick_t rfl rfl) rfl ?_ | refine RunF.q (o_pick_f rfl rfl) rfl ?_ | refine RunF.q (o_pick_b rfl rfl rfl) rfl ?_ | refine RunF.q (o_pick_or rfl rfl rfl) rfl ?_ | refine RunF.q (o_pick_and rfl rfl rfl) rfl ?_
  refine RunF.q (o_assign rfl) rfl ?_
  refine RunF.q (o_assign rfl) rfl ?_
  refine AW.ret ?_
  exact FinQ.ret [] [] (ress_tmp rfl (ress_tmp rfl ress_nil)) rfl (by first | exact RowsO.nil | skip) (by first | exact RowsR.nil | skip) nR

set_option maxHeartbeats 1000000 in
theorem size_ok (a : Int) (h : -70368744177664 ≤ a ∧ a ≤ 70368744177664) : SoundC Try.prog 119 [.int .i64 a] ⟨[], []⟩ { val := .int .u64 (a.natAbs : Int) } := by
  refine SoundC.of (N := 10) Try.func119 rfl rfl rfl rfl ?_
  refine AW.seq ?_
  refine AW.region (by kernel_rfl) ?_
  refine RunF.q (o_assign rfl) rfl ?_
  refine AW.seq ?_
  refine AW.seq ?_
  refine AW.region (by kernel_rfl) ?_
  refine RunF.q (o_move rfl) rfl ?_
  refine RunF.q (o_lss rfl rfl) rfl ?_
  refine AW.cond rfl (fun hc0 => ?_) (fun hc0 => ?_)
  · try simp only [decide_eq_true_eq, decide_eq_false_iff_not, bne_iff_ne, beq_iff_eq, bne_eq_false_iff_eq, beq_eq_false_iff_ne, ne_eq, Bool.not_eq_true', Bool.not_eq_false'] at hc0
    refine AW.seq ?_
    refine AW.region (by kernel_rfl) ?_
    refine RunF.q (o_move rfl) rfl ?_
    refine RunF.q (o_neg rfl (by first | exact i64_in _ (by omega) | rfl)) rfl ?_
    refine RunF.q (o_convert tk30 tk172 rfl (by first | exact i64_in _ (by omega) | exact u64_in _ (by omega) | rfl)) rfl ?_
    refine RunF.q (o_assign rfl) rfl ?_
    refine AW.ret ?_
    exact FinQ.ret [] [] (ress_tmp rfl ress_nil) rfl (by first | exact RowsO.nil | skip) (by first | exact RowsR.nil | skip) (by rw [show (a.natAbs : Int) = 0 - a by omega]; exact RN.self rfl)
  · try simp only [decide_eq_true_eq, decide_eq_false_iff_not, bne_iff_ne, beq_iff_eq, bne_eq_false_iff_eq, beq_eq_false_iff_ne, ne_eq, Bool.not_eq_true', Bool.not_eq_false'] at hc0
    refine AW.skip ?_
    refine AW.seq ?_
    refine AW.region (by kernel_rfl) ?_
    refine RunF.q (o_move rfl) rfl ?_
    refine RunF.q (o_convert tk30 tk172 rfl (by first | exact i64_in _ (by omega) | exact u64_in _ (by omega) | rfl)) rfl ?_
    refine RunF.q (o_assign rfl) rfl ?_
    refine AW.ret ?_
    exact FinQ.ret [] [] (ress_tmp rfl ress_nil) rfl (by first | exact RowsO.nil | skip) (by first | exact RowsR.nil | skip) (by rw [show (a.natAbs : Int) = a by omega]; exact RN.self rfl)

set_option maxHeartbeats 1000000 in
theorem turn_ok (a : Int) (z : Bool) (h : -70368744177664 ≤ a ∧ a ≤ 70368744177664) : SoundC Try.prog 141 [.int .i64 a, .ptr (.o 0) 0] ⟨[], [some [.bool z]]⟩ { val := .int .i64 (if z then 0 - a else a) } := by
  have h1 : z = true → (if z then 0 - a else a) = 0 - a := fun e => by rw [e]; rfl
  have h2 : z = false → (if z then 0 - a else a) = a := fun e => by rw [e]; rfl
  refine SoundC.of (N := 8) Try.func141 rfl rfl rfl rfl ?_
  refine AW.seq ?_
  refine AW.region (by kernel_rfl) ?_
  refine RunF.q (o_assign rfl) rfl ?_
  refine AW.seq ?_
  refine AW.seq ?_
  refine AW.region (by kernel_rfl) ?_
  refine RunF.q (o_load rfl tk4 ts4 rfl rfl rfl) rfl ?_
  refine AW.cond rfl (fun hc0 => ?_) (fun hc0 => ?_)
  · try simp only [decide_eq_true_eq, decide_eq_false_iff_not, bne_iff_ne, beq_iff_eq, bne_eq_false_iff_eq, beq_eq_false_iff_ne, ne_eq, Bool.not_eq_true', Bool.not_eq_false'] at hc0
    refine AW.seq ?_
    refine AW.region (by kernel_rfl) ?_
    refine RunF.q (o_move rfl) rfl ?_
    refine RunF.q (o_neg rfl (by first | exact i64_in _ (by omega) | rfl)) rfl ?_
    refine RunF.q (o_assign rfl) rfl ?_
    refine AW.ret ?_
    exact FinQ.ret [] [] (ress_tmp rfl ress_nil) rfl (.some rfl rfl nP .nil) .nil (by rw [h1 hc0]; exact RN.self rfl)
  · try simp only [decide_eq_true_eq, decide_eq_false_iff_not, bne_iff_ne, beq_iff_eq, bne_eq_false_iff_eq, beq_eq_false_iff_ne, ne_eq, Bool.not_eq_true', Bool.not_eq_false'] at hc0
    refine AW.skip ?_
    refine AW.seq ?_
    refine AW.region (by kernel_rfl) ?_
    refine RunF.q (o_move rfl) rfl ?_
    refine RunF.q (o_assign rfl) rfl ?_
    refine AW.ret ?_
    exact FinQ.ret [] [] (ress_tmp rfl ress_nil) rfl (.some rfl rfl nP .nil) .nil (by rw [h2 hc0]; exact RN.self rfl)

/-- a number of a size and a sign, in bounds -/
def signedQ (p q : Int) (z : Bool) : Int := if p ≠ 0 ∨ q > 70368744177664 then clampQ (if z then 0 - 70368744177664 else 70368744177664) else clampQ (if z then 0 - q else q)
def signedF (p q : Int) (z : Bool) : Bool := if p ≠ 0 ∨ q > 70368744177664 then true else clampQ (if z then 0 - q else q) != (if z then 0 - q else q)

set_option maxHeartbeats 1000000 in
theorem signed_ok (p q : Int) (z : Bool) (hq : 0 ≤ q) : SoundC Try.prog 120 [.int .u64 p, .int .u64 q, .bool z] ⟨[], []⟩ { val := .tuple [.int .i64 (signedQ p q z), .bool (signedF p q z)] } := by
  refine SoundC.of (N := 32) Try.func120 rfl rfl rfl rfl ?_
  refine AW.seq ?_
  refine AW.region (by kernel_rfl) ?_
  refine RunF.w (o_box (nm := 0) rfl rfl rfl) nH ?_
  refine RunF.q (o_assign rfl) rfl ?_
  refine RunF.q (o_assign rfl) rfl ?_
  refine AW.seq ?_
  refine AW.region (by kernel_rfl) ?_
  refine RunF.q (o_makeFunc rfl rfl) rfl ?_
  refine RunF.q (o_assign rfl) rfl ?_
  refine AW.seq ?_
  refine AW.seq ?_
  refine AW.region (by kernel_rfl) ?_
  refine RunF.q (o_move rfl) rfl ?_
  refine RunF.q (o_neq rfl rfl) rfl ?_
  refine RunF.br (o_move rfl) rfl (fun hb2_2 => ?_) (fun hb2_2 => ?_)
  · try simp only [decide_eq_true_eq, decide_eq_false_iff_not, bne_iff_ne, beq_iff_eq, bne_eq_false_iff_eq, beq_eq_false_iff_ne, ne_eq, Bool.not_eq_true', Bool.not_eq_false'] at hb2_2
    refine RunF.gs (b := true) rfl rfl ?_
    refine RunF.gs (b := true) rfl rfl ?_
    refine RunF.q (o_pick_t rfl rfl) rfl ?_
    refine AW.cond rfl (fun hc0 => ?_) (fun hc0 => absurd hc0 (by simp))
    have hc : p ≠ 0 ∨ q > 70368744177664 := by first | exact .inl hb2_2 | exact .inr hc0
    have e1 : signedQ p q z = clampQ (if z then 0 - 70368744177664 else 70368744177664) := by unfold signedQ; rw [if_pos hc]
    have e2 : signedF p q z = true := by unfold signedF; rw [if_pos hc]
    refine AW.seq ?_
    refine AW.region (by kernel_rfl) ?_
    refine RunF.q (o_move rfl) rfl ?_
    refine RunF.q (o_call (no := 1) (nr := 0) rfl rfl rfl nC (by rfl) (by exact turn_ok _ z (by omega)) (by rfl) rfl rfl nV rfl) (by rfl) ?_
    refine RunF.q (o_call (no := 1) (nr := 0) rfl rfl rfl nC (by rfl) (by exact clamp_ok _) (by rfl) rfl rfl nV rfl) (by rfl) ?_
    refine RunF.q (o_move rfl) rfl ?_
    refine RunF.q (o_extract rfl rfl) rfl ?_
    refine RunF.q (o_extract rfl rfl) rfl ?_
    refine RunF.q (o_assign rfl) rfl ?_
    refine RunF.q (o_assign rfl) rfl ?_
    refine AW.seq ?_
    refine AW.region (by kernel_rfl) ?_
    refine RunF.q (o_move rfl) rfl ?_
    refine RunF.q (o_assign rfl) rfl ?_
    refine RunF.q (o_assign rfl) rfl ?_
    refine AW.ret ?_
    exact FinQ.ret [] [] (ress_tmp rfl (ress_tmp rfl ress_nil)) rfl .nil .nil (by rw [e1, e2]; exact nR)
  · try simp only [decide_eq_true_eq, decide_eq_false_iff_not, bne_iff_ne, beq_iff_eq, bne_eq_false_iff_eq, beq_eq_false_iff_ne, ne_eq, Bool.not_eq_true', Bool.not_eq_false'] at hb2_2
    refine RunF.gq rfl (o_move rfl) rfl ?_
    refine RunF.gq rfl (o_gtr rfl rfl) rfl ?_
    refine RunF.q (o_pick_f rfl rfl) rfl ?_
    refine AW.cond rfl (fun hc0 => ?_) (fun hc0 => ?_)
    · try simp only [decide_eq_true_eq, decide_eq_false_iff_not, bne_iff_ne, beq_iff_eq, bne_eq_false_iff_eq, beq_eq_false_iff_ne, ne_eq, Bool.not_eq_true', Bool.not_eq_false'] at hc0
      have hc : p ≠ 0 ∨ q > 70368744177664 := by first | exact .inl hb2_2 | exact .inr hc0
      have e1 : signedQ p q z = clampQ (if z then 0 - 70368744177664 else 70368744177664) := by unfold signedQ; rw [if_pos hc]
      have e2 : signedF p q z = true := by unfold signedF; rw [if_pos hc]
      refine AW.seq ?_
      refine AW.region (by kernel_rfl) ?_
      refine RunF.q (o_move rfl) rfl ?_
      refine RunF.q (o_call (no := 1) (nr := 0) rfl rfl rfl nC (by rfl) (by exact turn_ok _ z (by omega)) (by rfl) rfl rfl nV rfl) (by rfl) ?_
      refine RunF.q (o_call (no := 1) (nr := 0) rfl rfl rfl nC (by rfl) (by exact clamp_ok _) (by rfl) rfl rfl nV rfl) (by rfl) ?_
      refine RunF.q (o_move rfl) rfl ?_
      refine RunF.q (o_extract rfl rfl) rfl ?_
      refine RunF.q (o_extract rfl rfl) rfl ?_
      refine RunF.q (o_assign rfl) rfl ?_
      refine RunF.q (o_assign rfl) rfl ?_
      refine AW.seq ?_
      refine AW.region (by kernel_rfl) ?_
      refine RunF.q (o_move rfl) rfl ?_
      refine RunF.q (o_assign rfl) rfl ?_
      refine RunF.q (o_assign rfl) rfl ?_
      refine AW.ret ?_
      exact FinQ.ret [] [] (ress_tmp rfl (ress_tmp rfl ress_nil)) rfl .nil .nil (by rw [e1, e2]; exact nR)
    · try simp only [decide_eq_true_eq, decide_eq_false_iff_not, bne_iff_ne, beq_iff_eq, bne_eq_false_iff_eq, beq_eq_false_iff_ne, ne_eq, Bool.not_eq_true', Bool.not_eq_false'] at hc0
      have hq2 : q ≤ 70368744177664 := by omega
      have hc : ¬ (p ≠ 0 ∨ q > 70368744177664) := by omega
      have e1 : signedQ p q z = clampQ (if z then 0 - q else q) := by unfold signedQ; rw [if_neg hc]
      have e2 : signedF p q z = (clampQ (if z then 0 - q else q) != (if z then 0 - q else q)) := by unfold signedF; rw [if_neg hc]
      refine AW.skip ?_
      refine AW.seq ?_
      refine AW.region (by kernel_rfl) ?_
      refine RunF.q (o_move rfl) rfl ?_
      refine RunF.q (o_move rfl) rfl ?_
      refine RunF.q (o_convert tk172 tk30 rfl (by first | exact i64_in _ (by omega) | exact u64_in _ (by omega) | rfl)) rfl ?_
      refine RunF.q (o_call (no := 1) (nr := 0) rfl rfl rfl nC (by rfl) (by exact turn_ok _ z (by omega)) (by rfl) rfl rfl nV rfl) (by rfl) ?_
      refine RunF.q (o_call (no := 1) (nr := 0) rfl rfl rfl nC (by rfl) (by exact clamp_ok _) (by rfl) rfl rfl nV rfl) (by rfl) ?_
      refine RunF.q (o_extract rfl rfl) rfl ?_
      refine RunF.q (o_extract rfl rfl) rfl ?_
      refine RunF.q (o_assign rfl) rfl ?_
      refine RunF.q (o_assign rfl) rfl ?_
      refine AW.ret ?_
      exact FinQ.ret [] [] (ress_tmp rfl (ress_tmp rfl ress_nil)) rfl .nil .nil (by rw [e1, e2]; exact nR)

end Go.Proofs.Ytnkijhpikeokfaa

/- Matrices: the inner functions, by their contracts. -/
namespace Go.Proofs.Ytnkijhpikeokfaa
open Go Go.Sym Go.IntWalk

theorem idx_lt {i k r c : Nat} (hi : i < r) (hk : k < c) : i * c + k < r * c := by
  have h1 : (i + 1) * c ≤ r * c := Nat.mul_le_mul_right c hi
  rw [Nat.succ_mul] at h1
  omega

theorem small_mul {r c : Nat} (hr : r ≤ 8) (hc : c ≤ 8) : r * c ≤ 64 := Nat.mul_le_mul hr hc

/-- the numbers of a matrix row by row, the first t of them -/
def tab (F : Nat → Nat → Int) (c t : Nat) : List Int := (List.range t).map fun j => F (j / c) (j % c)

theorem tab_length (F : Nat → Nat → Int) (c t : Nat) : (tab F c t).length = t := by simp [tab]
theorem tab_succ (F : Nat → Nat → Int) {c i k : Nat} (hk : k < c) : tab F c (i * c + k + 1) = tab F c (i * c + k) ++ [F i k] := by
  have h1 : (i * c + k) / c = i := by rw [Nat.add_comm, Nat.add_mul_div_right _ _ (by omega), Nat.div_eq_of_lt hk, Nat.zero_add]
  have h2 : (i * c + k) % c = k := by rw [Nat.add_comm, Nat.add_mul_mod_self_right, Nat.mod_eq_of_lt hk]
  simp only [tab, List.range_succ, List.map_append, List.map_cons, List.map_nil, h1, h2]

/-- whether one of the first t was odd -/
def anyT (X : Nat → Nat → Bool) (c t : Nat) : Bool := (List.range t).any fun j => X (j / c) (j % c)
theorem anyT_succ (X : Nat → Nat → Bool) {c i k : Nat} (hk : k < c) : anyT X c (i * c + k + 1) = (anyT X c (i * c + k) || X i k) := by
  have h1 : (i * c + k) / c = i := by rw [Nat.add_comm, Nat.add_mul_div_right _ _ (by omega), Nat.div_eq_of_lt hk, Nat.zero_add]
  have h2 : (i * c + k) % c = k := by rw [Nat.add_comm, Nat.add_mul_mod_self_right, Nat.mod_eq_of_lt hk]
  simp only [anyT, List.range_succ, List.any_append, List.any_cons, List.any_nil, Bool.or_false, h1, h2]

def slOf (j : Nat) : List Int → AV
  | [] => .nilsl
  | a :: l => .sl (.o j) 0 (a :: l).length 1 false
def rowOf : List Int → Option (List AV)
  | [] => none
  | a :: l => some (ints (a :: l))

set_option maxHeartbeats 1000000 in
theorem at_ok (r c : Nat) (hr : r ≤ 8) (hc : c ≤ 8) (L : List Int) (hL : L.length = r * c) (f : Bool) (i k : Nat) (hi : i < r) (hk : k < c) : SoundC Try.prog 78 [.agg [.int .i64 r, .int .i64 c, .sl (.r 0) 0 L.length 1 f], .int .i64 i, .int .i64 k] ⟨[ints L], []⟩ { val := .int .i64 (L.getD (i * c + k) 0) } := by
  have h1 := idx_lt hi hk
  have h2 := small_mul hr hc
  have h3 : (i : Int) * (c : Int) = ((i * c : Nat) : Int) := by simp
  have h4 : i * c ≤ 64 := by omega
  refine SoundC.of (N := 17) Try.func78 rfl rfl rfl rfl ?_
  refine AW.seq ?_
  refine AW.region (by kernel_rfl) ?_
  refine RunF.w (o_box (nm := 0) rfl rfl rfl) nH ?_
  refine RunF.q (o_assign rfl) rfl ?_
  refine AW.seq ?_
  refine AW.region (by kernel_rfl) ?_
  refine RunF.q (o_fieldAddr rfl tk24 rfl ts22 rfl) rfl ?_
  refine RunF.q (o_load rfl tk22 ts22 rfl rfl rfl) rfl ?_
  refine RunF.q (o_move rfl) rfl ?_
  refine RunF.q (o_fieldAddr rfl tk24 rfl ts3 rfl) rfl ?_
  refine RunF.q (o_load rfl tk3 ts3 rfl rfl rfl) rfl ?_
  refine RunF.q (o_mul rfl rfl ((i64_in _ (by rw [h3]; omega)).trans h3)) rfl ?_
  refine RunF.q (o_move rfl) rfl ?_
  refine RunF.q (o_add rfl rfl (by first | exact i64_in _ (by omega) | rfl)) rfl ?_
  refine RunF.q (o_indexAddr (m := i * c + k) tk22 ts30 rfl rfl (by rw [hL]; omega) (by omega)) rfl ?_
  refine RunF.q (o_load rfl tk30 ts30 rfl rfl (ints_getD L _ (by omega))) rfl ?_
  refine RunF.q (o_assign rfl) rfl ?_
  refine AW.ret ?_
  exact FinQ.ret [] [] (ress_tmp rfl ress_nil) rfl .nil (.cons rfl rfl (PRN.flat (by simp)) .nil) nR

set_option maxHeartbeats 1000000 in
theorem trans1_ok (r c : Nat) (hr : r ≤ 8) (hc : c ≤ 8) (L : List Int) (hL : L.length = r * c) (f : Bool) (i k : Nat) (hi : i < c) (hk : k < r) : SoundC Try.prog 77 [.int .i64 i, .int .i64 k, .ptr (.o 0) 0] ⟨[ints L], [some [.int .i64 r, .int .i64 c, .sl (.r 0) 0 L.length 1 f]]⟩ { val := .tuple [.int .i64 (L.getD (k * c + i) 0), .bool false] } := by
  refine SoundC.of (N := 11) Try.func77 rfl rfl rfl rfl ?_
  refine AW.seq ?_
  refine AW.region (by kernel_rfl) ?_
  refine RunF.q (o_assign rfl) rfl ?_
  refine RunF.q (o_assign rfl) rfl ?_
  refine AW.seq ?_
  refine AW.region (by kernel_rfl) ?_
  refine RunF.q (o_load_agg rfl tk24 ts24 rfl rfl rfl nL) rfl ?_
  refine RunF.q (o_move rfl) rfl ?_
  refine RunF.q (o_move rfl) rfl ?_
  refine RunF.q (o_call (no := 1) (nr := 1) rfl rfl rfl nC (by rfl) (by exact at_ok r c hr hc L hL f k i hk hi) (by rfl) rfl rfl nV rfl) (by rfl) ?_
  refine RunF.q (o_assign rfl) rfl ?_
  refine RunF.q (o_assign rfl) rfl ?_
  refine AW.ret ?_
  exact FinQ.ret [] [] (ress_tmp rfl (ress_tmp rfl ress_nil)) rfl (.some rfl rfl nP .nil) (.cons rfl rfl (PRN.flat (by simp)) .nil) nR

theorem PRN.snoc {σ : Ren} (l : List Int) (q : Int) : PRN σ (ints (l ++ [q])) (ints l ++ [.int .i64 q]) := by
  rw [ints_append]; exact PRN.flat (by simp [AV.flat])
theorem getD_mem {l : List Int} {i : Nat} (h : i < l.length) : l.getD i 0 ∈ l := by
  rw [List.getD_eq_getElem?_getD, List.getElem?_eq_getElem h]; exact List.getElem_mem h
/-- the numbers of a matrix turned -/
def trL (L : List Int) (c r : Nat) : List Int := tab (fun i k => L.getD (k * c + i) 0) r (c * r)

set_option maxHeartbeats 1000000 in
theorem madeT_ok (r c : Nat) (hr : r ≤ 8) (hc : c ≤ 8) (L : List Int) (hL : L.length = r * c) (f : Bool) (hR : 0 < c) (hC : 0 < r) : SoundC Try.prog 76 [.agg [.int .i64 c, .int .i64 r], .func 77 [] [.ptr (.o 0) 0]] ⟨[ints L], [some [.int .i64 r, .int .i64 c, .sl (.r 0) 0 L.length 1 f]]⟩ { val := .tuple [.agg [.int .i64 c, .int .i64 r, .sl (.o 1) 0 (tab (fun i k => L.getD (k * c + i) 0) r (c * r)).length 1 false], .bool (anyT (fun _ _ => false) r (c * r))], newo := [ints (tab (fun i k => L.getD (k * c + i) 0) r (c * r))] } := by
  have hR8 := hc
  have hC8 := hr
  refine SoundC.of (N := 48) Try.func76 rfl rfl rfl rfl ?_
  refine AW.seq ?_
  refine AW.region (by kernel_rfl) ?_
  refine RunF.w (o_box (nm := 1) rfl rfl rfl) rfl ?_
  refine RunF.w (o_alloc (nm := 2) tz24 rfl) rfl ?_
  refine RunF.q (o_assign rfl) rfl ?_
  refine AW.seq ?_
  refine AW.region (by kernel_rfl) ?_
  refine RunF.q (o_fieldAddr rfl tk132 rfl ts3 rfl) rfl ?_
  refine RunF.q (o_load rfl tk3 ts3 rfl rfl rfl) rfl ?_
  refine RunF.q (o_fieldAddr rfl tk132 rfl ts3 rfl) rfl ?_
  refine RunF.q (o_load rfl tk3 ts3 rfl rfl rfl) rfl ?_
  refine RunF.q (o_build tk24 tz24 pl24 rfl rfl) rfl ?_
  refine RunF.w (o_alloc (nm := 3) tz24 rfl) rfl ?_
  refine RunF.wn (o_store rfl rfl rfl ts24 rfl rfl) rfl ?_
  refine AW.seq ?_
  refine AW.region (by kernel_rfl) ?_
  refine RunF.q (o_assign rfl) rfl ?_
  refine AW.seq ?_
  refine AW.seq ?_
  refine AW.region (by kernel_rfl) ?_
  refine RunF.q (o_fieldAddr rfl tk132 rfl ts3 rfl) rfl ?_
  refine RunF.q (o_load rfl tk3 ts3 rfl rfl rfl) rfl ?_
  refine RunF.q (o_move rfl) rfl ?_
  refine AW.block ?_
  refine AW.loop (α := {x : Nat × List Int × Bool // x.1 ≤ c ∧ x.2.1 = tab (fun i k => L.getD (k * c + i) 0) r (x.1 * r) ∧ x.2.2 = anyT (fun _ _ => false) r (x.1 * r)}) (fun x : {x : Nat × List Int × Bool // x.1 ≤ c ∧ x.2.1 = tab (fun i k => L.getD (k * c + i) 0) r (x.1 * r) ∧ x.2.2 = anyT (fun _ _ => false) r (x.1 * r)} => ([(1, .func 77 [] [.ptr (.o 0) 0]), (2, .ptr (.o 1) 0), (4, .ptr (.o 2) 0), (6, .ptr (.o 3) 0), (7, .bool x.1.2.2), (18, .int .i64 c), (19, .int .i64 x.1.1)], ⟨[ints L], [some [.int .i64 r, .int .i64 c, .sl (.r 0) 0 L.length 1 f], some [.int .i64 c, .int .i64 r], some [.int .i64 0, .int .i64 0, .nilsl], some [.int .i64 c, .int .i64 r, slOf 4 x.1.2.1], rowOf x.1.2.1]⟩)) (fun x => c - x.1.1) (fun x => ?_) ⟨(0, [], false), by simp, by simp [tab], by simp [anyT]⟩ ?_
  · obtain ⟨⟨i, L0, z0⟩, hx1, hx2, hx3⟩ := x
    dsimp only at hx1 hx2 hx3
    dsimp only
    refine AW.seq ?_
    refine AW.region (by kernel_rfl) ?_
    refine RunF.q (o_lss rfl rfl) rfl ?_
    refine AW.seq ?_
    refine AW.cond rfl (fun hc0 => ?_) (fun hc0 => ?_)
    · try simp only [decide_eq_true_eq, decide_eq_false_iff_not, bne_iff_ne, beq_iff_eq, bne_eq_false_iff_eq, beq_eq_false_iff_ne, ne_eq, Bool.not_eq_true', Bool.not_eq_false'] at hc0
      have hi : i < c := by omega
      refine AW.skip ?_
      refine AW.seq ?_
      refine AW.block ?_
      refine AW.seq ?_
      refine AW.region (by kernel_rfl) ?_
      refine RunF.q (o_move rfl) rfl ?_
      refine RunF.q (o_assign rfl) rfl ?_
      refine AW.seq ?_
      refine AW.region (by kernel_rfl) ?_
      refine RunF.q (o_fieldAddr rfl tk132 rfl ts3 rfl) rfl ?_
      refine RunF.q (o_load rfl tk3 ts3 rfl rfl rfl) rfl ?_
      refine RunF.q (o_move rfl) rfl ?_
      refine AW.block ?_
      refine AW.loop (α := {x : Nat × List Int × Bool // x.1 ≤ r ∧ x.2.1 = tab (fun i k => L.getD (k * c + i) 0) r (i * r + x.1) ∧ x.2.2 = anyT (fun _ _ => false) r (i * r + x.1)}) (fun x : {x : Nat × List Int × Bool // x.1 ≤ r ∧ x.2.1 = tab (fun i k => L.getD (k * c + i) 0) r (i * r + x.1) ∧ x.2.2 = anyT (fun _ _ => false) r (i * r + x.1)} => ([(1, .func 77 [] [.ptr (.o 0) 0]), (2, .ptr (.o 1) 0), (4, .ptr (.o 2) 0), (6, .ptr (.o 3) 0), (7, .bool x.1.2.2), (8, .int .i64 i), (18, .int .i64 c), (19, .int .i64 i), (23, .int .i64 r), (24, .int .i64 x.1.1)], ⟨[ints L], [some [.int .i64 r, .int .i64 c, .sl (.r 0) 0 L.length 1 f], some [.int .i64 c, .int .i64 r], some [.int .i64 0, .int .i64 0, .nilsl], some [.int .i64 c, .int .i64 r, slOf 4 x.1.2.1], rowOf x.1.2.1]⟩)) (fun x => r - x.1.1) (fun x => ?_) ⟨(0, L0, z0), by omega, by simpa using hx2, by simpa using hx3⟩ ?_
      · obtain ⟨⟨k, y1, y2⟩, hy1, hy2, hy3⟩ := x
        dsimp only at hy1 hy2 hy3
        dsimp only
        refine AW.seq ?_
        refine AW.region (by kernel_rfl) ?_
        refine RunF.q (o_lss rfl rfl) rfl ?_
        refine AW.seq ?_
        refine AW.cond rfl (fun hc1 => ?_) (fun hc1 => ?_)
        · try simp only [decide_eq_true_eq, decide_eq_false_iff_not, bne_iff_ne, beq_iff_eq, bne_eq_false_iff_eq, beq_eq_false_iff_ne, ne_eq, Bool.not_eq_true', Bool.not_eq_false'] at hc1
          have hk : k < r := by omega
          have hlen : y1.length ≤ 64 := by rw [hy2, tab_length]; have := idx_lt hi hk; have := small_mul hR8 hC8; omega
          rcases y1 with _ | ⟨a, l⟩
          · refine AW.skip ?_
            refine AW.seq ?_
            refine AW.block ?_
            refine AW.seq ?_
            refine AW.region (by kernel_rfl) ?_
            refine RunF.q (o_move rfl) rfl ?_
            refine RunF.q (o_assign rfl) rfl ?_
            refine AW.seq ?_
            refine AW.region (by kernel_rfl) ?_
            refine RunF.q (o_move rfl) rfl ?_
            refine RunF.q (o_move rfl) rfl ?_
            refine RunF.q (o_move rfl) rfl ?_
            refine RunF.q (o_call (no := 5) (nr := 1) rfl rfl rfl nC (by rfl) (by exact trans1_ok r c hr hc L hL f i k hi hk) (by rfl) rfl rfl nV rfl) (by rfl) ?_
            refine RunF.q (o_move rfl) rfl ?_
            refine RunF.q (o_extract rfl rfl) rfl ?_
            refine RunF.q (o_extract rfl rfl) rfl ?_
            refine RunF.q (o_assign rfl) rfl ?_
            refine RunF.q (o_assign rfl) rfl ?_
            refine AW.seq ?_
            refine AW.region (by kernel_rfl) ?_
            refine RunF.q (o_fieldAddr rfl tk24 rfl ts22 rfl) rfl ?_
            refine RunF.q (o_load rfl tk22 ts22 rfl rfl rfl) rfl ?_
            refine RunF.q (o_move rfl) rfl ?_
            refine RunF.w (o_buildSlice (nm := 5) tk22 ts30 tz30 rfl rfl rfl rfl) rfl ?_
            refine RunF.w (o_append_nil (nm := 6) tk22 tk22 ts30 tb30 tz30 rfl rfl rfl rfl ⟨by decide, Nat.le_refl 1, by decide, by decide⟩ rfl rfl rfl) rfl ?_
            refine RunF.q (o_fieldAddr rfl tk24 rfl ts22 rfl) rfl ?_
            refine RunF.wn (o_store rfl rfl rfl ts22 rfl rfl) rfl ?_
            refine AW.region (by kernel_rfl) ?_
            refine RunF.q (o_move rfl) rfl ?_
            refine RunF.q (o_move rfl) rfl ?_
            refine RunF.gm rfl (o_move rfl) ?_
            first | refine RunF.q (o_pick_t rfl rfl) rfl ?_ | refine RunF.q (o_pick_f rfl rfl) rfl ?_ | refine RunF.q (o_pick_b rfl rfl rfl) rfl ?_ | refine RunF.q (o_pick_or rfl rfl rfl) rfl ?_ | refine RunF.q (o_pick_and rfl rfl rfl) rfl ?_
            refine RunF.q (o_assign rfl) rfl ?_
            refine AW.region (by kernel_rfl) ?_
            refine RunF.q (o_add rfl rfl (by first | exact i64_in _ (by omega) | rfl)) rfl ?_
            refine RunF.q (o_move rfl) rfl ?_
            exact ⟨⟨(k + 1, ([] : List Int) ++ [(fun i k => L.getD (k * c + i) 0) i k], y2 || (fun _ _ => false) i k), by dsimp only; omega, by dsimp only; rw [← Nat.add_assoc, tab_succ _ hk, ← hy2], by dsimp only; rw [← Nat.add_assoc, anyT_succ _ hk, ← hy3]⟩, Wk.of [1, 2, 3, 6] [] rfl (.some rfl rfl nP (.some rfl rfl nP (.some rfl rfl nP (.some rfl rfl nP (.some rfl rfl nP .nil))))) (.cons rfl rfl nP .nil) (.cons rfl (.fn .nil (.cons (.ptr rfl) .nil)) (.cons rfl (.ptr rfl) (.cons rfl (.ptr rfl) (.cons rfl (.ptr rfl) (.cons rfl (.self rfl) (.cons rfl (.self rfl) (.cons rfl (.self rfl) (.cons rfl (.self rfl) (.cons rfl (.self rfl) (.cons rfl (.self rfl) .nil)))))))))), by dsimp only; omega⟩
          · refine AW.skip ?_
            refine AW.seq ?_
            refine AW.block ?_
            refine AW.seq ?_
            refine AW.region (by kernel_rfl) ?_
            refine RunF.q (o_move rfl) rfl ?_
            refine RunF.q (o_assign rfl) rfl ?_
            refine AW.seq ?_
            refine AW.region (by kernel_rfl) ?_
            refine RunF.q (o_move rfl) rfl ?_
            refine RunF.q (o_move rfl) rfl ?_
            refine RunF.q (o_move rfl) rfl ?_
            refine RunF.q (o_call (no := 5) (nr := 1) rfl rfl rfl nC (by rfl) (by exact trans1_ok r c hr hc L hL f i k hi hk) (by rfl) rfl rfl nV rfl) (by rfl) ?_
            refine RunF.q (o_move rfl) rfl ?_
            refine RunF.q (o_extract rfl rfl) rfl ?_
            refine RunF.q (o_extract rfl rfl) rfl ?_
            refine RunF.q (o_assign rfl) rfl ?_
            refine RunF.q (o_assign rfl) rfl ?_
            refine AW.seq ?_
            refine AW.region (by kernel_rfl) ?_
            refine RunF.q (o_fieldAddr rfl tk24 rfl ts22 rfl) rfl ?_
            refine RunF.q (o_load rfl tk22 ts22 rfl rfl rfl) rfl ?_
            refine RunF.q (o_move rfl) rfl ?_
            refine RunF.w (o_buildSlice (nm := 5) tk22 ts30 tz30 rfl rfl rfl rfl) rfl ?_
            refine RunF.w (o_append_own (nm := 6) (mn := ((a :: l) ++ [(fun i k => L.getD (k * c + i) 0) i k]).length) tk22 tk22 ts30 tb30 tz30 rfl rfl rfl rfl rfl ⟨by decide, Nat.le_refl 1, by simp, by simp only [List.length_cons] at hlen ⊢; omega, by simp only [List.length_cons] at hlen ⊢; omega⟩ rfl (ints_all (a :: l)) rfl rfl (by simp)) rfl ?_
            refine RunF.q (o_fieldAddr rfl tk24 rfl ts22 rfl) rfl ?_
            refine RunF.wn (o_store rfl rfl rfl ts22 rfl rfl) rfl ?_
            refine AW.region (by kernel_rfl) ?_
            refine RunF.q (o_move rfl) rfl ?_
            refine RunF.q (o_move rfl) rfl ?_
            refine RunF.gm rfl (o_move rfl) ?_
            first | refine RunF.q (o_pick_t rfl rfl) rfl ?_ | refine RunF.q (o_pick_f rfl rfl) rfl ?_ | refine RunF.q (o_pick_b rfl rfl rfl) rfl ?_ | refine RunF.q (o_pick_or rfl rfl rfl) rfl ?_ | refine RunF.q (o_pick_and rfl rfl rfl) rfl ?_
            refine RunF.q (o_assign rfl) rfl ?_
            refine AW.region (by kernel_rfl) ?_
            refine RunF.q (o_add rfl rfl (by first | exact i64_in _ (by omega) | rfl)) rfl ?_
            refine RunF.q (o_move rfl) rfl ?_
            exact ⟨⟨(k + 1, (a :: l) ++ [(fun i k => L.getD (k * c + i) 0) i k], y2 || (fun _ _ => false) i k), by dsimp only; omega, by dsimp only; rw [← Nat.add_assoc, tab_succ _ hk, ← hy2], by dsimp only; rw [← Nat.add_assoc, anyT_succ _ hk, ← hy3]⟩, Wk.of [1, 2, 3, 6] [] rfl (.some rfl rfl nP (.some rfl rfl nP (.some rfl rfl nP (.some rfl rfl nP (.some rfl rfl (PRN.snoc (a :: l) ((fun i k => L.getD (k * c + i) 0) i k)) .nil))))) (.cons rfl rfl nP .nil) (.cons rfl (.fn .nil (.cons (.ptr rfl) .nil)) (.cons rfl (.ptr rfl) (.cons rfl (.ptr rfl) (.cons rfl (.ptr rfl) (.cons rfl (.self rfl) (.cons rfl (.self rfl) (.cons rfl (.self rfl) (.cons rfl (.self rfl) (.cons rfl (.self rfl) (.cons rfl (.self rfl) .nil)))))))))), by dsimp only; omega⟩
        · try simp only [decide_eq_true_eq, decide_eq_false_iff_not, bne_iff_ne, beq_iff_eq, bne_eq_false_iff_eq, beq_eq_false_iff_ne, ne_eq, Bool.not_eq_true', Bool.not_eq_false'] at hc1
          refine AW.exit ?_
          refine AW.region (by kernel_rfl) ?_
          refine RunF.q (o_add rfl rfl (by first | exact i64_in _ (by omega) | rfl)) rfl ?_
          refine RunF.q (o_move rfl) rfl ?_
          exact ⟨⟨(i + 1, y1, y2), by dsimp only; omega, by dsimp only; rw [hy2, Nat.succ_mul]; congr 1; omega, by dsimp only; rw [hy3, Nat.succ_mul]; congr 1; omega⟩, Wk.same rfl (.cons rfl (.cons rfl (.cons rfl (.cons rfl (.cons rfl (.cons rfl (.cons rfl .nil))))))), by dsimp only; omega⟩
      · exact Wk.same rfl (.cons rfl (.cons rfl (.cons rfl (.cons rfl (.cons rfl (.cons rfl (.cons rfl (.cons rfl (.cons rfl (.cons rfl .nil))))))))))
    · try simp only [decide_eq_true_eq, decide_eq_false_iff_not, bne_iff_ne, beq_iff_eq, bne_eq_false_iff_eq, beq_eq_false_iff_ne, ne_eq, Bool.not_eq_true', Bool.not_eq_false'] at hc0
      have ei : i = c := by omega
      subst ei
      obtain ⟨a, l, rfl⟩ : ∃ a l, L0 = a :: l := by
        cases L0 with
        | nil => have := congrArg List.length hx2; rw [tab_length] at this; have := Nat.mul_pos hR hC; simp at *; omega
        | cons a l => exact ⟨a, l, rfl⟩
      refine AW.exit ?_
      refine AW.seq ?_
      refine AW.region (by kernel_rfl) ?_
      refine RunF.q (o_load_agg rfl tk24 ts24 rfl rfl rfl rfl) rfl ?_
      refine RunF.q (o_move rfl) rfl ?_
      refine RunF.wn (o_store rfl rfl rfl ts24 rfl rfl) rfl ?_
      refine RunF.q (o_assign rfl) rfl ?_
      refine AW.ret ?_
      apply FinQ.ret [4] []
      · exact (ress_agg rfl tk24 ts24 rfl rfl rfl (ress_tmp rfl ress_nil))
      · rfl
      · exact (.some rfl rfl nP (.some rfl rfl (by rw [← hx2]; exact PRN.flat (ints_flat _)) .nil))
      · exact (.cons rfl rfl nP .nil)
      · rw [← hx2, ← hx3]; exact nR
  · exact Wk.of [1, 2, 3, 999] [] rfl (.some rfl rfl nP (.some rfl rfl nP (.some rfl rfl nP (.some rfl rfl nP (.none .nil))))) (.cons rfl rfl nP .nil) (.cons rfl (.fn .nil (.cons (.ptr rfl) .nil)) (.cons rfl (.ptr rfl) (.cons rfl (.ptr rfl) (.cons rfl (.ptr rfl) (.cons rfl (.self rfl) (.cons rfl (.self rfl) (.cons rfl (.self rfl) .nil)))))))

set_option maxHeartbeats 1000000 in
theorem of_ok (r c : Int) (L : List Int) (f : Bool) : SoundC Try.prog 113 [.agg [.int .i64 r, .int .i64 c, .sl (.r 0) 0 L.length 1 f]] ⟨[ints L], []⟩ { val := .agg [.int .i64 r, .int .i64 c] } := by
  refine SoundC.of (N := 8) Try.func113 rfl rfl rfl rfl ?_
  refine AW.seq ?_
  refine AW.region (by kernel_rfl) ?_
  refine RunF.w (o_box (nm := 0) rfl rfl rfl) nH ?_
  refine RunF.w (o_alloc (nm := 1) tz132 rfl) nH ?_
  refine AW.seq ?_
  refine AW.region (by kernel_rfl) ?_
  refine RunF.q (o_fieldAddr rfl tk24 rfl ts3 rfl) rfl ?_
  refine RunF.q (o_load rfl tk3 ts3 rfl rfl rfl) rfl ?_
  refine RunF.q (o_fieldAddr rfl tk24 rfl ts3 rfl) rfl ?_
  refine RunF.q (o_load rfl tk3 ts3 rfl rfl rfl) rfl ?_
  refine RunF.q (o_build tk132 tz132 pl132 rfl rfl) rfl ?_
  refine RunF.wn (o_store rfl rfl rfl ts132 rfl rfl) nH ?_
  refine AW.ret ?_
  exact FinQ.ret [] [] (ress_agg rfl tk132 ts132 rfl rfl rfl ress_nil) rfl .nil (.cons rfl rfl nP .nil) nR

set_option maxHeartbeats 1000000 in
theorem trans_ok (r c : Nat) (hr : r ≤ 8) (hc : c ≤ 8) (L : List Int) (hL : L.length = r * c) (f : Bool) (hR : 0 < r) (hC : 0 < c) : SoundC Try.prog 30 [.agg [.int .i64 r, .int .i64 c, .sl (.r 0) 0 L.length 1 f]] ⟨[ints L], []⟩ { val := .agg [.int .i64 c, .int .i64 r, .sl (.o 0) 0 (trL L c r).length 1 false], newo := [ints (trL L c r)] } := by
  refine SoundC.of (N := 16) Try.func30 rfl rfl rfl rfl ?_
  refine AW.seq ?_
  refine AW.region (by kernel_rfl) ?_
  refine RunF.w (o_box (nm := 0) rfl rfl rfl) nH ?_
  refine RunF.w (o_alloc (nm := 1) tz24 rfl) nH ?_
  refine AW.seq ?_
  refine AW.region (by kernel_rfl) ?_
  refine RunF.q (o_fieldAddr rfl tk24 rfl ts3 rfl) rfl ?_
  refine RunF.q (o_load rfl tk3 ts3 rfl rfl rfl) rfl ?_
  refine RunF.q (o_fieldAddr rfl tk24 rfl ts3 rfl) rfl ?_
  refine RunF.q (o_load rfl tk3 ts3 rfl rfl rfl) rfl ?_
  refine RunF.q (o_build tk132 tz132 pl132 rfl rfl) rfl ?_
  refine RunF.q (o_makeFunc rfl rfl) rfl ?_
  refine RunF.w (o_call (no := 2) (nr := 1) rfl rfl rfl nC (by rfl) (by exact madeT_ok r c hr hc L hL f hC hR) (by rfl) rfl rfl nV nE) nH ?_
  refine RunF.q (o_move rfl) rfl ?_
  refine RunF.q (o_extract rfl rfl) rfl ?_
  refine RunF.q (o_extract rfl rfl) rfl ?_
  refine RunF.w (o_alloc (nm := 3) tz24 rfl) nH ?_
  refine RunF.wn (o_store rfl rfl rfl ts24 rfl rfl) nH ?_
  refine RunF.q (o_assign rfl) rfl ?_
  refine AW.seq ?_
  refine AW.region (by kernel_rfl) ?_
  refine RunF.q (o_load_agg rfl tk24 ts24 rfl rfl rfl nL) rfl ?_
  refine RunF.wn (o_store rfl rfl rfl ts24 rfl rfl) nH ?_
  refine AW.ret ?_
  exact FinQ.ret [2] [] (ress_agg rfl tk24 ts24 rfl rfl rfl ress_nil) rfl (.some rfl rfl (PRN.flat (ints_flat _)) .nil) (.cons rfl rfl nP .nil) nR

set_option maxHeartbeats 1000000 in
theorem each1_ok (r c : Nat) (hr : r ≤ 8) (hc : c ≤ 8) (A B : List Int) (hA : A.length = r * c) (hB : B.length = r * c) (fa fb : Bool) (kd : Nat) (D : Int → Int → Int × Bool) (hD : ∀ x ∈ A, ∀ y ∈ B, SoundC Try.prog kd [.int .i64 x, .int .i64 y] ⟨[], []⟩ { val := .tuple [.int .i64 (D x y).1, .bool (D x y).2] }) (i j : Nat) (hi : i < r) (hj : j < c) : SoundC Try.prog 114 [.int .i64 i, .int .i64 j, .ptr (.o 0) 0, .ptr (.o 1) 0, .ptr (.o 2) 0] ⟨[ints A, ints B], [some [.func kd [] []], some [.int .i64 r, .int .i64 c, .sl (.r 0) 0 A.length 1 fa], some [.int .i64 r, .int .i64 c, .sl (.r 1) 0 B.length 1 fb]]⟩ { val := .tuple [.int .i64 (D (A.getD (i * c + j) 0) (B.getD (i * c + j) 0)).1, .bool (D (A.getD (i * c + j) 0) (B.getD (i * c + j) 0)).2] } := by
  have h1 := idx_lt hi hj
  have hx : A.getD (i * c + j) 0 ∈ A := getD_mem (by omega)
  have hy : B.getD (i * c + j) 0 ∈ B := getD_mem (by omega)
  refine SoundC.of (N := 21) Try.func114 rfl rfl rfl rfl ?_
  refine AW.seq ?_
  refine AW.region (by kernel_rfl) ?_
  refine RunF.q (o_assign rfl) rfl ?_
  refine RunF.q (o_assign rfl) rfl ?_
  refine AW.seq ?_
  refine AW.draws (by kernel_rfl) (by kernel_rfl) ?_
  refine RunV.q (o_load rfl tk127 ts127 rfl rfl rfl) rfl ?_
  refine RunV.q (o_load_agg rfl tk24 ts24 rfl rfl rfl nL) rfl ?_
  refine RunV.q (o_move rfl) rfl ?_
  refine RunV.q (o_move rfl) rfl ?_
  refine RunV.q (o_call (no := 3) (nr := 2) rfl rfl rfl nC (by rfl) (by exact at_ok r c hr hc A hA fa i j hi hj) (by rfl) rfl rfl nV rfl) (by rfl) ?_
  refine RunV.q (o_load_agg rfl tk24 ts24 rfl rfl rfl nL) rfl ?_
  refine RunV.q (o_move rfl) rfl ?_
  refine RunV.q (o_move rfl) rfl ?_
  refine RunV.q (o_call (no := 3) (nr := 2) rfl rfl rfl nC (by rfl) (by exact at_ok r c hr hc B hB fb i j hi hj) (by rfl) rfl rfl nV rfl) (by rfl) ?_
  refine RunV.q (o_call (no := 3) (nr := 2) rfl rfl rfl nC (by rfl) (by exact hD _ hx _ hy) (by rfl) rfl rfl nV rfl) (by rfl) ?_
  refine RunV.q (o_extract rfl rfl) rfl ?_
  refine RunV.q (o_extract rfl rfl) rfl ?_
  refine RunV.q (o_assign rfl) rfl ?_
  refine RunV.q (o_assign rfl) rfl ?_
  refine And.intro (by kernel_rfl) ?_
  refine AW.ret ?_
  exact FinQ.ret [] [] (ress_tmp rfl (ress_tmp rfl ress_nil)) rfl (.some rfl rfl nP (.some rfl rfl nP (.some rfl rfl nP .nil))) (.cons rfl rfl nP (.cons rfl rfl nP .nil)) nR

end Go.Proofs.Ytnkijhpikeokfaa

/- Matrices: sums, differences, and what is made even, by their contracts. -/
namespace Go.Proofs.Ytnkijhpikeokfaa
open Go Go.Sym Go.IntWalk

/-- two matrices, number by number -/
def zipM (D : Int → Int → Int × Bool) (A B : List Int) (r c : Nat) : List Int := tab (fun i j => (D (A.getD (i * c + j) 0) (B.getD (i * c + j) 0)).1) c (r * c)
def zipX (D : Int → Int → Int × Bool) (A B : List Int) (r c : Nat) : Bool := anyT (fun i j => (D (A.getD (i * c + j) 0) (B.getD (i * c + j) 0)).2) c (r * c)
def addD (x y : Int) : Int × Bool := (addQ x y, addF x y)
def subD (x y : Int) : Int × Bool := (subQ x y, subF x y)

theorem ko132 : kindsOf Try.prog 20 132 = some [.int .i64, .int .i64] := by kernel_rfl
theorem eg132 : Try.prog.eqGuardType Try.prog.depth 132 = false := by kernel_rfl

set_option maxHeartbeats 1000000 in
theorem madeE_ok (r c : Nat) (hr : r ≤ 8) (hc : c ≤ 8) (hR : 0 < r) (hC : 0 < c) (A B : List Int) (hA : A.length = r * c) (hB : B.length = r * c) (fa fb : Bool) (kd : Nat) (D : Int → Int → Int × Bool) (hD : ∀ x ∈ A, ∀ y ∈ B, SoundC Try.prog kd [.int .i64 x, .int .i64 y] ⟨[], []⟩ { val := .tuple [.int .i64 (D x y).1, .bool (D x y).2] }) : SoundC Try.prog 76 [.agg [.int .i64 r, .int .i64 c], .func 114 [] [.ptr (.o 0) 0, .ptr (.o 1) 0, .ptr (.o 2) 0]] ⟨[ints A, ints B], [some [.func kd [] []], some [.int .i64 r, .int .i64 c, .sl (.r 0) 0 A.length 1 fa], some [.int .i64 r, .int .i64 c, .sl (.r 1) 0 B.length 1 fb]]⟩ { val := .tuple [.agg [.int .i64 r, .int .i64 c, .sl (.o 3) 0 (tab (fun i j => (D (A.getD (i * c + j) 0) (B.getD (i * c + j) 0)).1) c (r * c)).length 1 false], .bool (anyT (fun i j => (D (A.getD (i * c + j) 0) (B.getD (i * c + j) 0)).2) c (r * c))], newo := [ints (tab (fun i j => (D (A.getD (i * c + j) 0) (B.getD (i * c + j) 0)).1) c (r * c))] } := by
  have hR8 := hr
  have hC8 := hc
  refine SoundC.of (N := 48) Try.func76 rfl rfl rfl rfl ?_
  refine AW.seq ?_
  refine AW.region (by kernel_rfl) ?_
  refine RunF.w (o_box (nm := 3) rfl rfl rfl) rfl ?_
  refine RunF.w (o_alloc (nm := 4) tz24 rfl) rfl ?_
  refine RunF.q (o_assign rfl) rfl ?_
  refine AW.seq ?_
  refine AW.region (by kernel_rfl) ?_
  refine RunF.q (o_fieldAddr rfl tk132 rfl ts3 rfl) rfl ?_
  refine RunF.q (o_load rfl tk3 ts3 rfl rfl rfl) rfl ?_
  refine RunF.q (o_fieldAddr rfl tk132 rfl ts3 rfl) rfl ?_
  refine RunF.q (o_load rfl tk3 ts3 rfl rfl rfl) rfl ?_
  refine RunF.q (o_build tk24 tz24 pl24 rfl rfl) rfl ?_
  refine RunF.w (o_alloc (nm := 5) tz24 rfl) rfl ?_
  refine RunF.wn (o_store rfl rfl rfl ts24 rfl rfl) rfl ?_
  refine AW.seq ?_
  refine AW.region (by kernel_rfl) ?_
  refine RunF.q (o_assign rfl) rfl ?_
  refine AW.seq ?_
  refine AW.seq ?_
  refine AW.region (by kernel_rfl) ?_
  refine RunF.q (o_fieldAddr rfl tk132 rfl ts3 rfl) rfl ?_
  refine RunF.q (o_load rfl tk3 ts3 rfl rfl rfl) rfl ?_
  refine RunF.q (o_move rfl) rfl ?_
  refine AW.block ?_
  refine AW.loop (α := {x : Nat × List Int × Bool // x.1 ≤ r ∧ x.2.1 = tab (fun i j => (D (A.getD (i * c + j) 0) (B.getD (i * c + j) 0)).1) c (x.1 * c) ∧ x.2.2 = anyT (fun i j => (D (A.getD (i * c + j) 0) (B.getD (i * c + j) 0)).2) c (x.1 * c)}) (fun x : {x : Nat × List Int × Bool // x.1 ≤ r ∧ x.2.1 = tab (fun i j => (D (A.getD (i * c + j) 0) (B.getD (i * c + j) 0)).1) c (x.1 * c) ∧ x.2.2 = anyT (fun i j => (D (A.getD (i * c + j) 0) (B.getD (i * c + j) 0)).2) c (x.1 * c)} => ([(1, .func 114 [] [.ptr (.o 0) 0, .ptr (.o 1) 0, .ptr (.o 2) 0]), (2, .ptr (.o 3) 0), (4, .ptr (.o 4) 0), (6, .ptr (.o 5) 0), (7, .bool x.1.2.2), (18, .int .i64 r), (19, .int .i64 x.1.1)], ⟨[ints A, ints B], [some [.func kd [] []], some [.int .i64 r, .int .i64 c, .sl (.r 0) 0 A.length 1 fa], some [.int .i64 r, .int .i64 c, .sl (.r 1) 0 B.length 1 fb], some [.int .i64 r, .int .i64 c], some [.int .i64 0, .int .i64 0, .nilsl], some [.int .i64 r, .int .i64 c, slOf 6 x.1.2.1], rowOf x.1.2.1]⟩)) (fun x => r - x.1.1) (fun x => ?_) ⟨(0, [], false), by simp, by simp [tab], by simp [anyT]⟩ ?_
  · obtain ⟨⟨i, L0, z0⟩, hx1, hx2, hx3⟩ := x
    dsimp only at hx1 hx2 hx3
    dsimp only
    refine AW.seq ?_
    refine AW.region (by kernel_rfl) ?_
    refine RunF.q (o_lss rfl rfl) rfl ?_
    refine AW.seq ?_
    refine AW.cond rfl (fun hc0 => ?_) (fun hc0 => ?_)
    · try simp only [decide_eq_true_eq, decide_eq_false_iff_not, bne_iff_ne, beq_iff_eq, bne_eq_false_iff_eq, beq_eq_false_iff_ne, ne_eq, Bool.not_eq_true', Bool.not_eq_false'] at hc0
      have hi : i < r := by omega
      refine AW.skip ?_
      refine AW.seq ?_
      refine AW.block ?_
      refine AW.seq ?_
      refine AW.region (by kernel_rfl) ?_
      refine RunF.q (o_move rfl) rfl ?_
      refine RunF.q (o_assign rfl) rfl ?_
      refine AW.seq ?_
      refine AW.region (by kernel_rfl) ?_
      refine RunF.q (o_fieldAddr rfl tk132 rfl ts3 rfl) rfl ?_
      refine RunF.q (o_load rfl tk3 ts3 rfl rfl rfl) rfl ?_
      refine RunF.q (o_move rfl) rfl ?_
      refine AW.block ?_
      refine AW.loop (α := {x : Nat × List Int × Bool // x.1 ≤ c ∧ x.2.1 = tab (fun i j => (D (A.getD (i * c + j) 0) (B.getD (i * c + j) 0)).1) c (i * c + x.1) ∧ x.2.2 = anyT (fun i j => (D (A.getD (i * c + j) 0) (B.getD (i * c + j) 0)).2) c (i * c + x.1)}) (fun x : {x : Nat × List Int × Bool // x.1 ≤ c ∧ x.2.1 = tab (fun i j => (D (A.getD (i * c + j) 0) (B.getD (i * c + j) 0)).1) c (i * c + x.1) ∧ x.2.2 = anyT (fun i j => (D (A.getD (i * c + j) 0) (B.getD (i * c + j) 0)).2) c (i * c + x.1)} => ([(1, .func 114 [] [.ptr (.o 0) 0, .ptr (.o 1) 0, .ptr (.o 2) 0]), (2, .ptr (.o 3) 0), (4, .ptr (.o 4) 0), (6, .ptr (.o 5) 0), (7, .bool x.1.2.2), (8, .int .i64 i), (18, .int .i64 r), (19, .int .i64 i), (23, .int .i64 c), (24, .int .i64 x.1.1)], ⟨[ints A, ints B], [some [.func kd [] []], some [.int .i64 r, .int .i64 c, .sl (.r 0) 0 A.length 1 fa], some [.int .i64 r, .int .i64 c, .sl (.r 1) 0 B.length 1 fb], some [.int .i64 r, .int .i64 c], some [.int .i64 0, .int .i64 0, .nilsl], some [.int .i64 r, .int .i64 c, slOf 6 x.1.2.1], rowOf x.1.2.1]⟩)) (fun x => c - x.1.1) (fun x => ?_) ⟨(0, L0, z0), by omega, by simpa using hx2, by simpa using hx3⟩ ?_
      · obtain ⟨⟨k, y1, y2⟩, hy1, hy2, hy3⟩ := x
        dsimp only at hy1 hy2 hy3
        dsimp only
        refine AW.seq ?_
        refine AW.region (by kernel_rfl) ?_
        refine RunF.q (o_lss rfl rfl) rfl ?_
        refine AW.seq ?_
        refine AW.cond rfl (fun hc1 => ?_) (fun hc1 => ?_)
        · try simp only [decide_eq_true_eq, decide_eq_false_iff_not, bne_iff_ne, beq_iff_eq, bne_eq_false_iff_eq, beq_eq_false_iff_ne, ne_eq, Bool.not_eq_true', Bool.not_eq_false'] at hc1
          have hk : k < c := by omega
          have hlen : y1.length ≤ 64 := by rw [hy2, tab_length]; have := idx_lt hi hk; have := small_mul hR8 hC8; omega
          rcases y1 with _ | ⟨a, l⟩
          · refine AW.skip ?_
            refine AW.seq ?_
            refine AW.block ?_
            refine AW.seq ?_
            refine AW.region (by kernel_rfl) ?_
            refine RunF.q (o_move rfl) rfl ?_
            refine RunF.q (o_assign rfl) rfl ?_
            refine AW.seq ?_
            refine AW.region (by kernel_rfl) ?_
            refine RunF.q (o_move rfl) rfl ?_
            refine RunF.q (o_move rfl) rfl ?_
            refine RunF.q (o_move rfl) rfl ?_
            refine RunF.q (o_call (no := 7) (nr := 2) rfl rfl rfl nC (by rfl) (by exact each1_ok r c hr hc A B hA hB fa fb kd D hD i k hi hk) (by rfl) rfl rfl nV rfl) (by rfl) ?_
            refine RunF.q (o_move rfl) rfl ?_
            refine RunF.q (o_extract rfl rfl) rfl ?_
            refine RunF.q (o_extract rfl rfl) rfl ?_
            refine RunF.q (o_assign rfl) rfl ?_
            refine RunF.q (o_assign rfl) rfl ?_
            refine AW.seq ?_
            refine AW.region (by kernel_rfl) ?_
            refine RunF.q (o_fieldAddr rfl tk24 rfl ts22 rfl) rfl ?_
            refine RunF.q (o_load rfl tk22 ts22 rfl rfl rfl) rfl ?_
            refine RunF.q (o_move rfl) rfl ?_
            refine RunF.w (o_buildSlice (nm := 7) tk22 ts30 tz30 rfl rfl rfl rfl) rfl ?_
            refine RunF.w (o_append_nil (nm := 8) tk22 tk22 ts30 tb30 tz30 rfl rfl rfl rfl ⟨by decide, Nat.le_refl 1, by decide, by decide⟩ rfl rfl rfl) rfl ?_
            refine RunF.q (o_fieldAddr rfl tk24 rfl ts22 rfl) rfl ?_
            refine RunF.wn (o_store rfl rfl rfl ts22 rfl rfl) rfl ?_
            refine AW.region (by kernel_rfl) ?_
            refine RunF.q (o_move rfl) rfl ?_
            refine RunF.q (o_move rfl) rfl ?_
            refine RunF.gm rfl (o_move rfl) ?_
            first | refine RunF.q (o_pick_t rfl rfl) rfl ?_ | refine RunF.q (o_pick_f rfl rfl) rfl ?_ | refine RunF.q (o_pick_b rfl rfl rfl) rfl ?_ | refine RunF.q (o_pick_or rfl rfl rfl) rfl ?_ | refine RunF.q (o_pick_and rfl rfl rfl) rfl ?_
            refine RunF.q (o_assign rfl) rfl ?_
            refine AW.region (by kernel_rfl) ?_
            refine RunF.q (o_add rfl rfl (by first | exact i64_in _ (by omega) | rfl)) rfl ?_
            refine RunF.q (o_move rfl) rfl ?_
            exact ⟨⟨(k + 1, ([] : List Int) ++ [(fun i j => (D (A.getD (i * c + j) 0) (B.getD (i * c + j) 0)).1) i k], y2 || (fun i j => (D (A.getD (i * c + j) 0) (B.getD (i * c + j) 0)).2) i k), by dsimp only; omega, by dsimp only; rw [← Nat.add_assoc, tab_succ _ hk, ← hy2], by dsimp only; rw [← Nat.add_assoc, anyT_succ _ hk, ← hy3]⟩, Wk.of [3, 4, 5, 8] [] rfl (.some rfl rfl nP (.some rfl rfl nP (.some rfl rfl nP (.some rfl rfl nP (.some rfl rfl nP (.some rfl rfl nP (.some rfl rfl nP .nil))))))) (.cons rfl rfl nP (.cons rfl rfl nP .nil)) (.cons rfl (.fn .nil (.cons (.ptr rfl) (.cons (.ptr rfl) (.cons (.ptr rfl) .nil)))) (.cons rfl (.ptr rfl) (.cons rfl (.ptr rfl) (.cons rfl (.ptr rfl) (.cons rfl (.self rfl) (.cons rfl (.self rfl) (.cons rfl (.self rfl) (.cons rfl (.self rfl) (.cons rfl (.self rfl) (.cons rfl (.self rfl) .nil)))))))))), by dsimp only; omega⟩
          · refine AW.skip ?_
            refine AW.seq ?_
            refine AW.block ?_
            refine AW.seq ?_
            refine AW.region (by kernel_rfl) ?_
            refine RunF.q (o_move rfl) rfl ?_
            refine RunF.q (o_assign rfl) rfl ?_
            refine AW.seq ?_
            refine AW.region (by kernel_rfl) ?_
            refine RunF.q (o_move rfl) rfl ?_
            refine RunF.q (o_move rfl) rfl ?_
            refine RunF.q (o_move rfl) rfl ?_
            refine RunF.q (o_call (no := 7) (nr := 2) rfl rfl rfl nC (by rfl) (by exact each1_ok r c hr hc A B hA hB fa fb kd D hD i k hi hk) (by rfl) rfl rfl nV rfl) (by rfl) ?_
            refine RunF.q (o_move rfl) rfl ?_
            refine RunF.q (o_extract rfl rfl) rfl ?_
            refine RunF.q (o_extract rfl rfl) rfl ?_
            refine RunF.q (o_assign rfl) rfl ?_
            refine RunF.q (o_assign rfl) rfl ?_
            refine AW.seq ?_
            refine AW.region (by kernel_rfl) ?_
            refine RunF.q (o_fieldAddr rfl tk24 rfl ts22 rfl) rfl ?_
            refine RunF.q (o_load rfl tk22 ts22 rfl rfl rfl) rfl ?_
            refine RunF.q (o_move rfl) rfl ?_
            refine RunF.w (o_buildSlice (nm := 7) tk22 ts30 tz30 rfl rfl rfl rfl) rfl ?_
            refine RunF.w (o_append_own (nm := 8) (mn := ((a :: l) ++ [(fun i j => (D (A.getD (i * c + j) 0) (B.getD (i * c + j) 0)).1) i k]).length) tk22 tk22 ts30 tb30 tz30 rfl rfl rfl rfl rfl ⟨by decide, Nat.le_refl 1, by simp, by simp only [List.length_cons] at hlen ⊢; omega, by simp only [List.length_cons] at hlen ⊢; omega⟩ rfl (ints_all (a :: l)) rfl rfl (by simp)) rfl ?_
            refine RunF.q (o_fieldAddr rfl tk24 rfl ts22 rfl) rfl ?_
            refine RunF.wn (o_store rfl rfl rfl ts22 rfl rfl) rfl ?_
            refine AW.region (by kernel_rfl) ?_
            refine RunF.q (o_move rfl) rfl ?_
            refine RunF.q (o_move rfl) rfl ?_
            refine RunF.gm rfl (o_move rfl) ?_
            first | refine RunF.q (o_pick_t rfl rfl) rfl ?_ | refine RunF.q (o_pick_f rfl rfl) rfl ?_ | refine RunF.q (o_pick_b rfl rfl rfl) rfl ?_ | refine RunF.q (o_pick_or rfl rfl rfl) rfl ?_ | refine RunF.q (o_pick_and rfl rfl rfl) rfl ?_
            refine RunF.q (o_assign rfl) rfl ?_
            refine AW.region (by kernel_rfl) ?_
            refine RunF.q (o_add rfl rfl (by first | exact i64_in _ (by omega) | rfl)) rfl ?_
            refine RunF.q (o_move rfl) rfl ?_
            exact ⟨⟨(k + 1, (a :: l) ++ [(fun i j => (D (A.getD (i * c + j) 0) (B.getD (i * c + j) 0)).1) i k], y2 || (fun i j => (D (A.getD (i * c + j) 0) (B.getD (i * c + j) 0)).2) i k), by dsimp only; omega, by dsimp only; rw [← Nat.add_assoc, tab_succ _ hk, ← hy2], by dsimp only; rw [← Nat.add_assoc, anyT_succ _ hk, ← hy3]⟩, Wk.of [3, 4, 5, 8] [] rfl (.some rfl rfl nP (.some rfl rfl nP (.some rfl rfl nP (.some rfl rfl nP (.some rfl rfl nP (.some rfl rfl nP (.some rfl rfl (PRN.snoc (a :: l) ((fun i j => (D (A.getD (i * c + j) 0) (B.getD (i * c + j) 0)).1) i k)) .nil))))))) (.cons rfl rfl nP (.cons rfl rfl nP .nil)) (.cons rfl (.fn .nil (.cons (.ptr rfl) (.cons (.ptr rfl) (.cons (.ptr rfl) .nil)))) (.cons rfl (.ptr rfl) (.cons rfl (.ptr rfl) (.cons rfl (.ptr rfl) (.cons rfl (.self rfl) (.cons rfl (.self rfl) (.cons rfl (.self rfl) (.cons rfl (.self rfl) (.cons rfl (.self rfl) (.cons rfl (.self rfl) .nil)))))))))), by dsimp only; omega⟩
        · try simp only [decide_eq_true_eq, decide_eq_false_iff_not, bne_iff_ne, beq_iff_eq, bne_eq_false_iff_eq, beq_eq_false_iff_ne, ne_eq, Bool.not_eq_true', Bool.not_eq_false'] at hc1
          refine AW.exit ?_
          refine AW.region (by kernel_rfl) ?_
          refine RunF.q (o_add rfl rfl (by first | exact i64_in _ (by omega) | rfl)) rfl ?_
          refine RunF.q (o_move rfl) rfl ?_
          exact ⟨⟨(i + 1, y1, y2), by dsimp only; omega, by dsimp only; rw [hy2, Nat.succ_mul]; congr 1; omega, by dsimp only; rw [hy3, Nat.succ_mul]; congr 1; omega⟩, Wk.same rfl (.cons rfl (.cons rfl (.cons rfl (.cons rfl (.cons rfl (.cons rfl (.cons rfl .nil))))))), by dsimp only; omega⟩
      · exact Wk.same rfl (.cons rfl (.cons rfl (.cons rfl (.cons rfl (.cons rfl (.cons rfl (.cons rfl (.cons rfl (.cons rfl (.cons rfl .nil))))))))))
    · try simp only [decide_eq_true_eq, decide_eq_false_iff_not, bne_iff_ne, beq_iff_eq, bne_eq_false_iff_eq, beq_eq_false_iff_ne, ne_eq, Bool.not_eq_true', Bool.not_eq_false'] at hc0
      have ei : i = r := by omega
      subst ei
      obtain ⟨a, l, rfl⟩ : ∃ a l, L0 = a :: l := by
        cases L0 with
        | nil => have := congrArg List.length hx2; rw [tab_length] at this; have := Nat.mul_pos hR hC; simp at *; omega
        | cons a l => exact ⟨a, l, rfl⟩
      refine AW.exit ?_
      refine AW.seq ?_
      refine AW.region (by kernel_rfl) ?_
      refine RunF.q (o_load_agg rfl tk24 ts24 rfl rfl rfl rfl) rfl ?_
      refine RunF.q (o_move rfl) rfl ?_
      refine RunF.wn (o_store rfl rfl rfl ts24 rfl rfl) rfl ?_
      refine RunF.q (o_assign rfl) rfl ?_
      refine AW.ret ?_
      apply FinQ.ret [6] []
      · exact (ress_agg rfl tk24 ts24 rfl rfl rfl (ress_tmp rfl ress_nil))
      · rfl
      · exact (.some rfl rfl nP (.some rfl rfl nP (.some rfl rfl nP (.some rfl rfl (by rw [← hx2]; exact PRN.flat (ints_flat _)) .nil))))
      · exact (.cons rfl rfl nP (.cons rfl rfl nP .nil))
      · rw [← hx2, ← hx3]; exact nR
  · exact Wk.of [3, 4, 5, 999] [] rfl (.some rfl rfl nP (.some rfl rfl nP (.some rfl rfl nP (.some rfl rfl nP (.some rfl rfl nP (.some rfl rfl nP (.none .nil))))))) (.cons rfl rfl nP (.cons rfl rfl nP .nil)) (.cons rfl (.fn .nil (.cons (.ptr rfl) (.cons (.ptr rfl) (.cons (.ptr rfl) .nil)))) (.cons rfl (.ptr rfl) (.cons rfl (.ptr rfl) (.cons rfl (.ptr rfl) (.cons rfl (.self rfl) (.cons rfl (.self rfl) (.cons rfl (.self rfl) .nil)))))))

set_option maxHeartbeats 1000000 in
theorem each_ok (r c : Nat) (hr : r ≤ 8) (hc : c ≤ 8) (hR : 0 < r) (hC : 0 < c) (A B : List Int) (hA : A.length = r * c) (hB : B.length = r * c) (fa fb : Bool) (kd : Nat) (D : Int → Int → Int × Bool) (hD : ∀ x ∈ A, ∀ y ∈ B, SoundC Try.prog kd [.int .i64 x, .int .i64 y] ⟨[], []⟩ { val := .tuple [.int .i64 (D x y).1, .bool (D x y).2] }) : SoundC Try.prog 71 [.agg [.int .i64 r, .int .i64 c, .sl (.r 0) 0 A.length 1 fa], .agg [.int .i64 r, .int .i64 c, .sl (.r 1) 0 B.length 1 fb], .func kd [] []] ⟨[ints A, ints B], []⟩ { val := .tuple [.agg [.int .i64 r, .int .i64 c, .sl (.o 0) 0 (zipM D A B r c).length 1 false], .bool (zipX D A B r c), .int .i64 0], newo := [ints (zipM D A B r c)] } := by
  refine SoundC.of (N := 26) Try.func71 rfl rfl rfl rfl ?_
  refine AW.seq ?_
  refine AW.region (by kernel_rfl) ?_
  refine RunF.w (o_box (nm := 0) rfl rfl rfl) nH ?_
  refine RunF.w (o_box (nm := 1) rfl rfl rfl) nH ?_
  refine RunF.w (o_box (nm := 2) rfl rfl rfl) nH ?_
  refine RunF.w (o_alloc (nm := 3) tz24 rfl) nH ?_
  refine RunF.q (o_assign rfl) rfl ?_
  refine RunF.q (o_assign rfl) rfl ?_
  refine AW.seq ?_
  refine AW.seq ?_
  refine AW.draws (by kernel_rfl) (by kernel_rfl) ?_
  refine RunV.q (o_load_agg rfl tk24 ts24 rfl rfl rfl nL) rfl ?_
  refine RunV.q (o_call (no := 4) (nr := 2) rfl rfl rfl nC (by rfl) (by exact of_ok r c A fa) (by rfl) rfl rfl nV rfl) (by rfl) ?_
  refine RunV.q (o_load_agg rfl tk24 ts24 rfl rfl rfl nL) rfl ?_
  refine RunV.q (o_call (no := 4) (nr := 2) rfl rfl rfl nC (by rfl) (by exact of_ok r c B fb) (by rfl) rfl rfl nV rfl) (by rfl) ?_
  refine RunV.q (o_nea (z := true) rfl rfl tk132 ko132 (by rw [eg132]; rfl) (by simp [eqCells])) rfl ?_
  refine And.intro (by kernel_rfl) ?_
  refine AW.cond rfl (fun hc0 => absurd hc0 (by simp)) (fun hc0 => ?_)
  refine AW.skip ?_
  refine AW.seq ?_
  refine AW.region (by kernel_rfl) ?_
  refine RunF.q (o_load_agg rfl tk24 ts24 rfl rfl rfl nL) rfl ?_
  refine RunF.q (o_call (no := 4) (nr := 2) rfl rfl rfl nC (by rfl) (by exact of_ok r c A fa) (by rfl) rfl rfl nV rfl) (by rfl) ?_
  refine RunF.q (o_makeFunc rfl rfl) rfl ?_
  refine RunF.w (o_call (no := 4) (nr := 2) rfl rfl rfl nC (by rfl) (by exact madeE_ok r c hr hc hR hC A B hA hB fa fb kd D hD) (by rfl) rfl rfl nV nE) nH ?_
  refine RunF.q (o_move rfl) rfl ?_
  refine RunF.q (o_extract rfl rfl) rfl ?_
  refine RunF.q (o_extract rfl rfl) rfl ?_
  refine RunF.w (o_alloc (nm := 5) tz24 rfl) nH ?_
  refine RunF.wn (o_store rfl rfl rfl ts24 rfl rfl) nH ?_
  refine RunF.q (o_assign rfl) rfl ?_
  refine AW.seq ?_
  refine AW.region (by kernel_rfl) ?_
  refine RunF.q (o_load_agg rfl tk24 ts24 rfl rfl rfl nL) rfl ?_
  refine RunF.q (o_move rfl) rfl ?_
  refine RunF.wn (o_store rfl rfl rfl ts24 rfl rfl) nH ?_
  refine RunF.q (o_assign rfl) rfl ?_
  refine RunF.q (o_assign rfl) rfl ?_
  refine AW.ret ?_
  exact FinQ.ret [4] [] (ress_agg rfl tk24 ts24 rfl rfl rfl (ress_tmp rfl (ress_tmp rfl ress_nil))) rfl (.some rfl rfl (PRN.flat (ints_flat _)) .nil) (.cons rfl rfl nP (.cons rfl rfl nP .nil)) nR

set_option maxHeartbeats 1000000 in
theorem each_no (r c r2 c2 : Nat) (A B : List Int) (fa fb : Bool) (hne : ¬ (r = r2 ∧ c = c2)) (kd : Nat) : SoundC Try.prog 71 [.agg [.int .i64 r, .int .i64 c, .sl (.r 0) 0 A.length 1 fa], .agg [.int .i64 r2, .int .i64 c2, .sl (.r 1) 0 B.length 1 fb], .func kd [] []] ⟨[ints A, ints B], []⟩ { val := .tuple [.agg [.int .i64 0, .int .i64 0, .nilsl], .bool false, .int .i64 9] } := by
  have hb : ((r : Int) == r2 && ((c : Int) == c2 && true)) = false := by simp; intro h; exact fun h2 => hne ⟨by omega, by omega⟩
  refine SoundC.of (N := 26) Try.func71 rfl rfl rfl rfl ?_
  refine AW.seq ?_
  refine AW.region (by kernel_rfl) ?_
  refine RunF.w (o_box (nm := 0) rfl rfl rfl) nH ?_
  refine RunF.w (o_box (nm := 1) rfl rfl rfl) nH ?_
  refine RunF.w (o_box (nm := 2) rfl rfl rfl) nH ?_
  refine RunF.w (o_alloc (nm := 3) tz24 rfl) nH ?_
  refine RunF.q (o_assign rfl) rfl ?_
  refine RunF.q (o_assign rfl) rfl ?_
  refine AW.seq ?_
  refine AW.seq ?_
  refine AW.draws (by kernel_rfl) (by kernel_rfl) ?_
  refine RunV.q (o_load_agg rfl tk24 ts24 rfl rfl rfl nL) rfl ?_
  refine RunV.q (o_call (no := 4) (nr := 2) rfl rfl rfl nC (by rfl) (by exact of_ok r c A fa) (by rfl) rfl rfl nV rfl) (by rfl) ?_
  refine RunV.q (o_load_agg rfl tk24 ts24 rfl rfl rfl nL) rfl ?_
  refine RunV.q (o_call (no := 4) (nr := 2) rfl rfl rfl nC (by rfl) (by exact of_ok r2 c2 B fb) (by rfl) rfl rfl nV rfl) (by rfl) ?_
  refine RunV.q (o_nea (z := false) rfl rfl tk132 ko132 (by rw [eg132]; rfl) (by simp only [eqCells, Option.map_some, if_true]; rw [hb])) rfl ?_
  refine And.intro (by kernel_rfl) ?_
  refine AW.cond rfl (fun hc0 => ?_) (fun hc0 => absurd hc0 (by simp))
  refine AW.seq ?_
  refine AW.region (by kernel_rfl) ?_
  refine RunF.q (o_build tk24 tz24 pl24 rfl rfl) rfl ?_
  refine RunF.wn (o_store rfl rfl rfl ts24 rfl rfl) nH ?_
  refine RunF.q (o_assign rfl) rfl ?_
  refine RunF.q (o_assign rfl) rfl ?_
  refine AW.ret ?_
  exact FinQ.ret [] [] (ress_agg rfl tk24 ts24 rfl rfl rfl (ress_tmp rfl (ress_tmp rfl ress_nil))) rfl .nil (.cons rfl rfl nP (.cons rfl rfl nP .nil)) nR

set_option maxHeartbeats 1000000 in
theorem madd_ok (r c : Nat) (hr : r ≤ 8) (hc : c ≤ 8) (hR : 0 < r) (hC : 0 < c) (A B : List Int) (hA : A.length = r * c) (hB : B.length = r * c) (fa fb : Bool) : SoundC Try.prog 26 [.agg [.int .i64 r, .int .i64 c, .sl (.r 0) 0 A.length 1 fa], .agg [.int .i64 r, .int .i64 c, .sl (.r 1) 0 B.length 1 fb]] ⟨[ints A, ints B], []⟩ { val := .tuple [.agg [.int .i64 r, .int .i64 c, .sl (.o 0) 0 (zipM addD A B r c).length 1 false], .bool (zipX addD A B r c), .int .i64 0], newo := [ints (zipM addD A B r c)] } := by
  refine SoundC.of (N := 13) Try.func26 rfl rfl rfl rfl ?_
  refine AW.seq ?_
  refine AW.region (by kernel_rfl) ?_
  refine RunF.w (o_box (nm := 0) rfl rfl rfl) nH ?_
  refine RunF.w (o_box (nm := 1) rfl rfl rfl) nH ?_
  refine RunF.w (o_alloc (nm := 2) tz24 rfl) nH ?_
  refine RunF.q (o_assign rfl) rfl ?_
  refine RunF.q (o_assign rfl) rfl ?_
  refine AW.seq ?_
  refine AW.region (by kernel_rfl) ?_
  refine RunF.q (o_load_agg rfl tk24 ts24 rfl rfl rfl nL) rfl ?_
  refine RunF.q (o_load_agg rfl tk24 ts24 rfl rfl rfl nL) rfl ?_
  refine RunF.w (o_call (no := 3) (nr := 2) rfl rfl rfl nC (by rfl) (by exact each_ok r c hr hc hR hC A B hA hB fa fb _ addD (fun x _ y _ => add_ok x y)) (by rfl) rfl rfl nV nE) nH ?_
  refine RunF.q (o_extract rfl rfl) rfl ?_
  refine RunF.q (o_extract rfl rfl) rfl ?_
  refine RunF.q (o_extract rfl rfl) rfl ?_
  refine RunF.wn (o_store rfl rfl rfl ts24 rfl rfl) nH ?_
  refine RunF.q (o_assign rfl) rfl ?_
  refine RunF.q (o_assign rfl) rfl ?_
  refine AW.ret ?_
  exact FinQ.ret [3] [] (ress_agg rfl tk24 ts24 rfl rfl rfl (ress_tmp rfl (ress_tmp rfl ress_nil))) rfl (.some rfl rfl (PRN.flat (ints_flat _)) .nil) (.cons rfl rfl nP (.cons rfl rfl nP .nil)) nR

set_option maxHeartbeats 1000000 in
theorem msub_ok (r c : Nat) (hr : r ≤ 8) (hc : c ≤ 8) (hR : 0 < r) (hC : 0 < c) (A B : List Int) (hA : A.length = r * c) (hB : B.length = r * c) (fa fb : Bool) : SoundC Try.prog 27 [.agg [.int .i64 r, .int .i64 c, .sl (.r 0) 0 A.length 1 fa], .agg [.int .i64 r, .int .i64 c, .sl (.r 1) 0 B.length 1 fb]] ⟨[ints A, ints B], []⟩ { val := .tuple [.agg [.int .i64 r, .int .i64 c, .sl (.o 0) 0 (zipM subD A B r c).length 1 false], .bool (zipX subD A B r c), .int .i64 0], newo := [ints (zipM subD A B r c)] } := by
  refine SoundC.of (N := 13) Try.func27 rfl rfl rfl rfl ?_
  refine AW.seq ?_
  refine AW.region (by kernel_rfl) ?_
  refine RunF.w (o_box (nm := 0) rfl rfl rfl) nH ?_
  refine RunF.w (o_box (nm := 1) rfl rfl rfl) nH ?_
  refine RunF.w (o_alloc (nm := 2) tz24 rfl) nH ?_
  refine RunF.q (o_assign rfl) rfl ?_
  refine RunF.q (o_assign rfl) rfl ?_
  refine AW.seq ?_
  refine AW.region (by kernel_rfl) ?_
  refine RunF.q (o_load_agg rfl tk24 ts24 rfl rfl rfl nL) rfl ?_
  refine RunF.q (o_load_agg rfl tk24 ts24 rfl rfl rfl nL) rfl ?_
  refine RunF.w (o_call (no := 3) (nr := 2) rfl rfl rfl nC (by rfl) (by exact each_ok r c hr hc hR hC A B hA hB fa fb _ subD (fun x _ y _ => sub_ok x y)) (by rfl) rfl rfl nV nE) nH ?_
  refine RunF.q (o_extract rfl rfl) rfl ?_
  refine RunF.q (o_extract rfl rfl) rfl ?_
  refine RunF.q (o_extract rfl rfl) rfl ?_
  refine RunF.wn (o_store rfl rfl rfl ts24 rfl rfl) nH ?_
  refine RunF.q (o_assign rfl) rfl ?_
  refine RunF.q (o_assign rfl) rfl ?_
  refine AW.ret ?_
  exact FinQ.ret [3] [] (ress_agg rfl tk24 ts24 rfl rfl rfl (ress_tmp rfl (ress_tmp rfl ress_nil))) rfl (.some rfl rfl (PRN.flat (ints_flat _)) .nil) (.cons rfl rfl nP (.cons rfl rfl nP .nil)) nR

end Go.Proofs.Ytnkijhpikeokfaa

/- The product of two numbers of 64 bits; products of numbers in bounds. -/
namespace Go.Proofs.Ytnkijhpikeokfaa
open Go Go.Sym Go.IntWalk

theorem bv_and_nat (a b : Nat) (ha : a < 18446744073709551616) (hb : b < 18446744073709551616) : ((BitVec.ofInt 64 (a : Int) &&& BitVec.ofInt 64 (b : Int)).toNat) = a &&& b := by
  rw [BitVec.toNat_and, BitVec.toNat_ofInt, BitVec.toNat_ofInt]
  have e1 : ((a : Int) % ((2 ^ 64 : Nat) : Int)).toNat = a := by omega
  have e2 : ((b : Int) % ((2 ^ 64 : Nat) : Int)).toNat = b := by omega
  rw [e1, e2]
theorem bv_or_nat (a b : Nat) (ha : a < 18446744073709551616) (hb : b < 18446744073709551616) : ((BitVec.ofInt 64 (a : Int) ||| BitVec.ofInt 64 (b : Int)).toNat) = a ||| b := by
  rw [BitVec.toNat_or, BitVec.toNat_ofInt, BitVec.toNat_ofInt]
  have e1 : ((a : Int) % ((2 ^ 64 : Nat) : Int)).toNat = a := by omega
  have e2 : ((b : Int) % ((2 ^ 64 : Nat) : Int)).toNat = b := by omega
  rw [e1, e2]
theorem u64n (a : Nat) (ha : a < 18446744073709551616) : IntKind.u64.wrap (a : Int) = (a : Int) := by rw [IntKind.wrap_u64]; omega
theorem mask32 (a : Nat) (ha : a < 18446744073709551616) : IntKind.u64.wrap ((BitVec.ofInt IntKind.u64.bits (a : Int) &&& BitVec.ofInt IntKind.u64.bits 4294967295).toNat : Int) = ((a % 4294967296 : Nat) : Int) := by
  have h := bv_and_nat a 4294967295 ha (by omega)
  have e : a &&& 4294967295 = a % 4294967296 := Nat.and_two_pow_sub_one_eq_mod a 32
  rw [e] at h
  have h2 : (BitVec.ofInt IntKind.u64.bits (a : Int) &&& BitVec.ofInt IntKind.u64.bits 4294967295).toNat = a % 4294967296 := h
  rw [h2]
  exact u64n _ (by omega)
theorem shr32 (a : Nat) : (a : Int).fdiv (2 ^ (min (32 : Int).toNat IntKind.u64.bits)) = ((a / 4294967296 : Nat) : Int) := by
  rw [Int.fdiv_eq_ediv_of_nonneg _ (by decide)]
  show (a : Int) / 4294967296 = _
  omega
theorem mulN (a b : Nat) (h : a * b < 18446744073709551616) : IntKind.u64.wrap ((a : Int) * (b : Int)) = ((a * b : Nat) : Int) := by
  rw [← Int.natCast_mul]; exact u64n _ h
theorem addN (a b : Nat) (h : a + b < 18446744073709551616) : IntKind.u64.wrap ((a : Int) + (b : Int)) = ((a + b : Nat) : Int) := by
  rw [← Int.natCast_add]; exact u64n _ h
theorem mulM (a b : Nat) : IntKind.u64.wrap ((a : Int) * (b : Int)) = ((a * b % 18446744073709551616 : Nat) : Int) := by
  rw [← Int.natCast_mul, IntKind.wrap_u64]; omega

set_option maxHeartbeats 1000000 in
theorem mul64_ok (x y : Nat) (hx : x < 18446744073709551616) (hy : y < 18446744073709551616) : SoundC Try.prog 118 [.int .u64 x, .int .u64 y] ⟨[], []⟩ { val := .tuple [.int .u64 ((x * y / 18446744073709551616 : Nat) : Int), .int .u64 ((x * y % 18446744073709551616 : Nat) : Int)] } := by
  obtain ⟨bd, bt, bw, hhi⟩ := Lib.mul64_hi x y hx hy
  have ba := Lib.half_mul_le (a := x / 4294967296) (b := y / 4294967296) (by omega) (by omega)
  have bb := Lib.half_mul_le (a := x / 4294967296) (b := y % 4294967296) (by omega) (by omega)
  have bc := Lib.half_mul_le (a := x % 4294967296) (b := y / 4294967296) (by omega) (by omega)
  refine SoundC.of (N := 51) Try.func118 rfl rfl rfl rfl ?_
  refine AW.seq ?_
  refine AW.region (by kernel_rfl) ?_
  refine RunF.q (o_assign rfl) rfl ?_
  refine RunF.q (o_assign rfl) rfl ?_
  refine AW.seq ?_
  refine AW.region (by kernel_rfl) ?_
  refine RunF.q (o_move rfl) rfl ?_
  refine RunF.q (o_and rfl rfl (mask32 x hx)) rfl ?_
  refine RunF.q (o_assign rfl) rfl ?_
  refine AW.seq ?_
  refine AW.region (by kernel_rfl) ?_
  refine RunF.q (o_move rfl) rfl ?_
  refine RunF.q (o_shr rfl rfl (by decide) (shr32 x)) rfl ?_
  refine RunF.q (o_assign rfl) rfl ?_
  refine AW.seq ?_
  refine AW.region (by kernel_rfl) ?_
  refine RunF.q (o_move rfl) rfl ?_
  refine RunF.q (o_and rfl rfl (mask32 y hy)) rfl ?_
  refine RunF.q (o_assign rfl) rfl ?_
  refine AW.seq ?_
  refine AW.region (by kernel_rfl) ?_
  refine RunF.q (o_move rfl) rfl ?_
  refine RunF.q (o_shr rfl rfl (by decide) (shr32 y)) rfl ?_
  refine RunF.q (o_assign rfl) rfl ?_
  refine AW.seq ?_
  refine AW.region (by kernel_rfl) ?_
  refine RunF.q (o_move rfl) rfl ?_
  refine RunF.q (o_move rfl) rfl ?_
  refine RunF.q (o_mul rfl rfl (mulN (x % 4294967296) (y % 4294967296) bd)) rfl ?_
  refine RunF.q (o_assign rfl) rfl ?_
  refine AW.seq ?_
  refine AW.region (by kernel_rfl) ?_
  refine RunF.q (o_move rfl) rfl ?_
  refine RunF.q (o_move rfl) rfl ?_
  refine RunF.q (o_mul rfl rfl (mulN (x / 4294967296) (y % 4294967296) (by omega))) rfl ?_
  refine RunF.q (o_move rfl) rfl ?_
  refine RunF.q (o_shr rfl rfl (by decide) (shr32 ((x % 4294967296) * (y % 4294967296)))) rfl ?_
  refine RunF.q (o_add rfl rfl (addN _ _ bt)) rfl ?_
  refine RunF.q (o_assign rfl) rfl ?_
  refine AW.seq ?_
  refine AW.region (by kernel_rfl) ?_
  refine RunF.q (o_move rfl) rfl ?_
  refine RunF.q (o_and rfl rfl (mask32 ((x / 4294967296) * (y % 4294967296) + ((x % 4294967296) * (y % 4294967296)) / 4294967296) bt)) rfl ?_
  refine RunF.q (o_assign rfl) rfl ?_
  refine AW.seq ?_
  refine AW.region (by kernel_rfl) ?_
  refine RunF.q (o_move rfl) rfl ?_
  refine RunF.q (o_shr rfl rfl (by decide) (shr32 ((x / 4294967296) * (y % 4294967296) + ((x % 4294967296) * (y % 4294967296)) / 4294967296))) rfl ?_
  refine RunF.q (o_assign rfl) rfl ?_
  refine AW.seq ?_
  refine AW.region (by kernel_rfl) ?_
  refine RunF.q (o_move rfl) rfl ?_
  refine RunF.q (o_move rfl) rfl ?_
  refine RunF.q (o_move rfl) rfl ?_
  refine RunF.q (o_mul rfl rfl (mulN (x % 4294967296) (y / 4294967296) (by omega))) rfl ?_
  refine RunF.q (o_add rfl rfl (addN _ _ bw)) rfl ?_
  refine RunF.q (o_assign rfl) rfl ?_
  refine AW.seq ?_
  refine AW.region (by kernel_rfl) ?_
  refine RunF.q (o_move rfl) rfl ?_
  refine RunF.q (o_move rfl) rfl ?_
  refine RunF.q (o_mul rfl rfl (mulN (x / 4294967296) (y / 4294967296) (by omega))) rfl ?_
  refine RunF.q (o_move rfl) rfl ?_
  refine RunF.q (o_add rfl rfl (addN _ _ (by omega))) rfl ?_
  refine RunF.q (o_move rfl) rfl ?_
  refine RunF.q (o_shr rfl rfl (by decide) (shr32 ((((x / 4294967296) * (y % 4294967296) + ((x % 4294967296) * (y % 4294967296)) / 4294967296) % 4294967296) + (x % 4294967296) * (y / 4294967296)))) rfl ?_
  refine RunF.q (o_add rfl rfl ((addN _ _ (by omega)).trans (congrArg _ hhi))) rfl ?_
  refine RunF.q (o_assign rfl) rfl ?_
  refine AW.seq ?_
  refine AW.region (by kernel_rfl) ?_
  refine RunF.q (o_move rfl) rfl ?_
  refine RunF.q (o_move rfl) rfl ?_
  refine RunF.q (o_mul rfl rfl (mulM x y)) rfl ?_
  refine RunF.q (o_assign rfl) rfl ?_
  refine AW.ret ?_
  exact FinQ.ret [] [] (ress_tmp rfl (ress_tmp rfl ress_nil)) rfl (by first | exact RowsO.nil | skip) (by first | exact RowsR.nil | skip) nR


/-- a product's size without its 24 bits behind the point: to the nearest, halves to the even one -/
def rnd24 (n : Nat) : Nat := if 8388608 < n % 16777216 ∨ (n % 16777216 = 8388608 ∧ n / 16777216 % 2 = 1) then n / 16777216 + 1 else n / 16777216
def mulN2 (a b : Int) : Nat := rnd24 ((clampQ a).natAbs * (clampQ b).natAbs)
def mulZ (a b : Int) : Bool := decide (clampQ a < 0) != decide (clampQ b < 0)
def mulQ (a b : Int) : Int := signedQ ((mulN2 a b / 18446744073709551616 : Nat) : Int) ((mulN2 a b % 18446744073709551616 : Nat) : Int) (mulZ a b)
def mulF (a b : Int) : Bool := both2 a b || signedF ((mulN2 a b / 18446744073709551616 : Nat) : Int) ((mulN2 a b % 18446744073709551616 : Nat) : Int) (mulZ a b)

theorem mask24 (a : Nat) (ha : a < 18446744073709551616) : IntKind.u64.wrap ((BitVec.ofInt IntKind.u64.bits (a : Int) &&& BitVec.ofInt IntKind.u64.bits 16777215).toNat : Int) = ((a % 16777216 : Nat) : Int) := by
  have h := bv_and_nat a 16777215 ha (by omega)
  have e : a &&& 16777215 = a % 16777216 := Nat.and_two_pow_sub_one_eq_mod a 24
  rw [e] at h
  have h2 : (BitVec.ofInt IntKind.u64.bits (a : Int) &&& BitVec.ofInt IntKind.u64.bits 16777215).toNat = a % 16777216 := h
  rw [h2]
  exact u64n _ (by omega)
theorem mask1 (a : Nat) (ha : a < 18446744073709551616) : IntKind.u64.wrap ((BitVec.ofInt IntKind.u64.bits (a : Int) &&& BitVec.ofInt IntKind.u64.bits 1).toNat : Int) = ((a % 2 : Nat) : Int) := by
  have h := bv_and_nat a 1 ha (by omega)
  have e : a &&& 1 = a % 2 := Nat.and_two_pow_sub_one_eq_mod a 1
  rw [e] at h
  have h2 : (BitVec.ofInt IntKind.u64.bits (a : Int) &&& BitVec.ofInt IntKind.u64.bits 1).toNat = a % 2 := h
  rw [h2]
  exact u64n _ (by omega)
theorem shr24 (a : Nat) : (a : Int).fdiv (2 ^ (min (24 : Int).toNat IntKind.u64.bits)) = ((a / 16777216 : Nat) : Int) := by
  rw [Int.fdiv_eq_ediv_of_nonneg _ (by decide)]
  show (a : Int) / 16777216 = _
  omega
theorem shl40 (a : Nat) : IntKind.u64.wrap ((a : Int) * 2 ^ (min (40 : Int).toNat IntKind.u64.bits)) = ((a % 16777216 * 1099511627776 : Nat) : Int) := by
  show IntKind.u64.wrap ((a : Int) * 1099511627776) = _
  rw [IntKind.wrap_u64]; omega
theorem or40 (lo hi : Nat) (hl : lo < 1099511627776) (hh : hi < 16777216) : IntKind.u64.wrap ((BitVec.ofInt IntKind.u64.bits (lo : Int) ||| BitVec.ofInt IntKind.u64.bits ((hi * 1099511627776 : Nat) : Int)).toNat : Int) = ((hi * 1099511627776 + lo : Nat) : Int) := by
  have h := bv_or_nat lo (hi * 1099511627776) (by omega) (by omega)
  have e : lo ||| hi * 1099511627776 = hi * 1099511627776 + lo := by
    rw [Nat.or_comm, Nat.mul_comm]
    exact (Nat.two_pow_add_eq_or_of_lt (i := 40) (by simpa using hl) hi).symm
  rw [e] at h
  have h2 : (BitVec.ofInt IntKind.u64.bits (lo : Int) ||| BitVec.ofInt IntKind.u64.bits ((hi * 1099511627776 : Nat) : Int)).toNat = hi * 1099511627776 + lo := h
  rw [h2]
  exact u64n _ (by omega)
theorem parts (n : Nat) (hn : n ≤ 4951760157141521099596496896) : n % 18446744073709551616 % 16777216 = n % 16777216 ∧ n / 18446744073709551616 % 16777216 * 1099511627776 + n % 18446744073709551616 / 16777216 = n / 16777216 % 18446744073709551616 ∧
    n / 18446744073709551616 / 16777216 = n / 16777216 / 18446744073709551616 := by omega

theorem mul_small {x y : Nat} (hx : x ≤ 70368744177664) (hy : y ≤ 70368744177664) : x * y ≤ 4951760157141521099596496896 := Nat.mul_le_mul hx hy
theorem inc64 (q : Nat) : IntKind.u64.wrap (((q % 18446744073709551616 : Nat) : Int) + 1) = (((q + 1) % 18446744073709551616 : Nat) : Int) := by
  rw [IntKind.wrap_u64]; omega
theorem inc64h (q : Nat) (h : (((q + 1) % 18446744073709551616 : Nat) : Int) = 0) (hq : q ≤ 295147905179352825856) : IntKind.u64.wrap (((q / 18446744073709551616 : Nat) : Int) + 1) = (((q + 1) / 18446744073709551616 : Nat) : Int) := by
  rw [IntKind.wrap_u64]; omega
theorem noinc (q : Nat) (h : ¬ (((q + 1) % 18446744073709551616 : Nat) : Int) = 0) : q / 18446744073709551616 = (q + 1) / 18446744073709551616 := by omega

set_option maxHeartbeats 1000000 in
theorem mul_ok (a b : Int) : SoundC Try.prog 81 [.int .i64 a, .int .i64 b] ⟨[], []⟩ { val := .tuple [.int .i64 (mulQ a b), .bool (mulF a b)] } := by
  have ha := clampQ_in a
  have hb := clampQ_in b
  have hn : ((clampQ a).natAbs * (clampQ b).natAbs) ≤ 4951760157141521099596496896 := mul_small (by omega) (by omega)
  obtain ⟨p1, p2, p3⟩ := parts _ hn
  have hq : (((clampQ a).natAbs * (clampQ b).natAbs) / 16777216) ≤ 295147905179352825856 := by omega
  refine SoundC.of (N := 69) Try.func81 rfl rfl rfl rfl ?_
  refine AW.seq ?_
  refine AW.region (by kernel_rfl) ?_
  refine RunF.q (o_assign rfl) rfl ?_
  refine RunF.q (o_assign rfl) rfl ?_
  refine AW.seq ?_
  refine AW.region (by kernel_rfl) ?_
  refine RunF.q (o_move rfl) rfl ?_
  refine RunF.q (o_move rfl) rfl ?_
  refine RunF.q (o_call (no := 0) (nr := 0) rfl rfl rfl nC (by rfl) (by exact both_ok a b) (by rfl) rfl rfl nV rfl) (by rfl) ?_
  refine RunF.q (o_move rfl) rfl ?_
  refine RunF.q (o_extract rfl rfl) rfl ?_
  refine RunF.q (o_extract rfl rfl) rfl ?_
  refine RunF.q (o_extract rfl rfl) rfl ?_
  refine RunF.q (o_assign rfl) rfl ?_
  refine RunF.q (o_assign rfl) rfl ?_
  refine RunF.q (o_assign rfl) rfl ?_
  refine AW.seq ?_
  refine AW.region (by kernel_rfl) ?_
  refine RunF.q (o_move rfl) rfl ?_
  refine RunF.q (o_call (no := 0) (nr := 0) rfl rfl rfl nC (by rfl) (by exact size_ok _ (by omega)) (by rfl) rfl rfl nV rfl) (by rfl) ?_
  refine RunF.q (o_move rfl) rfl ?_
  refine RunF.q (o_call (no := 0) (nr := 0) rfl rfl rfl nC (by rfl) (by exact size_ok _ (by omega)) (by rfl) rfl rfl nV rfl) (by rfl) ?_
  refine RunF.q (o_call (no := 0) (nr := 0) rfl rfl rfl nC (by rfl) (by exact mul64_ok (clampQ a).natAbs (clampQ b).natAbs (by omega) (by omega)) (by rfl) rfl rfl nV rfl) (by rfl) ?_
  refine RunF.q (o_move rfl) rfl ?_
  refine RunF.q (o_extract rfl rfl) rfl ?_
  refine RunF.q (o_extract rfl rfl) rfl ?_
  refine RunF.q (o_assign rfl) rfl ?_
  refine RunF.q (o_assign rfl) rfl ?_
  refine AW.seq ?_
  refine AW.region (by kernel_rfl) ?_
  refine RunF.q (o_move rfl) rfl ?_
  refine RunF.q (o_and (m := ((((clampQ a).natAbs * (clampQ b).natAbs) % 16777216 : Nat) : Int)) rfl rfl (by rw [mask24 _ (by omega), p1])) rfl ?_
  refine RunF.q (o_assign rfl) rfl ?_
  refine AW.seq ?_
  refine AW.region (by kernel_rfl) ?_
  refine RunF.q (o_move rfl) rfl ?_
  refine RunF.q (o_shr rfl rfl (by decide) (shr24 _)) rfl ?_
  refine RunF.q (o_move rfl) rfl ?_
  refine RunF.q (o_shl rfl rfl (by decide) (shl40 _)) rfl ?_
  refine RunF.q (o_or (m := (((((clampQ a).natAbs * (clampQ b).natAbs) / 16777216) % 18446744073709551616 : Nat) : Int)) rfl rfl (by rw [or40 _ _ (by omega) (by omega), p2])) rfl ?_
  refine RunF.q (o_assign rfl) rfl ?_
  refine AW.seq ?_
  refine AW.region (by kernel_rfl) ?_
  refine RunF.q (o_move rfl) rfl ?_
  refine RunF.q (o_shr (m := (((((clampQ a).natAbs * (clampQ b).natAbs) / 16777216) / 18446744073709551616 : Nat) : Int)) rfl rfl (by decide) (by rw [shr24, p3])) rfl ?_
  refine RunF.q (o_assign rfl) rfl ?_
  refine AW.seq ?_
  refine AW.seq ?_
  refine AW.region (by kernel_rfl) ?_
  refine RunF.q (o_move rfl) rfl ?_
  refine RunF.q (o_gtr rfl rfl) rfl ?_
  refine RunF.br (o_move rfl) rfl (fun hb6_2 => ?_) (fun hb6_2 => ?_)
  · try simp only [decide_eq_true_eq, decide_eq_false_iff_not, bne_iff_ne, beq_iff_eq, bne_eq_false_iff_eq, beq_eq_false_iff_ne, ne_eq, Bool.not_eq_true', Bool.not_eq_false'] at hb6_2
    refine RunF.gs (b := true) rfl rfl ?_
    refine RunF.gs (b := true) rfl rfl ?_
    refine RunF.gs (b := true) rfl rfl ?_
    refine RunF.gt rfl ?_
    refine RunF.gt rfl ?_
    refine RunF.gt rfl ?_
    refine RunF.gs (b := true) rfl rfl ?_
    refine RunF.q (o_pick_t rfl rfl) rfl ?_
    refine AW.cond rfl (fun hc0 => ?_) (fun hc0 => absurd hc0 (by simp))
    have eM : mulN2 a b = (((clampQ a).natAbs * (clampQ b).natAbs) / 16777216) + 1 := by unfold mulN2 rnd24; rw [if_pos (by omega)]
    refine AW.seq ?_
    refine AW.region (by kernel_rfl) ?_
    refine RunF.q (o_move rfl) rfl ?_
    refine RunF.q (o_add rfl rfl (inc64 _)) rfl ?_
    refine RunF.q (o_assign rfl) rfl ?_
    refine AW.seq ?_
    refine AW.region (by kernel_rfl) ?_
    refine RunF.q (o_move rfl) rfl ?_
    refine RunF.q (o_eql rfl rfl) rfl ?_
    refine AW.cond rfl (fun hc1 => ?_) (fun hc1 => ?_)
    · try simp only [decide_eq_true_eq, decide_eq_false_iff_not, bne_iff_ne, beq_iff_eq, bne_eq_false_iff_eq, beq_eq_false_iff_ne, ne_eq, Bool.not_eq_true', Bool.not_eq_false'] at hc1
      have e1 : mulQ a b = signedQ ((((((clampQ a).natAbs * (clampQ b).natAbs) / 16777216) + 1) / 18446744073709551616 : Nat) : Int) ((((((clampQ a).natAbs * (clampQ b).natAbs) / 16777216) + 1) % 18446744073709551616 : Nat) : Int) (mulZ a b) := by unfold mulQ; rw [eM]
      have e2 : mulF a b = (both2 a b || signedF ((((((clampQ a).natAbs * (clampQ b).natAbs) / 16777216) + 1) / 18446744073709551616 : Nat) : Int) ((((((clampQ a).natAbs * (clampQ b).natAbs) / 16777216) + 1) % 18446744073709551616 : Nat) : Int) (mulZ a b)) := by unfold mulF; rw [eM]
      refine AW.region (by kernel_rfl) ?_
      refine RunF.q (o_move rfl) rfl ?_
      refine RunF.q (o_add rfl rfl (inc64h _ hc1 hq)) rfl ?_
      refine RunF.q (o_assign rfl) rfl ?_
      refine AW.seq ?_
      refine AW.region (by kernel_rfl) ?_
      refine RunF.q (o_move rfl) rfl ?_
      refine RunF.q (o_move rfl) rfl ?_
      refine RunF.q (o_move rfl) rfl ?_
      refine RunF.q (o_lss rfl rfl) rfl ?_
      refine RunF.q (o_move rfl) rfl ?_
      refine RunF.q (o_lss rfl rfl) rfl ?_
      refine RunF.q (o_neb tk4 rfl rfl) rfl ?_
      refine RunF.q (o_call (no := 0) (nr := 0) rfl rfl rfl nC (by rfl) (by exact signed_ok _ _ _ (by omega)) (by rfl) rfl rfl nV rfl) (by rfl) ?_
      refine RunF.q (o_move rfl) rfl ?_
      refine RunF.q (o_extract rfl rfl) rfl ?_
      refine RunF.q (o_extract rfl rfl) rfl ?_
      refine RunF.q (o_assign rfl) rfl ?_
      refine RunF.q (o_assign rfl) rfl ?_
      refine AW.seq ?_
      refine AW.region (by kernel_rfl) ?_
      refine RunF.q (o_move rfl) rfl ?_
      refine RunF.q (o_move rfl) rfl ?_
      refine RunF.q (o_move rfl) rfl ?_
      refine RunF.gm rfl (o_move rfl) ?_
      first | refine RunF.q (o_pick_t rfl rfl) rfl ?_ | refine RunF.q (o_pick_f rfl rfl) rfl ?_ | refine RunF.q (o_pick_b rfl rfl rfl) rfl ?_ | refine RunF.q (o_pick_or rfl rfl rfl) rfl ?_ | refine RunF.q (o_pick_and rfl rfl rfl) rfl ?_
      refine RunF.q (o_assign rfl) rfl ?_
      refine RunF.q (o_assign rfl) rfl ?_
      refine AW.ret ?_
      exact FinQ.ret [] [] (ress_tmp rfl (ress_tmp rfl ress_nil)) rfl .nil .nil (by rw [e1, e2]; exact nR)
    · try simp only [decide_eq_true_eq, decide_eq_false_iff_not, bne_iff_ne, beq_iff_eq, bne_eq_false_iff_eq, beq_eq_false_iff_ne, ne_eq, Bool.not_eq_true', Bool.not_eq_false'] at hc1
      have e1 : mulQ a b = signedQ (((((clampQ a).natAbs * (clampQ b).natAbs) / 16777216) / 18446744073709551616 : Nat) : Int) ((((((clampQ a).natAbs * (clampQ b).natAbs) / 16777216) + 1) % 18446744073709551616 : Nat) : Int) (mulZ a b) := by unfold mulQ; rw [eM, ← noinc _ hc1]
      have e2 : mulF a b = (both2 a b || signedF (((((clampQ a).natAbs * (clampQ b).natAbs) / 16777216) / 18446744073709551616 : Nat) : Int) ((((((clampQ a).natAbs * (clampQ b).natAbs) / 16777216) + 1) % 18446744073709551616 : Nat) : Int) (mulZ a b)) := by unfold mulF; rw [eM, ← noinc _ hc1]
      refine AW.skip ?_
      refine AW.seq ?_
      refine AW.region (by kernel_rfl) ?_
      refine RunF.q (o_move rfl) rfl ?_
      refine RunF.q (o_move rfl) rfl ?_
      refine RunF.q (o_move rfl) rfl ?_
      refine RunF.q (o_lss rfl rfl) rfl ?_
      refine RunF.q (o_move rfl) rfl ?_
      refine RunF.q (o_lss rfl rfl) rfl ?_
      refine RunF.q (o_neb tk4 rfl rfl) rfl ?_
      refine RunF.q (o_call (no := 0) (nr := 0) rfl rfl rfl nC (by rfl) (by exact signed_ok _ _ _ (by omega)) (by rfl) rfl rfl nV rfl) (by rfl) ?_
      refine RunF.q (o_move rfl) rfl ?_
      refine RunF.q (o_extract rfl rfl) rfl ?_
      refine RunF.q (o_extract rfl rfl) rfl ?_
      refine RunF.q (o_assign rfl) rfl ?_
      refine RunF.q (o_assign rfl) rfl ?_
      refine AW.seq ?_
      refine AW.region (by kernel_rfl) ?_
      refine RunF.q (o_move rfl) rfl ?_
      refine RunF.q (o_move rfl) rfl ?_
      refine RunF.q (o_move rfl) rfl ?_
      refine RunF.gm rfl (o_move rfl) ?_
      first | refine RunF.q (o_pick_t rfl rfl) rfl ?_ | refine RunF.q (o_pick_f rfl rfl) rfl ?_ | refine RunF.q (o_pick_b rfl rfl rfl) rfl ?_ | refine RunF.q (o_pick_or rfl rfl rfl) rfl ?_ | refine RunF.q (o_pick_and rfl rfl rfl) rfl ?_
      refine RunF.q (o_assign rfl) rfl ?_
      refine RunF.q (o_assign rfl) rfl ?_
      refine AW.ret ?_
      exact FinQ.ret [] [] (ress_tmp rfl (ress_tmp rfl ress_nil)) rfl .nil .nil (by rw [e1, e2]; exact nR)
  · try simp only [decide_eq_true_eq, decide_eq_false_iff_not, bne_iff_ne, beq_iff_eq, bne_eq_false_iff_eq, beq_eq_false_iff_ne, ne_eq, Bool.not_eq_true', Bool.not_eq_false'] at hb6_2
    refine RunF.gq rfl (o_move rfl) rfl ?_
    refine RunF.gq rfl (o_eql rfl rfl) rfl ?_
    refine RunF.gb rfl (o_move rfl) rfl (fun hb6_5 => ?_) (fun hb6_5 => ?_)
    · try simp only [decide_eq_true_eq, decide_eq_false_iff_not, bne_iff_ne, beq_iff_eq, bne_eq_false_iff_eq, beq_eq_false_iff_ne, ne_eq, Bool.not_eq_true', Bool.not_eq_false'] at hb6_5
      refine RunF.gq rfl (o_move rfl) rfl ?_
      refine RunF.gq rfl (o_and rfl rfl (mask1 _ (by omega))) rfl ?_
      refine RunF.gq rfl (o_eql rfl rfl) rfl ?_
      refine RunF.gq rfl (o_pick_t rfl rfl) rfl ?_
      refine RunF.q (o_pick_f rfl rfl) rfl ?_
      refine AW.cond rfl (fun hc0 => ?_) (fun hc0 => ?_)
      · try simp only [decide_eq_true_eq, decide_eq_false_iff_not, bne_iff_ne, beq_iff_eq, bne_eq_false_iff_eq, beq_eq_false_iff_ne, ne_eq, Bool.not_eq_true', Bool.not_eq_false'] at hc0
        have eM : mulN2 a b = (((clampQ a).natAbs * (clampQ b).natAbs) / 16777216) + 1 := by unfold mulN2 rnd24; rw [if_pos (by omega)]
        refine AW.seq ?_
        refine AW.region (by kernel_rfl) ?_
        refine RunF.q (o_move rfl) rfl ?_
        refine RunF.q (o_add rfl rfl (inc64 _)) rfl ?_
        refine RunF.q (o_assign rfl) rfl ?_
        refine AW.seq ?_
        refine AW.region (by kernel_rfl) ?_
        refine RunF.q (o_move rfl) rfl ?_
        refine RunF.q (o_eql rfl rfl) rfl ?_
        refine AW.cond rfl (fun hc1 => ?_) (fun hc1 => ?_)
        · try simp only [decide_eq_true_eq, decide_eq_false_iff_not, bne_iff_ne, beq_iff_eq, bne_eq_false_iff_eq, beq_eq_false_iff_ne, ne_eq, Bool.not_eq_true', Bool.not_eq_false'] at hc1
          have e1 : mulQ a b = signedQ ((((((clampQ a).natAbs * (clampQ b).natAbs) / 16777216) + 1) / 18446744073709551616 : Nat) : Int) ((((((clampQ a).natAbs * (clampQ b).natAbs) / 16777216) + 1) % 18446744073709551616 : Nat) : Int) (mulZ a b) := by unfold mulQ; rw [eM]
          have e2 : mulF a b = (both2 a b || signedF ((((((clampQ a).natAbs * (clampQ b).natAbs) / 16777216) + 1) / 18446744073709551616 : Nat) : Int) ((((((clampQ a).natAbs * (clampQ b).natAbs) / 16777216) + 1) % 18446744073709551616 : Nat) : Int) (mulZ a b)) := by unfold mulF; rw [eM]
          refine AW.region (by kernel_rfl) ?_
          refine RunF.q (o_move rfl) rfl ?_
          refine RunF.q (o_add rfl rfl (inc64h _ hc1 hq)) rfl ?_
          refine RunF.q (o_assign rfl) rfl ?_
          refine AW.seq ?_
          refine AW.region (by kernel_rfl) ?_
          refine RunF.q (o_move rfl) rfl ?_
          refine RunF.q (o_move rfl) rfl ?_
          refine RunF.q (o_move rfl) rfl ?_
          refine RunF.q (o_lss rfl rfl) rfl ?_
          refine RunF.q (o_move rfl) rfl ?_
          refine RunF.q (o_lss rfl rfl) rfl ?_
          refine RunF.q (o_neb tk4 rfl rfl) rfl ?_
          refine RunF.q (o_call (no := 0) (nr := 0) rfl rfl rfl nC (by rfl) (by exact signed_ok _ _ _ (by omega)) (by rfl) rfl rfl nV rfl) (by rfl) ?_
          refine RunF.q (o_move rfl) rfl ?_
          refine RunF.q (o_extract rfl rfl) rfl ?_
          refine RunF.q (o_extract rfl rfl) rfl ?_
          refine RunF.q (o_assign rfl) rfl ?_
          refine RunF.q (o_assign rfl) rfl ?_
          refine AW.seq ?_
          refine AW.region (by kernel_rfl) ?_
          refine RunF.q (o_move rfl) rfl ?_
          refine RunF.q (o_move rfl) rfl ?_
          refine RunF.q (o_move rfl) rfl ?_
          refine RunF.gm rfl (o_move rfl) ?_
          first | refine RunF.q (o_pick_t rfl rfl) rfl ?_ | refine RunF.q (o_pick_f rfl rfl) rfl ?_ | refine RunF.q (o_pick_b rfl rfl rfl) rfl ?_ | refine RunF.q (o_pick_or rfl rfl rfl) rfl ?_ | refine RunF.q (o_pick_and rfl rfl rfl) rfl ?_
          refine RunF.q (o_assign rfl) rfl ?_
          refine RunF.q (o_assign rfl) rfl ?_
          refine AW.ret ?_
          exact FinQ.ret [] [] (ress_tmp rfl (ress_tmp rfl ress_nil)) rfl .nil .nil (by rw [e1, e2]; exact nR)
        · try simp only [decide_eq_true_eq, decide_eq_false_iff_not, bne_iff_ne, beq_iff_eq, bne_eq_false_iff_eq, beq_eq_false_iff_ne, ne_eq, Bool.not_eq_true', Bool.not_eq_false'] at hc1
          have e1 : mulQ a b = signedQ (((((clampQ a).natAbs * (clampQ b).natAbs) / 16777216) / 18446744073709551616 : Nat) : Int) ((((((clampQ a).natAbs * (clampQ b).natAbs) / 16777216) + 1) % 18446744073709551616 : Nat) : Int) (mulZ a b) := by unfold mulQ; rw [eM, ← noinc _ hc1]
          have e2 : mulF a b = (both2 a b || signedF (((((clampQ a).natAbs * (clampQ b).natAbs) / 16777216) / 18446744073709551616 : Nat) : Int) ((((((clampQ a).natAbs * (clampQ b).natAbs) / 16777216) + 1) % 18446744073709551616 : Nat) : Int) (mulZ a b)) := by unfold mulF; rw [eM, ← noinc _ hc1]
          refine AW.skip ?_
          refine AW.seq ?_
          refine AW.region (by kernel_rfl) ?_
          refine RunF.q (o_move rfl) rfl ?_
          refine RunF.q (o_move rfl) rfl ?_
          refine RunF.q (o_move rfl) rfl ?_
          refine RunF.q (o_lss rfl rfl) rfl ?_
          refine RunF.q (o_move rfl) rfl ?_
          refine RunF.q (o_lss rfl rfl) rfl ?_
          refine RunF.q (o_neb tk4 rfl rfl) rfl ?_
          refine RunF.q (o_call (no := 0) (nr := 0) rfl rfl rfl nC (by rfl) (by exact signed_ok _ _ _ (by omega)) (by rfl) rfl rfl nV rfl) (by rfl) ?_
          refine RunF.q (o_move rfl) rfl ?_
          refine RunF.q (o_extract rfl rfl) rfl ?_
          refine RunF.q (o_extract rfl rfl) rfl ?_
          refine RunF.q (o_assign rfl) rfl ?_
          refine RunF.q (o_assign rfl) rfl ?_
          refine AW.seq ?_
          refine AW.region (by kernel_rfl) ?_
          refine RunF.q (o_move rfl) rfl ?_
          refine RunF.q (o_move rfl) rfl ?_
          refine RunF.q (o_move rfl) rfl ?_
          refine RunF.gm rfl (o_move rfl) ?_
          first | refine RunF.q (o_pick_t rfl rfl) rfl ?_ | refine RunF.q (o_pick_f rfl rfl) rfl ?_ | refine RunF.q (o_pick_b rfl rfl rfl) rfl ?_ | refine RunF.q (o_pick_or rfl rfl rfl) rfl ?_ | refine RunF.q (o_pick_and rfl rfl rfl) rfl ?_
          refine RunF.q (o_assign rfl) rfl ?_
          refine RunF.q (o_assign rfl) rfl ?_
          refine AW.ret ?_
          exact FinQ.ret [] [] (ress_tmp rfl (ress_tmp rfl ress_nil)) rfl .nil .nil (by rw [e1, e2]; exact nR)
      · try simp only [decide_eq_true_eq, decide_eq_false_iff_not, bne_iff_ne, beq_iff_eq, bne_eq_false_iff_eq, beq_eq_false_iff_ne, ne_eq, Bool.not_eq_true', Bool.not_eq_false'] at hc0
        have eM : mulN2 a b = (((clampQ a).natAbs * (clampQ b).natAbs) / 16777216) := by unfold mulN2 rnd24; rw [if_neg (by omega)]
        have e1 : mulQ a b = signedQ (((((clampQ a).natAbs * (clampQ b).natAbs) / 16777216) / 18446744073709551616 : Nat) : Int) (((((clampQ a).natAbs * (clampQ b).natAbs) / 16777216) % 18446744073709551616 : Nat) : Int) (mulZ a b) := by unfold mulQ; rw [eM]
        have e2 : mulF a b = (both2 a b || signedF (((((clampQ a).natAbs * (clampQ b).natAbs) / 16777216) / 18446744073709551616 : Nat) : Int) (((((clampQ a).natAbs * (clampQ b).natAbs) / 16777216) % 18446744073709551616 : Nat) : Int) (mulZ a b)) := by unfold mulF; rw [eM]
        refine AW.skip ?_
        refine AW.seq ?_
        refine AW.region (by kernel_rfl) ?_
        refine RunF.q (o_move rfl) rfl ?_
        refine RunF.q (o_move rfl) rfl ?_
        refine RunF.q (o_move rfl) rfl ?_
        refine RunF.q (o_lss rfl rfl) rfl ?_
        refine RunF.q (o_move rfl) rfl ?_
        refine RunF.q (o_lss rfl rfl) rfl ?_
        refine RunF.q (o_neb tk4 rfl rfl) rfl ?_
        refine RunF.q (o_call (no := 0) (nr := 0) rfl rfl rfl nC (by rfl) (by exact signed_ok _ _ _ (by omega)) (by rfl) rfl rfl nV rfl) (by rfl) ?_
        refine RunF.q (o_move rfl) rfl ?_
        refine RunF.q (o_extract rfl rfl) rfl ?_
        refine RunF.q (o_extract rfl rfl) rfl ?_
        refine RunF.q (o_assign rfl) rfl ?_
        refine RunF.q (o_assign rfl) rfl ?_
        refine AW.seq ?_
        refine AW.region (by kernel_rfl) ?_
        refine RunF.q (o_move rfl) rfl ?_
        refine RunF.q (o_move rfl) rfl ?_
        refine RunF.q (o_move rfl) rfl ?_
        refine RunF.gm rfl (o_move rfl) ?_
        first | refine RunF.q (o_pick_t rfl rfl) rfl ?_ | refine RunF.q (o_pick_f rfl rfl) rfl ?_ | refine RunF.q (o_pick_b rfl rfl rfl) rfl ?_ | refine RunF.q (o_pick_or rfl rfl rfl) rfl ?_ | refine RunF.q (o_pick_and rfl rfl rfl) rfl ?_
        refine RunF.q (o_assign rfl) rfl ?_
        refine RunF.q (o_assign rfl) rfl ?_
        refine AW.ret ?_
        exact FinQ.ret [] [] (ress_tmp rfl (ress_tmp rfl ress_nil)) rfl .nil .nil (by rw [e1, e2]; exact nR)
    · try simp only [decide_eq_true_eq, decide_eq_false_iff_not, bne_iff_ne, beq_iff_eq, bne_eq_false_iff_eq, beq_eq_false_iff_ne, ne_eq, Bool.not_eq_true', Bool.not_eq_false'] at hb6_5
      refine RunF.gs (b := false) rfl rfl ?_
      refine RunF.gs (b := false) rfl rfl ?_
      refine RunF.gs (b := false) rfl rfl ?_
      refine RunF.gq rfl (o_pick_f rfl rfl) rfl ?_
      refine RunF.q (o_pick_f rfl rfl) rfl ?_
      refine AW.cond rfl (fun hc0 => absurd hc0 (by simp)) (fun hc0 => ?_)
      have eM : mulN2 a b = (((clampQ a).natAbs * (clampQ b).natAbs) / 16777216) := by unfold mulN2 rnd24; rw [if_neg (by omega)]
      have e1 : mulQ a b = signedQ (((((clampQ a).natAbs * (clampQ b).natAbs) / 16777216) / 18446744073709551616 : Nat) : Int) (((((clampQ a).natAbs * (clampQ b).natAbs) / 16777216) % 18446744073709551616 : Nat) : Int) (mulZ a b) := by unfold mulQ; rw [eM]
      have e2 : mulF a b = (both2 a b || signedF (((((clampQ a).natAbs * (clampQ b).natAbs) / 16777216) / 18446744073709551616 : Nat) : Int) (((((clampQ a).natAbs * (clampQ b).natAbs) / 16777216) % 18446744073709551616 : Nat) : Int) (mulZ a b)) := by unfold mulF; rw [eM]
      refine AW.skip ?_
      refine AW.seq ?_
      refine AW.region (by kernel_rfl) ?_
      refine RunF.q (o_move rfl) rfl ?_
      refine RunF.q (o_move rfl) rfl ?_
      refine RunF.q (o_move rfl) rfl ?_
      refine RunF.q (o_lss rfl rfl) rfl ?_
      refine RunF.q (o_move rfl) rfl ?_
      refine RunF.q (o_lss rfl rfl) rfl ?_
      refine RunF.q (o_neb tk4 rfl rfl) rfl ?_
      refine RunF.q (o_call (no := 0) (nr := 0) rfl rfl rfl nC (by rfl) (by exact signed_ok _ _ _ (by omega)) (by rfl) rfl rfl nV rfl) (by rfl) ?_
      refine RunF.q (o_move rfl) rfl ?_
      refine RunF.q (o_extract rfl rfl) rfl ?_
      refine RunF.q (o_extract rfl rfl) rfl ?_
      refine RunF.q (o_assign rfl) rfl ?_
      refine RunF.q (o_assign rfl) rfl ?_
      refine AW.seq ?_
      refine AW.region (by kernel_rfl) ?_
      refine RunF.q (o_move rfl) rfl ?_
      refine RunF.q (o_move rfl) rfl ?_
      refine RunF.q (o_move rfl) rfl ?_
      refine RunF.gm rfl (o_move rfl) ?_
      first | refine RunF.q (o_pick_t rfl rfl) rfl ?_ | refine RunF.q (o_pick_f rfl rfl) rfl ?_ | refine RunF.q (o_pick_b rfl rfl rfl) rfl ?_ | refine RunF.q (o_pick_or rfl rfl rfl) rfl ?_ | refine RunF.q (o_pick_and rfl rfl rfl) rfl ?_
      refine RunF.q (o_assign rfl) rfl ?_
      refine RunF.q (o_assign rfl) rfl ?_
      refine AW.ret ?_
      exact FinQ.ret [] [] (ress_tmp rfl (ress_tmp rfl ress_nil)) rfl .nil .nil (by rw [e1, e2]; exact nR)

end Go.Proofs.Ytnkijhpikeokfaa

/- Half of a number: to the nearest, halves to the even one; what is made even. -/
namespace Go.Proofs.Ytnkijhpikeokfaa
open Go Go.Sym Go.IntWalk

def half1 (n : Int) : Int := if n % 2 = 1 ∧ n / 2 % 2 = 1 then n / 2 + 1 else n / 2

theorem bv_and1 (n : Int) : ((BitVec.ofInt 64 n &&& BitVec.ofInt 64 1).toNat : Int) = n % 2 := by
  rw [BitVec.toNat_and, BitVec.toNat_ofInt, BitVec.toNat_ofInt]
  have e2 : ((1 : Int) % ((2 ^ 64 : Nat) : Int)).toNat = 1 := by decide
  rw [e2, Nat.and_one_is_mod]
  omega
theorem mask1u (n : Int) : IntKind.u64.wrap ((BitVec.ofInt IntKind.u64.bits (n % 18446744073709551616) &&& BitVec.ofInt IntKind.u64.bits 1).toNat : Int) = n % 2 := by
  have h := bv_and1 (n % 18446744073709551616)
  have h2 : ((BitVec.ofInt IntKind.u64.bits (n % 18446744073709551616) &&& BitVec.ofInt IntKind.u64.bits 1).toNat : Int) = n % 18446744073709551616 % 2 := h
  rw [h2, IntKind.wrap_u64]; omega
theorem mask1i (n : Int) : IntKind.i64.wrap ((BitVec.ofInt IntKind.i64.bits n &&& BitVec.ofInt IntKind.i64.bits 1).toNat : Int) = n % 2 := by
  have h2 : ((BitVec.ofInt IntKind.i64.bits n &&& BitVec.ofInt IntKind.i64.bits 1).toNat : Int) = n % 2 := bv_and1 n
  rw [h2]; exact i64_in _ (by omega)
theorem shr1 (n : Int) : n.fdiv (2 ^ (min (1 : Int).toNat IntKind.i64.bits)) = n / 2 := by
  rw [Int.fdiv_eq_ediv_of_nonneg _ (by decide)]; rfl

set_option maxHeartbeats 1000000 in
theorem half1_ok (n : Int) (hn : -4611686018427387904 ≤ n ∧ n ≤ 4611686018427387903) : SoundC Try.prog 75 [.int .i64 n, .int .i64 1] ⟨[], []⟩ { val := .int .i64 (half1 n) } := by
  refine SoundC.of (N := 43) Try.func75 rfl rfl rfl rfl ?_
  refine AW.seq ?_
  refine AW.region (by kernel_rfl) ?_
  refine RunF.q (o_assign rfl) rfl ?_
  refine AW.seq ?_
  refine AW.region (by kernel_rfl) ?_
  refine RunF.q (o_move rfl) rfl ?_
  refine RunF.q (o_max (m := 1) rfl rfl (by decide)) rfl ?_
  refine RunF.q (o_min (m := 1) rfl rfl (by decide)) rfl ?_
  refine RunF.q (o_assign rfl) rfl ?_
  refine AW.seq ?_
  refine AW.region (by kernel_rfl) ?_
  refine RunF.q (o_move rfl) rfl ?_
  refine RunF.q (o_move rfl) rfl ?_
  refine RunF.q (o_shr rfl rfl (by decide) (shr1 n)) rfl ?_
  refine RunF.q (o_assign rfl) rfl ?_
  refine AW.seq ?_
  refine AW.region (by kernel_rfl) ?_
  refine RunF.q (o_move rfl) rfl ?_
  refine RunF.q (o_convert tk2 tk172 rfl (IntKind.wrap_u64 n)) rfl ?_
  refine RunF.q (o_move rfl) rfl ?_
  refine RunF.q (o_shl (m := 2) rfl rfl (by decide) (by decide)) rfl ?_
  refine RunF.q (o_sub (m := 1) rfl rfl (by decide)) rfl ?_
  refine RunF.q (o_and rfl rfl (mask1u n)) rfl ?_
  refine RunF.q (o_assign rfl) rfl ?_
  refine AW.seq ?_
  refine AW.seq ?_
  refine AW.region (by kernel_rfl) ?_
  refine RunF.q (o_move rfl) rfl ?_
  refine RunF.q (o_bin (v := .bool true) rfl rfl rfl) rfl ?_
  refine RunF.q (o_move rfl) rfl ?_
  refine RunF.gq rfl (o_move rfl) rfl ?_
  refine RunF.gq rfl (o_move rfl) rfl ?_
  refine RunF.gq rfl (o_sub (m := 0) rfl rfl (by decide)) rfl ?_
  refine RunF.gq rfl (o_shl (m := 1) rfl rfl (by decide) (by decide)) rfl ?_
  refine RunF.gq rfl (o_bin (v := .bool false) rfl rfl (by simp only [binA, if_true]; rw [decide_eq_false (by omega)])) rfl ?_
  refine RunF.gq rfl (o_move rfl) rfl ?_
  refine RunF.gq rfl (o_move rfl) rfl ?_
  refine RunF.gq rfl (o_move rfl) rfl ?_
  refine RunF.gq rfl (o_sub (m := 0) rfl rfl (by decide)) rfl ?_
  refine RunF.gq rfl (o_shl (m := 1) rfl rfl (by decide) (by decide)) rfl ?_
  refine RunF.gq rfl (o_eql rfl rfl) rfl ?_
  refine RunF.gb rfl (o_move rfl) rfl (fun hb4_14 => ?_) (fun hb4_14 => ?_)
  · try simp only [decide_eq_true_eq, decide_eq_false_iff_not, bne_iff_ne, beq_iff_eq, bne_eq_false_iff_eq, beq_eq_false_iff_ne, ne_eq, Bool.not_eq_true', Bool.not_eq_false'] at hb4_14
    refine RunF.gq rfl (o_move rfl) rfl ?_
    refine RunF.gq rfl (o_and rfl rfl (mask1i _)) rfl ?_
    refine RunF.gq rfl (o_eql rfl rfl) rfl ?_
    refine RunF.gq rfl (o_pick_t rfl rfl) rfl ?_
    refine RunF.gq rfl (o_pick_f rfl rfl) rfl ?_
    refine RunF.q (o_pick_t rfl rfl) rfl ?_
    refine AW.cond rfl (fun hc0 => ?_) (fun hc0 => ?_)
    · try simp only [decide_eq_true_eq, decide_eq_false_iff_not, bne_iff_ne, beq_iff_eq, bne_eq_false_iff_eq, beq_eq_false_iff_ne, ne_eq, Bool.not_eq_true', Bool.not_eq_false'] at hc0
      have e1 : half1 n = n / 2 + 1 := by unfold half1; rw [if_pos (by omega)]
      refine AW.region (by kernel_rfl) ?_
      refine RunF.q (o_move rfl) rfl ?_
      refine RunF.q (o_add rfl rfl (by first | exact i64_in _ (by omega) | rfl)) rfl ?_
      refine RunF.q (o_assign rfl) rfl ?_
      refine AW.seq ?_
      refine AW.region (by kernel_rfl) ?_
      refine RunF.q (o_move rfl) rfl ?_
      refine RunF.q (o_assign rfl) rfl ?_
      refine AW.ret ?_
      exact FinQ.ret [] [] (ress_tmp rfl ress_nil) rfl .nil .nil (by rw [e1]; exact nR)
    · try simp only [decide_eq_true_eq, decide_eq_false_iff_not, bne_iff_ne, beq_iff_eq, bne_eq_false_iff_eq, beq_eq_false_iff_ne, ne_eq, Bool.not_eq_true', Bool.not_eq_false'] at hc0
      have e1 : half1 n = n / 2 := by unfold half1; rw [if_neg (by omega)]
      refine AW.skip ?_
      refine AW.seq ?_
      refine AW.region (by kernel_rfl) ?_
      refine RunF.q (o_move rfl) rfl ?_
      refine RunF.q (o_assign rfl) rfl ?_
      refine AW.ret ?_
      exact FinQ.ret [] [] (ress_tmp rfl ress_nil) rfl .nil .nil (by rw [e1]; exact nR)
  · try simp only [decide_eq_true_eq, decide_eq_false_iff_not, bne_iff_ne, beq_iff_eq, bne_eq_false_iff_eq, beq_eq_false_iff_ne, ne_eq, Bool.not_eq_true', Bool.not_eq_false'] at hb4_14
    refine RunF.gs (b := false) rfl rfl ?_
    refine RunF.gs (b := false) rfl rfl ?_
    refine RunF.gs (b := false) rfl rfl ?_
    refine RunF.gq rfl (o_pick_f rfl rfl) rfl ?_
    refine RunF.gq rfl (o_pick_f rfl rfl) rfl ?_
    refine RunF.q (o_pick_t rfl rfl) rfl ?_
    refine AW.cond rfl (fun hc0 => absurd hc0 (by simp)) (fun hc0 => ?_)
    have e1 : half1 n = n / 2 := by unfold half1; rw [if_neg (by omega)]
    refine AW.skip ?_
    refine AW.seq ?_
    refine AW.region (by kernel_rfl) ?_
    refine RunF.q (o_move rfl) rfl ?_
    refine RunF.q (o_assign rfl) rfl ?_
    refine AW.ret ?_
    exact FinQ.ret [] [] (ress_tmp rfl ress_nil) rfl .nil .nil (by rw [e1]; exact nR)

set_option maxHeartbeats 1000000 in
theorem even1_ok (x y : Int) (hx : -70368744177664 ≤ x ∧ x ≤ 70368744177663) (hy : -70368744177664 ≤ y ∧ y ≤ 70368744177663) : SoundC Try.prog 74 [.int .i64 x, .int .i64 y] ⟨[], []⟩ { val := .tuple [.int .i64 (half1 (x + y)), .bool false] } := by
  refine SoundC.of (N := 10) Try.func74 rfl rfl rfl rfl ?_
  refine AW.seq ?_
  refine AW.region (by kernel_rfl) ?_
  refine RunF.q (o_assign rfl) rfl ?_
  refine RunF.q (o_assign rfl) rfl ?_
  refine AW.seq ?_
  refine AW.region (by kernel_rfl) ?_
  refine RunF.q (o_move rfl) rfl ?_
  refine RunF.q (o_move rfl) rfl ?_
  refine RunF.q (o_add rfl rfl (by first | exact i64_in _ (by omega) | rfl)) rfl ?_
  refine RunF.q (o_call (no := 0) (nr := 0) rfl rfl rfl nC (by rfl) (by exact half1_ok _ (by omega)) (by rfl) rfl rfl nV rfl) (by rfl) ?_
  refine RunF.q (o_assign rfl) rfl ?_
  refine RunF.q (o_assign rfl) rfl ?_
  refine AW.ret ?_
  exact FinQ.ret [] [] (ress_tmp rfl (ress_tmp rfl ress_nil)) rfl (by first | exact RowsO.nil | skip) (by first | exact RowsR.nil | skip) nR

end Go.Proofs.Ytnkijhpikeokfaa
