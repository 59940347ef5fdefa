/- The types of the program, as the abstract operations see them. -/
import Derived.Test.YtnkijhpikeokfaaS23
import Derived.Test.YtnkijhpikeokfaaProg
import Derived.KernelRfl
namespace Go.Proofs.Ytnkijhpikeokfaa
open Go Go.Sym
theorem tk1 : tk Try.prog 1 = some (.other) := by kernel_rfl
theorem ts1 : tsize Try.prog 1 = some 1 := by kernel_rfl
theorem tz1 : tzero Try.prog 1 = some [.nilfunc] := by kernel_rfl
theorem tb1 : tbytes Try.prog 1 = some 8 := by kernel_rfl
theorem tk2 : tk Try.prog 2 = some (.int .i64) := by kernel_rfl
theorem ts2 : tsize Try.prog 2 = some 1 := by kernel_rfl
theorem tz2 : tzero Try.prog 2 = some [.int .i64 0] := by kernel_rfl
theorem tb2 : tbytes Try.prog 2 = some 8 := by kernel_rfl
theorem tk3 : tk Try.prog 3 = some (.int .i64) := by kernel_rfl
theorem ts3 : tsize Try.prog 3 = some 1 := by kernel_rfl
theorem tz3 : tzero Try.prog 3 = some [.int .i64 0] := by kernel_rfl
theorem tb3 : tbytes Try.prog 3 = some 8 := by kernel_rfl
theorem tk4 : tk Try.prog 4 = some (.bool) := by kernel_rfl
theorem ts4 : tsize Try.prog 4 = some 1 := by kernel_rfl
theorem tz4 : tzero Try.prog 4 = some [.bool false] := by kernel_rfl
theorem tb4 : tbytes Try.prog 4 = some 1 := by kernel_rfl
theorem tk5 : tk Try.prog 5 = some (.int .u8) := by kernel_rfl
theorem ts5 : tsize Try.prog 5 = some 1 := by kernel_rfl
theorem tz5 : tzero Try.prog 5 = some [.int .u8 0] := by kernel_rfl
theorem tb5 : tbytes Try.prog 5 = some 1 := by kernel_rfl
theorem tk6 : tk Try.prog 6 = some (.int .u8) := by kernel_rfl
theorem ts6 : tsize Try.prog 6 = some 1 := by kernel_rfl
theorem tz6 : tzero Try.prog 6 = some [.int .u8 0] := by kernel_rfl
theorem tb6 : tbytes Try.prog 6 = some 1 := by kernel_rfl
theorem tk7 : tk Try.prog 7 = some (.st [(0, 2), (1, 3), (2, 4), (3, 6)]) := by kernel_rfl
theorem ts7 : tsize Try.prog 7 = some 4 := by kernel_rfl
theorem tz7 : tzero Try.prog 7 = some [.int .i64 0, .int .i64 0, .bool false, .int .u8 0] := by kernel_rfl
theorem tb7 : tbytes Try.prog 7 = some 24 := by kernel_rfl
theorem pl7 : places Try.prog [(0, 2), (1, 3), (2, 4), (3, 6)] = some [(0, 1), (1, 1), (2, 1), (3, 1)] := by kernel_rfl
theorem tk8 : tk Try.prog 8 = some (.st [(0, 2), (1, 3), (2, 4), (3, 6)]) := by kernel_rfl
theorem ts8 : tsize Try.prog 8 = some 4 := by kernel_rfl
theorem tz8 : tzero Try.prog 8 = some [.int .i64 0, .int .i64 0, .bool false, .int .u8 0] := by kernel_rfl
theorem tb8 : tbytes Try.prog 8 = some 24 := by kernel_rfl
theorem pl8 : places Try.prog [(0, 2), (1, 3), (2, 4), (3, 6)] = some [(0, 1), (1, 1), (2, 1), (3, 1)] := by kernel_rfl
theorem tk9 : tk Try.prog 9 = some (.str) := by kernel_rfl
theorem ts9 : tsize Try.prog 9 = some 1 := by kernel_rfl
theorem tz9 : tzero Try.prog 9 = some [.str { data := #[] }] := by kernel_rfl
theorem tb9 : tbytes Try.prog 9 = some 16 := by kernel_rfl
theorem tk10 : tk Try.prog 10 = some (.str) := by kernel_rfl
theorem ts10 : tsize Try.prog 10 = some 1 := by kernel_rfl
theorem tz10 : tzero Try.prog 10 = some [.str { data := #[] }] := by kernel_rfl
theorem tb10 : tbytes Try.prog 10 = some 16 := by kernel_rfl
theorem tk11 : tk Try.prog 11 = some (.str) := by kernel_rfl
theorem ts11 : tsize Try.prog 11 = some 1 := by kernel_rfl
theorem tz11 : tzero Try.prog 11 = some [.str { data := #[] }] := by kernel_rfl
theorem tb11 : tbytes Try.prog 11 = some 16 := by kernel_rfl
theorem tk12 : tk Try.prog 12 = some (.int .u64) := by kernel_rfl
theorem ts12 : tsize Try.prog 12 = some 1 := by kernel_rfl
theorem tz12 : tzero Try.prog 12 = some [.int .u64 0] := by kernel_rfl
theorem tb12 : tbytes Try.prog 12 = some 8 := by kernel_rfl
theorem tk13 : tk Try.prog 13 = some (.st [(0, 9), (1, 12)]) := by kernel_rfl
theorem ts13 : tsize Try.prog 13 = some 2 := by kernel_rfl
theorem tz13 : tzero Try.prog 13 = some [.str { data := #[] }, .int .u64 0] := by kernel_rfl
theorem tb13 : tbytes Try.prog 13 = some 24 := by kernel_rfl
theorem pl13 : places Try.prog [(0, 9), (1, 12)] = some [(0, 1), (1, 1)] := by kernel_rfl
theorem tk14 : tk Try.prog 14 = some (.st [(0, 9), (1, 12)]) := by kernel_rfl
theorem ts14 : tsize Try.prog 14 = some 2 := by kernel_rfl
theorem tz14 : tzero Try.prog 14 = some [.str { data := #[] }, .int .u64 0] := by kernel_rfl
theorem tb14 : tbytes Try.prog 14 = some 24 := by kernel_rfl
theorem pl14 : places Try.prog [(0, 9), (1, 12)] = some [(0, 1), (1, 1)] := by kernel_rfl
theorem tk15 : tk Try.prog 15 = some (.ptr 218) := by kernel_rfl
theorem ts15 : tsize Try.prog 15 = some 1 := by kernel_rfl
theorem tz15 : tzero Try.prog 15 = some [.nilptr] := by kernel_rfl
theorem tb15 : tbytes Try.prog 15 = some 8 := by kernel_rfl
theorem tk16 : tk Try.prog 16 = some (.ptr 221) := by kernel_rfl
theorem ts16 : tsize Try.prog 16 = some 1 := by kernel_rfl
theorem tz16 : tzero Try.prog 16 = some [.nilptr] := by kernel_rfl
theorem tb16 : tbytes Try.prog 16 = some 8 := by kernel_rfl
theorem tk17 : tk Try.prog 17 = some (.ptr 230) := by kernel_rfl
theorem ts17 : tsize Try.prog 17 = some 1 := by kernel_rfl
theorem tz17 : tzero Try.prog 17 = some [.nilptr] := by kernel_rfl
theorem tb17 : tbytes Try.prog 17 = some 8 := by kernel_rfl
theorem tk18 : tk Try.prog 18 = some (.st [(0, 17)]) := by kernel_rfl
theorem ts18 : tsize Try.prog 18 = some 1 := by kernel_rfl
theorem tz18 : tzero Try.prog 18 = some [.nilptr] := by kernel_rfl
theorem tb18 : tbytes Try.prog 18 = some 8 := by kernel_rfl
theorem pl18 : places Try.prog [(0, 17)] = some [(0, 1)] := by kernel_rfl
theorem tk19 : tk Try.prog 19 = some (.st [(0, 17)]) := by kernel_rfl
theorem ts19 : tsize Try.prog 19 = some 1 := by kernel_rfl
theorem tz19 : tzero Try.prog 19 = some [.nilptr] := by kernel_rfl
theorem tb19 : tbytes Try.prog 19 = some 8 := by kernel_rfl
theorem pl19 : places Try.prog [(0, 17)] = some [(0, 1)] := by kernel_rfl
theorem tk21 : tk Try.prog 21 = some (.int .i32) := by kernel_rfl
theorem ts21 : tsize Try.prog 21 = some 1 := by kernel_rfl
theorem tz21 : tzero Try.prog 21 = some [.int .i32 0] := by kernel_rfl
theorem tb21 : tbytes Try.prog 21 = some 4 := by kernel_rfl
theorem tk22 : tk Try.prog 22 = some (.sl 30) := by kernel_rfl
theorem ts22 : tsize Try.prog 22 = some 1 := by kernel_rfl
theorem tz22 : tzero Try.prog 22 = some [.nilsl] := by kernel_rfl
theorem tb22 : tbytes Try.prog 22 = some 24 := by kernel_rfl
theorem tk23 : tk Try.prog 23 = some (.st [(0, 3), (1, 3), (2, 22)]) := by kernel_rfl
theorem ts23 : tsize Try.prog 23 = some 3 := by kernel_rfl
theorem tz23 : tzero Try.prog 23 = some [.int .i64 0, .int .i64 0, .nilsl] := by kernel_rfl
theorem tb23 : tbytes Try.prog 23 = some 40 := by kernel_rfl
theorem pl23 : places Try.prog [(0, 3), (1, 3), (2, 22)] = some [(0, 1), (1, 1), (2, 1)] := by kernel_rfl
theorem tk24 : tk Try.prog 24 = some (.st [(0, 3), (1, 3), (2, 22)]) := by kernel_rfl
theorem ts24 : tsize Try.prog 24 = some 3 := by kernel_rfl
theorem tz24 : tzero Try.prog 24 = some [.int .i64 0, .int .i64 0, .nilsl] := by kernel_rfl
theorem tb24 : tbytes Try.prog 24 = some 40 := by kernel_rfl
theorem pl24 : places Try.prog [(0, 3), (1, 3), (2, 22)] = some [(0, 1), (1, 1), (2, 1)] := by kernel_rfl
theorem tk25 : tk Try.prog 25 = some (.other) := by kernel_rfl
theorem ts25 : tsize Try.prog 25 = some 1 := by kernel_rfl
theorem tz25 : tzero Try.prog 25 = some [.nilfunc] := by kernel_rfl
theorem tb25 : tbytes Try.prog 25 = some 8 := by kernel_rfl
theorem tk26 : tk Try.prog 26 = some (.other) := by kernel_rfl
theorem ts26 : tsize Try.prog 26 = some 1 := by kernel_rfl
theorem tz26 : tzero Try.prog 26 = some [.nilfunc] := by kernel_rfl
theorem tb26 : tbytes Try.prog 26 = some 8 := by kernel_rfl
theorem tk27 : tk Try.prog 27 = some (.int .i64) := by kernel_rfl
theorem ts27 : tsize Try.prog 27 = some 1 := by kernel_rfl
theorem tz27 : tzero Try.prog 27 = some [.int .i64 0] := by kernel_rfl
theorem tb27 : tbytes Try.prog 27 = some 8 := by kernel_rfl
theorem tk29 : tk Try.prog 29 = some (.other) := by kernel_rfl
theorem ts29 : tsize Try.prog 29 = some 1 := by kernel_rfl
theorem tz29 : tzero Try.prog 29 = some [.nilfunc] := by kernel_rfl
theorem tb29 : tbytes Try.prog 29 = some 8 := by kernel_rfl
theorem tk30 : tk Try.prog 30 = some (.int .i64) := by kernel_rfl
theorem ts30 : tsize Try.prog 30 = some 1 := by kernel_rfl
theorem tz30 : tzero Try.prog 30 = some [.int .i64 0] := by kernel_rfl
theorem tb30 : tbytes Try.prog 30 = some 8 := by kernel_rfl
theorem tk31 : tk Try.prog 31 = some (.other) := by kernel_rfl
theorem ts31 : tsize Try.prog 31 = some 1 := by kernel_rfl
theorem tz31 : tzero Try.prog 31 = some [.nilfunc] := by kernel_rfl
theorem tb31 : tbytes Try.prog 31 = some 8 := by kernel_rfl
theorem tk32 : tk Try.prog 32 = some (.other) := by kernel_rfl
theorem ts32 : tsize Try.prog 32 = some 1 := by kernel_rfl
theorem tz32 : tzero Try.prog 32 = some [.nilfunc] := by kernel_rfl
theorem tb32 : tbytes Try.prog 32 = some 8 := by kernel_rfl
theorem tk33 : tk Try.prog 33 = some (.other) := by kernel_rfl
theorem ts33 : tsize Try.prog 33 = some 1 := by kernel_rfl
theorem tz33 : tzero Try.prog 33 = some [.nilfunc] := by kernel_rfl
theorem tb33 : tbytes Try.prog 33 = some 8 := by kernel_rfl
theorem tk35 : tk Try.prog 35 = some (.other) := by kernel_rfl
theorem ts35 : tsize Try.prog 35 = some 1 := by kernel_rfl
theorem tz35 : tzero Try.prog 35 = some [.nilfunc] := by kernel_rfl
theorem tb35 : tbytes Try.prog 35 = some 8 := by kernel_rfl
theorem tk36 : tk Try.prog 36 = some (.int .i8) := by kernel_rfl
theorem ts36 : tsize Try.prog 36 = some 1 := by kernel_rfl
theorem tz36 : tzero Try.prog 36 = some [.int .i8 0] := by kernel_rfl
theorem tb36 : tbytes Try.prog 36 = some 1 := by kernel_rfl
theorem tk37 : tk Try.prog 37 = some (.arr 3 36) := by kernel_rfl
theorem ts37 : tsize Try.prog 37 = some 3 := by kernel_rfl
theorem tz37 : tzero Try.prog 37 = some [.int .i8 0, .int .i8 0, .int .i8 0] := by kernel_rfl
theorem tb37 : tbytes Try.prog 37 = some 3 := by kernel_rfl
theorem tk38 : tk Try.prog 38 = some (.other) := by kernel_rfl
theorem ts38 : tsize Try.prog 38 = some 1 := by kernel_rfl
theorem tz38 : tzero Try.prog 38 = some [.nilfunc] := by kernel_rfl
theorem tb38 : tbytes Try.prog 38 = some 8 := by kernel_rfl
theorem tk39 : tk Try.prog 39 = some (.other) := by kernel_rfl
theorem ts39 : tsize Try.prog 39 = some 1 := by kernel_rfl
theorem tz39 : tzero Try.prog 39 = some [.nilfunc] := by kernel_rfl
theorem tb39 : tbytes Try.prog 39 = some 8 := by kernel_rfl
theorem tk40 : tk Try.prog 40 = some (.st [(0, 24), (3, 24)]) := by kernel_rfl
theorem ts40 : tsize Try.prog 40 = some 6 := by kernel_rfl
theorem tz40 : tzero Try.prog 40 = some [.int .i64 0, .int .i64 0, .nilsl, .int .i64 0, .int .i64 0, .nilsl] := by kernel_rfl
theorem tb40 : tbytes Try.prog 40 = some 80 := by kernel_rfl
theorem pl40 : places Try.prog [(0, 24), (3, 24)] = some [(0, 3), (3, 3)] := by kernel_rfl
theorem tk41 : tk Try.prog 41 = some (.st [(0, 24), (3, 24)]) := by kernel_rfl
theorem ts41 : tsize Try.prog 41 = some 6 := by kernel_rfl
theorem tz41 : tzero Try.prog 41 = some [.int .i64 0, .int .i64 0, .nilsl, .int .i64 0, .int .i64 0, .nilsl] := by kernel_rfl
theorem tb41 : tbytes Try.prog 41 = some 80 := by kernel_rfl
theorem pl41 : places Try.prog [(0, 24), (3, 24)] = some [(0, 3), (3, 3)] := by kernel_rfl
theorem tk43 : tk Try.prog 43 = some (.other) := by kernel_rfl
theorem ts43 : tsize Try.prog 43 = some 1 := by kernel_rfl
theorem tz43 : tzero Try.prog 43 = some [.nilfunc] := by kernel_rfl
theorem tb43 : tbytes Try.prog 43 = some 8 := by kernel_rfl
theorem tk45 : tk Try.prog 45 = some (.other) := by kernel_rfl
theorem ts45 : tsize Try.prog 45 = some 1 := by kernel_rfl
theorem tz45 : tzero Try.prog 45 = some [.nilfunc] := by kernel_rfl
theorem tb45 : tbytes Try.prog 45 = some 8 := by kernel_rfl
theorem tk46 : tk Try.prog 46 = some (.other) := by kernel_rfl
theorem ts46 : tsize Try.prog 46 = some 1 := by kernel_rfl
theorem tz46 : tzero Try.prog 46 = some [.nilfunc] := by kernel_rfl
theorem tb46 : tbytes Try.prog 46 = some 8 := by kernel_rfl
theorem tk47 : tk Try.prog 47 = some (.int .u16) := by kernel_rfl
theorem ts47 : tsize Try.prog 47 = some 1 := by kernel_rfl
theorem tz47 : tzero Try.prog 47 = some [.int .u16 0] := by kernel_rfl
theorem tb47 : tbytes Try.prog 47 = some 2 := by kernel_rfl
theorem tk48 : tk Try.prog 48 = some (.st [(0, 47), (1, 47), (2, 5), (3, 5)]) := by kernel_rfl
theorem ts48 : tsize Try.prog 48 = some 4 := by kernel_rfl
theorem tz48 : tzero Try.prog 48 = some [.int .u16 0, .int .u16 0, .int .u8 0, .int .u8 0] := by kernel_rfl
theorem tb48 : tbytes Try.prog 48 = some 6 := by kernel_rfl
theorem pl48 : places Try.prog [(0, 47), (1, 47), (2, 5), (3, 5)] = some [(0, 1), (1, 1), (2, 1), (3, 1)] := by kernel_rfl
theorem tk49 : tk Try.prog 49 = some (.st [(0, 47), (1, 47), (2, 5), (3, 5)]) := by kernel_rfl
theorem ts49 : tsize Try.prog 49 = some 4 := by kernel_rfl
theorem tz49 : tzero Try.prog 49 = some [.int .u16 0, .int .u16 0, .int .u8 0, .int .u8 0] := by kernel_rfl
theorem tb49 : tbytes Try.prog 49 = some 6 := by kernel_rfl
theorem pl49 : places Try.prog [(0, 47), (1, 47), (2, 5), (3, 5)] = some [(0, 1), (1, 1), (2, 1), (3, 1)] := by kernel_rfl
theorem tk50 : tk Try.prog 50 = some (.other) := by kernel_rfl
theorem ts50 : tsize Try.prog 50 = some 1 := by kernel_rfl
theorem tz50 : tzero Try.prog 50 = some [.nilfunc] := by kernel_rfl
theorem tb50 : tbytes Try.prog 50 = some 8 := by kernel_rfl
theorem tk51 : tk Try.prog 51 = some (.other) := by kernel_rfl
theorem ts51 : tsize Try.prog 51 = some 1 := by kernel_rfl
theorem tz51 : tzero Try.prog 51 = some [.nilfunc] := by kernel_rfl
theorem tb51 : tbytes Try.prog 51 = some 8 := by kernel_rfl
theorem tk52 : tk Try.prog 52 = some (.other) := by kernel_rfl
theorem ts52 : tsize Try.prog 52 = some 1 := by kernel_rfl
theorem tz52 : tzero Try.prog 52 = some [.nilfunc] := by kernel_rfl
theorem tb52 : tbytes Try.prog 52 = some 8 := by kernel_rfl
theorem tk53 : tk Try.prog 53 = some (.st [(0, 22), (1, 22), (2, 41), (8, 41)]) := by kernel_rfl
theorem ts53 : tsize Try.prog 53 = some 14 := by kernel_rfl
theorem tz53 : tzero Try.prog 53 = some [.nilsl, .nilsl, .int .i64 0, .int .i64 0, .nilsl, .int .i64 0, .int .i64 0, .nilsl, .int .i64 0, .int .i64 0, .nilsl, .int .i64 0, .int .i64 0, .nilsl] := by kernel_rfl
theorem tb53 : tbytes Try.prog 53 = some 208 := by kernel_rfl
theorem pl53 : places Try.prog [(0, 22), (1, 22), (2, 41), (8, 41)] = some [(0, 1), (1, 1), (2, 6), (8, 6)] := by kernel_rfl
theorem tk54 : tk Try.prog 54 = some (.st [(0, 22), (1, 22), (2, 41), (8, 41)]) := by kernel_rfl
theorem ts54 : tsize Try.prog 54 = some 14 := by kernel_rfl
theorem tz54 : tzero Try.prog 54 = some [.nilsl, .nilsl, .int .i64 0, .int .i64 0, .nilsl, .int .i64 0, .int .i64 0, .nilsl, .int .i64 0, .int .i64 0, .nilsl, .int .i64 0, .int .i64 0, .nilsl] := by kernel_rfl
theorem tb54 : tbytes Try.prog 54 = some 208 := by kernel_rfl
theorem pl54 : places Try.prog [(0, 22), (1, 22), (2, 41), (8, 41)] = some [(0, 1), (1, 1), (2, 6), (8, 6)] := by kernel_rfl
theorem tk56 : tk Try.prog 56 = some (.other) := by kernel_rfl
theorem ts56 : tsize Try.prog 56 = some 1 := by kernel_rfl
theorem tz56 : tzero Try.prog 56 = some [.nilfunc] := by kernel_rfl
theorem tb56 : tbytes Try.prog 56 = some 8 := by kernel_rfl
theorem tk57 : tk Try.prog 57 = some (.other) := by kernel_rfl
theorem ts57 : tsize Try.prog 57 = some 1 := by kernel_rfl
theorem tz57 : tzero Try.prog 57 = some [.nilfunc] := by kernel_rfl
theorem tb57 : tbytes Try.prog 57 = some 8 := by kernel_rfl
theorem tk58 : tk Try.prog 58 = some (.other) := by kernel_rfl
theorem ts58 : tsize Try.prog 58 = some 1 := by kernel_rfl
theorem tz58 : tzero Try.prog 58 = some [.nilfunc] := by kernel_rfl
theorem tb58 : tbytes Try.prog 58 = some 8 := by kernel_rfl
theorem tk59 : tk Try.prog 59 = some (.st [(0, 41), (6, 24), (9, 30), (10, 30)]) := by kernel_rfl
theorem ts59 : tsize Try.prog 59 = some 11 := by kernel_rfl
theorem tz59 : tzero Try.prog 59 = some [.int .i64 0, .int .i64 0, .nilsl, .int .i64 0, .int .i64 0, .nilsl, .int .i64 0, .int .i64 0, .nilsl, .int .i64 0, .int .i64 0] := by kernel_rfl
theorem tb59 : tbytes Try.prog 59 = some 136 := by kernel_rfl
theorem pl59 : places Try.prog [(0, 41), (6, 24), (9, 30), (10, 30)] = some [(0, 6), (6, 3), (9, 1), (10, 1)] := by kernel_rfl
theorem tk60 : tk Try.prog 60 = some (.st [(0, 41), (6, 24), (9, 30), (10, 30)]) := by kernel_rfl
theorem ts60 : tsize Try.prog 60 = some 11 := by kernel_rfl
theorem tz60 : tzero Try.prog 60 = some [.int .i64 0, .int .i64 0, .nilsl, .int .i64 0, .int .i64 0, .nilsl, .int .i64 0, .int .i64 0, .nilsl, .int .i64 0, .int .i64 0] := by kernel_rfl
theorem tb60 : tbytes Try.prog 60 = some 136 := by kernel_rfl
theorem pl60 : places Try.prog [(0, 41), (6, 24), (9, 30), (10, 30)] = some [(0, 6), (6, 3), (9, 1), (10, 1)] := by kernel_rfl
theorem tk62 : tk Try.prog 62 = some (.other) := by kernel_rfl
theorem ts62 : tsize Try.prog 62 = some 1 := by kernel_rfl
theorem tz62 : tzero Try.prog 62 = some [.nilfunc] := by kernel_rfl
theorem tb62 : tbytes Try.prog 62 = some 8 := by kernel_rfl
theorem tk63 : tk Try.prog 63 = some (.other) := by kernel_rfl
theorem ts63 : tsize Try.prog 63 = some 1 := by kernel_rfl
theorem tz63 : tzero Try.prog 63 = some [.nilfunc] := by kernel_rfl
theorem tb63 : tbytes Try.prog 63 = some 8 := by kernel_rfl
theorem tk64 : tk Try.prog 64 = some (.arr 3 30) := by kernel_rfl
theorem ts64 : tsize Try.prog 64 = some 3 := by kernel_rfl
theorem tz64 : tzero Try.prog 64 = some [.int .i64 0, .int .i64 0, .int .i64 0] := by kernel_rfl
theorem tb64 : tbytes Try.prog 64 = some 24 := by kernel_rfl
theorem tk65 : tk Try.prog 65 = some (.st [(0, 41), (6, 24), (9, 24), (12, 24), (15, 64)]) := by kernel_rfl
theorem ts65 : tsize Try.prog 65 = some 18 := by kernel_rfl
theorem tz65 : tzero Try.prog 65 = some [.int .i64 0, .int .i64 0, .nilsl, .int .i64 0, .int .i64 0, .nilsl, .int .i64 0, .int .i64 0, .nilsl, .int .i64 0, .int .i64 0, .nilsl, .int .i64 0, .int .i64 0, .nilsl, .int .i64 0, .int .i64 0, .int .i64 0] := by kernel_rfl
theorem tb65 : tbytes Try.prog 65 = some 224 := by kernel_rfl
theorem pl65 : places Try.prog [(0, 41), (6, 24), (9, 24), (12, 24), (15, 64)] = some [(0, 6), (6, 3), (9, 3), (12, 3), (15, 3)] := by kernel_rfl
theorem tk66 : tk Try.prog 66 = some (.st [(0, 41), (6, 24), (9, 24), (12, 24), (15, 64)]) := by kernel_rfl
theorem ts66 : tsize Try.prog 66 = some 18 := by kernel_rfl
theorem tz66 : tzero Try.prog 66 = some [.int .i64 0, .int .i64 0, .nilsl, .int .i64 0, .int .i64 0, .nilsl, .int .i64 0, .int .i64 0, .nilsl, .int .i64 0, .int .i64 0, .nilsl, .int .i64 0, .int .i64 0, .nilsl, .int .i64 0, .int .i64 0, .int .i64 0] := by kernel_rfl
theorem tb66 : tbytes Try.prog 66 = some 224 := by kernel_rfl
theorem pl66 : places Try.prog [(0, 41), (6, 24), (9, 24), (12, 24), (15, 64)] = some [(0, 6), (6, 3), (9, 3), (12, 3), (15, 3)] := by kernel_rfl
theorem tk68 : tk Try.prog 68 = some (.other) := by kernel_rfl
theorem ts68 : tsize Try.prog 68 = some 1 := by kernel_rfl
theorem tz68 : tzero Try.prog 68 = some [.nilfunc] := by kernel_rfl
theorem tb68 : tbytes Try.prog 68 = some 8 := by kernel_rfl
theorem tk69 : tk Try.prog 69 = some (.other) := by kernel_rfl
theorem ts69 : tsize Try.prog 69 = some 1 := by kernel_rfl
theorem tz69 : tzero Try.prog 69 = some [.nilfunc] := by kernel_rfl
theorem tb69 : tbytes Try.prog 69 = some 8 := by kernel_rfl
theorem tk71 : tk Try.prog 71 = some (.other) := by kernel_rfl
theorem ts71 : tsize Try.prog 71 = some 1 := by kernel_rfl
theorem tz71 : tzero Try.prog 71 = some [.nilfunc] := by kernel_rfl
theorem tb71 : tbytes Try.prog 71 = some 8 := by kernel_rfl
theorem tk72 : tk Try.prog 72 = some (.st [(0, 30), (1, 30), (2, 30), (3, 30), (4, 30), (5, 30)]) := by kernel_rfl
theorem ts72 : tsize Try.prog 72 = some 6 := by kernel_rfl
theorem tz72 : tzero Try.prog 72 = some [.int .i64 0, .int .i64 0, .int .i64 0, .int .i64 0, .int .i64 0, .int .i64 0] := by kernel_rfl
theorem tb72 : tbytes Try.prog 72 = some 48 := by kernel_rfl
theorem pl72 : places Try.prog [(0, 30), (1, 30), (2, 30), (3, 30), (4, 30), (5, 30)] = some [(0, 1), (1, 1), (2, 1), (3, 1), (4, 1), (5, 1)] := by kernel_rfl
theorem tk73 : tk Try.prog 73 = some (.st [(0, 30), (1, 30), (2, 30), (3, 30), (4, 30), (5, 30)]) := by kernel_rfl
theorem ts73 : tsize Try.prog 73 = some 6 := by kernel_rfl
theorem tz73 : tzero Try.prog 73 = some [.int .i64 0, .int .i64 0, .int .i64 0, .int .i64 0, .int .i64 0, .int .i64 0] := by kernel_rfl
theorem tb73 : tbytes Try.prog 73 = some 48 := by kernel_rfl
theorem pl73 : places Try.prog [(0, 30), (1, 30), (2, 30), (3, 30), (4, 30), (5, 30)] = some [(0, 1), (1, 1), (2, 1), (3, 1), (4, 1), (5, 1)] := by kernel_rfl
theorem tk74 : tk Try.prog 74 = some (.other) := by kernel_rfl
theorem ts74 : tsize Try.prog 74 = some 1 := by kernel_rfl
theorem tz74 : tzero Try.prog 74 = some [.nilfunc] := by kernel_rfl
theorem tb74 : tbytes Try.prog 74 = some 8 := by kernel_rfl
theorem tk75 : tk Try.prog 75 = some (.arr 4 30) := by kernel_rfl
theorem ts75 : tsize Try.prog 75 = some 4 := by kernel_rfl
theorem tz75 : tzero Try.prog 75 = some [.int .i64 0, .int .i64 0, .int .i64 0, .int .i64 0] := by kernel_rfl
theorem tb75 : tbytes Try.prog 75 = some 32 := by kernel_rfl
theorem tk76 : tk Try.prog 76 = some (.arr 4 30) := by kernel_rfl
theorem ts76 : tsize Try.prog 76 = some 4 := by kernel_rfl
theorem tz76 : tzero Try.prog 76 = some [.int .i64 0, .int .i64 0, .int .i64 0, .int .i64 0] := by kernel_rfl
theorem tb76 : tbytes Try.prog 76 = some 32 := by kernel_rfl
theorem tk77 : tk Try.prog 77 = some (.arr 3 41) := by kernel_rfl
theorem ts77 : tsize Try.prog 77 = some 18 := by kernel_rfl
theorem tz77 : tzero Try.prog 77 = some [.int .i64 0, .int .i64 0, .nilsl, .int .i64 0, .int .i64 0, .nilsl, .int .i64 0, .int .i64 0, .nilsl, .int .i64 0, .int .i64 0, .nilsl, .int .i64 0, .int .i64 0, .nilsl, .int .i64 0, .int .i64 0, .nilsl] := by kernel_rfl
theorem tb77 : tbytes Try.prog 77 = some 240 := by kernel_rfl
theorem tk78 : tk Try.prog 78 = some (.arr 4 3) := by kernel_rfl
theorem ts78 : tsize Try.prog 78 = some 4 := by kernel_rfl
theorem tz78 : tzero Try.prog 78 = some [.int .i64 0, .int .i64 0, .int .i64 0, .int .i64 0] := by kernel_rfl
theorem tb78 : tbytes Try.prog 78 = some 32 := by kernel_rfl
theorem tk79 : tk Try.prog 79 = some (.st [(0, 76), (4, 77), (22, 3), (23, 3), (24, 78), (28, 4)]) := by kernel_rfl
theorem ts79 : tsize Try.prog 79 = some 29 := by kernel_rfl
theorem tz79 : tzero Try.prog 79 = some [.int .i64 0, .int .i64 0, .int .i64 0, .int .i64 0, .int .i64 0, .int .i64 0, .nilsl, .int .i64 0, .int .i64 0, .nilsl, .int .i64 0, .int .i64 0, .nilsl, .int .i64 0, .int .i64 0, .nilsl, .int .i64 0, .int .i64 0, .nilsl, .int .i64 0, .int .i64 0, .nilsl, .int .i64 0, .int .i64 0, .int .i64 0, .int .i64 0, .int .i64 0, .int .i64 0, .bool false] := by kernel_rfl
theorem tb79 : tbytes Try.prog 79 = some 328 := by kernel_rfl
theorem pl79 : places Try.prog [(0, 76), (4, 77), (22, 3), (23, 3), (24, 78), (28, 4)] = some [(0, 4), (4, 18), (22, 1), (23, 1), (24, 4), (28, 1)] := by kernel_rfl
theorem tk80 : tk Try.prog 80 = some (.st [(0, 76), (4, 77), (22, 3), (23, 3), (24, 78), (28, 4)]) := by kernel_rfl
theorem ts80 : tsize Try.prog 80 = some 29 := by kernel_rfl
theorem tz80 : tzero Try.prog 80 = some [.int .i64 0, .int .i64 0, .int .i64 0, .int .i64 0, .int .i64 0, .int .i64 0, .nilsl, .int .i64 0, .int .i64 0, .nilsl, .int .i64 0, .int .i64 0, .nilsl, .int .i64 0, .int .i64 0, .nilsl, .int .i64 0, .int .i64 0, .nilsl, .int .i64 0, .int .i64 0, .nilsl, .int .i64 0, .int .i64 0, .int .i64 0, .int .i64 0, .int .i64 0, .int .i64 0, .bool false] := by kernel_rfl
theorem tb80 : tbytes Try.prog 80 = some 328 := by kernel_rfl
theorem pl80 : places Try.prog [(0, 76), (4, 77), (22, 3), (23, 3), (24, 78), (28, 4)] = some [(0, 4), (4, 18), (22, 1), (23, 1), (24, 4), (28, 1)] := by kernel_rfl
theorem tk82 : tk Try.prog 82 = some (.other) := by kernel_rfl
theorem ts82 : tsize Try.prog 82 = some 1 := by kernel_rfl
theorem tz82 : tzero Try.prog 82 = some [.nilfunc] := by kernel_rfl
theorem tb82 : tbytes Try.prog 82 = some 8 := by kernel_rfl
theorem tk83 : tk Try.prog 83 = some (.arr 3 30) := by kernel_rfl
theorem ts83 : tsize Try.prog 83 = some 3 := by kernel_rfl
theorem tz83 : tzero Try.prog 83 = some [.int .i64 0, .int .i64 0, .int .i64 0] := by kernel_rfl
theorem tb83 : tbytes Try.prog 83 = some 24 := by kernel_rfl
theorem tk85 : tk Try.prog 85 = some (.other) := by kernel_rfl
theorem ts85 : tsize Try.prog 85 = some 1 := by kernel_rfl
theorem tz85 : tzero Try.prog 85 = some [.nilfunc] := by kernel_rfl
theorem tb85 : tbytes Try.prog 85 = some 8 := by kernel_rfl
theorem tk86 : tk Try.prog 86 = some (.st [(0, 4), (1, 83), (4, 83), (7, 4), (8, 30), (9, 4), (10, 83)]) := by kernel_rfl
theorem ts86 : tsize Try.prog 86 = some 13 := by kernel_rfl
theorem tz86 : tzero Try.prog 86 = some [.bool false, .int .i64 0, .int .i64 0, .int .i64 0, .int .i64 0, .int .i64 0, .int .i64 0, .bool false, .int .i64 0, .bool false, .int .i64 0, .int .i64 0, .int .i64 0] := by kernel_rfl
theorem tb86 : tbytes Try.prog 86 = some 104 := by kernel_rfl
theorem pl86 : places Try.prog [(0, 4), (1, 83), (4, 83), (7, 4), (8, 30), (9, 4), (10, 83)] = some [(0, 1), (1, 3), (4, 3), (7, 1), (8, 1), (9, 1), (10, 3)] := by kernel_rfl
theorem tk87 : tk Try.prog 87 = some (.st [(0, 4), (1, 83), (4, 83), (7, 4), (8, 30), (9, 4), (10, 83)]) := by kernel_rfl
theorem ts87 : tsize Try.prog 87 = some 13 := by kernel_rfl
theorem tz87 : tzero Try.prog 87 = some [.bool false, .int .i64 0, .int .i64 0, .int .i64 0, .int .i64 0, .int .i64 0, .int .i64 0, .bool false, .int .i64 0, .bool false, .int .i64 0, .int .i64 0, .int .i64 0] := by kernel_rfl
theorem tb87 : tbytes Try.prog 87 = some 104 := by kernel_rfl
theorem pl87 : places Try.prog [(0, 4), (1, 83), (4, 83), (7, 4), (8, 30), (9, 4), (10, 83)] = some [(0, 1), (1, 3), (4, 3), (7, 1), (8, 1), (9, 1), (10, 3)] := by kernel_rfl
theorem tk88 : tk Try.prog 88 = some (.other) := by kernel_rfl
theorem ts88 : tsize Try.prog 88 = some 1 := by kernel_rfl
theorem tz88 : tzero Try.prog 88 = some [.nilfunc] := by kernel_rfl
theorem tb88 : tbytes Try.prog 88 = some 8 := by kernel_rfl
theorem tk89 : tk Try.prog 89 = some (.other) := by kernel_rfl
theorem ts89 : tsize Try.prog 89 = some 1 := by kernel_rfl
theorem tz89 : tzero Try.prog 89 = some [.nilfunc] := by kernel_rfl
theorem tb89 : tbytes Try.prog 89 = some 8 := by kernel_rfl
theorem tk90 : tk Try.prog 90 = some (.other) := by kernel_rfl
theorem ts90 : tsize Try.prog 90 = some 1 := by kernel_rfl
theorem tz90 : tzero Try.prog 90 = some [.nilfunc] := by kernel_rfl
theorem tb90 : tbytes Try.prog 90 = some 8 := by kernel_rfl
theorem tk91 : tk Try.prog 91 = some (.other) := by kernel_rfl
theorem ts91 : tsize Try.prog 91 = some 1 := by kernel_rfl
theorem tz91 : tzero Try.prog 91 = some [.nilfunc] := by kernel_rfl
theorem tb91 : tbytes Try.prog 91 = some 8 := by kernel_rfl
theorem tk92 : tk Try.prog 92 = some (.other) := by kernel_rfl
theorem ts92 : tsize Try.prog 92 = some 1 := by kernel_rfl
theorem tz92 : tzero Try.prog 92 = some [.nilfunc] := by kernel_rfl
theorem tb92 : tbytes Try.prog 92 = some 8 := by kernel_rfl
theorem tk93 : tk Try.prog 93 = some (.sl 87) := by kernel_rfl
theorem ts93 : tsize Try.prog 93 = some 1 := by kernel_rfl
theorem tz93 : tzero Try.prog 93 = some [.nilsl] := by kernel_rfl
theorem tb93 : tbytes Try.prog 93 = some 24 := by kernel_rfl
theorem tk94 : tk Try.prog 94 = some (.sl 114) := by kernel_rfl
theorem ts94 : tsize Try.prog 94 = some 1 := by kernel_rfl
theorem tz94 : tzero Try.prog 94 = some [.nilsl] := by kernel_rfl
theorem tb94 : tbytes Try.prog 94 = some 24 := by kernel_rfl
theorem tk95 : tk Try.prog 95 = some (.st [(0, 93), (1, 93), (2, 94), (3, 2)]) := by kernel_rfl
theorem ts95 : tsize Try.prog 95 = some 4 := by kernel_rfl
theorem tz95 : tzero Try.prog 95 = some [.nilsl, .nilsl, .nilsl, .int .i64 0] := by kernel_rfl
theorem tb95 : tbytes Try.prog 95 = some 80 := by kernel_rfl
theorem pl95 : places Try.prog [(0, 93), (1, 93), (2, 94), (3, 2)] = some [(0, 1), (1, 1), (2, 1), (3, 1)] := by kernel_rfl
theorem tk96 : tk Try.prog 96 = some (.st [(0, 93), (1, 93), (2, 94), (3, 2)]) := by kernel_rfl
theorem ts96 : tsize Try.prog 96 = some 4 := by kernel_rfl
theorem tz96 : tzero Try.prog 96 = some [.nilsl, .nilsl, .nilsl, .int .i64 0] := by kernel_rfl
theorem tb96 : tbytes Try.prog 96 = some 80 := by kernel_rfl
theorem pl96 : places Try.prog [(0, 93), (1, 93), (2, 94), (3, 2)] = some [(0, 1), (1, 1), (2, 1), (3, 1)] := by kernel_rfl
theorem tk97 : tk Try.prog 97 = some (.other) := by kernel_rfl
theorem ts97 : tsize Try.prog 97 = some 1 := by kernel_rfl
theorem tz97 : tzero Try.prog 97 = some [.nilfunc] := by kernel_rfl
theorem tb97 : tbytes Try.prog 97 = some 8 := by kernel_rfl
theorem tk98 : tk Try.prog 98 = some (.other) := by kernel_rfl
theorem ts98 : tsize Try.prog 98 = some 1 := by kernel_rfl
theorem tz98 : tzero Try.prog 98 = some [.nilfunc] := by kernel_rfl
theorem tb98 : tbytes Try.prog 98 = some 8 := by kernel_rfl
theorem tk99 : tk Try.prog 99 = some (.other) := by kernel_rfl
theorem ts99 : tsize Try.prog 99 = some 1 := by kernel_rfl
theorem tz99 : tzero Try.prog 99 = some [.nilfunc] := by kernel_rfl
theorem tb99 : tbytes Try.prog 99 = some 8 := by kernel_rfl
theorem tk100 : tk Try.prog 100 = some (.sl 112) := by kernel_rfl
theorem ts100 : tsize Try.prog 100 = some 1 := by kernel_rfl
theorem tz100 : tzero Try.prog 100 = some [.nilsl] := by kernel_rfl
theorem tb100 : tbytes Try.prog 100 = some 24 := by kernel_rfl
theorem tk101 : tk Try.prog 101 = some (.other) := by kernel_rfl
theorem ts101 : tsize Try.prog 101 = some 1 := by kernel_rfl
theorem tz101 : tzero Try.prog 101 = some [.nilfunc] := by kernel_rfl
theorem tb101 : tbytes Try.prog 101 = some 8 := by kernel_rfl
theorem tk102 : tk Try.prog 102 = some (.other) := by kernel_rfl
theorem ts102 : tsize Try.prog 102 = some 1 := by kernel_rfl
theorem tz102 : tzero Try.prog 102 = some [.nilfunc] := by kernel_rfl
theorem tb102 : tbytes Try.prog 102 = some 8 := by kernel_rfl
theorem tk103 : tk Try.prog 103 = some (.st [(0, 73), (6, 93), (7, 3), (8, 100)]) := by kernel_rfl
theorem ts103 : tsize Try.prog 103 = some 9 := by kernel_rfl
theorem tz103 : tzero Try.prog 103 = some [.int .i64 0, .int .i64 0, .int .i64 0, .int .i64 0, .int .i64 0, .int .i64 0, .nilsl, .int .i64 0, .nilsl] := by kernel_rfl
theorem tb103 : tbytes Try.prog 103 = some 104 := by kernel_rfl
theorem pl103 : places Try.prog [(0, 73), (6, 93), (7, 3), (8, 100)] = some [(0, 6), (6, 1), (7, 1), (8, 1)] := by kernel_rfl
theorem tk104 : tk Try.prog 104 = some (.st [(0, 73), (6, 93), (7, 3), (8, 100)]) := by kernel_rfl
theorem ts104 : tsize Try.prog 104 = some 9 := by kernel_rfl
theorem tz104 : tzero Try.prog 104 = some [.int .i64 0, .int .i64 0, .int .i64 0, .int .i64 0, .int .i64 0, .int .i64 0, .nilsl, .int .i64 0, .nilsl] := by kernel_rfl
theorem tb104 : tbytes Try.prog 104 = some 104 := by kernel_rfl
theorem pl104 : places Try.prog [(0, 73), (6, 93), (7, 3), (8, 100)] = some [(0, 6), (6, 1), (7, 1), (8, 1)] := by kernel_rfl
theorem tk105 : tk Try.prog 105 = some (.sl 83) := by kernel_rfl
theorem ts105 : tsize Try.prog 105 = some 1 := by kernel_rfl
theorem tz105 : tzero Try.prog 105 = some [.nilsl] := by kernel_rfl
theorem tb105 : tbytes Try.prog 105 = some 24 := by kernel_rfl
theorem tk107 : tk Try.prog 107 = some (.other) := by kernel_rfl
theorem ts107 : tsize Try.prog 107 = some 1 := by kernel_rfl
theorem tz107 : tzero Try.prog 107 = some [.nilfunc] := by kernel_rfl
theorem tb107 : tbytes Try.prog 107 = some 8 := by kernel_rfl
theorem tk108 : tk Try.prog 108 = some (.other) := by kernel_rfl
theorem ts108 : tsize Try.prog 108 = some 1 := by kernel_rfl
theorem tz108 : tzero Try.prog 108 = some [.nilfunc] := by kernel_rfl
theorem tb108 : tbytes Try.prog 108 = some 8 := by kernel_rfl
theorem tk109 : tk Try.prog 109 = some (.other) := by kernel_rfl
theorem ts109 : tsize Try.prog 109 = some 1 := by kernel_rfl
theorem tz109 : tzero Try.prog 109 = some [.nilfunc] := by kernel_rfl
theorem tb109 : tbytes Try.prog 109 = some 8 := by kernel_rfl
theorem tk110 : tk Try.prog 110 = some (.other) := by kernel_rfl
theorem ts110 : tsize Try.prog 110 = some 1 := by kernel_rfl
theorem tz110 : tzero Try.prog 110 = some [.nilfunc] := by kernel_rfl
theorem tb110 : tbytes Try.prog 110 = some 8 := by kernel_rfl
theorem tk111 : tk Try.prog 111 = some (.st [(0, 2), (1, 83)]) := by kernel_rfl
theorem ts111 : tsize Try.prog 111 = some 4 := by kernel_rfl
theorem tz111 : tzero Try.prog 111 = some [.int .i64 0, .int .i64 0, .int .i64 0, .int .i64 0] := by kernel_rfl
theorem tb111 : tbytes Try.prog 111 = some 32 := by kernel_rfl
theorem pl111 : places Try.prog [(0, 2), (1, 83)] = some [(0, 1), (1, 3)] := by kernel_rfl
theorem tk112 : tk Try.prog 112 = some (.st [(0, 2), (1, 83)]) := by kernel_rfl
theorem ts112 : tsize Try.prog 112 = some 4 := by kernel_rfl
theorem tz112 : tzero Try.prog 112 = some [.int .i64 0, .int .i64 0, .int .i64 0, .int .i64 0] := by kernel_rfl
theorem tb112 : tbytes Try.prog 112 = some 32 := by kernel_rfl
theorem pl112 : places Try.prog [(0, 2), (1, 83)] = some [(0, 1), (1, 3)] := by kernel_rfl
theorem tk113 : tk Try.prog 113 = some (.st [(0, 2), (1, 2), (2, 83)]) := by kernel_rfl
theorem ts113 : tsize Try.prog 113 = some 5 := by kernel_rfl
theorem tz113 : tzero Try.prog 113 = some [.int .i64 0, .int .i64 0, .int .i64 0, .int .i64 0, .int .i64 0] := by kernel_rfl
theorem tb113 : tbytes Try.prog 113 = some 40 := by kernel_rfl
theorem pl113 : places Try.prog [(0, 2), (1, 2), (2, 83)] = some [(0, 1), (1, 1), (2, 3)] := by kernel_rfl
theorem tk114 : tk Try.prog 114 = some (.st [(0, 2), (1, 2), (2, 83)]) := by kernel_rfl
theorem ts114 : tsize Try.prog 114 = some 5 := by kernel_rfl
theorem tz114 : tzero Try.prog 114 = some [.int .i64 0, .int .i64 0, .int .i64 0, .int .i64 0, .int .i64 0] := by kernel_rfl
theorem tb114 : tbytes Try.prog 114 = some 40 := by kernel_rfl
theorem pl114 : places Try.prog [(0, 2), (1, 2), (2, 83)] = some [(0, 1), (1, 1), (2, 3)] := by kernel_rfl
theorem tk115 : tk Try.prog 115 = some (.other) := by kernel_rfl
theorem ts115 : tsize Try.prog 115 = some 1 := by kernel_rfl
theorem tz115 : tzero Try.prog 115 = some [.nilfunc] := by kernel_rfl
theorem tb115 : tbytes Try.prog 115 = some 8 := by kernel_rfl
theorem tk116 : tk Try.prog 116 = some (.st [(0, 73), (6, 93), (7, 2), (8, 30)]) := by kernel_rfl
theorem ts116 : tsize Try.prog 116 = some 9 := by kernel_rfl
theorem tz116 : tzero Try.prog 116 = some [.int .i64 0, .int .i64 0, .int .i64 0, .int .i64 0, .int .i64 0, .int .i64 0, .nilsl, .int .i64 0, .int .i64 0] := by kernel_rfl
theorem tb116 : tbytes Try.prog 116 = some 88 := by kernel_rfl
theorem pl116 : places Try.prog [(0, 73), (6, 93), (7, 2), (8, 30)] = some [(0, 6), (6, 1), (7, 1), (8, 1)] := by kernel_rfl
theorem tk117 : tk Try.prog 117 = some (.st [(0, 73), (6, 93), (7, 2), (8, 30)]) := by kernel_rfl
theorem ts117 : tsize Try.prog 117 = some 9 := by kernel_rfl
theorem tz117 : tzero Try.prog 117 = some [.int .i64 0, .int .i64 0, .int .i64 0, .int .i64 0, .int .i64 0, .int .i64 0, .nilsl, .int .i64 0, .int .i64 0] := by kernel_rfl
theorem tb117 : tbytes Try.prog 117 = some 88 := by kernel_rfl
theorem pl117 : places Try.prog [(0, 73), (6, 93), (7, 2), (8, 30)] = some [(0, 6), (6, 1), (7, 1), (8, 1)] := by kernel_rfl
theorem tk118 : tk Try.prog 118 = some (.other) := by kernel_rfl
theorem ts118 : tsize Try.prog 118 = some 1 := by kernel_rfl
theorem tz118 : tzero Try.prog 118 = some [.nilfunc] := by kernel_rfl
theorem tb118 : tbytes Try.prog 118 = some 8 := by kernel_rfl
theorem tk119 : tk Try.prog 119 = some (.other) := by kernel_rfl
theorem ts119 : tsize Try.prog 119 = some 1 := by kernel_rfl
theorem tz119 : tzero Try.prog 119 = some [.nilfunc] := by kernel_rfl
theorem tb119 : tbytes Try.prog 119 = some 8 := by kernel_rfl
theorem tk120 : tk Try.prog 120 = some (.sl 2) := by kernel_rfl
theorem ts120 : tsize Try.prog 120 = some 1 := by kernel_rfl
theorem tz120 : tzero Try.prog 120 = some [.nilsl] := by kernel_rfl
theorem tb120 : tbytes Try.prog 120 = some 24 := by kernel_rfl
theorem tk121 : tk Try.prog 121 = some (.other) := by kernel_rfl
theorem ts121 : tsize Try.prog 121 = some 1 := by kernel_rfl
theorem tz121 : tzero Try.prog 121 = some [.nilfunc] := by kernel_rfl
theorem tb121 : tbytes Try.prog 121 = some 8 := by kernel_rfl
theorem tk122 : tk Try.prog 122 = some (.other) := by kernel_rfl
theorem ts122 : tsize Try.prog 122 = some 1 := by kernel_rfl
theorem tz122 : tzero Try.prog 122 = some [.nilfunc] := by kernel_rfl
theorem tb122 : tbytes Try.prog 122 = some 8 := by kernel_rfl
theorem tk123 : tk Try.prog 123 = some (.other) := by kernel_rfl
theorem ts123 : tsize Try.prog 123 = some 1 := by kernel_rfl
theorem tz123 : tzero Try.prog 123 = some [.nilfunc] := by kernel_rfl
theorem tb123 : tbytes Try.prog 123 = some 8 := by kernel_rfl
theorem tk124 : tk Try.prog 124 = some (.other) := by kernel_rfl
theorem ts124 : tsize Try.prog 124 = some 1 := by kernel_rfl
theorem tz124 : tzero Try.prog 124 = some [.nilfunc] := by kernel_rfl
theorem tb124 : tbytes Try.prog 124 = some 8 := by kernel_rfl
theorem tk125 : tk Try.prog 125 = some (.other) := by kernel_rfl
theorem ts125 : tsize Try.prog 125 = some 1 := by kernel_rfl
theorem tz125 : tzero Try.prog 125 = some [.nilfunc] := by kernel_rfl
theorem tb125 : tbytes Try.prog 125 = some 8 := by kernel_rfl
theorem tk126 : tk Try.prog 126 = some (.other) := by kernel_rfl
theorem ts126 : tsize Try.prog 126 = some 1 := by kernel_rfl
theorem tz126 : tzero Try.prog 126 = some [.nilfunc] := by kernel_rfl
theorem tb126 : tbytes Try.prog 126 = some 8 := by kernel_rfl
theorem tk127 : tk Try.prog 127 = some (.other) := by kernel_rfl
theorem ts127 : tsize Try.prog 127 = some 1 := by kernel_rfl
theorem tz127 : tzero Try.prog 127 = some [.nilfunc] := by kernel_rfl
theorem tb127 : tbytes Try.prog 127 = some 8 := by kernel_rfl
theorem tk128 : tk Try.prog 128 = some (.other) := by kernel_rfl
theorem ts128 : tsize Try.prog 128 = some 1 := by kernel_rfl
theorem tz128 : tzero Try.prog 128 = some [.nilfunc] := by kernel_rfl
theorem tb128 : tbytes Try.prog 128 = some 8 := by kernel_rfl
theorem tk130 : tk Try.prog 130 = some (.other) := by kernel_rfl
theorem ts130 : tsize Try.prog 130 = some 1 := by kernel_rfl
theorem tz130 : tzero Try.prog 130 = some [.nilfunc] := by kernel_rfl
theorem tb130 : tbytes Try.prog 130 = some 8 := by kernel_rfl
theorem tk131 : tk Try.prog 131 = some (.st [(0, 3), (1, 3)]) := by kernel_rfl
theorem ts131 : tsize Try.prog 131 = some 2 := by kernel_rfl
theorem tz131 : tzero Try.prog 131 = some [.int .i64 0, .int .i64 0] := by kernel_rfl
theorem tb131 : tbytes Try.prog 131 = some 16 := by kernel_rfl
theorem pl131 : places Try.prog [(0, 3), (1, 3)] = some [(0, 1), (1, 1)] := by kernel_rfl
theorem tk132 : tk Try.prog 132 = some (.st [(0, 3), (1, 3)]) := by kernel_rfl
theorem ts132 : tsize Try.prog 132 = some 2 := by kernel_rfl
theorem tz132 : tzero Try.prog 132 = some [.int .i64 0, .int .i64 0] := by kernel_rfl
theorem tb132 : tbytes Try.prog 132 = some 16 := by kernel_rfl
theorem pl132 : places Try.prog [(0, 3), (1, 3)] = some [(0, 1), (1, 1)] := by kernel_rfl
theorem tk133 : tk Try.prog 133 = some (.other) := by kernel_rfl
theorem ts133 : tsize Try.prog 133 = some 1 := by kernel_rfl
theorem tz133 : tzero Try.prog 133 = some [.nilfunc] := by kernel_rfl
theorem tb133 : tbytes Try.prog 133 = some 8 := by kernel_rfl
theorem tk134 : tk Try.prog 134 = some (.other) := by kernel_rfl
theorem ts134 : tsize Try.prog 134 = some 1 := by kernel_rfl
theorem tz134 : tzero Try.prog 134 = some [.nilfunc] := by kernel_rfl
theorem tb134 : tbytes Try.prog 134 = some 8 := by kernel_rfl
theorem tk135 : tk Try.prog 135 = some (.other) := by kernel_rfl
theorem ts135 : tsize Try.prog 135 = some 1 := by kernel_rfl
theorem tz135 : tzero Try.prog 135 = some [.nilfunc] := by kernel_rfl
theorem tb135 : tbytes Try.prog 135 = some 8 := by kernel_rfl
theorem tk137 : tk Try.prog 137 = some (.other) := by kernel_rfl
theorem ts137 : tsize Try.prog 137 = some 1 := by kernel_rfl
theorem tz137 : tzero Try.prog 137 = some [.nilfunc] := by kernel_rfl
theorem tb137 : tbytes Try.prog 137 = some 8 := by kernel_rfl
theorem tk138 : tk Try.prog 138 = some (.other) := by kernel_rfl
theorem ts138 : tsize Try.prog 138 = some 1 := by kernel_rfl
theorem tz138 : tzero Try.prog 138 = some [.nilfunc] := by kernel_rfl
theorem tb138 : tbytes Try.prog 138 = some 8 := by kernel_rfl
theorem tk139 : tk Try.prog 139 = some (.other) := by kernel_rfl
theorem ts139 : tsize Try.prog 139 = some 1 := by kernel_rfl
theorem tz139 : tzero Try.prog 139 = some [.nilfunc] := by kernel_rfl
theorem tb139 : tbytes Try.prog 139 = some 8 := by kernel_rfl
theorem tk140 : tk Try.prog 140 = some (.ptr 142) := by kernel_rfl
theorem ts140 : tsize Try.prog 140 = some 1 := by kernel_rfl
theorem tz140 : tzero Try.prog 140 = some [.nilptr] := by kernel_rfl
theorem tb140 : tbytes Try.prog 140 = some 8 := by kernel_rfl
theorem tk141 : tk Try.prog 141 = some (.st [(0, 4)]) := by kernel_rfl
theorem ts141 : tsize Try.prog 141 = some 1 := by kernel_rfl
theorem tz141 : tzero Try.prog 141 = some [.bool false] := by kernel_rfl
theorem tb141 : tbytes Try.prog 141 = some 1 := by kernel_rfl
theorem pl141 : places Try.prog [(0, 4)] = some [(0, 1)] := by kernel_rfl
theorem tk142 : tk Try.prog 142 = some (.st [(0, 4)]) := by kernel_rfl
theorem ts142 : tsize Try.prog 142 = some 1 := by kernel_rfl
theorem tz142 : tzero Try.prog 142 = some [.bool false] := by kernel_rfl
theorem tb142 : tbytes Try.prog 142 = some 1 := by kernel_rfl
theorem pl142 : places Try.prog [(0, 4)] = some [(0, 1)] := by kernel_rfl
theorem tk144 : tk Try.prog 144 = some (.other) := by kernel_rfl
theorem ts144 : tsize Try.prog 144 = some 1 := by kernel_rfl
theorem tz144 : tzero Try.prog 144 = some [.nilfunc] := by kernel_rfl
theorem tb144 : tbytes Try.prog 144 = some 8 := by kernel_rfl
theorem tk145 : tk Try.prog 145 = some (.other) := by kernel_rfl
theorem ts145 : tsize Try.prog 145 = some 1 := by kernel_rfl
theorem tz145 : tzero Try.prog 145 = some [.nilfunc] := by kernel_rfl
theorem tb145 : tbytes Try.prog 145 = some 8 := by kernel_rfl
theorem tk146 : tk Try.prog 146 = some (.other) := by kernel_rfl
theorem ts146 : tsize Try.prog 146 = some 1 := by kernel_rfl
theorem tz146 : tzero Try.prog 146 = some [.nilfunc] := by kernel_rfl
theorem tb146 : tbytes Try.prog 146 = some 8 := by kernel_rfl
theorem tk147 : tk Try.prog 147 = some (.other) := by kernel_rfl
theorem ts147 : tsize Try.prog 147 = some 1 := by kernel_rfl
theorem tz147 : tzero Try.prog 147 = some [.nilfunc] := by kernel_rfl
theorem tb147 : tbytes Try.prog 147 = some 8 := by kernel_rfl
theorem tk149 : tk Try.prog 149 = some (.other) := by kernel_rfl
theorem ts149 : tsize Try.prog 149 = some 1 := by kernel_rfl
theorem tz149 : tzero Try.prog 149 = some [.nilfunc] := by kernel_rfl
theorem tb149 : tbytes Try.prog 149 = some 8 := by kernel_rfl
theorem tk150 : tk Try.prog 150 = some (.other) := by kernel_rfl
theorem ts150 : tsize Try.prog 150 = some 1 := by kernel_rfl
theorem tz150 : tzero Try.prog 150 = some [.nilfunc] := by kernel_rfl
theorem tb150 : tbytes Try.prog 150 = some 8 := by kernel_rfl
theorem tk151 : tk Try.prog 151 = some (.other) := by kernel_rfl
theorem ts151 : tsize Try.prog 151 = some 1 := by kernel_rfl
theorem tz151 : tzero Try.prog 151 = some [.nilfunc] := by kernel_rfl
theorem tb151 : tbytes Try.prog 151 = some 8 := by kernel_rfl
theorem tk152 : tk Try.prog 152 = some (.other) := by kernel_rfl
theorem ts152 : tsize Try.prog 152 = some 1 := by kernel_rfl
theorem tz152 : tzero Try.prog 152 = some [.nilfunc] := by kernel_rfl
theorem tb152 : tbytes Try.prog 152 = some 8 := by kernel_rfl
theorem tk153 : tk Try.prog 153 = some (.ptr 155) := by kernel_rfl
theorem ts153 : tsize Try.prog 153 = some 1 := by kernel_rfl
theorem tz153 : tzero Try.prog 153 = some [.nilptr] := by kernel_rfl
theorem tb153 : tbytes Try.prog 153 = some 8 := by kernel_rfl
theorem tk154 : tk Try.prog 154 = some (.st [(0, 73), (6, 80), (35, 87), (48, 83)]) := by kernel_rfl
theorem ts154 : tsize Try.prog 154 = some 51 := by kernel_rfl
theorem tz154 : tzero Try.prog 154 = some [.int .i64 0, .int .i64 0, .int .i64 0, .int .i64 0, .int .i64 0, .int .i64 0, .int .i64 0, .int .i64 0, .int .i64 0, .int .i64 0, .int .i64 0, .int .i64 0, .nilsl, .int .i64 0, .int .i64 0, .nilsl, .int .i64 0, .int .i64 0, .nilsl, .int .i64 0, .int .i64 0, .nilsl, .int .i64 0, .int .i64 0, .nilsl, .int .i64 0, .int .i64 0, .nilsl, .int .i64 0, .int .i64 0, .int .i64 0, .int .i64 0, .int .i64 0, .int .i64 0, .bool false, .bool false, .int .i64 0, .int .i64 0, .int .i64 0, .int .i64 0, .int .i64 0, .int .i64 0, .bool false, .int .i64 0, .bool false, .int .i64 0, .int .i64 0, .int .i64 0, .int .i64 0, .int .i64 0, .int .i64 0] := by kernel_rfl
theorem tb154 : tbytes Try.prog 154 = some 504 := by kernel_rfl
theorem pl154 : places Try.prog [(0, 73), (6, 80), (35, 87), (48, 83)] = some [(0, 6), (6, 29), (35, 13), (48, 3)] := by kernel_rfl
theorem tk155 : tk Try.prog 155 = some (.st [(0, 73), (6, 80), (35, 87), (48, 83)]) := by kernel_rfl
theorem ts155 : tsize Try.prog 155 = some 51 := by kernel_rfl
theorem tz155 : tzero Try.prog 155 = some [.int .i64 0, .int .i64 0, .int .i64 0, .int .i64 0, .int .i64 0, .int .i64 0, .int .i64 0, .int .i64 0, .int .i64 0, .int .i64 0, .int .i64 0, .int .i64 0, .nilsl, .int .i64 0, .int .i64 0, .nilsl, .int .i64 0, .int .i64 0, .nilsl, .int .i64 0, .int .i64 0, .nilsl, .int .i64 0, .int .i64 0, .nilsl, .int .i64 0, .int .i64 0, .nilsl, .int .i64 0, .int .i64 0, .int .i64 0, .int .i64 0, .int .i64 0, .int .i64 0, .bool false, .bool false, .int .i64 0, .int .i64 0, .int .i64 0, .int .i64 0, .int .i64 0, .int .i64 0, .bool false, .int .i64 0, .bool false, .int .i64 0, .int .i64 0, .int .i64 0, .int .i64 0, .int .i64 0, .int .i64 0] := by kernel_rfl
theorem tb155 : tbytes Try.prog 155 = some 504 := by kernel_rfl
theorem pl155 : places Try.prog [(0, 73), (6, 80), (35, 87), (48, 83)] = some [(0, 6), (6, 29), (35, 13), (48, 3)] := by kernel_rfl
theorem tk156 : tk Try.prog 156 = some (.sl 1) := by kernel_rfl
theorem ts156 : tsize Try.prog 156 = some 1 := by kernel_rfl
theorem tz156 : tzero Try.prog 156 = some [.nilsl] := by kernel_rfl
theorem tb156 : tbytes Try.prog 156 = some 24 := by kernel_rfl
theorem tk157 : tk Try.prog 157 = some (.other) := by kernel_rfl
theorem ts157 : tsize Try.prog 157 = some 1 := by kernel_rfl
theorem tz157 : tzero Try.prog 157 = some [.nilfunc] := by kernel_rfl
theorem tb157 : tbytes Try.prog 157 = some 8 := by kernel_rfl
theorem tk158 : tk Try.prog 158 = some (.other) := by kernel_rfl
theorem ts158 : tsize Try.prog 158 = some 1 := by kernel_rfl
theorem tz158 : tzero Try.prog 158 = some [.nilfunc] := by kernel_rfl
theorem tb158 : tbytes Try.prog 158 = some 8 := by kernel_rfl
theorem tk159 : tk Try.prog 159 = some (.other) := by kernel_rfl
theorem ts159 : tsize Try.prog 159 = some 1 := by kernel_rfl
theorem tz159 : tzero Try.prog 159 = some [.nilfunc] := by kernel_rfl
theorem tb159 : tbytes Try.prog 159 = some 8 := by kernel_rfl
theorem tk160 : tk Try.prog 160 = some (.other) := by kernel_rfl
theorem ts160 : tsize Try.prog 160 = some 1 := by kernel_rfl
theorem tz160 : tzero Try.prog 160 = some [.nilfunc] := by kernel_rfl
theorem tb160 : tbytes Try.prog 160 = some 8 := by kernel_rfl
theorem tk161 : tk Try.prog 161 = some (.other) := by kernel_rfl
theorem ts161 : tsize Try.prog 161 = some 1 := by kernel_rfl
theorem tz161 : tzero Try.prog 161 = some [.nilfunc] := by kernel_rfl
theorem tb161 : tbytes Try.prog 161 = some 8 := by kernel_rfl
theorem tk162 : tk Try.prog 162 = some (.other) := by kernel_rfl
theorem ts162 : tsize Try.prog 162 = some 1 := by kernel_rfl
theorem tz162 : tzero Try.prog 162 = some [.nilfunc] := by kernel_rfl
theorem tb162 : tbytes Try.prog 162 = some 8 := by kernel_rfl
theorem tk163 : tk Try.prog 163 = some (.other) := by kernel_rfl
theorem ts163 : tsize Try.prog 163 = some 1 := by kernel_rfl
theorem tz163 : tzero Try.prog 163 = some [.nilfunc] := by kernel_rfl
theorem tb163 : tbytes Try.prog 163 = some 8 := by kernel_rfl
theorem tk164 : tk Try.prog 164 = some (.other) := by kernel_rfl
theorem ts164 : tsize Try.prog 164 = some 1 := by kernel_rfl
theorem tz164 : tzero Try.prog 164 = some [.nilfunc] := by kernel_rfl
theorem tb164 : tbytes Try.prog 164 = some 8 := by kernel_rfl
theorem tk165 : tk Try.prog 165 = some (.other) := by kernel_rfl
theorem ts165 : tsize Try.prog 165 = some 1 := by kernel_rfl
theorem tz165 : tzero Try.prog 165 = some [.nilfunc] := by kernel_rfl
theorem tb165 : tbytes Try.prog 165 = some 8 := by kernel_rfl
theorem tk166 : tk Try.prog 166 = some (.sl 3) := by kernel_rfl
theorem ts166 : tsize Try.prog 166 = some 1 := by kernel_rfl
theorem tz166 : tzero Try.prog 166 = some [.nilsl] := by kernel_rfl
theorem tb166 : tbytes Try.prog 166 = some 24 := by kernel_rfl
theorem tk167 : tk Try.prog 167 = some (.other) := by kernel_rfl
theorem ts167 : tsize Try.prog 167 = some 1 := by kernel_rfl
theorem tz167 : tzero Try.prog 167 = some [.nilfunc] := by kernel_rfl
theorem tb167 : tbytes Try.prog 167 = some 8 := by kernel_rfl
theorem tk168 : tk Try.prog 168 = some (.other) := by kernel_rfl
theorem ts168 : tsize Try.prog 168 = some 1 := by kernel_rfl
theorem tz168 : tzero Try.prog 168 = some [.nilfunc] := by kernel_rfl
theorem tb168 : tbytes Try.prog 168 = some 8 := by kernel_rfl
theorem tk170 : tk Try.prog 170 = some (.other) := by kernel_rfl
theorem ts170 : tsize Try.prog 170 = some 1 := by kernel_rfl
theorem tz170 : tzero Try.prog 170 = some [.nilfunc] := by kernel_rfl
theorem tb170 : tbytes Try.prog 170 = some 8 := by kernel_rfl
theorem tk171 : tk Try.prog 171 = some (.other) := by kernel_rfl
theorem ts171 : tsize Try.prog 171 = some 1 := by kernel_rfl
theorem tz171 : tzero Try.prog 171 = some [.nilfunc] := by kernel_rfl
theorem tb171 : tbytes Try.prog 171 = some 8 := by kernel_rfl
theorem tk172 : tk Try.prog 172 = some (.int .u64) := by kernel_rfl
theorem ts172 : tsize Try.prog 172 = some 1 := by kernel_rfl
theorem tz172 : tzero Try.prog 172 = some [.int .u64 0] := by kernel_rfl
theorem tb172 : tbytes Try.prog 172 = some 8 := by kernel_rfl
theorem tk173 : tk Try.prog 173 = some (.int .u64) := by kernel_rfl
theorem ts173 : tsize Try.prog 173 = some 1 := by kernel_rfl
theorem tz173 : tzero Try.prog 173 = some [.int .u64 0] := by kernel_rfl
theorem tb173 : tbytes Try.prog 173 = some 8 := by kernel_rfl
theorem tk175 : tk Try.prog 175 = some (.other) := by kernel_rfl
theorem ts175 : tsize Try.prog 175 = some 1 := by kernel_rfl
theorem tz175 : tzero Try.prog 175 = some [.nilfunc] := by kernel_rfl
theorem tb175 : tbytes Try.prog 175 = some 8 := by kernel_rfl
theorem tk177 : tk Try.prog 177 = some (.other) := by kernel_rfl
theorem ts177 : tsize Try.prog 177 = some 1 := by kernel_rfl
theorem tz177 : tzero Try.prog 177 = some [.nilfunc] := by kernel_rfl
theorem tb177 : tbytes Try.prog 177 = some 8 := by kernel_rfl
theorem tk178 : tk Try.prog 178 = some (.other) := by kernel_rfl
theorem ts178 : tsize Try.prog 178 = some 1 := by kernel_rfl
theorem tz178 : tzero Try.prog 178 = some [.nilfunc] := by kernel_rfl
theorem tb178 : tbytes Try.prog 178 = some 8 := by kernel_rfl
theorem tk179 : tk Try.prog 179 = some (.other) := by kernel_rfl
theorem ts179 : tsize Try.prog 179 = some 1 := by kernel_rfl
theorem tz179 : tzero Try.prog 179 = some [.nilfunc] := by kernel_rfl
theorem tb179 : tbytes Try.prog 179 = some 8 := by kernel_rfl
theorem tk180 : tk Try.prog 180 = some (.other) := by kernel_rfl
theorem ts180 : tsize Try.prog 180 = some 1 := by kernel_rfl
theorem tz180 : tzero Try.prog 180 = some [.nilfunc] := by kernel_rfl
theorem tb180 : tbytes Try.prog 180 = some 8 := by kernel_rfl
theorem tk181 : tk Try.prog 181 = some (.other) := by kernel_rfl
theorem ts181 : tsize Try.prog 181 = some 1 := by kernel_rfl
theorem tz181 : tzero Try.prog 181 = some [.nilfunc] := by kernel_rfl
theorem tb181 : tbytes Try.prog 181 = some 8 := by kernel_rfl
theorem tk182 : tk Try.prog 182 = some (.other) := by kernel_rfl
theorem ts182 : tsize Try.prog 182 = some 1 := by kernel_rfl
theorem tz182 : tzero Try.prog 182 = some [.nilfunc] := by kernel_rfl
theorem tb182 : tbytes Try.prog 182 = some 8 := by kernel_rfl
theorem tk183 : tk Try.prog 183 = some (.other) := by kernel_rfl
theorem ts183 : tsize Try.prog 183 = some 1 := by kernel_rfl
theorem tz183 : tzero Try.prog 183 = some [.nilfunc] := by kernel_rfl
theorem tb183 : tbytes Try.prog 183 = some 8 := by kernel_rfl
theorem tk185 : tk Try.prog 185 = some (.other) := by kernel_rfl
theorem ts185 : tsize Try.prog 185 = some 1 := by kernel_rfl
theorem tz185 : tzero Try.prog 185 = some [.nilfunc] := by kernel_rfl
theorem tb185 : tbytes Try.prog 185 = some 8 := by kernel_rfl
theorem tk186 : tk Try.prog 186 = some (.other) := by kernel_rfl
theorem ts186 : tsize Try.prog 186 = some 1 := by kernel_rfl
theorem tz186 : tzero Try.prog 186 = some [.nilfunc] := by kernel_rfl
theorem tb186 : tbytes Try.prog 186 = some 8 := by kernel_rfl
theorem tk187 : tk Try.prog 187 = some (.other) := by kernel_rfl
theorem ts187 : tsize Try.prog 187 = some 1 := by kernel_rfl
theorem tz187 : tzero Try.prog 187 = some [.nilfunc] := by kernel_rfl
theorem tb187 : tbytes Try.prog 187 = some 8 := by kernel_rfl
theorem tk188 : tk Try.prog 188 = some (.other) := by kernel_rfl
theorem ts188 : tsize Try.prog 188 = some 1 := by kernel_rfl
theorem tz188 : tzero Try.prog 188 = some [.nilfunc] := by kernel_rfl
theorem tb188 : tbytes Try.prog 188 = some 8 := by kernel_rfl
theorem tk190 : tk Try.prog 190 = some (.other) := by kernel_rfl
theorem ts190 : tsize Try.prog 190 = some 1 := by kernel_rfl
theorem tz190 : tzero Try.prog 190 = some [.nilfunc] := by kernel_rfl
theorem tb190 : tbytes Try.prog 190 = some 8 := by kernel_rfl
theorem tk191 : tk Try.prog 191 = some (.other) := by kernel_rfl
theorem ts191 : tsize Try.prog 191 = some 1 := by kernel_rfl
theorem tz191 : tzero Try.prog 191 = some [.nilfunc] := by kernel_rfl
theorem tb191 : tbytes Try.prog 191 = some 8 := by kernel_rfl
theorem tk192 : tk Try.prog 192 = some (.other) := by kernel_rfl
theorem ts192 : tsize Try.prog 192 = some 1 := by kernel_rfl
theorem tz192 : tzero Try.prog 192 = some [.nilfunc] := by kernel_rfl
theorem tb192 : tbytes Try.prog 192 = some 8 := by kernel_rfl
theorem tk193 : tk Try.prog 193 = some (.other) := by kernel_rfl
theorem ts193 : tsize Try.prog 193 = some 1 := by kernel_rfl
theorem tz193 : tzero Try.prog 193 = some [.nilfunc] := by kernel_rfl
theorem tb193 : tbytes Try.prog 193 = some 8 := by kernel_rfl
theorem tk194 : tk Try.prog 194 = some (.other) := by kernel_rfl
theorem ts194 : tsize Try.prog 194 = some 1 := by kernel_rfl
theorem tz194 : tzero Try.prog 194 = some [.nilfunc] := by kernel_rfl
theorem tb194 : tbytes Try.prog 194 = some 8 := by kernel_rfl
theorem tk195 : tk Try.prog 195 = some (.other) := by kernel_rfl
theorem ts195 : tsize Try.prog 195 = some 1 := by kernel_rfl
theorem tz195 : tzero Try.prog 195 = some [.nilfunc] := by kernel_rfl
theorem tb195 : tbytes Try.prog 195 = some 8 := by kernel_rfl
theorem tk196 : tk Try.prog 196 = some (.other) := by kernel_rfl
theorem ts196 : tsize Try.prog 196 = some 1 := by kernel_rfl
theorem tz196 : tzero Try.prog 196 = some [.nilfunc] := by kernel_rfl
theorem tb196 : tbytes Try.prog 196 = some 8 := by kernel_rfl
theorem tk197 : tk Try.prog 197 = some (.int .u32) := by kernel_rfl
theorem ts197 : tsize Try.prog 197 = some 1 := by kernel_rfl
theorem tz197 : tzero Try.prog 197 = some [.int .u32 0] := by kernel_rfl
theorem tb197 : tbytes Try.prog 197 = some 4 := by kernel_rfl
theorem tk199 : tk Try.prog 199 = some (.other) := by kernel_rfl
theorem ts199 : tsize Try.prog 199 = some 1 := by kernel_rfl
theorem tz199 : tzero Try.prog 199 = some [.nilfunc] := by kernel_rfl
theorem tb199 : tbytes Try.prog 199 = some 8 := by kernel_rfl
theorem tk200 : tk Try.prog 200 = some (.other) := by kernel_rfl
theorem ts200 : tsize Try.prog 200 = some 1 := by kernel_rfl
theorem tz200 : tzero Try.prog 200 = some [.nilfunc] := by kernel_rfl
theorem tb200 : tbytes Try.prog 200 = some 8 := by kernel_rfl
theorem tk201 : tk Try.prog 201 = some (.other) := by kernel_rfl
theorem ts201 : tsize Try.prog 201 = some 1 := by kernel_rfl
theorem tz201 : tzero Try.prog 201 = some [.nilfunc] := by kernel_rfl
theorem tb201 : tbytes Try.prog 201 = some 8 := by kernel_rfl
theorem tk202 : tk Try.prog 202 = some (.bool) := by kernel_rfl
theorem ts202 : tsize Try.prog 202 = some 1 := by kernel_rfl
theorem tz202 : tzero Try.prog 202 = some [.bool false] := by kernel_rfl
theorem tb202 : tbytes Try.prog 202 = some 1 := by kernel_rfl
theorem tk203 : tk Try.prog 203 = some (.arr 3 3) := by kernel_rfl
theorem ts203 : tsize Try.prog 203 = some 3 := by kernel_rfl
theorem tz203 : tzero Try.prog 203 = some [.int .i64 0, .int .i64 0, .int .i64 0] := by kernel_rfl
theorem tb203 : tbytes Try.prog 203 = some 24 := by kernel_rfl
theorem tk204 : tk Try.prog 204 = some (.other) := by kernel_rfl
theorem ts204 : tsize Try.prog 204 = some 1 := by kernel_rfl
theorem tz204 : tzero Try.prog 204 = some [.nilfunc] := by kernel_rfl
theorem tb204 : tbytes Try.prog 204 = some 8 := by kernel_rfl
theorem tk205 : tk Try.prog 205 = some (.arr 4 203) := by kernel_rfl
theorem ts205 : tsize Try.prog 205 = some 12 := by kernel_rfl
theorem tz205 : tzero Try.prog 205 = some [.int .i64 0, .int .i64 0, .int .i64 0, .int .i64 0, .int .i64 0, .int .i64 0, .int .i64 0, .int .i64 0, .int .i64 0, .int .i64 0, .int .i64 0, .int .i64 0] := by kernel_rfl
theorem tb205 : tbytes Try.prog 205 = some 96 := by kernel_rfl
theorem tk206 : tk Try.prog 206 = some (.arr 4 205) := by kernel_rfl
theorem ts206 : tsize Try.prog 206 = some 48 := by kernel_rfl
theorem tz206 : tzero Try.prog 206 = some [.int .i64 0, .int .i64 0, .int .i64 0, .int .i64 0, .int .i64 0, .int .i64 0, .int .i64 0, .int .i64 0, .int .i64 0, .int .i64 0, .int .i64 0, .int .i64 0, .int .i64 0, .int .i64 0, .int .i64 0, .int .i64 0, .int .i64 0, .int .i64 0, .int .i64 0, .int .i64 0, .int .i64 0, .int .i64 0, .int .i64 0, .int .i64 0, .int .i64 0, .int .i64 0, .int .i64 0, .int .i64 0, .int .i64 0, .int .i64 0, .int .i64 0, .int .i64 0, .int .i64 0, .int .i64 0, .int .i64 0, .int .i64 0, .int .i64 0, .int .i64 0, .int .i64 0, .int .i64 0, .int .i64 0, .int .i64 0, .int .i64 0, .int .i64 0, .int .i64 0, .int .i64 0, .int .i64 0, .int .i64 0] := by kernel_rfl
theorem tb206 : tbytes Try.prog 206 = some 384 := by kernel_rfl
theorem tk207 : tk Try.prog 207 = some (.other) := by kernel_rfl
theorem ts207 : tsize Try.prog 207 = some 1 := by kernel_rfl
theorem tz207 : tzero Try.prog 207 = some [.nilfunc] := by kernel_rfl
theorem tb207 : tbytes Try.prog 207 = some 8 := by kernel_rfl
theorem tk208 : tk Try.prog 208 = some (.other) := by kernel_rfl
theorem ts208 : tsize Try.prog 208 = some 1 := by kernel_rfl
theorem tz208 : tzero Try.prog 208 = some [.nilfunc] := by kernel_rfl
theorem tb208 : tbytes Try.prog 208 = some 8 := by kernel_rfl
theorem tk209 : tk Try.prog 209 = some (.other) := by kernel_rfl
theorem ts209 : tsize Try.prog 209 = some 1 := by kernel_rfl
theorem tz209 : tzero Try.prog 209 = some [.nilfunc] := by kernel_rfl
theorem tb209 : tbytes Try.prog 209 = some 8 := by kernel_rfl
theorem tk210 : tk Try.prog 210 = some (.other) := by kernel_rfl
theorem ts210 : tsize Try.prog 210 = some 1 := by kernel_rfl
theorem tz210 : tzero Try.prog 210 = some [.nilfunc] := by kernel_rfl
theorem tb210 : tbytes Try.prog 210 = some 8 := by kernel_rfl
theorem tk213 : tk Try.prog 213 = some (.other) := by kernel_rfl
theorem ts213 : tsize Try.prog 213 = some 1 := by kernel_rfl
theorem tz213 : tzero Try.prog 213 = some [.nilfunc] := by kernel_rfl
theorem tb213 : tbytes Try.prog 213 = some 8 := by kernel_rfl
theorem tk214 : tk Try.prog 214 = some (.ptr 202) := by kernel_rfl
theorem ts214 : tsize Try.prog 214 = some 1 := by kernel_rfl
theorem tz214 : tzero Try.prog 214 = some [.nilptr] := by kernel_rfl
theorem tb214 : tbytes Try.prog 214 = some 8 := by kernel_rfl
theorem tk215 : tk Try.prog 215 = some (.other) := by kernel_rfl
theorem ts215 : tsize Try.prog 215 = some 1 := by kernel_rfl
theorem tz215 : tzero Try.prog 215 = some [.nilfunc] := by kernel_rfl
theorem tb215 : tbytes Try.prog 215 = some 8 := by kernel_rfl
theorem tk216 : tk Try.prog 216 = some (.other) := by kernel_rfl
theorem ts216 : tsize Try.prog 216 = some 1 := by kernel_rfl
theorem tz216 : tzero Try.prog 216 = some [.nilfunc] := by kernel_rfl
theorem tb216 : tbytes Try.prog 216 = some 8 := by kernel_rfl
theorem tk217 : tk Try.prog 217 = some (.st [(0, 17), (1, 17), (2, 17), (3, 9)]) := by kernel_rfl
theorem ts217 : tsize Try.prog 217 = some 4 := by kernel_rfl
theorem tz217 : tzero Try.prog 217 = some [.nilptr, .nilptr, .nilptr, .str { data := #[] }] := by kernel_rfl
theorem tb217 : tbytes Try.prog 217 = some 40 := by kernel_rfl
theorem pl217 : places Try.prog [(0, 17), (1, 17), (2, 17), (3, 9)] = some [(0, 1), (1, 1), (2, 1), (3, 1)] := by kernel_rfl
theorem tk218 : tk Try.prog 218 = some (.st [(0, 17), (1, 17), (2, 17), (3, 9)]) := by kernel_rfl
theorem ts218 : tsize Try.prog 218 = some 4 := by kernel_rfl
theorem tz218 : tzero Try.prog 218 = some [.nilptr, .nilptr, .nilptr, .str { data := #[] }] := by kernel_rfl
theorem tb218 : tbytes Try.prog 218 = some 40 := by kernel_rfl
theorem pl218 : places Try.prog [(0, 17), (1, 17), (2, 17), (3, 9)] = some [(0, 1), (1, 1), (2, 1), (3, 1)] := by kernel_rfl
theorem tk219 : tk Try.prog 219 = some (.arr 0 16) := by kernel_rfl
theorem ts219 : tsize Try.prog 219 = some 0 := by kernel_rfl
theorem tz219 : tzero Try.prog 219 = some [] := by kernel_rfl
theorem tb219 : tbytes Try.prog 219 = some 0 := by kernel_rfl
theorem tk220 : tk Try.prog 220 = some (.st [(0, 219)]) := by kernel_rfl
theorem ts220 : tsize Try.prog 220 = some 0 := by kernel_rfl
theorem tz220 : tzero Try.prog 220 = some [] := by kernel_rfl
theorem tb220 : tbytes Try.prog 220 = some 0 := by kernel_rfl
theorem pl220 : places Try.prog [(0, 219)] = some [(0, 0)] := by kernel_rfl
theorem tk221 : tk Try.prog 221 = some (.st [(0, 219)]) := by kernel_rfl
theorem ts221 : tsize Try.prog 221 = some 0 := by kernel_rfl
theorem tz221 : tzero Try.prog 221 = some [] := by kernel_rfl
theorem tb221 : tbytes Try.prog 221 = some 0 := by kernel_rfl
theorem pl221 : places Try.prog [(0, 219)] = some [(0, 0)] := by kernel_rfl
theorem tk222 : tk Try.prog 222 = some (.other) := by kernel_rfl
theorem ts222 : tsize Try.prog 222 = some 1 := by kernel_rfl
theorem tz222 : tzero Try.prog 222 = some [.nilfunc] := by kernel_rfl
theorem tb222 : tbytes Try.prog 222 = some 8 := by kernel_rfl
theorem tk223 : tk Try.prog 223 = some (.int .u8) := by kernel_rfl
theorem ts223 : tsize Try.prog 223 = some 1 := by kernel_rfl
theorem tz223 : tzero Try.prog 223 = some [.int .u8 0] := by kernel_rfl
theorem tb223 : tbytes Try.prog 223 = some 1 := by kernel_rfl
theorem tk224 : tk Try.prog 224 = some (.int .u8) := by kernel_rfl
theorem ts224 : tsize Try.prog 224 = some 1 := by kernel_rfl
theorem tz224 : tzero Try.prog 224 = some [.int .u8 0] := by kernel_rfl
theorem tb224 : tbytes Try.prog 224 = some 1 := by kernel_rfl
theorem tk225 : tk Try.prog 225 = some (.other) := by kernel_rfl
theorem ts225 : tsize Try.prog 225 = some 1 := by kernel_rfl
theorem tz225 : tzero Try.prog 225 = some [.nilfunc] := by kernel_rfl
theorem tb225 : tbytes Try.prog 225 = some 8 := by kernel_rfl
theorem tk226 : tk Try.prog 226 = some (.ptr 5) := by kernel_rfl
theorem ts226 : tsize Try.prog 226 = some 1 := by kernel_rfl
theorem tz226 : tzero Try.prog 226 = some [.nilptr] := by kernel_rfl
theorem tb226 : tbytes Try.prog 226 = some 8 := by kernel_rfl
theorem tk227 : tk Try.prog 227 = some (.int .i32) := by kernel_rfl
theorem ts227 : tsize Try.prog 227 = some 1 := by kernel_rfl
theorem tz227 : tzero Try.prog 227 = some [.int .i32 0] := by kernel_rfl
theorem tb227 : tbytes Try.prog 227 = some 4 := by kernel_rfl
theorem tk228 : tk Try.prog 228 = some (.int .i32) := by kernel_rfl
theorem ts228 : tsize Try.prog 228 = some 1 := by kernel_rfl
theorem tz228 : tzero Try.prog 228 = some [.int .i32 0] := by kernel_rfl
theorem tb228 : tbytes Try.prog 228 = some 4 := by kernel_rfl
theorem tk229 : tk Try.prog 229 = some (.st [(0, 12), (1, 12), (2, 197), (3, 223), (4, 5), (5, 5), (6, 224), (7, 225), (8, 226), (9, 227), (10, 228)]) := by kernel_rfl
theorem ts229 : tsize Try.prog 229 = some 11 := by kernel_rfl
theorem tz229 : tzero Try.prog 229 = some [.int .u64 0, .int .u64 0, .int .u32 0, .int .u8 0, .int .u8 0, .int .u8 0, .int .u8 0, .nilfunc, .nilptr, .int .i32 0, .int .i32 0] := by kernel_rfl
theorem tb229 : tbytes Try.prog 229 = some 48 := by kernel_rfl
theorem pl229 : places Try.prog [(0, 12), (1, 12), (2, 197), (3, 223), (4, 5), (5, 5), (6, 224), (7, 225), (8, 226), (9, 227), (10, 228)] = some [(0, 1), (1, 1), (2, 1), (3, 1), (4, 1), (5, 1), (6, 1), (7, 1), (8, 1), (9, 1), (10, 1)] := by kernel_rfl
theorem tk230 : tk Try.prog 230 = some (.st [(0, 12), (1, 12), (2, 197), (3, 223), (4, 5), (5, 5), (6, 224), (7, 225), (8, 226), (9, 227), (10, 228)]) := by kernel_rfl
theorem ts230 : tsize Try.prog 230 = some 11 := by kernel_rfl
theorem tz230 : tzero Try.prog 230 = some [.int .u64 0, .int .u64 0, .int .u32 0, .int .u8 0, .int .u8 0, .int .u8 0, .int .u8 0, .nilfunc, .nilptr, .int .i32 0, .int .i32 0] := by kernel_rfl
theorem tb230 : tbytes Try.prog 230 = some 48 := by kernel_rfl
theorem pl230 : places Try.prog [(0, 12), (1, 12), (2, 197), (3, 223), (4, 5), (5, 5), (6, 224), (7, 225), (8, 226), (9, 227), (10, 228)] = some [(0, 1), (1, 1), (2, 1), (3, 1), (4, 1), (5, 1), (6, 1), (7, 1), (8, 1), (9, 1), (10, 1)] := by kernel_rfl

end Go.Proofs.Ytnkijhpikeokfaa
