/- Part of the proof: the machine, the code of functions, and what it computes. -/
import Derived.Test.YtdjomefkhdimaaaGreatKgc
set_option linter.unusedSimpArgs false
set_option linter.unusedVariables false
set_option linter.unusedSectionVars false
set_option maxRecDepth 100000
set_option maxHeartbeats 8000000
namespace Go.Proofs.YtdjomefkhdimaaaGreat
open Go
def q2J:C:=.seq (.seq (.reg [⟨some 32,.mv (.t 9),none⟩,⟨some 33,.mv (.t 7),none⟩,⟨some 34,.bin .lss false (.t 32) (.t 33),none⟩]) (.cond (.t 34) .skip (.exit 0))) (.seq (.block 1 (.seq (.reg [⟨some 37,.load .any true 1 (.t 3),none⟩,⟨some 38,.mv (.t 9),none⟩,⟨some 39,.call .any 51 [(.t 37),(.t 38)],none⟩,⟨some 40,.call .any 89 [(.t 39)],none⟩]) (.cond (.t 40) (.seq (.reg [⟨some 41,.mv (.t 9),none⟩,⟨some 6,.mv (.t 41),none⟩]) .ret) .skip))) (.reg [⟨some 35,.mv (.t 9),none⟩,⟨some 36,.bin .add false (.t 35) (.c (.int .i64 1)),none⟩,⟨some 9,.mv (.t 36),none⟩]))
def q1X:FnC:=⟨(.seq (.reg [⟨some 3,.box 1 (.t 0),none⟩,⟨some 6,.mv (.c (.int .i64 0)),none⟩]) (.seq (.reg [⟨some 10,.faddr 0 (.t 3),none⟩,⟨some 11,.load .any false 1 (.t 10),none⟩,⟨some 12,.len false (.t 11),none⟩,⟨some 7,.mv (.t 12),none⟩]) (.seq (.reg [⟨some 13,.mv (.t 2),none⟩,⟨some 14,.conv (.some .i64) (.t 13),none⟩,⟨some 15,.mv (.t 7),none⟩,⟨some 16,.bin .rem false (.t 14) (.t 15),none⟩,⟨some 8,.mv (.t 16),none⟩]) (.seq (.seq (.reg [⟨some 17,.load .any true 1 (.t 3),none⟩,⟨some 18,.mv (.t 8),none⟩,⟨some 19,.call .any 51 [(.t 17),(.t 18)],none⟩,⟨some 20,.call .any 89 [(.t 19)],none⟩,⟨some 21,.mv (.t 20),none⟩,⟨some 22,.mv (.t 8),some (21,false)⟩,⟨some 23,.mv (.t 1),some (21,false)⟩,⟨some 24,.bin .lss false (.t 22) (.t 23),some (21,false)⟩,⟨some 25,.pick (.t 21) (.c (.bool true)) (.t 24),none⟩]) (.cond (.t 25) (.seq (.reg [⟨some 26,.mv (.t 8),none⟩,⟨some 6,.mv (.t 26),none⟩]) .ret) .skip)) (.seq (.seq (.reg [⟨some 27,.mv (.t 1),none⟩,⟨some 28,.bin .gtr false (.t 27) (.c (.int .i64 0)),none⟩]) (.cond (.t 28) (.seq (.reg [⟨some 29,.mv (.t 8),none⟩,⟨some 30,.mv (.t 1),none⟩,⟨some 31,.bin .rem false (.t 29) (.t 30),none⟩,⟨some 6,.mv (.t 31),none⟩]) .ret) .skip)) (.seq (.seq (.reg [⟨some 9,.mv (.c (.int .i64 0)),none⟩]) (.block 0 (.loop q2J))) (.seq (.reg [⟨some 6,.mv (.c (.int .i64 (-1))),none⟩]) .ret))))))),[(.tmp 6)],3,[]⟩
theorem ok_ref07_target:FnOk Tryz.prog 70 q1X:=⟨fun xs w=>by kernel_rfl,_,Tryz.func70,by kernel_rfl⟩
def q0E:FnC:=⟨(.seq (.reg [⟨some 3,.box 1 (.t 0),none⟩,⟨some 6,.alloc [(.int .i64 0),(.bool false),(.int .i64 0),(.str (ByteArray.mk #[])),(.int .i64 0),(.sl true []),(.sl true []),(.sl true [])],none⟩,⟨some 7,.mv (.c (.bool false)),none⟩]) (.seq (.reg [⟨some 10,.faddr 0 (.t 3),none⟩,⟨some 11,.load .any false 1 (.t 10),none⟩,⟨some 12,.mv (.t 1),none⟩,⟨some 13,.iaddr 5 (.t 11) (.t 12),none⟩,⟨some 14,.load .any true 5 (.t 13),none⟩,⟨some 8,.alloc [(.int .u8 0),(.int .u8 0),(.int .u8 0),(.int .u8 0),(.sl true [])],none⟩,⟨none,.store .any true 5 (.t 8) (.t 14),none⟩]) (.seq (.reg [⟨some 15,.load .any true 1 (.t 3),none⟩,⟨some 16,.mv (.t 1),none⟩,⟨some 17,.call .any 51 [(.t 15),(.t 16)],none⟩,⟨some 18,.build [(.int .i64 0),(.bool false),(.int .i64 0),(.str (ByteArray.mk #[])),(.int .i64 0),(.sl true []),(.sl true []),(.sl true [])] [(0,(1,(.t 17)))],none⟩,⟨some 9,.alloc [(.int .i64 0),(.bool false),(.int .i64 0),(.str (ByteArray.mk #[])),(.int .i64 0),(.sl true []),(.sl true []),(.sl true [])],none⟩,⟨none,.store .any true 8 (.t 9) (.t 18),none⟩]) (.seq (.seq (.reg [⟨some 19,.faddr 0 (.t 9),none⟩,⟨some 20,.load .any false 1 (.t 19),none⟩,⟨some 21,.bin .eql false (.t 20) (.c (.int .i64 8)),none⟩,⟨some 22,.mv (.t 21),none⟩,⟨some 23,.load .any true 1 (.t 3),some (22,true)⟩,⟨some 24,.call .any 57 [(.t 23),(.c (.int .u8 0))],some (22,true)⟩,⟨some 25,.bin .lss false (.t 24) (.c (.int .i64 0)),some (22,true)⟩,⟨some 26,.pick (.t 22) (.t 25) (.c (.bool false)),none⟩]) (.cond (.t 26) (.reg [⟨some 27,.faddr 0 (.t 9),none⟩,⟨none,.store .any false 1 (.t 27) (.c (.int .i64 7)),none⟩]) .skip)) (.seq (.seq (.reg [⟨some 28,.faddr 0 (.t 9),none⟩,⟨some 29,.load .any false 1 (.t 28),none⟩]) (.block 0 (.seq (.reg [⟨some 31,.bin .eql false (.t 29) (.c (.int .i64 1)),none⟩,⟨some 30,.mv (.t 31),none⟩]) (.cond (.t 30) (.reg [⟨some 32,.mv (.t 2),none⟩,⟨some 33,.bin .rem false (.t 32) (.c (.int .u8 2)),none⟩,⟨some 34,.bin .eql false (.t 33) (.c (.int .u8 1)),none⟩,⟨some 35,.faddr 1 (.t 9),none⟩,⟨none,.store .any false 1 (.t 35) (.t 34),none⟩]) (.seq (.reg [⟨some 37,.bin .eql false (.t 29) (.c (.int .i64 2)),none⟩,⟨some 36,.mv (.t 37),none⟩]) (.cond (.t 36) (.reg [⟨some 38,.load (.root 8) true 5 (.t 8),none⟩,⟨some 39,.call .imm 53 [(.t 38)],none⟩,⟨some 40,.mv (.t 2),none⟩,⟨some 41,.conv (.some .i64) (.t 40),none⟩,⟨some 42,.load (.root 8) true 5 (.t 8),none⟩,⟨some 43,.call .imm 54 [(.t 42)],none⟩,⟨some 44,.load (.root 8) true 5 (.t 8),none⟩,⟨some 45,.call .imm 53 [(.t 44)],none⟩,⟨some 46,.bin .sub false (.t 43) (.t 45),none⟩,⟨some 47,.bin .add false (.t 46) (.c (.int .i64 1)),none⟩,⟨some 48,.bin .rem false (.t 41) (.t 47),none⟩,⟨some 49,.bin .add false (.t 39) (.t 48),none⟩,⟨some 50,.faddr 2 (.t 9),none⟩,⟨none,.store (.root 9) false 1 (.t 50) (.t 49),none⟩]) (.seq (.reg [⟨some 52,.bin .eql false (.t 29) (.c (.int .i64 3)),none⟩,⟨some 51,.mv (.t 52),none⟩]) (.cond (.t 51) (.seq (.reg [⟨some 53,.faddr 1 (.t 8),none⟩,⟨some 54,.load .any false 1 (.t 53),none⟩,⟨some 55,.bin .rem false (.t 54) (.c (.int .u8 4)),none⟩,⟨some 56,.bin .gtr false (.t 55) (.c (.int .u8 0)),none⟩,⟨some 57,.mv (.t 56),none⟩,⟨some 58,.mv (.t 2),some (57,true)⟩,⟨some 59,.bin .rem false (.t 58) (.c (.int .u8 2)),some (57,true)⟩,⟨some 60,.bin .eql false (.t 59) (.c (.int .u8 1)),some (57,true)⟩,⟨some 61,.pick (.t 57) (.t 60) (.c (.bool false)),none⟩]) (.cond (.t 61) (.reg [⟨some 62,.faddr 3 (.t 9),none⟩,⟨none,.store .any false 1 (.t 62) (.c (.str (ByteArray.mk #[97]))),none⟩]) .skip)) (.seq (.reg [⟨some 64,.bin .eql false (.t 29) (.c (.int .i64 4)),none⟩,⟨some 63,.mv (.t 64),none⟩]) (.cond (.t 63) (.reg [⟨some 65,.load (.root 8) true 5 (.t 8),none⟩,⟨some 66,.call .imm 55 [(.t 65)],none⟩,⟨some 67,.mv (.t 2),none⟩,⟨some 68,.conv (.some .i64) (.t 67),none⟩,⟨some 69,.load (.root 8) true 5 (.t 8),none⟩,⟨some 70,.call .imm 55 [(.t 69)],none⟩,⟨some 71,.len false (.t 70),none⟩,⟨some 72,.bin .rem false (.t 68) (.t 71),none⟩,⟨some 73,.iaddr 1 (.t 66) (.t 72),none⟩,⟨some 74,.load .imm false 1 (.t 73),none⟩,⟨some 75,.faddr 4 (.t 9),none⟩,⟨none,.store (.root 9) false 1 (.t 75) (.t 74),none⟩]) (.seq (.seq (.reg [⟨some 77,.bin .eql false (.t 29) (.c (.int .i64 5)),none⟩,⟨some 76,.mv (.t 77),none⟩]) (.cond (.t 76) .skip (.reg [⟨some 78,.bin .eql false (.t 29) (.c (.int .i64 6)),none⟩,⟨some 76,.mv (.t 78),none⟩]))) (.cond (.t 76) (.seq (.reg [⟨some 79,.build [(.int .i64 0),(.bool false),(.int .i64 0),(.str (ByteArray.mk #[])),(.int .i64 0),(.sl true []),(.sl true []),(.sl true [])] [],none⟩,⟨none,.store .any true 8 (.t 6) (.t 79),none⟩,⟨some 7,.mv (.c (.bool false)),none⟩]) .ret) .skip)))))))))))) (.seq (.reg [⟨some 80,.load .any true 8 (.t 9),none⟩,⟨none,.store .any true 8 (.t 6) (.t 80),none⟩,⟨some 7,.mv (.c (.bool true)),none⟩]) .ret)))))),[(.cell 6 true 8),(.tmp 7)],3,[]⟩
theorem q96:FnOk Tryz.prog 71 q0E:=⟨fun xs w=>by kernel_rfl,_,Tryz.func71,by kernel_rfl⟩
def q1M:C:=.seq (.seq (.reg [⟨some 97,.mv (.t 6),none⟩,⟨some 98,.faddr 6 (.t 2),none⟩,⟨some 99,.load .any false 1 (.t 98),none⟩,⟨some 100,.len false (.t 99),none⟩,⟨some 101,.bin .lss false (.t 97) (.t 100),none⟩]) (.cond (.t 101) .skip (.exit 2))) (.seq (.block 3 (.seq (.reg [⟨some 104,.faddr 6 (.t 2),none⟩,⟨some 105,.load .any false 1 (.t 104),none⟩,⟨some 106,.mv (.t 6),none⟩,⟨some 107,.iaddr 13 (.t 105) (.t 106),none⟩,⟨some 108,.load .any true 13 (.t 107),none⟩,⟨some 109,.faddr 6 (.t 3),none⟩,⟨some 110,.load .any false 1 (.t 109),none⟩,⟨some 111,.mv (.t 6),none⟩,⟨some 112,.iaddr 13 (.t 110) (.t 111),none⟩,⟨some 113,.load .any true 13 (.t 112),none⟩,⟨some 114,.call .any 90 [(.t 108),(.t 113)],none⟩,⟨some 115,.un .not (.t 114),none⟩]) (.cond (.t 115) (.seq (.reg [⟨some 4,.mv (.c (.bool false)),none⟩]) .ret) .skip))) (.reg [⟨some 102,.mv (.t 6),none⟩,⟨some 103,.bin .add false (.t 102) (.c (.int .i64 1)),none⟩,⟨some 6,.mv (.t 103),none⟩]))
def q1m:C:=.seq (.seq (.reg [⟨some 79,.mv (.t 5),none⟩,⟨some 80,.faddr 5 (.t 2),none⟩,⟨some 81,.load .any false 1 (.t 80),none⟩,⟨some 82,.len false (.t 81),none⟩,⟨some 83,.bin .lss false (.t 79) (.t 82),none⟩]) (.cond (.t 83) .skip (.exit 0))) (.seq (.block 1 (.seq (.reg [⟨some 86,.faddr 5 (.t 2),none⟩,⟨some 87,.load .any false 1 (.t 86),none⟩,⟨some 88,.mv (.t 5),none⟩,⟨some 89,.iaddr 2 (.t 87) (.t 88),none⟩,⟨some 90,.load .any true 2 (.t 89),none⟩,⟨some 91,.faddr 5 (.t 3),none⟩,⟨some 92,.load .any false 1 (.t 91),none⟩,⟨some 93,.mv (.t 5),none⟩,⟨some 94,.iaddr 2 (.t 92) (.t 93),none⟩,⟨some 95,.load .any true 2 (.t 94),none⟩,⟨some 96,.eqa true [0,1] (.t 90) (.t 95),none⟩]) (.cond (.t 96) (.seq (.reg [⟨some 4,.mv (.c (.bool false)),none⟩]) .ret) .skip))) (.reg [⟨some 84,.mv (.t 5),none⟩,⟨some 85,.bin .add false (.t 84) (.c (.int .i64 1)),none⟩,⟨some 5,.mv (.t 85),none⟩]))
def q0n:FnC:=⟨(.seq (.reg [⟨some 2,.box 10 (.t 0),none⟩,⟨some 3,.box 10 (.t 1),none⟩,⟨some 4,.mv (.c (.bool false)),none⟩]) (.seq (.seq (.reg [⟨some 7,.faddr 0 (.t 2),none⟩,⟨some 8,.load .any false 1 (.t 7),none⟩,⟨some 9,.faddr 0 (.t 3),none⟩,⟨some 10,.load .any false 1 (.t 9),none⟩,⟨some 11,.bin .neq false (.t 8) (.t 10),none⟩,⟨some 12,.mv (.t 11),none⟩,⟨some 13,.faddr 1 (.t 2),some (12,false)⟩,⟨some 14,.load .any false 1 (.t 13),some (12,false)⟩,⟨some 15,.faddr 1 (.t 3),some (12,false)⟩,⟨some 16,.load .any false 1 (.t 15),some (12,false)⟩,⟨some 17,.bin .neq false (.t 14) (.t 16),some (12,false)⟩,⟨some 18,.pick (.t 12) (.c (.bool true)) (.t 17),none⟩,⟨some 19,.mv (.t 18),none⟩,⟨some 20,.faddr 2 (.t 2),some (19,false)⟩,⟨some 21,.load .any false 1 (.t 20),some (19,false)⟩,⟨some 22,.faddr 2 (.t 3),some (19,false)⟩,⟨some 23,.load .any false 1 (.t 22),some (19,false)⟩,⟨some 24,.bin .neq false (.t 21) (.t 23),some (19,false)⟩,⟨some 25,.pick (.t 19) (.c (.bool true)) (.t 24),none⟩,⟨some 26,.mv (.t 25),none⟩,⟨some 27,.faddr 3 (.t 2),some (26,false)⟩,⟨some 28,.load .any false 1 (.t 27),some (26,false)⟩,⟨some 29,.faddr 3 (.t 3),some (26,false)⟩,⟨some 30,.load .any false 1 (.t 29),some (26,false)⟩,⟨some 31,.bin .neq false (.t 28) (.t 30),some (26,false)⟩,⟨some 32,.pick (.t 26) (.c (.bool true)) (.t 31),none⟩,⟨some 33,.mv (.t 32),none⟩,⟨some 34,.faddr 4 (.t 2),some (33,false)⟩,⟨some 35,.load .any false 1 (.t 34),some (33,false)⟩,⟨some 36,.faddr 4 (.t 3),some (33,false)⟩,⟨some 37,.load .any false 1 (.t 36),some (33,false)⟩,⟨some 38,.bin .neq false (.t 35) (.t 37),some (33,false)⟩,⟨some 39,.pick (.t 33) (.c (.bool true)) (.t 38),none⟩,⟨some 40,.mv (.t 39),none⟩,⟨some 41,.faddr 7 (.t 2),some (40,false)⟩,⟨some 42,.load .any false 1 (.t 41),some (40,false)⟩,⟨some 43,.faddr 7 (.t 3),some (40,false)⟩,⟨some 44,.load .any false 1 (.t 43),some (40,false)⟩,⟨some 45,.bin .neq false (.t 42) (.t 44),some (40,false)⟩,⟨some 46,.pick (.t 40) (.c (.bool true)) (.t 45),none⟩,⟨some 47,.mv (.t 46),none⟩,⟨some 48,.faddr 8 (.t 2),some (47,false)⟩,⟨some 49,.load .any false 1 (.t 48),some (47,false)⟩,⟨some 50,.faddr 8 (.t 3),some (47,false)⟩,⟨some 51,.load .any false 1 (.t 50),some (47,false)⟩,⟨some 52,.bin .neq false (.t 49) (.t 51),some (47,false)⟩,⟨some 53,.pick (.t 47) (.c (.bool true)) (.t 52),none⟩,⟨some 54,.mv (.t 53),none⟩,⟨some 55,.faddr 9 (.t 2),some (54,false)⟩,⟨some 56,.load .any false 1 (.t 55),some (54,false)⟩,⟨some 57,.faddr 9 (.t 3),some (54,false)⟩,⟨some 58,.load .any false 1 (.t 57),some (54,false)⟩,⟨some 59,.bin .neq true (.t 56) (.t 58),some (54,false)⟩,⟨some 60,.pick (.t 54) (.c (.bool true)) (.t 59),none⟩,⟨some 61,.mv (.t 60),none⟩,⟨some 62,.faddr 5 (.t 2),some (61,false)⟩,⟨some 63,.load .any false 1 (.t 62),some (61,false)⟩,⟨some 64,.len false (.t 63),some (61,false)⟩,⟨some 65,.faddr 5 (.t 3),some (61,false)⟩,⟨some 66,.load .any false 1 (.t 65),some (61,false)⟩,⟨some 67,.len false (.t 66),some (61,false)⟩,⟨some 68,.bin .neq false (.t 64) (.t 67),some (61,false)⟩,⟨some 69,.pick (.t 61) (.c (.bool true)) (.t 68),none⟩,⟨some 70,.mv (.t 69),none⟩,⟨some 71,.faddr 6 (.t 2),some (70,false)⟩,⟨some 72,.load .any false 1 (.t 71),some (70,false)⟩,⟨some 73,.len false (.t 72),some (70,false)⟩,⟨some 74,.faddr 6 (.t 3),some (70,false)⟩,⟨some 75,.load .any false 1 (.t 74),some (70,false)⟩,⟨some 76,.len false (.t 75),some (70,false)⟩,⟨some 77,.bin .neq false (.t 73) (.t 76),some (70,false)⟩,⟨some 78,.pick (.t 70) (.c (.bool true)) (.t 77),none⟩]) (.cond (.t 78) (.seq (.reg [⟨some 4,.mv (.c (.bool false)),none⟩]) .ret) .skip)) (.seq (.seq (.reg [⟨some 5,.mv (.c (.int .i64 0)),none⟩]) (.block 0 (.loop q1m))) (.seq (.seq (.reg [⟨some 6,.mv (.c (.int .i64 0)),none⟩]) (.block 2 (.loop q1M))) (.seq (.reg [⟨some 4,.mv (.c (.bool true)),none⟩]) .ret))))),[(.tmp 4)],2,[]⟩
theorem q89:FnOk Tryz.prog 72 q0n:=⟨fun xs w=>by kernel_rfl,_,Tryz.func72,by kernel_rfl⟩
def q3q:FnC:=⟨(.seq (.reg [⟨some 1,.box 10 (.t 0),none⟩,⟨some 2,.alloc [(.int .i64 0),(.str (ByteArray.mk #[])),(.int .i64 0),(.int .i64 0),(.int .i64 0),(.sl true []),(.sl true []),(.int .i64 0),(.int .i64 0),(.bool false)],none⟩]) (.seq (.seq (.reg [⟨some 3,.faddr 0 (.t 1),none⟩,⟨some 4,.load .any false 1 (.t 3),none⟩]) (.block 0 (.seq (.reg [⟨some 6,.bin .eql false (.t 4) (.c (.int .i64 1)),none⟩,⟨some 5,.mv (.t 6),none⟩]) (.cond (.t 5) (.seq (.reg [⟨some 7,.faddr 0 (.t 1),none⟩,⟨some 8,.load .any false 1 (.t 7),none⟩,⟨some 9,.build [(.int .i64 0),(.str (ByteArray.mk #[])),(.int .i64 0),(.int .i64 0),(.int .i64 0),(.sl true []),(.sl true []),(.int .i64 0),(.int .i64 0),(.bool false)] [(0,(1,(.t 8)))],none⟩,⟨none,.store .any true 10 (.t 2) (.t 9),none⟩]) .ret) (.seq (.reg [⟨some 11,.bin .eql false (.t 4) (.c (.int .i64 2)),none⟩,⟨some 10,.mv (.t 11),none⟩]) (.cond (.t 10) (.seq (.reg [⟨some 12,.faddr 0 (.t 1),none⟩,⟨some 13,.load .any false 1 (.t 12),none⟩,⟨some 14,.faddr 2 (.t 1),none⟩,⟨some 15,.load .any false 1 (.t 14),none⟩,⟨some 16,.faddr 3 (.t 1),none⟩,⟨some 17,.load .any false 1 (.t 16),none⟩,⟨some 18,.build [(.int .i64 0),(.str (ByteArray.mk #[])),(.int .i64 0),(.int .i64 0),(.int .i64 0),(.sl true []),(.sl true []),(.int .i64 0),(.int .i64 0),(.bool false)] [(0,(1,(.t 13))),(2,(1,(.t 15))),(3,(1,(.t 17)))],none⟩,⟨none,.store .any true 10 (.t 2) (.t 18),none⟩]) .ret) (.seq (.reg [⟨some 20,.bin .eql false (.t 4) (.c (.int .i64 3)),none⟩,⟨some 19,.mv (.t 20),none⟩]) (.cond (.t 19) (.seq (.reg [⟨some 21,.faddr 0 (.t 1),none⟩,⟨some 22,.load .any false 1 (.t 21),none⟩,⟨some 23,.faddr 4 (.t 1),none⟩,⟨some 24,.load .any false 1 (.t 23),none⟩,⟨some 25,.build [(.int .i64 0),(.str (ByteArray.mk #[])),(.int .i64 0),(.int .i64 0),(.int .i64 0),(.sl true []),(.sl true []),(.int .i64 0),(.int .i64 0),(.bool false)] [(0,(1,(.t 22))),(4,(1,(.t 24)))],none⟩,⟨none,.store .any true 10 (.t 2) (.t 25),none⟩]) .ret) (.seq (.reg [⟨some 27,.bin .eql false (.t 4) (.c (.int .i64 4)),none⟩,⟨some 26,.mv (.t 27),none⟩]) (.cond (.t 26) (.seq (.reg [⟨some 28,.faddr 0 (.t 1),none⟩,⟨some 29,.load .any false 1 (.t 28),none⟩,⟨some 30,.faddr 1 (.t 1),none⟩,⟨some 31,.load .any false 1 (.t 30),none⟩,⟨some 32,.faddr 5 (.t 1),none⟩,⟨some 33,.load .any false 1 (.t 32),none⟩,⟨some 34,.faddr 9 (.t 1),none⟩,⟨some 35,.load .any false 1 (.t 34),none⟩,⟨some 36,.build [(.int .i64 0),(.str (ByteArray.mk #[])),(.int .i64 0),(.int .i64 0),(.int .i64 0),(.sl true []),(.sl true []),(.int .i64 0),(.int .i64 0),(.bool false)] [(0,(1,(.t 29))),(1,(1,(.t 31))),(5,(1,(.t 33))),(9,(1,(.t 35)))],none⟩,⟨none,.store .any true 10 (.t 2) (.t 36),none⟩]) .ret) (.seq (.reg [⟨some 38,.bin .eql false (.t 4) (.c (.int .i64 5)),none⟩,⟨some 37,.mv (.t 38),none⟩]) (.cond (.t 37) (.seq (.reg [⟨some 39,.faddr 0 (.t 1),none⟩,⟨some 40,.load .any false 1 (.t 39),none⟩,⟨some 41,.faddr 1 (.t 1),none⟩,⟨some 42,.load .any false 1 (.t 41),none⟩,⟨some 43,.faddr 6 (.t 1),none⟩,⟨some 44,.load .any false 1 (.t 43),none⟩,⟨some 45,.build [(.int .i64 0),(.str (ByteArray.mk #[])),(.int .i64 0),(.int .i64 0),(.int .i64 0),(.sl true []),(.sl true []),(.int .i64 0),(.int .i64 0),(.bool false)] [(0,(1,(.t 40))),(1,(1,(.t 42))),(6,(1,(.t 44)))],none⟩,⟨none,.store .any true 10 (.t 2) (.t 45),none⟩]) .ret) (.seq (.reg [⟨some 47,.bin .eql false (.t 4) (.c (.int .i64 6)),none⟩,⟨some 46,.mv (.t 47),none⟩]) (.cond (.t 46) (.seq (.reg [⟨some 48,.faddr 0 (.t 1),none⟩,⟨some 49,.load .any false 1 (.t 48),none⟩,⟨some 50,.faddr 1 (.t 1),none⟩,⟨some 51,.load .any false 1 (.t 50),none⟩,⟨some 52,.faddr 6 (.t 1),none⟩,⟨some 53,.load .any false 1 (.t 52),none⟩,⟨some 54,.faddr 9 (.t 1),none⟩,⟨some 55,.load .any false 1 (.t 54),none⟩,⟨some 56,.build [(.int .i64 0),(.str (ByteArray.mk #[])),(.int .i64 0),(.int .i64 0),(.int .i64 0),(.sl true []),(.sl true []),(.int .i64 0),(.int .i64 0),(.bool false)] [(0,(1,(.t 49))),(1,(1,(.t 51))),(6,(1,(.t 53))),(9,(1,(.t 55)))],none⟩,⟨none,.store .any true 10 (.t 2) (.t 56),none⟩]) .ret) (.seq (.reg [⟨some 58,.bin .eql false (.t 4) (.c (.int .i64 7)),none⟩,⟨some 57,.mv (.t 58),none⟩]) (.cond (.t 57) (.seq (.reg [⟨some 59,.faddr 0 (.t 1),none⟩,⟨some 60,.load .any false 1 (.t 59),none⟩,⟨some 61,.faddr 4 (.t 1),none⟩,⟨some 62,.load .any false 1 (.t 61),none⟩,⟨some 63,.faddr 8 (.t 1),none⟩,⟨some 64,.load .any false 1 (.t 63),none⟩,⟨some 65,.build [(.int .i64 0),(.str (ByteArray.mk #[])),(.int .i64 0),(.int .i64 0),(.int .i64 0),(.sl true []),(.sl true []),(.int .i64 0),(.int .i64 0),(.bool false)] [(0,(1,(.t 60))),(4,(1,(.t 62))),(8,(1,(.t 64)))],none⟩,⟨none,.store .any true 10 (.t 2) (.t 65),none⟩]) .ret) (.seq (.reg [⟨some 67,.bin .eql false (.t 4) (.c (.int .i64 8)),none⟩,⟨some 66,.mv (.t 67),none⟩]) (.cond (.t 66) (.seq (.reg [⟨some 68,.faddr 0 (.t 1),none⟩,⟨some 69,.load .any false 1 (.t 68),none⟩,⟨some 70,.faddr 4 (.t 1),none⟩,⟨some 71,.load .any false 1 (.t 70),none⟩,⟨some 72,.faddr 7 (.t 1),none⟩,⟨some 73,.load .any false 1 (.t 72),none⟩,⟨some 74,.faddr 8 (.t 1),none⟩,⟨some 75,.load .any false 1 (.t 74),none⟩,⟨some 76,.build [(.int .i64 0),(.str (ByteArray.mk #[])),(.int .i64 0),(.int .i64 0),(.int .i64 0),(.sl true []),(.sl true []),(.int .i64 0),(.int .i64 0),(.bool false)] [(0,(1,(.t 69))),(4,(1,(.t 71))),(7,(1,(.t 73))),(8,(1,(.t 75)))],none⟩,⟨none,.store .any true 10 (.t 2) (.t 76),none⟩]) .ret) .skip)))))))))))))))))) (.seq (.reg [⟨some 77,.faddr 0 (.t 1),none⟩,⟨some 78,.load .any false 1 (.t 77),none⟩,⟨some 79,.faddr 8 (.t 1),none⟩,⟨some 80,.load .any false 1 (.t 79),none⟩,⟨some 81,.build [(.int .i64 0),(.str (ByteArray.mk #[])),(.int .i64 0),(.int .i64 0),(.int .i64 0),(.sl true []),(.sl true []),(.int .i64 0),(.int .i64 0),(.bool false)] [(0,(1,(.t 78))),(8,(1,(.t 80)))],none⟩,⟨none,.store .any true 10 (.t 2) (.t 81),none⟩]) .ret))),[(.cell 2 true 10)],1,[]⟩
theorem ok_ref07_plain:FnOk Tryz.prog 73 q3q:=⟨fun xs w=>by kernel_rfl,_,Tryz.func73,by kernel_rfl⟩
def q1H:C:=.seq (.seq (.reg [⟨some 17,.mv (.t 3),none⟩,⟨some 18,.mv (.t 0),none⟩,⟨some 19,.len true (.t 18),none⟩,⟨some 20,.bin .lss false (.t 17) (.t 19),none⟩]) (.cond (.t 20) .skip (.exit 0))) (.seq (.block 1 (.seq (.reg [⟨some 23,.mv (.t 0),none⟩,⟨some 24,.mv (.t 3),none⟩,⟨some 25,.index (.t 23) (.t 24),none⟩,⟨some 26,.call .any 91 [(.t 25)],none⟩,⟨some 27,.un .not (.t 26),none⟩,⟨some 28,.mv (.t 27),none⟩,⟨some 29,.mv (.t 0),some (28,true)⟩,⟨some 30,.mv (.t 3),some (28,true)⟩,⟨some 31,.index (.t 29) (.t 30),some (28,true)⟩,⟨some 32,.call .any 92 [(.t 31)],some (28,true)⟩,⟨some 33,.un .not (.t 32),some (28,true)⟩,⟨some 34,.pick (.t 28) (.t 33) (.c (.bool false)),none⟩]) (.cond (.t 34) (.seq (.reg [⟨some 2,.mv (.c (.bool false)),none⟩]) .ret) .skip))) (.reg [⟨some 21,.mv (.t 3),none⟩,⟨some 22,.bin .add false (.t 21) (.c (.int .i64 1)),none⟩,⟨some 3,.mv (.t 22),none⟩]))
def q1Z:FnC:=⟨(.seq (.reg [⟨some 2,.mv (.c (.bool false)),none⟩]) (.seq (.seq (.reg [⟨some 4,.mv (.t 0),none⟩,⟨some 5,.bin .eql false (.t 4) (.c (.str (ByteArray.mk #[]))),none⟩,⟨some 6,.mv (.t 5),none⟩,⟨some 7,.mv (.t 0),some (6,false)⟩,⟨some 8,.len true (.t 7),some (6,false)⟩,⟨some 9,.bin .gtr false (.t 8) (.c (.int .i64 24)),some (6,false)⟩,⟨some 10,.pick (.t 6) (.c (.bool true)) (.t 9),none⟩,⟨some 11,.mv (.t 10),none⟩,⟨some 12,.mv (.t 0),some (11,false)⟩,⟨some 13,.index (.t 12) (.c (.int .i64 0)),some (11,false)⟩,⟨some 14,.call .any 91 [(.t 13)],some (11,false)⟩,⟨some 15,.un .not (.t 14),some (11,false)⟩,⟨some 16,.pick (.t 11) (.c (.bool true)) (.t 15),none⟩]) (.cond (.t 16) (.seq (.reg [⟨some 2,.mv (.c (.bool false)),none⟩]) .ret) .skip)) (.seq (.seq (.reg [⟨some 3,.mv (.c (.int .i64 0)),none⟩]) (.block 0 (.loop q1H))) (.seq (.reg [⟨some 2,.mv (.c (.bool true)),none⟩]) .ret)))),[(.tmp 2)],1,[]⟩
theorem ok_ref06_IsName:FnOk Tryz.prog 74 q1Z:=⟨fun xs w=>by kernel_rfl,_,Tryz.func74,by kernel_rfl⟩
def q2v:C:=.seq (.seq (.reg [⟨some 29,.mv (.t 5),none⟩,⟨some 30,.mv (.t 4),none⟩,⟨some 31,.bin .lss false (.t 29) (.t 30),none⟩]) (.cond (.t 31) .skip (.exit 2))) (.seq (.block 3 (.seq (.reg [⟨some 34,.mv (.t 0),none⟩,⟨some 35,.mv (.t 5),none⟩,⟨some 36,.iaddr 2 (.t 34) (.t 35),none⟩,⟨some 37,.faddr 1 (.t 36),none⟩,⟨some 38,.load .any false 1 (.t 37),none⟩,⟨some 39,.mv (.t 0),none⟩,⟨some 40,.mv (.t 4),none⟩,⟨some 41,.iaddr 2 (.t 39) (.t 40),none⟩,⟨some 42,.faddr 1 (.t 41),none⟩,⟨some 43,.load .any false 1 (.t 42),none⟩,⟨some 44,.bin .eql false (.t 38) (.t 43),none⟩]) (.cond (.t 44) (.seq (.reg [⟨some 2,.mv (.c (.bool false)),none⟩]) .ret) .skip))) (.reg [⟨some 32,.mv (.t 5),none⟩,⟨some 33,.bin .add false (.t 32) (.c (.int .i64 1)),none⟩,⟨some 5,.mv (.t 33),none⟩]))
def q1S:C:=.seq (.seq (.reg [⟨some 6,.mv (.t 4),none⟩,⟨some 7,.mv (.t 0),none⟩,⟨some 8,.len false (.t 7),none⟩,⟨some 9,.bin .lss false (.t 6) (.t 8),none⟩]) (.cond (.t 9) .skip (.exit 0))) (.seq (.block 1 (.seq (.seq (.reg [⟨some 12,.mv (.t 3),none⟩,⟨some 13,.mv (.t 0),none⟩,⟨some 14,.mv (.t 4),none⟩,⟨some 15,.iaddr 2 (.t 13) (.t 14),none⟩,⟨some 16,.faddr 0 (.t 15),none⟩,⟨some 17,.load .any false 1 (.t 16),none⟩,⟨some 18,.call .any 93 [(.t 12),(.t 17)],none⟩,⟨some 19,.un .not (.t 18),none⟩,⟨some 20,.mv (.t 19),none⟩,⟨some 21,.mv (.t 0),some (20,false)⟩,⟨some 22,.mv (.t 4),some (20,false)⟩,⟨some 23,.iaddr 2 (.t 21) (.t 22),some (20,false)⟩,⟨some 24,.faddr 1 (.t 23),some (20,false)⟩,⟨some 25,.load .any false 1 (.t 24),some (20,false)⟩,⟨some 26,.call .any 74 [(.t 25)],some (20,false)⟩,⟨some 27,.un .not (.t 26),some (20,false)⟩,⟨some 28,.pick (.t 20) (.c (.bool true)) (.t 27),none⟩]) (.cond (.t 28) (.seq (.reg [⟨some 2,.mv (.c (.bool false)),none⟩]) .ret) .skip)) (.seq (.seq (.reg [⟨some 5,.mv (.c (.int .i64 0)),none⟩]) (.block 2 (.loop q2v))) (.reg [⟨some 45,.mv (.t 0),none⟩,⟨some 46,.mv (.t 4),none⟩,⟨some 47,.iaddr 2 (.t 45) (.t 46),none⟩,⟨some 48,.faddr 0 (.t 47),none⟩,⟨some 49,.load .any false 1 (.t 48),none⟩,⟨some 3,.mv (.t 49),none⟩])))) (.reg [⟨some 10,.mv (.t 4),none⟩,⟨some 11,.bin .add false (.t 10) (.c (.int .i64 1)),none⟩,⟨some 4,.mv (.t 11),none⟩]))
def q3A:FnC:=⟨(.seq (.reg [⟨some 2,.mv (.c (.bool false)),none⟩]) (.seq (.reg [⟨some 3,.mv (.c (.int .i64 0)),none⟩]) (.seq (.seq (.reg [⟨some 4,.mv (.c (.int .i64 0)),none⟩]) (.block 0 (.loop q1S))) (.seq (.reg [⟨some 50,.mv (.t 0),none⟩,⟨some 51,.len false (.t 50),none⟩,⟨some 52,.bin .geq false (.t 51) (.c (.int .i64 1)),none⟩,⟨some 53,.mv (.t 52),none⟩,⟨some 54,.mv (.t 0),some (53,true)⟩,⟨some 55,.len false (.t 54),some (53,true)⟩,⟨some 56,.bin .leq false (.t 55) (.c (.int .i64 16)),some (53,true)⟩,⟨some 57,.pick (.t 53) (.t 56) (.c (.bool false)),none⟩,⟨some 2,.mv (.t 57),none⟩]) .ret)))),[(.tmp 2)],1,[]⟩
theorem q92:FnOk Tryz.prog 75 q3A:=⟨fun xs w=>by kernel_rfl,_,Tryz.func75,by kernel_rfl⟩
def q1V:C:=.seq (.seq (.reg [⟨some 60,.mv (.t 8),none⟩,⟨some 61,.mv (.t 6),none⟩,⟨some 62,.bin .lss false (.t 60) (.t 61),none⟩]) (.cond (.t 62) .skip (.exit 2))) (.seq (.block 3 (.seq (.reg [⟨some 65,.mv (.t 0),none⟩,⟨some 66,.mv (.t 8),none⟩,⟨some 67,.iaddr 13 (.t 65) (.t 66),none⟩,⟨some 68,.faddr 1 (.t 67),none⟩,⟨some 69,.load .any false 1 (.t 68),none⟩,⟨some 70,.faddr 1 (.t 7),none⟩,⟨some 71,.load .any false 1 (.t 70),none⟩,⟨some 72,.bin .eql false (.t 69) (.t 71),none⟩]) (.cond (.t 72) (.seq (.reg [⟨some 4,.mv (.c (.bool false)),none⟩]) .ret) .skip))) (.reg [⟨some 63,.mv (.t 8),none⟩,⟨some 64,.bin .add false (.t 63) (.c (.int .i64 1)),none⟩,⟨some 8,.mv (.t 64),none⟩]))
def q1t:C:=.seq (.seq (.reg [⟨some 9,.mv (.t 6),none⟩,⟨some 10,.mv (.t 0),none⟩,⟨some 11,.len false (.t 10),none⟩,⟨some 12,.bin .lss false (.t 9) (.t 11),none⟩]) (.cond (.t 12) .skip (.exit 0))) (.seq (.block 1 (.seq (.reg [⟨some 15,.mv (.t 0),none⟩,⟨some 16,.mv (.t 6),none⟩,⟨some 17,.iaddr 13 (.t 15) (.t 16),none⟩,⟨some 18,.load .any true 13 (.t 17),none⟩,⟨some 7,.alloc [(.int .i64 0),(.str (ByteArray.mk #[])),(.int .i64 0),(.bool false),(.bool false),(.int .i64 0),(.bool false),(.int .i64 0),(.str (ByteArray.mk #[])),(.int .i64 0),(.sl true []),(.sl true []),(.sl true [])],none⟩,⟨none,.store .any true 13 (.t 7) (.t 18),none⟩]) (.seq (.seq (.reg [⟨some 19,.mv (.t 5),none⟩,⟨some 20,.faddr 0 (.t 7),none⟩,⟨some 21,.load .any false 1 (.t 20),none⟩,⟨some 22,.call .any 93 [(.t 19),(.t 21)],none⟩,⟨some 23,.un .not (.t 22),none⟩,⟨some 24,.mv (.t 23),none⟩,⟨some 25,.faddr 1 (.t 7),some (24,false)⟩,⟨some 26,.load .any false 1 (.t 25),some (24,false)⟩,⟨some 27,.call .any 74 [(.t 26)],some (24,false)⟩,⟨some 28,.un .not (.t 27),some (24,false)⟩,⟨some 29,.pick (.t 24) (.c (.bool true)) (.t 28),none⟩,⟨some 30,.mv (.t 29),none⟩,⟨some 31,.faddr 3 (.t 7),some (30,false)⟩,⟨some 32,.load .any false 1 (.t 31),some (30,false)⟩,⟨some 33,.mv (.t 32),some (30,false)⟩,⟨some 34,.faddr 4 (.t 7),some (33,true)⟩,⟨some 35,.load .any false 1 (.t 34),some (33,true)⟩,⟨some 36,.pick (.t 33) (.t 35) (.c (.bool false)),some (30,false)⟩,⟨some 37,.pick (.t 30) (.c (.bool true)) (.t 36),none⟩,⟨some 38,.mv (.t 37),none⟩,⟨some 39,.mv (.t 1),some (38,false)⟩,⟨some 40,.un .not (.t 39),some (38,false)⟩,⟨some 41,.mv (.t 40),some (38,false)⟩,⟨some 42,.faddr 3 (.t 7),some (41,true)⟩,⟨some 43,.load .any false 1 (.t 42),some (41,true)⟩,⟨some 44,.mv (.t 43),some (41,true)⟩,⟨some 45,.faddr 4 (.t 7),some (44,false)⟩,⟨some 46,.load .any false 1 (.t 45),some (44,false)⟩,⟨some 47,.pick (.t 44) (.c (.bool true)) (.t 46),some (41,true)⟩,⟨some 48,.pick (.t 41) (.t 47) (.c (.bool false)),some (38,false)⟩,⟨some 49,.pick (.t 38) (.c (.bool true)) (.t 48),none⟩]) (.cond (.t 49) (.seq (.reg [⟨some 4,.mv (.c (.bool false)),none⟩]) .ret) .skip)) (.seq (.seq (.reg [⟨some 50,.faddr 4 (.t 7),none⟩,⟨some 51,.load .any false 1 (.t 50),none⟩,⟨some 52,.un .not (.t 51),none⟩,⟨some 53,.mv (.t 52),none⟩,⟨some 54,.faddr 5 (.t 7),some (53,true)⟩,⟨some 55,.load .any true 8 (.t 54),some (53,true)⟩,⟨some 56,.build [(.int .i64 0),(.bool false),(.int .i64 0),(.str (ByteArray.mk #[])),(.int .i64 0),(.sl true []),(.sl true []),(.sl true [])] [],some (53,true)⟩,⟨some 57,.call .any 41 [(.t 55),(.t 56)],some (53,true)⟩,⟨some 58,.un .not (.t 57),some (53,true)⟩,⟨some 59,.pick (.t 53) (.t 58) (.c (.bool false)),none⟩]) (.cond (.t 59) (.seq (.reg [⟨some 4,.mv (.c (.bool false)),none⟩]) .ret) .skip)) (.seq (.seq (.reg [⟨some 8,.mv (.c (.int .i64 0)),none⟩]) (.block 2 (.loop q1V))) (.reg [⟨some 73,.faddr 0 (.t 7),none⟩,⟨some 74,.load .any false 1 (.t 73),none⟩,⟨some 5,.mv (.t 74),none⟩])))))) (.reg [⟨some 13,.mv (.t 6),none⟩,⟨some 14,.bin .add false (.t 13) (.c (.int .i64 1)),none⟩,⟨some 6,.mv (.t 14),none⟩]))
def q3w:FnC:=⟨(.seq (.reg [⟨some 4,.mv (.c (.bool false)),none⟩]) (.seq (.reg [⟨some 5,.mv (.c (.int .i64 0)),none⟩]) (.seq (.seq (.reg [⟨some 6,.mv (.c (.int .i64 0)),none⟩]) (.block 0 (.loop q1t))) (.seq (.reg [⟨some 75,.mv (.t 0),none⟩,⟨some 76,.len false (.t 75),none⟩,⟨some 77,.bin .leq false (.t 76) (.c (.int .i64 16)),none⟩,⟨some 78,.mv (.t 77),none⟩,⟨some 79,.mv (.t 1),some (78,true)⟩,⟨some 80,.mv (.t 79),some (78,true)⟩,⟨some 81,.mv (.t 0),some (80,false)⟩,⟨some 82,.len false (.t 81),some (80,false)⟩,⟨some 83,.bin .geq false (.t 82) (.c (.int .i64 1)),some (80,false)⟩,⟨some 84,.pick (.t 80) (.c (.bool true)) (.t 83),some (78,true)⟩,⟨some 85,.pick (.t 78) (.t 84) (.c (.bool false)),none⟩,⟨some 4,.mv (.t 85),none⟩]) .ret)))),[(.tmp 4)],2,[]⟩
theorem q8Y:FnOk Tryz.prog 76 q3w:=⟨fun xs w=>by kernel_rfl,_,Tryz.func76,by kernel_rfl⟩
def q42:C:=.seq (.seq (.reg [⟨some 260,.mv (.t 15),none⟩,⟨some 261,.faddr 5 (.t 6),none⟩,⟨some 262,.load .any false 1 (.t 261),none⟩,⟨some 263,.len false (.t 262),none⟩,⟨some 264,.bin .lss false (.t 260) (.t 263),none⟩]) (.cond (.t 264) .skip (.exit 3))) (.seq (.block 4 (.seq (.reg [⟨some 267,.faddr 5 (.t 6),none⟩,⟨some 268,.load .any false 1 (.t 267),none⟩,⟨some 269,.mv (.t 15),none⟩,⟨some 270,.bin .sub false (.t 269) (.c (.int .i64 1)),none⟩,⟨some 271,.iaddr 8 (.t 268) (.t 270),none⟩,⟨some 272,.load .any true 8 (.t 271),none⟩,⟨some 273,.faddr 5 (.t 6),none⟩,⟨some 274,.load .any false 1 (.t 273),none⟩,⟨some 275,.mv (.t 15),none⟩,⟨some 276,.iaddr 8 (.t 274) (.t 275),none⟩,⟨some 277,.load .any true 8 (.t 276),none⟩,⟨some 278,.call .any 100 [(.t 272),(.t 277)],none⟩,⟨some 279,.bin .geq false (.t 278) (.c (.int .i64 0)),none⟩]) (.cond (.t 279) (.seq (.reg [⟨some 8,.mv (.c (.bool false)),none⟩]) .ret) .skip))) (.reg [⟨some 265,.mv (.t 15),none⟩,⟨some 266,.bin .add false (.t 265) (.c (.int .i64 1)),none⟩,⟨some 15,.mv (.t 266),none⟩]))
def q3V:C:=.seq (.seq (.reg [⟨some 115,.mv (.t 12),none⟩,⟨some 116,.faddr 6 (.t 6),none⟩,⟨some 117,.load .any false 1 (.t 116),none⟩,⟨some 118,.len false (.t 117),none⟩,⟨some 119,.bin .lss false (.t 115) (.t 118),none⟩]) (.cond (.t 119) .skip (.exit 1))) (.seq (.block 2 (.seq (.reg [⟨some 122,.load .any true 1 (.t 4),none⟩,⟨some 123,.faddr 6 (.t 9),none⟩,⟨some 124,.load .any false 1 (.t 123),none⟩,⟨some 125,.mv (.t 12),none⟩,⟨some 126,.iaddr 13 (.t 124) (.t 125),none⟩,⟨some 127,.faddr 2 (.t 126),none⟩,⟨some 128,.load .any false 1 (.t 127),none⟩,⟨some 129,.faddr 6 (.t 6),none⟩,⟨some 130,.load .any false 1 (.t 129),none⟩,⟨some 131,.mv (.t 12),none⟩,⟨some 132,.iaddr 8 (.t 130) (.t 131),none⟩,⟨some 133,.load .any true 8 (.t 132),none⟩,⟨some 134,.mv (.t 3),none⟩,⟨some 135,.call .any 77 [(.t 122),(.t 128),(.t 133),(.t 134)],none⟩,⟨some 136,.un .not (.t 135),none⟩]) (.cond (.t 136) (.seq (.reg [⟨some 8,.mv (.c (.bool false)),none⟩]) .ret) .skip))) (.reg [⟨some 120,.mv (.t 12),none⟩,⟨some 121,.bin .add false (.t 120) (.c (.int .i64 1)),none⟩,⟨some 12,.mv (.t 121),none⟩]))
def q08:FnC:=⟨(.seq (.reg [⟨some 4,.box 1 (.t 0),none⟩,⟨some 6,.box 8 (.t 2),none⟩,⟨some 8,.mv (.c (.bool false)),none⟩]) (.seq (.seq (.reg [⟨some 16,.mv (.t 1),none⟩,⟨some 17,.bin .lss false (.t 16) (.c (.int .i64 0)),none⟩,⟨some 18,.mv (.t 17),none⟩,⟨some 19,.mv (.t 1),some (18,false)⟩,⟨some 20,.faddr 0 (.t 4),some (18,false)⟩,⟨some 21,.load .any false 1 (.t 20),some (18,false)⟩,⟨some 22,.len false (.t 21),some (18,false)⟩,⟨some 23,.bin .geq false (.t 19) (.t 22),some (18,false)⟩,⟨some 24,.pick (.t 18) (.c (.bool true)) (.t 23),none⟩]) (.cond (.t 24) (.seq (.reg [⟨some 8,.mv (.c (.bool false)),none⟩]) .ret) .skip)) (.seq (.reg [⟨some 25,.faddr 0 (.t 4),none⟩,⟨some 26,.load .any false 1 (.t 25),none⟩,⟨some 27,.mv (.t 1),none⟩,⟨some 28,.iaddr 10 (.t 26) (.t 27),none⟩,⟨some 29,.load .any true 10 (.t 28),none⟩,⟨some 9,.alloc [(.int .i64 0),(.str (ByteArray.mk #[])),(.int .i64 0),(.int .i64 0),(.int .i64 0),(.sl true []),(.sl true []),(.int .i64 0),(.int .i64 0),(.bool false)],none⟩,⟨none,.store .any true 10 (.t 9) (.t 29),none⟩]) (.seq (.seq (.reg [⟨some 30,.faddr 0 (.t 6),none⟩,⟨some 31,.load .any false 1 (.t 30),none⟩,⟨some 32,.faddr 0 (.t 9),none⟩,⟨some 33,.load .any false 1 (.t 32),none⟩,⟨some 34,.bin .neq false (.t 31) (.t 33),none⟩,⟨some 35,.mv (.t 34),none⟩,⟨some 36,.load .any true 8 (.t 6),some (35,false)⟩,⟨some 37,.call .any 94 [(.t 36)],some (35,false)⟩,⟨some 38,.un .not (.t 37),some (35,false)⟩,⟨some 39,.pick (.t 35) (.c (.bool true)) (.t 38),none⟩,⟨some 40,.mv (.t 39),none⟩,⟨some 41,.mv (.t 3),some (40,false)⟩,⟨some 42,.mv (.t 41),some (40,false)⟩,⟨some 43,.faddr 7 (.t 6),some (42,true)⟩,⟨some 44,.load .any false 1 (.t 43),some (42,true)⟩,⟨some 45,.len false (.t 44),some (42,true)⟩,⟨some 46,.bin .gtr false (.t 45) (.c (.int .i64 0)),some (42,true)⟩,⟨some 47,.pick (.t 42) (.t 46) (.c (.bool false)),some (40,false)⟩,⟨some 48,.pick (.t 40) (.c (.bool true)) (.t 47),none⟩]) (.cond (.t 48) (.seq (.reg [⟨some 8,.mv (.c (.bool false)),none⟩]) .ret) .skip)) (.seq (.seq (.reg [⟨some 49,.faddr 0 (.t 9),none⟩,⟨some 50,.load .any false 1 (.t 49),none⟩]) (.block 0 (.seq (.reg [⟨some 52,.bin .eql false (.t 50) (.c (.int .i64 1)),none⟩,⟨some 51,.mv (.t 52),none⟩]) (.cond (.t 51) (.seq (.reg [⟨some 8,.mv (.c (.bool true)),none⟩]) .ret) (.seq (.reg [⟨some 54,.bin .eql false (.t 50) (.c (.int .i64 2)),none⟩,⟨some 53,.mv (.t 54),none⟩]) (.cond (.t 53) (.seq (.reg [⟨some 55,.faddr 2 (.t 6),none⟩,⟨some 56,.load .any false 1 (.t 55),none⟩,⟨some 57,.faddr 2 (.t 9),none⟩,⟨some 58,.load .any false 1 (.t 57),none⟩,⟨some 59,.bin .geq false (.t 56) (.t 58),none⟩,⟨some 60,.mv (.t 59),none⟩,⟨some 61,.faddr 2 (.t 6),some (60,true)⟩,⟨some 62,.load .any false 1 (.t 61),some (60,true)⟩,⟨some 63,.faddr 3 (.t 9),some (60,true)⟩,⟨some 64,.load .any false 1 (.t 63),some (60,true)⟩,⟨some 65,.bin .leq false (.t 62) (.t 64),some (60,true)⟩,⟨some 66,.pick (.t 60) (.t 65) (.c (.bool false)),none⟩,⟨some 8,.mv (.t 66),none⟩]) .ret) (.seq (.reg [⟨some 68,.bin .eql false (.t 50) (.c (.int .i64 3)),none⟩,⟨some 67,.mv (.t 68),none⟩]) (.cond (.t 67) (.seq (.reg [⟨some 69,.faddr 3 (.t 6),none⟩,⟨some 70,.load .any false 1 (.t 69),none⟩,⟨some 71,.len true (.t 70),none⟩,⟨some 72,.faddr 4 (.t 9),none⟩,⟨some 73,.load .any false 1 (.t 72),none⟩,⟨some 74,.bin .leq false (.t 71) (.t 73),none⟩,⟨some 8,.mv (.t 74),none⟩]) .ret) (.seq (.reg [⟨some 76,.bin .eql false (.t 50) (.c (.int .i64 4)),none⟩,⟨some 75,.mv (.t 76),none⟩]) (.cond (.t 75) (.seq (.reg [⟨some 78,.load .any true 10 (.t 9),none⟩,⟨some 79,.faddr 4 (.t 6),none⟩,⟨some 80,.load .any false 1 (.t 79),none⟩,⟨some 81,.call .any 95 [(.t 78),(.t 80)],none⟩,⟨some 77,.mv (.t 81),none⟩,⟨some 82,.ext (.t 77) 0,none⟩,⟨some 83,.ext (.t 77) 1,none⟩,⟨some 10,.mv (.t 82),none⟩,⟨some 11,.mv (.t 83),none⟩]) (.seq (.reg [⟨some 84,.mv (.t 11),none⟩,⟨some 85,.mv (.t 84),none⟩,⟨some 86,.faddr 9 (.t 9),some (85,false)⟩,⟨some 87,.load .any false 1 (.t 86),some (85,false)⟩,⟨some 88,.mv (.t 87),some (85,false)⟩,⟨some 89,.mv (.t 3),some (88,true)⟩,⟨some 90,.un .not (.t 89),some (88,true)⟩,⟨some 91,.pick (.t 88) (.t 90) (.c (.bool false)),some (85,false)⟩,⟨some 92,.mv (.t 91),some (85,false)⟩,⟨some 93,.faddr 4 (.t 6),some (92,true)⟩,⟨some 94,.load .any false 1 (.t 93),some (92,true)⟩,⟨some 95,.mv (.t 11),some (92,true)⟩,⟨some 96,.call .any 96 [(.t 94),(.t 95)],some (92,true)⟩,⟨some 97,.pick (.t 92) (.t 96) (.c (.bool false)),some (85,false)⟩,⟨some 98,.pick (.t 85) (.c (.bool true)) (.t 97),none⟩,⟨some 8,.mv (.t 98),none⟩]) .ret)) (.seq (.reg [⟨some 100,.bin .eql false (.t 50) (.c (.int .i64 5)),none⟩,⟨some 99,.mv (.t 100),none⟩]) (.cond (.t 99) (.seq (.seq (.reg [⟨some 101,.faddr 6 (.t 6),none⟩,⟨some 102,.load .any false 1 (.t 101),none⟩,⟨some 103,.len false (.t 102),none⟩,⟨some 104,.faddr 6 (.t 9),none⟩,⟨some 105,.load .any false 1 (.t 104),none⟩,⟨some 106,.len false (.t 105),none⟩,⟨some 107,.bin .neq false (.t 103) (.t 106),none⟩,⟨some 108,.mv (.t 107),none⟩,⟨some 109,.load .any true 10 (.t 9),some (108,false)⟩,⟨some 110,.faddr 7 (.t 6),some (108,false)⟩,⟨some 111,.load .any false 1 (.t 110),some (108,false)⟩,⟨some 112,.call .any 97 [(.t 109),(.t 111)],some (108,false)⟩,⟨some 113,.un .not (.t 112),some (108,false)⟩,⟨some 114,.pick (.t 108) (.c (.bool true)) (.t 113),none⟩]) (.cond (.t 114) (.seq (.reg [⟨some 8,.mv (.c (.bool false)),none⟩]) .ret) .skip)) (.seq (.seq (.reg [⟨some 12,.mv (.c (.int .i64 0)),none⟩]) (.block 1 (.loop q3V))) (.seq (.reg [⟨some 8,.mv (.c (.bool true)),none⟩]) .ret))) (.seq (.reg [⟨some 138,.bin .eql false (.t 50) (.c (.int .i64 6)),none⟩,⟨some 137,.mv (.t 138),none⟩]) (.cond (.t 137) (.seq (.reg [⟨some 140,.load .any true 10 (.t 9),none⟩,⟨some 141,.faddr 4 (.t 6),none⟩,⟨some 142,.load .any false 1 (.t 141),none⟩,⟨some 143,.call .any 98 [(.t 140),(.t 142)],none⟩,⟨some 139,.mv (.t 143),none⟩,⟨some 144,.ext (.t 139) 0,none⟩,⟨some 145,.ext (.t 139) 1,none⟩,⟨some 13,.mv (.t 144),none⟩,⟨some 14,.mv (.t 145),none⟩]) (.seq (.seq (.reg [⟨some 146,.mv (.t 14),none⟩]) (.cond (.t 146) (.seq (.reg [⟨some 147,.faddr 6 (.t 6),none⟩,⟨some 148,.load .any false 1 (.t 147),none⟩,⟨some 149,.len false (.t 148),none⟩,⟨some 150,.bin .eql false (.t 149) (.c (.int .i64 1)),none⟩,⟨some 151,.mv (.t 150),none⟩,⟨some 152,.faddr 7 (.t 6),some (151,true)⟩,⟨some 153,.load .any false 1 (.t 152),some (151,true)⟩,⟨some 154,.len false (.t 153),some (151,true)⟩,⟨some 155,.bin .eql false (.t 154) (.c (.int .i64 0)),some (151,true)⟩,⟨some 156,.pick (.t 151) (.t 155) (.c (.bool false)),none⟩,⟨some 157,.mv (.t 156),none⟩,⟨some 158,.load .any true 1 (.t 4),some (157,true)⟩,⟨some 159,.faddr 6 (.t 9),some (157,true)⟩,⟨some 160,.load .any false 1 (.t 159),some (157,true)⟩,⟨some 161,.mv (.t 13),some (157,true)⟩,⟨some 162,.iaddr 13 (.t 160) (.t 161),some (157,true)⟩,⟨some 163,.faddr 2 (.t 162),some (157,true)⟩,⟨some 164,.load .any false 1 (.t 163),some (157,true)⟩,⟨some 165,.faddr 6 (.t 6),some (157,true)⟩,⟨some 166,.load .any false 1 (.t 165),some (157,true)⟩,⟨some 167,.iaddr 8 (.t 166) (.c (.int .i64 0)),some (157,true)⟩,⟨some 168,.load .any true 8 (.t 167),some (157,true)⟩,⟨some 169,.mv (.t 3),some (157,true)⟩,⟨some 170,.call .any 77 [(.t 158),(.t 164),(.t 168),(.t 169)],some (157,true)⟩,⟨some 171,.pick (.t 157) (.t 170) (.c (.bool false)),none⟩,⟨some 8,.mv (.t 171),none⟩]) .ret) .skip)) (.seq (.reg [⟨some 172,.faddr 9 (.t 9),none⟩,⟨some 173,.load .any false 1 (.t 172),none⟩,⟨some 174,.mv (.t 173),none⟩,⟨some 175,.mv (.t 3),some (174,true)⟩,⟨some 176,.un .not (.t 175),some (174,true)⟩,⟨some 177,.pick (.t 174) (.t 176) (.c (.bool false)),none⟩,⟨some 178,.mv (.t 177),none⟩,⟨some 179,.faddr 4 (.t 6),some (178,true)⟩,⟨some 180,.load .any false 1 (.t 179),some (178,true)⟩,⟨some 181,.mv (.t 14),some (178,true)⟩,⟨some 182,.call .any 96 [(.t 180),(.t 181)],some (178,true)⟩,⟨some 183,.pick (.t 178) (.t 182) (.c (.bool false)),none⟩,⟨some 184,.mv (.t 183),none⟩,⟨some 185,.faddr 6 (.t 6),some (184,true)⟩,⟨some 186,.load .any false 1 (.t 185),some (184,true)⟩,⟨some 187,.len false (.t 186),some (184,true)⟩,⟨some 188,.bin .eql false (.t 187) (.c (.int .i64 0)),some (184,true)⟩,⟨some 189,.pick (.t 184) (.t 188) (.c (.bool false)),none⟩,⟨some 190,.mv (.t 189),none⟩,⟨some 191,.faddr 7 (.t 6),some (190,true)⟩,⟨some 192,.load .any false 1 (.t 191),some (190,true)⟩,⟨some 193,.len false (.t 192),some (190,true)⟩,⟨some 194,.bin .eql false (.t 193) (.c (.int .i64 1)),some (190,true)⟩,⟨some 195,.pick (.t 190) (.t 194) (.c (.bool false)),none⟩,⟨some 196,.mv (.t 195),none⟩,⟨some 197,.faddr 7 (.t 6),some (196,true)⟩,⟨some 198,.load .any false 1 (.t 197),some (196,true)⟩,⟨some 199,.iaddr 2 (.t 198) (.c (.int .i64 0)),some (196,true)⟩,⟨some 200,.faddr 0 (.t 199),some (196,true)⟩,⟨some 201,.load .any false 1 (.t 200),some (196,true)⟩,⟨some 202,.faddr 4 (.t 6),some (196,true)⟩,⟨some 203,.load .any false 1 (.t 202),some (196,true)⟩,⟨some 204,.bin .eql false (.t 201) (.t 203),some (196,true)⟩,⟨some 205,.pick (.t 196) (.t 204) (.c (.bool false)),none⟩,⟨some 8,.mv (.t 205),none⟩]) .ret))) (.seq (.reg [⟨some 207,.bin .eql false (.t 50) (.c (.int .i64 7)),none⟩,⟨some 206,.mv (.t 207),none⟩]) (.cond (.t 206) (.seq (.reg [⟨some 208,.faddr 6 (.t 6),none⟩,⟨some 209,.load .any false 1 (.t 208),none⟩,⟨some 210,.len false (.t 209),none⟩,⟨some 211,.faddr 4 (.t 9),none⟩,⟨some 212,.load .any false 1 (.t 211),none⟩,⟨some 213,.bin .leq false (.t 210) (.t 212),none⟩,⟨some 214,.mv (.t 213),none⟩,⟨some 215,.load .any true 1 (.t 4),some (214,true)⟩,⟨some 216,.faddr 8 (.t 9),some (214,true)⟩,⟨some 217,.load .any false 1 (.t 216),some (214,true)⟩,⟨some 218,.faddr 6 (.t 6),some (214,true)⟩,⟨some 219,.load .any false 1 (.t 218),some (214,true)⟩,⟨some 220,.mv (.t 3),some (214,true)⟩,⟨some 221,.call .any 99 [(.t 215),(.t 217),(.t 219),(.t 220)],some (214,true)⟩,⟨some 222,.pick (.t 214) (.t 221) (.c (.bool false)),none⟩,⟨some 8,.mv (.t 222),none⟩]) .ret) (.seq (.reg [⟨some 224,.bin .eql false (.t 50) (.c (.int .i64 8)),none⟩,⟨some 223,.mv (.t 224),none⟩]) (.cond (.t 223) (.seq (.seq (.reg [⟨some 225,.faddr 5 (.t 6),none⟩,⟨some 226,.load .any false 1 (.t 225),none⟩,⟨some 227,.len false (.t 226),none⟩,⟨some 228,.faddr 4 (.t 9),none⟩,⟨some 229,.load .any false 1 (.t 228),none⟩,⟨some 230,.bin .gtr false (.t 227) (.t 229),none⟩,⟨some 231,.mv (.t 230),none⟩,⟨some 232,.faddr 6 (.t 6),some (231,false)⟩,⟨some 233,.load .any false 1 (.t 232),some (231,false)⟩,⟨some 234,.len false (.t 233),some (231,false)⟩,⟨some 235,.faddr 5 (.t 6),some (231,false)⟩,⟨some 236,.load .any false 1 (.t 235),some (231,false)⟩,⟨some 237,.len false (.t 236),some (231,false)⟩,⟨some 238,.bin .neq false (.t 234) (.t 237),some (231,false)⟩,⟨some 239,.pick (.t 231) (.c (.bool true)) (.t 238),none⟩,⟨some 240,.mv (.t 239),none⟩,⟨some 241,.load .any true 1 (.t 4),some (240,false)⟩,⟨some 242,.faddr 7 (.t 9),some (240,false)⟩,⟨some 243,.load .any false 1 (.t 242),some (240,false)⟩,⟨some 244,.faddr 5 (.t 6),some (240,false)⟩,⟨some 245,.load .any false 1 (.t 244),some (240,false)⟩,⟨some 246,.mv (.t 3),some (240,false)⟩,⟨some 247,.call .any 99 [(.t 241),(.t 243),(.t 245),(.t 246)],some (240,false)⟩,⟨some 248,.un .not (.t 247),some (240,false)⟩,⟨some 249,.pick (.t 240) (.c (.bool true)) (.t 248),none⟩,⟨some 250,.mv (.t 249),none⟩,⟨some 251,.load .any true 1 (.t 4),some (250,false)⟩,⟨some 252,.faddr 8 (.t 9),some (250,false)⟩,⟨some 253,.load .any false 1 (.t 252),some (250,false)⟩,⟨some 254,.faddr 6 (.t 6),some (250,false)⟩,⟨some 255,.load .any false 1 (.t 254),some (250,false)⟩,⟨some 256,.mv (.t 3),some (250,false)⟩,⟨some 257,.call .any 99 [(.t 251),(.t 253),(.t 255),(.t 256)],some (250,false)⟩,⟨some 258,.un .not (.t 257),some (250,false)⟩,⟨some 259,.pick (.t 250) (.c (.bool true)) (.t 258),none⟩]) (.cond (.t 259) (.seq (.reg [⟨some 8,.mv (.c (.bool false)),none⟩]) .ret) .skip)) (.seq (.seq (.reg [⟨some 15,.mv (.c (.int .i64 1)),none⟩]) (.block 3 (.loop q42))) (.seq (.reg [⟨some 8,.mv (.c (.bool true)),none⟩]) .ret))) .skip)))))))))))))))))) (.seq (.reg [⟨some 280,.faddr 6 (.t 6),none⟩,⟨some 281,.load .any false 1 (.t 280),none⟩,⟨some 282,.len false (.t 281),none⟩,⟨some 283,.bin .leq false (.t 282) (.c (.int .i64 1)),none⟩,⟨some 284,.mv (.t 283),none⟩,⟨some 285,.load .any true 1 (.t 4),some (284,true)⟩,⟨some 286,.faddr 8 (.t 9),some (284,true)⟩,⟨some 287,.load .any false 1 (.t 286),some (284,true)⟩,⟨some 288,.faddr 6 (.t 6),some (284,true)⟩,⟨some 289,.load .any false 1 (.t 288),some (284,true)⟩,⟨some 290,.mv (.t 3),some (284,true)⟩,⟨some 291,.call .any 99 [(.t 285),(.t 287),(.t 289),(.t 290)],some (284,true)⟩,⟨some 292,.pick (.t 284) (.t 291) (.c (.bool false)),none⟩,⟨some 8,.mv (.t 292),none⟩]) .ret)))))),[(.tmp 8)],4,[]⟩
theorem ok_ref08_fit:FnOk Tryz.prog 77 q08:=⟨fun xs w=>by kernel_rfl,_,Tryz.func77,by kernel_rfl⟩
def q1G:C:=.seq (.reg [⟨some 20,.bin .lss false (.t 19) (.t 18),none⟩]) (.seq (.cond (.t 20) .skip (.exit 0)) (.seq (.block 1 (.seq (.reg [⟨some 21,.mv (.t 19),none⟩,⟨some 3,.mv (.t 21),none⟩]) (.seq (.reg [⟨some 22,.mv (.t 0),none⟩,⟨some 23,.mv (.t 3),none⟩,⟨some 24,.index (.t 22) (.t 23),none⟩,⟨some 25,.call .any 101 [(.t 24)],none⟩,⟨some 26,.un .not (.t 25),none⟩,⟨some 27,.mv (.t 26),none⟩,⟨some 28,.mv (.t 0),some (27,true)⟩,⟨some 29,.mv (.t 3),some (27,true)⟩,⟨some 30,.index (.t 28) (.t 29),some (27,true)⟩,⟨some 31,.call .any 102 [(.t 30)],some (27,true)⟩,⟨some 32,.un .not (.t 31),some (27,true)⟩,⟨some 33,.pick (.t 27) (.t 32) (.c (.bool false)),none⟩]) (.cond (.t 33) (.seq (.reg [⟨some 2,.mv (.c (.bool false)),none⟩]) .ret) .skip)))) (.reg [⟨some 34,.bin .add false (.t 19) (.c (.int .i64 1)),none⟩,⟨some 19,.mv (.t 34),none⟩])))
def q1Y:FnC:=⟨(.seq (.reg [⟨some 2,.mv (.c (.bool false)),none⟩]) (.seq (.seq (.reg [⟨some 4,.mv (.t 0),none⟩,⟨some 5,.bin .eql false (.t 4) (.c (.str (ByteArray.mk #[]))),none⟩,⟨some 6,.mv (.t 5),none⟩,⟨some 7,.mv (.t 0),some (6,false)⟩,⟨some 8,.len true (.t 7),some (6,false)⟩,⟨some 9,.bin .gtr false (.t 8) (.c (.int .i64 24)),some (6,false)⟩,⟨some 10,.pick (.t 6) (.c (.bool true)) (.t 9),none⟩,⟨some 11,.mv (.t 10),none⟩,⟨some 12,.mv (.t 0),some (11,false)⟩,⟨some 13,.index (.t 12) (.c (.int .i64 0)),some (11,false)⟩,⟨some 14,.call .any 101 [(.t 13)],some (11,false)⟩,⟨some 15,.un .not (.t 14),some (11,false)⟩,⟨some 16,.pick (.t 11) (.c (.bool true)) (.t 15),none⟩]) (.cond (.t 16) (.seq (.reg [⟨some 2,.mv (.c (.bool false)),none⟩]) .ret) .skip)) (.seq (.seq (.reg [⟨some 17,.mv (.t 0),none⟩,⟨some 18,.len true (.t 17),none⟩,⟨some 19,.mv (.c (.int .i64 0)),none⟩]) (.block 0 (.loop q1G))) (.seq (.reg [⟨some 2,.mv (.c (.bool true)),none⟩]) .ret)))),[(.tmp 2)],1,[]⟩
theorem ok_lexer_IsName:FnOk Tryz.prog 78 q1Y:=⟨fun xs w=>by kernel_rfl,_,Tryz.func78,by kernel_rfl⟩
def q2d:C:=.seq (.reg [⟨some 10,.bin .lss false (.t 9) (.t 8),none⟩]) (.seq (.cond (.t 10) .skip (.exit 0)) (.seq (.block 1 (.seq (.reg [⟨some 11,.iaddr 2 (.t 7) (.t 9),none⟩,⟨some 12,.load .any true 2 (.t 11),none⟩,⟨some 6,.alloc [(.int .i64 0),(.str (ByteArray.mk #[]))],none⟩,⟨none,.store .any true 2 (.t 6) (.t 12),none⟩]) (.reg [⟨some 13,.mv (.t 3),none⟩,⟨some 14,.faddr 0 (.t 6),none⟩,⟨some 15,.load .any false 1 (.t 14),none⟩,⟨some 16,.bsl [(.int .i64 0)] 1 [(0,(.t 15))],none⟩,⟨some 17,.app .any 3 1 8 (.t 13) (.t 16),none⟩,⟨some 18,.mv (.t 4),none⟩,⟨some 19,.faddr 1 (.t 6),none⟩,⟨some 20,.load .any false 1 (.t 19),none⟩,⟨some 21,.bsl [(.str (ByteArray.mk #[]))] 1 [(0,(.t 20))],none⟩,⟨some 22,.app .any 9 1 16 (.t 18) (.t 21),none⟩,⟨some 3,.mv (.t 17),none⟩,⟨some 4,.mv (.t 22),none⟩]))) (.reg [⟨some 23,.bin .add false (.t 9) (.c (.int .i64 1)),none⟩,⟨some 9,.mv (.t 23),none⟩])))
def q38:FnC:=⟨(.seq (.reg [⟨some 2,.mv (.c (.bool false)),none⟩]) (.seq (.reg [⟨some 3,.mv (.c (.sl true [])),none⟩]) (.seq (.reg [⟨some 4,.mv (.c (.sl true [])),none⟩]) (.seq (.seq (.reg [⟨some 7,.mv (.t 0),none⟩,⟨some 8,.len false (.t 7),none⟩,⟨some 9,.mv (.c (.int .i64 0)),none⟩]) (.block 0 (.loop q2d))) (.seq (.reg [⟨some 24,.mv (.t 0),none⟩,⟨some 25,.len false (.t 24),none⟩,⟨some 26,.bin .gtr false (.t 25) (.c (.int .i64 0)),none⟩,⟨some 27,.mv (.t 26),none⟩,⟨some 28,.mv (.t 3),some (27,true)⟩,⟨some 29,.mv (.t 4),some (27,true)⟩,⟨some 30,.call .any 103 [(.t 28),(.t 29)],some (27,true)⟩,⟨some 31,.pick (.t 27) (.t 30) (.c (.bool false)),none⟩,⟨some 2,.mv (.t 31),none⟩]) .ret))))),[(.tmp 2)],1,[]⟩
theorem q8a:FnOk Tryz.prog 79 q38:=⟨fun xs w=>by kernel_rfl,_,Tryz.func79,by kernel_rfl⟩
def q2f:C:=.seq (.reg [⟨some 11,.bin .lss false (.t 10) (.t 9),none⟩]) (.seq (.cond (.t 11) .skip (.exit 0)) (.seq (.block 1 (.seq (.reg [⟨some 12,.iaddr 13 (.t 8) (.t 10),none⟩,⟨some 13,.load .any true 13 (.t 12),none⟩,⟨some 6,.alloc [(.int .i64 0),(.str (ByteArray.mk #[])),(.int .i64 0),(.bool false),(.bool false),(.int .i64 0),(.bool false),(.int .i64 0),(.str (ByteArray.mk #[])),(.int .i64 0),(.sl true []),(.sl true []),(.sl true [])],none⟩,⟨none,.store .any true 13 (.t 6) (.t 13),none⟩]) (.seq (.reg [⟨some 14,.mv (.t 3),none⟩,⟨some 15,.faddr 0 (.t 6),none⟩,⟨some 16,.load .any false 1 (.t 15),none⟩,⟨some 17,.bsl [(.int .i64 0)] 1 [(0,(.t 16))],none⟩,⟨some 18,.app .any 3 1 8 (.t 14) (.t 17),none⟩,⟨some 19,.mv (.t 4),none⟩,⟨some 20,.faddr 1 (.t 6),none⟩,⟨some 21,.load .any false 1 (.t 20),none⟩,⟨some 22,.bsl [(.str (ByteArray.mk #[]))] 1 [(0,(.t 21))],none⟩,⟨some 23,.app .any 9 1 16 (.t 19) (.t 22),none⟩,⟨some 3,.mv (.t 18),none⟩,⟨some 4,.mv (.t 23),none⟩]) (.seq (.reg [⟨some 24,.faddr 0 (.t 1),none⟩,⟨some 25,.load .any false 1 (.t 24),none⟩,⟨some 26,.bin .eql false (.t 25) (.c (.int .i64 6)),none⟩,⟨some 27,.mv (.t 26),none⟩,⟨some 28,.faddr 3 (.t 6),some (27,true)⟩,⟨some 29,.load .any false 1 (.t 28),some (27,true)⟩,⟨some 30,.mv (.t 29),some (27,true)⟩,⟨some 31,.faddr 4 (.t 6),some (30,false)⟩,⟨some 32,.load .any false 1 (.t 31),some (30,false)⟩,⟨some 33,.pick (.t 30) (.c (.bool true)) (.t 32),some (27,true)⟩,⟨some 34,.pick (.t 27) (.t 33) (.c (.bool false)),none⟩,⟨some 35,.mv (.t 34),none⟩,⟨some 36,.faddr 3 (.t 6),some (35,false)⟩,⟨some 37,.load .any false 1 (.t 36),some (35,false)⟩,⟨some 38,.mv (.t 37),some (35,false)⟩,⟨some 39,.faddr 4 (.t 6),some (38,true)⟩,⟨some 40,.load .any false 1 (.t 39),some (38,true)⟩,⟨some 41,.pick (.t 38) (.t 40) (.c (.bool false)),some (35,false)⟩,⟨some 42,.pick (.t 35) (.c (.bool true)) (.t 41),none⟩,⟨some 43,.mv (.t 42),none⟩,⟨some 44,.faddr 4 (.t 6),some (43,false)⟩,⟨some 45,.load .any false 1 (.t 44),some (43,false)⟩,⟨some 46,.un .not (.t 45),some (43,false)⟩,⟨some 47,.mv (.t 46),some (43,false)⟩,⟨some 48,.faddr 5 (.t 6),some (47,true)⟩,⟨some 49,.load .any true 8 (.t 48),some (47,true)⟩,⟨some 50,.call .any 104 [(.t 49)],some (47,true)⟩,⟨some 51,.un .not (.t 50),some (47,true)⟩,⟨some 52,.pick (.t 47) (.t 51) (.c (.bool false)),some (43,false)⟩,⟨some 53,.pick (.t 43) (.c (.bool true)) (.t 52),none⟩]) (.cond (.t 53) (.seq (.reg [⟨some 2,.mv (.c (.bool false)),none⟩]) .ret) .skip))))) (.reg [⟨some 54,.bin .add false (.t 10) (.c (.int .i64 1)),none⟩,⟨some 10,.mv (.t 54),none⟩])))
def q3b:FnC:=⟨(.seq (.reg [⟨some 1,.box 10 (.t 0),none⟩,⟨some 2,.mv (.c (.bool false)),none⟩]) (.seq (.reg [⟨some 3,.mv (.c (.sl true [])),none⟩]) (.seq (.reg [⟨some 4,.mv (.c (.sl true [])),none⟩]) (.seq (.seq (.reg [⟨some 7,.faddr 6 (.t 1),none⟩,⟨some 8,.load .any false 1 (.t 7),none⟩,⟨some 9,.len false (.t 8),none⟩,⟨some 10,.mv (.c (.int .i64 0)),none⟩]) (.block 0 (.loop q2f))) (.seq (.reg [⟨some 55,.faddr 0 (.t 1),none⟩,⟨some 56,.load .any false 1 (.t 55),none⟩,⟨some 57,.bin .eql false (.t 56) (.c (.int .i64 5)),none⟩,⟨some 58,.mv (.t 57),none⟩,⟨some 59,.mv (.t 3),some (58,false)⟩,⟨some 60,.len false (.t 59),some (58,false)⟩,⟨some 61,.bin .gtr false (.t 60) (.c (.int .i64 0)),some (58,false)⟩,⟨some 62,.pick (.t 58) (.c (.bool true)) (.t 61),none⟩,⟨some 63,.mv (.t 62),none⟩,⟨some 64,.mv (.t 3),some (63,true)⟩,⟨some 65,.mv (.t 4),some (63,true)⟩,⟨some 66,.call .any 103 [(.t 64),(.t 65)],some (63,true)⟩,⟨some 67,.pick (.t 63) (.t 66) (.c (.bool false)),none⟩,⟨some 2,.mv (.t 67),none⟩]) .ret))))),[(.tmp 2)],1,[]⟩
theorem q7Y:FnOk Tryz.prog 80 q3b:=⟨fun xs w=>by kernel_rfl,_,Tryz.func80,by kernel_rfl⟩
def q0H:FnC:=⟨(.seq (.reg [⟨some 2,.box 10 (.t 0),none⟩,⟨some 3,.box 10 (.t 1),none⟩,⟨some 4,.mv (.c (.bool false)),none⟩]) (.seq (.reg [⟨some 5,.faddr 0 (.t 2),none⟩,⟨some 6,.load .any false 1 (.t 5),none⟩,⟨some 7,.faddr 0 (.t 3),none⟩,⟨some 8,.load .any false 1 (.t 7),none⟩,⟨some 9,.bin .eql false (.t 6) (.t 8),none⟩,⟨some 10,.mv (.t 9),none⟩,⟨some 11,.faddr 1 (.t 2),some (10,true)⟩,⟨some 12,.load .any false 1 (.t 11),some (10,true)⟩,⟨some 13,.faddr 1 (.t 3),some (10,true)⟩,⟨some 14,.load .any false 1 (.t 13),some (10,true)⟩,⟨some 15,.bin .eql false (.t 12) (.t 14),some (10,true)⟩,⟨some 16,.pick (.t 10) (.t 15) (.c (.bool false)),none⟩,⟨some 17,.mv (.t 16),none⟩,⟨some 18,.faddr 2 (.t 2),some (17,true)⟩,⟨some 19,.load .any false 1 (.t 18),some (17,true)⟩,⟨some 20,.faddr 2 (.t 3),some (17,true)⟩,⟨some 21,.load .any false 1 (.t 20),some (17,true)⟩,⟨some 22,.bin .eql false (.t 19) (.t 21),some (17,true)⟩,⟨some 23,.pick (.t 17) (.t 22) (.c (.bool false)),none⟩,⟨some 24,.mv (.t 23),none⟩,⟨some 25,.faddr 3 (.t 2),some (24,true)⟩,⟨some 26,.load .any false 1 (.t 25),some (24,true)⟩,⟨some 27,.faddr 3 (.t 3),some (24,true)⟩,⟨some 28,.load .any false 1 (.t 27),some (24,true)⟩,⟨some 29,.bin .eql false (.t 26) (.t 28),some (24,true)⟩,⟨some 30,.pick (.t 24) (.t 29) (.c (.bool false)),none⟩,⟨some 31,.mv (.t 30),none⟩,⟨some 32,.faddr 4 (.t 2),some (31,true)⟩,⟨some 33,.load .any false 1 (.t 32),some (31,true)⟩,⟨some 34,.faddr 4 (.t 3),some (31,true)⟩,⟨some 35,.load .any false 1 (.t 34),some (31,true)⟩,⟨some 36,.bin .eql false (.t 33) (.t 35),some (31,true)⟩,⟨some 37,.pick (.t 31) (.t 36) (.c (.bool false)),none⟩,⟨some 38,.mv (.t 37),none⟩,⟨some 39,.faddr 7 (.t 2),some (38,true)⟩,⟨some 40,.load .any false 1 (.t 39),some (38,true)⟩,⟨some 41,.faddr 7 (.t 3),some (38,true)⟩,⟨some 42,.load .any false 1 (.t 41),some (38,true)⟩,⟨some 43,.bin .eql false (.t 40) (.t 42),some (38,true)⟩,⟨some 44,.pick (.t 38) (.t 43) (.c (.bool false)),none⟩,⟨some 45,.mv (.t 44),none⟩,⟨some 46,.faddr 8 (.t 2),some (45,true)⟩,⟨some 47,.load .any false 1 (.t 46),some (45,true)⟩,⟨some 48,.faddr 8 (.t 3),some (45,true)⟩,⟨some 49,.load .any false 1 (.t 48),some (45,true)⟩,⟨some 50,.bin .eql false (.t 47) (.t 49),some (45,true)⟩,⟨some 51,.pick (.t 45) (.t 50) (.c (.bool false)),none⟩,⟨some 52,.mv (.t 51),none⟩,⟨some 53,.faddr 9 (.t 2),some (52,true)⟩,⟨some 54,.load .any false 1 (.t 53),some (52,true)⟩,⟨some 55,.faddr 9 (.t 3),some (52,true)⟩,⟨some 56,.load .any false 1 (.t 55),some (52,true)⟩,⟨some 57,.bin .eql true (.t 54) (.t 56),some (52,true)⟩,⟨some 58,.pick (.t 52) (.t 57) (.c (.bool false)),none⟩,⟨some 59,.mv (.t 58),none⟩,⟨some 60,.faddr 5 (.t 2),some (59,true)⟩,⟨some 61,.load .any false 1 (.t 60),some (59,true)⟩,⟨some 62,.faddr 5 (.t 3),some (59,true)⟩,⟨some 63,.load .any false 1 (.t 62),some (59,true)⟩,⟨some 64,.call .any 105 [(.t 61),(.t 63)],some (59,true)⟩,⟨some 65,.pick (.t 59) (.t 64) (.c (.bool false)),none⟩,⟨some 66,.mv (.t 65),none⟩,⟨some 67,.faddr 6 (.t 2),some (66,true)⟩,⟨some 68,.load .any false 1 (.t 67),some (66,true)⟩,⟨some 69,.faddr 6 (.t 3),some (66,true)⟩,⟨some 70,.load .any false 1 (.t 69),some (66,true)⟩,⟨some 71,.call .any 106 [(.t 68),(.t 70),(.c (.fn 107 []))],some (66,true)⟩,⟨some 72,.pick (.t 66) (.t 71) (.c (.bool false)),none⟩,⟨some 4,.mv (.t 72),none⟩]) .ret)),[(.tmp 4)],2,[]⟩
theorem ok_schema_equal:FnOk Tryz.prog 81 q0H:=⟨fun xs w=>by kernel_rfl,_,Tryz.func81,by kernel_rfl⟩
def q3m:C:=.seq (.seq (.reg [⟨some 281,.mv (.t 20),none⟩,⟨some 282,.faddr 5 (.t 6),none⟩,⟨some 283,.load .any false 1 (.t 282),none⟩,⟨some 284,.len false (.t 283),none⟩,⟨some 285,.bin .lss false (.t 281) (.t 284),none⟩]) (.cond (.t 285) .skip (.exit 5))) (.seq (.block 6 (.seq (.reg [⟨some 288,.faddr 5 (.t 6),none⟩,⟨some 289,.load .any false 1 (.t 288),none⟩,⟨some 290,.mv (.t 20),none⟩,⟨some 291,.bin .sub false (.t 290) (.c (.int .i64 1)),none⟩,⟨some 292,.iaddr 8 (.t 289) (.t 291),none⟩,⟨some 293,.load .any true 8 (.t 292),none⟩,⟨some 294,.faddr 5 (.t 6),none⟩,⟨some 295,.load .any false 1 (.t 294),none⟩,⟨some 296,.mv (.t 20),none⟩,⟨some 297,.iaddr 8 (.t 295) (.t 296),none⟩,⟨some 298,.load .any true 8 (.t 297),none⟩,⟨some 299,.call .any 114 [(.t 293),(.t 298)],none⟩,⟨some 300,.bin .geq false (.t 299) (.c (.int .i64 0)),none⟩]) (.cond (.t 300) (.seq (.reg [⟨some 8,.mv (.c (.bool false)),none⟩]) .ret) .skip))) (.reg [⟨some 286,.mv (.t 20),none⟩,⟨some 287,.bin .add false (.t 286) (.c (.int .i64 1)),none⟩,⟨some 20,.mv (.t 287),none⟩]))
def q3G:C:=.seq (.reg [⟨some 153,.bin .lss false (.t 152) (.t 151),none⟩]) (.seq (.cond (.t 153) .skip (.exit 3)) (.seq (.block 4 (.seq (.reg [⟨some 154,.mv (.t 152),none⟩,⟨some 155,.iaddr 13 (.t 150) (.t 152),none⟩,⟨some 156,.load .any true 13 (.t 155),none⟩,⟨some 17,.alloc [(.int .i64 0),(.str (ByteArray.mk #[])),(.int .i64 0),(.bool false),(.bool false),(.int .i64 0),(.bool false),(.int .i64 0),(.str (ByteArray.mk #[])),(.int .i64 0),(.sl true []),(.sl true []),(.sl true [])],none⟩,⟨some 16,.mv (.t 154),none⟩,⟨none,.store .any true 13 (.t 17) (.t 156),none⟩]) (.seq (.reg [⟨some 157,.load .any true 1 (.t 4),none⟩,⟨some 158,.faddr 2 (.t 17),none⟩,⟨some 159,.load .any false 1 (.t 158),none⟩,⟨some 160,.faddr 6 (.t 6),none⟩,⟨some 161,.load .any false 1 (.t 160),none⟩,⟨some 162,.mv (.t 16),none⟩,⟨some 163,.iaddr 8 (.t 161) (.t 162),none⟩,⟨some 164,.load .any true 8 (.t 163),none⟩,⟨some 165,.mv (.t 3),none⟩,⟨some 166,.call .any 82 [(.t 157),(.t 159),(.t 164),(.t 165)],none⟩,⟨some 167,.un .not (.t 166),none⟩]) (.cond (.t 167) (.seq (.reg [⟨some 8,.mv (.c (.bool false)),none⟩]) .ret) .skip)))) (.reg [⟨some 168,.bin .add false (.t 152) (.c (.int .i64 1)),none⟩,⟨some 152,.mv (.t 168),none⟩])))
def q6m:C:=.seq (.reg [⟨some 114,.bin .lss false (.t 113) (.t 112),none⟩]) (.seq (.cond (.t 114) .skip (.exit 1)) (.seq (.block 2 (.seq (.reg [⟨some 115,.mv (.t 113),none⟩,⟨some 116,.iaddr 2 (.t 111) (.t 113),none⟩,⟨some 117,.load .any true 2 (.t 116),none⟩,⟨some 13,.alloc [(.int .i64 0),(.str (ByteArray.mk #[]))],none⟩,⟨some 12,.mv (.t 115),none⟩,⟨none,.store .any true 2 (.t 13) (.t 117),none⟩]) (.seq (.reg [⟨some 119,.load .any true 10 (.t 9),none⟩,⟨some 120,.faddr 0 (.t 13),none⟩,⟨some 121,.load .any false 1 (.t 120),none⟩,⟨some 122,.call .any 112 [(.t 119),(.t 121)],none⟩,⟨some 118,.mv (.t 122),none⟩,⟨some 123,.ext (.t 118) 0,none⟩,⟨some 124,.ext (.t 118) 1,none⟩,⟨some 14,.mv (.t 123),none⟩,⟨some 15,.mv (.t 124),none⟩]) (.seq (.reg [⟨some 125,.mv (.t 15),none⟩,⟨some 126,.mv (.t 125),none⟩,⟨some 127,.faddr 0 (.t 13),some (126,false)⟩,⟨some 128,.load .any false 1 (.t 127),some (126,false)⟩,⟨some 129,.call .any 111 [(.t 128)],some (126,false)⟩,⟨some 130,.un .not (.t 129),some (126,false)⟩,⟨some 131,.pick (.t 126) (.c (.bool true)) (.t 130),none⟩,⟨some 132,.mv (.t 131),none⟩,⟨some 133,.mv (.t 12),some (132,false)⟩,⟨some 134,.bin .gtr false (.t 133) (.c (.int .i64 0)),some (132,false)⟩,⟨some 135,.mv (.t 134),some (132,false)⟩,⟨some 136,.faddr 0 (.t 13),some (135,true)⟩,⟨some 137,.load .any false 1 (.t 136),some (135,true)⟩,⟨some 138,.faddr 7 (.t 6),some (135,true)⟩,⟨some 139,.load .any false 1 (.t 138),some (135,true)⟩,⟨some 140,.mv (.t 12),some (135,true)⟩,⟨some 141,.bin .sub false (.t 140) (.c (.int .i64 1)),some (135,true)⟩,⟨some 142,.iaddr 2 (.t 139) (.t 141),some (135,true)⟩,⟨some 143,.faddr 0 (.t 142),some (135,true)⟩,⟨some 144,.load .any false 1 (.t 143),some (135,true)⟩,⟨some 145,.bin .leq false (.t 137) (.t 144),some (135,true)⟩,⟨some 146,.pick (.t 135) (.t 145) (.c (.bool false)),some (132,false)⟩,⟨some 147,.pick (.t 132) (.c (.bool true)) (.t 146),none⟩]) (.cond (.t 147) (.seq (.reg [⟨some 8,.mv (.c (.bool false)),none⟩]) .ret) .skip))))) (.reg [⟨some 148,.bin .add false (.t 113) (.c (.int .i64 1)),none⟩,⟨some 113,.mv (.t 148),none⟩])))
def q06:FnC:=⟨(.seq (.reg [⟨some 4,.box 1 (.t 0),none⟩,⟨some 6,.box 8 (.t 2),none⟩,⟨some 8,.mv (.c (.bool false)),none⟩]) (.seq (.seq (.reg [⟨some 21,.mv (.t 1),none⟩,⟨some 22,.bin .lss false (.t 21) (.c (.int .i64 0)),none⟩,⟨some 23,.mv (.t 22),none⟩,⟨some 24,.mv (.t 1),some (23,false)⟩,⟨some 25,.faddr 0 (.t 4),some (23,false)⟩,⟨some 26,.load .any false 1 (.t 25),some (23,false)⟩,⟨some 27,.len false (.t 26),some (23,false)⟩,⟨some 28,.bin .geq false (.t 24) (.t 27),some (23,false)⟩,⟨some 29,.pick (.t 23) (.c (.bool true)) (.t 28),none⟩]) (.cond (.t 29) (.seq (.reg [⟨some 8,.mv (.c (.bool false)),none⟩]) .ret) .skip)) (.seq (.reg [⟨some 30,.faddr 0 (.t 4),none⟩,⟨some 31,.load .any false 1 (.t 30),none⟩,⟨some 32,.mv (.t 1),none⟩,⟨some 33,.iaddr 10 (.t 31) (.t 32),none⟩,⟨some 34,.load .any true 10 (.t 33),none⟩,⟨some 9,.alloc [(.int .i64 0),(.str (ByteArray.mk #[])),(.int .i64 0),(.int .i64 0),(.int .i64 0),(.sl true []),(.sl true []),(.int .i64 0),(.int .i64 0),(.bool false)],none⟩,⟨none,.store .any true 10 (.t 9) (.t 34),none⟩]) (.seq (.seq (.reg [⟨some 35,.faddr 0 (.t 6),none⟩,⟨some 36,.load .any false 1 (.t 35),none⟩,⟨some 37,.faddr 0 (.t 9),none⟩,⟨some 38,.load .any false 1 (.t 37),none⟩,⟨some 39,.bin .neq false (.t 36) (.t 38),none⟩,⟨some 40,.mv (.t 39),none⟩,⟨some 41,.load .any true 8 (.t 6),some (40,false)⟩,⟨some 42,.call .any 109 [(.t 41)],some (40,false)⟩,⟨some 43,.un .not (.t 42),some (40,false)⟩,⟨some 44,.pick (.t 40) (.c (.bool true)) (.t 43),none⟩]) (.cond (.t 44) (.seq (.reg [⟨some 8,.mv (.c (.bool false)),none⟩]) .ret) .skip)) (.seq (.seq (.reg [⟨some 45,.faddr 0 (.t 9),none⟩,⟨some 46,.load .any false 1 (.t 45),none⟩]) (.block 0 (.seq (.reg [⟨some 48,.bin .eql false (.t 46) (.c (.int .i64 2)),none⟩,⟨some 47,.mv (.t 48),none⟩]) (.cond (.t 47) (.seq (.reg [⟨some 49,.faddr 2 (.t 6),none⟩,⟨some 50,.load .any false 1 (.t 49),none⟩,⟨some 51,.faddr 2 (.t 9),none⟩,⟨some 52,.load .any false 1 (.t 51),none⟩,⟨some 53,.bin .geq false (.t 50) (.t 52),none⟩,⟨some 54,.mv (.t 53),none⟩,⟨some 55,.faddr 2 (.t 6),some (54,true)⟩,⟨some 56,.load .any false 1 (.t 55),some (54,true)⟩,⟨some 57,.faddr 3 (.t 9),some (54,true)⟩,⟨some 58,.load .any false 1 (.t 57),some (54,true)⟩,⟨some 59,.bin .leq false (.t 56) (.t 58),some (54,true)⟩,⟨some 60,.pick (.t 54) (.t 59) (.c (.bool false)),none⟩,⟨some 8,.mv (.t 60),none⟩]) .ret) (.seq (.reg [⟨some 62,.bin .eql false (.t 46) (.c (.int .i64 3)),none⟩,⟨some 61,.mv (.t 62),none⟩]) (.cond (.t 61) (.seq (.reg [⟨some 63,.faddr 3 (.t 6),none⟩,⟨some 64,.load .any false 1 (.t 63),none⟩,⟨some 65,.len true (.t 64),none⟩,⟨some 66,.faddr 4 (.t 9),none⟩,⟨some 67,.load .any false 1 (.t 66),none⟩,⟨some 68,.bin .leq false (.t 65) (.t 67),none⟩,⟨some 8,.mv (.t 68),none⟩]) .ret) (.seq (.reg [⟨some 70,.bin .eql false (.t 46) (.c (.int .i64 4)),none⟩,⟨some 69,.mv (.t 70),none⟩]) (.cond (.t 69) (.seq (.reg [⟨some 72,.load .any true 10 (.t 9),none⟩,⟨some 73,.faddr 4 (.t 6),none⟩,⟨some 74,.load .any false 1 (.t 73),none⟩,⟨some 75,.call .any 110 [(.t 72),(.t 74)],none⟩,⟨some 71,.mv (.t 75),none⟩,⟨some 76,.ext (.t 71) 0,none⟩,⟨some 77,.ext (.t 71) 1,none⟩,⟨some 10,.mv (.t 76),none⟩,⟨some 11,.mv (.t 77),none⟩]) (.seq (.reg [⟨some 78,.mv (.t 11),none⟩,⟨some 79,.mv (.t 78),none⟩,⟨some 80,.faddr 9 (.t 9),some (79,false)⟩,⟨some 81,.load .any false 1 (.t 80),some (79,false)⟩,⟨some 82,.mv (.t 81),some (79,false)⟩,⟨some 83,.mv (.t 3),some (82,true)⟩,⟨some 84,.un .not (.t 83),some (82,true)⟩,⟨some 85,.pick (.t 82) (.t 84) (.c (.bool false)),some (79,false)⟩,⟨some 86,.mv (.t 85),some (79,false)⟩,⟨some 87,.faddr 4 (.t 6),some (86,true)⟩,⟨some 88,.load .any false 1 (.t 87),some (86,true)⟩,⟨some 89,.call .any 111 [(.t 88)],some (86,true)⟩,⟨some 90,.pick (.t 86) (.t 89) (.c (.bool false)),some (79,false)⟩,⟨some 91,.pick (.t 79) (.c (.bool true)) (.t 90),none⟩,⟨some 8,.mv (.t 91),none⟩]) .ret)) (.seq (.reg [⟨some 93,.bin .eql false (.t 46) (.c (.int .i64 5)),none⟩,⟨some 92,.mv (.t 93),none⟩]) (.cond (.t 92) (.seq (.seq (.reg [⟨some 94,.faddr 6 (.t 6),none⟩,⟨some 95,.load .any false 1 (.t 94),none⟩,⟨some 96,.len false (.t 95),none⟩,⟨some 97,.faddr 6 (.t 9),none⟩,⟨some 98,.load .any false 1 (.t 97),none⟩,⟨some 99,.len false (.t 98),none⟩,⟨some 100,.bin .neq false (.t 96) (.t 99),none⟩,⟨some 101,.mv (.t 100),none⟩,⟨some 102,.mv (.t 3),some (101,false)⟩,⟨some 103,.mv (.t 102),some (101,false)⟩,⟨some 104,.faddr 7 (.t 6),some (103,true)⟩,⟨some 105,.load .any false 1 (.t 104),some (103,true)⟩,⟨some 106,.len false (.t 105),some (103,true)⟩,⟨some 107,.bin .gtr false (.t 106) (.c (.int .i64 0)),some (103,true)⟩,⟨some 108,.pick (.t 103) (.t 107) (.c (.bool false)),some (101,false)⟩,⟨some 109,.pick (.t 101) (.c (.bool true)) (.t 108),none⟩]) (.cond (.t 109) (.seq (.reg [⟨some 8,.mv (.c (.bool false)),none⟩]) .ret) .skip)) (.seq (.seq (.reg [⟨some 110,.faddr 7 (.t 6),none⟩,⟨some 111,.load .any false 1 (.t 110),none⟩,⟨some 112,.len false (.t 111),none⟩,⟨some 113,.mv (.c (.int .i64 0)),none⟩]) (.block 1 (.loop q6m))) (.seq (.reg [⟨some 149,.faddr 6 (.t 9),none⟩,⟨some 150,.load .any false 1 (.t 149),none⟩,⟨some 151,.len false (.t 150),none⟩,⟨some 152,.mv (.c (.int .i64 0)),none⟩]) (.block 3 (.loop q3G))))) (.seq (.reg [⟨some 170,.bin .eql false (.t 46) (.c (.int .i64 6)),none⟩,⟨some 169,.mv (.t 170),none⟩]) (.cond (.t 169) (.seq (.seq (.reg [⟨some 172,.load .any true 10 (.t 9),none⟩,⟨some 173,.faddr 4 (.t 6),none⟩,⟨some 174,.load .any false 1 (.t 173),none⟩,⟨some 175,.call .any 112 [(.t 172),(.t 174)],none⟩,⟨some 171,.mv (.t 175),none⟩,⟨some 176,.ext (.t 171) 0,none⟩,⟨some 177,.ext (.t 171) 1,none⟩,⟨some 18,.mv (.t 176),none⟩,⟨some 19,.mv (.t 177),none⟩]) (.seq (.reg [⟨some 178,.mv (.t 19),none⟩]) (.cond (.t 178) (.seq (.reg [⟨some 179,.faddr 6 (.t 6),none⟩,⟨some 180,.load .any false 1 (.t 179),none⟩,⟨some 181,.len false (.t 180),none⟩,⟨some 182,.bin .eql false (.t 181) (.c (.int .i64 1)),none⟩,⟨some 183,.mv (.t 182),none⟩,⟨some 184,.faddr 7 (.t 6),some (183,true)⟩,⟨some 185,.load .any false 1 (.t 184),some (183,true)⟩,⟨some 186,.len false (.t 185),some (183,true)⟩,⟨some 187,.bin .eql false (.t 186) (.c (.int .i64 0)),some (183,true)⟩,⟨some 188,.pick (.t 183) (.t 187) (.c (.bool false)),none⟩,⟨some 189,.mv (.t 188),none⟩,⟨some 190,.load .any true 1 (.t 4),some (189,true)⟩,⟨some 191,.faddr 6 (.t 9),some (189,true)⟩,⟨some 192,.load .any false 1 (.t 191),some (189,true)⟩,⟨some 193,.mv (.t 18),some (189,true)⟩,⟨some 194,.iaddr 13 (.t 192) (.t 193),some (189,true)⟩,⟨some 195,.faddr 2 (.t 194),some (189,true)⟩,⟨some 196,.load .any false 1 (.t 195),some (189,true)⟩,⟨some 197,.faddr 6 (.t 6),some (189,true)⟩,⟨some 198,.load .any false 1 (.t 197),some (189,true)⟩,⟨some 199,.iaddr 8 (.t 198) (.c (.int .i64 0)),some (189,true)⟩,⟨some 200,.load .any true 8 (.t 199),some (189,true)⟩,⟨some 201,.mv (.t 3),some (189,true)⟩,⟨some 202,.call .any 82 [(.t 190),(.t 196),(.t 200),(.t 201)],some (189,true)⟩,⟨some 203,.pick (.t 189) (.t 202) (.c (.bool false)),none⟩,⟨some 8,.mv (.t 203),none⟩]) .ret) .skip))) (.seq (.reg [⟨some 204,.faddr 9 (.t 9),none⟩,⟨some 205,.load .any false 1 (.t 204),none⟩,⟨some 206,.mv (.t 205),none⟩,⟨some 207,.mv (.t 3),some (206,true)⟩,⟨some 208,.un .not (.t 207),some (206,true)⟩,⟨some 209,.pick (.t 206) (.t 208) (.c (.bool false)),none⟩,⟨some 210,.mv (.t 209),none⟩,⟨some 211,.faddr 4 (.t 6),some (210,true)⟩,⟨some 212,.load .any false 1 (.t 211),some (210,true)⟩,⟨some 213,.call .any 111 [(.t 212)],some (210,true)⟩,⟨some 214,.pick (.t 210) (.t 213) (.c (.bool false)),none⟩,⟨some 215,.mv (.t 214),none⟩,⟨some 216,.faddr 6 (.t 6),some (215,true)⟩,⟨some 217,.load .any false 1 (.t 216),some (215,true)⟩,⟨some 218,.len false (.t 217),some (215,true)⟩,⟨some 219,.bin .eql false (.t 218) (.c (.int .i64 0)),some (215,true)⟩,⟨some 220,.pick (.t 215) (.t 219) (.c (.bool false)),none⟩,⟨some 221,.mv (.t 220),none⟩,⟨some 222,.faddr 7 (.t 6),some (221,true)⟩,⟨some 223,.load .any false 1 (.t 222),some (221,true)⟩,⟨some 224,.len false (.t 223),some (221,true)⟩,⟨some 225,.bin .eql false (.t 224) (.c (.int .i64 1)),some (221,true)⟩,⟨some 226,.pick (.t 221) (.t 225) (.c (.bool false)),none⟩,⟨some 227,.mv (.t 226),none⟩,⟨some 228,.faddr 7 (.t 6),some (227,true)⟩,⟨some 229,.load .any false 1 (.t 228),some (227,true)⟩,⟨some 230,.iaddr 2 (.t 229) (.c (.int .i64 0)),some (227,true)⟩,⟨some 231,.faddr 0 (.t 230),some (227,true)⟩,⟨some 232,.load .any false 1 (.t 231),some (227,true)⟩,⟨some 233,.faddr 4 (.t 6),some (227,true)⟩,⟨some 234,.load .any false 1 (.t 233),some (227,true)⟩,⟨some 235,.bin .eql false (.t 232) (.t 234),some (227,true)⟩,⟨some 236,.pick (.t 227) (.t 235) (.c (.bool false)),none⟩,⟨some 8,.mv (.t 236),none⟩]) .ret)) (.seq (.reg [⟨some 238,.bin .eql false (.t 46) (.c (.int .i64 7)),none⟩,⟨some 237,.mv (.t 238),none⟩]) (.cond (.t 237) (.seq (.reg [⟨some 239,.faddr 6 (.t 6),none⟩,⟨some 240,.load .any false 1 (.t 239),none⟩,⟨some 241,.len false (.t 240),none⟩,⟨some 242,.faddr 4 (.t 9),none⟩,⟨some 243,.load .any false 1 (.t 242),none⟩,⟨some 244,.bin .leq false (.t 241) (.t 243),none⟩,⟨some 245,.mv (.t 244),none⟩,⟨some 246,.load .any true 1 (.t 4),some (245,true)⟩,⟨some 247,.faddr 8 (.t 9),some (245,true)⟩,⟨some 248,.load .any false 1 (.t 247),some (245,true)⟩,⟨some 249,.faddr 6 (.t 6),some (245,true)⟩,⟨some 250,.load .any false 1 (.t 249),some (245,true)⟩,⟨some 251,.mv (.t 3),some (245,true)⟩,⟨some 252,.call .any 113 [(.t 246),(.t 248),(.t 250),(.t 251)],some (245,true)⟩,⟨some 253,.pick (.t 245) (.t 252) (.c (.bool false)),none⟩,⟨some 8,.mv (.t 253),none⟩]) .ret) (.seq (.reg [⟨some 255,.bin .eql false (.t 46) (.c (.int .i64 8)),none⟩,⟨some 254,.mv (.t 255),none⟩]) (.cond (.t 254) (.seq (.seq (.reg [⟨some 256,.faddr 5 (.t 6),none⟩,⟨some 257,.load .any false 1 (.t 256),none⟩,⟨some 258,.len false (.t 257),none⟩,⟨some 259,.faddr 4 (.t 9),none⟩,⟨some 260,.load .any false 1 (.t 259),none⟩,⟨some 261,.bin .gtr false (.t 258) (.t 260),none⟩,⟨some 262,.mv (.t 261),none⟩,⟨some 263,.faddr 6 (.t 6),some (262,false)⟩,⟨some 264,.load .any false 1 (.t 263),some (262,false)⟩,⟨some 265,.len false (.t 264),some (262,false)⟩,⟨some 266,.faddr 5 (.t 6),some (262,false)⟩,⟨some 267,.load .any false 1 (.t 266),some (262,false)⟩,⟨some 268,.len false (.t 267),some (262,false)⟩,⟨some 269,.bin .neq false (.t 265) (.t 268),some (262,false)⟩,⟨some 270,.pick (.t 262) (.c (.bool true)) (.t 269),none⟩,⟨some 271,.mv (.t 270),none⟩,⟨some 272,.load .any true 1 (.t 4),some (271,false)⟩,⟨some 273,.faddr 7 (.t 9),some (271,false)⟩,⟨some 274,.load .any false 1 (.t 273),some (271,false)⟩,⟨some 275,.faddr 5 (.t 6),some (271,false)⟩,⟨some 276,.load .any false 1 (.t 275),some (271,false)⟩,⟨some 277,.mv (.t 3),some (271,false)⟩,⟨some 278,.call .any 113 [(.t 272),(.t 274),(.t 276),(.t 277)],some (271,false)⟩,⟨some 279,.un .not (.t 278),some (271,false)⟩,⟨some 280,.pick (.t 271) (.c (.bool true)) (.t 279),none⟩]) (.cond (.t 280) (.seq (.reg [⟨some 8,.mv (.c (.bool false)),none⟩]) .ret) .skip)) (.seq (.seq (.reg [⟨some 20,.mv (.c (.int .i64 1)),none⟩]) (.block 5 (.loop q3m))) (.seq (.reg [⟨some 301,.load .any true 1 (.t 4),none⟩,⟨some 302,.faddr 8 (.t 9),none⟩,⟨some 303,.load .any false 1 (.t 302),none⟩,⟨some 304,.faddr 6 (.t 6),none⟩,⟨some 305,.load .any false 1 (.t 304),none⟩,⟨some 306,.mv (.t 3),none⟩,⟨some 307,.call .any 113 [(.t 301),(.t 303),(.t 305),(.t 306)],none⟩,⟨some 8,.mv (.t 307),none⟩]) .ret))) (.seq (.reg [⟨some 309,.bin .eql false (.t 46) (.c (.int .i64 9)),none⟩,⟨some 308,.mv (.t 309),none⟩]) (.cond (.t 308) (.seq (.reg [⟨some 310,.faddr 6 (.t 6),none⟩,⟨some 311,.load .any false 1 (.t 310),none⟩,⟨some 312,.len false (.t 311),none⟩,⟨some 313,.bin .leq false (.t 312) (.c (.int .i64 1)),none⟩,⟨some 314,.mv (.t 313),none⟩,⟨some 315,.load .any true 1 (.t 4),some (314,true)⟩,⟨some 316,.faddr 8 (.t 9),some (314,true)⟩,⟨some 317,.load .any false 1 (.t 316),some (314,true)⟩,⟨some 318,.faddr 6 (.t 6),some (314,true)⟩,⟨some 319,.load .any false 1 (.t 318),some (314,true)⟩,⟨some 320,.mv (.t 3),some (314,true)⟩,⟨some 321,.call .any 113 [(.t 315),(.t 317),(.t 319),(.t 320)],some (314,true)⟩,⟨some 322,.pick (.t 314) (.t 321) (.c (.bool false)),none⟩,⟨some 8,.mv (.t 322),none⟩]) .ret) .skip)))))))))))))))))) (.seq (.reg [⟨some 8,.mv (.c (.bool true)),none⟩]) .ret)))))),[(.tmp 8)],4,[]⟩
theorem ok_value_fits:FnOk Tryz.prog 82 q06:=⟨fun xs w=>by kernel_rfl,_,Tryz.func82,by kernel_rfl⟩
noncomputable def q7R:FnC:=(q25 Go.Proofs.Tryz.prog [47] Go.Proofs.Tryz.f83).getD ⟨.skip,[],0,[]⟩
theorem ok_encode_Size:FnOk Tryz.prog 83 q7R:=⟨fun xs w=>by kernel_rfl,_,Tryz.func83,by kernel_rfl⟩
noncomputable def q5l:FnC:=(q25 Go.Proofs.Tryz.prog [] Go.Proofs.Tryz.f84).getD ⟨.skip,[],0,[]⟩
theorem q7L:FnOk Tryz.prog 84 q5l:=⟨fun xs w=>by kernel_rfl,_,Tryz.func84,by kernel_rfl⟩
def q40:FnC:=⟨(.seq (.reg [⟨some 2,.mv (.c (.bool false)),none⟩]) (.seq (.reg [⟨some 3,.mv (.t 0),none⟩,⟨some 4,.bin .geq false (.t 3) (.c (.int .i64 7)),none⟩,⟨some 2,.mv (.t 4),none⟩]) .ret)),[(.tmp 2)],1,[]⟩
theorem ok_ref07_hollow:FnOk Tryz.prog 89 q40:=⟨fun xs w=>by kernel_rfl,_,Tryz.func89,by kernel_rfl⟩
def q0K:FnC:=⟨(.seq (.reg [⟨some 2,.box 13 (.t 0),none⟩,⟨some 3,.box 13 (.t 1),none⟩,⟨some 4,.mv (.c (.bool false)),none⟩]) (.seq (.reg [⟨some 5,.faddr 0 (.t 2),none⟩,⟨some 6,.load .any false 1 (.t 5),none⟩,⟨some 7,.faddr 0 (.t 3),none⟩,⟨some 8,.load .any false 1 (.t 7),none⟩,⟨some 9,.bin .eql false (.t 6) (.t 8),none⟩,⟨some 10,.mv (.t 9),none⟩,⟨some 11,.faddr 1 (.t 2),some (10,true)⟩,⟨some 12,.load .any false 1 (.t 11),some (10,true)⟩,⟨some 13,.faddr 1 (.t 3),some (10,true)⟩,⟨some 14,.load .any false 1 (.t 13),some (10,true)⟩,⟨some 15,.bin .eql false (.t 12) (.t 14),some (10,true)⟩,⟨some 16,.pick (.t 10) (.t 15) (.c (.bool false)),none⟩,⟨some 17,.mv (.t 16),none⟩,⟨some 18,.faddr 2 (.t 2),some (17,true)⟩,⟨some 19,.load .any false 1 (.t 18),some (17,true)⟩,⟨some 20,.faddr 2 (.t 3),some (17,true)⟩,⟨some 21,.load .any false 1 (.t 20),some (17,true)⟩,⟨some 22,.bin .eql false (.t 19) (.t 21),some (17,true)⟩,⟨some 23,.pick (.t 17) (.t 22) (.c (.bool false)),none⟩,⟨some 24,.mv (.t 23),none⟩,⟨some 25,.faddr 3 (.t 2),some (24,true)⟩,⟨some 26,.load .any false 1 (.t 25),some (24,true)⟩,⟨some 27,.faddr 3 (.t 3),some (24,true)⟩,⟨some 28,.load .any false 1 (.t 27),some (24,true)⟩,⟨some 29,.bin .eql true (.t 26) (.t 28),some (24,true)⟩,⟨some 30,.pick (.t 24) (.t 29) (.c (.bool false)),none⟩,⟨some 31,.mv (.t 30),none⟩,⟨some 32,.faddr 4 (.t 2),some (31,true)⟩,⟨some 33,.load .any false 1 (.t 32),some (31,true)⟩,⟨some 34,.faddr 4 (.t 3),some (31,true)⟩,⟨some 35,.load .any false 1 (.t 34),some (31,true)⟩,⟨some 36,.bin .eql true (.t 33) (.t 35),some (31,true)⟩,⟨some 37,.pick (.t 31) (.t 36) (.c (.bool false)),none⟩,⟨some 38,.mv (.t 37),none⟩,⟨some 39,.faddr 5 (.t 2),some (38,true)⟩,⟨some 40,.load .any true 8 (.t 39),some (38,true)⟩,⟨some 41,.faddr 5 (.t 3),some (38,true)⟩,⟨some 42,.load .any true 8 (.t 41),some (38,true)⟩,⟨some 43,.call .any 41 [(.t 40),(.t 42)],some (38,true)⟩,⟨some 44,.pick (.t 38) (.t 43) (.c (.bool false)),none⟩,⟨some 4,.mv (.t 44),none⟩]) .ret)),[(.tmp 4)],2,[]⟩
theorem q7c:FnOk Tryz.prog 90 q0K:=⟨fun xs w=>by kernel_rfl,_,Tryz.func90,by kernel_rfl⟩
def q3U:FnC:=⟨(.seq (.reg [⟨some 2,.mv (.c (.bool false)),none⟩]) (.seq (.reg [⟨some 3,.mv (.t 0),none⟩,⟨some 4,.bin .geq false (.t 3) (.c (.int .u8 97)),none⟩,⟨some 5,.mv (.t 4),none⟩,⟨some 6,.mv (.t 0),some (5,true)⟩,⟨some 7,.bin .leq false (.t 6) (.c (.int .u8 122)),some (5,true)⟩,⟨some 8,.pick (.t 5) (.t 7) (.c (.bool false)),none⟩,⟨some 9,.mv (.t 8),none⟩,⟨some 10,.mv (.t 0),some (9,false)⟩,⟨some 11,.bin .geq false (.t 10) (.c (.int .u8 65)),some (9,false)⟩,⟨some 12,.mv (.t 11),some (9,false)⟩,⟨some 13,.mv (.t 0),some (12,true)⟩,⟨some 14,.bin .leq false (.t 13) (.c (.int .u8 90)),some (12,true)⟩,⟨some 15,.pick (.t 12) (.t 14) (.c (.bool false)),some (9,false)⟩,⟨some 16,.pick (.t 9) (.c (.bool true)) (.t 15),none⟩,⟨some 17,.mv (.t 16),none⟩,⟨some 18,.mv (.t 0),some (17,false)⟩,⟨some 19,.bin .eql false (.t 18) (.c (.int .u8 95)),some (17,false)⟩,⟨some 20,.pick (.t 17) (.c (.bool true)) (.t 19),none⟩,⟨some 2,.mv (.t 20),none⟩]) .ret)),[(.tmp 2)],1,[]⟩
theorem ok_ref06_letter:FnOk Tryz.prog 91 q3U:=⟨fun xs w=>by kernel_rfl,_,Tryz.func91,by kernel_rfl⟩
def q4p:FnC:=⟨(.seq (.reg [⟨some 2,.mv (.c (.bool false)),none⟩]) (.seq (.reg [⟨some 3,.mv (.t 0),none⟩,⟨some 4,.bin .geq false (.t 3) (.c (.int .u8 48)),none⟩,⟨some 5,.mv (.t 4),none⟩,⟨some 6,.mv (.t 0),some (5,true)⟩,⟨some 7,.bin .leq false (.t 6) (.c (.int .u8 57)),some (5,true)⟩,⟨some 8,.pick (.t 5) (.t 7) (.c (.bool false)),none⟩,⟨some 2,.mv (.t 8),none⟩]) .ret)),[(.tmp 2)],1,[]⟩
theorem ok_ref06_digit:FnOk Tryz.prog 92 q4p:=⟨fun xs w=>by kernel_rfl,_,Tryz.func92,by kernel_rfl⟩
def q6O:FnC:=⟨(.seq (.reg [⟨some 4,.mv (.c (.bool false)),none⟩]) (.seq (.reg [⟨some 5,.mv (.t 1),none⟩,⟨some 6,.mv (.t 0),none⟩,⟨some 7,.bin .gtr false (.t 5) (.t 6),none⟩,⟨some 8,.mv (.t 7),none⟩,⟨some 9,.mv (.t 1),some (8,true)⟩,⟨some 10,.bin .geq false (.t 9) (.c (.int .i64 1)),some (8,true)⟩,⟨some 11,.pick (.t 8) (.t 10) (.c (.bool false)),none⟩,⟨some 12,.mv (.t 11),none⟩,⟨some 13,.mv (.t 1),some (12,true)⟩,⟨some 14,.bin .leq false (.t 13) (.c (.int .i64 1000)),some (12,true)⟩,⟨some 15,.pick (.t 12) (.t 14) (.c (.bool false)),none⟩,⟨some 4,.mv (.t 15),none⟩]) .ret)),[(.tmp 4)],2,[]⟩
theorem ok_ref07_id:FnOk Tryz.prog 93 q6O:=⟨fun xs w=>by kernel_rfl,_,Tryz.func93,by kernel_rfl⟩
def q01:FnC:=⟨(.seq (.reg [⟨some 1,.box 8 (.t 0),none⟩,⟨some 2,.mv (.c (.bool false)),none⟩]) (.seq (.reg [⟨some 4,.faddr 0 (.t 1),none⟩,⟨some 5,.load .any false 1 (.t 4),none⟩,⟨some 3,.mv (.t 5),none⟩]) (.seq (.reg [⟨some 6,.mv (.t 3),none⟩,⟨some 7,.bin .eql false (.t 6) (.c (.int .i64 1)),none⟩,⟨some 8,.mv (.t 7),none⟩,⟨some 9,.faddr 1 (.t 1),some (8,false)⟩,⟨some 10,.load .any false 1 (.t 9),some (8,false)⟩,⟨some 11,.un .not (.t 10),some (8,false)⟩,⟨some 12,.pick (.t 8) (.c (.bool true)) (.t 11),none⟩,⟨some 13,.mv (.t 12),none⟩,⟨some 14,.mv (.t 3),some (13,true)⟩,⟨some 15,.bin .eql false (.t 14) (.c (.int .i64 2)),some (13,true)⟩,⟨some 16,.mv (.t 15),some (13,true)⟩,⟨some 17,.faddr 2 (.t 1),some (16,false)⟩,⟨some 18,.load .any false 1 (.t 17),some (16,false)⟩,⟨some 19,.bin .eql false (.t 18) (.c (.int .i64 0)),some (16,false)⟩,⟨some 20,.pick (.t 16) (.c (.bool true)) (.t 19),some (13,true)⟩,⟨some 21,.pick (.t 13) (.t 20) (.c (.bool false)),none⟩,⟨some 22,.mv (.t 21),none⟩,⟨some 23,.mv (.t 3),some (22,true)⟩,⟨some 24,.bin .eql false (.t 23) (.c (.int .i64 3)),some (22,true)⟩,⟨some 25,.mv (.t 24),some (22,true)⟩,⟨some 26,.faddr 3 (.t 1),some (25,false)⟩,⟨some 27,.load .any false 1 (.t 26),some (25,false)⟩,⟨some 28,.bin .eql false (.t 27) (.c (.str (ByteArray.mk #[]))),some (25,false)⟩,⟨some 29,.pick (.t 25) (.c (.bool true)) (.t 28),some (22,true)⟩,⟨some 30,.pick (.t 22) (.t 29) (.c (.bool false)),none⟩,⟨some 31,.mv (.t 30),none⟩,⟨some 32,.mv (.t 3),some (31,true)⟩,⟨some 33,.bin .eql false (.t 32) (.c (.int .i64 4)),some (31,true)⟩,⟨some 34,.mv (.t 33),some (31,true)⟩,⟨some 35,.mv (.t 3),some (34,false)⟩,⟨some 36,.bin .eql false (.t 35) (.c (.int .i64 6)),some (34,false)⟩,⟨some 37,.pick (.t 34) (.c (.bool true)) (.t 36),some (31,true)⟩,⟨some 38,.mv (.t 37),some (31,true)⟩,⟨some 39,.faddr 4 (.t 1),some (38,false)⟩,⟨some 40,.load .any false 1 (.t 39),some (38,false)⟩,⟨some 41,.bin .eql false (.t 40) (.c (.int .i64 0)),some (38,false)⟩,⟨some 42,.pick (.t 38) (.c (.bool true)) (.t 41),some (31,true)⟩,⟨some 43,.pick (.t 31) (.t 42) (.c (.bool false)),none⟩,⟨some 44,.mv (.t 43),none⟩,⟨some 45,.mv (.t 3),some (44,true)⟩,⟨some 46,.bin .eql false (.t 45) (.c (.int .i64 8)),some (44,true)⟩,⟨some 47,.mv (.t 46),some (44,true)⟩,⟨some 48,.faddr 5 (.t 1),some (47,false)⟩,⟨some 49,.load .any false 1 (.t 48),some (47,false)⟩,⟨some 50,.len false (.t 49),some (47,false)⟩,⟨some 51,.bin .eql false (.t 50) (.c (.int .i64 0)),some (47,false)⟩,⟨some 52,.pick (.t 47) (.c (.bool true)) (.t 51),some (44,true)⟩,⟨some 53,.pick (.t 44) (.t 52) (.c (.bool false)),none⟩,⟨some 54,.mv (.t 53),none⟩,⟨some 55,.mv (.t 3),some (54,true)⟩,⟨some 56,.bin .geq false (.t 55) (.c (.int .i64 5)),some (54,true)⟩,⟨some 57,.mv (.t 56),some (54,true)⟩,⟨some 58,.faddr 6 (.t 1),some (57,false)⟩,⟨some 59,.load .any false 1 (.t 58),some (57,false)⟩,⟨some 60,.len false (.t 59),some (57,false)⟩,⟨some 61,.bin .eql false (.t 60) (.c (.int .i64 0)),some (57,false)⟩,⟨some 62,.pick (.t 57) (.c (.bool true)) (.t 61),some (54,true)⟩,⟨some 63,.pick (.t 54) (.t 62) (.c (.bool false)),none⟩,⟨some 64,.mv (.t 63),none⟩,⟨some 65,.mv (.t 3),some (64,true)⟩,⟨some 66,.bin .eql false (.t 65) (.c (.int .i64 5)),some (64,true)⟩,⟨some 67,.mv (.t 66),some (64,true)⟩,⟨some 68,.mv (.t 3),some (67,false)⟩,⟨some 69,.bin .eql false (.t 68) (.c (.int .i64 6)),some (67,false)⟩,⟨some 70,.pick (.t 67) (.c (.bool true)) (.t 69),some (64,true)⟩,⟨some 71,.mv (.t 70),some (64,true)⟩,⟨some 72,.faddr 7 (.t 1),some (71,false)⟩,⟨some 73,.load .any false 1 (.t 72),some (71,false)⟩,⟨some 74,.len false (.t 73),some (71,false)⟩,⟨some 75,.bin .eql false (.t 74) (.c (.int .i64 0)),some (71,false)⟩,⟨some 76,.pick (.t 71) (.c (.bool true)) (.t 75),some (64,true)⟩,⟨some 77,.pick (.t 64) (.t 76) (.c (.bool false)),none⟩,⟨some 2,.mv (.t 77),none⟩]) .ret))),[(.tmp 2)],1,[]⟩
theorem ok_ref08_zero:FnOk Tryz.prog 94 q01:=⟨fun xs w=>by kernel_rfl,_,Tryz.func94,by kernel_rfl⟩
def q2M:C:=.seq (.seq (.reg [⟨some 7,.mv (.t 6),none⟩,⟨some 8,.faddr 5 (.t 2),none⟩,⟨some 9,.load .any false 1 (.t 8),none⟩,⟨some 10,.len false (.t 9),none⟩,⟨some 11,.bin .lss false (.t 7) (.t 10),none⟩]) (.cond (.t 11) .skip (.exit 0))) (.seq (.block 1 (.seq (.reg [⟨some 14,.faddr 5 (.t 2),none⟩,⟨some 15,.load .any false 1 (.t 14),none⟩,⟨some 16,.mv (.t 6),none⟩,⟨some 17,.iaddr 2 (.t 15) (.t 16),none⟩,⟨some 18,.faddr 0 (.t 17),none⟩,⟨some 19,.load .any false 1 (.t 18),none⟩,⟨some 20,.mv (.t 1),none⟩,⟨some 21,.bin .eql false (.t 19) (.t 20),none⟩]) (.cond (.t 21) (.seq (.reg [⟨some 22,.mv (.t 6),none⟩,⟨some 4,.mv (.t 22),none⟩,⟨some 5,.mv (.c (.bool true)),none⟩]) .ret) .skip))) (.reg [⟨some 12,.mv (.t 6),none⟩,⟨some 13,.bin .add false (.t 12) (.c (.int .i64 1)),none⟩,⟨some 6,.mv (.t 13),none⟩]))
def q3S:FnC:=⟨(.seq (.reg [⟨some 2,.box 10 (.t 0),none⟩,⟨some 4,.mv (.c (.int .i64 0)),none⟩,⟨some 5,.mv (.c (.bool false)),none⟩]) (.seq (.seq (.reg [⟨some 6,.mv (.c (.int .i64 0)),none⟩]) (.block 0 (.loop q2M))) (.seq (.reg [⟨some 4,.mv (.c (.int .i64 0)),none⟩,⟨some 5,.mv (.c (.bool false)),none⟩]) .ret))),[(.tmp 4),(.tmp 5)],2,[]⟩
theorem ok_ref07_Symbol:FnOk Tryz.prog 95 q3S:=⟨fun xs w=>by kernel_rfl,_,Tryz.func95,by kernel_rfl⟩
noncomputable def c_ref08_id:FnC:=(q25 Go.Proofs.Tryz.prog [] Go.Proofs.Tryz.f96).getD ⟨.skip,[],0,[]⟩
theorem ok_ref08_id:FnOk Tryz.prog 96 c_ref08_id:=⟨fun xs w=>by kernel_rfl,_,Tryz.func96,by kernel_rfl⟩
def q6C:C:=.seq (.seq (.reg [⟨some 8,.mv (.t 5),none⟩,⟨some 9,.mv (.t 1),none⟩,⟨some 10,.len false (.t 9),none⟩,⟨some 11,.bin .lss false (.t 8) (.t 10),none⟩]) (.cond (.t 11) .skip (.exit 0))) (.seq (.block 1 (.seq (.reg [⟨some 15,.load .any true 10 (.t 2),none⟩,⟨some 16,.mv (.t 1),none⟩,⟨some 17,.mv (.t 5),none⟩,⟨some 18,.iaddr 2 (.t 16) (.t 17),none⟩,⟨some 19,.faddr 0 (.t 18),none⟩,⟨some 20,.load .any false 1 (.t 19),none⟩,⟨some 21,.call .any 98 [(.t 15),(.t 20)],none⟩,⟨some 14,.mv (.t 21),none⟩,⟨some 22,.ext (.t 14) 0,none⟩,⟨some 23,.ext (.t 14) 1,none⟩,⟨some 6,.mv (.t 22),none⟩,⟨some 7,.mv (.t 23),none⟩]) (.seq (.reg [⟨some 24,.mv (.t 1),none⟩,⟨some 25,.mv (.t 5),none⟩,⟨some 26,.iaddr 2 (.t 24) (.t 25),none⟩,⟨some 27,.faddr 0 (.t 26),none⟩,⟨some 28,.load .any false 1 (.t 27),none⟩,⟨some 29,.mv (.t 7),none⟩,⟨some 30,.call .any 96 [(.t 28),(.t 29)],none⟩,⟨some 31,.un .not (.t 30),none⟩,⟨some 32,.mv (.t 31),none⟩,⟨some 33,.mv (.t 5),some (32,false)⟩,⟨some 34,.bin .gtr false (.t 33) (.c (.int .i64 0)),some (32,false)⟩,⟨some 35,.mv (.t 34),some (32,false)⟩,⟨some 36,.mv (.t 1),some (35,true)⟩,⟨some 37,.mv (.t 5),some (35,true)⟩,⟨some 38,.iaddr 2 (.t 36) (.t 37),some (35,true)⟩,⟨some 39,.faddr 0 (.t 38),some (35,true)⟩,⟨some 40,.load .any false 1 (.t 39),some (35,true)⟩,⟨some 41,.mv (.t 1),some (35,true)⟩,⟨some 42,.mv (.t 5),some (35,true)⟩,⟨some 43,.bin .sub false (.t 42) (.c (.int .i64 1)),some (35,true)⟩,⟨some 44,.iaddr 2 (.t 41) (.t 43),some (35,true)⟩,⟨some 45,.faddr 0 (.t 44),some (35,true)⟩,⟨some 46,.load .any false 1 (.t 45),some (35,true)⟩,⟨some 47,.bin .leq false (.t 40) (.t 46),some (35,true)⟩,⟨some 48,.pick (.t 35) (.t 47) (.c (.bool false)),some (32,false)⟩,⟨some 49,.pick (.t 32) (.c (.bool true)) (.t 48),none⟩]) (.cond (.t 49) (.seq (.reg [⟨some 4,.mv (.c (.bool false)),none⟩]) .ret) .skip)))) (.reg [⟨some 12,.mv (.t 5),none⟩,⟨some 13,.bin .add false (.t 12) (.c (.int .i64 1)),none⟩,⟨some 5,.mv (.t 13),none⟩]))
def q5g:FnC:=⟨(.seq (.reg [⟨some 2,.box 10 (.t 0),none⟩,⟨some 4,.mv (.c (.bool false)),none⟩]) (.seq (.seq (.reg [⟨some 5,.mv (.c (.int .i64 0)),none⟩]) (.block 0 (.loop q6C))) (.seq (.reg [⟨some 4,.mv (.c (.bool true)),none⟩]) .ret))),[(.tmp 4)],2,[]⟩
theorem ok_ref08_rest:FnOk Tryz.prog 97 q5g:=⟨fun xs w=>by kernel_rfl,_,Tryz.func97,by kernel_rfl⟩
def q2O:C:=.seq (.seq (.reg [⟨some 7,.mv (.t 6),none⟩,⟨some 8,.faddr 6 (.t 2),none⟩,⟨some 9,.load .any false 1 (.t 8),none⟩,⟨some 10,.len false (.t 9),none⟩,⟨some 11,.bin .lss false (.t 7) (.t 10),none⟩]) (.cond (.t 11) .skip (.exit 0))) (.seq (.block 1 (.seq (.reg [⟨some 14,.faddr 6 (.t 2),none⟩,⟨some 15,.load .any false 1 (.t 14),none⟩,⟨some 16,.mv (.t 6),none⟩,⟨some 17,.iaddr 13 (.t 15) (.t 16),none⟩,⟨some 18,.faddr 0 (.t 17),none⟩,⟨some 19,.load .any false 1 (.t 18),none⟩,⟨some 20,.mv (.t 1),none⟩,⟨some 21,.bin .eql false (.t 19) (.t 20),none⟩]) (.cond (.t 21) (.seq (.reg [⟨some 22,.mv (.t 6),none⟩,⟨some 4,.mv (.t 22),none⟩,⟨some 5,.mv (.c (.bool true)),none⟩]) .ret) .skip))) (.reg [⟨some 12,.mv (.t 6),none⟩,⟨some 13,.bin .add false (.t 12) (.c (.int .i64 1)),none⟩,⟨some 6,.mv (.t 13),none⟩]))
def q3W:FnC:=⟨(.seq (.reg [⟨some 2,.box 10 (.t 0),none⟩,⟨some 4,.mv (.c (.int .i64 0)),none⟩,⟨some 5,.mv (.c (.bool false)),none⟩]) (.seq (.seq (.reg [⟨some 6,.mv (.c (.int .i64 0)),none⟩]) (.block 0 (.loop q2O))) (.seq (.reg [⟨some 4,.mv (.c (.int .i64 0)),none⟩,⟨some 5,.mv (.c (.bool false)),none⟩]) .ret))),[(.tmp 4),(.tmp 5)],2,[]⟩
theorem ok_ref07_Member:FnOk Tryz.prog 98 q3W:=⟨fun xs w=>by kernel_rfl,_,Tryz.func98,by kernel_rfl⟩
def q3T:C:=.seq (.seq (.reg [⟨some 10,.mv (.t 9),none⟩,⟨some 11,.mv (.t 2),none⟩,⟨some 12,.len false (.t 11),none⟩,⟨some 13,.bin .lss false (.t 10) (.t 12),none⟩]) (.cond (.t 13) .skip (.exit 0))) (.seq (.block 1 (.seq (.reg [⟨some 16,.load .any true 1 (.t 4),none⟩,⟨some 17,.mv (.t 1),none⟩,⟨some 18,.mv (.t 2),none⟩,⟨some 19,.mv (.t 9),none⟩,⟨some 20,.iaddr 8 (.t 18) (.t 19),none⟩,⟨some 21,.load .any true 8 (.t 20),none⟩,⟨some 22,.mv (.t 3),none⟩,⟨some 23,.call .any 77 [(.t 16),(.t 17),(.t 21),(.t 22)],none⟩,⟨some 24,.un .not (.t 23),none⟩]) (.cond (.t 24) (.seq (.reg [⟨some 8,.mv (.c (.bool false)),none⟩]) .ret) .skip))) (.reg [⟨some 14,.mv (.t 9),none⟩,⟨some 15,.bin .add false (.t 14) (.c (.int .i64 1)),none⟩,⟨some 9,.mv (.t 15),none⟩]))
def q5O:FnC:=⟨(.seq (.reg [⟨some 4,.box 1 (.t 0),none⟩,⟨some 8,.mv (.c (.bool false)),none⟩]) (.seq (.seq (.reg [⟨some 9,.mv (.c (.int .i64 0)),none⟩]) (.block 0 (.loop q3T))) (.seq (.reg [⟨some 8,.mv (.c (.bool true)),none⟩]) .ret))),[(.tmp 8)],4,[]⟩
theorem ok_ref08_all:FnOk Tryz.prog 99 q5O:=⟨fun xs w=>by kernel_rfl,_,Tryz.func99,by kernel_rfl⟩
def q0j:FnC:=⟨(.seq (.reg [⟨some 2,.box 8 (.t 0),none⟩,⟨some 3,.box 8 (.t 1),none⟩,⟨some 4,.mv (.c (.int .i64 0)),none⟩]) (.seq (.seq (.reg [⟨some 5,.faddr 0 (.t 2),none⟩,⟨some 6,.load .any false 1 (.t 5),none⟩,⟨some 7,.faddr 0 (.t 3),none⟩,⟨some 8,.load .any false 1 (.t 7),none⟩,⟨some 9,.bin .neq false (.t 6) (.t 8),none⟩]) (.cond (.t 9) (.seq (.reg [⟨some 4,.mv (.c (.int .i64 0)),none⟩]) .ret) .skip)) (.seq (.seq (.reg [⟨some 10,.faddr 0 (.t 2),none⟩,⟨some 11,.load .any false 1 (.t 10),none⟩]) (.block 0 (.seq (.reg [⟨some 13,.bin .eql false (.t 11) (.c (.int .i64 1)),none⟩,⟨some 12,.mv (.t 13),none⟩]) (.cond (.t 12) (.seq (.reg [⟨some 14,.faddr 1 (.t 3),none⟩,⟨some 15,.load .any false 1 (.t 14),none⟩,⟨some 16,.faddr 1 (.t 2),none⟩,⟨some 17,.load .any false 1 (.t 16),none⟩,⟨some 18,.faddr 1 (.t 3),none⟩,⟨some 19,.load .any false 1 (.t 18),none⟩,⟨some 20,.bin .eql true (.t 17) (.t 19),none⟩,⟨some 21,.call .any 119 [(.t 15),(.t 20)],none⟩,⟨some 4,.mv (.t 21),none⟩]) .ret) (.seq (.reg [⟨some 23,.bin .eql false (.t 11) (.c (.int .i64 2)),none⟩,⟨some 22,.mv (.t 23),none⟩]) (.cond (.t 22) (.seq (.reg [⟨some 24,.faddr 2 (.t 2),none⟩,⟨some 25,.load .any false 1 (.t 24),none⟩,⟨some 26,.call .any 120 [(.t 25)],none⟩,⟨some 27,.faddr 2 (.t 3),none⟩,⟨some 28,.load .any false 1 (.t 27),none⟩,⟨some 29,.call .any 120 [(.t 28)],none⟩,⟨some 30,.bin .lss false (.t 26) (.t 29),none⟩,⟨some 31,.faddr 2 (.t 2),none⟩,⟨some 32,.load .any false 1 (.t 31),none⟩,⟨some 33,.faddr 2 (.t 3),none⟩,⟨some 34,.load .any false 1 (.t 33),none⟩,⟨some 35,.bin .eql false (.t 32) (.t 34),none⟩,⟨some 36,.call .any 119 [(.t 30),(.t 35)],none⟩,⟨some 4,.mv (.t 36),none⟩]) .ret) (.seq (.reg [⟨some 38,.bin .eql false (.t 11) (.c (.int .i64 3)),none⟩,⟨some 37,.mv (.t 38),none⟩]) (.cond (.t 37) (.seq (.seq (.reg [⟨some 39,.faddr 3 (.t 2),none⟩,⟨some 40,.load .any false 1 (.t 39),none⟩,⟨some 41,.len true (.t 40),none⟩,⟨some 42,.faddr 3 (.t 3),none⟩,⟨some 43,.load .any false 1 (.t 42),none⟩,⟨some 44,.len true (.t 43),none⟩,⟨some 45,.bin .neq false (.t 41) (.t 44),none⟩]) (.cond (.t 45) (.seq (.reg [⟨some 46,.faddr 3 (.t 2),none⟩,⟨some 47,.load .any false 1 (.t 46),none⟩,⟨some 48,.len true (.t 47),none⟩,⟨some 49,.faddr 3 (.t 3),none⟩,⟨some 50,.load .any false 1 (.t 49),none⟩,⟨some 51,.len true (.t 50),none⟩,⟨some 52,.bin .lss false (.t 48) (.t 51),none⟩,⟨some 53,.call .any 119 [(.t 52),(.c (.bool false))],none⟩,⟨some 4,.mv (.t 53),none⟩]) .ret) .skip)) (.seq (.reg [⟨some 54,.faddr 3 (.t 2),none⟩,⟨some 55,.load .any false 1 (.t 54),none⟩,⟨some 56,.faddr 3 (.t 3),none⟩,⟨some 57,.load .any false 1 (.t 56),none⟩,⟨some 58,.bin .lss false (.t 55) (.t 57),none⟩,⟨some 59,.faddr 3 (.t 2),none⟩,⟨some 60,.load .any false 1 (.t 59),none⟩,⟨some 61,.faddr 3 (.t 3),none⟩,⟨some 62,.load .any false 1 (.t 61),none⟩,⟨some 63,.bin .eql false (.t 60) (.t 62),none⟩,⟨some 64,.call .any 119 [(.t 58),(.t 63)],none⟩,⟨some 4,.mv (.t 64),none⟩]) .ret)) (.seq (.reg [⟨some 66,.bin .eql false (.t 11) (.c (.int .i64 4)),none⟩,⟨some 65,.mv (.t 66),none⟩]) (.cond (.t 65) (.seq (.reg [⟨some 67,.faddr 4 (.t 2),none⟩,⟨some 68,.load .any false 1 (.t 67),none⟩,⟨some 69,.faddr 4 (.t 3),none⟩,⟨some 70,.load .any false 1 (.t 69),none⟩,⟨some 71,.bin .lss false (.t 68) (.t 70),none⟩,⟨some 72,.faddr 4 (.t 2),none⟩,⟨some 73,.load .any false 1 (.t 72),none⟩,⟨some 74,.faddr 4 (.t 3),none⟩,⟨some 75,.load .any false 1 (.t 74),none⟩,⟨some 76,.bin .eql false (.t 73) (.t 75),none⟩,⟨some 77,.call .any 119 [(.t 71),(.t 76)],none⟩,⟨some 4,.mv (.t 77),none⟩]) .ret) .skip)))))))))) (.seq (.reg [⟨some 4,.mv (.c (.int .i64 0)),none⟩]) .ret)))),[(.tmp 4)],2,[]⟩
theorem q8W:FnOk Tryz.prog 100 q0j:=⟨fun xs w=>by kernel_rfl,_,Tryz.func100,by kernel_rfl⟩
def q39:FnC:=⟨(.seq (.reg [⟨some 2,.mv (.c (.bool false)),none⟩]) (.seq (.reg [⟨some 3,.mv (.t 0),none⟩,⟨some 4,.bin .eql false (.t 3) (.c (.int .u8 95)),none⟩,⟨some 5,.mv (.t 4),none⟩,⟨some 6,.mv (.t 0),some (5,false)⟩,⟨some 7,.bin .geq false (.t 6) (.c (.int .u8 97)),some (5,false)⟩,⟨some 8,.mv (.t 7),some (5,false)⟩,⟨some 9,.mv (.t 0),some (8,true)⟩,⟨some 10,.bin .leq false (.t 9) (.c (.int .u8 122)),some (8,true)⟩,⟨some 11,.pick (.t 8) (.t 10) (.c (.bool false)),some (5,false)⟩,⟨some 12,.pick (.t 5) (.c (.bool true)) (.t 11),none⟩,⟨some 13,.mv (.t 12),none⟩,⟨some 14,.mv (.t 0),some (13,false)⟩,⟨some 15,.bin .geq false (.t 14) (.c (.int .u8 65)),some (13,false)⟩,⟨some 16,.mv (.t 15),some (13,false)⟩,⟨some 17,.mv (.t 0),some (16,true)⟩,⟨some 18,.bin .leq false (.t 17) (.c (.int .u8 90)),some (16,true)⟩,⟨some 19,.pick (.t 16) (.t 18) (.c (.bool false)),some (13,false)⟩,⟨some 20,.pick (.t 13) (.c (.bool true)) (.t 19),none⟩,⟨some 2,.mv (.t 20),none⟩]) .ret)),[(.tmp 2)],1,[]⟩
theorem q8l:FnOk Tryz.prog 101 q39:=⟨fun xs w=>by kernel_rfl,_,Tryz.func101,by kernel_rfl⟩
def q3y:FnC:=⟨(.seq (.reg [⟨some 2,.mv (.c (.bool false)),none⟩]) (.seq (.reg [⟨some 3,.mv (.t 0),none⟩,⟨some 4,.bin .geq false (.t 3) (.c (.int .u8 48)),none⟩,⟨some 5,.mv (.t 4),none⟩,⟨some 6,.mv (.t 0),some (5,true)⟩,⟨some 7,.bin .leq false (.t 6) (.c (.int .u8 57)),some (5,true)⟩,⟨some 8,.pick (.t 5) (.t 7) (.c (.bool false)),none⟩,⟨some 2,.mv (.t 8),none⟩]) .ret)),[(.tmp 2)],1,[]⟩
theorem q9c:FnOk Tryz.prog 102 q3y:=⟨fun xs w=>by kernel_rfl,_,Tryz.func102,by kernel_rfl⟩
def q0A:C:=.seq (.reg [⟨some 12,.bin .lss false (.t 11) (.t 10),none⟩]) (.seq (.cond (.t 12) .skip (.exit 0)) (.seq (.block 1 (.seq (.reg [⟨some 13,.mv (.t 11),none⟩,⟨some 14,.iaddr 1 (.t 9) (.t 11),none⟩,⟨some 15,.load .any false 1 (.t 14),none⟩,⟨some 6,.mv (.t 13),none⟩,⟨some 7,.mv (.t 15),none⟩]) (.seq (.seq (.reg [⟨some 16,.mv (.t 7),none⟩,⟨some 17,.bin .lss false (.t 16) (.c (.int .i64 1)),none⟩,⟨some 18,.mv (.t 17),none⟩,⟨some 19,.mv (.t 7),some (18,false)⟩,⟨some 20,.bin .gtr false (.t 19) (.c (.int .i64 1000)),some (18,false)⟩,⟨some 21,.pick (.t 18) (.c (.bool true)) (.t 20),none⟩,⟨some 22,.mv (.t 21),none⟩,⟨some 23,.mv (.t 6),some (22,false)⟩,⟨some 24,.bin .gtr false (.t 23) (.c (.int .i64 0)),some (22,false)⟩,⟨some 25,.mv (.t 24),some (22,false)⟩,⟨some 26,.mv (.t 7),some (25,true)⟩,⟨some 27,.mv (.t 0),some (25,true)⟩,⟨some 28,.mv (.t 6),some (25,true)⟩,⟨some 29,.bin .sub false (.t 28) (.c (.int .i64 1)),some (25,true)⟩,⟨some 30,.iaddr 1 (.t 27) (.t 29),some (25,true)⟩,⟨some 31,.load .any false 1 (.t 30),some (25,true)⟩,⟨some 32,.bin .leq false (.t 26) (.t 31),some (25,true)⟩,⟨some 33,.pick (.t 25) (.t 32) (.c (.bool false)),some (22,false)⟩,⟨some 34,.pick (.t 22) (.c (.bool true)) (.t 33),none⟩,⟨some 35,.mv (.t 34),none⟩,⟨some 36,.mv (.t 5),some (35,false)⟩,⟨some 37,.mv (.t 1),some (35,false)⟩,⟨some 38,.mv (.t 6),some (35,false)⟩,⟨some 39,.iaddr 1 (.t 37) (.t 38),some (35,false)⟩,⟨some 40,.load .any false 1 (.t 39),some (35,false)⟩,⟨some 41,.mget false .none (.bool false) (.t 36) (.t 40),some (35,false)⟩,⟨some 42,.pick (.t 35) (.c (.bool true)) (.t 41),none⟩,⟨some 43,.mv (.t 42),none⟩,⟨some 44,.mv (.t 1),some (43,false)⟩,⟨some 45,.mv (.t 6),some (43,false)⟩,⟨some 46,.iaddr 1 (.t 44) (.t 45),some (43,false)⟩,⟨some 47,.load .any false 1 (.t 46),some (43,false)⟩,⟨some 48,.call .any 78 [(.t 47)],some (43,false)⟩,⟨some 49,.un .not (.t 48),some (43,false)⟩,⟨some 50,.pick (.t 43) (.c (.bool true)) (.t 49),none⟩]) (.cond (.t 50) (.seq (.reg [⟨some 4,.mv (.c (.bool false)),none⟩]) .ret) .skip)) (.reg [⟨some 51,.mv (.t 5),none⟩,⟨some 52,.mv (.t 1),none⟩,⟨some 53,.mv (.t 6),none⟩,⟨some 54,.iaddr 1 (.t 52) (.t 53),none⟩,⟨some 55,.load .any false 1 (.t 54),none⟩,⟨none,.mset .none (.t 51) (.t 55) (.c (.bool true)),none⟩])))) (.reg [⟨some 56,.bin .add false (.t 11) (.c (.int .i64 1)),none⟩,⟨some 11,.mv (.t 56),none⟩])))
def q54:FnC:=⟨(.seq (.reg [⟨some 4,.mv (.c (.bool false)),none⟩]) (.seq (.reg [⟨some 8,.mkm,none⟩,⟨some 5,.mv (.t 8),none⟩]) (.seq (.seq (.reg [⟨some 9,.mv (.t 0),none⟩,⟨some 10,.len false (.t 9),none⟩,⟨some 11,.mv (.c (.int .i64 0)),none⟩]) (.block 0 (.loop q0A))) (.seq (.reg [⟨some 57,.mv (.t 0),none⟩,⟨some 58,.len false (.t 57),none⟩,⟨some 59,.bin .leq false (.t 58) (.c (.int .i64 16)),none⟩,⟨some 4,.mv (.t 59),none⟩]) .ret)))),[(.tmp 4)],2,[]⟩
theorem ok_schema_ids:FnOk Tryz.prog 103 q54:=⟨fun xs w=>by kernel_rfl,_,Tryz.func103,by kernel_rfl⟩
def q41:FnC:=⟨(.seq (.reg [⟨some 1,.box 8 (.t 0),none⟩,⟨some 2,.mv (.c (.bool false)),none⟩]) (.seq (.reg [⟨some 3,.load .any true 8 (.t 1),none⟩,⟨some 4,.build [(.int .i64 0),(.bool false),(.int .i64 0),(.str (ByteArray.mk #[])),(.int .i64 0),(.sl true []),(.sl true []),(.sl true [])] [],none⟩,⟨some 5,.call .any 108 [(.t 3),(.t 4)],none⟩,⟨some 2,.mv (.t 5),none⟩]) .ret)),[(.tmp 2)],1,[]⟩
theorem ok_schema_blank:FnOk Tryz.prog 104 q41:=⟨fun xs w=>by kernel_rfl,_,Tryz.func104,by kernel_rfl⟩
def q0u:C:=.seq (.reg [⟨some 14,.bin .lss false (.t 13) (.t 12),none⟩]) (.seq (.cond (.t 14) .skip (.exit 0)) (.seq (.block 1 (.seq (.reg [⟨some 15,.mv (.t 13),none⟩,⟨some 5,.mv (.t 15),none⟩]) (.seq (.reg [⟨some 16,.mv (.t 0),none⟩,⟨some 17,.mv (.t 5),none⟩,⟨some 18,.iaddr 2 (.t 16) (.t 17),none⟩,⟨some 19,.load .any true 2 (.t 18),none⟩,⟨some 20,.mv (.t 1),none⟩,⟨some 21,.mv (.t 5),none⟩,⟨some 22,.iaddr 2 (.t 20) (.t 21),none⟩,⟨some 23,.load .any true 2 (.t 22),none⟩,⟨some 24,.eqa true [0,1] (.t 19) (.t 23),none⟩]) (.cond (.t 24) (.seq (.reg [⟨some 4,.mv (.c (.bool false)),none⟩]) .ret) .skip)))) (.reg [⟨some 25,.bin .add false (.t 13) (.c (.int .i64 1)),none⟩,⟨some 13,.mv (.t 25),none⟩])))
def q0X:FnC:=⟨(.seq (.reg [⟨some 4,.mv (.c (.bool false)),none⟩]) (.seq (.seq (.reg [⟨some 6,.mv (.t 0),none⟩,⟨some 7,.len false (.t 6),none⟩,⟨some 8,.mv (.t 1),none⟩,⟨some 9,.len false (.t 8),none⟩,⟨some 10,.bin .neq false (.t 7) (.t 9),none⟩]) (.cond (.t 10) (.seq (.reg [⟨some 4,.mv (.c (.bool false)),none⟩]) .ret) .skip)) (.seq (.seq (.reg [⟨some 11,.mv (.t 0),none⟩,⟨some 12,.len false (.t 11),none⟩,⟨some 13,.mv (.c (.int .i64 0)),none⟩]) (.block 0 (.loop q0u))) (.seq (.reg [⟨some 4,.mv (.c (.bool true)),none⟩]) .ret)))),[(.tmp 4)],2,[]⟩
theorem q51:FnOk Tryz.prog 105 q0X:=⟨fun xs w=>by kernel_rfl,_,Tryz.func105,by kernel_rfl⟩
def q0w:C:=.seq (.reg [⟨some 18,.bin .lss false (.t 17) (.t 16),none⟩]) (.seq (.cond (.t 18) .skip (.exit 0)) (.seq (.block 1 (.seq (.reg [⟨some 19,.mv (.t 17),none⟩,⟨some 20,.iaddr 13 (.t 15) (.t 17),none⟩,⟨some 21,.load .any true 13 (.t 20),none⟩,⟨some 8,.alloc [(.int .i64 0),(.str (ByteArray.mk #[])),(.int .i64 0),(.bool false),(.bool false),(.int .i64 0),(.bool false),(.int .i64 0),(.str (ByteArray.mk #[])),(.int .i64 0),(.sl true []),(.sl true []),(.sl true [])],none⟩,⟨some 7,.mv (.t 19),none⟩,⟨none,.store .any true 13 (.t 8) (.t 21),none⟩]) (.seq (.reg [⟨some 22,.mv (.t 1),none⟩,⟨some 23,.mv (.t 7),none⟩,⟨some 24,.iaddr 13 (.t 22) (.t 23),none⟩,⟨some 25,.load .any true 13 (.t 24),none⟩,⟨some 9,.alloc [(.int .i64 0),(.str (ByteArray.mk #[])),(.int .i64 0),(.bool false),(.bool false),(.int .i64 0),(.bool false),(.int .i64 0),(.str (ByteArray.mk #[])),(.int .i64 0),(.sl true []),(.sl true []),(.sl true [])],none⟩,⟨none,.store .any true 13 (.t 9) (.t 25),none⟩]) (.seq (.reg [⟨some 26,.mv (.t 2),none⟩,⟨some 27,.load .any true 13 (.t 8),none⟩,⟨some 28,.load .any true 13 (.t 9),none⟩,⟨some 29,.callv .any (.t 26) [(.t 27),(.t 28)],none⟩,⟨some 30,.un .not (.t 29),none⟩]) (.cond (.t 30) (.seq (.reg [⟨some 6,.mv (.c (.bool false)),none⟩]) .ret) .skip))))) (.reg [⟨some 31,.bin .add false (.t 17) (.c (.int .i64 1)),none⟩,⟨some 17,.mv (.t 31),none⟩])))
def q0F:FnC:=⟨(.seq (.reg [⟨some 6,.mv (.c (.bool false)),none⟩]) (.seq (.seq (.reg [⟨some 10,.mv (.t 0),none⟩,⟨some 11,.len false (.t 10),none⟩,⟨some 12,.mv (.t 1),none⟩,⟨some 13,.len false (.t 12),none⟩,⟨some 14,.bin .neq false (.t 11) (.t 13),none⟩]) (.cond (.t 14) (.seq (.reg [⟨some 6,.mv (.c (.bool false)),none⟩]) .ret) .skip)) (.seq (.seq (.reg [⟨some 15,.mv (.t 0),none⟩,⟨some 16,.len false (.t 15),none⟩,⟨some 17,.mv (.c (.int .i64 0)),none⟩]) (.block 0 (.loop q0w))) (.seq (.reg [⟨some 6,.mv (.c (.bool true)),none⟩]) .ret)))),[(.tmp 6)],3,[]⟩
theorem q48:FnOk Tryz.prog 106 q0F:=⟨fun xs w=>by kernel_rfl,_,Tryz.func106,by kernel_rfl⟩
def q0S:FnC:=⟨(.seq (.reg [⟨some 2,.box 13 (.t 0),none⟩,⟨some 3,.box 13 (.t 1),none⟩,⟨some 4,.mv (.c (.bool false)),none⟩]) (.seq (.reg [⟨some 5,.faddr 0 (.t 2),none⟩,⟨some 6,.load .any false 1 (.t 5),none⟩,⟨some 7,.faddr 0 (.t 3),none⟩,⟨some 8,.load .any false 1 (.t 7),none⟩,⟨some 9,.bin .eql false (.t 6) (.t 8),none⟩,⟨some 10,.mv (.t 9),none⟩,⟨some 11,.faddr 1 (.t 2),some (10,true)⟩,⟨some 12,.load .any false 1 (.t 11),some (10,true)⟩,⟨some 13,.faddr 1 (.t 3),some (10,true)⟩,⟨some 14,.load .any false 1 (.t 13),some (10,true)⟩,⟨some 15,.bin .eql false (.t 12) (.t 14),some (10,true)⟩,⟨some 16,.pick (.t 10) (.t 15) (.c (.bool false)),none⟩,⟨some 17,.mv (.t 16),none⟩,⟨some 18,.faddr 2 (.t 2),some (17,true)⟩,⟨some 19,.load .any false 1 (.t 18),some (17,true)⟩,⟨some 20,.faddr 2 (.t 3),some (17,true)⟩,⟨some 21,.load .any false 1 (.t 20),some (17,true)⟩,⟨some 22,.bin .eql false (.t 19) (.t 21),some (17,true)⟩,⟨some 23,.pick (.t 17) (.t 22) (.c (.bool false)),none⟩,⟨some 24,.mv (.t 23),none⟩,⟨some 25,.faddr 3 (.t 2),some (24,true)⟩,⟨some 26,.load .any false 1 (.t 25),some (24,true)⟩,⟨some 27,.faddr 3 (.t 3),some (24,true)⟩,⟨some 28,.load .any false 1 (.t 27),some (24,true)⟩,⟨some 29,.bin .eql true (.t 26) (.t 28),some (24,true)⟩,⟨some 30,.pick (.t 24) (.t 29) (.c (.bool false)),none⟩,⟨some 31,.mv (.t 30),none⟩,⟨some 32,.faddr 4 (.t 2),some (31,true)⟩,⟨some 33,.load .any false 1 (.t 32),some (31,true)⟩,⟨some 34,.faddr 4 (.t 3),some (31,true)⟩,⟨some 35,.load .any false 1 (.t 34),some (31,true)⟩,⟨some 36,.bin .eql true (.t 33) (.t 35),some (31,true)⟩,⟨some 37,.pick (.t 31) (.t 36) (.c (.bool false)),none⟩,⟨some 38,.mv (.t 37),none⟩,⟨some 39,.faddr 5 (.t 2),some (38,true)⟩,⟨some 40,.load .any true 8 (.t 39),some (38,true)⟩,⟨some 41,.faddr 5 (.t 3),some (38,true)⟩,⟨some 42,.load .any true 8 (.t 41),some (38,true)⟩,⟨some 43,.call .any 108 [(.t 40),(.t 42)],some (38,true)⟩,⟨some 44,.pick (.t 38) (.t 43) (.c (.bool false)),none⟩,⟨some 4,.mv (.t 44),none⟩]) .ret)),[(.tmp 4)],2,[]⟩
theorem q7t:FnOk Tryz.prog 107 q0S:=⟨fun xs w=>by kernel_rfl,_,Tryz.func107,by kernel_rfl⟩
def q19:FnC:=⟨(.seq (.reg [⟨some 2,.box 8 (.t 0),none⟩,⟨some 3,.box 8 (.t 1),none⟩,⟨some 4,.mv (.c (.bool false)),none⟩]) (.seq (.reg [⟨some 5,.faddr 0 (.t 2),none⟩,⟨some 6,.load .any false 1 (.t 5),none⟩,⟨some 7,.faddr 0 (.t 3),none⟩,⟨some 8,.load .any false 1 (.t 7),none⟩,⟨some 9,.bin .eql false (.t 6) (.t 8),none⟩,⟨some 10,.mv (.t 9),none⟩,⟨some 11,.faddr 1 (.t 2),some (10,true)⟩,⟨some 12,.load .any false 1 (.t 11),some (10,true)⟩,⟨some 13,.faddr 1 (.t 3),some (10,true)⟩,⟨some 14,.load .any false 1 (.t 13),some (10,true)⟩,⟨some 15,.bin .eql true (.t 12) (.t 14),some (10,true)⟩,⟨some 16,.pick (.t 10) (.t 15) (.c (.bool false)),none⟩,⟨some 17,.mv (.t 16),none⟩,⟨some 18,.faddr 2 (.t 2),some (17,true)⟩,⟨some 19,.load .any false 1 (.t 18),some (17,true)⟩,⟨some 20,.faddr 2 (.t 3),some (17,true)⟩,⟨some 21,.load .any false 1 (.t 20),some (17,true)⟩,⟨some 22,.bin .eql false (.t 19) (.t 21),some (17,true)⟩,⟨some 23,.pick (.t 17) (.t 22) (.c (.bool false)),none⟩,⟨some 24,.mv (.t 23),none⟩,⟨some 25,.faddr 3 (.t 2),some (24,true)⟩,⟨some 26,.load .any false 1 (.t 25),some (24,true)⟩,⟨some 27,.faddr 3 (.t 3),some (24,true)⟩,⟨some 28,.load .any false 1 (.t 27),some (24,true)⟩,⟨some 29,.bin .eql false (.t 26) (.t 28),some (24,true)⟩,⟨some 30,.pick (.t 24) (.t 29) (.c (.bool false)),none⟩,⟨some 31,.mv (.t 30),none⟩,⟨some 32,.faddr 4 (.t 2),some (31,true)⟩,⟨some 33,.load .any false 1 (.t 32),some (31,true)⟩,⟨some 34,.faddr 4 (.t 3),some (31,true)⟩,⟨some 35,.load .any false 1 (.t 34),some (31,true)⟩,⟨some 36,.bin .eql false (.t 33) (.t 35),some (31,true)⟩,⟨some 37,.pick (.t 31) (.t 36) (.c (.bool false)),none⟩,⟨some 38,.mv (.t 37),none⟩,⟨some 39,.faddr 7 (.t 2),some (38,true)⟩,⟨some 40,.load .any false 1 (.t 39),some (38,true)⟩,⟨some 41,.faddr 7 (.t 3),some (38,true)⟩,⟨some 42,.load .any false 1 (.t 41),some (38,true)⟩,⟨some 43,.call .any 121 [(.t 40),(.t 42)],some (38,true)⟩,⟨some 44,.pick (.t 38) (.t 43) (.c (.bool false)),none⟩,⟨some 45,.mv (.t 44),none⟩,⟨some 46,.faddr 5 (.t 2),some (45,true)⟩,⟨some 47,.load .any false 1 (.t 46),some (45,true)⟩,⟨some 48,.faddr 5 (.t 3),some (45,true)⟩,⟨some 49,.load .any false 1 (.t 48),some (45,true)⟩,⟨some 50,.call .any 122 [(.t 47),(.t 49),(.c (.fn 108 []))],some (45,true)⟩,⟨some 51,.pick (.t 45) (.t 50) (.c (.bool false)),none⟩,⟨some 52,.mv (.t 51),none⟩,⟨some 53,.faddr 6 (.t 2),some (52,true)⟩,⟨some 54,.load .any false 1 (.t 53),some (52,true)⟩,⟨some 55,.faddr 6 (.t 3),some (52,true)⟩,⟨some 56,.load .any false 1 (.t 55),some (52,true)⟩,⟨some 57,.call .any 122 [(.t 54),(.t 56),(.c (.fn 108 []))],some (52,true)⟩,⟨some 58,.pick (.t 52) (.t 57) (.c (.bool false)),none⟩,⟨some 4,.mv (.t 58),none⟩]) .ret)),[(.tmp 4)],2,[]⟩
theorem ok_schema_same:FnOk Tryz.prog 108 q19:=⟨fun xs w=>by kernel_rfl,_,Tryz.func108,by kernel_rfl⟩
def q0Z:FnC:=⟨(.seq (.reg [⟨some 1,.box 8 (.t 0),none⟩,⟨some 2,.mv (.c (.bool false)),none⟩]) (.seq (.reg [⟨some 4,.load .any true 8 (.t 1),none⟩,⟨some 5,.call .any 123 [(.t 4)],none⟩,⟨some 3,.alloc [(.int .i64 0),(.bool false),(.int .i64 0),(.str (ByteArray.mk #[])),(.int .i64 0),(.sl true []),(.sl true []),(.sl true [])],none⟩,⟨none,.store .any true 8 (.t 3) (.t 5),none⟩]) (.seq (.reg [⟨some 6,.faddr 1 (.t 1),none⟩,⟨some 7,.load .any false 1 (.t 6),none⟩,⟨some 8,.faddr 1 (.t 3),none⟩,⟨some 9,.load .any false 1 (.t 8),none⟩,⟨some 10,.bin .eql true (.t 7) (.t 9),none⟩,⟨some 11,.mv (.t 10),none⟩,⟨some 12,.faddr 2 (.t 1),some (11,true)⟩,⟨some 13,.load .any false 1 (.t 12),some (11,true)⟩,⟨some 14,.faddr 2 (.t 3),some (11,true)⟩,⟨some 15,.load .any false 1 (.t 14),some (11,true)⟩,⟨some 16,.bin .eql false (.t 13) (.t 15),some (11,true)⟩,⟨some 17,.pick (.t 11) (.t 16) (.c (.bool false)),none⟩,⟨some 18,.mv (.t 17),none⟩,⟨some 19,.faddr 3 (.t 1),some (18,true)⟩,⟨some 20,.load .any false 1 (.t 19),some (18,true)⟩,⟨some 21,.faddr 3 (.t 3),some (18,true)⟩,⟨some 22,.load .any false 1 (.t 21),some (18,true)⟩,⟨some 23,.bin .eql false (.t 20) (.t 22),some (18,true)⟩,⟨some 24,.pick (.t 18) (.t 23) (.c (.bool false)),none⟩,⟨some 25,.mv (.t 24),none⟩,⟨some 26,.faddr 4 (.t 1),some (25,true)⟩,⟨some 27,.load .any false 1 (.t 26),some (25,true)⟩,⟨some 28,.faddr 4 (.t 3),some (25,true)⟩,⟨some 29,.load .any false 1 (.t 28),some (25,true)⟩,⟨some 30,.bin .eql false (.t 27) (.t 29),some (25,true)⟩,⟨some 31,.pick (.t 25) (.t 30) (.c (.bool false)),none⟩,⟨some 32,.mv (.t 31),none⟩,⟨some 33,.faddr 5 (.t 1),some (32,true)⟩,⟨some 34,.load .any false 1 (.t 33),some (32,true)⟩,⟨some 35,.len false (.t 34),some (32,true)⟩,⟨some 36,.faddr 5 (.t 3),some (32,true)⟩,⟨some 37,.load .any false 1 (.t 36),some (32,true)⟩,⟨some 38,.len false (.t 37),some (32,true)⟩,⟨some 39,.bin .eql false (.t 35) (.t 38),some (32,true)⟩,⟨some 40,.pick (.t 32) (.t 39) (.c (.bool false)),none⟩,⟨some 41,.mv (.t 40),none⟩,⟨some 42,.faddr 6 (.t 1),some (41,true)⟩,⟨some 43,.load .any false 1 (.t 42),some (41,true)⟩,⟨some 44,.len false (.t 43),some (41,true)⟩,⟨some 45,.faddr 6 (.t 3),some (41,true)⟩,⟨some 46,.load .any false 1 (.t 45),some (41,true)⟩,⟨some 47,.len false (.t 46),some (41,true)⟩,⟨some 48,.bin .eql false (.t 44) (.t 47),some (41,true)⟩,⟨some 49,.pick (.t 41) (.t 48) (.c (.bool false)),none⟩,⟨some 50,.mv (.t 49),none⟩,⟨some 51,.faddr 7 (.t 1),some (50,true)⟩,⟨some 52,.load .any false 1 (.t 51),some (50,true)⟩,⟨some 53,.len false (.t 52),some (50,true)⟩,⟨some 54,.faddr 7 (.t 3),some (50,true)⟩,⟨some 55,.load .any false 1 (.t 54),some (50,true)⟩,⟨some 56,.len false (.t 55),some (50,true)⟩,⟨some 57,.bin .eql false (.t 53) (.t 56),some (50,true)⟩,⟨some 58,.pick (.t 50) (.t 57) (.c (.bool false)),none⟩,⟨some 2,.mv (.t 58),none⟩]) .ret))),[(.tmp 2)],1,[]⟩
theorem ok_value_proper:FnOk Tryz.prog 109 q0Z:=⟨fun xs w=>by kernel_rfl,_,Tryz.func109,by kernel_rfl⟩
def q3x:FnC:=⟨(.seq (.reg [⟨some 2,.box 10 (.t 0),none⟩,⟨some 3,.box 1 (.t 1),none⟩,⟨some 4,.mv (.c (.int .i64 0)),none⟩,⟨some 5,.mv (.c (.bool false)),none⟩]) (.seq (.reg [⟨some 7,.faddr 5 (.t 2),none⟩,⟨some 8,.load .any false 1 (.t 7),none⟩,⟨some 9,.mkf 125 [(.t 3)],none⟩,⟨some 10,.call .any 124 [(.t 8),(.t 9)],none⟩,⟨some 6,.mv (.t 10),none⟩]) (.seq (.reg [⟨some 11,.mv (.t 6),none⟩,⟨some 12,.mm true (.t 11) (.c (.int .i64 0)),none⟩,⟨some 13,.mv (.t 6),none⟩,⟨some 14,.bin .geq false (.t 13) (.c (.int .i64 0)),none⟩,⟨some 4,.mv (.t 12),none⟩,⟨some 5,.mv (.t 14),none⟩]) .ret))),[(.tmp 4),(.tmp 5)],2,[]⟩
theorem q8M:FnOk Tryz.prog 110 q3x:=⟨fun xs w=>by kernel_rfl,_,Tryz.func110,by kernel_rfl⟩
noncomputable def q8z:FnC:=(q25 Go.Proofs.Tryz.prog [] Go.Proofs.Tryz.f111).getD ⟨.skip,[],0,[]⟩
theorem ok_value_free:FnOk Tryz.prog 111 q8z:=⟨fun xs w=>by kernel_rfl,_,Tryz.func111,by kernel_rfl⟩
def q3r:FnC:=⟨(.seq (.reg [⟨some 2,.box 10 (.t 0),none⟩,⟨some 3,.box 1 (.t 1),none⟩,⟨some 4,.mv (.c (.int .i64 0)),none⟩,⟨some 5,.mv (.c (.bool false)),none⟩]) (.seq (.reg [⟨some 7,.faddr 6 (.t 2),none⟩,⟨some 8,.load .any false 1 (.t 7),none⟩,⟨some 9,.mkf 127 [(.t 3)],none⟩,⟨some 10,.call .any 126 [(.t 8),(.t 9)],none⟩,⟨some 6,.mv (.t 10),none⟩]) (.seq (.reg [⟨some 11,.mv (.t 6),none⟩,⟨some 12,.mm true (.t 11) (.c (.int .i64 0)),none⟩,⟨some 13,.mv (.t 6),none⟩,⟨some 14,.bin .geq false (.t 13) (.c (.int .i64 0)),none⟩,⟨some 4,.mv (.t 12),none⟩,⟨some 5,.mv (.t 14),none⟩]) .ret))),[(.tmp 4),(.tmp 5)],2,[]⟩
theorem q9a:FnOk Tryz.prog 112 q3r:=⟨fun xs w=>by kernel_rfl,_,Tryz.func112,by kernel_rfl⟩
def q57:FnC:=⟨(.seq (.reg [⟨some 4,.box 1 (.t 0),none⟩,⟨some 5,.box 1 (.t 1),none⟩,⟨some 7,.box 1 (.t 3),none⟩,⟨some 8,.mv (.c (.bool false)),none⟩]) (.seq (.reg [⟨some 9,.mv (.t 2),none⟩,⟨some 10,.mkf 129 [(.t 4),(.t 5),(.t 7)],none⟩,⟨some 11,.call .any 128 [(.t 9),(.t 10)],none⟩,⟨some 12,.un .not (.t 11),none⟩,⟨some 8,.mv (.t 12),none⟩]) .ret)),[(.tmp 8)],4,[]⟩
theorem ok_value_each:FnOk Tryz.prog 113 q57:=⟨fun xs w=>by kernel_rfl,_,Tryz.func113,by kernel_rfl⟩
def q0Y:FnC:=⟨(.seq (.reg [⟨some 2,.box 8 (.t 0),none⟩,⟨some 3,.box 8 (.t 1),none⟩,⟨some 4,.mv (.c (.int .i64 0)),none⟩]) (.seq (.seq (.reg [⟨some 5,.faddr 0 (.t 2),none⟩,⟨some 6,.load .any false 1 (.t 5),none⟩,⟨some 7,.faddr 0 (.t 3),none⟩,⟨some 8,.load .any false 1 (.t 7),none⟩,⟨some 9,.bin .neq false (.t 6) (.t 8),none⟩]) (.cond (.t 9) (.seq (.reg [⟨some 4,.mv (.c (.int .i64 0)),none⟩]) .ret) .skip)) (.seq (.seq (.reg [⟨some 10,.faddr 0 (.t 2),none⟩,⟨some 11,.load .any false 1 (.t 10),none⟩]) (.block 0 (.seq (.reg [⟨some 13,.bin .eql false (.t 11) (.c (.int .i64 1)),none⟩,⟨some 12,.mv (.t 13),none⟩]) (.cond (.t 12) (.seq (.block 1 (.seq (.reg [⟨some 15,.faddr 1 (.t 2),none⟩,⟨some 16,.load .any false 1 (.t 15),none⟩,⟨some 17,.faddr 1 (.t 3),none⟩,⟨some 18,.load .any false 1 (.t 17),none⟩,⟨some 19,.bin .eql true (.t 16) (.t 18),none⟩,⟨some 14,.mv (.t 19),none⟩]) (.cond (.t 14) (.seq (.reg [⟨some 4,.mv (.c (.int .i64 0)),none⟩]) .ret) (.seq (.reg [⟨some 21,.faddr 1 (.t 3),none⟩,⟨some 22,.load .any false 1 (.t 21),none⟩,⟨some 20,.mv (.t 22),none⟩]) (.cond (.t 20) (.seq (.reg [⟨some 4,.mv (.c (.int .i64 (-1))),none⟩]) .ret) .skip))))) (.seq (.reg [⟨some 4,.mv (.c (.int .i64 1)),none⟩]) .ret)) (.seq (.reg [⟨some 24,.bin .eql false (.t 11) (.c (.int .i64 2)),none⟩,⟨some 23,.mv (.t 24),none⟩]) (.cond (.t 23) (.seq (.reg [⟨some 25,.faddr 2 (.t 2),none⟩,⟨some 26,.load .any false 1 (.t 25),none⟩,⟨some 27,.call .any 131 [(.t 26)],none⟩,⟨some 28,.faddr 2 (.t 3),none⟩,⟨some 29,.load .any false 1 (.t 28),none⟩,⟨some 30,.call .any 131 [(.t 29)],none⟩,⟨some 31,.call .any 130 [(.t 27),(.t 30)],none⟩,⟨some 4,.mv (.t 31),none⟩]) .ret) (.seq (.reg [⟨some 33,.bin .eql false (.t 11) (.c (.int .i64 3)),none⟩,⟨some 32,.mv (.t 33),none⟩]) (.cond (.t 32) (.seq (.reg [⟨some 34,.faddr 3 (.t 2),none⟩,⟨some 35,.load .any false 1 (.t 34),none⟩,⟨some 36,.len true (.t 35),none⟩,⟨some 37,.faddr 3 (.t 3),none⟩,⟨some 38,.load .any false 1 (.t 37),none⟩,⟨some 39,.len true (.t 38),none⟩,⟨some 40,.call .any 133 [(.t 36),(.t 39)],none⟩,⟨some 41,.faddr 3 (.t 2),none⟩,⟨some 42,.load .any false 1 (.t 41),none⟩,⟨some 43,.faddr 3 (.t 3),none⟩,⟨some 44,.load .any false 1 (.t 43),none⟩,⟨some 45,.call .any 134 [(.t 42),(.t 44)],none⟩,⟨some 46,.bsl [(.int .i64 0)] 2 [(0,(.t 40)),(1,(.t 45))],none⟩,⟨some 47,.call .any 132 [(.t 46)],none⟩,⟨some 4,.mv (.t 47),none⟩]) .ret) (.seq (.reg [⟨some 49,.bin .eql false (.t 11) (.c (.int .i64 4)),none⟩,⟨some 48,.mv (.t 49),none⟩]) (.cond (.t 48) (.seq (.reg [⟨some 50,.faddr 4 (.t 2),none⟩,⟨some 51,.load .any false 1 (.t 50),none⟩,⟨some 52,.faddr 4 (.t 3),none⟩,⟨some 53,.load .any false 1 (.t 52),none⟩,⟨some 54,.call .any 133 [(.t 51),(.t 53)],none⟩,⟨some 4,.mv (.t 54),none⟩]) .ret) .skip)))))))))) (.seq (.reg [⟨some 4,.mv (.c (.int .i64 0)),none⟩]) .ret)))),[(.tmp 4)],2,[]⟩
theorem q8N:FnOk Tryz.prog 114 q0Y:=⟨fun xs w=>by kernel_rfl,_,Tryz.func114,by kernel_rfl⟩
noncomputable def q67:FnC:=(q25 Go.Proofs.Tryz.prog [] Go.Proofs.Tryz.f115).getD ⟨.skip,[],0,[]⟩
theorem q8o:FnOk Tryz.prog 115 q67:=⟨fun xs w=>by kernel_rfl,_,Tryz.func115,by kernel_rfl⟩
noncomputable def q3B:FnC:=(q25 Go.Proofs.Tryz.prog [3000000,20,117,131,163,209,227] Go.Proofs.Tryz.f116).getD ⟨.skip,[],0,[]⟩
theorem q5E:FnOk Tryz.prog 116 q3B:=⟨fun xs w=>by kernel_rfl,_,Tryz.func116,by kernel_rfl⟩
noncomputable def q6k:FnC:=(q25 Go.Proofs.Tryz.prog [49] Go.Proofs.Tryz.f117).getD ⟨.skip,[],0,[]⟩
theorem q8S:FnOk Tryz.prog 117 q6k:=⟨fun xs w=>by kernel_rfl,_,Tryz.func117,by kernel_rfl⟩
def q4C:FnC:=⟨(.seq (.reg [⟨some 4,.mv (.c (.int .i64 0)),none⟩]) (.seq (.seq (.reg [⟨some 5,.mv (.t 1),none⟩]) (.cond (.t 5) (.seq (.reg [⟨some 4,.mv (.c (.int .i64 0)),none⟩]) .ret) .skip)) (.seq (.seq (.reg [⟨some 6,.mv (.t 0),none⟩]) (.cond (.t 6) (.seq (.reg [⟨some 4,.mv (.c (.int .i64 (-1))),none⟩]) .ret) .skip)) (.seq (.reg [⟨some 4,.mv (.c (.int .i64 1)),none⟩]) .ret)))),[(.tmp 4)],2,[]⟩
theorem ok_ref08_order:FnOk Tryz.prog 119 q4C:=⟨fun xs w=>by kernel_rfl,_,Tryz.func119,by kernel_rfl⟩
def q30:FnC:=⟨(.seq (.reg [⟨some 2,.mv (.c (.int .u64 0)),none⟩]) (.seq (.seq (.reg [⟨some 3,.mv (.t 0),none⟩,⟨some 4,.bin .geq false (.t 3) (.c (.int .i64 0)),none⟩]) (.cond (.t 4) (.seq (.reg [⟨some 5,.mv (.t 0),none⟩,⟨some 6,.conv (.some .u64) (.t 5),none⟩,⟨some 7,.bin .mul false (.c (.int .u64 2)) (.t 6),none⟩,⟨some 2,.mv (.t 7),none⟩]) .ret) .skip)) (.seq (.reg [⟨some 8,.mv (.t 0),none⟩,⟨some 9,.bin .add false (.t 8) (.c (.int .i64 1)),none⟩,⟨some 10,.un .neg (.t 9),none⟩,⟨some 11,.conv (.some .u64) (.t 10),none⟩,⟨some 12,.bin .mul false (.c (.int .u64 2)) (.t 11),none⟩,⟨some 13,.bin .add false (.t 12) (.c (.int .u64 1)),none⟩,⟨some 2,.mv (.t 13),none⟩]) .ret))),[(.tmp 2)],1,[]⟩
theorem ok_ref03_Zigzag:FnOk Tryz.prog 120 q30:=⟨fun xs w=>by kernel_rfl,_,Tryz.func120,by kernel_rfl⟩
def q0I:C:=.seq (.reg [⟨some 14,.bin .lss false (.t 13) (.t 12),none⟩]) (.seq (.cond (.t 14) .skip (.exit 0)) (.seq (.block 1 (.seq (.reg [⟨some 15,.mv (.t 13),none⟩,⟨some 5,.mv (.t 15),none⟩]) (.seq (.reg [⟨some 16,.mv (.t 0),none⟩,⟨some 17,.mv (.t 5),none⟩,⟨some 18,.iaddr 2 (.t 16) (.t 17),none⟩,⟨some 19,.load .any true 2 (.t 18),none⟩,⟨some 20,.mv (.t 1),none⟩,⟨some 21,.mv (.t 5),none⟩,⟨some 22,.iaddr 2 (.t 20) (.t 21),none⟩,⟨some 23,.load .any true 2 (.t 22),none⟩,⟨some 24,.eqa true [0,1] (.t 19) (.t 23),none⟩]) (.cond (.t 24) (.seq (.reg [⟨some 4,.mv (.c (.bool false)),none⟩]) .ret) .skip)))) (.reg [⟨some 25,.bin .add false (.t 13) (.c (.int .i64 1)),none⟩,⟨some 13,.mv (.t 25),none⟩])))
def q1j:FnC:=⟨(.seq (.reg [⟨some 4,.mv (.c (.bool false)),none⟩]) (.seq (.seq (.reg [⟨some 6,.mv (.t 0),none⟩,⟨some 7,.len false (.t 6),none⟩,⟨some 8,.mv (.t 1),none⟩,⟨some 9,.len false (.t 8),none⟩,⟨some 10,.bin .neq false (.t 7) (.t 9),none⟩]) (.cond (.t 10) (.seq (.reg [⟨some 4,.mv (.c (.bool false)),none⟩]) .ret) .skip)) (.seq (.seq (.reg [⟨some 11,.mv (.t 0),none⟩,⟨some 12,.len false (.t 11),none⟩,⟨some 13,.mv (.c (.int .i64 0)),none⟩]) (.block 0 (.loop q0I))) (.seq (.reg [⟨some 4,.mv (.c (.bool true)),none⟩]) .ret)))),[(.tmp 4)],2,[]⟩
theorem q5S:FnOk Tryz.prog 121 q1j:=⟨fun xs w=>by kernel_rfl,_,Tryz.func121,by kernel_rfl⟩
def q0B:C:=.seq (.reg [⟨some 18,.bin .lss false (.t 17) (.t 16),none⟩]) (.seq (.cond (.t 18) .skip (.exit 0)) (.seq (.block 1 (.seq (.reg [⟨some 19,.mv (.t 17),none⟩,⟨some 20,.iaddr 8 (.t 15) (.t 17),none⟩,⟨some 21,.load .any true 8 (.t 20),none⟩,⟨some 8,.alloc [(.int .i64 0),(.bool false),(.int .i64 0),(.str (ByteArray.mk #[])),(.int .i64 0),(.sl true []),(.sl true []),(.sl true [])],none⟩,⟨some 7,.mv (.t 19),none⟩,⟨none,.store .any true 8 (.t 8) (.t 21),none⟩]) (.seq (.reg [⟨some 22,.mv (.t 1),none⟩,⟨some 23,.mv (.t 7),none⟩,⟨some 24,.iaddr 8 (.t 22) (.t 23),none⟩,⟨some 25,.load .any true 8 (.t 24),none⟩,⟨some 9,.alloc [(.int .i64 0),(.bool false),(.int .i64 0),(.str (ByteArray.mk #[])),(.int .i64 0),(.sl true []),(.sl true []),(.sl true [])],none⟩,⟨none,.store .any true 8 (.t 9) (.t 25),none⟩]) (.seq (.reg [⟨some 26,.mv (.t 2),none⟩,⟨some 27,.load .any true 8 (.t 8),none⟩,⟨some 28,.load .any true 8 (.t 9),none⟩,⟨some 29,.callv .any (.t 26) [(.t 27),(.t 28)],none⟩,⟨some 30,.un .not (.t 29),none⟩]) (.cond (.t 30) (.seq (.reg [⟨some 6,.mv (.c (.bool false)),none⟩]) .ret) .skip))))) (.reg [⟨some 31,.bin .add false (.t 17) (.c (.int .i64 1)),none⟩,⟨some 17,.mv (.t 31),none⟩])))
def q0M:FnC:=⟨(.seq (.reg [⟨some 6,.mv (.c (.bool false)),none⟩]) (.seq (.seq (.reg [⟨some 10,.mv (.t 0),none⟩,⟨some 11,.len false (.t 10),none⟩,⟨some 12,.mv (.t 1),none⟩,⟨some 13,.len false (.t 12),none⟩,⟨some 14,.bin .neq false (.t 11) (.t 13),none⟩]) (.cond (.t 14) (.seq (.reg [⟨some 6,.mv (.c (.bool false)),none⟩]) .ret) .skip)) (.seq (.seq (.reg [⟨some 15,.mv (.t 0),none⟩,⟨some 16,.len false (.t 15),none⟩,⟨some 17,.mv (.c (.int .i64 0)),none⟩]) (.block 0 (.loop q0B))) (.seq (.reg [⟨some 6,.mv (.c (.bool true)),none⟩]) .ret)))),[(.tmp 6)],3,[]⟩
theorem q4d:FnOk Tryz.prog 122 q0M:=⟨fun xs w=>by kernel_rfl,_,Tryz.func122,by kernel_rfl⟩
def q0q:FnC:=⟨(.seq (.reg [⟨some 1,.box 8 (.t 0),none⟩,⟨some 2,.alloc [(.int .i64 0),(.bool false),(.int .i64 0),(.str (ByteArray.mk #[])),(.int .i64 0),(.sl true []),(.sl true []),(.sl true [])],none⟩]) (.seq (.reg [⟨some 4,.faddr 0 (.t 1),none⟩,⟨some 5,.load .any false 1 (.t 4),none⟩,⟨some 6,.build [(.int .i64 0),(.bool false),(.int .i64 0),(.str (ByteArray.mk #[])),(.int .i64 0),(.sl true []),(.sl true []),(.sl true [])] [(0,(1,(.t 5)))],none⟩,⟨some 3,.alloc [(.int .i64 0),(.bool false),(.int .i64 0),(.str (ByteArray.mk #[])),(.int .i64 0),(.sl true []),(.sl true []),(.sl true [])],none⟩,⟨none,.store .any true 8 (.t 3) (.t 6),none⟩]) (.seq (.seq (.reg [⟨some 7,.faddr 0 (.t 1),none⟩,⟨some 8,.load .any false 1 (.t 7),none⟩]) (.block 0 (.seq (.reg [⟨some 10,.bin .eql false (.t 8) (.c (.int .i64 1)),none⟩,⟨some 9,.mv (.t 10),none⟩]) (.cond (.t 9) (.reg [⟨some 11,.faddr 1 (.t 1),none⟩,⟨some 12,.load .any false 1 (.t 11),none⟩,⟨some 13,.faddr 1 (.t 3),none⟩,⟨none,.store .any false 1 (.t 13) (.t 12),none⟩]) (.seq (.reg [⟨some 15,.bin .eql false (.t 8) (.c (.int .i64 2)),none⟩,⟨some 14,.mv (.t 15),none⟩]) (.cond (.t 14) (.reg [⟨some 16,.faddr 2 (.t 1),none⟩,⟨some 17,.load .any false 1 (.t 16),none⟩,⟨some 18,.faddr 2 (.t 3),none⟩,⟨none,.store .any false 1 (.t 18) (.t 17),none⟩]) (.seq (.reg [⟨some 20,.bin .eql false (.t 8) (.c (.int .i64 3)),none⟩,⟨some 19,.mv (.t 20),none⟩]) (.cond (.t 19) (.reg [⟨some 21,.faddr 3 (.t 1),none⟩,⟨some 22,.load .any false 1 (.t 21),none⟩,⟨some 23,.faddr 3 (.t 3),none⟩,⟨none,.store .any false 1 (.t 23) (.t 22),none⟩]) (.seq (.reg [⟨some 25,.bin .eql false (.t 8) (.c (.int .i64 4)),none⟩,⟨some 24,.mv (.t 25),none⟩]) (.cond (.t 24) (.reg [⟨some 26,.faddr 4 (.t 1),none⟩,⟨some 27,.load .any false 1 (.t 26),none⟩,⟨some 28,.faddr 4 (.t 3),none⟩,⟨none,.store .any false 1 (.t 28) (.t 27),none⟩]) (.seq (.reg [⟨some 30,.bin .eql false (.t 8) (.c (.int .i64 5)),none⟩,⟨some 29,.mv (.t 30),none⟩]) (.cond (.t 29) (.reg [⟨some 31,.faddr 6 (.t 1),none⟩,⟨some 32,.load (.root 1) false 1 (.t 31),none⟩,⟨some 33,.faddr 7 (.t 1),none⟩,⟨some 34,.load (.root 1) false 1 (.t 33),none⟩,⟨some 35,.faddr 6 (.t 3),none⟩,⟨none,.store (.root 3) false 1 (.t 35) (.t 32),none⟩,⟨some 36,.faddr 7 (.t 3),none⟩,⟨none,.store (.root 3) false 1 (.t 36) (.t 34),none⟩]) (.seq (.reg [⟨some 38,.bin .eql false (.t 8) (.c (.int .i64 6)),none⟩,⟨some 37,.mv (.t 38),none⟩]) (.cond (.t 37) (.reg [⟨some 39,.faddr 4 (.t 1),none⟩,⟨some 40,.load (.root 1) false 1 (.t 39),none⟩,⟨some 41,.faddr 6 (.t 1),none⟩,⟨some 42,.load (.root 1) false 1 (.t 41),none⟩,⟨some 43,.faddr 7 (.t 1),none⟩,⟨some 44,.load (.root 1) false 1 (.t 43),none⟩,⟨some 45,.faddr 4 (.t 3),none⟩,⟨none,.store (.root 3) false 1 (.t 45) (.t 40),none⟩,⟨some 46,.faddr 6 (.t 3),none⟩,⟨none,.store (.root 3) false 1 (.t 46) (.t 42),none⟩,⟨some 47,.faddr 7 (.t 3),none⟩,⟨none,.store (.root 3) false 1 (.t 47) (.t 44),none⟩]) (.seq (.reg [⟨some 49,.bin .eql false (.t 8) (.c (.int .i64 8)),none⟩,⟨some 48,.mv (.t 49),none⟩]) (.cond (.t 48) (.reg [⟨some 50,.faddr 5 (.t 1),none⟩,⟨some 51,.load (.root 1) false 1 (.t 50),none⟩,⟨some 52,.faddr 6 (.t 1),none⟩,⟨some 53,.load (.root 1) false 1 (.t 52),none⟩,⟨some 54,.faddr 5 (.t 3),none⟩,⟨none,.store (.root 3) false 1 (.t 54) (.t 51),none⟩,⟨some 55,.faddr 6 (.t 3),none⟩,⟨none,.store (.root 3) false 1 (.t 55) (.t 53),none⟩]) (.seq (.seq (.reg [⟨some 57,.bin .eql false (.t 8) (.c (.int .i64 7)),none⟩,⟨some 56,.mv (.t 57),none⟩]) (.cond (.t 56) .skip (.reg [⟨some 58,.bin .eql false (.t 8) (.c (.int .i64 9)),none⟩,⟨some 56,.mv (.t 58),none⟩]))) (.cond (.t 56) (.reg [⟨some 59,.faddr 6 (.t 1),none⟩,⟨some 60,.load .any false 1 (.t 59),none⟩,⟨some 61,.faddr 6 (.t 3),none⟩,⟨none,.store .any false 1 (.t 61) (.t 60),none⟩]) .skip)))))))))))))))))) (.seq (.reg [⟨some 62,.load .any true 8 (.t 3),none⟩,⟨none,.store .any true 8 (.t 2) (.t 62),none⟩]) .ret)))),[(.cell 2 true 8)],1,[]⟩
theorem ok_value_bare:FnOk Tryz.prog 123 q0q:=⟨fun xs w=>by kernel_rfl,_,Tryz.func123,by kernel_rfl⟩
def q0O:C:=.seq (.reg [⟨some 9,.bin .lss false (.t 8) (.t 7),none⟩]) (.seq (.cond (.t 9) .skip (.exit 0)) (.seq (.block 1 (.seq (.reg [⟨some 10,.mv (.t 8),none⟩,⟨some 5,.mv (.t 10),none⟩]) (.seq (.reg [⟨some 11,.mv (.t 1),none⟩,⟨some 12,.mv (.t 0),none⟩,⟨some 13,.mv (.t 5),none⟩,⟨some 14,.iaddr 2 (.t 12) (.t 13),none⟩,⟨some 15,.load .any true 2 (.t 14),none⟩,⟨some 16,.callv .any (.t 11) [(.t 15)],none⟩]) (.cond (.t 16) (.seq (.reg [⟨some 17,.mv (.t 5),none⟩,⟨some 4,.mv (.t 17),none⟩]) .ret) .skip)))) (.reg [⟨some 18,.bin .add false (.t 8) (.c (.int .i64 1)),none⟩,⟨some 8,.mv (.t 18),none⟩])))
def q11:FnC:=⟨(.seq (.reg [⟨some 4,.mv (.c (.int .i64 0)),none⟩]) (.seq (.seq (.reg [⟨some 6,.mv (.t 0),none⟩,⟨some 7,.len false (.t 6),none⟩,⟨some 8,.mv (.c (.int .i64 0)),none⟩]) (.block 0 (.loop q0O))) (.seq (.reg [⟨some 4,.mv (.c (.int .i64 (-1))),none⟩]) .ret))),[(.tmp 4)],2,[]⟩
theorem q4b:FnOk Tryz.prog 124 q11:=⟨fun xs w=>by kernel_rfl,_,Tryz.func124,by kernel_rfl⟩
def q2x:FnC:=⟨(.seq (.reg [⟨some 2,.box 2 (.t 0),none⟩,⟨some 3,.mv (.c (.bool false)),none⟩]) (.seq (.reg [⟨some 4,.faddr 0 (.t 2),none⟩,⟨some 5,.load .any false 1 (.t 4),none⟩,⟨some 6,.load .any false 1 (.t 1),none⟩,⟨some 7,.bin .eql false (.t 5) (.t 6),none⟩,⟨some 3,.mv (.t 7),none⟩]) .ret)),[(.tmp 3)],2,[]⟩
theorem q7f:FnOk Tryz.prog 125 q2x:=⟨fun xs w=>by kernel_rfl,_,Tryz.func125,by kernel_rfl⟩
def q0Q:C:=.seq (.reg [⟨some 9,.bin .lss false (.t 8) (.t 7),none⟩]) (.seq (.cond (.t 9) .skip (.exit 0)) (.seq (.block 1 (.seq (.reg [⟨some 10,.mv (.t 8),none⟩,⟨some 5,.mv (.t 10),none⟩]) (.seq (.reg [⟨some 11,.mv (.t 1),none⟩,⟨some 12,.mv (.t 0),none⟩,⟨some 13,.mv (.t 5),none⟩,⟨some 14,.iaddr 13 (.t 12) (.t 13),none⟩,⟨some 15,.load .any true 13 (.t 14),none⟩,⟨some 16,.callv .any (.t 11) [(.t 15)],none⟩]) (.cond (.t 16) (.seq (.reg [⟨some 17,.mv (.t 5),none⟩,⟨some 4,.mv (.t 17),none⟩]) .ret) .skip)))) (.reg [⟨some 18,.bin .add false (.t 8) (.c (.int .i64 1)),none⟩,⟨some 8,.mv (.t 18),none⟩])))
def q10:FnC:=⟨(.seq (.reg [⟨some 4,.mv (.c (.int .i64 0)),none⟩]) (.seq (.seq (.reg [⟨some 6,.mv (.t 0),none⟩,⟨some 7,.len false (.t 6),none⟩,⟨some 8,.mv (.c (.int .i64 0)),none⟩]) (.block 0 (.loop q0Q))) (.seq (.reg [⟨some 4,.mv (.c (.int .i64 (-1))),none⟩]) .ret))),[(.tmp 4)],2,[]⟩
theorem q47:FnOk Tryz.prog 126 q10:=⟨fun xs w=>by kernel_rfl,_,Tryz.func126,by kernel_rfl⟩
def q2y:FnC:=⟨(.seq (.reg [⟨some 2,.box 13 (.t 0),none⟩,⟨some 3,.mv (.c (.bool false)),none⟩]) (.seq (.reg [⟨some 4,.faddr 0 (.t 2),none⟩,⟨some 5,.load .any false 1 (.t 4),none⟩,⟨some 6,.load .any false 1 (.t 1),none⟩,⟨some 7,.bin .eql false (.t 5) (.t 6),none⟩,⟨some 3,.mv (.t 7),none⟩]) .ret)),[(.tmp 3)],2,[]⟩
theorem q7e:FnOk Tryz.prog 127 q2y:=⟨fun xs w=>by kernel_rfl,_,Tryz.func127,by kernel_rfl⟩
def q0T:FnC:=⟨(.seq (.reg [⟨some 4,.mv (.c (.bool false)),none⟩]) (.seq (.reg [⟨some 5,.mv (.t 0),none⟩,⟨some 6,.mv (.t 1),none⟩,⟨some 7,.call .any 147 [(.t 5),(.t 6)],none⟩,⟨some 8,.bin .geq false (.t 7) (.c (.int .i64 0)),none⟩,⟨some 4,.mv (.t 8),none⟩]) .ret)),[(.tmp 4)],2,[]⟩
theorem q3H:FnOk Tryz.prog 128 q0T:=⟨fun xs w=>by kernel_rfl,_,Tryz.func128,by kernel_rfl⟩
def q3n:FnC:=⟨(.seq (.reg [⟨some 4,.box 8 (.t 0),none⟩,⟨some 5,.mv (.c (.bool false)),none⟩]) (.seq (.reg [⟨some 6,.load .any true 1 (.t 1),none⟩,⟨some 7,.load .any false 1 (.t 2),none⟩,⟨some 8,.load .any true 8 (.t 4),none⟩,⟨some 9,.load .any false 1 (.t 3),none⟩,⟨some 10,.call .any 82 [(.t 6),(.t 7),(.t 8),(.t 9)],none⟩,⟨some 11,.un .not (.t 10),none⟩,⟨some 5,.mv (.t 11),none⟩]) .ret)),[(.tmp 5)],4,[]⟩
theorem q8Z:FnOk Tryz.prog 129 q3n:=⟨fun xs w=>by kernel_rfl,_,Tryz.func129,by kernel_rfl⟩
def q1A:FnC:=⟨(.seq (.reg [⟨some 4,.mv (.c (.int .i64 0)),none⟩]) (.seq (.reg [⟨some 7,.mv (.t 0),none⟩,⟨some 8,.call .any 148 [(.t 7)],none⟩,⟨some 5,.mv (.t 8),none⟩]) (.seq (.reg [⟨some 9,.mv (.t 1),none⟩,⟨some 10,.call .any 148 [(.t 9)],none⟩,⟨some 6,.mv (.t 10),none⟩]) (.seq (.seq (.reg [⟨some 11,.mv (.t 5),none⟩]) (.cond (.t 11) (.seq (.seq (.reg [⟨some 12,.mv (.t 6),none⟩]) (.cond (.t 12) (.seq (.reg [⟨some 4,.mv (.c (.int .i64 0)),none⟩]) .ret) .skip)) (.seq (.reg [⟨some 4,.mv (.c (.int .i64 (-1))),none⟩]) .ret)) .skip)) (.seq (.seq (.reg [⟨some 13,.mv (.t 6),none⟩]) (.cond (.t 13) (.seq (.reg [⟨some 4,.mv (.c (.int .i64 1)),none⟩]) .ret) .skip)) (.seq (.seq (.reg [⟨some 14,.mv (.t 0),none⟩,⟨some 15,.mv (.t 1),none⟩,⟨some 16,.bin .lss false (.t 14) (.t 15),none⟩]) (.cond (.t 16) (.seq (.reg [⟨some 4,.mv (.c (.int .i64 (-1))),none⟩]) .ret) .skip)) (.seq (.seq (.reg [⟨some 17,.mv (.t 0),none⟩,⟨some 18,.mv (.t 1),none⟩,⟨some 19,.bin .gtr false (.t 17) (.t 18),none⟩]) (.cond (.t 19) (.seq (.reg [⟨some 4,.mv (.c (.int .i64 1)),none⟩]) .ret) .skip)) (.seq (.reg [⟨some 4,.mv (.c (.int .i64 0)),none⟩]) .ret)))))))),[(.tmp 4)],2,[]⟩
theorem q6n:FnOk Tryz.prog 130 q1A:=⟨fun xs w=>by kernel_rfl,_,Tryz.func130,by kernel_rfl⟩
def q2B:FnC:=⟨(.seq (.reg [⟨some 2,.mv (.c (.int .u64 0)),none⟩]) (.seq (.reg [⟨some 3,.mv (.t 0),none⟩,⟨some 4,.conv (.some .u64) (.t 3),none⟩,⟨some 5,.bin .shl false (.t 4) (.c (.int .u64 1)),none⟩,⟨some 6,.mv (.t 0),none⟩,⟨some 7,.bin .shr false (.t 6) (.c (.int .u64 63)),none⟩,⟨some 8,.conv (.some .u64) (.t 7),none⟩,⟨some 9,.bin .xor false (.t 5) (.t 8),none⟩,⟨some 2,.mv (.t 9),none⟩]) .ret)),[(.tmp 2)],1,[]⟩
theorem q95:FnOk Tryz.prog 131 q2B:=⟨fun xs w=>by kernel_rfl,_,Tryz.func131,by kernel_rfl⟩
def q22:C:=.seq (.reg [⟨some 9,.bin .lss false (.t 8) (.t 7),none⟩]) (.seq (.cond (.t 9) .skip (.exit 0)) (.seq (.block 1 (.seq (.reg [⟨some 10,.iaddr 1 (.t 6) (.t 8),none⟩,⟨some 11,.load .any false 1 (.t 10),none⟩,⟨some 5,.mv (.t 11),none⟩]) (.seq (.reg [⟨some 12,.mv (.t 5),none⟩,⟨some 13,.mv (.t 3),none⟩,⟨some 14,.bin .neq false (.t 12) (.t 13),none⟩]) (.cond (.t 14) (.seq (.reg [⟨some 15,.mv (.t 5),none⟩,⟨some 2,.mv (.t 15),none⟩]) .ret) .skip)))) (.reg [⟨some 16,.bin .add false (.t 8) (.c (.int .i64 1)),none⟩,⟨some 8,.mv (.t 16),none⟩])))
def q58:FnC:=⟨(.seq (.reg [⟨some 2,.mv (.c (.int .i64 0)),none⟩]) (.seq (.reg [⟨some 3,.mv (.c (.int .i64 0)),none⟩]) (.seq (.seq (.reg [⟨some 6,.mv (.t 0),none⟩,⟨some 7,.len false (.t 6),none⟩,⟨some 8,.mv (.c (.int .i64 0)),none⟩]) (.block 0 (.loop q22))) (.seq (.reg [⟨some 17,.mv (.t 3),none⟩,⟨some 2,.mv (.t 17),none⟩]) .ret)))),[(.tmp 2)],1,[]⟩
theorem ok_cmp_Or_int:FnOk Tryz.prog 132 q58:=⟨fun xs w=>by kernel_rfl,_,Tryz.func132,by kernel_rfl⟩
def q21:FnC:=⟨(.seq (.reg [⟨some 4,.mv (.c (.int .i64 0)),none⟩]) (.seq (.reg [⟨some 7,.mv (.t 0),none⟩,⟨some 8,.call .any 149 [(.t 7)],none⟩,⟨some 5,.mv (.t 8),none⟩]) (.seq (.reg [⟨some 9,.mv (.t 1),none⟩,⟨some 10,.call .any 149 [(.t 9)],none⟩,⟨some 6,.mv (.t 10),none⟩]) (.seq (.seq (.reg [⟨some 11,.mv (.t 5),none⟩]) (.cond (.t 11) (.seq (.seq (.reg [⟨some 12,.mv (.t 6),none⟩]) (.cond (.t 12) (.seq (.reg [⟨some 4,.mv (.c (.int .i64 0)),none⟩]) .ret) .skip)) (.seq (.reg [⟨some 4,.mv (.c (.int .i64 (-1))),none⟩]) .ret)) .skip)) (.seq (.seq (.reg [⟨some 13,.mv (.t 6),none⟩]) (.cond (.t 13) (.seq (.reg [⟨some 4,.mv (.c (.int .i64 1)),none⟩]) .ret) .skip)) (.seq (.seq (.reg [⟨some 14,.mv (.t 0),none⟩,⟨some 15,.mv (.t 1),none⟩,⟨some 16,.bin .lss false (.t 14) (.t 15),none⟩]) (.cond (.t 16) (.seq (.reg [⟨some 4,.mv (.c (.int .i64 (-1))),none⟩]) .ret) .skip)) (.seq (.seq (.reg [⟨some 17,.mv (.t 0),none⟩,⟨some 18,.mv (.t 1),none⟩,⟨some 19,.bin .gtr false (.t 17) (.t 18),none⟩]) (.cond (.t 19) (.seq (.reg [⟨some 4,.mv (.c (.int .i64 1)),none⟩]) .ret) .skip)) (.seq (.reg [⟨some 4,.mv (.c (.int .i64 0)),none⟩]) .ret)))))))),[(.tmp 4)],2,[]⟩
theorem q7u:FnOk Tryz.prog 133 q21:=⟨fun xs w=>by kernel_rfl,_,Tryz.func133,by kernel_rfl⟩
def q1e:FnC:=⟨(.seq (.reg [⟨some 4,.mv (.c (.int .i64 0)),none⟩]) (.seq (.reg [⟨some 7,.mv (.t 0),none⟩,⟨some 8,.call .any 150 [(.t 7)],none⟩,⟨some 5,.mv (.t 8),none⟩]) (.seq (.reg [⟨some 9,.mv (.t 1),none⟩,⟨some 10,.call .any 150 [(.t 9)],none⟩,⟨some 6,.mv (.t 10),none⟩]) (.seq (.seq (.reg [⟨some 11,.mv (.t 5),none⟩]) (.cond (.t 11) (.seq (.seq (.reg [⟨some 12,.mv (.t 6),none⟩]) (.cond (.t 12) (.seq (.reg [⟨some 4,.mv (.c (.int .i64 0)),none⟩]) .ret) .skip)) (.seq (.reg [⟨some 4,.mv (.c (.int .i64 (-1))),none⟩]) .ret)) .skip)) (.seq (.seq (.reg [⟨some 13,.mv (.t 6),none⟩]) (.cond (.t 13) (.seq (.reg [⟨some 4,.mv (.c (.int .i64 1)),none⟩]) .ret) .skip)) (.seq (.seq (.reg [⟨some 14,.mv (.t 0),none⟩,⟨some 15,.mv (.t 1),none⟩,⟨some 16,.bin .lss false (.t 14) (.t 15),none⟩]) (.cond (.t 16) (.seq (.reg [⟨some 4,.mv (.c (.int .i64 (-1))),none⟩]) .ret) .skip)) (.seq (.seq (.reg [⟨some 17,.mv (.t 0),none⟩,⟨some 18,.mv (.t 1),none⟩,⟨some 19,.bin .gtr false (.t 17) (.t 18),none⟩]) (.cond (.t 19) (.seq (.reg [⟨some 4,.mv (.c (.int .i64 1)),none⟩]) .ret) .skip)) (.seq (.reg [⟨some 4,.mv (.c (.int .i64 0)),none⟩]) .ret)))))))),[(.tmp 4)],2,[]⟩
theorem q6F:FnOk Tryz.prog 134 q1e:=⟨fun xs w=>by kernel_rfl,_,Tryz.func134,by kernel_rfl⟩
noncomputable def q63:FnC:=(q25 Go.Proofs.Tryz.prog [] Go.Proofs.Tryz.f135).getD ⟨.skip,[],0,[]⟩
theorem q85:FnOk Tryz.prog 135 q63:=⟨fun xs w=>by kernel_rfl,_,Tryz.func135,by kernel_rfl⟩
noncomputable def q8K:FnC:=(q25 Go.Proofs.Tryz.prog [] Go.Proofs.Tryz.f136).getD ⟨.skip,[],0,[]⟩
theorem ok_value_Fits:FnOk Tryz.prog 136 q8K:=⟨fun xs w=>by kernel_rfl,_,Tryz.func136,by kernel_rfl⟩
noncomputable def q8B:FnC:=(q25 Go.Proofs.Tryz.prog [] Go.Proofs.Tryz.f137).getD ⟨.skip,[],0,[]⟩
theorem ok_varint_Big:FnOk Tryz.prog 137 q8B:=⟨fun xs w=>by kernel_rfl,_,Tryz.func137,by kernel_rfl⟩
noncomputable def q3J:FnC:=(q25 Go.Proofs.Tryz.prog [3000000,28,109,147,101,1000000 + 153] Go.Proofs.Tryz.f138).getD ⟨.skip,[],0,[]⟩
theorem q5G:FnOk Tryz.prog 138 q3J:=⟨fun xs w=>by kernel_rfl,_,Tryz.func138,by kernel_rfl⟩
noncomputable def q45:FnC:=(q25 Go.Proofs.Tryz.prog [3000000,93] Go.Proofs.Tryz.f139).getD ⟨.skip,[],0,[]⟩
theorem q6c:FnOk Tryz.prog 139 q45:=⟨fun xs w=>by kernel_rfl,_,Tryz.func139,by kernel_rfl⟩
noncomputable def q6R:FnC:=(q25 Go.Proofs.Tryz.prog [] Go.Proofs.Tryz.f141).getD ⟨.skip,[],0,[]⟩
theorem ok_encode_sized:FnOk Tryz.prog 141 q6R:=⟨fun xs w=>by kernel_rfl,_,Tryz.func141,by kernel_rfl⟩
def q0R:C:=.seq (.reg [⟨some 9,.bin .lss false (.t 8) (.t 7),none⟩]) (.seq (.cond (.t 9) .skip (.exit 0)) (.seq (.block 1 (.seq (.reg [⟨some 10,.mv (.t 8),none⟩,⟨some 5,.mv (.t 10),none⟩]) (.seq (.reg [⟨some 11,.mv (.t 1),none⟩,⟨some 12,.mv (.t 0),none⟩,⟨some 13,.mv (.t 5),none⟩,⟨some 14,.iaddr 8 (.t 12) (.t 13),none⟩,⟨some 15,.load .any true 8 (.t 14),none⟩,⟨some 16,.callv .any (.t 11) [(.t 15)],none⟩]) (.cond (.t 16) (.seq (.reg [⟨some 17,.mv (.t 5),none⟩,⟨some 4,.mv (.t 17),none⟩]) .ret) .skip)))) (.reg [⟨some 18,.bin .add false (.t 8) (.c (.int .i64 1)),none⟩,⟨some 8,.mv (.t 18),none⟩])))
def q17:FnC:=⟨(.seq (.reg [⟨some 4,.mv (.c (.int .i64 0)),none⟩]) (.seq (.seq (.reg [⟨some 6,.mv (.t 0),none⟩,⟨some 7,.len false (.t 6),none⟩,⟨some 8,.mv (.c (.int .i64 0)),none⟩]) (.block 0 (.loop q0R))) (.seq (.reg [⟨some 4,.mv (.c (.int .i64 (-1))),none⟩]) .ret))),[(.tmp 4)],2,[]⟩
theorem q4g:FnOk Tryz.prog 147 q17:=⟨fun xs w=>by kernel_rfl,_,Tryz.func147,by kernel_rfl⟩
def q2z:FnC:=⟨(.seq (.reg [⟨some 2,.mv (.c (.bool false)),none⟩]) (.seq (.reg [⟨some 3,.mv (.t 0),none⟩,⟨some 4,.mv (.t 0),none⟩,⟨some 5,.bin .neq false (.t 3) (.t 4),none⟩,⟨some 2,.mv (.t 5),none⟩]) .ret)),[(.tmp 2)],1,[]⟩
theorem q7a:FnOk Tryz.prog 148 q2z:=⟨fun xs w=>by kernel_rfl,_,Tryz.func148,by kernel_rfl⟩
def q3z:FnC:=⟨(.seq (.reg [⟨some 2,.mv (.c (.bool false)),none⟩]) (.seq (.reg [⟨some 3,.mv (.t 0),none⟩,⟨some 4,.mv (.t 0),none⟩,⟨some 5,.bin .neq false (.t 3) (.t 4),none⟩,⟨some 2,.mv (.t 5),none⟩]) .ret)),[(.tmp 2)],1,[]⟩
theorem q9b:FnOk Tryz.prog 149 q3z:=⟨fun xs w=>by kernel_rfl,_,Tryz.func149,by kernel_rfl⟩
def q2u:FnC:=⟨(.seq (.reg [⟨some 2,.mv (.c (.bool false)),none⟩]) (.seq (.reg [⟨some 3,.mv (.t 0),none⟩,⟨some 4,.mv (.t 0),none⟩,⟨some 5,.bin .neq false (.t 3) (.t 4),none⟩,⟨some 2,.mv (.t 5),none⟩]) .ret)),[(.tmp 2)],1,[]⟩
theorem q76:FnOk Tryz.prog 150 q2u:=⟨fun xs w=>by kernel_rfl,_,Tryz.func150,by kernel_rfl⟩
noncomputable def q68:FnC:=(q25 Go.Proofs.Tryz.prog [] Go.Proofs.Tryz.f151).getD ⟨.skip,[],0,[]⟩
theorem q8d:FnOk Tryz.prog 151 q68:=⟨fun xs w=>by kernel_rfl,_,Tryz.func151,by kernel_rfl⟩
noncomputable def q6T:FnC:=(q25 Go.Proofs.Tryz.prog [] Go.Proofs.Tryz.f152).getD ⟨.skip,[],0,[]⟩
theorem ok_encode_field:FnOk Tryz.prog 152 q6T:=⟨fun xs w=>by kernel_rfl,_,Tryz.func152,by kernel_rfl⟩
noncomputable def q29:FnC:=(q25 Go.Proofs.Tryz.prog [1000000 + 158] Go.Proofs.Tryz.f153).getD ⟨.skip,[],0,[]⟩
theorem q3M:FnOk Tryz.prog 153 q29:=⟨fun xs w=>by kernel_rfl,_,Tryz.func153,by kernel_rfl⟩
noncomputable def q2Z:FnC:=(q25 Go.Proofs.Tryz.prog [] Go.Proofs.Tryz.f154).getD ⟨.skip,[],0,[]⟩
theorem q4Z:FnOk Tryz.prog 154 q2Z:=⟨fun xs w=>by kernel_rfl,_,Tryz.func154,by kernel_rfl⟩
noncomputable def q8A:FnC:=(q25 Go.Proofs.Tryz.prog [] Go.Proofs.Tryz.f155).getD ⟨.skip,[],0,[]⟩
theorem ok_varint_Put:FnOk Tryz.prog 155 q8A:=⟨fun xs w=>by kernel_rfl,_,Tryz.func155,by kernel_rfl⟩
noncomputable def q7F:FnC:=(q25 Go.Proofs.Tryz.prog [] Go.Proofs.Tryz.f157).getD ⟨.skip,[],0,[]⟩
theorem ok_value_Equal:FnOk Tryz.prog 157 q7F:=⟨fun xs w=>by kernel_rfl,_,Tryz.func157,by kernel_rfl⟩
noncomputable def q1D:FnC:=(q25 Go.Proofs.Tryz.prog [1000000 + 161] Go.Proofs.Tryz.f158).getD ⟨.skip,[],0,[]⟩
theorem q2T:FnOk Tryz.prog 158 q1D:=⟨fun xs w=>by kernel_rfl,_,Tryz.func158,by kernel_rfl⟩
noncomputable def q6D:FnC:=(q25 Go.Proofs.Tryz.prog [] Go.Proofs.Tryz.f159).getD ⟨.skip,[],0,[]⟩
theorem q93:FnOk Tryz.prog 159 q6D:=⟨fun xs w=>by kernel_rfl,_,Tryz.func159,by kernel_rfl⟩
noncomputable def q1g:FnC:=(q25 Go.Proofs.Tryz.prog [] Go.Proofs.Tryz.f161).getD ⟨.skip,[],0,[]⟩
theorem q2h:FnOk Tryz.prog 161 q1g:=⟨fun xs w=>by kernel_rfl,_,Tryz.func161,by kernel_rfl⟩
noncomputable def q5z:FnC:=(q25 Go.Proofs.Tryz.prog [] Go.Proofs.Tryz.f169).getD ⟨.skip,[],0,[]⟩
theorem q7n:FnOk Tryz.prog 169 q5z:=⟨fun xs w=>by kernel_rfl,_,Tryz.func169,by kernel_rfl⟩
noncomputable def q5q:FnC:=(q25 Go.Proofs.Tryz.prog [] Go.Proofs.Tryz.f170).getD ⟨.skip,[],0,[]⟩
theorem q7C:FnOk Tryz.prog 170 q5q:=⟨fun xs w=>by kernel_rfl,_,Tryz.func170,by kernel_rfl⟩
noncomputable def allT:Nat->Option FnC
 | 4=>some q16
 | 5=>some q4o
 | 7=>some q44
 | 8=>some q7v
 | 11=>some q2m
 | 12=>some q2Y
 | 13=>some q6W
 | 15=>some q36
 | 16=>some q3X
 | 17=>some q1Q
 | 18=>some q6y
 | 20=>some q4A
 | 21=>some q6i
 | 22=>some q7x
 | 23=>some q4H
 | 24=>some q2s
 | 25=>some q5e
 | 26=>some q7p
 | 27=>some q6s
 | 29=>some q3u
 | 30=>some q2D
 | 31=>some q33
 | 32=>some q3Z
 | 33=>some q3p
 | 34=>some q6l
 | 36=>some q6I
 | 37=>some q23
 | 38=>some q6o
 | 39=>some q2I
 | 40=>some q2L
 | 41=>some q0G
 | 42=>some q3t
 | 43=>some q2n
 | 44=>some q31
 | 45=>some q2p
 | 46=>some q09
 | 47=>some q0e
 | 48=>some q5p
 | 49=>some q65
 | 51=>some q52
 | 52=>some q4q
 | 53=>some q5F
 | 54=>some q5c
 | 55=>some q5W
 | 56=>some q4t
 | 57=>some q5J
 | 58=>some q1W
 | 59=>some q0a
 | 60=>some q59
 | 61=>some q3o
 | 62=>some q4w
 | 63=>some q07
 | 64=>some q4E
 | 65=>some q4v
 | 66=>some q5m
 | 67=>some q6a
 | 70=>some q1X
 | 71=>some q0E
 | 72=>some q0n
 | 73=>some q3q
 | 74=>some q1Z
 | 75=>some q3A
 | 76=>some q3w
 | 77=>some q08
 | 78=>some q1Y
 | 79=>some q38
 | 80=>some q3b
 | 81=>some q0H
 | 82=>some q06
 | 83=>some q7R
 | 84=>some q5l
 | 89=>some q40
 | 90=>some q0K
 | 91=>some q3U
 | 92=>some q4p
 | 93=>some q6O
 | 94=>some q01
 | 95=>some q3S
 | 96=>some c_ref08_id
 | 97=>some q5g
 | 98=>some q3W
 | 99=>some q5O
 | 100=>some q0j
 | 101=>some q39
 | 102=>some q3y
 | 103=>some q54
 | 104=>some q41
 | 105=>some q0X
 | 106=>some q0F
 | 107=>some q0S
 | 108=>some q19
 | 109=>some q0Z
 | 110=>some q3x
 | 111=>some q8z
 | 112=>some q3r
 | 113=>some q57
 | 114=>some q0Y
 | 115=>some q67
 | 116=>some q3B
 | 117=>some q6k
 | 119=>some q4C
 | 120=>some q30
 | 121=>some q1j
 | 122=>some q0M
 | 123=>some q0q
 | 124=>some q11
 | 125=>some q2x
 | 126=>some q10
 | 127=>some q2y
 | 128=>some q0T
 | 129=>some q3n
 | 130=>some q1A
 | 131=>some q2B
 | 132=>some q58
 | 133=>some q21
 | 134=>some q1e
 | 135=>some q63
 | 136=>some q8K
 | 137=>some q8B
 | 138=>some q3J
 | 139=>some q45
 | 141=>some q6R
 | 147=>some q17
 | 148=>some q2z
 | 149=>some q3z
 | 150=>some q2u
 | 151=>some q68
 | 152=>some q6T
 | 153=>some q29
 | 154=>some q2Z
 | 155=>some q8A
 | 157=>some q7F
 | 158=>some q1D
 | 159=>some q6D
 | 161=>some q1g
 | 169=>some q5z
 | 170=>some q5q
 | _=>none
theorem allT_ok (f:Nat) (c:FnC) (h:allT f=some c):FnOk Tryz.prog f c:=by
 unfold allT at h
 split at h
 ·injection h with h; subst h; exact q6g
 ·injection h with h; subst h; exact q6A
 ·injection h with h; subst h; exact q6b
 ·injection h with h; subst h; exact ok_law11_awake
 ·injection h with h; subst h; exact q7W
 ·injection h with h; subst h; exact ok_ref11_Finite
 ·injection h with h; subst h; exact ok_inhabit_Size
 ·injection h with h; subst h; exact q84
 ·injection h with h; subst h; exact ok_ref11_Single
 ·injection h with h; subst h; exact q8e
 ·injection h with h; subst h; exact q8Q
 ·injection h with h; subst h; exact ok_ref11_Bools
 ·injection h with h; subst h; exact q8V
 ·injection h with h; subst h; exact ok_ref11_Sound
 ·injection h with h; subst h; exact ok_ref11_Of
 ·injection h with h; subst h; exact ok_ref11_Rounds
 ·injection h with h; subst h; exact ok_ref07_Ints
 ·injection h with h; subst h; exact ok_ref08_Equal
 ·injection h with h; subst h; exact q8P
 ·injection h with h; subst h; exact ok_ref11_Error
 ·injection h with h; subst h; exact q8X
 ·injection h with h; subst h; exact q86
 ·injection h with h; subst h; exact ok_ref11_Counts
 ·injection h with h; subst h; exact q8R
 ·injection h with h; subst h; exact q97
 ·injection h with h; subst h; exact ok_ref11_at
 ·injection h with h; subst h; exact q98
 ·injection h with h; subst h; exact q94
 ·injection h with h; subst h; exact ok_ref07_Of
 ·injection h with h; subst h; exact ok_ref11_round
 ·injection h with h; subst h; exact q7J
 ·injection h with h; subst h; exact ok_ref07_Valid
 ·injection h with h; subst h; exact q8s
 ·injection h with h; subst h; exact ok_schema_Valid
 ·injection h with h; subst h; exact q8g
 ·injection h with h; subst h; exact q90
 ·injection h with h; subst h; exact ok_ref11_count
 ·injection h with h; subst h; exact q7B
 ·injection h with h; subst h; exact q8r
 ·injection h with h; subst h; exact ok_ref07_kind
 ·injection h with h; subst h; exact ok_ref07_Named
 ·injection h with h; subst h; exact ok_ref07_low
 ·injection h with h; subst h; exact ok_ref07_high
 ·injection h with h; subst h; exact ok_ref07_ids
 ·injection h with h; subst h; exact ok_ref07_parts
 ·injection h with h; subst h; exact ok_ref07_key
 ·injection h with h; subst h; exact q7d
 ·injection h with h; subst h; exact ok_ref07_own
 ·injection h with h; subst h; exact ok_ref07_uses
 ·injection h with h; subst h; exact q91
 ·injection h with h; subst h; exact ok_ref08_Plain
 ·injection h with h; subst h; exact ok_schema_form
 ·injection h with h; subst h; exact ok_schema_uses
 ·injection h with h; subst h; exact ok_value_Plain
 ·injection h with h; subst h; exact q7A
 ·injection h with h; subst h; exact q87
 ·injection h with h; subst h; exact ok_ref07_target
 ·injection h with h; subst h; exact q96
 ·injection h with h; subst h; exact q89
 ·injection h with h; subst h; exact ok_ref07_plain
 ·injection h with h; subst h; exact ok_ref06_IsName
 ·injection h with h; subst h; exact q92
 ·injection h with h; subst h; exact q8Y
 ·injection h with h; subst h; exact ok_ref08_fit
 ·injection h with h; subst h; exact ok_lexer_IsName
 ·injection h with h; subst h; exact q8a
 ·injection h with h; subst h; exact q7Y
 ·injection h with h; subst h; exact ok_schema_equal
 ·injection h with h; subst h; exact ok_value_fits
 ·injection h with h; subst h; exact ok_encode_Size
 ·injection h with h; subst h; exact q7L
 ·injection h with h; subst h; exact ok_ref07_hollow
 ·injection h with h; subst h; exact q7c
 ·injection h with h; subst h; exact ok_ref06_letter
 ·injection h with h; subst h; exact ok_ref06_digit
 ·injection h with h; subst h; exact ok_ref07_id
 ·injection h with h; subst h; exact ok_ref08_zero
 ·injection h with h; subst h; exact ok_ref07_Symbol
 ·injection h with h; subst h; exact ok_ref08_id
 ·injection h with h; subst h; exact ok_ref08_rest
 ·injection h with h; subst h; exact ok_ref07_Member
 ·injection h with h; subst h; exact ok_ref08_all
 ·injection h with h; subst h; exact q8W
 ·injection h with h; subst h; exact q8l
 ·injection h with h; subst h; exact q9c
 ·injection h with h; subst h; exact ok_schema_ids
 ·injection h with h; subst h; exact ok_schema_blank
 ·injection h with h; subst h; exact q51
 ·injection h with h; subst h; exact q48
 ·injection h with h; subst h; exact q7t
 ·injection h with h; subst h; exact ok_schema_same
 ·injection h with h; subst h; exact ok_value_proper
 ·injection h with h; subst h; exact q8M
 ·injection h with h; subst h; exact ok_value_free
 ·injection h with h; subst h; exact q9a
 ·injection h with h; subst h; exact ok_value_each
 ·injection h with h; subst h; exact q8N
 ·injection h with h; subst h; exact q8o
 ·injection h with h; subst h; exact q5E
 ·injection h with h; subst h; exact q8S
 ·injection h with h; subst h; exact ok_ref08_order
 ·injection h with h; subst h; exact ok_ref03_Zigzag
 ·injection h with h; subst h; exact q5S
 ·injection h with h; subst h; exact q4d
 ·injection h with h; subst h; exact ok_value_bare
 ·injection h with h; subst h; exact q4b
 ·injection h with h; subst h; exact q7f
 ·injection h with h; subst h; exact q47
 ·injection h with h; subst h; exact q7e
 ·injection h with h; subst h; exact q3H
 ·injection h with h; subst h; exact q8Z
 ·injection h with h; subst h; exact q6n
 ·injection h with h; subst h; exact q95
 ·injection h with h; subst h; exact ok_cmp_Or_int
 ·injection h with h; subst h; exact q7u
 ·injection h with h; subst h; exact q6F
 ·injection h with h; subst h; exact q85
 ·injection h with h; subst h; exact ok_value_Fits
 ·injection h with h; subst h; exact ok_varint_Big
 ·injection h with h; subst h; exact q5G
 ·injection h with h; subst h; exact q6c
 ·injection h with h; subst h; exact ok_encode_sized
 ·injection h with h; subst h; exact q4g
 ·injection h with h; subst h; exact q7a
 ·injection h with h; subst h; exact q9b
 ·injection h with h; subst h; exact q76
 ·injection h with h; subst h; exact q8d
 ·injection h with h; subst h; exact ok_encode_field
 ·injection h with h; subst h; exact q3M
 ·injection h with h; subst h; exact q4Z
 ·injection h with h; subst h; exact ok_varint_Put
 ·injection h with h; subst h; exact ok_value_Equal
 ·injection h with h; subst h; exact q2T
 ·injection h with h; subst h; exact q93
 ·injection h with h; subst h; exact q2h
 ·injection h with h; subst h; exact q7n
 ·injection h with h; subst h; exact q7C
 ·cases h
section
mutual
def AV.beq:AV->AV->Bool
 | .int k n,.int k' n'=>decide (k=k')&&decide (n=n')
 | .bool a,.bool b=>a == b
 | .str a,.str b=>decide (a=b)
 | .nilP,.nilP=>true
 | .ptr t n o,.ptr t' n' o'=>Nat.beq t t'&&Nat.beq n n'&&Nat.beq o o'
 | .ip l,.ip m=>AV.beqL l m
 | .bp l,.bp m=>AV.beqL l m
 | .sl b l,.sl b' m=>(b == b')&&AV.beqLL l m
 | .bl l,.bl m=>AV.beqLL l m
 | .fn f l,.fn g m=>Nat.beq f g&&AV.beqL l m
 | .agg l,.agg m=>AV.beqL l m
 | .tup l,.tup m=>AV.beqL l m
 | .undef,.undef=>true
 | _,_=>false
def AV.beqL:List AV->List AV->Bool
 | [],[]=>true
 | x :: l,y :: m=>AV.beq x y&&AV.beqL l m
 | _,_=>false
def AV.beqLL:List (List AV)->List (List AV)->Bool
 | [],[]=>true
 | x :: l,y :: m=>AV.beqL x y&&AV.beqLL l m
 | _,_=>false
end
mutual
theorem AV.beq_eq:∀ (x y:AV),AV.beq x y=true->x=y
 | .int k n,y,h=>by cases y <;> simp [AV.beq] at h <;> simp [h]
 | .bool a,y,h=>by cases y <;> simp [AV.beq] at h <;> simp [h]
 | .str a,y,h=>by cases y <;> simp [AV.beq] at h <;> simp [h]
 | .nilP,y,h=>by cases y <;> simp [AV.beq] at h <;> rfl
 | .ptr t n o,y,h=>by cases y <;> simp [AV.beq] at h <;> simp [h]
 | .ip l,y,h=>by cases y <;> simp only [AV.beq] at h <;> first | cases h | rw [AV.beqL_eq l _ h]
 | .bp l,y,h=>by cases y <;> simp only [AV.beq] at h <;> first | cases h | rw [AV.beqL_eq l _ h]
 | .sl b l,y,h=>by
  cases y <;> simp only [AV.beq] at h <;> first | cases h | skip
  rw [Bool.and_eq_true] at h
  rw [AV.beqLL_eq l _ h.2,show b=_ from by simpa using h.1]
 | .bl l,y,h=>by cases y <;> simp only [AV.beq] at h <;> first | cases h | rw [AV.beqLL_eq l _ h]
 | .ref ..,y,h=>by cases y <;> simp [AV.beq] at h
 | .mp ..,y,h=>by cases y <;> simp [AV.beq] at h
 | .fn f l,y,h=>by
  cases y <;> simp only [AV.beq] at h <;> first | cases h | skip
  rw [Bool.and_eq_true] at h
  rw [AV.beqL_eq l _ h.2,show f=_ from by simpa using h.1]
 | .agg l,y,h=>by cases y <;> simp only [AV.beq] at h <;> first | cases h | rw [AV.beqL_eq l _ h]
 | .tup l,y,h=>by cases y <;> simp only [AV.beq] at h <;> first | cases h | rw [AV.beqL_eq l _ h]
 | .undef,y,h=>by cases y <;> simp [AV.beq] at h <;> rfl
theorem AV.beqL_eq:∀ (x y:List AV),AV.beqL x y=true->x=y
 | [],[],_=>rfl
 | [],_ :: _,h=>by simp [AV.beqL] at h
 | _ :: _,[],h=>by simp [AV.beqL] at h
 | x :: l,y :: m,h=>by
  simp only [AV.beqL,Bool.and_eq_true] at h
  rw [AV.beq_eq x y h.1,AV.beqL_eq l m h.2]
theorem AV.beqLL_eq:∀ (x y:List (List AV)),AV.beqLL x y=true->x=y
 | [],[],_=>rfl
 | [],_ :: _,h=>by simp [AV.beqLL] at h
 | _ :: _,[],h=>by simp [AV.beqLL] at h
 | x :: l,y :: m,h=>by
  simp only [AV.beqLL,Bool.and_eq_true] at h
  rw [AV.beqL_eq x y h.1,AV.beqLL_eq l m h.2]
end
def AV.beqO:Option AV->Option AV->Bool
 | none,none=>true
 | some x,some y=>AV.beq x y
 | _,_=>false
theorem AV.beqO_eq:∀ (x y:Option AV),AV.beqO x y=true->x=y
 | none,none,_=>rfl
 | none,some _,h=>by cases h
 | some _,none,h=>by cases h
 | some x,some y,h=>by rw [AV.beq_eq x y h]
structure ME where
 f:Nat
 args:List AV
 S:Option AV
 r:RV
def look:List ME->q1l
 | [],_,_,_=>none
 | e :: l,f,args,S=>if Nat.beq e.f f&&(AV.beqL e.args args&&AV.beqO e.S S) then some e.r else look l f args S
mutual
def callM (M:List ME) (T:Nat->Option FnC) (ext:q1l):Nat->q1l
 | 0,f,args,S0=>match T f with
  | none=>ext f args S0
  | some _=>none
 | n + 1,f,args,S0=>match look M f args S0 with
  | some r=>some r
  | none=>match T f with
   | none=>ext f args S0
   | some c=>match markR args,S0 with
    | some rest,some (.agg cs)=>if rest.length=c.np/\q69 rest=false then c.code.run (callM M T ext n) ⟨lpM M T ext n,hpM M T ext n⟩ (MSt.initR rest cs) (finR c cs.length) else none
    | some _,_=>none
    | none,_=>if args.length=c.np/\q69 args=false then c.code.run (callM M T ext n) ⟨lpM M T ext n,hpM M T ext n⟩ (MSt.init args S0) (fin c S0) else none
def lpM (M:List ME) (T:Nat->Option FnC) (ext:q1l):Nat->LpT
 | 0,_,_,_=>none
 | n + 1,b,s,k=>b.run (callM M T ext n) ⟨lpM M T ext n,hpM M T ext n⟩ s (q7Q (lpM M T ext n) b k)
def hpM (M:List ME) (T:Nat->Option FnC) (ext:q1l):Nat->HpT
 | 0,_,_,_,_=>none
 | n + 1,f,args,s,k=>match T f with
  | none=>none
  | some c=>if args.length=c.np then c.code.run (callM M T ext n) ⟨lpM M T ext n,hpM M T ext n⟩ (s.initH args) (finH c k) else none
end
variable {T:Nat->Option FnC} {ext:q1l} {M:List ME}
def q0k (T:Nat->Option FnC) (ext:q1l) (M:List ME):Prop:=∀ f args S r,look M f args S=some r->evC T ext f args S=some r
theorem M_late (hM:q0k T ext M):∀ N,(∀ f args S r,callM M T ext N f args S=some r->Late fun m=>q2S T ext m f args S=some r) ∧
  (∀ b s k r (km:Nat->Ex->MSt->Option RV),(∀ e s' r',k e s'=some r'->Late fun m=>km m e s'=some r')->lpM M T ext N b s k=some r->Late fun m=>lpN T ext m b s (km m)=some r) ∧
  HLate (hpM M T ext N) (hpN T ext)
 | 0=>by
  refine ⟨fun f args S r h=>⟨0,fun m _=>?_⟩,fun b s k r km _ h=>(by cases h),fun f xs s k r km _ h=>(by cases h)⟩
  unfold callM at h
  cases hT:T f with
  | none=>rw [hT] at h; cases m <;> (unfold q2S; rw [hT]; exact h)
  | some c=>rw [hT] at h; cases h
 | N + 1=>by
  obtain ⟨ih1,ih2,ih3⟩:=M_late hM N
  refine ⟨?_,?_,?_⟩
  ·intro f args S0 r h
   unfold callM at h
   cases hl:look M f args S0 with
   | some r' =>
    rw [hl] at h
    injection h with h
    subst h
    exact ev_late1 f args S0 _ (hM f args S0 _ hl)
   | none =>
   rw [hl] at h
   simp only at h
   cases hT:T f with
   | none=>rw [hT] at h; exact ⟨0,fun m _=>by cases m <;> (unfold q2S; rw [hT]; exact h)⟩
   | some c =>
    rw [hT] at h
    cases hm:markR args with
    | some rest =>
     cases S0 with
     | none=>rw [hm] at h; cases h
     | some S =>
      cases S with
      | agg cs =>
       rw [hm] at h
       simp only at h
       split at h
       ·rename_i hl
        refine Late.pred ((q1K (lpA:=⟨lpM M T ext N,hpM M T ext N⟩) (lpB:=fun m=>⟨lpN T ext m,hpN T ext m⟩) ih1 ih3 ih2 c.code _ _ r (fun _=>finR c cs.length) (fun e s' r' h'=>Late.now h') h).imp fun m hm'=>?_)
        unfold q2S
        rw [hT]
        simp only [hm]
        rw [if_pos hl]
        exact hm'
       ·cases h
      | _=>rw [hm] at h; cases h
    | none =>
     rw [hm] at h
     simp only at h
     split at h
     ·rename_i hl
      refine Late.pred ((q1K (lpA:=⟨lpM M T ext N,hpM M T ext N⟩) (lpB:=fun m=>⟨lpN T ext m,hpN T ext m⟩) ih1 ih3 ih2 c.code _ _ r (fun _=>fin c S0) (fun e s' r' h'=>Late.now h') h).imp fun m hm'=>?_)
      unfold q2S
      rw [hT]
      simp only [hm]
      rw [if_pos hl]
      exact hm'
     ·cases h
  ·intro b s k r km hk h
   unfold lpM at h
   refine Late.pred ((q1K (lpA:=⟨lpM M T ext N,hpM M T ext N⟩) (lpB:=fun m=>⟨lpN T ext m,hpN T ext m⟩) ih1 ih3 ih2 b s _ r (fun m=>q7Q (lpN T ext m) b (km (m + 1))) (fun e s' r' h'=>?_) h).imp fun m hm=>?_)
   ·cases e with
    | nrm=>exact ih2 b s' k r' (fun m=>km (m + 1)) (fun e s'' r'' h''=>(hk e s'' r'' h'').succ) h'
    | exit id=>exact (hk _ _ _ h').succ
    | ret=>exact (hk _ _ _ h').succ
   ·unfold lpN
    exact hm
  ·intro f xs s k r km hk h
   unfold hpM at h
   cases hT:T f with
   | none=>rw [hT] at h; cases h
   | some c =>
    rw [hT] at h
    simp only at h
    split at h
    ·rename_i hl
     refine Late.pred ((q1K (lpA:=⟨lpM M T ext N,hpM M T ext N⟩) (lpB:=fun m=>⟨lpN T ext m,hpN T ext m⟩) ih1 ih3 ih2 c.code _ _ r (fun m=>finH c (km (m + 1))) (fun e s' r' h'=>?_) h).imp fun m hm=>?_)
     ·cases e with
      | exit id=>cases h'
      | nrm =>
       simp only [finH] at h' ⊢
       obtain ⟨y,hy,h'⟩:=Option.bind_eq_some_iff.1 h'
       simp only [hy,Option.bind_some]
       exact (hk _ _ _ h').succ
      | ret =>
       simp only [finH] at h' ⊢
       obtain ⟨y,hy,h'⟩:=Option.bind_eq_some_iff.1 h'
       simp only [hy,Option.bind_some]
       exact (hk _ _ _ h').succ
     ·unfold hpN
      rw [hT]
      simp only
      rw [if_pos hl]
      exact hm
    ·cases h
theorem q0k.nil:q0k T ext []:=fun f args S r h=>by cases h
theorem q0k.run (hM:q0k T ext M) {f:Nat} {args:List AV} {S:Option AV} {r:RV} (N:Nat) (h:callM M T ext N f args S=some r):evC T ext f args S=some r:=by
 obtain ⟨m,hm⟩:=((M_late hM N).1 f args S r h).some
 exact q7z.2 ⟨m,hm⟩
theorem q0k.cons (hM:q0k T ext M) {e:ME} (h:evC T ext e.f e.args e.S=some e.r):q0k T ext (e :: M):=fun f args S r hl=>by
 unfold look at hl
 split at hl
 ·rename_i hc
  simp only [Bool.and_eq_true] at hc
  obtain ⟨h1,h2,h3⟩:=hc
  injection hl with hl
  have h1:e.f=f:=by simpa using h1
  rw [<- h1,<- AV.beqL_eq _ _ h2,<- AV.beqO_eq _ _ h3,<- hl]
  exact h
 ·exact hM f args S r hl
theorem q0k.more (hM:q0k T ext M) (N:Nat) (e:ME) (h:callM M T ext N e.f e.args e.S=some e.r):q0k T ext (e :: M):=hM.cons (hM.run N h)
end
section
def putE (e:Nat->Slot) (d:Nat) (x:Slot):Nat->Slot:=fun t=>if t=d then x else e t
theorem q2V (e:Nat->Slot) (d:Nat) (x:Slot) (t:Nat):putE e d x t=if t=d then x else e t:=(rfl)
def setM (m:Nat->Nat->Option (List Slot)) (t n:Nat) (r:List Slot):Nat->Nat->Option (List Slot):=fun t' n'=>if t'=t/\n'=n then some r else m t' n'
theorem q0t (m:Nat->Nat->Option (List Slot)) (t n:Nat) (r:List Slot) (t' n':Nat):setM m t n r t' n'=if t'=t/\n'=n then some r else m t' n':=(rfl)
def setO (m:Nat->Nat->Option AV) (t n:Nat) (r:AV):Nat->Nat->Option AV:=fun t' n'=>if t'=t/\n'=n then some r else m t' n'
theorem setO_at (m:Nat->Nat->Option AV) (t n:Nat) (r:AV) (t' n':Nat):setO m t n r t' n'=if t'=t/\n'=n then some r else m t' n':=(rfl)
def stripE (k:Nat) (e:Nat->Slot):Nat->Slot:=fun t=>(e t).strip k
theorem stripE_at (k:Nat) (e:Nat->Slot) (t:Nat):stripE k e t=(e t).strip k:=(rfl)
def stripM (k:Nat) (m:Nat->Nat->Option (List Slot)):Nat->Nat->Option (List Slot):=fun t n=>(m t n).map (·.map (Slot.strip k))
theorem stripM_at (k:Nat) (m:Nat->Nat->Option (List Slot)) (t n:Nat):stripM k m t n=(m t n).map (·.map (Slot.strip k)):=(rfl)
theorem Slot.strip_v (k:Nat) (x:Slot):(x.strip k).v=x.v:=(rfl)
theorem Slot.strip_a (k:Nat) (x:Slot):(x.strip k).a=x.a.strip k:=(rfl)
theorem Slot.strip_mk (k:Nat) (v:AV) (a:An):Slot.strip k ⟨v,a⟩=⟨v,a.strip k⟩:=(rfl)
def argE (args:List AV):Nat->Slot:=fun t=>⟨args.getD t .undef,.no⟩
theorem argE_at (args:List AV) (t:Nat):argE args t=⟨args.getD t .undef,.no⟩:=(rfl)
def noM:Nat->Nat->Option (List Slot):=fun _ _=>none
theorem noM_at (t n:Nat):noM t n=none:=(rfl)
def objE (S0:Option AV):Nat->Nat->Option AV:=fun t n=>if t=0/\n=0 then S0 else none
theorem objE_at (S0:Option AV) (t n:Nat):objE S0 t n=if t=0/\n=0 then S0 else none:=(rfl)
def undE:Nat->Slot:=fun _=>⟨.undef,.no⟩
theorem undE_at (t:Nat):undE t=⟨.undef,.no⟩:=(rfl)
theorem bind_some2 {α β:Type} (a:α) (f:α->Option β):(some a).bind f=f a:=(rfl)
theorem take_map_len {α β:Type} (f:α->β) (l:List α):(l.map f).take l.length=l.map f:=List.take_of_length_le (by simp)
theorem m_init (args:List AV) (S0:Option AV):MSt.init args S0=⟨argE args,noM,1,objE S0,undE⟩:=(rfl)
theorem m_put (s:MSt) (d:Nat) (x:Slot):s.put (some d) x=⟨putE s.env d x,s.mem,s.next,s.obj,s.gh⟩:=(rfl)
theorem m_put0 (s:MSt) (x:Slot):s.put none x=s:=(rfl)
theorem m_row (s:MSt) (t n:Nat) (r:List Slot):s.setRow t n r=⟨s.env,setM s.mem t n r,s.next,s.obj,s.gh⟩:=(rfl)
theorem m_obj (s:MSt) (t n:Nat) (r:AV):s.setObj t n r=⟨s.env,s.mem,s.next,setO s.obj t n r,s.gh⟩:=(rfl)
theorem m_strip (s:MSt) (k:Nat):s.strip k=⟨stripE k s.env,stripM k s.mem,s.next,s.obj,stripE k s.gh⟩:=(rfl)
theorem m_stripA (s:MSt) (k:Nat) (e:TypeId):s.stripA (.own k e)=s.strip k:=(rfl)
theorem m_stripX (s:MSt):s.stripA .ex=s:=(rfl)
def killE (t n:Nat) (e:Nat->Slot):Nat->Slot:=fun j=>(e j).kill t n
theorem q0r (t n:Nat) (e:Nat->Slot) (j:Nat):killE t n e j=(e j).kill t n:=(rfl)
def killM (t n:Nat) (m:Nat->Nat->Option (List Slot)):Nat->Nat->Option (List Slot):=fun t' n'=>if t'=t/\n'=n then none else (m t' n').map (·.map (Slot.kill t n))
theorem q0x (t n:Nat) (m:Nat->Nat->Option (List Slot)) (t' n':Nat):killM t n m t' n'=if t'=t/\n'=n then none else (m t' n').map (·.map (Slot.kill t n)):=(rfl)
theorem Slot.kill_v (t n:Nat) (x:Slot):(x.kill t n).v=x.v.kill t n:=(rfl)
theorem Slot.kill_a (t n:Nat) (x:Slot):(x.kill t n).a=x.a:=(rfl)
theorem Slot.kill_mk (t n:Nat) (v:AV) (a:An):Slot.kill t n ⟨v,a⟩=⟨v.kill t n,a⟩:=(rfl)
theorem m_kill (s:MSt) (t n:Nat):s.killO (some (t,n))=⟨killE t n s.env,killM t n s.mem,s.next,s.obj,killE t n s.gh⟩:=(rfl)
def rowE (cs:List AV):Nat->Nat->Option (List Slot):=fun t n=>if t=0/\n=0 then some (cs.map fun v=>⟨v,q43 v⟩) else none
theorem rowE_at (cs:List AV) (t n:Nat):rowE cs t n=if t=0/\n=0 then some (cs.map fun v=>⟨v,q43 v⟩) else none:=(rfl)
theorem m_initR (args cs:List AV):MSt.initR args cs=⟨argE args,rowE cs,1,objE none,undE⟩:=by
 have:objE none=fun _ _=>none:=by funext t n; simp [objE]
 rw [this]
 rfl
def drop0M (m:Nat->Nat->Option (List Slot)):Nat->Nat->Option (List Slot):=fun t n=>if t=0/\n=0 then none else m t n
theorem drop0M_at (m:Nat->Nat->Option (List Slot)) (t n:Nat):drop0M m t n=if t=0/\n=0 then none else m t n:=(rfl)
theorem m_drop0 (s:MSt):s.drop0=⟨s.env,drop0M s.mem,s.next,s.obj,s.gh⟩:=(rfl)
def slotE (xs:List Slot):Nat->Slot:=fun t=>xs.getD t ⟨.undef,.no⟩
theorem slotE_at (xs:List Slot) (t:Nat):slotE xs t=xs.getD t ⟨.undef,.no⟩:=(rfl)
def waitE (nt:Nat) (e g:Nat->Slot):Nat->Slot:=fun t=>if t<nt then e t else g (t - nt)
theorem q1u (nt:Nat) (e g:Nat->Slot) (t:Nat):waitE nt e g t=if t<nt then e t else g (t - nt):=(rfl)
def backE (nt:Nat) (g:Nat->Slot):Nat->Slot:=fun t=>if t<nt then g t else ⟨.undef,.no⟩
theorem q6Q (nt:Nat) (g:Nat->Slot) (t:Nat):backE nt g t=if t<nt then g t else ⟨.undef,.no⟩:=(rfl)
def restE (nt:Nat) (g:Nat->Slot):Nat->Slot:=fun t=>g (t + nt)
theorem restE_at (nt:Nat) (g:Nat->Slot) (t:Nat):restE nt g t=g (t + nt):=(rfl)
theorem m_initH (s:MSt) (xs:List Slot):s.initH xs=⟨slotE xs,s.mem,s.next,s.obj,s.gh⟩:=(rfl)
theorem m_enter (s:MSt) (nt:Nat):s.enter nt=⟨s.env,s.mem,s.next + 1,s.obj,waitE nt s.env s.gh⟩:=(rfl)
theorem m_leave (s:MSt) (nt:Nat):s.leave nt=⟨backE nt s.gh,s.mem,s.next,s.obj,restE nt s.gh⟩:=(rfl)
theorem m_kill0 (s:MSt):s.killO none=s:=(rfl)
theorem kill0_free {v:AV} (h:v.free0=true) (t n:Nat):v.kill0 t n=v:=by
 cases v <;> first | rfl | (simp [AV.free0] at h; done)
theorem kill_map {cs:List AV} (h:cs.all AV.free0=true) (t n:Nat):cs.map (AV.kill0 t n)=cs:=by
 have h1:cs.map (AV.kill0 t n)=cs.map id:=List.map_congr_left fun x hx=>kill0_free (List.all_eq_true.1 h x hx) t n
 rwa [List.map_id] at h1
theorem kill_free {v:AV} (h:v.free=true) (t n:Nat):v.kill t n=v:=by
 cases v with
 | agg cs=>exact congrArg AV.agg (kill_map h t n)
 | _=>first | rfl | (simp [AV.free,AV.free0] at h; done)
theorem frz0_free {s:MSt} {v:AV} (h:v.free0=true):v.frz0 s=v:=by
 cases v <;> first | rfl | (simp [AV.free0] at h; done)
theorem frz_map {s:MSt} {cs:List AV} (h:cs.all AV.free0=true):cs.map (AV.frz0 s)=cs:=by
 have h1:cs.map (AV.frz0 s)=cs.map id:=List.map_congr_left fun x hx=>frz0_free (List.all_eq_true.1 h x hx)
 rwa [List.map_id] at h1
theorem frz_free {s:MSt} {v:AV} (h:v.free=true):v.frz s=v:=by
 cases v with
 | agg cs=>exact congrArg AV.agg (frz_map h)
 | _=>first | rfl | (simp [AV.free,AV.free0] at h; done)
section
variable {sz:Nat} {l:List (List AV)}
theorem q5d (l m:List (List AV)):q0f (l++m)=q0f l++q0f m:=by simp [q0f]
theorem q5n (h:q18 sz l=true):(q0f l).length=l.length * sz:=by
 induction l with
 | nil=>simp [q0f]
 | cons c r ih =>
  rw [q8q] at h
  simp only [Bool.and_eq_true,decide_eq_true_eq] at h
  have:=ih h.2
  simp only [q0f,List.flatten_cons,List.map_append,List.length_append,List.length_map,List.length_cons] at this ⊢
  rw [this,h.1,Nat.succ_mul]
  omega
theorem q7i (h:q18 sz l=true) {k:Nat} (hk:k<=l.length):q0f l=q0f (l.take k)++q0f (l.drop k)/\(q0f (l.take k)).length=k * sz:=by
 refine ⟨by rw [<- q5d,List.take_append_drop],?_⟩
 rw [q5n (elsOk_take h k),List.length_take,Nat.min_eq_left hk]
theorem rowOf_take (h:q18 sz l=true) {k:Nat} (hk:k<=l.length):(q0f l).take (k * sz)=q0f (l.take k):=by
 obtain ⟨h1,h2⟩:=q7i h hk
 rw [h1,<- h2,List.take_left]
theorem rowOf_drop (h:q18 sz l=true) {k:Nat} (hk:k<=l.length):(q0f l).drop (k * sz)=q0f (l.drop k):=by
 obtain ⟨h1,h2⟩:=q7i h hk
 rw [h1,<- h2,List.drop_left]
theorem q81 (c:List AV) (r:List (List AV)):q0f (c :: r)=c.map (⟨·,.no⟩)++q0f r:=by simp [q0f]
theorem elsOk_get (h:q18 sz l=true) {k:Nat} {c:List AV} (hk:l[k]?=some c):c.length=sz:=by
 simp only [q18,List.all_eq_true] at h
 simpa using h c (List.mem_of_getElem? hk)
theorem rowOf_at (h:q18 1 l=true) {k:Nat} {x:AV} (hk:l[k]?=some [x]):(q0f l)[k]?=some ⟨x,.no⟩:=by
 have hlt:=(List.getElem?_eq_some_iff.1 hk).1
 obtain ⟨h1,h2⟩:=q7i h (k:=k) (by omega)
 have hd:l.drop k=[x] :: l.drop (k + 1):=by rw [List.drop_eq_getElem_cons hlt,(List.getElem?_eq_some_iff.1 hk).2]
 rw [h1,List.getElem?_append_right (by omega),h2,hd,q81]
 simp
theorem rowOf_load1 (h:q18 1 l=true) {k:Nat} {x:AV} (hk:l[k]?=some [x]) (sz:Nat):q0C false sz k (q0f l)=some ⟨x,.no⟩:=by
 simp only [q0C,Bool.false_eq_true,if_false]
 exact rowOf_at h hk
theorem rowOf_store1 (h:q18 1 l=true) {k:Nat} (hk:k<l.length) {x:AV} (hx:x.leaf=true) (sz:Nat):q0d false sz k (q0f l) x .no=some (q0f (l.set k [x])):=by
 have hlen:=q5n h
 simp only [q0d,Bool.false_eq_true,if_false]
 rw [if_pos ⟨hx,by omega⟩]
 congr 1
 have e1:=rowOf_take h (k:=k) (by omega)
 have e2:=rowOf_drop h (k:=k + 1) (by omega)
 simp only [Nat.mul_one] at e1 e2
 rw [List.set_eq_take_append_cons_drop,if_pos (by omega),e1,e2,List.set_eq_take_append_cons_drop,if_pos hk,q5d,q81]
 simp
theorem q0l (z off:Nat) (r:List Slot):q0C false z off r=r[off]?:=by simp [q0C]
theorem q0m (z off:Nat) (x:Slot) (r:List Slot):q0C true z off (x :: r)=if off + z<=(x :: r).length then some ⟨.agg ((((x :: r).drop off).take z).map (·.v)),.no⟩ else none:=by simp [q0C]
theorem q0c (z off:Nat) (y:Slot) (r:List Slot) (x:AV) (a:An):q0d false z off (y :: r) x a=if x.leaf/\off<(y :: r).length then some ((y :: r).set off ⟨x,a⟩) else none:=by simp [q0d]
theorem q0b (z off:Nat) (y:Slot) (r:List Slot) (cs:List AV) (a:An):q0d true z off (y :: r) (.agg cs) a=if cs.length=z/\off + z<=(y :: r).length then some ((y :: r).take off++cs.map (⟨·,.no⟩)++(y :: r).drop (off + z)) else none:=by simp [q0d]
def q2e (l:List (List AV)):Bool:=l.all fun c=>c.all AV.free0
theorem q6Z {α:Type} (f:α->List AV) (l:List α) (h:∀ x,(f x).all AV.free0=true):q2e (l.map f)=true:=by
 simp only [q2e,List.all_map,List.all_eq_true]
 exact fun x _=>h x
theorem rowOf_els (h:q18 sz l=true) (hf:q2e l=true):q4m (q0f l) sz 0 l.length=some l:=by
 unfold q4m
 rw [if_pos]
 ·congr 1
  refine List.ext_getElem (by simp) fun i h1 h2=>?_
  simp only [List.getElem_map,List.getElem_range,Nat.zero_add]
  rw [rowOf_drop h (by omega),List.drop_eq_getElem_cons h2,q81]
  have hc:=elsOk_get h (List.getElem?_eq_getElem h2)
  rw [<- hc,List.take_left' (by simp)]
  simp [Function.comp_def]
 ·refine ⟨by rw [q5n h]; omega,?_⟩
  simp only [q0f,List.all_map,List.all_flatten,Function.comp_def]
  exact hf
end
section
variable {call:q1l} {lp:LH} {T:Nat->Option FnC} {ext:q1l}
def seqK (call:q1l) (lp:LH) (b:C) (k:Ex->MSt->Option RV):Ex->MSt->Option RV:=fun e s=>match e with
 | .nrm=>b.run call lp s k
 | e=>k e s
def regK (k:Ex->MSt->Option RV):MSt->Option RV:=fun s=>k .nrm { s with next:=s.next + 1 }
def opK (call:q1l) (lp:LH) (r:List OpC) (k:MSt->Option RV):MSt->Option RV:=fun s=>q3I call lp r s k
def callK (d:Option Nat) (nt:Nat) (k:MSt->Option RV):Slot->MSt->Option RV:=fun y s'=>k ((s'.leave nt).put d y)
def blkK (id:Nat) (k:Ex->MSt->Option RV):Ex->MSt->Option RV:=fun e s=>match e with
 | .exit j=>if j=id then k .nrm s else k (.exit j) s
 | e=>k e s
def condC (v:AV) (a b:Option RV):Option RV:=match v with
 | .bool t=>if t then a else b
 | _=>none
def guardC (v:AV) (w:Bool) (a b:Option MSt):Option MSt:=match v with
 | .bool t=>if t=w then a else b
 | .tup []=>b
 | _=>none
def guardK (v:AV) (w:Bool) (a b:Option RV):Option RV:=match v with
 | .bool t=>if t=w then a else b
 | .tup []=>b
 | _=>none
def fnC (v:AV) (h:Nat->List AV->Option RV):Option RV:=match v with
 | .fn f cs=>h f cs
 | _=>none
variable (b c:C) (s:MSt) (k:Ex->MSt->Option RV) (j id:Nat)
theorem seqK_nrm:seqK call lp b k .nrm s=b.run call lp s k:=(rfl)
theorem seqK_exit:seqK call lp b k (.exit j) s=k (.exit j) s:=(rfl)
theorem seqK_ret:seqK call lp b k .ret s=k .ret s:=(rfl)
theorem regK_at:regK k s=k .nrm ⟨s.env,s.mem,s.next + 1,s.obj,s.gh⟩:=(rfl)
theorem opK_at (r:List OpC) (k:MSt->Option RV):opK call lp r k s=q3I call lp r s k:=(rfl)
theorem callK_at (d:Option Nat) (nt:Nat) (k:MSt->Option RV) (y:Slot):callK d nt k y s=k ((s.leave nt).put d y):=(rfl)
theorem blkK_nrm:blkK id k .nrm s=k .nrm s:=(rfl)
theorem blkK_exit:blkK id k (.exit j) s=if j=id then k .nrm s else k (.exit j) s:=(rfl)
theorem blkK_ret:blkK id k .ret s=k .ret s:=(rfl)
theorem condC_true (x y:Option RV):condC (.bool true) x y=x:=(rfl)
theorem condC_false (x y:Option RV):condC (.bool false) x y=y:=(rfl)
theorem guardC_bool (t w:Bool) (x y:Option MSt):guardC (.bool t) w x y=if t=w then x else y:=(rfl)
theorem guardC_tup (w:Bool) (x y:Option MSt):guardC (.tup []) w x y=y:=(rfl)
theorem guardK_bool (t w:Bool) (x y:Option RV):guardK (.bool t) w x y=if t=w then x else y:=(rfl)
theorem guardK_tup (w:Bool) (x y:Option RV):guardK (.tup []) w x y=y:=(rfl)
theorem fnC_fn (f:Nat) (cs:List AV) (h:Nat->List AV->Option RV):fnC (.fn f cs) h=h f cs:=(rfl)
theorem r_skip:C.run call lp .skip s k=k .nrm s:=(rfl)
theorem r_seq:C.run call lp (.seq b c) s k=b.run call lp s (seqK call lp c k):=(rfl)
theorem r_reg (ops:List OpC):C.run call lp (.reg ops) s k=q3I call lp ops s (regK k):=(rfl)
theorem r_cond (x:Opd):C.run call lp (.cond x b c) s k=condC (x.get s) (b.run call lp s k) (c.run call lp s k):=(rfl)
theorem r_block:C.run call lp (.block id b) s k=b.run call lp s (blkK id k):=(rfl)
theorem r_loop:C.run call (evK T ext) (.loop b) s k=evL T ext b s k:=(rfl)
theorem r_exit:C.run call lp (.exit id) s k=k (.exit id) s:=(rfl)
theorem r_ret:C.run call lp .ret s k=k .ret s:=(rfl)
theorem a_nrm:q7Q lp b k .nrm s=lp b s k:=(rfl)
theorem a_exit:q7Q lp b k (.exit j) s=k (.exit j) s:=(rfl)
theorem a_ret:q7Q lp b k .ret s=k .ret s:=(rfl)
theorem o_nil (k:MSt->Option RV):q3I call lp [] s k=k s:=(rfl)
theorem o_cons (o:OpC) (r:List OpC) (k:MSt->Option RV):q3I call lp (o :: r) s k=o.stepK call lp s (opK call lp r k):=(rfl)
theorem s_plain (d:Option Nat) (op:K):OpC.step call ⟨d,op,none⟩ s=(op.run call s).bind (OpC.eff ⟨d,op,none⟩ s):=(rfl)
theorem s_guard (d:Option Nat) (op:K) (t:Nat) (w:Bool):OpC.step call ⟨d,op,some (t,w)⟩ s=guardC (s.env t).v w ((op.run call s).bind (OpC.eff ⟨d,op,none⟩ s)) (some (s.put d ⟨.tup [],.no⟩)):=by
 simp only [OpC.step,guardC]
 generalize (s.env t).v=v
 cases v with
 | tup l=>cases l <;> rfl
 | _=>rfl
theorem k_callh (d:Option Nat) (nt:Nat) (x:Opd) (xs:List Opd) (g:Option (Nat × Bool)) (k:MSt->Option RV):OpC.stepK call lp ⟨d,.callh nt x xs,g⟩ s k=q7S s d g (q8h lp d nt x xs s k) k:=(rfl)
theorem hg_none (d:Option Nat) (a:Option RV) (k:MSt->Option RV):q7S s d none a k=a:=(rfl)
theorem hg_some (d:Option Nat) (t:Nat) (w:Bool) (a:Option RV) (k:MSt->Option RV):q7S s d (some (t,w)) a k=guardK (s.env t).v w a (k (s.put d ⟨.tup [],.no⟩)):=by
 simp only [q7S,guardK]
 generalize (s.env t).v=v
 cases v with
 | tup l=>cases l <;> rfl
 | _=>rfl
theorem h_step (d:Option Nat) (nt:Nat) (x:Opd) (xs:List Opd) (k:MSt->Option RV):q8h (evK T ext) d nt x xs s k=fnC (x.get s) fun f cs=>evH T ext f (q7P s xs++cs.map (⟨·,.no⟩)) (s.enter nt) (callK d nt k):=by
 simp only [q8h,fnC]
 generalize x.get s=v
 cases v <;> rfl
theorem k_mv (d:Option Nat) {x0} (g:Option (Nat × Bool)) (k:MSt->Option RV):OpC.stepK call lp ⟨d,.mv x0,g⟩ s k=(OpC.step call ⟨d,.mv x0,g⟩ s).bind k:=(rfl)
theorem k_pick (d:Option Nat) {x0} {x1} {x2} (g:Option (Nat × Bool)) (k:MSt->Option RV):OpC.stepK call lp ⟨d,.pick x0 x1 x2,g⟩ s k=(OpC.step call ⟨d,.pick x0 x1 x2,g⟩ s).bind k:=(rfl)
theorem k_alloc (d:Option Nat) {x0} (g:Option (Nat × Bool)) (k:MSt->Option RV):OpC.stepK call lp ⟨d,.alloc x0,g⟩ s k=(OpC.step call ⟨d,.alloc x0,g⟩ s).bind k:=(rfl)
theorem k_box (d:Option Nat) {x0} {x1} (g:Option (Nat × Bool)) (k:MSt->Option RV):OpC.stepK call lp ⟨d,.box x0 x1,g⟩ s k=(OpC.step call ⟨d,.box x0 x1,g⟩ s).bind k:=(rfl)
theorem k_build (d:Option Nat) {x0} {x1} (g:Option (Nat × Bool)) (k:MSt->Option RV):OpC.stepK call lp ⟨d,.build x0 x1,g⟩ s k=(OpC.step call ⟨d,.build x0 x1,g⟩ s).bind k:=(rfl)
theorem k_bsl (d:Option Nat) {x0} {x1} {x2} (g:Option (Nat × Bool)) (k:MSt->Option RV):OpC.stepK call lp ⟨d,.bsl x0 x1 x2,g⟩ s k=(OpC.step call ⟨d,.bsl x0 x1 x2,g⟩ s).bind k:=(rfl)
theorem k_bslr (d:Option Nat) {x0} {x1} {x2} {x3} (g:Option (Nat × Bool)) (k:MSt->Option RV):OpC.stepK call lp ⟨d,.bslr x0 x1 x2 x3,g⟩ s k=(OpC.step call ⟨d,.bslr x0 x1 x2 x3,g⟩ s).bind k:=(rfl)
theorem k_load (d:Option Nat) {x0} {x1} {x2} {x3} (g:Option (Nat × Bool)) (k:MSt->Option RV):OpC.stepK call lp ⟨d,.load x0 x1 x2 x3,g⟩ s k=(OpC.step call ⟨d,.load x0 x1 x2 x3,g⟩ s).bind k:=(rfl)
theorem k_store (d:Option Nat) {x0} {x1} {x2} {x3} {x4} (g:Option (Nat × Bool)) (k:MSt->Option RV):OpC.stepK call lp ⟨d,.store x0 x1 x2 x3 x4,g⟩ s k=(OpC.step call ⟨d,.store x0 x1 x2 x3 x4,g⟩ s).bind k:=(rfl)
theorem k_bin (d:Option Nat) {x0} {x1} {x2} {x3} (g:Option (Nat × Bool)) (k:MSt->Option RV):OpC.stepK call lp ⟨d,.bin x0 x1 x2 x3,g⟩ s k=(OpC.step call ⟨d,.bin x0 x1 x2 x3,g⟩ s).bind k:=(rfl)
theorem k_mm (d:Option Nat) {x0} {x1} {x2} (g:Option (Nat × Bool)) (k:MSt->Option RV):OpC.stepK call lp ⟨d,.mm x0 x1 x2,g⟩ s k=(OpC.step call ⟨d,.mm x0 x1 x2,g⟩ s).bind k:=(rfl)
theorem k_eqa (d:Option Nat) {x0} {x1} {x2} {x3} (g:Option (Nat × Bool)) (k:MSt->Option RV):OpC.stepK call lp ⟨d,.eqa x0 x1 x2 x3,g⟩ s k=(OpC.step call ⟨d,.eqa x0 x1 x2 x3,g⟩ s).bind k:=(rfl)
theorem k_eqn (d:Option Nat) {x0} {x1} {x2} {x3} (g:Option (Nat × Bool)) (k:MSt->Option RV):OpC.stepK call lp ⟨d,.eqn x0 x1 x2 x3,g⟩ s k=(OpC.step call ⟨d,.eqn x0 x1 x2 x3,g⟩ s).bind k:=(rfl)
theorem k_un (d:Option Nat) {x0} {x1} (g:Option (Nat × Bool)) (k:MSt->Option RV):OpC.stepK call lp ⟨d,.un x0 x1,g⟩ s k=(OpC.step call ⟨d,.un x0 x1,g⟩ s).bind k:=(rfl)
theorem k_conv (d:Option Nat) {x0} {x1} (g:Option (Nat × Bool)) (k:MSt->Option RV):OpC.stepK call lp ⟨d,.conv x0 x1,g⟩ s k=(OpC.step call ⟨d,.conv x0 x1,g⟩ s).bind k:=(rfl)
theorem k_rstr (d:Option Nat) {x0} (g:Option (Nat × Bool)) (k:MSt->Option RV):OpC.stepK call lp ⟨d,.rstr x0,g⟩ s k=(OpC.step call ⟨d,.rstr x0,g⟩ s).bind k:=(rfl)
theorem k_bstr (d:Option Nat) {x0} {x1} (g:Option (Nat × Bool)) (k:MSt->Option RV):OpC.stepK call lp ⟨d,.bstr x0 x1,g⟩ s k=(OpC.step call ⟨d,.bstr x0 x1,g⟩ s).bind k:=(rfl)
theorem k_mks (d:Option Nat) {x0} {x1} {x2} {x3} {x4} (g:Option (Nat × Bool)) (k:MSt->Option RV):OpC.stepK call lp ⟨d,.mks x0 x1 x2 x3 x4,g⟩ s k=(OpC.step call ⟨d,.mks x0 x1 x2 x3 x4,g⟩ s).bind k:=(rfl)
theorem k_slc (d:Option Nat) {x0} {x1} {x2} {x3} {x4} {x5} (g:Option (Nat × Bool)) (k:MSt->Option RV):OpC.stepK call lp ⟨d,.slc x0 x1 x2 x3 x4 x5,g⟩ s k=(OpC.step call ⟨d,.slc x0 x1 x2 x3 x4 x5,g⟩ s).bind k:=(rfl)
theorem k_aslc (d:Option Nat) {x0} {x1} {x2} {x3} {x4} {x5} (g:Option (Nat × Bool)) (k:MSt->Option RV):OpC.stepK call lp ⟨d,.aslc x0 x1 x2 x3 x4 x5,g⟩ s k=(OpC.step call ⟨d,.aslc x0 x1 x2 x3 x4 x5,g⟩ s).bind k:=(rfl)
theorem k_faddr (d:Option Nat) {x0} {x1} (g:Option (Nat × Bool)) (k:MSt->Option RV):OpC.stepK call lp ⟨d,.faddr x0 x1,g⟩ s k=(OpC.step call ⟨d,.faddr x0 x1,g⟩ s).bind k:=(rfl)
theorem k_field (d:Option Nat) {x0} {x1} {x2} {x3} (g:Option (Nat × Bool)) (k:MSt->Option RV):OpC.stepK call lp ⟨d,.field x0 x1 x2 x3,g⟩ s k=(OpC.step call ⟨d,.field x0 x1 x2 x3,g⟩ s).bind k:=(rfl)
theorem k_iaddr (d:Option Nat) {x0} {x1} {x2} (g:Option (Nat × Bool)) (k:MSt->Option RV):OpC.stepK call lp ⟨d,.iaddr x0 x1 x2,g⟩ s k=(OpC.step call ⟨d,.iaddr x0 x1 x2,g⟩ s).bind k:=(rfl)
theorem k_aaddr (d:Option Nat) {x0} {x1} {x2} {x3} (g:Option (Nat × Bool)) (k:MSt->Option RV):OpC.stepK call lp ⟨d,.aaddr x0 x1 x2 x3,g⟩ s k=(OpC.step call ⟨d,.aaddr x0 x1 x2 x3,g⟩ s).bind k:=(rfl)
theorem k_index (d:Option Nat) {x0} {x1} (g:Option (Nat × Bool)) (k:MSt->Option RV):OpC.stepK call lp ⟨d,.index x0 x1,g⟩ s k=(OpC.step call ⟨d,.index x0 x1,g⟩ s).bind k:=(rfl)
theorem k_ext (d:Option Nat) {x0} {x1} (g:Option (Nat × Bool)) (k:MSt->Option RV):OpC.stepK call lp ⟨d,.ext x0 x1,g⟩ s k=(OpC.step call ⟨d,.ext x0 x1,g⟩ s).bind k:=(rfl)
theorem k_call (d:Option Nat) {x0} {x1} {x2} (g:Option (Nat × Bool)) (k:MSt->Option RV):OpC.stepK call lp ⟨d,.call x0 x1 x2,g⟩ s k=(OpC.step call ⟨d,.call x0 x1 x2,g⟩ s).bind k:=(rfl)
theorem k_callf (d:Option Nat) {x0} {x1} {x2} {x3} (g:Option (Nat × Bool)) (k:MSt->Option RV):OpC.stepK call lp ⟨d,.callf x0 x1 x2 x3,g⟩ s k=(OpC.step call ⟨d,.callf x0 x1 x2 x3,g⟩ s).bind k:=(rfl)
theorem k_mkf (d:Option Nat) {x0} {x1} (g:Option (Nat × Bool)) (k:MSt->Option RV):OpC.stepK call lp ⟨d,.mkf x0 x1,g⟩ s k=(OpC.step call ⟨d,.mkf x0 x1,g⟩ s).bind k:=(rfl)
theorem k_callv (d:Option Nat) {x0} {x1} {x2} (g:Option (Nat × Bool)) (k:MSt->Option RV):OpC.stepK call lp ⟨d,.callv x0 x1 x2,g⟩ s k=(OpC.step call ⟨d,.callv x0 x1 x2,g⟩ s).bind k:=(rfl)
theorem k_callr (d:Option Nat) {x0} {x1} {x2} (g:Option (Nat × Bool)) (k:MSt->Option RV):OpC.stepK call lp ⟨d,.callr x0 x1 x2,g⟩ s k=(OpC.step call ⟨d,.callr x0 x1 x2,g⟩ s).bind k:=(rfl)
theorem k_len (d:Option Nat) {x0} {x1} (g:Option (Nat × Bool)) (k:MSt->Option RV):OpC.stepK call lp ⟨d,.len x0 x1,g⟩ s k=(OpC.step call ⟨d,.len x0 x1,g⟩ s).bind k:=(rfl)
theorem k_app (d:Option Nat) {x0} {x1} {x2} {x3} {x4} {x5} (g:Option (Nat × Bool)) (k:MSt->Option RV):OpC.stepK call lp ⟨d,.app x0 x1 x2 x3 x4 x5,g⟩ s k=(OpC.step call ⟨d,.app x0 x1 x2 x3 x4 x5,g⟩ s).bind k:=(rfl)
theorem k_appf (d:Option Nat) {x0} {x1} {x2} {x3} {x4} {x5} (g:Option (Nat × Bool)) (k:MSt->Option RV):OpC.stepK call lp ⟨d,.appf x0 x1 x2 x3 x4 x5,g⟩ s k=(OpC.step call ⟨d,.appf x0 x1 x2 x3 x4 x5,g⟩ s).bind k:=(rfl)
theorem k_appm (d:Option Nat) {x0} {x1} {x2} {x3} {x4} {x5} (g:Option (Nat × Bool)) (k:MSt->Option RV):OpC.stepK call lp ⟨d,.appm x0 x1 x2 x3 x4 x5,g⟩ s k=(OpC.step call ⟨d,.appm x0 x1 x2 x3 x4 x5,g⟩ s).bind k:=(rfl)
theorem k_appn (d:Option Nat) {x0} {x1} {x2} {x3} {x4} {x5} (g:Option (Nat × Bool)) (k:MSt->Option RV):OpC.stepK call lp ⟨d,.appn x0 x1 x2 x3 x4 x5,g⟩ s k=(OpC.step call ⟨d,.appn x0 x1 x2 x3 x4 x5,g⟩ s).bind k:=(rfl)
theorem k_mkm (d:Option Nat) (g:Option (Nat × Bool)) (k:MSt->Option RV):OpC.stepK call lp ⟨d,.mkm,g⟩ s k=(OpC.step call ⟨d,.mkm,g⟩ s).bind k:=(rfl)
theorem k_bad (d:Option Nat) (g:Option (Nat × Bool)) (k:MSt->Option RV):OpC.stepK call lp ⟨d,.bad,g⟩ s k=(OpC.step call ⟨d,.bad,g⟩ s).bind k:=(rfl)
theorem k_mkb (d:Option Nat) {T e:TypeId} (g:Option (Nat × Bool)) (k:MSt->Option RV):OpC.stepK call lp ⟨d,.mkb T e,g⟩ s k=(OpC.step call ⟨d,.mkb T e,g⟩ s).bind k:=(rfl)
theorem k_mget (d:Option Nat) {x0} {x1} {x2} {x3} {x4} (g:Option (Nat × Bool)) (k:MSt->Option RV):OpC.stepK call lp ⟨d,.mget x0 x1 x2 x3 x4,g⟩ s k=(OpC.step call ⟨d,.mget x0 x1 x2 x3 x4,g⟩ s).bind k:=(rfl)
theorem k_mset (d:Option Nat) {x0} {x1} {x2} {x3} (g:Option (Nat × Bool)) (k:MSt->Option RV):OpC.stepK call lp ⟨d,.mset x0 x1 x2 x3,g⟩ s k=(OpC.step call ⟨d,.mset x0 x1 x2 x3,g⟩ s).bind k:=(rfl)
theorem k_mlen (d:Option Nat) {x0} (g:Option (Nat × Bool)) (k:MSt->Option RV):OpC.stepK call lp ⟨d,.mlen x0,g⟩ s k=(OpC.step call ⟨d,.mlen x0,g⟩ s).bind k:=(rfl)
theorem k_nilchk (d:Option Nat) {x0} (g:Option (Nat × Bool)) (k:MSt->Option RV):OpC.stepK call lp ⟨d,.nilchk x0,g⟩ s k=(OpC.step call ⟨d,.nilchk x0,g⟩ s).bind k:=(rfl)
theorem e_none (d:Option Nat) (op:K) (g:Option (Nat × Bool)) (x:Slot):OpC.eff ⟨d,op,g⟩ s (x,.none)=some (s.put d x):=(rfl)
theorem e_set (d:Option Nat) (op:K) (g:Option (Nat × Bool)) (x:Slot) (t n:Nat) (r:List Slot):OpC.eff ⟨d,op,g⟩ s (x,.set t n r)=some ((s.setRow t n r).put d x):=(rfl)
theorem e_newp (d:Nat) (op:K) (g:Option (Nat × Bool)) (t n o:Nat) (a:An) (r:List Slot):OpC.eff ⟨some d,op,g⟩ s (⟨.ptr t n o,a⟩,.new r)=some ((s.setRow d s.next r).put (some d) ⟨.ptr d s.next 0,.no⟩):=(rfl)
theorem e_newr (d:Nat) (op:K) (g:Option (Nat × Bool)) (t n z o l p:Nat) (a:An) (r:List Slot):OpC.eff ⟨some d,op,g⟩ s (⟨.ref t n z o l p,a⟩,.new r)=some ((s.setRow d s.next r).put (some d) ⟨.ref d s.next z o l p,.no⟩):=(rfl)
theorem e_app (d:Nat) (op:K) (g:Option (Nat × Bool)) (v:AV) (a:An) (kk j:Nat) (e:TypeId):OpC.eff ⟨some d,op,g⟩ s (⟨v,.own kk e⟩,.app a j)=some (((s.stripA a).strip d).put (some d) ⟨v,.own d e⟩):=(rfl)
theorem e_obj (d:Option Nat) (op:K) (g:Option (Nat × Bool)) (x:Slot) (t n:Nat) (S:AV):OpC.eff ⟨d,op,g⟩ s (x,.obj t n S)=some ((s.setObj t n S).put d x):=(rfl)
theorem e_mk (d:Nat) (op:K) (g:Option (Nat × Bool)) (x:Slot) (S:AV):OpC.eff ⟨some d,op,g⟩ s (x,.mk S)=some ((s.setObj d s.next S).put (some d) ⟨x.v.named d s.next,.no⟩):=(rfl)
theorem e_rn (d:Nat) (op:K) (g:Option (Nat × Bool)) (t n z o l p:Nat) (a:An) (q:Option (Nat × Nat)) (r:List Slot):OpC.eff ⟨some d,op,g⟩ s (⟨.ref t n z o l p,a⟩,.rn q r)=some (((s.killO q).setRow d s.next r).put (some d) ⟨.ref d s.next z o l p,.no⟩):=(rfl)
theorem e_ob2 (d:Nat) (op:K) (g:Option (Nat × Bool)) (t n z o l p:Nat) (a:An) (t' n':Nat) (S:AV) (r:List Slot):OpC.eff ⟨some d,op,g⟩ s (⟨.ref t n z o l p,a⟩,.ob2 t' n' S r)=some (((s.setObj t' n' S).setRow d s.next r).put (some d) ⟨.ref d s.next z o l p,.no⟩):=(rfl)
theorem run_cg {b:C} {s s':MSt} {k:Ex->MSt->Option RV} (h:s=s'):C.run call lp b s k=C.run call lp b s' k:=by rw [h]
theorem ops_cg {l:List OpC} {s s':MSt} {k:MSt->Option RV} (h:s=s'):q3I call lp l s k=q3I call lp l s' k:=by rw [h]
theorem stepK_cg {o:OpC} {s s':MSt} {k:MSt->Option RV} (h:s=s'):OpC.stepK call lp o s k=OpC.stepK call lp o s' k:=by rw [h]
theorem bind_cg {α β:Type} {a a':Option α} {f:α->Option β} (h:a=a'):a.bind f=a'.bind f:=by rw [h]
theorem condC_cg {v v':AV} {a b:Option RV} (h:v=v'):condC v a b=condC v' a b:=by rw [h]
theorem guardC_cg {v v':AV} {w:Bool} {a b:Option MSt} (h:v=v'):guardC v w a b=guardC v' w a b:=by rw [h]
theorem guardK_cg {v v':AV} {w:Bool} {a b:Option RV} (h:v=v'):guardK v w a b=guardK v' w a b:=by rw [h]
theorem fnC_cg {v v':AV} {g:Nat->List AV->Option RV} (h:v=v'):fnC v g=fnC v' g:=by rw [h]
theorem evL_cg {T:Nat->Option FnC} {ext:q1l} {b:C} {s s':MSt} {k:Ex->MSt->Option RV} (h:s=s'):evL T ext b s k=evL T ext b s' k:=by rw [h]
theorem evH_cg {T:Nat->Option FnC} {ext:q1l} {f:Nat} {xs xs':List Slot} {s s':MSt} {k:Slot->MSt->Option RV} (hx:xs=xs') (h:s=s'):evH T ext f xs s k=evH T ext f xs' s' k:=by rw [h,hx]
end
attribute [congr] run_cg ops_cg stepK_cg bind_cg condC_cg guardC_cg guardK_cg fnC_cg evL_cg evH_cg
attribute [simp] k_bad k_mkb k_mv k_pick k_alloc k_box k_build k_bsl k_bslr k_load k_store k_bin k_mm k_eqa k_eqn k_un k_conv k_rstr k_bstr k_mks k_slc k_aslc k_faddr k_field k_iaddr k_aaddr k_index k_ext k_call k_callf k_mkf k_callv k_callr k_callh k_len k_app k_appf k_appm k_appn k_mkm k_mget k_mset k_mlen k_nilchk guardK_bool guardK_tup fnC_fn hg_none hg_some h_step opK_at callK_at undE_at rowE_at drop0M_at slotE_at q1u q6Q restE_at m_initH m_enter m_leave m_initR m_drop0
attribute [simp] q2V q0t setO_at stripE_at stripM_at Slot.strip_v Slot.strip_a Slot.strip_mk argE_at noM_at objE_at q0r q0x Slot.kill_v Slot.kill_a Slot.kill_mk
attribute [simp] e_ob2 frz_free frz_map AV.frz AV.frz0 kill_free kill_map AV.kill AV.kill0 m_kill m_kill0 e_rn m_init m_put m_put0 m_row m_obj m_strip m_stripA m_stripX An.strip e_none e_set e_newp e_newr e_app e_obj e_mk K.run Opd.get q0d AV.leaf AV.whole AV.cells binC mmC eqC natOf q0C q4k Cl.okPtr Cl.okMem fillC fin finV objAt q5f resC AV.free AV.free0 AV.back AV.backN AV.isObj AV.named pack q2k q4F q2c lendP AV.capOk lend q5b endC AV.elems Opd.an q43 elsOk_nil q8q elsOk_append q1T elsOk_take elsOk_drop take_map_len
attribute [simp ↓] bind_some2 seqK_nrm seqK_exit seqK_ret regK_at blkK_nrm blkK_exit blkK_ret condC_true condC_false guardC_bool guardC_tup r_skip r_seq r_reg r_cond r_block r_loop r_exit r_ret a_nrm a_exit a_ret o_nil o_cons s_plain s_guard
end
def q02:q1l:=fun f args S =>
 if f=140 then (match args,S with
  | [.ptr 0 0 0,.str s],some (.tup [.undef,.undef,.int .i64 168,.int .i64 5,.str a])=>if a.size + s.size<=140737488355328 then some (.tup [.int .i64 s.size,.undef],some (bldAV 168 5 (a++s))) else none
  | _,_=>none)
 else if f=142 then (match args,S with
  | [.ptr 0 0 0],some (.tup [.undef,.undef,.int .i64 168,.int .i64 5,.str a])=>some (.str a,some (bldAV 168 5 a))
  | _,_=>none)
 else none
theorem bldExt_ok {O:Objs} (f:FuncId) (args:List AV) (S:Option AV) (r:RV) (h:q02 f args S=some r):q1C Tryz.prog O f args S r:=by
 unfold q02 at h
 split at h
 ·rename_i e
  subst e
  split at h
  ·rename_i s a
   split at h
   ·rename_i hl
    injection h with h
    subst h
    exact bld_write a s hl
   ·cases h
  ·cases h
 ·split at h
  ·rename_i e
   subst e
   split at h
   ·rename_i a
    injection h with h
    subst h
    exact bld_string a
   ·cases h
  ·cases h
structure Raw where
 id:Int
 data:ByteArray
 deriving DecidableEq
inductive Vl where
 | mk (kind:Int) (b:Bool) (i:Int) (s:ByteArray) (id:Int) (kn:Bool) (keys:List Vl) (xn:Bool) (items:List Vl) (rn:Bool) (rest:List Raw)
namespace Vl
def kind:Vl->Int | .mk k _ _ _ _ _ _ _ _ _ _=>k
def b:Vl->Bool | .mk _ b _ _ _ _ _ _ _ _ _=>b
def i:Vl->Int | .mk _ _ i _ _ _ _ _ _ _ _=>i
def s:Vl->ByteArray | .mk _ _ _ s _ _ _ _ _ _ _=>s
def id:Vl->Int | .mk _ _ _ _ d _ _ _ _ _ _=>d
def kn:Vl->Bool | .mk _ _ _ _ _ k _ _ _ _ _=>k
def keys:Vl->List Vl | .mk _ _ _ _ _ _ l _ _ _ _=>l
def xn:Vl->Bool | .mk _ _ _ _ _ _ _ x _ _ _=>x
def items:Vl->List Vl | .mk _ _ _ _ _ _ _ _ l _ _=>l
def rn:Vl->Bool | .mk _ _ _ _ _ _ _ _ _ r _=>r
def rest:Vl->List Raw | .mk _ _ _ _ _ _ _ _ _ _ l=>l
theorem keys_lt (v x:Vl) (h:x∈v.keys):SizeOf.sizeOf x<SizeOf.sizeOf v:=by
 cases v
 have:=List.sizeOf_lt_of_mem h
 simp only [keys] at this
 simp only [mk.sizeOf_spec]
 omega
theorem items_lt (v x:Vl) (h:x∈v.items):SizeOf.sizeOf x<SizeOf.sizeOf v:=by
 cases v
 have:=List.sizeOf_lt_of_mem h
 simp only [items] at this
 simp only [mk.sizeOf_spec]
 omega
end Vl
def rawC (r:Raw):List AV:=[.int .i64 r.id,.str r.data]
mutual
def valC:Vl->List AV
 | .mk k b i s d kn ks xn xs rn rs=>[.int .i64 k,.bool b,.int .i64 i,.str s,.int .i64 d,.sl kn (valsC ks),.sl xn (valsC xs),.sl rn (rs.map rawC)]
def valsC:List Vl->List (List AV)
 | []=>[]
 | v :: r=>valC v :: valsC r
end
theorem valsC_map:∀ l:List Vl,valsC l=l.map valC
 | []=>by rw [valsC]; rfl
 | v :: r=>by rw [valsC,valsC_map r]; rfl
theorem q03 (v:Vl):valC v=[.int .i64 v.kind,.bool v.b,.int .i64 v.i,.str v.s,.int .i64 v.id,.sl v.kn (v.keys.map valC),.sl v.xn (v.items.map valC),.sl v.rn (v.rest.map rawC)]:=by
 cases v
 rw [valC,valsC_map,valsC_map]
 rfl
mutual
/-- lengths that occur -/
def Vl.ok:Vl->Prop
 | .mk _ _ _ s _ _ ks _ xs _ rs=>ks.length<=9223372036854775807/\xs.length<=9223372036854775807/\rs.length<=9223372036854775807/\s.size<=9223372036854775807/\Vl.oks ks/\Vl.oks xs
def Vl.oks:List Vl->Prop
 | []=>True
 | v :: r=>Vl.ok v/\Vl.oks r
end
theorem Vl.oks_iff:∀ l:List Vl,Vl.oks l ↔ ∀ v∈l,v.ok
 | []=>by simp [Vl.oks]
 | v :: r=>by simp [Vl.oks,Vl.oks_iff r]
theorem Vl.ok_def (v:Vl):v.ok ↔ v.keys.length<=9223372036854775807/\v.items.length<=9223372036854775807/\v.rest.length<=9223372036854775807/\v.s.size<=9223372036854775807/\(∀ x∈v.keys,x.ok)/\∀ x∈v.items,x.ok:=by
 cases v
 rw [Vl.ok,Vl.oks_iff,Vl.oks_iff]
 rfl
def Vl.zero:Vl:=.mk 0 false 0 ⟨#[]⟩ 0 true [] true [] true []
structure Sym where
 id:Int
 name:ByteArray
 deriving DecidableEq
def symC (x:Sym):List AV:=[.int .i64 x.id,.str x.name]
structure Mem where
 id:Int
 name:ByteArray
 ty:Int
 crit:Bool
 has:Bool
 dflt:Vl
def memC (m:Mem):List AV:=[.int .i64 m.id,.str m.name,.int .i64 m.ty,.bool m.crit,.bool m.has,.int .i64 m.dflt.kind,.bool m.dflt.b,.int .i64 m.dflt.i,.str m.dflt.s,.int .i64 m.dflt.id,.sl m.dflt.kn (m.dflt.keys.map valC),.sl m.dflt.xn (m.dflt.items.map valC),.sl m.dflt.rn (m.dflt.rest.map rawC)]
structure Typ where
 kind:Int
 name:ByteArray
 low:Int
 high:Int
 max:Int
 sn:Bool
 syms:List Sym
 mn:Bool
 mems:List Mem
 key:Int
 elem:Int
 opn:Bool
def typC (t:Typ):List AV:=[.int .i64 t.kind,.str t.name,.int .i64 t.low,.int .i64 t.high,.int .i64 t.max,.sl t.sn (t.syms.map symC),.sl t.mn (t.mems.map memC),.int .i64 t.key,.int .i64 t.elem,.bool t.opn]
structure Sch where
 nl:Bool
 types:List Typ
def schC (s:Sch):List AV:=[.sl s.nl (s.types.map typC)]
def Mem.ok (m:Mem):Prop:=m.dflt.ok/\m.name.size<=9223372036854775807
def Typ.ok (t:Typ):Prop:=t.syms.length<=9223372036854775807/\t.mems.length<=9223372036854775807/\∀ m∈t.mems,m.ok
theorem q0W {i:Nat} (h:i<9223372036854775807):IntKind.i64.wrap ((i:Int) + 1)=((i + 1:Nat):Int):=by
 rw [IntWalk.i64_in _ (by omega)]; rfl
theorem els_sym (l:List Sym):q18 2 (l.map symC)=true:=q1T _ _ _ fun _=>rfl
theorem q6Y (l:List Mem):q18 13 (l.map memC)=true:=q1T _ _ _ fun _=>rfl
theorem q00 {f:Nat} {c:FnC} {args:List AV} {r:RV} (hT:allT f=some c) (hl:args.length=c.np) (h:c.code.run (evC allT q02) (evK allT q02) (MSt.init args none) (fin c none)=some r) (hm:q69 args=false:=by rfl):evC allT q02 f args none=some r:=evC_intro c hT hl h hm
abbrev evA (f:Nat) (args:List AV) (v:AV):Prop:=evC allT q02 f args none=some (v,none)
def isLet (x:Int):Bool:=decide (x=95)||(decide (97<=x)&&decide (x<=122))||(decide (65<=x)&&decide (x<=90))
def isDig (x:Int):Bool:=decide (48<=x)&&decide (x<=57)
def q34 (s:ByteArray):Nat->Nat->Bool
 | 0,_=>true
 | n + 1,i=>(match s[i]? with | some u=>isLet u.toNat||isDig u.toNat | none=>false)&&q34 s n (i + 1)
def q2X (s:ByteArray):Bool:=decide (s.size≠0)&&decide (s.size<=24)&&(match s[0]? with | some u=>isLet u.toNat | none=>false)&&q34 s s.size 0
theorem letter_ev (x:Int):evA 101 [.int .u8 x] (.bool (isLet x)):=by
 refine q00 (c:=q39) rfl rfl ?_
 unfold isLet
 by_cases h1:x=95 <;> by_cases h2:97<=x <;> by_cases h3:65<=x <;> by_cases h4:x<=122 <;> by_cases h5:x<=90 <;> simp [q39,-Option.bind_some,anN,List.range_succ,h1,h2,h3,h4,h5]
theorem digit_ev (x:Int):evA 102 [.int .u8 x] (.bool (isDig x)):=by
 refine q00 (c:=q3y) rfl rfl ?_
 unfold isDig
 by_cases h1:48<=x <;> simp [q3y,-Option.bind_some,anN,List.range_succ,h1]
theorem rletter_ev (x:Int):evA 91 [.int .u8 x] (.bool (isLet x)):=by
 refine q00 (c:=q3U) rfl rfl ?_
 unfold isLet
 by_cases h1:x=95 <;> by_cases h2:97<=x <;> by_cases h3:65<=x <;> by_cases h4:x<=122 <;> by_cases h5:x<=90 <;> simp [q3U,-Option.bind_some,anN,List.range_succ,h1,h2,h3,h4,h5]
theorem rdigit_ev (x:Int):evA 92 [.int .u8 x] (.bool (isDig x)):=by
 refine q00 (c:=q4p) rfl rfl ?_
 unfold isDig
 by_cases h1:48<=x <;> simp [q4p,-Option.bind_some,anN,List.range_succ,h1]
theorem q7w {s:ByteArray} {i:Nat} (h:i<s.size):∃ u,s[i]?=some u:=⟨s[i],getElem?_pos s i h⟩
theorem name_lp (s:ByteArray) (hs:s.size<=24) (r:RV) (k:Ex->MSt->Option RV) (hk:∀ s',q34 s s.size 0=true->k (.exit 0) s'=some r) (hr:∀ s':MSt,q34 s s.size 0=false->(s'.env 2).v=.bool false->k .ret s'=some r) :
  ∀ (n i:Nat),i + n=s.size->q34 s n i=q34 s s.size 0->∀ s':MSt,(s'.env 0).v=.str s->(s'.env 18).v=.int .i64 s.size->(s'.env 19).v=.int .i64 i->evL allT q02 q1G s' k=some r:=by
 intro n
 induction n with
 | zero =>
  intro i hi hf s' e0 e18 e19
  have hlt:¬ ((i:Int)<s.size):=by omega
  refine q04 ?_
  simp [q1G,-Option.bind_some,anN,List.range_succ,e0,e18,e19,hlt]
  exact hk _ (by rw [<- hf]; rfl)
 | succ n ih =>
  intro i hi hf s' e0 e18 e19
  have hlt:(i:Int)<s.size:=by omega
  obtain ⟨u,hu⟩:=q7w (s:=s) (i:=i) (by omega)
  have hw:=q0W (i:=i) (by omega)
  have h1:=letter_ev u.toNat
  have h2:=digit_ev u.toNat
  simp only [q34,hu] at hf
  refine q04 ?_
  cases b1:isLet u.toNat with
  | true =>
   simp only [b1] at h1 hf
   simp [q1G,-Option.bind_some,anN,List.range_succ,e0,e18,e19,hlt,hu,h1,hw]
   refine ih (i + 1) (by omega) (by simpa using hf) _ ?_ ?_ ?_ <;> simp [*]
  | false =>
   cases b2:isDig u.toNat with
   | true =>
    simp only [b1,b2] at h1 h2 hf
    simp [q1G,-Option.bind_some,anN,List.range_succ,e0,e18,e19,hlt,hu,h1,h2,hw]
    refine ih (i + 1) (by omega) (by simpa using hf) _ ?_ ?_ ?_ <;> simp [*]
   | false =>
    simp only [b1,b2] at h1 h2 hf
    simp [q1G,-Option.bind_some,anN,List.range_succ,e0,e18,e19,hlt,hu,h1,h2,hw]
    refine hr _ (by simpa using hf.symm) ?_
    simp
theorem name_ev (s:ByteArray):evA 78 [.str s] (.bool (q2X s)):=by
 refine q00 (c:=q1Y) rfl rfl ?_
 unfold q2X
 by_cases h0:s=⟨#[]⟩
 ·subst h0
  simp [q1Y,-Option.bind_some,anN,List.range_succ]
  exact fun h=>absurd rfl h
 ·have hz:s.size≠0:=fun h=>h0 (by
   obtain ⟨d⟩:=s
   have h:d.size=0:=h
   rw [Array.eq_empty_of_size_eq_zero h])
  by_cases h1:s.size<=24
  ·have h1':¬ ((24:Int)<s.size):=by omega
   obtain ⟨u,hu⟩:=q7w (s:=s) (i:=0) (by omega)
   have h2:=letter_ev u.toNat
   cases b1:isLet u.toNat with
   | false =>
    simp only [b1] at h2
    simp [q1Y,-Option.bind_some,anN,List.range_succ,h0,h1',hu,h2,b1]
   | true =>
    simp only [b1] at h2
    simp [q1Y,-Option.bind_some,anN,List.range_succ,h0,h1',hu,h2,b1,hz,h1]
    refine name_lp s h1 _ _ (fun s' hf=>?main) (fun s' hf h2=>?main2) s.size 0 (by simp) rfl _ ?_ ?_ ?_
    case main=>simp [-Option.bind_some,anN,List.range_succ,hf]
    case main2=>simp [-Option.bind_some,anN,List.range_succ,hf,h2]
    all_goals simp
  ·have h1':(24:Int)<s.size:=by omega
   simp [q1Y,-Option.bind_some,anN,List.range_succ,h0,h1',h1]
theorem rname_lp (s:ByteArray) (hs:s.size<=24) (r:RV) (k:Ex->MSt->Option RV) (hk:∀ s',q34 s s.size 0=true->k (.exit 0) s'=some r) (hr:∀ s':MSt,q34 s s.size 0=false->(s'.env 2).v=.bool false->k .ret s'=some r) :
  ∀ (n i:Nat),i + n=s.size->q34 s n i=q34 s s.size 0->∀ s':MSt,(s'.env 0).v=.str s->(s'.env 3).v=.int .i64 i->evL allT q02 q1H s' k=some r:=by
 intro n
 induction n with
 | zero =>
  intro i hi hf s' e0 e3
  have hlt:¬ ((i:Int)<s.size):=by omega
  refine q04 ?_
  simp [q1H,-Option.bind_some,anN,List.range_succ,e0,e3,hlt]
  exact hk _ (by rw [<- hf]; rfl)
 | succ n ih =>
  intro i hi hf s' e0 e3
  have hlt:(i:Int)<s.size:=by omega
  obtain ⟨u,hu⟩:=q7w (s:=s) (i:=i) (by omega)
  have hw:=q0W (i:=i) (by omega)
  have h1:=rletter_ev u.toNat
  have h2:=rdigit_ev u.toNat
  simp only [q34,hu] at hf
  refine q04 ?_
  cases b1:isLet u.toNat with
  | true =>
   simp only [b1] at h1 hf
   simp [q1H,-Option.bind_some,anN,List.range_succ,e0,e3,hlt,hu,h1,hw]
   refine ih (i + 1) (by omega) (by simpa using hf) _ ?_ ?_ <;> simp [*]
  | false =>
   cases b2:isDig u.toNat with
   | true =>
    simp only [b1,b2] at h1 h2 hf
    simp [q1H,-Option.bind_some,anN,List.range_succ,e0,e3,hlt,hu,h1,h2,hw]
    refine ih (i + 1) (by omega) (by simpa using hf) _ ?_ ?_ <;> simp [*]
   | false =>
    simp only [b1,b2] at h1 h2 hf
    simp [q1H,-Option.bind_some,anN,List.range_succ,e0,e3,hlt,hu,h1,h2,hw]
    refine hr _ (by simpa using hf.symm) ?_
    simp
theorem rname_ev (s:ByteArray):evA 74 [.str s] (.bool (q2X s)):=by
 refine q00 (c:=q1Z) rfl rfl ?_
 unfold q2X
 by_cases h0:s=⟨#[]⟩
 ·subst h0
  simp [q1Z,-Option.bind_some,anN,List.range_succ]
  exact fun h=>absurd rfl h
 ·have hz:s.size≠0:=fun h=>h0 (by
   obtain ⟨d⟩:=s
   have h:d.size=0:=h
   rw [Array.eq_empty_of_size_eq_zero h])
  by_cases h1:s.size<=24
  ·have h1':¬ ((24:Int)<s.size):=by omega
   obtain ⟨u,hu⟩:=q7w (s:=s) (i:=0) (by omega)
   have h2:=rletter_ev u.toNat
   cases b1:isLet u.toNat with
   | false =>
    simp only [b1] at h2
    simp [q1Z,-Option.bind_some,anN,List.range_succ,h0,h1',hu,h2,b1]
   | true =>
    simp only [b1] at h2
    simp [q1Z,-Option.bind_some,anN,List.range_succ,h0,h1',hu,h2,b1,hz,h1]
    refine rname_lp s h1 _ _ (fun s' hf=>?main) (fun s' hf h2=>?main2) s.size 0 (by simp) rfl _ ?_ ?_
    case main=>simp [-Option.bind_some,anN,List.range_succ,hf]
    case main2=>simp [-Option.bind_some,anN,List.range_succ,hf,h2]
    all_goals simp
  ·have h1':(24:Int)<s.size:=by omega
   simp [q1Z,-Option.bind_some,anN,List.range_succ,h0,h1',h1]
mutual
def Vl.same:Vl->Vl->Bool
 | .mk k b i s d _ ks _ xs _ rs,.mk k' b' i' s' d' _ ks' _ xs' _ rs'=>decide (k=k')&&(b == b')&&decide (i=i')&&decide (s=s')&&decide (d=d')&&decide (rs=rs')&&Vl.sames ks ks'&&Vl.sames xs xs'
def Vl.sames:List Vl->List Vl->Bool
 | [],[]=>true
 | v :: r,v' :: r'=>Vl.same v v'&&Vl.sames r r'
 | [],_ :: _=>false
 | _ :: _,[]=>false
end
theorem Vl.same_def (v w:Vl):v.same w=(decide (v.kind=w.kind)&&(v.b == w.b)&&decide (v.i=w.i)&&decide (v.s=w.s)&&decide (v.id=w.id)&&decide (v.rest=w.rest)&&Vl.sames v.keys w.keys&&Vl.sames v.items w.items):=by
 cases v; cases w; rw [Vl.same]; rfl
theorem Vl.sames_len:∀ l m:List Vl,l.length≠m.length->Vl.sames l m=false
 | [],[],h=>absurd rfl h
 | [],_ :: _,_=>by rw [Vl.sames]
 | _ :: _,[],_=>by rw [Vl.sames]
 | v :: r,w :: r',h=>by rw [Vl.sames,Vl.sames_len r r' (by simpa using h)]; simp
theorem raws_lp (rs qs:List Raw) (hl:rs.length<=9223372036854775807) (he:rs.length=qs.length) (b1 b2:Bool) (r:RV) (k:Ex->MSt->Option RV) (hk:∀ s',rs=qs->k (.exit 0) s'=some r) (hr:∀ s':MSt,rs≠qs->(s'.env 4).v=.bool false->k .ret s'=some r) :
  ∀ (n i:Nat),i + n=rs.length->(rs.drop i=qs.drop i ↔ rs=qs)->∀ s':MSt,(s'.env 0).v=.sl b1 (rs.map rawC)->(s'.env 1).v=.sl b2 (qs.map rawC)->(s'.env 12).v=.int .i64 rs.length->(s'.env 13).v=.int .i64 i->evL allT q02 q0I s' k=some r:=by
 intro n
 induction n with
 | zero =>
  intro i hi hf s' e0 e1 e12 e13
  have hlt:¬ ((i:Int)<rs.length):=by omega
  refine q04 ?_
  simp [q0I,-Option.bind_some,anN,List.range_succ,e12,e13,hlt]
  exact hk _ (hf.1 (by rw [List.drop_eq_nil_of_le (by omega),List.drop_eq_nil_of_le (by omega)]))
 | succ n ih =>
  intro i hi hf s' e0 e1 e12 e13
  have hlt:(i:Int)<rs.length:=by omega
  have hi1:i<rs.length:=by omega
  have hi2:i<qs.length:=by omega
  have hw:=q0W (i:=i) (by omega)
  have g1:(rs.map rawC)[i]?=some (rawC rs[i]):=by simp [hi1]
  have g2:(qs.map rawC)[i]?=some (rawC qs[i]):=by simp [hi2]
  rw [List.drop_eq_getElem_cons hi1,List.drop_eq_getElem_cons hi2] at hf
  simp only [List.cons.injEq] at hf
  generalize rs[i]=x at *
  generalize qs[i]=y at *
  obtain ⟨xi,xd⟩:=x
  obtain ⟨yi,yd⟩:=y
  simp only [rawC] at g1 g2
  simp only [Raw.mk.injEq] at hf
  refine q04 ?_
  by_cases h1:xi=yi
  ·by_cases h2:xd=yd
   ·subst h1 h2
    simp [q0I,-Option.bind_some,anN,List.range_succ,e0,e1,e12,e13,hlt,g1,g2,eqC,hw]
    refine ih (i + 1) (by omega) (by simpa using hf) _ ?_ ?_ ?_ ?_ <;> simp [*]
   ·subst h1
    simp [q0I,-Option.bind_some,anN,List.range_succ,e0,e1,e12,e13,hlt,g1,g2,eqC,h2]
    exact hr _ (fun h=>h2 (hf.2 h).1.2) (by simp)
  ·simp [q0I,-Option.bind_some,anN,List.range_succ,e0,e1,e12,e13,hlt,g1,g2,eqC,h1]
   exact hr _ (fun h=>h1 (hf.2 h).1.1) (by simp)
theorem raws_ev (rs qs:List Raw) (hl:rs.length<=9223372036854775807) (b1 b2:Bool):evA 121 [.sl b1 (rs.map rawC),.sl b2 (qs.map rawC)] (.bool (decide (rs=qs))):=by
 refine q00 (c:=q1j) rfl rfl ?_
 by_cases he:rs.length=qs.length
 ·have he':(rs.length:Int)=qs.length:=by omega
  simp [q1j,-Option.bind_some,anN,List.range_succ,he]
  refine raws_lp rs qs hl he b1 b2 _ _ (fun s' hf=>?main) (fun s' hf h4=>?main2) rs.length 0 (by simp) (by simp) _ ?_ ?_ ?_ ?_
  case main=>simp [-Option.bind_some,anN,List.range_succ,hf]
  case main2=>simp [-Option.bind_some,anN,List.range_succ,hf,h4]
  all_goals simp [he]
 ·have he':¬ (rs.length:Int)=qs.length:=by omega
  have hne:rs≠qs:=fun h=>he (by rw [h])
  simp [q1j,-Option.bind_some,anN,List.range_succ,he',hne]
theorem eqf_lp (F:Nat) (l m:List Vl) (hl:l.length<=9223372036854775807) (he:l.length=m.length) (hF:∀ x∈l,∀ y∈m,evA F [.agg (valC x),.agg (valC y)] (.bool (x.same y))) (b1 b2:Bool) (r:RV) (k:Ex->MSt->Option RV) (hk:∀ s',Vl.sames l m=true->k (.exit 0) s'=some r) (hr:∀ s':MSt,Vl.sames l m=false->(s'.env 6).v=.bool false->k .ret s'=some r) :
  ∀ (n i:Nat),i + n=l.length->Vl.sames (l.drop i) (m.drop i)=Vl.sames l m->∀ s':MSt,(s'.env 1).v=.sl b2 (m.map valC)->(s'.env 2).v=.fn F []->(s'.env 15).v=.sl b1 (l.map valC)->(s'.env 16).v=.int .i64 l.length->(s'.env 17).v=.int .i64 i->evL allT q02 q0B s' k=some r:=by
 intro n
 induction n with
 | zero =>
  intro i hi hf s' e1 e2 e15 e16 e17
  have hlt:¬ ((i:Int)<l.length):=by omega
  refine q04 ?_
  simp [q0B,-Option.bind_some,anN,List.range_succ,e16,e17,hlt]
  refine hk _ ?_
  rw [<- hf,List.drop_eq_nil_of_le (by omega),List.drop_eq_nil_of_le (by omega),Vl.sames]
 | succ n ih =>
  intro i hi hf s' e1 e2 e15 e16 e17
  have hlt:(i:Int)<l.length:=by omega
  have hi1:i<l.length:=by omega
  have hi2:i<m.length:=by omega
  have hw:=q0W (i:=i) (by omega)
  have g1:(l.map valC)[i]?=some (valC l[i]):=by simp [hi1]
  have g2:(m.map valC)[i]?=some (valC m[i]):=by simp [hi2]
  have hx:=hF l[i] (List.getElem_mem _) m[i] (List.getElem_mem _)
  rw [List.drop_eq_getElem_cons hi1,List.drop_eq_getElem_cons hi2,Vl.sames] at hf
  generalize l[i]=x at *
  generalize m[i]=y at *
  simp only [evA,q03] at g1 g2 hx
  refine q04 ?_
  cases h1:x.same y with
  | true =>
   rw [h1] at hx hf
   simp [q0B,-Option.bind_some,anN,List.range_succ,e1,e2,e15,e16,e17,hlt,g1,g2,q4F,q2c,hx,hw]
   refine ih (i + 1) (by omega) (by simpa using hf) _ ?_ ?_ ?_ ?_ ?_ <;> simp [*]
  | false =>
   rw [h1] at hx hf
   simp [q0B,-Option.bind_some,anN,List.range_succ,e1,e2,e15,e16,e17,hlt,g1,g2,q4F,q2c,hx]
   exact hr _ (by simpa using hf.symm) (by simp)
theorem eqf_ev (F:Nat) (l m:List Vl) (hl:l.length<=9223372036854775807) (hF:∀ x∈l,∀ y∈m,evA F [.agg (valC x),.agg (valC y)] (.bool (x.same y))) (b1 b2:Bool):evA 122 [.sl b1 (l.map valC),.sl b2 (m.map valC),.fn F []] (.bool (Vl.sames l m)):=by
 refine q00 (c:=q0M) rfl rfl ?_
 by_cases he:l.length=m.length
 ·simp [q0M,-Option.bind_some,anN,List.range_succ,he]
  refine eqf_lp F l m hl he hF b1 b2 _ _ (fun s' hf=>?main) (fun s' hf h4=>?main2) l.length 0 (by simp) (by simp) _ ?_ ?_ ?_ ?_ ?_
  case main=>simp [-Option.bind_some,anN,List.range_succ,hf]
  case main2=>simp [-Option.bind_some,anN,List.range_succ,hf,h4]
  all_goals simp [he]
 ·have he':¬ (l.length:Int)=m.length:=by omega
  simp [q0M,-Option.bind_some,anN,List.range_succ,he',Vl.sames_len l m he]
theorem same_ev:∀ (n:Nat) (v w:Vl),SizeOf.sizeOf v<n->v.ok->evA 108 [.agg (valC v),.agg (valC w)] (.bool (v.same w)):=by
 intro n
 induction n with
 | zero=>intro v w h; omega
 | succ n ih =>
  intro v w hn hv
  rw [Vl.ok_def] at hv
  obtain ⟨o1,o2,o3,o4,o5,o6⟩:=hv
  have hr:=raws_ev v.rest w.rest o3 v.rn w.rn
  have hks:=eqf_ev 108 v.keys w.keys o1 (fun x hx y _=>ih x y (by have:=Vl.keys_lt v x hx; omega) (o5 x hx)) v.kn w.kn
  have hxs:=eqf_ev 108 v.items w.items o2 (fun x hx y _=>ih x y (by have:=Vl.items_lt v x hx; omega) (o6 x hx)) v.xn w.xn
  simp only [evA] at hr hks hxs
  refine q00 (c:=q19) rfl rfl ?_
  rw [q03,q03,Vl.same_def]
  by_cases h1:v.kind=w.kind
  ·by_cases h2:v.b=w.b
   ·by_cases h3:v.i=w.i
    ·by_cases h4:v.s=w.s
     ·by_cases h5:v.id=w.id
      ·by_cases h6:v.rest=w.rest
       ·cases h7:Vl.sames v.keys w.keys with
        | true=>rw [h7] at hks; simp [q19,-Option.bind_some,anN,List.range_succ,h1,h2,h3,h4,h5,h6 ▸ hr,h6,q4F,q2c,hks,hxs,h7]
        | false=>rw [h7] at hks; simp [q19,-Option.bind_some,anN,List.range_succ,h1,h2,h3,h4,h5,h6 ▸ hr,h6,q4F,q2c,hks,h7]
       ·simp [q19,-Option.bind_some,anN,List.range_succ,h1,h2,h3,h4,h5,hr,h6]
      ·simp [q19,-Option.bind_some,anN,List.range_succ,h1,h2,h3,h4,h5]
     ·simp [q19,-Option.bind_some,anN,List.range_succ,h1,h2,h3,h4]
    ·simp [q19,-Option.bind_some,anN,List.range_succ,h1,h2,h3]
   ·simp [q19,-Option.bind_some,anN,List.range_succ,h1,h2]
  ·simp [q19,-Option.bind_some,anN,List.range_succ,h1]
abbrev valRow (v:Vl):List Slot:=[⟨.int .i64 v.kind,.no⟩,⟨.bool v.b,.no⟩,⟨.int .i64 v.i,.no⟩,⟨.str v.s,.no⟩,⟨.int .i64 v.id,.no⟩,⟨.sl v.kn (v.keys.map valC),.no⟩,⟨.sl v.xn (v.items.map valC),.no⟩,⟨.sl v.rn (v.rest.map rawC),.no⟩]
theorem rrest_lp (v w:Vl) (hl:v.rest.length<=9223372036854775807) (he:v.rest.length=w.rest.length) (m:Nat) (r:RV) (k:Ex->MSt->Option RV)
  (hk:∀ s':MSt,v.rest=w.rest->(s'.env 2).v=.ptr 2 m 0->(s'.env 3).v=.ptr 3 m 0->s'.mem 2 m=some (valRow v)->s'.mem 3 m=some (valRow w)->k (.exit 0) s'=some r) (hr:∀ s':MSt,v.rest≠w.rest->(s'.env 4).v=.bool false->k .ret s'=some r) :
  ∀ (n i:Nat),i + n=v.rest.length->(v.rest.drop i=w.rest.drop i ↔ v.rest=w.rest)->∀ s':MSt,(s'.env 2).v=.ptr 2 m 0->(s'.env 3).v=.ptr 3 m 0->s'.mem 2 m=some (valRow v)->s'.mem 3 m=some (valRow w)->(s'.env 5).v=.int .i64 i->evL allT q02 q1c s' k=some r:=by
 intro n
 induction n with
 | zero =>
  intro i hi hf s' e2 e3 m2 m3 e5
  have hlt:¬ ((i:Int)<v.rest.length):=by omega
  refine q04 ?_
  simp [q1c,-Option.bind_some,anN,List.range_succ,e2,e3,m2,m3,e5,hlt]
  exact hk _ (hf.1 (by rw [List.drop_eq_nil_of_le (by omega),List.drop_eq_nil_of_le (by omega)])) (by simp [e2]) (by simp [e3]) (by simp [m2]) (by simp [m3])
 | succ n ih =>
  intro i hi hf s' e2 e3 m2 m3 e5
  have hlt:(i:Int)<v.rest.length:=by omega
  have hi1:i<v.rest.length:=by omega
  have hi2:i<w.rest.length:=by omega
  have hw:=q0W (i:=i) (by omega)
  have g1:(v.rest.map rawC)[i]?=some (rawC v.rest[i]):=by simp [hi1]
  have g2:(w.rest.map rawC)[i]?=some (rawC w.rest[i]):=by simp [hi2]
  rw [List.drop_eq_getElem_cons hi1,List.drop_eq_getElem_cons hi2] at hf
  simp only [List.cons.injEq] at hf
  generalize v.rest[i]=x at *
  generalize w.rest[i]=y at *
  obtain ⟨xi,xd⟩:=x
  obtain ⟨yi,yd⟩:=y
  simp only [rawC] at g1 g2
  simp only [Raw.mk.injEq] at hf
  refine q04 ?_
  by_cases h1:xi=yi
  ·by_cases h2:xd=yd
   ·subst h1 h2
    simp [q1c,-Option.bind_some,anN,List.range_succ,e2,e3,m2,m3,e5,hlt,g1,g2,eqC,hw]
    refine ih (i + 1) (by omega) (by simpa using hf) _ ?_ ?_ ?_ ?_ ?_ <;> simp [*]
   ·subst h1
    simp [q1c,-Option.bind_some,anN,List.range_succ,e2,e3,m2,m3,e5,hlt,g1,g2,eqC,h2]
    exact hr _ (fun h=>h2 (hf.2 h).1.2) (by simp)
  ·simp [q1c,-Option.bind_some,anN,List.range_succ,e2,e3,m2,m3,e5,hlt,g1,g2,eqC,h1]
   exact hr _ (fun h=>h1 (hf.2 h).1.1) (by simp)
theorem rsames_lp (l m:List Vl) (hl:l.length<=9223372036854775807) (he:l.length=m.length) (hF:∀ x∈l,∀ y∈m,evA 41 [.agg (valC x),.agg (valC y)] (.bool (x.same y))) (b1 b2:Bool) (r:RV) (k:Ex->MSt->Option RV) (hk:∀ s',Vl.sames l m=true->k (.exit 0) s'=some r) (hr:∀ s':MSt,Vl.sames l m=false->(s'.env 4).v=.bool false->k .ret s'=some r) :
  ∀ (n i:Nat),i + n=l.length->Vl.sames (l.drop i) (m.drop i)=Vl.sames l m->∀ s':MSt,(s'.env 0).v=.sl b1 (l.map valC)->(s'.env 1).v=.sl b2 (m.map valC)->(s'.env 5).v=.int .i64 i->evL allT q02 q1p s' k=some r:=by
 intro n
 induction n with
 | zero =>
  intro i hi hf s' e0 e1 e5
  have hlt:¬ ((i:Int)<l.length):=by omega
  refine q04 ?_
  simp [q1p,-Option.bind_some,anN,List.range_succ,e0,e5,hlt]
  refine hk _ ?_
  rw [<- hf,List.drop_eq_nil_of_le (by omega),List.drop_eq_nil_of_le (by omega),Vl.sames]
 | succ n ih =>
  intro i hi hf s' e0 e1 e5
  have hlt:(i:Int)<l.length:=by omega
  have hi1:i<l.length:=by omega
  have hi2:i<m.length:=by omega
  have hw:=q0W (i:=i) (by omega)
  have g1:(l.map valC)[i]?=some (valC l[i]):=by simp [hi1]
  have g2:(m.map valC)[i]?=some (valC m[i]):=by simp [hi2]
  have hx:=hF l[i] (List.getElem_mem _) m[i] (List.getElem_mem _)
  rw [List.drop_eq_getElem_cons hi1,List.drop_eq_getElem_cons hi2,Vl.sames] at hf
  generalize l[i]=x at *
  generalize m[i]=y at *
  simp only [evA,q03] at g1 g2 hx
  refine q04 ?_
  cases h1:x.same y with
  | true =>
   rw [h1] at hx hf
   simp [q1p,-Option.bind_some,anN,List.range_succ,e0,e1,e5,hlt,g1,g2,q4F,hx,hw]
   refine ih (i + 1) (by omega) (by simpa using hf) _ ?_ ?_ ?_ <;> simp [*]
  | false =>
   rw [h1] at hx hf
   simp [q1p,-Option.bind_some,anN,List.range_succ,e0,e1,e5,hlt,g1,g2,q4F,hx]
   exact hr _ (by simpa using hf.symm) (by simp)
theorem rsames_ev (l m:List Vl) (hl:l.length<=9223372036854775807) (hF:∀ x∈l,∀ y∈m,evA 41 [.agg (valC x),.agg (valC y)] (.bool (x.same y))) (b1 b2:Bool):evA 58 [.sl b1 (l.map valC),.sl b2 (m.map valC)] (.bool (Vl.sames l m)):=by
 refine q00 (c:=q1W) rfl rfl ?_
 by_cases he:l.length=m.length
 ·simp [q1W,-Option.bind_some,anN,List.range_succ,he]
  refine rsames_lp l m hl he hF b1 b2 _ _ (fun s' hf=>?main) (fun s' hf h4=>?main2) l.length 0 (by simp) (by simp) _ ?_ ?_ ?_
  case main=>simp [-Option.bind_some,anN,List.range_succ,hf]
  case main2=>simp [-Option.bind_some,anN,List.range_succ,hf,h4]
  all_goals simp [he]
 ·have he':¬ (l.length:Int)=m.length:=by omega
  simp [q1W,-Option.bind_some,anN,List.range_succ,he',Vl.sames_len l m he]
theorem rsame_ev:∀ (n:Nat) (v w:Vl),SizeOf.sizeOf v<n->v.ok->evA 41 [.agg (valC v),.agg (valC w)] (.bool (v.same w)):=by
 intro n
 induction n with
 | zero=>intro v w h; omega
 | succ n ih =>
  intro v w hn hv
  rw [Vl.ok_def] at hv
  obtain ⟨o1,o2,o3,o4,o5,o6⟩:=hv
  have hks:=rsames_ev v.keys w.keys o1 (fun x hx y _=>ih x y (by have:=Vl.keys_lt v x hx; omega) (o5 x hx)) v.kn w.kn
  have hxs:=rsames_ev v.items w.items o2 (fun x hx y _=>ih x y (by have:=Vl.items_lt v x hx; omega) (o6 x hx)) v.xn w.xn
  simp only [evA] at hks hxs
  refine q00 (c:=q0G) rfl rfl ?_
  rw [q03,q03,Vl.same_def]
  by_cases h1:v.kind=w.kind
  ·by_cases h2:v.b=w.b
   ·by_cases h3:v.i=w.i
    ·by_cases h4:v.s=w.s
     ·by_cases h5:v.id=w.id
      ·by_cases he:v.rest.length=w.rest.length
       ·simp [q0G,-Option.bind_some,anN,List.range_succ,h1,h2,h3,h4,h5,he]
        refine rrest_lp v w o3 he 1 _ _ (fun s' h6 e2 e3 m2 m3=>?main) (fun s' h6 e4=>?main2) v.rest.length 0 (by simp) (by simp) _ ?_ ?_ ?_ ?_ ?_
        case main =>
         cases h7:Vl.sames v.keys w.keys with
         | true=>rw [h7] at hks; simp [-Option.bind_some,anN,List.range_succ,e2,e3,m2,m3,q4F,hks,hxs,h6]
         | false=>rw [h7] at hks; simp [-Option.bind_some,anN,List.range_succ,e2,e3,m2,m3,q4F,hks,h6]
        case main2=>simp [-Option.bind_some,anN,List.range_succ,e4,h6]
        all_goals simp [h1,h2,h3,h4,h5]
       ·have he':¬ (v.rest.length:Int)=w.rest.length:=by omega
        have h6:¬ v.rest=w.rest:=fun h=>he (by rw [h])
        simp [q0G,-Option.bind_some,anN,List.range_succ,h1,h2,h3,h4,h5,he',h6]
      ·simp [q0G,-Option.bind_some,anN,List.range_succ,h1,h2,h3,h4,h5]
     ·simp [q0G,-Option.bind_some,anN,List.range_succ,h1,h2,h3,h4]
    ·simp [q0G,-Option.bind_some,anN,List.range_succ,h1,h2,h3]
   ·simp [q0G,-Option.bind_some,anN,List.range_succ,h1,h2]
  ·simp [q0G,-Option.bind_some,anN,List.range_succ,h1]
def Mem.same (m m':Mem):Bool:=decide (m.id=m'.id)&&decide (m.name=m'.name)&&decide (m.ty=m'.ty)&&(m.crit == m'.crit)&&(m.has == m'.has)&&m.dflt.same m'.dflt
def q0y:List Mem->List Mem->Bool
 | [],[]=>true
 | m :: r,m' :: r'=>m.same m'&&q0y r r'
 | [],_ :: _=>false
 | _ :: _,[]=>false
theorem q6w:∀ l m:List Mem,l.length≠m.length->q0y l m=false
 | [],[],h=>absurd rfl h
 | [],_ :: _,_=>rfl
 | _ :: _,[],_=>rfl
 | v :: r,w :: r',h=>by rw [q0y,q6w r r' (by simpa using h)]; simp
def Typ.same (t u:Typ):Bool:=decide (t.kind=u.kind)&&decide (t.name=u.name)&&decide (t.low=u.low)&&decide (t.high=u.high)&&decide (t.max=u.max)&&decide (t.key=u.key)&&decide (t.elem=u.elem)&&(t.opn == u.opn)&&decide (t.syms=u.syms)&&q0y t.mems u.mems
theorem msame_ev (m m':Mem) (hm:m.ok):evA 107 [.agg (memC m),.agg (memC m')] (.bool (m.same m')):=by
 have hs:=same_ev _ m.dflt m'.dflt (Nat.lt_succ_self _) hm.1
 simp only [evA,q03] at hs
 refine q00 (c:=q0S) rfl rfl ?_
 unfold Mem.same memC
 by_cases h1:m.id=m'.id
 ·by_cases h2:m.name=m'.name
  ·by_cases h3:m.ty=m'.ty
   ·by_cases h4:m.crit=m'.crit
    ·by_cases h5:m.has=m'.has
     ·simp [q0S,-Option.bind_some,anN,List.range_succ,h1,h2,h3,h4,h5,hs]
     ·simp [q0S,-Option.bind_some,anN,List.range_succ,h1,h2,h3,h4,h5]
    ·simp [q0S,-Option.bind_some,anN,List.range_succ,h1,h2,h3,h4]
   ·simp [q0S,-Option.bind_some,anN,List.range_succ,h1,h2,h3]
  ·simp [q0S,-Option.bind_some,anN,List.range_succ,h1,h2]
 ·simp [q0S,-Option.bind_some,anN,List.range_succ,h1]
theorem rmsame_ev (m m':Mem) (hm:m.ok):evA 90 [.agg (memC m),.agg (memC m')] (.bool (m.same m')):=by
 have hs:=rsame_ev _ m.dflt m'.dflt (Nat.lt_succ_self _) hm.1
 simp only [evA,q03] at hs
 refine q00 (c:=q0K) rfl rfl ?_
 unfold Mem.same memC
 by_cases h1:m.id=m'.id
 ·by_cases h2:m.name=m'.name
  ·by_cases h3:m.ty=m'.ty
   ·by_cases h4:m.crit=m'.crit
    ·by_cases h5:m.has=m'.has
     ·simp [q0K,-Option.bind_some,anN,List.range_succ,h1,h2,h3,h4,h5,hs]
     ·simp [q0K,-Option.bind_some,anN,List.range_succ,h1,h2,h3,h4,h5]
    ·simp [q0K,-Option.bind_some,anN,List.range_succ,h1,h2,h3,h4]
   ·simp [q0K,-Option.bind_some,anN,List.range_succ,h1,h2,h3]
  ·simp [q0K,-Option.bind_some,anN,List.range_succ,h1,h2]
 ·simp [q0K,-Option.bind_some,anN,List.range_succ,h1]
theorem syms_lp (rs qs:List Sym) (hl:rs.length<=9223372036854775807) (he:rs.length=qs.length) (b1 b2:Bool) (r:RV) (k:Ex->MSt->Option RV) (hk:∀ s',rs=qs->k (.exit 0) s'=some r) (hr:∀ s':MSt,rs≠qs->(s'.env 4).v=.bool false->k .ret s'=some r) :
  ∀ (n i:Nat),i + n=rs.length->(rs.drop i=qs.drop i ↔ rs=qs)->∀ s':MSt,(s'.env 0).v=.sl b1 (rs.map symC)->(s'.env 1).v=.sl b2 (qs.map symC)->(s'.env 12).v=.int .i64 rs.length->(s'.env 13).v=.int .i64 i->evL allT q02 q0u s' k=some r:=by
 intro n
 induction n with
 | zero =>
  intro i hi hf s' e0 e1 e12 e13
  have hlt:¬ ((i:Int)<rs.length):=by omega
  refine q04 ?_
  simp [q0u,-Option.bind_some,anN,List.range_succ,e12,e13,hlt]
  exact hk _ (hf.1 (by rw [List.drop_eq_nil_of_le (by omega),List.drop_eq_nil_of_le (by omega)]))
 | succ n ih =>
  intro i hi hf s' e0 e1 e12 e13
  have hlt:(i:Int)<rs.length:=by omega
  have hi1:i<rs.length:=by omega
  have hi2:i<qs.length:=by omega
  have hw:=q0W (i:=i) (by omega)
  have g1:(rs.map symC)[i]?=some (symC rs[i]):=by simp [hi1]
  have g2:(qs.map symC)[i]?=some (symC qs[i]):=by simp [hi2]
  rw [List.drop_eq_getElem_cons hi1,List.drop_eq_getElem_cons hi2] at hf
  simp only [List.cons.injEq] at hf
  generalize rs[i]=x at *
  generalize qs[i]=y at *
  obtain ⟨xi,xd⟩:=x
  obtain ⟨yi,yd⟩:=y
  simp only [symC] at g1 g2
  simp only [Sym.mk.injEq] at hf
  refine q04 ?_
  by_cases h1:xi=yi
  ·by_cases h2:xd=yd
   ·subst h1 h2
    simp [q0u,-Option.bind_some,anN,List.range_succ,e0,e1,e12,e13,hlt,g1,g2,eqC,hw]
    refine ih (i + 1) (by omega) (by simpa using hf) _ ?_ ?_ ?_ ?_ <;> simp [*]
   ·subst h1
    simp [q0u,-Option.bind_some,anN,List.range_succ,e0,e1,e12,e13,hlt,g1,g2,eqC,h2]
    exact hr _ (fun h=>h2 (hf.2 h).1.2) (by simp)
  ·simp [q0u,-Option.bind_some,anN,List.range_succ,e0,e1,e12,e13,hlt,g1,g2,eqC,h1]
   exact hr _ (fun h=>h1 (hf.2 h).1.1) (by simp)
theorem syms_ev (rs qs:List Sym) (hl:rs.length<=9223372036854775807) (b1 b2:Bool):evA 105 [.sl b1 (rs.map symC),.sl b2 (qs.map symC)] (.bool (decide (rs=qs))):=by
 refine q00 (c:=q0X) rfl rfl ?_
 by_cases he:rs.length=qs.length
 ·simp [q0X,-Option.bind_some,anN,List.range_succ,he]
  refine syms_lp rs qs hl he b1 b2 _ _ (fun s' hf=>?main) (fun s' hf h4=>?main2) rs.length 0 (by simp) (by simp) _ ?_ ?_ ?_ ?_
  case main=>simp [-Option.bind_some,anN,List.range_succ,hf]
  case main2=>simp [-Option.bind_some,anN,List.range_succ,hf,h4]
  all_goals simp [he]
 ·have he':¬ (rs.length:Int)=qs.length:=by omega
  have hne:rs≠qs:=fun h=>he (by rw [h])
  simp [q0X,-Option.bind_some,anN,List.range_succ,he',hne]
theorem eqm_lp (l m:List Mem) (hl:l.length<=9223372036854775807) (he:l.length=m.length) (hF:∀ x∈l,x.ok) (b1 b2:Bool) (r:RV) (k:Ex->MSt->Option RV) (hk:∀ s',q0y l m=true->k (.exit 0) s'=some r) (hr:∀ s':MSt,q0y l m=false->(s'.env 6).v=.bool false->k .ret s'=some r) :
  ∀ (n i:Nat),i + n=l.length->q0y (l.drop i) (m.drop i)=q0y l m->∀ s':MSt,(s'.env 1).v=.sl b2 (m.map memC)->(s'.env 2).v=.fn 107 []->(s'.env 15).v=.sl b1 (l.map memC)->(s'.env 16).v=.int .i64 l.length->(s'.env 17).v=.int .i64 i->evL allT q02 q0w s' k=some r:=by
 intro n
 induction n with
 | zero =>
  intro i hi hf s' e1 e2 e15 e16 e17
  have hlt:¬ ((i:Int)<l.length):=by omega
  refine q04 ?_
  simp [q0w,-Option.bind_some,anN,List.range_succ,e16,e17,hlt]
  refine hk _ ?_
  rw [<- hf,List.drop_eq_nil_of_le (by omega),List.drop_eq_nil_of_le (by omega),q0y]
 | succ n ih =>
  intro i hi hf s' e1 e2 e15 e16 e17
  have hlt:(i:Int)<l.length:=by omega
  have hi1:i<l.length:=by omega
  have hi2:i<m.length:=by omega
  have hw:=q0W (i:=i) (by omega)
  have g1:(l.map memC)[i]?=some (memC l[i]):=by simp [hi1]
  have g2:(m.map memC)[i]?=some (memC m[i]):=by simp [hi2]
  have hx:=msame_ev l[i] m[i] (hF l[i] (List.getElem_mem _))
  rw [List.drop_eq_getElem_cons hi1,List.drop_eq_getElem_cons hi2,q0y] at hf
  generalize l[i]=x at *
  generalize m[i]=y at *
  simp only [evA,memC] at g1 g2 hx
  refine q04 ?_
  cases h1:x.same y with
  | true =>
   rw [h1] at hx hf
   simp [q0w,-Option.bind_some,anN,List.range_succ,e1,e2,e15,e16,e17,hlt,g1,g2,q4F,q2c,hx,hw]
   refine ih (i + 1) (by omega) (by simpa using hf) _ ?_ ?_ ?_ ?_ ?_ <;> simp [*]
  | false =>
   rw [h1] at hx hf
   simp [q0w,-Option.bind_some,anN,List.range_succ,e1,e2,e15,e16,e17,hlt,g1,g2,q4F,q2c,hx]
   exact hr _ (by simpa using hf.symm) (by simp)
theorem eqm_ev (l m:List Mem) (hl:l.length<=9223372036854775807) (hF:∀ x∈l,x.ok) (b1 b2:Bool):evA 106 [.sl b1 (l.map memC),.sl b2 (m.map memC),.fn 107 []] (.bool (q0y l m)):=by
 refine q00 (c:=q0F) rfl rfl ?_
 by_cases he:l.length=m.length
 ·simp [q0F,-Option.bind_some,anN,List.range_succ,he]
  refine eqm_lp l m hl he hF b1 b2 _ _ (fun s' hf=>?main) (fun s' hf h4=>?main2) l.length 0 (by simp) (by simp) _ ?_ ?_ ?_ ?_ ?_
  case main=>simp [-Option.bind_some,anN,List.range_succ,hf]
  case main2=>simp [-Option.bind_some,anN,List.range_succ,hf,h4]
  all_goals simp [he]
 ·have he':¬ (l.length:Int)=m.length:=by omega
  simp [q0F,-Option.bind_some,anN,List.range_succ,he',q6w l m he]
theorem tsame_ev (t u:Typ) (ht:t.ok):evA 81 [.agg (typC t),.agg (typC u)] (.bool (t.same u)):=by
 have hs:=syms_ev t.syms u.syms ht.1 t.sn u.sn
 have hm:=eqm_ev t.mems u.mems ht.2.1 ht.2.2 t.mn u.mn
 simp only [evA] at hs hm
 refine q00 (c:=q0H) rfl rfl ?_
 unfold Typ.same typC
 by_cases h1:t.kind=u.kind
 ·by_cases h2:t.name=u.name
  ·by_cases h3:t.low=u.low
   ·by_cases h4:t.high=u.high
    ·by_cases h5:t.max=u.max
     ·by_cases h6:t.key=u.key
      ·by_cases h7:t.elem=u.elem
       ·by_cases h8:t.opn=u.opn
        ·by_cases h9:t.syms=u.syms
         ·rw [decide_eq_true h9] at hs
          simp [q0H,-Option.bind_some,anN,List.range_succ,h1,h2,h3,h4,h5,h6,h7,h8,hs,h9 ▸ hs,h9,q4F,q2c,hm]
         ·rw [decide_eq_false h9] at hs
          simp [q0H,-Option.bind_some,anN,List.range_succ,h1,h2,h3,h4,h5,h6,h7,h8,hs,h9]
        ·simp [q0H,-Option.bind_some,anN,List.range_succ,h1,h2,h3,h4,h5,h6,h7,h8]
       ·simp [q0H,-Option.bind_some,anN,List.range_succ,h1,h2,h3,h4,h5,h6,h7]
      ·simp [q0H,-Option.bind_some,anN,List.range_succ,h1,h2,h3,h4,h5,h6]
     ·simp [q0H,-Option.bind_some,anN,List.range_succ,h1,h2,h3,h4,h5]
    ·simp [q0H,-Option.bind_some,anN,List.range_succ,h1,h2,h3,h4]
   ·simp [q0H,-Option.bind_some,anN,List.range_succ,h1,h2,h3]
  ·simp [q0H,-Option.bind_some,anN,List.range_succ,h1,h2]
 ·simp [q0H,-Option.bind_some,anN,List.range_succ,h1]
abbrev q12 (t:Typ):List Slot:=[⟨.int .i64 t.kind,.no⟩,⟨.str t.name,.no⟩,⟨.int .i64 t.low,.no⟩,⟨.int .i64 t.high,.no⟩,⟨.int .i64 t.max,.no⟩,⟨.sl t.sn (t.syms.map symC),.no⟩,⟨.sl t.mn (t.mems.map memC),.no⟩,⟨.int .i64 t.key,.no⟩,⟨.int .i64 t.elem,.no⟩,⟨.bool t.opn,.no⟩]
theorem rsyms_lp (v w:Typ) (hl:v.syms.length<=9223372036854775807) (he:v.syms.length=w.syms.length) (m:Nat) (r:RV) (k:Ex->MSt->Option RV)
  (hk:∀ s':MSt,v.syms=w.syms->(s'.env 2).v=.ptr 2 m 0->(s'.env 3).v=.ptr 3 m 0->s'.mem 2 m=some (q12 v)->s'.mem 3 m=some (q12 w)->k (.exit 0) s'=some r) (hr:∀ s':MSt,v.syms≠w.syms->(s'.env 4).v=.bool false->k .ret s'=some r) :
  ∀ (n i:Nat),i + n=v.syms.length->(v.syms.drop i=w.syms.drop i ↔ v.syms=w.syms)->∀ s':MSt,(s'.env 2).v=.ptr 2 m 0->(s'.env 3).v=.ptr 3 m 0->s'.mem 2 m=some (q12 v)->s'.mem 3 m=some (q12 w)->(s'.env 5).v=.int .i64 i->evL allT q02 q1m s' k=some r:=by
 intro n
 induction n with
 | zero =>
  intro i hi hf s' e2 e3 m2 m3 e5
  have hlt:¬ ((i:Int)<v.syms.length):=by omega
  refine q04 ?_
  simp [q1m,-Option.bind_some,anN,List.range_succ,e2,e3,m2,m3,e5,hlt]
  exact hk _ (hf.1 (by rw [List.drop_eq_nil_of_le (by omega),List.drop_eq_nil_of_le (by omega)])) (by simp [e2]) (by simp [e3]) (by simp [m2]) (by simp [m3])
 | succ n ih =>
  intro i hi hf s' e2 e3 m2 m3 e5
  have hlt:(i:Int)<v.syms.length:=by omega
  have hi1:i<v.syms.length:=by omega
  have hi2:i<w.syms.length:=by omega
  have hw:=q0W (i:=i) (by omega)
  have g1:(v.syms.map symC)[i]?=some (symC v.syms[i]):=by simp [hi1]
  have g2:(w.syms.map symC)[i]?=some (symC w.syms[i]):=by simp [hi2]
  rw [List.drop_eq_getElem_cons hi1,List.drop_eq_getElem_cons hi2] at hf
  simp only [List.cons.injEq] at hf
  generalize v.syms[i]=x at *
  generalize w.syms[i]=y at *
  obtain ⟨xi,xd⟩:=x
  obtain ⟨yi,yd⟩:=y
  simp only [symC] at g1 g2
  simp only [Sym.mk.injEq] at hf
  refine q04 ?_
  by_cases h1:xi=yi
  ·by_cases h2:xd=yd
   ·subst h1 h2
    simp [q1m,-Option.bind_some,anN,List.range_succ,e2,e3,m2,m3,e5,hlt,g1,g2,eqC,hw]
    refine ih (i + 1) (by omega) (by simpa using hf) _ ?_ ?_ ?_ ?_ ?_ <;> simp [*]
   ·subst h1
    simp [q1m,-Option.bind_some,anN,List.range_succ,e2,e3,m2,m3,e5,hlt,g1,g2,eqC,h2]
    exact hr _ (fun h=>h2 (hf.2 h).1.2) (by simp)
  ·simp [q1m,-Option.bind_some,anN,List.range_succ,e2,e3,m2,m3,e5,hlt,g1,g2,eqC,h1]
   exact hr _ (fun h=>h1 (hf.2 h).1.1) (by simp)
theorem rmems_lp (v w:Typ) (hl:v.mems.length<=9223372036854775807) (hF:∀ x∈v.mems,x.ok) (he:v.mems.length=w.mems.length) (m:Nat) (r:RV) (k:Ex->MSt->Option RV)
  (hk:∀ s':MSt,q0y v.mems w.mems=true->k (.exit 2) s'=some r) (hr:∀ s':MSt,q0y v.mems w.mems=false->(s'.env 4).v=.bool false->k .ret s'=some r) :
  ∀ (n i:Nat),i + n=v.mems.length->q0y (v.mems.drop i) (w.mems.drop i)=q0y v.mems w.mems->∀ s':MSt,(s'.env 2).v=.ptr 2 m 0->(s'.env 3).v=.ptr 3 m 0->s'.mem 2 m=some (q12 v)->s'.mem 3 m=some (q12 w)->(s'.env 6).v=.int .i64 i->evL allT q02 q1M s' k=some r:=by
 intro n
 induction n with
 | zero =>
  intro i hi hf s' e2 e3 m2 m3 e6
  have hlt:¬ ((i:Int)<v.mems.length):=by omega
  refine q04 ?_
  simp [q1M,-Option.bind_some,anN,List.range_succ,e2,e3,m2,m3,e6,hlt]
  refine hk _ ?_
  rw [<- hf,List.drop_eq_nil_of_le (by omega),List.drop_eq_nil_of_le (by omega),q0y]
 | succ n ih =>
  intro i hi hf s' e2 e3 m2 m3 e6
  have hlt:(i:Int)<v.mems.length:=by omega
  have hi1:i<v.mems.length:=by omega
  have hi2:i<w.mems.length:=by omega
  have hw:=q0W (i:=i) (by omega)
  have g1:(v.mems.map memC)[i]?=some (memC v.mems[i]):=by simp [hi1]
  have g2:(w.mems.map memC)[i]?=some (memC w.mems[i]):=by simp [hi2]
  have hx:=rmsame_ev v.mems[i] w.mems[i] (hF _ (List.getElem_mem _))
  rw [List.drop_eq_getElem_cons hi1,List.drop_eq_getElem_cons hi2,q0y] at hf
  generalize v.mems[i]=x at *
  generalize w.mems[i]=y at *
  simp only [evA,memC] at g1 g2 hx
  refine q04 ?_
  cases h1:x.same y with
  | true =>
   rw [h1] at hx hf
   simp [q1M,-Option.bind_some,anN,List.range_succ,e2,e3,m2,m3,e6,hlt,g1,g2,q4F,hx,hw]
   refine ih (i + 1) (by omega) (by simpa using hf) _ ?_ ?_ ?_ ?_ ?_ <;> simp [*]
  | false =>
   rw [h1] at hx hf
   simp [q1M,-Option.bind_some,anN,List.range_succ,e2,e3,m2,m3,e6,hlt,g1,g2,q4F,hx]
   exact hr _ (by simpa using hf.symm) (by simp)
theorem rtsame_ev (t u:Typ) (ht:t.ok):evA 72 [.agg (typC t),.agg (typC u)] (.bool (t.same u)):=by
 refine q00 (c:=q0n) rfl rfl ?_
 unfold Typ.same typC
 by_cases h1:t.kind=u.kind
 ·by_cases h2:t.name=u.name
  ·by_cases h3:t.low=u.low
   ·by_cases h4:t.high=u.high
    ·by_cases h5:t.max=u.max
     ·by_cases h6:t.key=u.key
      ·by_cases h7:t.elem=u.elem
       ·by_cases h8:t.opn=u.opn
        ·by_cases h9:t.syms.length=u.syms.length
         ·by_cases h10:t.mems.length=u.mems.length
          ·simp [q0n,-Option.bind_some,anN,List.range_succ,h1,h2,h3,h4,h5,h6,h7,h8,h9,h10]
           refine rsyms_lp t u ht.1 h9 1 _ _ (fun s' h11 e2 e3 m2 m3=>?main) (fun s' h11 e4=>?main2) t.syms.length 0 (by simp) (by simp) _ ?_ ?_ ?_ ?_ ?_
           case main =>
            simp [-Option.bind_some,anN,List.range_succ,h11]
            refine rmems_lp t u ht.2.1 ht.2.2 h10 1 _ _ (fun s' h12=>?a) (fun s' h12 e4=>?b) t.mems.length 0 (by simp) (by simp) _ ?_ ?_ ?_ ?_ ?_
            case a=>simp [-Option.bind_some,anN,List.range_succ,h12]
            case b=>simp [-Option.bind_some,anN,List.range_succ,h12,e4]
            all_goals simp [e2,e3,m2,m3]
           case main2=>simp [-Option.bind_some,anN,List.range_succ,h11,e4]
           all_goals simp [h1,h2,h3,h4,h5,h6,h7,h8]
          ·have h10':¬ (t.mems.length:Int)=u.mems.length:=by omega
           simp [q0n,-Option.bind_some,anN,List.range_succ,h1,h2,h3,h4,h5,h6,h7,h8,h9,h10',q6w _ _ h10]
         ·have h9':¬ (t.syms.length:Int)=u.syms.length:=by omega
          have h11:¬ t.syms=u.syms:=fun h=>h9 (by rw [h])
          simp [q0n,-Option.bind_some,anN,List.range_succ,h1,h2,h3,h4,h5,h6,h7,h8,h9',h11]
        ·simp [q0n,-Option.bind_some,anN,List.range_succ,h1,h2,h3,h4,h5,h6,h7,h8]
       ·simp [q0n,-Option.bind_some,anN,List.range_succ,h1,h2,h3,h4,h5,h6,h7]
      ·simp [q0n,-Option.bind_some,anN,List.range_succ,h1,h2,h3,h4,h5,h6]
     ·simp [q0n,-Option.bind_some,anN,List.range_succ,h1,h2,h3,h4,h5]
    ·simp [q0n,-Option.bind_some,anN,List.range_succ,h1,h2,h3,h4]
   ·simp [q0n,-Option.bind_some,anN,List.range_succ,h1,h2,h3]
  ·simp [q0n,-Option.bind_some,anN,List.range_succ,h1,h2]
 ·simp [q0n,-Option.bind_some,anN,List.range_succ,h1]
theorem anN_t (a:An):anN true a=.ex:=rfl
theorem anN_f (a:An):anN false a=a:=rfl
theorem anN_ex (b:Bool):anN b .ex=.ex:=by cases b <;> rfl
attribute [simp] anN_t anN_f anN_ex
theorem q0h {b:C} {r:RV} (n:Nat) (I:Nat->MSt->Prop) (E:Ex->MSt->Prop)
  (step:∀ i,i<=n->∀ s k,I i s->(i<n->∀ s',I (i + 1) s'->evL allT q02 b s' k=some r)->(∀ e s',E e s'->k e s'=some r)->evL allT q02 b s k=some r)
  (s:MSt) (k:Ex->MSt->Option RV) (h:I 0 s) (hk:∀ e s',E e s'->k e s'=some r):evL allT q02 b s k=some r:=by
 have:∀ m i,i + m=n->∀ s,I i s->evL allT q02 b s k=some r:=by
  intro m
  induction m with
  | zero=>intro i hi s h; exact step i (by omega) s k h (fun hlt=>absurd hlt (by omega)) hk
  | succ m ih=>intro i hi s h; exact step i (by omega) s k h (fun _ s' h'=>ih (i + 1) (by omega) s' h') hk
 exact this n 0 (by omega) s h
instance memStr (s:ByteArray) (l:List ByteArray):Decidable (s∈l):=@List.instDecidableMemOfLawfulBEq _ instBEqOfDecidableEq _ s l
def hasStr (s:ByteArray) (l:List ByteArray):Bool:=decide (s∈l)
theorem q9j {s:ByteArray} {l:List ByteArray} (h:s∈l):hasStr s l=true:=decide_eq_true h
theorem q9f {s:ByteArray} {l:List ByteArray} (h:¬ s∈l):hasStr s l=false:=decide_eq_false h
def idOk (b n:Int):Bool:=decide (b<n)&&decide (1<=n)&&decide (n<=1000)
def q1z:Int->List ByteArray->List (Int × ByteArray)->Bool
 | _,_,[]=>true
 | b,seen,(n,s) :: r=>idOk b n&&!hasStr s seen&&q2X s&&q1z n (seen++[s]) r
def idC (x:Int × ByteArray):List AV:=[.int .i64 x.1]
def nmC (x:Int × ByteArray):List AV:=[.str x.2]
def q5v (s:ByteArray):List AV:=[.str s,.bool true]
theorem seen_get (s:ByteArray):∀ l:List ByteArray,q5D (l.map q5v) (.str s)=if s∈l then some (AV.bool true) else none
 | []=>rfl
 | x :: r=>by
  simp only [List.map_cons,q5v,q5D,keyEq]
  by_cases h:x=s
  ·simp [h]
  ·have h':¬ s=x:=fun e=>h e.symm
   have:=seen_get s r
   simp [h,h',this]
theorem seen_set (s:ByteArray):∀ l:List ByteArray,¬ s∈l->q4U (l.map q5v) (.str s) (.bool true)=(l++[s]).map q5v
 | [],_=>rfl
 | x :: r,hn=>by
  have h:¬ x=s:=fun e=>hn (by simp [e])
  have:=seen_set s r fun e=>hn (by simp [e])
  simp [q5v,q4U,keyEq,h,this]
theorem seen_ok:∀ l:List ByteArray,q6S .none (l.map q5v)=true
 | []=>rfl
 | x :: r=>by
  have:=seen_ok r
  simp only [q6S] at this
  simp [q6S,q5v,q5C,AV.flat,AV.scal]
def q2b (l:List (Int × ByteArray)):Nat->Int
 | 0=>0
 | i + 1=>match l[i]? with
  | some x=>x.1
  | none=>0
theorem ids_ev (l:List (Int × ByteArray)) (hl:l.length<=9223372036854775807) (b1 b2:Bool):evA 103 [.sl b1 (l.map idC),.sl b2 (l.map nmC)] (.bool (q1z 0 [] l&&decide (l.length<=16))):=by
 refine q00 (c:=q54) rfl rfl ?_
 simp [q54,-Option.bind_some,-Int.toNat_lt,-List.map_map,List.range_succ]
 refine q0h l.length (fun i s=>(s.env 0).v=.sl b1 (l.map idC)/\(s.env 1).v=.sl b2 (l.map nmC)/\(s.env 5).v=.mp 8 2/\(s.env 9).v=.sl b1 (l.map idC)/\(s.env 10).v=.int .i64 l.length/\(s.env 11).v=.int .i64 i/\s.obj 8 2=some (q5o (((l.take i).map (·.2)).map q5v))/\q1z (q2b l i) ((l.take i).map (·.2)) (l.drop i)=q1z 0 [] l)
  (fun e s=>(e=.exit 0/\q1z 0 [] l=true/\(s.env 0).v=.sl b1 (l.map idC))\/(e=.ret/\q1z 0 [] l=false/\(s.env 4).v=.bool false)) (fun i hi s k h ih hk=>?_) _ _ ?_ (fun e s h=>?_)
 ·obtain ⟨e0,e1,e5,e9,e10,e11,o,hs⟩:=h
  refine q04 ?_
  by_cases hlt:i<l.length
  ·have hlt':(i:Int)<l.length:=by omega
   have g1:(l.map idC)[i]?=some (idC l[i]):=by simp [hlt]
   have g2:(l.map nmC)[i]?=some (nmC l[i]):=by simp [hlt]
   have hw:=q0W (i:=i) (by omega)
   have ht:l.take (i + 1)=l.take i++[l[i]]:=(List.take_append_getElem hlt).symm
   have hp:q2b l (i + 1)=l[i].1:=by simp [q2b,hlt]
   have hn:=name_ev l[i].2
   rw [List.drop_eq_getElem_cons hlt,q1z] at hs
   generalize hx:l[i]=x at *
   generalize hsn:(l.take i).map (·.2)=seen at *
   have hg:=seen_get x.2 seen
   have hko:=seen_ok seen
   simp only [idC,nmC] at g1 g2
   have hprev:(0<(i:Int)->∃ p,(l.map idC)[i - 1]?=some [.int .i64 p]/\q2b l i=p):=fun h0=>by
    obtain ⟨j,rfl⟩:∃ j,i=j + 1:=⟨i - 1,by omega⟩
    exact ⟨l[j].1,by simp [idC,show j<l.length from by omega],by simp [q2b,show j<l.length from by omega]⟩
   have fail:∀ s',(s'.env 4).v=.bool false->(idOk (q2b l i) x.1&&!hasStr x.2 seen&&q2X x.2)=false->k .ret s'=some (.bool (q1z 0 [] l&&decide (l.length<=16)),none):=fun s' h4 hf=>hk _ _ (.inr ⟨rfl,by rw [<- hs,hf]; rfl,h4⟩)
   obtain ⟨z,hz⟩:∃ z:Int,z=i:=⟨_,rfl⟩
   have hz0:0<=z:=by omega
   have hzt:z.toNat=i:=by omega
   have hlz:z<l.length:=by omega
   have hwz:IntKind.i64.wrap (z + 1)=((i + 1:Nat):Int):=by rw [hz]; exact hw
   rw [<- hz] at e11
   rw [<- hzt] at g1 g2
   by_cases c1:x.1<1
   ·simp [q0A,-Option.bind_some,-Int.toNat_lt,-List.map_map,List.range_succ,e0,e1,e5,e9,e10,e11,hlz,hz0,g1,c1]
    exact fail _ (by simp) (by simp [idOk,show ¬ 1<=x.1 from by omega])
   by_cases c2:1000<x.1
   ·simp [q0A,-Option.bind_some,-Int.toNat_lt,-List.map_map,List.range_succ,e0,e1,e5,e9,e10,e11,hlz,hz0,g1,c1,c2]
    exact fail _ (by simp) (by simp [idOk,show ¬ x.1<=1000 from by omega])
   have rest:(¬ 0<z\/∃ y p,0<z/\IntKind.i64.wrap (z - 1)=y/\0<=y/\(l.map idC)[y.toNat]?=some [.int .i64 p]/\¬ x.1<=p)->q2b l i<x.1->q0A.run (evC allT q02) (evK allT q02) s (q7Q (evL allT q02) q0A k)=some (.bool (q1z 0 [] l&&decide (l.length<=16)),none):=by
    intro h0 hlast
    by_cases c5:x.2∈seen
    ·rw [if_pos c5] at hg
     rcases h0 with c3 | ⟨y,p,c3,hy,hy0,hp2,hp3⟩
     ·simp [q0A,-Option.bind_some,-Int.toNat_lt,-List.map_map,List.range_succ,e0,e1,e5,e9,e10,e11,hlz,hz0,g1,g2,c1,c2,c3,o,q4x,hko,q5C,AV.flat,AV.scal,hg]
      exact fail _ (by simp) (by simp [q9j c5])
     ·simp [q0A,-Option.bind_some,-Int.toNat_lt,-List.map_map,List.range_succ,e0,e1,e5,e9,e10,e11,hlz,hz0,g1,g2,c1,c2,c3,hy,hy0,hp2,hp3,o,q4x,hko,q5C,AV.flat,AV.scal,hg]
      exact fail _ (by simp) (by simp [q9j c5])
    ·rw [if_neg c5] at hg
     have hst:=seen_set x.2 seen c5
     cases c6:q2X x.2 with
     | false =>
      rw [c6] at hn
      rcases h0 with c3 | ⟨y,p,c3,hy,hy0,hp2,hp3⟩
      ·simp [q0A,-Option.bind_some,-Int.toNat_lt,-List.map_map,List.range_succ,e0,e1,e5,e9,e10,e11,hlz,hz0,g1,g2,c1,c2,c3,o,q4x,hko,q5C,AV.flat,AV.scal,hg,hn]
       exact fail _ (by simp) (by simp [c6])
      ·simp [q0A,-Option.bind_some,-Int.toNat_lt,-List.map_map,List.range_succ,e0,e1,e5,e9,e10,e11,hlz,hz0,g1,g2,c1,c2,c3,hy,hy0,hp2,hp3,o,q4x,hko,q5C,AV.flat,AV.scal,hg,hn]
       exact fail _ (by simp) (by simp [c6])
     | true =>
      rw [c6] at hn
      have hs':q1z x.1 (seen++[x.2]) (l.drop (i + 1))=q1z 0 [] l:=by rw [<- hs]; simp [idOk,q9f c5,c6,hlast,show 1<=x.1 from by omega,show x.1<=1000 from by omega]
      rcases h0 with c3 | ⟨y,p,c3,hy,hy0,hp2,hp3⟩
      ·simp [q0A,-Option.bind_some,-Int.toNat_lt,-List.map_map,List.range_succ,e0,e1,e5,e9,e10,e11,hlz,hz0,g1,g2,c1,c2,c3,o,q4x,hko,q5C,AV.flat,AV.scal,hg,hn,hst,hwz]
       refine ih hlt _ ⟨?_,?_,?_,?_,?_,?_,?_,?_⟩ <;> simp [ht,hsn,hp,hs',e0,e1,e5,e9,e10]
      ·simp [q0A,-Option.bind_some,-Int.toNat_lt,-List.map_map,List.range_succ,e0,e1,e5,e9,e10,e11,hlz,hz0,g1,g2,c1,c2,c3,hy,hy0,hp2,hp3,o,q4x,hko,q5C,AV.flat,AV.scal,hg,hn,hst,hwz]
       refine ih hlt _ ⟨?_,?_,?_,?_,?_,?_,?_,?_⟩ <;> simp [ht,hsn,hp,hs',e0,e1,e5,e9,e10]
   by_cases c3:0<(i:Int)
   ·obtain ⟨p,hp1,hp2⟩:=hprev c3
    have c3z:0<z:=by omega
    have hwm:IntKind.i64.wrap (z - 1)=((i - 1:Nat):Int):=by rw [IntWalk.i64_in _ (by omega)]; omega
    obtain ⟨y,hy⟩:∃ y:Int,y=((i - 1:Nat):Int):=⟨_,rfl⟩
    have hy0:0<=y:=by omega
    rw [<- hy] at hwm
    rw [show i - 1=y.toNat from by omega] at hp1
    by_cases c4:x.1<=p
    ·simp [q0A,-Option.bind_some,-Int.toNat_lt,-List.map_map,List.range_succ,e0,e1,e5,e9,e10,e11,hlz,hz0,g1,c1,c2,c3z,hwm,hy0,hp1,c4]
     exact fail _ (by simp) (by simp [idOk,hp2,show ¬ p<x.1 from by omega])
    ·exact rest (.inr ⟨y,p,c3z,hwm,hy0,hp1,c4⟩) (by rw [hp2]; omega)
   ·have h0:i=0:=by omega
    subst h0
    exact rest (.inl (by omega)) (by simp only [q2b]; omega)
  ·have hlt':¬ (i:Int)<l.length:=by omega
   simp [q0A,-Option.bind_some,-Int.toNat_lt,-List.map_map,List.range_succ,e10,e11,hlt']
   refine hk _ _ (.inl ⟨rfl,?_,by simp [e0]⟩)
   rw [<- hs,List.drop_eq_nil_of_le (by omega),q1z]
 ·simp [q5o,q2b]
 ·rcases h with ⟨rfl,h1,h2⟩ | ⟨rfl,h1,h2⟩ <;> simp [-Option.bind_some,-Int.toNat_lt,-List.map_map,List.range_succ,h1,h2]
  omega
def symE (x:Sym):Int × ByteArray:=(x.id,x.name)
def memE (x:Mem):Int × ByteArray:=(x.id,x.name)
def q6U (l:List Sym):Bool:=decide (0<l.length)&&(q1z 0 [] (l.map symE)&&decide (l.length<=16))
theorem symbols_ev (l:List Sym) (hl:l.length<=8796093022206) (b:Bool):evA 79 [.sl b (l.map symC)] (.bool (q6U l)):=by
 refine q00 (c:=q38) rfl rfl ?_
 have hids:=fun b1 b2=>ids_ev (l.map symE) (by simp; omega) b1 b2
 simp only [evA] at hids
 simp [q38,-Option.bind_some,-Int.toNat_lt,-List.map_map,List.range_succ]
 refine q0h l.length (fun i s=>(s.env 0).v=.sl b (l.map symC)/\(s.env 7).v=.sl b (l.map symC)/\(s.env 8).v=.int .i64 l.length/\(s.env 9).v=.int .i64 i/\(s.env 3).v=.sl (l.take i).isEmpty (((l.take i).map symE).map idC)/\(s.env 4).v=.sl (l.take i).isEmpty (((l.take i).map symE).map nmC)/\((s.env 3).a=.ex/\(s.env 4).a=.ex\/(l.take i).isEmpty=false/\(s.env 3).a=.own 17 3/\(s.env 4).a=.own 22 9))
  (fun e s=>e=.exit 0/\(s.env 0).v=.sl b (l.map symC)/\(s.env 3).v=.sl l.isEmpty ((l.map symE).map idC)/\(s.env 4).v=.sl l.isEmpty ((l.map symE).map nmC)) (fun i hi s k h ih hk=>?_) _ _ ?_ (fun e s h=>?_)
 ·obtain ⟨e0,e7,e8,e9,e3,e4,an⟩:=h
  refine q04 ?_
  by_cases hlt:i<l.length
  ·have hlt':(i:Int)<l.length:=by omega
   have g1:(l.map symC)[i]?=some (symC l[i]):=by simp [hlt]
   have hw:=q0W (i:=i) (by omega)
   have ht:l.take (i + 1)=l.take i++[l[i]]:=(List.take_append_getElem hlt).symm
   generalize l[i]=x at *
   simp only [symC] at g1
   have hlen:(l.take i).length=i:=by simp; omega
   generalize l.take i=t at *
   have hr1:q1E 8 (t.length + 1)=true:=by rw [q0s]; omega
   have hr2:q1E 16 (t.length + 1)=true:=by rw [q0s]; omega
   have q1:q18 1 ((t.map symE).map idC)=true:=q1T _ _ _ fun _=>rfl
   have q2:q18 1 ((t.map symE).map nmC)=true:=q1T _ _ _ fun _=>rfl
   rcases an with ⟨a3,a4⟩ | ⟨a0,a3,a4⟩
   ·simp [q2d,-Option.bind_some,-Int.toNat_lt,-List.map_map,List.range_succ,e0,e7,e8,e9,e3,e4,a3,a4,hlt',g1,hw,hr1,hr2,q1,q2]
    refine ih hlt _ ⟨?_,?_,?_,?_,?_,?_,?_⟩ <;> simp [ht,e0,e7,e8,idC,nmC,symE]
   ·simp [q2d,-Option.bind_some,-Int.toNat_lt,-List.map_map,List.range_succ,e0,e7,e8,e9,e3,e4,a0,a3,a4,hlt',g1,hw,hr1,hr2,q1,q2]
    refine ih hlt _ ⟨?_,?_,?_,?_,?_,?_,?_⟩ <;> simp [ht,e0,e7,e8,idC,nmC,symE]
  ·have hlt':¬ (i:Int)<l.length:=by omega
   simp [q2d,-Option.bind_some,-Int.toNat_lt,-List.map_map,List.range_succ,e8,e9,hlt']
   rw [List.take_of_length_le (by omega)] at e3 e4
   exact hk _ _ ⟨rfl,by simp [e0],by simp [e3],by simp [e4]⟩
 ·simp
 ·obtain ⟨rfl,e0,e3,e4⟩:=h
  unfold q6U
  by_cases h0:0<l.length
  ·have h0':(0:Int)<l.length:=by omega
   simp [-Option.bind_some,-Int.toNat_lt,-List.map_map,List.range_succ,e0,e3,e4,h0,h0',hids]
  ·have h0':¬ (0:Int)<l.length:=by omega
   simp [-Option.bind_some,-Int.toNat_lt,-List.map_map,List.range_succ,e0,e3,e4,h0,h0']
theorem rid_ev (b n:Int):evA 93 [.int .i64 b,.int .i64 n] (.bool (idOk b n)):=by
 refine q00 (c:=q6O) rfl rfl ?_
 unfold idOk
 by_cases h1:b<n <;> by_cases h2:1<=n <;> simp [q6O,-Option.bind_some,-Int.toNat_lt,-List.map_map,List.range_succ,h1,h2]
theorem rsymbols_ev (l:List Sym) (hl:l.length<=8796093022206) (b:Bool):evA 75 [.sl b (l.map symC)] (.bool (q6U l)):=by
 refine q00 (c:=q3A) rfl rfl ?_
 simp [q3A,-Option.bind_some,-Int.toNat_lt,-List.map_map,List.range_succ]
 have g0:∀ j,j<l.length->∃ x,l[j]?=some x:=fun j hj=>⟨l[j],by simp [hj]⟩
 refine q0h l.length (fun i s=>(s.env 0).v=.sl b (l.map symC)/\(s.env 3).v=.int .i64 (q2b (l.map symE) i)/\(s.env 4).v=.int .i64 i/\q1z (q2b (l.map symE) i) ((l.map symE).take i |>.map (·.2)) ((l.map symE).drop i)=q1z 0 [] (l.map symE))
  (fun e s=>(e=.exit 0/\q1z 0 [] (l.map symE)=true/\(s.env 0).v=.sl b (l.map symC))\/(e=.ret/\q1z 0 [] (l.map symE)=false/\(s.env 2).v=.bool false)) (fun i hi s k h ih hk=>?_) _ _ ?_ (fun e s h=>?_)
 ·obtain ⟨e0,e3,e4,hs⟩:=h
  refine q04 ?_
  by_cases hlt:i<l.length
  ·have hlt':(i:Int)<l.length:=by omega
   have g1:(l.map symC)[i]?=some (symC l[i]):=by simp [hlt]
   have hw:=q0W (i:=i) (by omega)
   have hlt2:i<(l.map symE).length:=by simpa using hlt
   have hp:q2b (l.map symE) (i + 1)=l[i].id:=by simp [q2b,hlt,symE]
   have hn:=rname_ev l[i].name
   have hid:=rid_ev (q2b (l.map symE) i) l[i].id
   have hge:(l.map symE)[i]=symE l[i]:=by simp
   have ht:((l.map symE).take (i + 1)).map (·.2)=((l.map symE).take i).map (·.2)++[l[i].name]:=by rw [<- List.take_append_getElem hlt2,hge]; simp [symE]
   rw [List.drop_eq_getElem_cons hlt2,hge] at hs
   obtain ⟨x,hx⟩:∃ x,x=l[i]:=⟨_,rfl⟩
   rw [<- hx] at g1 hp hn hid ht hs
   simp only [symE,q1z] at hs
   have fail:∀ s',(s'.env 2).v=.bool false->(idOk (q2b (l.map symE) i) x.id&&!hasStr x.name (((l.map symE).take i).map (·.2))&&q2X x.name)=false->k .ret s'=some (.bool (q6U l),none):=fun s' h4 hf=>hk _ _ (.inr ⟨rfl,by rw [<- hs,hf]; rfl,h4⟩)
   simp only [evA] at hn hid
   simp only [symC] at g1
   cases c1:idOk (q2b (l.map symE) i) x.id with
   | false =>
    rw [c1] at hid
    simp [q1S,-Option.bind_some,-Int.toNat_lt,-List.map_map,List.range_succ,e0,e3,e4,hlt',g1,hid]
    exact fail _ (by simp) (by simp [c1])
   | true =>
    rw [c1] at hid
    cases c2:q2X x.name with
    | false =>
     rw [c2] at hn
     simp [q1S,-Option.bind_some,-Int.toNat_lt,-List.map_map,List.range_succ,e0,e3,e4,hlt',g1,hid,hn]
     exact fail _ (by simp) (by simp [c2])
    | true =>
     rw [c2] at hn
     simp [q1S,-Option.bind_some,-Int.toNat_lt,-List.map_map,List.range_succ,e0,e3,e4,hlt',g1,hid,hn]
     have hseen:((l.map symE).take i).map (·.2)=(l.take i).map Sym.name:=by simp [<- List.map_take,symE,Function.comp_def]
     refine q0h i (fun j s=>(s.env 0).v=.sl b (l.map symC)/\(s.env 4).v=.int .i64 i/\(s.env 5).v=.int .i64 j/\¬ x.name∈(l.take j).map Sym.name)
      (fun e s=>(e=.exit 2/\¬ x.name∈(l.take i).map Sym.name/\(s.env 0).v=.sl b (l.map symC)/\(s.env 4).v=.int .i64 i)\/(e=.ret/\x.name∈(l.take i).map Sym.name/\(s.env 2).v=.bool false)) (fun j hj s k' h ih' hk'=>?_) _ _ ?_ (fun e s h=>?_)
     ·obtain ⟨e0,e4,e5,hm⟩:=h
      refine q04 ?_
      by_cases hji:j<i
      ·have hji':(j:Int)<i:=by omega
       have g2:(l.map symC)[j]?=some (symC l[j]):=by simp [show j<l.length from by omega]
       have hwj:=q0W (i:=j) (by omega)
       have htj:l.take (j + 1)=l.take j++[l[j]]:=(List.take_append_getElem (by omega)).symm
       simp only [symC] at g2
       by_cases hname:l[j].name=x.name
       ·simp [q2v,-Option.bind_some,-Int.toNat_lt,-List.map_map,List.range_succ,e0,e4,e5,hji',g1,g2,hname]
        refine hk' _ _ (.inr ⟨rfl,?_,by simp⟩)
        rw [<- hname]
        exact List.mem_map_of_mem (List.mem_take_iff_getElem.2 ⟨j,by omega,rfl⟩)
       ·simp [q2v,-Option.bind_some,-Int.toNat_lt,-List.map_map,List.range_succ,e0,e4,e5,hji',g1,g2,hname,hwj]
        refine ih' hji _ ⟨?_,?_,?_,?_⟩
        ·simp [e0]
        ·simp [e4]
        ·simp
        ·rw [htj,List.map_append,List.mem_append]
         rintro (h | h)
         ·exact hm h
         ·simp at h; exact hname h.symm
      ·have hji':¬ (j:Int)<i:=by omega
       have hjj:j=i:=by omega
       simp [q2v,-Option.bind_some,-Int.toNat_lt,-List.map_map,List.range_succ,e4,e5,hji']
       exact hk' _ _ (.inl ⟨rfl,hjj ▸ hm,by simp [e0],by simp [e4]⟩)
     ·simp [e0,e4]
     ·rcases h with ⟨rfl,h1,e0,e4⟩ | ⟨rfl,h1,e2⟩
      ·simp [-Option.bind_some,-Int.toNat_lt,-List.map_map,List.range_succ,e0,e4,g1,hw]
       refine ih hlt _ ⟨?_,?_,?_,?_⟩
       ·simp [e0]
       ·simp [hp]
       ·simp
       ·rw [hp,ht,<- hs,c1,c2,hseen,q9f h1]
        rfl
      ·simp [-Option.bind_some,-Int.toNat_lt,-List.map_map,List.range_succ]
       exact fail _ e2 (by rw [hseen,q9j h1]; simp)
  ·have hlt':¬ (i:Int)<l.length:=by omega
   simp [q1S,-Option.bind_some,-Int.toNat_lt,-List.map_map,List.range_succ,e0,e4,hlt']
   refine hk _ _ (.inl ⟨rfl,?_,by simp [e0]⟩)
   rw [<- hs,List.drop_eq_nil_of_le (by simp; omega),q1z]
 ·simp [q2b]
 ·unfold q6U
  rcases h with ⟨rfl,h1,e0⟩ | ⟨rfl,h1,e2⟩
  ·by_cases h0:0<l.length
   ·have h0':(1:Int)<=l.length:=by omega
    simp [-Option.bind_some,-Int.toNat_lt,-List.map_map,List.range_succ,e0,h0,h0',h1]
    omega
   ·have h0':¬ (1:Int)<=l.length:=by omega
    simp [-Option.bind_some,-Int.toNat_lt,-List.map_map,List.range_succ,e0,h0,h0',h1]
  ·simp [-Option.bind_some,-Int.toNat_lt,-List.map_map,List.range_succ,h1,e2]
theorem blank_ev (v:Vl) (hv:v.ok):evA 104 [.agg (valC v)] (.bool (v.same Vl.zero)):=by
 have h:=same_ev _ v Vl.zero (Nat.lt_succ_self _) hv
 refine q00 (c:=q41) rfl rfl ?_
 simp only [evA,q03,Vl.zero,Vl.kind,Vl.b,Vl.i,Vl.s,Vl.id,Vl.kn,Vl.keys,Vl.xn,Vl.items,Vl.rn,Vl.rest,List.map_nil] at h ⊢
 simp [q41,-Option.bind_some,-Int.toNat_lt,-List.map_map,List.range_succ,h]
theorem rblank_ev (v:Vl) (hv:v.ok):evA 41 [.agg (valC v),.agg [.int .i64 0,.bool false,.int .i64 0,.str ⟨#[]⟩,.int .i64 0,.sl true [],.sl true [],.sl true []]] (.bool (v.same Vl.zero)):=by
 have h:=rsame_ev _ v Vl.zero (Nat.lt_succ_self _) hv
 simp only [evA,q03,Vl.zero,Vl.kind,Vl.b,Vl.i,Vl.s,Vl.id,Vl.kn,Vl.keys,Vl.xn,Vl.items,Vl.rn,Vl.rest,List.map_nil] at h ⊢
 exact h
def q0J (rec:Bool) (m:Mem):Bool:=!(!rec&&(m.crit||m.has))&&!(m.crit&&m.has)&&(m.has||m.dflt.same Vl.zero)
def q4K (rec:Bool) (l:List Mem):Bool:=l.all (q0J rec)&&((rec||decide (0<l.length))&&(q1z 0 [] (l.map memE)&&decide (l.length<=16)))
theorem members_ev (t:Typ) (ht:t.ok) (hl:t.mems.length<=8796093022206) (hk:t.kind=5\/t.kind=6):evA 80 [.agg (typC t)] (.bool (q4K (decide (t.kind=5)) t.mems)):=by
 obtain ⟨rc,hrc⟩:∃ rc,rc=decide (t.kind=5):=⟨_,rfl⟩
 have hk:t.kind=5/\rc=true\/t.kind=6/\rc=false:=by
  rcases hk with h | h
  ·exact .inl ⟨h,by rw [hrc,h]; rfl⟩
  ·exact .inr ⟨h,by rw [hrc,h]; rfl⟩
 rw [<- hrc]
 clear hrc
 refine q00 (c:=q3b) rfl rfl ?_
 have hids:=fun b1 b2=>ids_ev (t.mems.map memE) (by simp; omega) b1 b2
 simp only [evA] at hids
 simp [q3b,-Option.bind_some,-Int.toNat_lt,-List.map_map,List.range_succ,typC]
 refine q0h t.mems.length (fun i s=>(s.env 1).v=.ptr 1 1 0/\s.mem 1 1=some (q12 t)/\(s.env 8).v=.sl t.mn (t.mems.map memC)/\(s.env 9).v=.int .i64 t.mems.length/\(s.env 10).v=.int .i64 i/\(s.env 3).v=.sl (t.mems.take i).isEmpty (((t.mems.take i).map memE).map idC)/\(s.env 4).v=.sl (t.mems.take i).isEmpty (((t.mems.take i).map memE).map nmC)/\((t.mems.take i).isEmpty=(t.mems.take i).isEmpty/\(s.env 3).a=.ex/\(s.env 4).a=.ex\/(t.mems.take i).isEmpty=false/\(s.env 3).a=.own 18 3/\(s.env 4).a=.own 23 9)/\(t.mems.drop i).all (q0J rc)=t.mems.all (q0J rc))
  (fun e s=>(e=.exit 0/\t.mems.all (q0J rc)=true/\(s.env 1).v=.ptr 1 1 0/\s.mem 1 1=some (q12 t)/\(s.env 3).v=.sl t.mems.isEmpty ((t.mems.map memE).map idC)/\(s.env 4).v=.sl t.mems.isEmpty ((t.mems.map memE).map nmC))\/(e=.ret/\t.mems.all (q0J rc)=false/\(s.env 2).v=.bool false)) (fun i hi s k h ih hk'=>?_) _ _ ?_ (fun e s h=>?_)
 ·obtain ⟨e1,m1,e8,e9,e10,e3,e4,an,hs⟩:=h
  refine q04 ?_
  by_cases hlt:i<t.mems.length
  ·have hlt':(i:Int)<t.mems.length:=by omega
   have g1:(t.mems.map memC)[i]?=some (memC t.mems[i]):=by simp [hlt]
   have hw:=q0W (i:=i) (by omega)
   have htk:t.mems.take (i + 1)=t.mems.take i++[t.mems[i]]:=(List.take_append_getElem hlt).symm
   have hbl:=blank_ev t.mems[i].dflt (ht.2.2 _ (List.getElem_mem _)).1
   rw [List.drop_eq_getElem_cons hlt,List.all_cons] at hs
   generalize t.mems[i]=x at *
   simp only [memC] at g1
   simp only [evA,q03] at hbl
   have hlen:(t.mems.take i).length=i:=by simp; omega
   generalize hq:t.mems.take i=q at *
   have hr1:q1E 8 (q.length + 1)=true:=by rw [q0s]; omega
   have hr2:q1E 16 (q.length + 1)=true:=by rw [q0s]; omega
   have q1:q18 1 ((q.map memE).map idC)=true:=q1T _ _ _ fun _=>rfl
   have q2:q18 1 ((q.map memE).map nmC)=true:=q1T _ _ _ fun _=>rfl
   have fail:∀ s',(s'.env 2).v=.bool false->q0J rc x=false->k .ret s'=some (.bool (q4K rc t.mems),none):=fun s' h4 hf=>hk' _ _ (.inr ⟨rfl,by rw [<- hs,hf]; rfl,h4⟩)
   have good:q0J rc x=true->(t.mems.drop (i + 1)).all (q0J rc)=t.mems.all (q0J rc):=fun h=>by rw [<- hs,h]; rfl
   generalize hB:t.mems.all (q0J rc)=B at *
   cases hg:q0J rc x with
   | false =>
    cases hz:x.dflt.same Vl.zero <;> rw [hz] at hbl <;> rcases hk with ⟨h5,rfl⟩ | ⟨h5,rfl⟩ <;> cases hc:x.crit <;> cases hh:x.has <;> first | (simp [q0J,hc,hh,hz] at hg; done) | skip
    all_goals rcases an with ⟨a0,a3,a4⟩ | ⟨a0,a3,a4⟩ <;>
     simp [q2f,-Option.bind_some,-Int.toNat_lt,-List.map_map,List.range_succ,e1,m1,e8,e9,e10,e3,e4,a0,a3,a4,hlt',g1,hw,hr1,hr2,q1,q2,hc,hh,h5,hbl]
    all_goals exact fail _ (by simp) hg
   | true =>
    have good:=good hg
    cases hz:x.dflt.same Vl.zero <;> rw [hz] at hbl <;> rcases hk with ⟨h5,rfl⟩ | ⟨h5,rfl⟩ <;> cases hc:x.crit <;> cases hh:x.has <;> first | (simp [q0J,hc,hh,hz] at hg; done) | skip
    all_goals rcases an with ⟨a0,a3,a4⟩ | ⟨a0,a3,a4⟩ <;>
     simp [q2f,-Option.bind_some,-Int.toNat_lt,-List.map_map,List.range_succ,e1,m1,e8,e9,e10,e3,e4,a0,a3,a4,hlt',g1,hw,hr1,hr2,q1,q2,hc,hh,h5,hbl]
    all_goals refine ih hlt _ ⟨?_,?_,?_,?_,?_,?_,?_,?_,good⟩
    all_goals simp [htk,e1,m1,e8,e9,idC,nmC,memE,An.strip]
  ·have hlt':¬ (i:Int)<t.mems.length:=by omega
   simp [q2f,-Option.bind_some,-Int.toNat_lt,-List.map_map,List.range_succ,e9,e10,hlt']
   rw [List.take_of_length_le (by omega)] at e3 e4
   rw [List.drop_eq_nil_of_le (by omega)] at hs
   exact hk' _ _ (.inl ⟨rfl,hs.symm,by simp [e1],by simp [m1],by simp [e3],by simp [e4]⟩)
 ·simp
 ·unfold q4K
  rcases h with ⟨rfl,h1,e1,m1,e3,e4⟩ | ⟨rfl,h1,e2⟩
  ·rw [h1]
   rcases hk with ⟨h5,rfl⟩ | ⟨h5,rfl⟩
   ·simp [-Option.bind_some,-Int.toNat_lt,-List.map_map,List.range_succ,e1,m1,e3,e4,h5,hids]
   ·by_cases h0:0<t.mems.length
    ·have h0':(0:Int)<t.mems.length:=by omega
     simp [-Option.bind_some,-Int.toNat_lt,-List.map_map,List.range_succ,e1,m1,e3,e4,h5,h0,h0',hids]
    ·have h0':¬ (0:Int)<t.mems.length:=by omega
     simp [-Option.bind_some,-Int.toNat_lt,-List.map_map,List.range_succ,e1,m1,e3,e4,h5,h0,h0']
  ·simp [-Option.bind_some,-Int.toNat_lt,-List.map_map,List.range_succ,h1,e2]
theorem rmembers_ev (l:List Mem) (hl:l.length<=8796093022206) (hok:∀ m∈l,m.ok) (b rec:Bool):evA 76 [.sl b (l.map memC),.bool rec] (.bool (q4K rec l)):=by
  refine q00 (c:=q3w) rfl rfl ?_
  simp [q3w,-Option.bind_some,-Int.toNat_lt,-List.map_map,List.range_succ]
  refine q0h l.length (fun i s=>(s.env 0).v=.sl b (l.map memC)/\(s.env 1).v=.bool rec/\(s.env 5).v=.int .i64 (q2b (l.map memE) i)/\(s.env 6).v=.int .i64 i/\(q1z (q2b (l.map memE) i) ((l.map memE).take i |>.map (·.2)) ((l.map memE).drop i)&&(l.drop i).all (q0J rec))=(q1z 0 [] (l.map memE)&&l.all (q0J rec)))
    (fun e s=>(e=.exit 0/\(q1z 0 [] (l.map memE)&&l.all (q0J rec))=true/\(s.env 0).v=.sl b (l.map memC)/\(s.env 1).v=.bool rec)\/(e=.ret/\(q1z 0 [] (l.map memE)&&l.all (q0J rec))=false/\(s.env 4).v=.bool false)) (fun i hi s k h ih hk=>?_) _ _ ?_ (fun e s h=>?_)
  · obtain ⟨e0,e1,e5,e6,hs⟩:=h
    refine q04 ?_
    by_cases hlt:i<l.length
    · have hlt':(i:Int)<l.length:=by omega
      have g1:(l.map memC)[i]?=some (memC l[i]):=by simp [hlt]
      have hw:=q0W (i:=i) (by omega)
      have hlt2:i<(l.map memE).length:=by simpa using hlt
      have hp:q2b (l.map memE) (i + 1)=l[i].id:=by simp [q2b,hlt,memE]
      have hn:=rname_ev l[i].name
      have hid:=rid_ev (q2b (l.map memE) i) l[i].id
      have hbl:=rblank_ev l[i].dflt (hok _ (List.getElem_mem _)).1
      have hge:(l.map memE)[i]=memE l[i]:=by simp
      have ht:((l.map memE).take (i + 1)).map (·.2)=((l.map memE).take i).map (·.2)++[l[i].name]:=by rw [<- List.take_append_getElem hlt2,hge]; simp [memE]
      rw [List.drop_eq_getElem_cons hlt2,hge,List.drop_eq_getElem_cons hlt,List.all_cons] at hs
      obtain ⟨x,hx⟩:∃ x,x=l[i]:=⟨_,rfl⟩
      rw [<- hx] at g1 hp hn hid ht hs hbl
      simp only [q1z] at hs
      have hs2:((idOk (q2b (l.map memE) i) x.id&&!hasStr x.name (((l.map memE).take i).map (·.2))&&q2X x.name&&q0J rec x)&&(q1z x.id (((l.map memE).take i).map (·.2)++[x.name]) ((l.map memE).drop (i + 1))&&(l.drop (i + 1)).all (q0J rec)))=(q1z 0 [] (l.map memE)&&l.all (q0J rec)):=by
        rw [<- hs]
        simp only [memE,Bool.and_assoc]
        congr 1
        congr 1
        congr 1
        rw [<- Bool.and_assoc,<- Bool.and_assoc,Bool.and_comm (q0J rec x)]
      clear hs
      have fail:∀ s',(s'.env 4).v=.bool false->(idOk (q2b (l.map memE) i) x.id&&!hasStr x.name (((l.map memE).take i).map (·.2))&&q2X x.name&&q0J rec x)=false->k .ret s'=some (.bool (q4K rec l),none):=fun s' h4 hf=>hk _ _ (.inr ⟨rfl,by rw [<- hs2,hf]; rfl,h4⟩)
      simp only [evA,q03] at hn hid hbl
      simp only [memC] at g1
      cases c1:idOk (q2b (l.map memE) i) x.id with
      | false =>
        rw [c1] at hid
        simp [q1t,-Option.bind_some,-Int.toNat_lt,-List.map_map,List.range_succ,e0,e1,e5,e6,hlt',g1,hid]
        exact fail _ (by simp) (by simp [c1])
      | true =>
        rw [c1] at hid
        cases c2:q2X x.name with
        | false =>
          rw [c2] at hn
          simp [q1t,-Option.bind_some,-Int.toNat_lt,-List.map_map,List.range_succ,e0,e1,e5,e6,hlt',g1,hid,hn]
          exact fail _ (by simp) (by simp [c2])
        | true =>
          rw [c2] at hn
          have hseen:((l.map memE).take i).map (·.2)=(l.take i).map Mem.name:=by simp [<- List.map_take,memE,Function.comp_def]
          have inner:∀ s:MSt,q0J rec x=true->(s.env 0).v=.sl b (l.map memC)->(s.env 1).v=.bool rec->(s.env 6).v=.int .i64 i->(s.env 8).v=.int .i64 0->∀ p,(s.env 7).v=.ptr 7 p 0->s.mem 7 p=some ((memC x).map (⟨·,.no⟩)) →
              ∀ k2:Ex->MSt->Option RV,(∀ s',(s'.env 4).v=.bool false->k2 .ret s'=k .ret s')->(∀ s',(s'.env 0).v=.sl b (l.map memC)->(s'.env 1).v=.bool rec->(s'.env 6).v=.int .i64 i->(s'.env 7).v=.ptr 7 p 0->s'.mem 7 p=some ((memC x).map (⟨·,.no⟩))->¬ x.name∈(l.take i).map Mem.name->k2 (.exit 2) s'=some (.bool (q4K rec l),none)) →
              evL allT q02 q1V s k2=some (.bool (q4K rec l),none):=by
            intro s hgood e0 e1 e6 e8 p e7 m7 k2 hk2 hk3
            refine q0h i (fun j s=>(s.env 0).v=.sl b (l.map memC)/\(s.env 1).v=.bool rec/\(s.env 6).v=.int .i64 i/\(s.env 7).v=.ptr 7 p 0/\s.mem 7 p=some ((memC x).map (⟨·,.no⟩))/\(s.env 8).v=.int .i64 j/\¬ x.name∈(l.take j).map Mem.name)
              (fun e s=>(e=.exit 2/\¬ x.name∈(l.take i).map Mem.name/\(s.env 0).v=.sl b (l.map memC)/\(s.env 1).v=.bool rec/\(s.env 6).v=.int .i64 i/\(s.env 7).v=.ptr 7 p 0/\s.mem 7 p=some ((memC x).map (⟨·,.no⟩)))\/(e=.ret/\x.name∈(l.take i).map Mem.name/\(s.env 4).v=.bool false)) (fun j hj s k' h ih' hk'=>?_) _ _ ?_ (fun e s h=>?_)
            · obtain ⟨e0,e1,e6,e7,m7,e8,hm⟩:=h
              refine q04 ?_
              by_cases hji:j<i
              · have hji':(j:Int)<i:=by omega
                have g2:(l.map memC)[j]?=some (memC l[j]):=by simp [show j<l.length from by omega]
                have hwj:=q0W (i:=j) (by omega)
                have htj:l.take (j + 1)=l.take j++[l[j]]:=(List.take_append_getElem (by omega)).symm
                simp only [memC,List.map_cons,List.map_nil] at g2 m7
                by_cases hname:l[j].name=x.name
                · simp [q1V,-Option.bind_some,-Int.toNat_lt,-List.map_map,List.range_succ,e0,e1,e6,e7,m7,e8,hji',g1,g2,hname]
                  refine hk' _ _ (.inr ⟨rfl,?_,by simp⟩)
                  rw [<- hname]
                  exact List.mem_map_of_mem (List.mem_take_iff_getElem.2 ⟨j,by omega,rfl⟩)
                · simp [q1V,-Option.bind_some,-Int.toNat_lt,-List.map_map,List.range_succ,e0,e1,e6,e7,m7,e8,hji',g1,g2,hname,hwj]
                  refine ih' hji _ ⟨?_,?_,?_,?_,?_,?_,?_⟩
                  · simp [e0]
                  · simp [e1]
                  · simp [e6]
                  · simp [e7]
                  · simp [m7,memC]
                  · simp
                  · rw [htj,List.map_append,List.mem_append]
                    rintro (h | h)
                    · exact hm h
                    · simp at h; exact hname h.symm
              · have hji':¬ (j:Int)<i:=by omega
                have hjj:j=i:=by omega
                simp [q1V,-Option.bind_some,-Int.toNat_lt,-List.map_map,List.range_succ,e6,e8,hji']
                exact hk' _ _ (.inl ⟨rfl,hjj ▸ hm,by simp [e0],by simp [e1],by simp [e6],by simp [e7],by simp [m7]⟩)
            · simp [e0,e1,e6,e7,e8,m7]
            · rcases h with ⟨rfl,h1,e0,e1,e6,e7,m7⟩ | ⟨rfl,h1,e4⟩
              · exact hk3 s e0 e1 e6 e7 m7 h1
              · rw [hk2 _ e4]
                exact fail _ e4 (by rw [hseen,q9j h1]; simp)
          have next:∀ s',(s'.env 0).v=.sl b (l.map memC)->(s'.env 1).v=.bool rec->(s'.env 5).v=.int .i64 x.id->(s'.env 6).v=.int .i64 ((i + 1:Nat):Int)->q0J rec x=true->¬ x.name∈(l.take i).map Mem.name->evL allT q02 q1t s' k=some (.bool (q4K rec l),none):=fun s' f0 f1 f5 f6 hg hnm=>ih hlt _ ⟨f0,f1,by rw [hp]; exact f5,f6,by rw [hp,ht,<- hs2,c1,c2,hg,hseen,q9f hnm]; rfl⟩
          cases hz:x.dflt.same Vl.zero <;> rw [hz] at hbl <;> cases rec <;> cases hc:x.crit <;> cases hh:x.has <;>
            simp [q1t,-Option.bind_some,-Int.toNat_lt,-List.map_map,List.range_succ,e0,e1,e5,e6,hlt',g1,hid,hn,hc,hh,hbl] <;>
            first
            | exact fail _ (by simp) (by simp [q0J,hc,hh,hz])
            | (refine inner _ (by simp [q0J,hc,hh,hz]) ?_ ?_ ?_ ?_ (s.next + 1) ?_ ?_ _ ?_ ?_
               · simp [e0]
               · simp [e1]
               · simp [e6]
               · simp
               · simp
               · simp [memC,hc,hh]
               · intro s' _; rfl
               · intro s' f0 f1 f6 f7 fm hnm
                 simp only [memC,List.map_cons,List.map_nil] at fm
                 simp [-Option.bind_some,-Int.toNat_lt,-List.map_map,List.range_succ,f0,f1,f6,f7,fm,hw]
                 refine next _ ?_ ?_ ?_ ?_ (by simp [q0J,hc,hh,hz]) hnm <;> simp [f0,f1])
    · have hlt':¬ (i:Int)<l.length:=by omega
      simp [q1t,-Option.bind_some,-Int.toNat_lt,-List.map_map,List.range_succ,e0,e6,hlt']
      refine hk _ _ (.inl ⟨rfl,?_,by simp [e0],by simp [e1]⟩)
      rw [<- hs,List.drop_eq_nil_of_le (by simp; omega),List.drop_eq_nil_of_le (by omega),q1z]
      rfl
  · simp [q2b]
  · unfold q4K
    rcases h with ⟨rfl,h1,e0,e1⟩ | ⟨rfl,h1,e2⟩
    · rw [Bool.and_eq_true] at h1
      rw [h1.1,h1.2]
      by_cases h16:l.length<=16
      · have h16':(l.length:Int)<=16:=by omega
        cases rec
        · by_cases h0:0<l.length
          · have h0':(1:Int)<=l.length:=by omega
            simp [-Option.bind_some,-Int.toNat_lt,-List.map_map,List.range_succ,e0,e1,h0,h0',h16,h16']
          · have h0':¬ (1:Int)<=l.length:=by omega
            simp [-Option.bind_some,-Int.toNat_lt,-List.map_map,List.range_succ,e0,e1,h0,h0',h16,h16']
        · simp [-Option.bind_some,-Int.toNat_lt,-List.map_map,List.range_succ,e0,e1,h16,h16']
      · have h16':¬ (l.length:Int)<=16:=by omega
        simp [-Option.bind_some,-Int.toNat_lt,-List.map_map,List.range_succ,e0,e1,h16,h16']
    · have:(l.all (q0J rec)&&((rec||decide (0<l.length))&&(q1z 0 [] (l.map memE)&&decide (l.length<=16))))=false:=by
        rw [Bool.and_eq_false_iff] at h1
        rcases h1 with h1 | h1 <;> simp [h1]
      rw [this]
      simp [-Option.bind_some,-Int.toNat_lt,-List.map_map,List.range_succ,e2]
mutual
theorem Vl.same_refl:∀ v:Vl,v.same v=true
 | .mk k b i s d kn ks xn xs rn rs=>by rw [Vl.same]; simp [Vl.sames_refl ks,Vl.sames_refl xs]
theorem Vl.sames_refl:∀ l:List Vl,Vl.sames l l=true
 | []=>by rw [Vl.sames]
 | v :: r=>by rw [Vl.sames]; simp [Vl.same_refl v,Vl.sames_refl r]
end
theorem Mem.same_refl (m:Mem):m.same m=true:=by simp [Mem.same,Vl.same_refl]
theorem q7U:∀ l:List Mem,q0y l l=true
 | []=>rfl
 | m :: r=>by simp [q0y,Mem.same_refl,q7U r]
def q1r:Typ:=⟨0,⟨#[]⟩,0,0,0,true,[],true,[],0,0,false⟩
def Typ.left (t:Typ):Typ :=
 if t.kind=1 then { t with kind:=0 }
 else if t.kind=2 then { t with kind:=0,low:=0,high:=0 }
 else if t.kind=3 then { t with kind:=0,max:=0 }
 else if t.kind=4 then { t with kind:=0,name:=⟨#[]⟩,sn:=true,syms:=[],opn:=false }
 else if t.kind=5 then { t with kind:=0,name:=⟨#[]⟩,mn:=true,mems:=[] }
 else if t.kind=6 then { t with kind:=0,name:=⟨#[]⟩,mn:=true,mems:=[],opn:=false }
 else if t.kind=7 then { t with kind:=0,max:=0,elem:=0 }
 else if t.kind=8 then { t with kind:=0,max:=0,elem:=0,key:=0 }
 else { t with kind:=0,elem:=0 }
def q62 (t:Typ):Bool :=
 if t.kind=2 then decide (t.low<=t.high)
 else if t.kind=3 then decide (0<=t.max)&&decide (t.max<=200)
 else if t.kind=4 then q2X t.name&&q6U t.syms
 else if t.kind=5 then q2X t.name&&q4K true t.mems
 else if t.kind=6 then q2X t.name&&q4K false t.mems
 else if t.kind=7\/t.kind=8 then decide (0<=t.max)&&decide (t.max<=50)
 else true
def q0N (t:Typ):Bool:=decide (1<=t.kind/\t.kind<=9)&&(q62 t&&t.left.same q1r)
def Typ.fine (t:Typ):Prop:=t.ok/\t.syms.length<=8796093022206/\t.mems.length<=8796093022206
theorem ok_of {t u:Typ} (h:t.ok) (h1:u.syms=t.syms\/u.syms=[]) (h2:u.mems=t.mems\/u.mems=[]):u.ok:=by
 refine ⟨?_,?_,?_⟩
 ·rcases h1 with h1 | h1
  ·rw [h1]; exact h.1
  ·rw [h1]; simp
 ·rcases h2 with h2 | h2
  ·rw [h2]; exact h.2.1
  ·rw [h2]; simp
 ·rcases h2 with h2 | h2
  ·rw [h2]; exact h.2.2
  ·rw [h2]; simp
theorem left_ok {t:Typ} (h:t.ok):t.left.ok:=by
 unfold Typ.left
 by_cases h1:t.kind=1
 ·rw [if_pos h1]; exact ok_of h (.inl rfl) (.inl rfl)
 by_cases h2:t.kind=2
 ·rw [if_neg h1,if_pos h2]; exact ok_of h (.inl rfl) (.inl rfl)
 by_cases h3:t.kind=3
 ·rw [if_neg h1,if_neg h2,if_pos h3]; exact ok_of h (.inl rfl) (.inl rfl)
 by_cases h4:t.kind=4
 ·rw [if_neg h1,if_neg h2,if_neg h3,if_pos h4]; exact ok_of h (.inr rfl) (.inl rfl)
 by_cases h5:t.kind=5
 ·rw [if_neg h1,if_neg h2,if_neg h3,if_neg h4,if_pos h5]; exact ok_of h (.inl rfl) (.inr rfl)
 by_cases h6:t.kind=6
 ·rw [if_neg h1,if_neg h2,if_neg h3,if_neg h4,if_neg h5,if_pos h6]; exact ok_of h (.inl rfl) (.inr rfl)
 rw [if_neg h1,if_neg h2,if_neg h3,if_neg h4,if_neg h5,if_neg h6]
 by_cases h7:t.kind=7
 ·rw [if_pos h7]; exact ok_of h (.inl rfl) (.inl rfl)
 by_cases h8:t.kind=8
 ·rw [if_neg h7,if_pos h8]; exact ok_of h (.inl rfl) (.inl rfl)
 rw [if_neg h7,if_neg h8]; exact ok_of h (.inl rfl) (.inl rfl)
theorem q8O (k:Int):k=1\/k=2\/k=3\/k=4\/k=5\/k=6\/k=7\/k=8\/k=9\/¬ (1<=k/\k<=9):=by omega
def Typ.plain (t:Typ):Typ :=
 if t.kind=1 then { q1r with kind:=t.kind }
 else if t.kind=2 then { q1r with kind:=t.kind,low:=t.low,high:=t.high }
 else if t.kind=3 then { q1r with kind:=t.kind,max:=t.max }
 else if t.kind=4 then { q1r with kind:=t.kind,name:=t.name,sn:=t.sn,syms:=t.syms,opn:=t.opn }
 else if t.kind=5 then { q1r with kind:=t.kind,name:=t.name,mn:=t.mn,mems:=t.mems }
 else if t.kind=6 then { q1r with kind:=t.kind,name:=t.name,mn:=t.mn,mems:=t.mems,opn:=t.opn }
 else if t.kind=7 then { q1r with kind:=t.kind,max:=t.max,elem:=t.elem }
 else if t.kind=8 then { q1r with kind:=t.kind,max:=t.max,elem:=t.elem,key:=t.key }
 else { q1r with kind:=t.kind,elem:=t.elem }
theorem plain_same (t:Typ):t.same t.plain=t.left.same q1r:=by
 unfold Typ.plain Typ.left
 repeat' split
 all_goals simp [Typ.same,q1r,q7U,q0y, *]
theorem q4B (t:Typ):evA 73 [.agg (typC t)] (.agg (typC t.plain)):=by
 refine q00 (c:=q3q) rfl rfl ?_
 unfold Typ.plain
 rcases q8O t.kind with h | h | h | h | h | h | h | h | h | h
 case inr.inr.inr.inr.inr.inr.inr.inr.inr =>
  have q:∀ n:Int,1<=n->n<=9->¬ t.kind=n:=fun n h1 h2 e=>h ⟨by omega,by omega⟩
  simp [q3q,-Option.bind_some,-Int.toNat_lt,-List.map_map,List.range_succ,typC,q,q1r]
 all_goals simp [q3q,-Option.bind_some,-Int.toNat_lt,-List.map_map,List.range_succ,typC,h,q1r]
def Typ.named (t:Typ):Bool:=decide (t.kind=4)||decide (t.kind=5)||decide (t.kind=6)
theorem q1w (k:Int):evA 52 [.int .i64 k] (.bool (decide (k=4)||decide (k=5)||decide (k=6))):=by
 refine q00 (c:=q4q) rfl rfl ?_
 by_cases h1:k=4 <;> by_cases h2:k=5 <;> by_cases h3:k=6 <;> simp [q4q,-Option.bind_some,-Int.toNat_lt,-List.map_map,List.range_succ,h1,h2,h3]
theorem keykind_ev (k:Int):evA 61 [.int .i64 k] (.bool (decide (1<=k/\k<=4))):=by
 refine q00 (c:=q3o) rfl rfl ?_
 by_cases h1:1<=k <;> by_cases h2:k<=4 <;> simp [q3o,-Option.bind_some,-Int.toNat_lt,-List.map_map,List.range_succ,h1,h2]
theorem own_ev1 (t:Typ) (h:t.kind=1) {T:Bool} (hs:evA 72 [.agg (typC t),.agg (typC t.plain)] (.bool T)):evA 59 [.agg (typC t)] (.bool (T)):=by
 have hp:=q4B t
 obtain ⟨pc,hpc⟩:∃ pc,typC t.plain=pc:=⟨_,rfl⟩
 have hpf:pc.all AV.free0=true:=by rw [<- hpc]; rfl
 rw [hpc] at hp hs
 have hnm:=q1w t.kind
 refine q00 (c:=q0a) rfl rfl ?_
 simp [evA,typC,h] at hs hp hnm
 cases T with
 | false=>simp [q0a,-Option.bind_some,-Int.toNat_lt,-List.map_map,List.range_succ,typC,h,hp,hs,hnm,hpf,-List.all_eq_true]
 | true =>
  simp [q0a,-Option.bind_some,-Int.toNat_lt,-List.map_map,List.range_succ,typC,h,hp,hs,hnm,hpf,-List.all_eq_true]
theorem own_ev2 (t:Typ) (h:t.kind=2) {T:Bool} (hs:evA 72 [.agg (typC t),.agg (typC t.plain)] (.bool T)):evA 59 [.agg (typC t)] (.bool (T&&decide (t.low<=t.high))):=by
 have hp:=q4B t
 obtain ⟨pc,hpc⟩:∃ pc,typC t.plain=pc:=⟨_,rfl⟩
 have hpf:pc.all AV.free0=true:=by rw [<- hpc]; rfl
 rw [hpc] at hp hs
 have hnm:=q1w t.kind
 refine q00 (c:=q0a) rfl rfl ?_
 simp [evA,typC,h] at hs hp hnm
 cases T with
 | false=>simp [q0a,-Option.bind_some,-Int.toNat_lt,-List.map_map,List.range_succ,typC,h,hp,hs,hnm,hpf,-List.all_eq_true]
 | true =>
  simp [q0a,-Option.bind_some,-Int.toNat_lt,-List.map_map,List.range_succ,typC,h,hp,hs,hnm,hpf,-List.all_eq_true]
theorem own_ev3 (t:Typ) (h:t.kind=3) {T:Bool} (hs:evA 72 [.agg (typC t),.agg (typC t.plain)] (.bool T)):evA 59 [.agg (typC t)] (.bool (T&&(decide (0<=t.max)&&decide (t.max<=200)))):=by
 have hp:=q4B t
 obtain ⟨pc,hpc⟩:∃ pc,typC t.plain=pc:=⟨_,rfl⟩
 have hpf:pc.all AV.free0=true:=by rw [<- hpc]; rfl
 rw [hpc] at hp hs
 have hnm:=q1w t.kind
 refine q00 (c:=q0a) rfl rfl ?_
 simp [evA,typC,h] at hs hp hnm
 cases T with
 | false=>simp [q0a,-Option.bind_some,-Int.toNat_lt,-List.map_map,List.range_succ,typC,h,hp,hs,hnm,hpf,-List.all_eq_true]
 | true =>
  by_cases h1:0<=t.max
  ·simp [q0a,-Option.bind_some,-Int.toNat_lt,-List.map_map,List.range_succ,typC,h,hp,hs,hnm,hpf,-List.all_eq_true,h1]
  ·simp [q0a,-Option.bind_some,-Int.toNat_lt,-List.map_map,List.range_succ,typC,h,hp,hs,hnm,hpf,-List.all_eq_true,h1]
theorem own_ev7 (t:Typ) (h:t.kind=7) {T:Bool} (hs:evA 72 [.agg (typC t),.agg (typC t.plain)] (.bool T)):evA 59 [.agg (typC t)] (.bool (T&&(decide (0<=t.max)&&decide (t.max<=50)))):=by
 have hp:=q4B t
 obtain ⟨pc,hpc⟩:∃ pc,typC t.plain=pc:=⟨_,rfl⟩
 have hpf:pc.all AV.free0=true:=by rw [<- hpc]; rfl
 rw [hpc] at hp hs
 have hnm:=q1w t.kind
 refine q00 (c:=q0a) rfl rfl ?_
 simp [evA,typC,h] at hs hp hnm
 cases T with
 | false=>simp [q0a,-Option.bind_some,-Int.toNat_lt,-List.map_map,List.range_succ,typC,h,hp,hs,hnm,hpf,-List.all_eq_true]
 | true =>
  by_cases h1:0<=t.max
  ·simp [q0a,-Option.bind_some,-Int.toNat_lt,-List.map_map,List.range_succ,typC,h,hp,hs,hnm,hpf,-List.all_eq_true,h1]
  ·simp [q0a,-Option.bind_some,-Int.toNat_lt,-List.map_map,List.range_succ,typC,h,hp,hs,hnm,hpf,-List.all_eq_true,h1]
theorem own_ev8 (t:Typ) (h:t.kind=8) {T:Bool} (hs:evA 72 [.agg (typC t),.agg (typC t.plain)] (.bool T)):evA 59 [.agg (typC t)] (.bool (T&&(decide (0<=t.max)&&decide (t.max<=50)))):=by
 have hp:=q4B t
 obtain ⟨pc,hpc⟩:∃ pc,typC t.plain=pc:=⟨_,rfl⟩
 have hpf:pc.all AV.free0=true:=by rw [<- hpc]; rfl
 rw [hpc] at hp hs
 have hnm:=q1w t.kind
 refine q00 (c:=q0a) rfl rfl ?_
 simp [evA,typC,h] at hs hp hnm
 cases T with
 | false=>simp [q0a,-Option.bind_some,-Int.toNat_lt,-List.map_map,List.range_succ,typC,h,hp,hs,hnm,hpf,-List.all_eq_true]
 | true =>
  by_cases h1:0<=t.max
  ·simp [q0a,-Option.bind_some,-Int.toNat_lt,-List.map_map,List.range_succ,typC,h,hp,hs,hnm,hpf,-List.all_eq_true,h1]
  ·simp [q0a,-Option.bind_some,-Int.toNat_lt,-List.map_map,List.range_succ,typC,h,hp,hs,hnm,hpf,-List.all_eq_true,h1]
theorem own_ev9 (t:Typ) (h:t.kind=9) {T:Bool} (hs:evA 72 [.agg (typC t),.agg (typC t.plain)] (.bool T)):evA 59 [.agg (typC t)] (.bool (T)):=by
 have hp:=q4B t
 obtain ⟨pc,hpc⟩:∃ pc,typC t.plain=pc:=⟨_,rfl⟩
 have hpf:pc.all AV.free0=true:=by rw [<- hpc]; rfl
 rw [hpc] at hp hs
 have hnm:=q1w t.kind
 refine q00 (c:=q0a) rfl rfl ?_
 simp [evA,typC,h] at hs hp hnm
 cases T with
 | false=>simp [q0a,-Option.bind_some,-Int.toNat_lt,-List.map_map,List.range_succ,typC,h,hp,hs,hnm,hpf,-List.all_eq_true]
 | true =>
  simp [q0a,-Option.bind_some,-Int.toNat_lt,-List.map_map,List.range_succ,typC,h,hp,hs,hnm,hpf,-List.all_eq_true]
theorem own_ev4 (t:Typ) (h:t.kind=4) {T:Bool} (hs:evA 72 [.agg (typC t),.agg (typC t.plain)] (.bool T)) {a b:Bool} (hn:evA 74 [.str t.name] (.bool a)) (hy:evA 75 [.sl t.sn (t.syms.map symC)] (.bool b)):evA 59 [.agg (typC t)] (.bool (T&&(a&&b))):=by
 have hp:=q4B t
 obtain ⟨pc,hpc⟩:∃ pc,typC t.plain=pc:=⟨_,rfl⟩
 have hpf:pc.all AV.free0=true:=by rw [<- hpc]; rfl
 rw [hpc] at hp hs
 have hnm:=q1w t.kind
 refine q00 (c:=q0a) rfl rfl ?_
 simp [evA,typC,h] at hs hp hnm
 simp only [evA] at hn hy
 cases T with
 | false=>simp [q0a,-Option.bind_some,-Int.toNat_lt,-List.map_map,List.range_succ,typC,h,hp,hs,hnm,hpf,-List.all_eq_true]
 | true =>
  cases a with
  | false=>simp [q0a,-Option.bind_some,-Int.toNat_lt,-List.map_map,List.range_succ,typC,h,hp,hs,hnm,hpf,-List.all_eq_true,hn]
  | true=>simp [q0a,-Option.bind_some,-Int.toNat_lt,-List.map_map,List.range_succ,typC,h,hp,hs,hnm,hpf,-List.all_eq_true,hn,hy]
theorem own_ev5 (t:Typ) (h:t.kind=5) {T:Bool} (hs:evA 72 [.agg (typC t),.agg (typC t.plain)] (.bool T)) {a b:Bool} (hn:evA 74 [.str t.name] (.bool a)) (hy:evA 76 [.sl t.mn (t.mems.map memC),.bool true] (.bool b)):evA 59 [.agg (typC t)] (.bool (T&&(a&&b))):=by
 have hp:=q4B t
 obtain ⟨pc,hpc⟩:∃ pc,typC t.plain=pc:=⟨_,rfl⟩
 have hpf:pc.all AV.free0=true:=by rw [<- hpc]; rfl
 rw [hpc] at hp hs
 have hnm:=q1w t.kind
 refine q00 (c:=q0a) rfl rfl ?_
 simp [evA,typC,h] at hs hp hnm
 simp only [evA] at hn hy
 cases T with
 | false=>simp [q0a,-Option.bind_some,-Int.toNat_lt,-List.map_map,List.range_succ,typC,h,hp,hs,hnm,hpf,-List.all_eq_true]
 | true =>
  cases a with
  | false=>simp [q0a,-Option.bind_some,-Int.toNat_lt,-List.map_map,List.range_succ,typC,h,hp,hs,hnm,hpf,-List.all_eq_true,hn]
  | true=>simp [q0a,-Option.bind_some,-Int.toNat_lt,-List.map_map,List.range_succ,typC,h,hp,hs,hnm,hpf,-List.all_eq_true,hn,hy]
theorem own_ev6 (t:Typ) (h:t.kind=6) {T:Bool} (hs:evA 72 [.agg (typC t),.agg (typC t.plain)] (.bool T)) {a b:Bool} (hn:evA 74 [.str t.name] (.bool a)) (hy:evA 76 [.sl t.mn (t.mems.map memC),.bool false] (.bool b)):evA 59 [.agg (typC t)] (.bool (T&&(a&&b))):=by
 have hp:=q4B t
 obtain ⟨pc,hpc⟩:∃ pc,typC t.plain=pc:=⟨_,rfl⟩
 have hpf:pc.all AV.free0=true:=by rw [<- hpc]; rfl
 rw [hpc] at hp hs
 have hnm:=q1w t.kind
 refine q00 (c:=q0a) rfl rfl ?_
 simp [evA,typC,h] at hs hp hnm
 simp only [evA] at hn hy
 cases T with
 | false=>simp [q0a,-Option.bind_some,-Int.toNat_lt,-List.map_map,List.range_succ,typC,h,hp,hs,hnm,hpf,-List.all_eq_true]
 | true =>
  cases a with
  | false=>simp [q0a,-Option.bind_some,-Int.toNat_lt,-List.map_map,List.range_succ,typC,h,hp,hs,hnm,hpf,-List.all_eq_true,hn]
  | true=>simp [q0a,-Option.bind_some,-Int.toNat_lt,-List.map_map,List.range_succ,typC,h,hp,hs,hnm,hpf,-List.all_eq_true,hn,hy]
theorem own_ev0 (t:Typ) (h:¬ (1<=t.kind/\t.kind<=9)):evA 59 [.agg (typC t)] (.bool false):=by
 refine q00 (c:=q0a) rfl rfl ?_
 by_cases h1:t.kind<1
 ·simp [q0a,-Option.bind_some,-Int.toNat_lt,-List.map_map,List.range_succ,typC,h1]
 ·have h2:9<t.kind:=by omega
  simp [q0a,-Option.bind_some,-Int.toNat_lt,-List.map_map,List.range_succ,typC,h1,h2]
theorem own_ev (t:Typ) (ht:t.fine):evA 59 [.agg (typC t)] (.bool (q0N t)):=by
 obtain ⟨hok,hsl,hml⟩:=ht
 have hs:=rtsame_ev t t.plain hok
 rw [plain_same] at hs
 have hn:=rname_ev t.name
 have hsy:=rsymbols_ev t.syms hsl t.sn
 have hme:=fun r=>rmembers_ev t.mems hml hok.2.2 t.mn r
 unfold q0N q62
 rcases q8O t.kind with h | h | h | h | h | h | h | h | h | h
 ·have r:=own_ev1 t h hs; simpa [h] using r
 ·have r:=own_ev2 t h hs; rw [Bool.and_comm] at r; simpa [h] using r
 ·have r:=own_ev3 t h hs; rw [Bool.and_comm] at r; simpa [h] using r
 ·have r:=own_ev4 t h hs hn hsy; rw [Bool.and_comm] at r; simpa [h] using r
 ·have r:=own_ev5 t h hs hn (hme true); rw [Bool.and_comm] at r; simpa [h] using r
 ·have r:=own_ev6 t h hs hn (hme false); rw [Bool.and_comm] at r; simpa [h] using r
 ·have r:=own_ev7 t h hs; rw [Bool.and_comm] at r; simpa [h] using r
 ·have r:=own_ev8 t h hs; rw [Bool.and_comm] at r; simpa [h] using r
 ·have r:=own_ev9 t h hs; simpa [h] using r
 ·have r:=own_ev0 t h; rw [decide_eq_false h]; exact r
end Go.Proofs.YtdjomefkhdimaaaGreat
