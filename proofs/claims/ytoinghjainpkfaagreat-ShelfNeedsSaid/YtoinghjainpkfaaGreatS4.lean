import Derived.Test.YtoinghjainpkfaaGreatS3
/- What the claim hangs on, part 4: VZ SA PA PB PC PD. -/
set_option linter.unusedVariables false
set_option maxRecDepth 100000
namespace Go.VI
def c7 : ACode:=(.seq (.region [⟨(some 4),(.box 2 (.tmp 1)),none⟩,⟨(some 6),(.mov (.const (.bool false))),none⟩] false []) (.seq (.seq (.region [⟨(some 15),(.load true 2 (.tmp 4)),none⟩,⟨(some 16),(.call (.func 15) [(.tmp 15)]),none⟩,⟨(some 17),(.un .not (.tmp 16)),none⟩,⟨(some 18),(.mov (.tmp 17)),none⟩,⟨(some 19),(.load true 2 (.tmp 4)),(some ((some 18),false))⟩,⟨(some 20),(.call (.func 21) [(.tmp 19)]),(some ((some 18),false))⟩,⟨(some 21),(.un .not (.tmp 20)),(some ((some 18),false))⟩,⟨(some 22),(.pick (.tmp 18) (.const (.bool true)) (.tmp 21)),none⟩,⟨(some 23),(.mov (.tmp 22)),none⟩,⟨(some 24),(.mov (.tmp 0)),(some ((some 23),false))⟩,⟨(some 25),(.bin .lss 3 (.tmp 24) (.const (.int .i64 1))),(some ((some 23),false))⟩,⟨(some 26),(.pick (.tmp 23) (.const (.bool true)) (.tmp 25)),none⟩,⟨(some 27),(.mov (.tmp 26)),none⟩,⟨(some 28),(.mov (.tmp 0)),(some ((some 27),false))⟩,⟨(some 29),(.bin .gtr 3 (.tmp 28) (.const (.int .i64 2))),(some ((some 27),false))⟩,⟨(some 30),(.pick (.tmp 27) (.const (.bool true)) (.tmp 29)),none⟩,⟨(some 31),(.mov (.tmp 30)),none⟩,⟨(some 32),(.mov (.tmp 2)),(some ((some 31),false))⟩,⟨(some 33),(.bin .lss 3 (.tmp 32) (.const (.int .i64 2))),(some ((some 31),false))⟩,⟨(some 34),(.pick (.tmp 31) (.const (.bool true)) (.tmp 33)),none⟩,⟨(some 35),(.mov (.tmp 34)),none⟩,⟨(some 36),(.mov (.tmp 2)),(some ((some 35),false))⟩,⟨(some 37),(.bin .geq 3 (.tmp 36) (.const (.int .i64 16384))),(some ((some 35),false))⟩,⟨(some 38),(.pick (.tmp 35) (.const (.bool true)) (.tmp 37)),none⟩] false []) (.cond (.tmp 38) (.seq (.region [⟨(some 39),(.call (.func 8) []),none⟩,⟨(some 6),(.mov (.tmp 39)),none⟩] false []) .ret) .skip)) (.seq (.region [⟨(some 40),(.load true 2 (.tmp 4)),none⟩,⟨(some 41),(.call (.func 17) [(.tmp 40)]),none⟩,⟨(some 7),(.alloc [(.sc (.slice none 0 0)),(.sc (.slice none 0 0))]),none⟩,⟨none,(.store 2 (.tmp 7) (.tmp 41)),none⟩] false []) (.seq (.seq (.region [⟨(some 42),(.faddr 0 (.tmp 7)),none⟩,⟨(some 43),(.load false 1 (.tmp 42)),none⟩,⟨(some 44),(.mov (.tmp 2)),none⟩,⟨(some 45),(.call (.func 23) [(.tmp 43),(.tmp 44)]),none⟩,⟨(some 46),(.mov (.tmp 45)),none⟩,⟨(some 47),(.faddr 1 (.tmp 7)),(some ((some 46),false))⟩,⟨(some 48),(.load false 1 (.tmp 47)),(some ((some 46),false))⟩,⟨(some 49),(.mov (.tmp 2)),(some ((some 46),false))⟩,⟨(some 50),(.call (.func 23) [(.tmp 48),(.tmp 49)]),(some ((some 46),false))⟩,⟨(some 51),(.pick (.tmp 46) (.const (.bool true)) (.tmp 50)),none⟩] false []) (.cond (.tmp 51) (.seq (.region [⟨(some 52),(.call (.func 8) []),none⟩,⟨(some 6),(.mov (.tmp 52)),none⟩] false []) .ret) .skip)) (.seq (.region [⟨(some 53),(.mov (.tmp 0)),none⟩,⟨(some 54),(.load true 2 (.tmp 7)),none⟩,⟨(some 55),(.call (.func 16) [(.tmp 53),(.tmp 54)]),none⟩,⟨(some 8),(.mov (.tmp 55)),none⟩] false []) (.seq (.region [⟨(some 57),(.faddr 0 (.tmp 7)),none⟩,⟨(some 58),(.load false 1 (.tmp 57)),none⟩,⟨(some 59),(.mov (.tmp 2)),none⟩,⟨(some 60),(.build [(.sc (.int .i64 0)),(.sc (.int .i64 0))] [(0,(1,(.tmp 59))),(1,(1,(.const (.int .i64 1))))]),none⟩,⟨(some 61),(.call (.func 24) [(.tmp 58),(.tmp 60)]),none⟩,⟨(some 56),(.mov (.tmp 61)),none⟩,⟨(some 62),(.ext (.tmp 56) 0),none⟩,⟨(some 63),(.ext (.tmp 56) 1),none⟩,⟨(some 9),(.mov (.tmp 62)),none⟩,⟨(some 10),(.mov (.tmp 63)),none⟩] false []) (.seq (.region [⟨(some 65),(.faddr 1 (.tmp 7)),none⟩,⟨(some 66),(.load false 1 (.tmp 65)),none⟩,⟨(some 67),(.mov (.tmp 2)),none⟩,⟨(some 68),(.build [(.sc (.int .i64 0)),(.sc (.int .i64 0))] [(0,(1,(.tmp 67))),(1,(1,(.const (.int .i64 1))))]),none⟩,⟨(some 69),(.call (.func 24) [(.tmp 66),(.tmp 68)]),none⟩,⟨(some 64),(.mov (.tmp 69)),none⟩,⟨(some 70),(.ext (.tmp 64) 0),none⟩,⟨(some 71),(.ext (.tmp 64) 1),none⟩,⟨(some 11),(.mov (.tmp 70)),none⟩,⟨(some 12),(.mov (.tmp 71)),none⟩] false []) (.seq (.region [⟨(some 72),(.mov (.tmp 0)),none⟩,⟨(some 73),(.mov (.tmp 9)),none⟩,⟨(some 74),(.faddr 1 (.tmp 7)),none⟩,⟨(some 75),(.load false 1 (.tmp 74)),none⟩,⟨(some 76),(.build [(.sc (.slice none 0 0)),(.sc (.slice none 0 0))] [(0,(1,(.tmp 73))),(1,(1,(.tmp 75)))]),none⟩,⟨(some 77),(.call (.func 16) [(.tmp 72),(.tmp 76)]),none⟩,⟨(some 78),(.mov (.tmp 0)),none⟩,⟨(some 79),(.faddr 0 (.tmp 7)),none⟩,⟨(some 80),(.load false 1 (.tmp 79)),none⟩,⟨(some 81),(.mov (.tmp 11)),none⟩,⟨(some 82),(.build [(.sc (.slice none 0 0)),(.sc (.slice none 0 0))] [(0,(1,(.tmp 80))),(1,(1,(.tmp 81)))]),none⟩,⟨(some 83),(.call (.func 16) [(.tmp 78),(.tmp 82)]),none⟩,⟨(some 13),(.mov (.tmp 77)),none⟩,⟨(some 14),(.mov (.tmp 83)),none⟩] true [(5,8)]) (.seq (.region [⟨(some 84),(.call (.func 8) []),none⟩,⟨(some 85),(.mov (.tmp 84)),none⟩,⟨(some 86),(.mov (.tmp 10)),(some ((some 85),true))⟩,⟨(some 87),(.pick (.tmp 85) (.tmp 86) (.const (.bool false))),none⟩,⟨(some 88),(.mov (.tmp 87)),none⟩,⟨(some 89),(.mov (.tmp 12)),(some ((some 88),true))⟩,⟨(some 90),(.pick (.tmp 88) (.tmp 89) (.const (.bool false))),none⟩,⟨(some 91),(.mov (.tmp 90)),none⟩,⟨(some 92),(.mov (.tmp 13)),(some ((some 91),true))⟩,⟨(some 93),(.mov (.tmp 14)),(some ((some 91),true))⟩,⟨(some 94),(.bin .eql 3 (.tmp 92) (.tmp 93)),(some ((some 91),true))⟩,⟨(some 95),(.pick (.tmp 91) (.tmp 94) (.const (.bool false))),none⟩,⟨(some 96),(.mov (.tmp 95)),none⟩,⟨(some 97),(.mov (.tmp 13)),(some ((some 96),true))⟩,⟨(some 98),(.mov (.tmp 8)),(some ((some 96),true))⟩,⟨(some 99),(.bin .geq 3 (.tmp 97) (.tmp 98)),(some ((some 96),true))⟩,⟨(some 100),(.pick (.tmp 96) (.tmp 99) (.const (.bool false))),none⟩,⟨(some 101),(.mov (.tmp 100)),none⟩,⟨(some 102),(.mov (.tmp 13)),(some ((some 101),true))⟩,⟨(some 103),(.mov (.tmp 8)),(some ((some 101),true))⟩,⟨(some 104),(.bin .add 3 (.tmp 103) (.const (.int .i64 1))),(some ((some 101),true))⟩,⟨(some 105),(.bin .leq 3 (.tmp 102) (.tmp 104)),(some ((some 101),true))⟩,⟨(some 106),(.pick (.tmp 101) (.tmp 105) (.const (.bool false))),none⟩,⟨(some 107),(.mov (.tmp 106)),none⟩,⟨(some 108),(.mov (.tmp 13)),(some ((some 107),true))⟩,⟨(some 109),(.bin .geq 3 (.tmp 108) (.const (.int .i64 1))),(some ((some 107),true))⟩,⟨(some 110),(.pick (.tmp 107) (.tmp 109) (.const (.bool false))),none⟩,⟨(some 6),(.mov (.tmp 110)),none⟩] false []) .ret)))))))))
def r7 : List ARes:=[(.tmp 6)]
def c8 : ACode:=(.seq (.region [⟨(some 0),(.mov (.const (.bool false))),none⟩] false []) (.seq (.region [⟨(some 12),(.build [(.sc (.int .i64 0)),(.sc (.int .i64 0))] [(0,(1,(.const (.int .i64 5)))),(1,(1,(.const (.int .i64 2))))]),none⟩,⟨(some 13),(.bslice 2 [(.sc (.int .i64 0)),(.sc (.int .i64 0))] 1 [(0,(.tmp 12))]),none⟩,⟨(some 14),(.build [(.sc (.int .i64 0)),(.sc (.int .i64 0))] [(0,(1,(.const (.int .i64 9)))),(1,(1,(.const (.int .i64 1))))]),none⟩,⟨(some 15),(.bslice 2 [(.sc (.int .i64 0)),(.sc (.int .i64 0))] 1 [(0,(.tmp 14))]),none⟩,⟨(some 16),(.build [(.sc (.slice none 0 0)),(.sc (.slice none 0 0))] [(0,(1,(.tmp 13))),(1,(1,(.tmp 15)))]),none⟩,⟨(some 1),(.alloc [(.sc (.slice none 0 0)),(.sc (.slice none 0 0))]),none⟩,⟨none,(.store 2 (.tmp 1) (.tmp 16)),none⟩] false []) (.seq (.region [⟨(some 18),(.load true 2 (.tmp 1)),none⟩,⟨(some 19),(.bslice 1 [(.sc (.int .i64 0))] 1 [(0,(.const (.int .i64 3)))]),none⟩,⟨(some 20),(.call (.func 18) [(.const (.int .i64 1)),(.tmp 18),(.tmp 19)]),none⟩,⟨(some 17),(.mov (.tmp 20)),none⟩,⟨(some 21),(.ext (.tmp 17) 0),none⟩,⟨(some 22),(.ext (.tmp 17) 1),none⟩,⟨(some 2),(.alloc [(.sc (.slice none 0 0))]),none⟩,⟨none,(.store 1 (.tmp 2) (.tmp 21)),none⟩,⟨(some 3),(.mov (.tmp 22)),none⟩] false []) (.seq (.seq (.region [⟨(some 23),(.mov (.tmp 3)),none⟩,⟨(some 24),(.bin .neq 29 (.tmp 23) (.const (.int .i64 0))),none⟩,⟨(some 25),(.mov (.tmp 24)),none⟩,⟨(some 26),(.load false 1 (.tmp 2)),(some ((some 25),false))⟩,⟨(some 27),(.len 0 (.tmp 26)),(some ((some 25),false))⟩,⟨(some 28),(.bin .neq 3 (.tmp 27) (.const (.int .i64 1))),(some ((some 25),false))⟩,⟨(some 29),(.pick (.tmp 25) (.const (.bool true)) (.tmp 28)),none⟩,⟨(some 30),(.mov (.tmp 29)),none⟩,⟨(some 31),(.load false 1 (.tmp 2)),(some ((some 30),false))⟩,⟨(some 32),(.iaddr none 1 (.tmp 31) (.const (.int .i64 0))),(some ((some 30),false))⟩,⟨(some 33),(.load false 1 (.tmp 32)),(some ((some 30),false))⟩,⟨(some 34),(.len 0 (.tmp 33)),(some ((some 30),false))⟩,⟨(some 35),(.bin .neq 3 (.tmp 34) (.const (.int .i64 256))),(some ((some 30),false))⟩,⟨(some 36),(.pick (.tmp 30) (.const (.bool true)) (.tmp 35)),none⟩] false []) (.cond (.tmp 36) (.seq (.region [⟨(some 0),(.mov (.const (.bool false))),none⟩] false []) .ret) .skip)) (.seq (.region [⟨(some 38),(.mkfn (.func 25) [] [(.tmp 2)]),none⟩,⟨(some 39),(.call (.func 9) [(.tmp 38),(.const (.int .i64 3))]),none⟩,⟨(some 37),(.mov (.tmp 39)),none⟩,⟨(some 40),(.ext (.tmp 37) 0),none⟩,⟨(some 41),(.ext (.tmp 37) 1),none⟩,⟨(some 42),(.ext (.tmp 37) 2),none⟩,⟨(some 43),(.ext (.tmp 37) 3),none⟩,⟨(some 5),(.alloc [(.sc (.slice none 0 0)),(.sc (.slice none 0 0))]),none⟩,⟨(some 4),(.mov (.tmp 40)),none⟩,⟨none,(.store 2 (.tmp 5) (.tmp 41)),none⟩,⟨(some 6),(.mov (.tmp 42)),none⟩,⟨(some 7),(.mov (.tmp 43)),none⟩] false []) (.seq (.region [⟨(some 45),(.call (.func 9) [(.const .nilFunc),(.const (.int .i64 3))]),none⟩,⟨(some 44),(.mov (.tmp 45)),none⟩,⟨(some 46),(.ext (.tmp 44) 0),none⟩,⟨(some 47),(.ext (.tmp 44) 1),none⟩,⟨(some 48),(.ext (.tmp 44) 2),none⟩,⟨(some 49),(.ext (.tmp 44) 3),none⟩,⟨(some 9),(.alloc [(.sc (.slice none 0 0)),(.sc (.slice none 0 0))]),none⟩,⟨(some 8),(.mov (.tmp 46)),none⟩,⟨none,(.store 2 (.tmp 9) (.tmp 47)),none⟩,⟨(some 10),(.mov (.tmp 48)),none⟩,⟨(some 11),(.mov (.tmp 49)),none⟩] false []) (.seq (.region [⟨(some 50),(.load false 1 (.tmp 2)),none⟩,⟨(some 51),(.iaddr none 1 (.tmp 50) (.const (.int .i64 0))),none⟩,⟨(some 52),(.load false 1 (.tmp 51)),none⟩,⟨(some 53),(.slice 1 (.tmp 52) none (some (.const (.int .i64 24))) none),none⟩,⟨(some 54),(.bslice 1 [(.sc (.int .u8 0))] 24 [(0,(.const (.int .u8 70))),(1,(.const (.int .u8 1))),(2,(.const (.int .u8 3))),(3,(.const (.int .u8 0))),(4,(.const (.int .u8 0))),(5,(.const (.int .u8 0))),(6,(.const (.int .u8 0))),(7,(.const (.int .u8 0))),(8,(.const (.int .u8 1))),(9,(.const (.int .u8 0))),(10,(.const (.int .u8 0))),(11,(.const (.int .u8 0))),(12,(.const (.int .u8 5))),(13,(.const (.int .u8 0))),(14,(.const (.int .u8 0))),(15,(.const (.int .u8 0))),(16,(.const (.int .u8 6))),(17,(.const (.int .u8 0))),(18,(.const (.int .u8 0))),(19,(.const (.int .u8 0))),(20,(.const (.int .u8 9))),(21,(.const (.int .u8 0))),(22,(.const (.int .u8 0))),(23,(.const (.int .u8 0)))]),none⟩,⟨(some 55),(.call (.func 26) [(.tmp 53),(.tmp 54)]),none⟩,⟨(some 56),(.mov (.tmp 55)),none⟩,⟨(some 57),(.mov (.tmp 4)),(some ((some 56),true))⟩,⟨(some 58),(.bin .eql 3 (.tmp 57) (.const (.int .i64 1))),(some ((some 56),true))⟩,⟨(some 59),(.pick (.tmp 56) (.tmp 58) (.const (.bool false))),none⟩,⟨(some 60),(.mov (.tmp 59)),none⟩,⟨(some 61),(.load true 2 (.tmp 1)),(some ((some 60),true))⟩,⟨(some 62),(.load true 2 (.tmp 5)),(some ((some 60),true))⟩,⟨(some 63),(.call (.func 11) [(.tmp 61),(.tmp 62)]),(some ((some 60),true))⟩,⟨(some 64),(.pick (.tmp 60) (.tmp 63) (.const (.bool false))),none⟩,⟨(some 65),(.mov (.tmp 64)),none⟩,⟨(some 66),(.mov (.tmp 6)),(some ((some 65),true))⟩,⟨(some 67),(.len 0 (.tmp 66)),(some ((some 65),true))⟩,⟨(some 68),(.bin .eql 3 (.tmp 67) (.const (.int .i64 1))),(some ((some 65),true))⟩,⟨(some 69),(.pick (.tmp 65) (.tmp 68) (.const (.bool false))),none⟩,⟨(some 70),(.mov (.tmp 69)),none⟩,⟨(some 71),(.mov (.tmp 7)),(some ((some 70),true))⟩,⟨(some 72),(.bin .eql 29 (.tmp 71) (.const (.int .i64 0))),(some ((some 70),true))⟩,⟨(some 73),(.pick (.tmp 70) (.tmp 72) (.const (.bool false))),none⟩,⟨(some 74),(.mov (.tmp 73)),none⟩,⟨(some 75),(.mov (.tmp 11)),(some ((some 74),true))⟩,⟨(some 76),(.bin .eql 29 (.tmp 75) (.const (.int .i64 1))),(some ((some 74),true))⟩,⟨(some 77),(.pick (.tmp 74) (.tmp 76) (.const (.bool false))),none⟩,⟨(some 78),(.mov (.tmp 77)),none⟩,⟨(some 79),(.load true 2 (.tmp 9)),(some ((some 78),true))⟩,⟨(some 80),(.build [(.sc (.slice none 0 0)),(.sc (.slice none 0 0))] []),(some ((some 78),true))⟩,⟨(some 81),(.call (.func 11) [(.tmp 79),(.tmp 80)]),(some ((some 78),true))⟩,⟨(some 82),(.pick (.tmp 78) (.tmp 81) (.const (.bool false))),none⟩,⟨(some 83),(.mov (.tmp 82)),none⟩,⟨(some 84),(.load true 2 (.tmp 1)),(some ((some 83),true))⟩,⟨(some 85),(.call (.func 27) [(.tmp 84)]),(some ((some 83),true))⟩,⟨(some 86),(.pick (.tmp 83) (.tmp 85) (.const (.bool false))),none⟩,⟨(some 87),(.mov (.tmp 86)),none⟩,⟨(some 88),(.load true 2 (.tmp 1)),(some ((some 87),true))⟩,⟨(some 89),(.call (.func 16) [(.const (.int .i64 3)),(.tmp 88)]),(some ((some 87),true))⟩,⟨(some 90),(.bin .eql 3 (.tmp 89) (.const (.int .i64 1))),(some ((some 87),true))⟩,⟨(some 91),(.pick (.tmp 87) (.tmp 90) (.const (.bool false))),none⟩,⟨(some 92),(.mov (.tmp 91)),none⟩,⟨(some 93),(.bslice 1 [(.sc (.int .i64 0))] 2 [(0,(.const (.int .i64 4))),(1,(.const (.int .i64 7)))]),(some ((some 92),true))⟩,⟨(some 94),(.call (.func 20) [(.const (.int .i64 3)),(.tmp 93)]),(some ((some 92),true))⟩,⟨(some 95),(.bin .eql 3 (.tmp 94) (.const (.int .i64 7))),(some ((some 92),true))⟩,⟨(some 96),(.pick (.tmp 92) (.tmp 95) (.const (.bool false))),none⟩,⟨(some 0),(.mov (.tmp 96)),none⟩] false []) .ret)))))))
def r8 : List ARes:=[(.tmp 0)]
def c9 : ACode:=(.seq (.region [⟨(some 4),(.mov (.const (.int .i64 0))),none⟩,⟨(some 5),(.alloc [(.sc (.slice none 0 0)),(.sc (.slice none 0 0))]),none⟩,⟨(some 6),(.mov (.const (.slice none 0 0))),none⟩,⟨(some 7),(.mov (.const (.int .i64 0))),none⟩] false []) (.seq (.block 0 (.seq (.region [⟨(some 16),(.mov (.tmp 0)),none⟩,⟨(some 17),(.isnil false 3 (.tmp 16)),none⟩,⟨(some 15),(.mov (.tmp 17)),none⟩] false []) (.cond (.tmp 15) (.seq (.region [⟨(some 18),(.build [(.sc (.slice none 0 0)),(.sc (.slice none 0 0))] []),none⟩,⟨(some 4),(.mov (.const (.int .i64 0))),none⟩,⟨none,(.store 2 (.tmp 5) (.tmp 18)),none⟩,⟨(some 6),(.mov (.const (.slice none 0 0))),none⟩,⟨(some 7),(.mov (.const (.int .i64 1))),none⟩] false []) .ret) (.seq (.region [⟨(some 20),(.mov (.tmp 1)),none⟩,⟨(some 21),(.bin .eql 3 (.tmp 20) (.const (.int .i64 0))),none⟩,⟨(some 19),(.mov (.tmp 21)),none⟩] false []) (.cond (.tmp 19) (.seq (.region [⟨(some 22),(.build [(.sc (.slice none 0 0)),(.sc (.slice none 0 0))] []),none⟩,⟨(some 4),(.mov (.const (.int .i64 0))),none⟩,⟨none,(.store 2 (.tmp 5) (.tmp 22)),none⟩,⟨(some 6),(.mov (.const (.slice none 0 0))),none⟩,⟨(some 7),(.mov (.const (.int .i64 0))),none⟩] false []) .ret) .skip))))) (.seq (.region [⟨(some 24),(.mov (.tmp 0)),none⟩,⟨(some 25),(.mov (.tmp 1)),none⟩,⟨(some 26),(.call (.tmp 24) [(.tmp 25)]),none⟩,⟨(some 23),(.mov (.tmp 26)),none⟩,⟨(some 27),(.ext (.tmp 23) 0),none⟩,⟨(some 28),(.ext (.tmp 23) 1),none⟩,⟨(some 8),(.mov (.tmp 27)),none⟩,⟨(some 9),(.mov (.tmp 28)),none⟩] false []) (.seq (.seq (.region [⟨(some 29),(.mov (.tmp 9)),none⟩,⟨(some 30),(.bin .neq 29 (.tmp 29) (.const (.int .i64 0))),none⟩] false []) (.cond (.tmp 30) (.seq (.region [⟨(some 31),(.build [(.sc (.slice none 0 0)),(.sc (.slice none 0 0))] []),none⟩,⟨(some 32),(.mov (.tmp 9)),none⟩,⟨(some 4),(.mov (.const (.int .i64 0))),none⟩,⟨none,(.store 2 (.tmp 5) (.tmp 31)),none⟩,⟨(some 6),(.mov (.const (.slice none 0 0))),none⟩,⟨(some 7),(.mov (.tmp 32)),none⟩] false []) .ret) .skip)) (.seq (.region [⟨(some 34),(.mov (.tmp 8)),none⟩,⟨(some 35),(.call (.func 28) [(.tmp 34)]),none⟩,⟨(some 33),(.mov (.tmp 35)),none⟩,⟨(some 36),(.ext (.tmp 33) 0),none⟩,⟨(some 37),(.ext (.tmp 33) 1),none⟩,⟨(some 10),(.alloc [(.sc (.int .i64 0)),(.sc (.int .i64 0)),(.sc (.int .i64 0)),(.sc (.int .i64 0))]),none⟩,⟨none,(.store 4 (.tmp 10) (.tmp 36)),none⟩,⟨(some 11),(.mov (.tmp 37)),none⟩] false []) (.seq (.region [⟨(some 38),(.mov (.tmp 0)),none⟩,⟨(some 39),(.faddr 1 (.tmp 10)),none⟩,⟨(some 40),(.load false 1 (.tmp 39)),none⟩,⟨(some 41),(.mkmap (some .i64)),none⟩,⟨(some 42),(.build [(.sc .nilFunc),(.sc (.int .i64 0)),(.sc (.slice none 0 0)),(.sc (.slice none 0 0)),(.sc (.slice none 0 0)),(.sc (.map none)),(.sc (.bool false))] [(0,(1,(.tmp 38))),(1,(1,(.tmp 40))),(5,(1,(.tmp 41)))]),none⟩,⟨(some 43),(.box 7 (.tmp 42)),none⟩,⟨(some 12),(.mov (.tmp 43)),none⟩] false []) (.seq (.seq (.region [⟨(some 44),(.mov (.tmp 12)),none⟩,⟨(some 45),(.nilck (.tmp 44)),none⟩,⟨(some 46),(.faddr 1 (.tmp 45)),none⟩,⟨(some 47),(.load false 1 (.tmp 46)),none⟩,⟨(some 48),(.call (.func 29) [(.tmp 47)]),none⟩] false []) (.cond (.tmp 48) (.region [⟨(some 49),(.mov (.tmp 12)),none⟩,⟨(some 50),(.mov (.tmp 1)),none⟩,⟨(some 51),(.call (.func 30) [(.tmp 49),(.tmp 50)]),none⟩] false []) (.region [⟨(some 52),(.mov (.tmp 12)),none⟩,⟨(some 53),(.mov (.tmp 1)),none⟩,⟨(some 54),(.call (.func 31) [(.tmp 52),(.tmp 53)]),none⟩] false []))) (.seq (.region [⟨(some 55),(.mov (.tmp 12)),none⟩,⟨(some 56),(.nilck (.tmp 55)),none⟩,⟨(some 57),(.faddr 2 (.tmp 56)),none⟩,⟨(some 58),(.load false 1 (.tmp 57)),none⟩,⟨(some 59),(.call (.func 32) [(.tmp 58)]),none⟩,⟨(some 60),(.mov (.tmp 12)),none⟩,⟨(some 61),(.nilck (.tmp 60)),none⟩,⟨(some 62),(.faddr 3 (.tmp 61)),none⟩,⟨(some 63),(.load false 1 (.tmp 62)),none⟩,⟨(some 64),(.call (.func 32) [(.tmp 63)]),none⟩,⟨(some 65),(.build [(.sc (.slice none 0 0)),(.sc (.slice none 0 0))] [(0,(1,(.tmp 59))),(1,(1,(.tmp 64)))]),none⟩,⟨(some 13),(.alloc [(.sc (.slice none 0 0)),(.sc (.slice none 0 0))]),none⟩,⟨none,(.store 2 (.tmp 13) (.tmp 65)),none⟩] true [(4,8),(3,11),(4,11),(8,11),(9,11)]) (.seq (.region [⟨(some 67),(.mov (.tmp 12)),none⟩,⟨(some 68),(.nilck (.tmp 67)),none⟩,⟨(some 69),(.faddr 1 (.tmp 68)),none⟩,⟨(some 70),(.load false 1 (.tmp 69)),none⟩,⟨(some 71),(.load true 2 (.tmp 13)),none⟩,⟨(some 72),(.mov (.tmp 12)),none⟩,⟨(some 73),(.nilck (.tmp 72)),none⟩,⟨(some 74),(.faddr 4 (.tmp 73)),none⟩,⟨(some 75),(.load false 1 (.tmp 74)),none⟩,⟨(some 76),(.call (.func 18) [(.tmp 70),(.tmp 71),(.tmp 75)]),none⟩,⟨(some 66),(.mov (.tmp 76)),none⟩,⟨(some 77),(.ext (.tmp 66) 0),none⟩,⟨(some 78),(.ext (.tmp 66) 1),none⟩,⟨(some 14),(.mov (.tmp 77)),none⟩,⟨(some 9),(.mov (.tmp 78)),none⟩] true []) (.seq (.seq (.region [⟨(some 79),(.mov (.tmp 12)),none⟩,⟨(some 80),(.nilck (.tmp 79)),none⟩,⟨(some 81),(.faddr 6 (.tmp 80)),none⟩,⟨(some 82),(.load false 1 (.tmp 81)),none⟩,⟨(some 83),(.mov (.tmp 82)),none⟩,⟨(some 84),(.mov (.tmp 9)),(some ((some 83),false))⟩,⟨(some 85),(.bin .neq 29 (.tmp 84) (.const (.int .i64 0))),(some ((some 83),false))⟩,⟨(some 86),(.pick (.tmp 83) (.const (.bool true)) (.tmp 85)),none⟩,⟨(some 87),(.mov (.tmp 86)),none⟩,⟨(some 88),(.mov (.tmp 12)),(some ((some 87),false))⟩,⟨(some 89),(.nilck (.tmp 88)),(some ((some 87),false))⟩,⟨(some 90),(.faddr 1 (.tmp 89)),(some ((some 87),false))⟩,⟨(some 91),(.load false 1 (.tmp 90)),(some ((some 87),false))⟩,⟨(some 92),(.mov (.tmp 12)),(some ((some 87),false))⟩,⟨(some 93),(.nilck (.tmp 92)),(some ((some 87),false))⟩,⟨(some 94),(.faddr 4 (.tmp 93)),(some ((some 87),false))⟩,⟨(some 95),(.load false 1 (.tmp 94)),(some ((some 87),false))⟩,⟨(some 96),(.call (.func 20) [(.tmp 91),(.tmp 95)]),(some ((some 87),false))⟩,⟨(some 97),(.mov (.tmp 1)),(some ((some 87),false))⟩,⟨(some 98),(.bin .neq 3 (.tmp 96) (.tmp 97)),(some ((some 87),false))⟩,⟨(some 99),(.pick (.tmp 87) (.const (.bool true)) (.tmp 98)),none⟩,⟨(some 100),(.mov (.tmp 99)),none⟩,⟨(some 101),(.mov (.tmp 12)),(some ((some 100),false))⟩,⟨(some 102),(.mov (.tmp 14)),(some ((some 100),false))⟩,⟨(some 103),(.call (.func 33) [(.tmp 101),(.tmp 102)]),(some ((some 100),false))⟩,⟨(some 104),(.un .not (.tmp 103)),(some ((some 100),false))⟩,⟨(some 105),(.pick (.tmp 100) (.const (.bool true)) (.tmp 104)),none⟩] true []) (.cond (.tmp 105) (.seq (.region [⟨(some 106),(.build [(.sc (.slice none 0 0)),(.sc (.slice none 0 0))] []),none⟩,⟨(some 4),(.mov (.const (.int .i64 0))),none⟩,⟨none,(.store 2 (.tmp 5) (.tmp 106)),none⟩,⟨(some 6),(.mov (.const (.slice none 0 0))),none⟩,⟨(some 7),(.mov (.const (.int .i64 100))),none⟩] false []) .ret) .skip)) (.seq (.region [⟨(some 107),(.mov (.tmp 12)),none⟩,⟨(some 108),(.nilck (.tmp 107)),none⟩,⟨(some 109),(.faddr 1 (.tmp 108)),none⟩,⟨(some 110),(.load false 1 (.tmp 109)),none⟩,⟨(some 111),(.load true 2 (.tmp 13)),none⟩,⟨(some 112),(.mov (.tmp 12)),none⟩,⟨(some 113),(.nilck (.tmp 112)),none⟩,⟨(some 114),(.faddr 4 (.tmp 113)),none⟩,⟨(some 115),(.load false 1 (.tmp 114)),none⟩,⟨(some 4),(.mov (.tmp 110)),none⟩,⟨none,(.store 2 (.tmp 5) (.tmp 111)),none⟩,⟨(some 6),(.mov (.tmp 115)),none⟩,⟨(some 7),(.mov (.const (.int .i64 0))),none⟩] true [(8,10)]) .ret)))))))))))
def r9 : List ARes:=[(.tmp 4),(.cell 5 true 2),(.tmp 6),(.tmp 7)]
def c11 : ACode:=(.seq (.region [⟨(some 2),(.box 2 (.tmp 0)),none⟩,⟨(some 3),(.box 2 (.tmp 1)),none⟩,⟨(some 4),(.mov (.const (.bool false))),none⟩] false []) (.seq (.region [⟨(some 5),(.faddr 0 (.tmp 2)),none⟩,⟨(some 6),(.load false 1 (.tmp 5)),none⟩,⟨(some 7),(.faddr 0 (.tmp 3)),none⟩,⟨(some 8),(.load false 1 (.tmp 7)),none⟩,⟨(some 9),(.call (.func 35) [(.tmp 6),(.tmp 8)]),none⟩,⟨(some 10),(.mov (.tmp 9)),none⟩,⟨(some 11),(.faddr 1 (.tmp 2)),(some ((some 10),true))⟩,⟨(some 12),(.load false 1 (.tmp 11)),(some ((some 10),true))⟩,⟨(some 13),(.faddr 1 (.tmp 3)),(some ((some 10),true))⟩,⟨(some 14),(.load false 1 (.tmp 13)),(some ((some 10),true))⟩,⟨(some 15),(.call (.func 35) [(.tmp 12),(.tmp 14)]),(some ((some 10),true))⟩,⟨(some 16),(.pick (.tmp 10) (.tmp 15) (.const (.bool false))),none⟩,⟨(some 4),(.mov (.tmp 16)),none⟩] false []) .ret))
def r11 : List ARes:=[(.tmp 4)]
def c15L0 : ACode:=(.seq (.region [⟨(some 21),(.bin .lss 3 (.tmp 20) (.tmp 19)),none⟩] false []) (.seq (.cond (.tmp 21) .skip (.exit 2)) (.seq (.block 3 (.seq (.region [⟨(some 22),(.iaddr none 2 (.tmp 18) (.tmp 20)),none⟩,⟨(some 23),(.load true 2 (.tmp 22)),none⟩,⟨(some 7),(.alloc [(.sc (.int .i64 0)),(.sc (.int .i64 0))]),none⟩,⟨none,(.store 2 (.tmp 7) (.tmp 23)),none⟩] false []) (.seq (.region [⟨(some 24),(.load true 2 (.tmp 7)),none⟩,⟨(some 25),(.call (.func 44) [(.tmp 24)]),none⟩] false []) (.cond (.tmp 25) (.region [⟨(some 26),(.mov (.tmp 3)),none⟩,⟨(some 27),(.faddr 1 (.tmp 7)),none⟩,⟨(some 28),(.load false 1 (.tmp 27)),none⟩,⟨(some 29),(.bin .add 3 (.tmp 26) (.tmp 28)),none⟩,⟨(some 3),(.mov (.tmp 29)),none⟩] false []) .skip)))) (.region [⟨(some 30),(.bin .add 3 (.tmp 20) (.const (.int .i64 1))),none⟩,⟨(some 20),(.mov (.tmp 30)),none⟩] false []))))
def c15R1 : ACode:=(.region [⟨(some 31),(.bin .add 3 (.tmp 14) (.const (.int .i64 1))),none⟩,⟨(some 14),(.mov (.tmp 31)),none⟩] false [])
def c15L2 : ACode:=(.seq (.region [⟨(some 15),(.bin .lss 3 (.tmp 14) (.tmp 13)),none⟩] false []) (.seq (.cond (.tmp 15) .skip (.exit 0)) (.seq (.block 1 (.seq (.region [⟨(some 16),(.iaddr none 1 (.tmp 12) (.tmp 14)),none⟩,⟨(some 17),(.load false 1 (.tmp 16)),none⟩,⟨(some 5),(.mov (.tmp 17)),none⟩] false []) (.seq (.region [⟨(some 18),(.mov (.tmp 5)),none⟩,⟨(some 19),(.len 0 (.tmp 18)),none⟩,⟨(some 20),(.mov (.const (.int .i64 0))),none⟩] false []) (.block 2 (.loop c15L0))))) c15R1)))
def c15R3 : ACode:=(.seq (.region [⟨(some 32),(.faddr 0 (.tmp 1)),none⟩,⟨(some 33),(.load false 1 (.tmp 32)),none⟩,⟨(some 34),(.len 0 (.tmp 33)),none⟩,⟨(some 35),(.faddr 1 (.tmp 1)),none⟩,⟨(some 36),(.load false 1 (.tmp 35)),none⟩,⟨(some 37),(.len 0 (.tmp 36)),none⟩,⟨(some 38),(.bin .add 3 (.tmp 34) (.tmp 37)),none⟩,⟨(some 39),(.bin .leq 3 (.tmp 38) (.const (.int .i64 400))),none⟩,⟨(some 40),(.mov (.tmp 39)),none⟩,⟨(some 41),(.mov (.tmp 3)),(some ((some 40),true))⟩,⟨(some 42),(.bin .leq 3 (.tmp 41) (.const (.int .i64 3000))),(some ((some 40),true))⟩,⟨(some 43),(.pick (.tmp 40) (.tmp 42) (.const (.bool false))),none⟩,⟨(some 2),(.mov (.tmp 43)),none⟩] false []) .ret)
def c15 : ACode:=(.seq (.region [⟨(some 1),(.box 2 (.tmp 0)),none⟩,⟨(some 2),(.mov (.const (.bool false))),none⟩] false []) (.seq (.region [⟨(some 3),(.mov (.const (.int .i64 0))),none⟩] false []) (.seq (.seq (.region [⟨(some 8),(.faddr 0 (.tmp 1)),none⟩,⟨(some 9),(.load false 1 (.tmp 8)),none⟩,⟨(some 10),(.faddr 1 (.tmp 1)),none⟩,⟨(some 11),(.load false 1 (.tmp 10)),none⟩,⟨(some 12),(.bslice 1 [(.sc (.slice none 0 0))] 2 [(0,(.tmp 9)),(1,(.tmp 11))]),none⟩,⟨(some 13),(.len 0 (.tmp 12)),none⟩,⟨(some 14),(.mov (.const (.int .i64 0))),none⟩] false []) (.block 0 (.loop c15L2))) c15R3)))
def r15 : List ARes:=[(.tmp 2)]
def c16L0 : ACode:=(.seq (.block 2 (.seq (.region [⟨(some 45),(.mov (.tmp 6)),none⟩,⟨(some 46),(.mov (.tmp 7)),none⟩,⟨(some 47),(.bin .add 3 (.tmp 45) (.tmp 46)),none⟩,⟨(some 6),(.mov (.tmp 47)),none⟩] false []) (.seq (.region [⟨(some 48),(.mov (.tmp 7)),none⟩,⟨(some 49),(.bin .eql 3 (.tmp 48) (.const (.int .i64 1))),none⟩] false []) (.cond (.tmp 49) (.seq (.region [⟨(some 50),(.mov (.tmp 6)),none⟩,⟨(some 4),(.mov (.tmp 50)),none⟩] false []) .ret) .skip)))) (.region [⟨(some 43),(.mov (.tmp 7)),none⟩,⟨(some 44),(.call (.func 47) [(.tmp 43),(.const (.int .i64 15))]),none⟩,⟨(some 7),(.mov (.tmp 44)),none⟩] false []))
def c16 : ACode:=(.seq (.region [⟨(some 3),(.box 2 (.tmp 1)),none⟩,⟨(some 4),(.mov (.const (.int .i64 0))),none⟩] false []) (.seq (.region [⟨(some 8),(.faddr 0 (.tmp 3)),none⟩,⟨(some 9),(.load false 1 (.tmp 8)),none⟩,⟨(some 10),(.call (.func 45) [(.tmp 9)]),none⟩,⟨(some 11),(.faddr 1 (.tmp 3)),none⟩,⟨(some 12),(.load false 1 (.tmp 11)),none⟩,⟨(some 13),(.call (.func 45) [(.tmp 12)]),none⟩,⟨(some 14),(.bin .add 3 (.tmp 10) (.tmp 13)),none⟩,⟨(some 5),(.mov (.tmp 14)),none⟩] true [(2,4)]) (.seq (.block 0 (.seq (.region [⟨(some 16),(.mov (.tmp 0)),none⟩,⟨(some 17),(.call (.func 46) [(.tmp 16)]),none⟩,⟨(some 18),(.un .not (.tmp 17)),none⟩,⟨(some 19),(.mov (.tmp 18)),none⟩,⟨(some 20),(.load true 2 (.tmp 3)),(some ((some 19),false))⟩,⟨(some 21),(.call (.func 27) [(.tmp 20)]),(some ((some 19),false))⟩,⟨(some 22),(.un .not (.tmp 21)),(some ((some 19),false))⟩,⟨(some 23),(.pick (.tmp 19) (.const (.bool true)) (.tmp 22)),none⟩,⟨(some 24),(.mov (.tmp 23)),none⟩,⟨(some 25),(.mov (.tmp 5)),(some ((some 24),false))⟩,⟨(some 26),(.bin .eql 3 (.tmp 25) (.const (.int .i64 0))),(some ((some 24),false))⟩,⟨(some 27),(.pick (.tmp 24) (.const (.bool true)) (.tmp 26)),none⟩,⟨(some 15),(.mov (.tmp 27)),none⟩] false []) (.cond (.tmp 15) (.seq (.region [⟨(some 4),(.mov (.const (.int .i64 0))),none⟩] false []) .ret) (.seq (.region [⟨(some 29),(.mov (.tmp 0)),none⟩,⟨(some 30),(.call (.func 29) [(.tmp 29)]),none⟩,⟨(some 28),(.mov (.tmp 30)),none⟩] false []) (.cond (.tmp 28) (.seq (.region [⟨(some 31),(.mov (.tmp 5)),none⟩,⟨(some 32),(.mov (.tmp 0)),none⟩,⟨(some 33),(.call (.func 48) [(.tmp 32)]),none⟩,⟨(some 34),(.call (.func 47) [(.tmp 31),(.tmp 33)]),none⟩,⟨(some 4),(.mov (.tmp 34)),none⟩] false []) .ret) .skip))))) (.seq (.region [⟨(some 6),(.mov (.const (.int .i64 0))),none⟩] false []) (.seq (.region [⟨(some 35),(.faddr 0 (.tmp 3)),none⟩,⟨(some 36),(.load false 1 (.tmp 35)),none⟩,⟨(some 37),(.len 0 (.tmp 36)),none⟩,⟨(some 38),(.faddr 1 (.tmp 3)),none⟩,⟨(some 39),(.load false 1 (.tmp 38)),none⟩,⟨(some 40),(.len 0 (.tmp 39)),none⟩,⟨(some 41),(.bin .add 3 (.tmp 37) (.tmp 40)),none⟩,⟨(some 42),(.call (.func 47) [(.tmp 41),(.const (.int .i64 18))]),none⟩,⟨(some 7),(.mov (.tmp 42)),none⟩] false []) (.block 1 (.loop c16L0)))))))
def r16 : List ARes:=[(.tmp 4)]
def c17L0 : ACode:=(.seq (.region [⟨(some 12),(.bin .lss 3 (.tmp 11) (.tmp 10)),none⟩] false []) (.seq (.cond (.tmp 12) .skip (.exit 0)) (.seq (.block 1 (.seq (.region [⟨(some 13),(.iaddr none 2 (.tmp 9) (.tmp 11)),none⟩,⟨(some 14),(.load true 2 (.tmp 13)),none⟩,⟨(some 5),(.alloc [(.sc (.int .i64 0)),(.sc (.int .i64 0))]),none⟩,⟨none,(.store 2 (.tmp 5) (.tmp 14)),none⟩] false []) (.region [⟨(some 15),(.faddr 0 (.tmp 3)),none⟩,⟨(some 16),(.load false 1 (.tmp 15)),none⟩,⟨(some 17),(.load true 2 (.tmp 5)),none⟩,⟨(some 18),(.bslice 2 [(.sc (.int .i64 0)),(.sc (.int .i64 0))] 1 [(0,(.tmp 17))]),none⟩,⟨(some 19),(.app 2 16 (.tmp 16) (.tmp 18)),none⟩,⟨(some 20),(.faddr 0 (.tmp 3)),none⟩,⟨none,(.store 1 (.tmp 20) (.tmp 19)),none⟩] false []))) (.region [⟨(some 21),(.bin .add 3 (.tmp 11) (.const (.int .i64 1))),none⟩,⟨(some 11),(.mov (.tmp 21)),none⟩] false []))))
def c17L1 : ACode:=(.seq (.region [⟨(some 26),(.bin .lss 3 (.tmp 25) (.tmp 24)),none⟩] false []) (.seq (.cond (.tmp 26) .skip (.exit 2)) (.seq (.block 3 (.seq (.region [⟨(some 27),(.iaddr none 2 (.tmp 23) (.tmp 25)),none⟩,⟨(some 28),(.load true 2 (.tmp 27)),none⟩,⟨(some 7),(.alloc [(.sc (.int .i64 0)),(.sc (.int .i64 0))]),none⟩,⟨none,(.store 2 (.tmp 7) (.tmp 28)),none⟩] false []) (.region [⟨(some 29),(.faddr 1 (.tmp 3)),none⟩,⟨(some 30),(.load false 1 (.tmp 29)),none⟩,⟨(some 31),(.load true 2 (.tmp 7)),none⟩,⟨(some 32),(.bslice 2 [(.sc (.int .i64 0)),(.sc (.int .i64 0))] 1 [(0,(.tmp 31))]),none⟩,⟨(some 33),(.app 2 16 (.tmp 30) (.tmp 32)),none⟩,⟨(some 34),(.faddr 1 (.tmp 3)),none⟩,⟨none,(.store 1 (.tmp 34) (.tmp 33)),none⟩] false []))) (.region [⟨(some 35),(.bin .add 3 (.tmp 25) (.const (.int .i64 1))),none⟩,⟨(some 25),(.mov (.tmp 35)),none⟩] false []))))
def c17R2 : ACode:=(.seq (.region [⟨(some 36),(.load true 2 (.tmp 3)),none⟩,⟨none,(.store 2 (.tmp 2) (.tmp 36)),none⟩] false []) .ret)
def c17R3 : ACode:=(.seq (.seq (.region [⟨(some 22),(.faddr 1 (.tmp 1)),none⟩,⟨(some 23),(.load false 1 (.tmp 22)),none⟩,⟨(some 24),(.len 0 (.tmp 23)),none⟩,⟨(some 25),(.mov (.const (.int .i64 0))),none⟩] false []) (.block 2 (.loop c17L1))) c17R2)
def c17 : ACode:=(.seq (.region [⟨(some 1),(.box 2 (.tmp 0)),none⟩,⟨(some 2),(.alloc [(.sc (.slice none 0 0)),(.sc (.slice none 0 0))]),none⟩] false []) (.seq (.region [⟨(some 3),(.alloc [(.sc (.slice none 0 0)),(.sc (.slice none 0 0))]),none⟩] false []) (.seq (.seq (.region [⟨(some 8),(.faddr 0 (.tmp 1)),none⟩,⟨(some 9),(.load false 1 (.tmp 8)),none⟩,⟨(some 10),(.len 0 (.tmp 9)),none⟩,⟨(some 11),(.mov (.const (.int .i64 0))),none⟩] false []) (.block 0 (.loop c17L0))) c17R3)))
def r17 : List ARes:=[(.cell 2 true 2)]
def c18 : ACode:=(.seq (.region [⟨(some 4),(.box 2 (.tmp 1)),none⟩,⟨(some 6),(.mov (.const (.slice none 0 0))),none⟩,⟨(some 7),(.mov (.const (.int .i64 0))),none⟩] false []) (.seq (.block 0 (.seq (.region [⟨(some 9),(.mov (.tmp 0)),none⟩,⟨(some 10),(.call (.func 46) [(.tmp 9)]),none⟩,⟨(some 11),(.un .not (.tmp 10)),none⟩,⟨(some 12),(.mov (.tmp 11)),none⟩,⟨(some 13),(.load true 2 (.tmp 4)),(some ((some 12),false))⟩,⟨(some 14),(.call (.func 27) [(.tmp 13)]),(some ((some 12),false))⟩,⟨(some 15),(.un .not (.tmp 14)),(some ((some 12),false))⟩,⟨(some 16),(.pick (.tmp 12) (.const (.bool true)) (.tmp 15)),none⟩,⟨(some 17),(.mov (.tmp 16)),none⟩,⟨(some 18),(.mov (.tmp 2)),(some ((some 17),false))⟩,⟨(some 19),(.mov (.tmp 0)),(some ((some 17),false))⟩,⟨(some 20),(.load true 2 (.tmp 4)),(some ((some 17),false))⟩,⟨(some 21),(.call (.func 16) [(.tmp 19),(.tmp 20)]),(some ((some 17),false))⟩,⟨(some 22),(.call (.func 49) [(.tmp 18),(.tmp 21)]),(some ((some 17),false))⟩,⟨(some 23),(.un .not (.tmp 22)),(some ((some 17),false))⟩,⟨(some 24),(.pick (.tmp 17) (.const (.bool true)) (.tmp 23)),none⟩,⟨(some 8),(.mov (.tmp 24)),none⟩] false []) (.cond (.tmp 8) (.seq (.region [⟨(some 6),(.mov (.const (.slice none 0 0))),none⟩,⟨(some 7),(.mov (.const (.int .i64 1))),none⟩] false []) .ret) (.seq (.region [⟨(some 26),(.mov (.tmp 0)),none⟩,⟨(some 27),(.call (.func 29) [(.tmp 26)]),none⟩,⟨(some 25),(.mov (.tmp 27)),none⟩] false []) (.cond (.tmp 25) (.seq (.region [⟨(some 28),(.mov (.tmp 0)),none⟩,⟨(some 29),(.load true 2 (.tmp 4)),none⟩,⟨(some 30),(.mov (.tmp 2)),none⟩,⟨(some 31),(.call (.func 50) [(.tmp 28),(.tmp 29),(.tmp 30)]),none⟩,⟨(some 6),(.mov (.tmp 31)),none⟩,⟨(some 7),(.mov (.const (.int .i64 0))),none⟩] false []) .ret) .skip))))) (.seq (.region [⟨(some 32),(.mov (.tmp 0)),none⟩,⟨(some 33),(.load true 2 (.tmp 4)),none⟩,⟨(some 34),(.mov (.tmp 2)),none⟩,⟨(some 35),(.call (.func 51) [(.tmp 32),(.tmp 33),(.tmp 34)]),none⟩,⟨(some 6),(.mov (.tmp 35)),none⟩,⟨(some 7),(.mov (.const (.int .i64 0))),none⟩] false []) .ret)))
def r18 : List ARes:=[(.tmp 6),(.tmp 7)]
def c20 : ACode:=(.seq (.region [⟨(some 4),(.mov (.const (.int .i64 0))),none⟩] false []) (.seq (.block 0 (.seq (.region [⟨(some 6),(.mov (.tmp 1)),none⟩,⟨(some 7),(.len 0 (.tmp 6)),none⟩,⟨(some 8),(.bin .eql 3 (.tmp 7) (.const (.int .i64 0))),none⟩,⟨(some 5),(.mov (.tmp 8)),none⟩] false []) (.cond (.tmp 5) (.seq (.region [⟨(some 4),(.mov (.const (.int .i64 0))),none⟩] false []) .ret) (.seq (.region [⟨(some 10),(.mov (.tmp 0)),none⟩,⟨(some 11),(.call (.func 29) [(.tmp 10)]),none⟩,⟨(some 9),(.mov (.tmp 11)),none⟩] false []) (.cond (.tmp 9) (.seq (.region [⟨(some 12),(.mov (.tmp 1)),none⟩,⟨(some 13),(.iaddr none 1 (.tmp 12) (.const (.int .i64 0))),none⟩,⟨(some 14),(.load false 1 (.tmp 13)),none⟩,⟨(some 4),(.mov (.tmp 14)),none⟩] false []) .ret) .skip))))) (.seq (.region [⟨(some 15),(.mov (.tmp 1)),none⟩,⟨(some 16),(.mov (.tmp 1)),none⟩,⟨(some 17),(.len 0 (.tmp 16)),none⟩,⟨(some 18),(.bin .sub 3 (.tmp 17) (.const (.int .i64 1))),none⟩,⟨(some 19),(.iaddr none 1 (.tmp 15) (.tmp 18)),none⟩,⟨(some 20),(.load false 1 (.tmp 19)),none⟩,⟨(some 4),(.mov (.tmp 20)),none⟩] false []) .ret)))
def r20 : List ARes:=[(.tmp 4)]
def c21L0 : ACode:=(.seq (.seq (.region [⟨(some 24),(.mov (.tmp 4)),none⟩,⟨(some 25),(.faddr 1 (.tmp 1)),none⟩,⟨(some 26),(.load false 1 (.tmp 25)),none⟩,⟨(some 27),(.len 0 (.tmp 26)),none⟩,⟨(some 28),(.bin .lss 3 (.tmp 24) (.tmp 27)),none⟩] false []) (.cond (.tmp 28) .skip (.exit 2))) (.seq (.block 3 (.seq (.region [⟨(some 31),(.faddr 0 (.tmp 1)),none⟩,⟨(some 32),(.load false 1 (.tmp 31)),none⟩,⟨(some 33),(.mov (.tmp 3)),none⟩,⟨(some 34),(.iaddr none 2 (.tmp 32) (.tmp 33)),none⟩,⟨(some 35),(.load true 2 (.tmp 34)),none⟩,⟨(some 5),(.alloc [(.sc (.int .i64 0)),(.sc (.int .i64 0))]),none⟩,⟨none,(.store 2 (.tmp 5) (.tmp 35)),none⟩] false []) (.seq (.region [⟨(some 36),(.faddr 1 (.tmp 1)),none⟩,⟨(some 37),(.load false 1 (.tmp 36)),none⟩,⟨(some 38),(.mov (.tmp 4)),none⟩,⟨(some 39),(.iaddr none 2 (.tmp 37) (.tmp 38)),none⟩,⟨(some 40),(.load true 2 (.tmp 39)),none⟩,⟨(some 6),(.alloc [(.sc (.int .i64 0)),(.sc (.int .i64 0))]),none⟩,⟨none,(.store 2 (.tmp 6) (.tmp 40)),none⟩] false []) (.seq (.region [⟨(some 41),(.faddr 0 (.tmp 5)),none⟩,⟨(some 42),(.load false 1 (.tmp 41)),none⟩,⟨(some 43),(.faddr 0 (.tmp 6)),none⟩,⟨(some 44),(.load false 1 (.tmp 43)),none⟩,⟨(some 45),(.faddr 1 (.tmp 6)),none⟩,⟨(some 46),(.load false 1 (.tmp 45)),none⟩,⟨(some 47),(.bin .add 3 (.tmp 44) (.tmp 46)),none⟩,⟨(some 48),(.bin .lss 3 (.tmp 42) (.tmp 47)),none⟩,⟨(some 49),(.mov (.tmp 48)),none⟩,⟨(some 50),(.faddr 0 (.tmp 6)),(some ((some 49),true))⟩,⟨(some 51),(.load false 1 (.tmp 50)),(some ((some 49),true))⟩,⟨(some 52),(.faddr 0 (.tmp 5)),(some ((some 49),true))⟩,⟨(some 53),(.load false 1 (.tmp 52)),(some ((some 49),true))⟩,⟨(some 54),(.faddr 1 (.tmp 5)),(some ((some 49),true))⟩,⟨(some 55),(.load false 1 (.tmp 54)),(some ((some 49),true))⟩,⟨(some 56),(.bin .add 3 (.tmp 53) (.tmp 55)),(some ((some 49),true))⟩,⟨(some 57),(.bin .lss 3 (.tmp 51) (.tmp 56)),(some ((some 49),true))⟩,⟨(some 58),(.pick (.tmp 49) (.tmp 57) (.const (.bool false))),none⟩] false []) (.cond (.tmp 58) (.seq (.region [⟨(some 2),(.mov (.const (.bool false))),none⟩] false []) .ret) .skip))))) (.region [⟨(some 29),(.mov (.tmp 4)),none⟩,⟨(some 30),(.bin .add 3 (.tmp 29) (.const (.int .i64 1))),none⟩,⟨(some 4),(.mov (.tmp 30)),none⟩] false [])))
def c21R1 : ACode:=(.region [⟨(some 22),(.mov (.tmp 3)),none⟩,⟨(some 23),(.bin .add 3 (.tmp 22) (.const (.int .i64 1))),none⟩,⟨(some 3),(.mov (.tmp 23)),none⟩] false [])
def c21L2 : ACode:=(.seq (.seq (.region [⟨(some 17),(.mov (.tmp 3)),none⟩,⟨(some 18),(.faddr 0 (.tmp 1)),none⟩,⟨(some 19),(.load false 1 (.tmp 18)),none⟩,⟨(some 20),(.len 0 (.tmp 19)),none⟩,⟨(some 21),(.bin .lss 3 (.tmp 17) (.tmp 20)),none⟩] false []) (.cond (.tmp 21) .skip (.exit 0))) (.seq (.block 1 (.seq (.region [⟨(some 4),(.mov (.const (.int .i64 0))),none⟩] false []) (.block 2 (.loop c21L0)))) c21R1))
def c21R3 : ACode:=(.seq (.region [⟨(some 2),(.mov (.const (.bool true))),none⟩] false []) .ret)
def c21 : ACode:=(.seq (.region [⟨(some 1),(.box 2 (.tmp 0)),none⟩,⟨(some 2),(.mov (.const (.bool false))),none⟩] false []) (.seq (.seq (.region [⟨(some 7),(.faddr 0 (.tmp 1)),none⟩,⟨(some 8),(.load false 1 (.tmp 7)),none⟩,⟨(some 9),(.call (.func 52) [(.tmp 8)]),none⟩,⟨(some 10),(.un .not (.tmp 9)),none⟩,⟨(some 11),(.mov (.tmp 10)),none⟩,⟨(some 12),(.faddr 1 (.tmp 1)),(some ((some 11),false))⟩,⟨(some 13),(.load false 1 (.tmp 12)),(some ((some 11),false))⟩,⟨(some 14),(.call (.func 52) [(.tmp 13)]),(some ((some 11),false))⟩,⟨(some 15),(.un .not (.tmp 14)),(some ((some 11),false))⟩,⟨(some 16),(.pick (.tmp 11) (.const (.bool true)) (.tmp 15)),none⟩] false []) (.cond (.tmp 16) (.seq (.region [⟨(some 2),(.mov (.const (.bool false))),none⟩] false []) .ret) .skip)) (.seq (.seq (.region [⟨(some 3),(.mov (.const (.int .i64 0))),none⟩] false []) (.block 0 (.loop c21L2))) c21R3)))
def r21 : List ARes:=[(.tmp 2)]
def c23 : ACode:=(.seq (.region [⟨(some 4),(.mov (.const (.bool false))),none⟩] false []) (.seq (.region [⟨(some 6),(.mov (.tmp 1)),none⟩,⟨(some 7),(.build [(.sc (.int .i64 0)),(.sc (.int .i64 0))] [(0,(1,(.tmp 6))),(1,(1,(.const (.int .i64 1))))]),none⟩,⟨(some 5),(.alloc [(.sc (.int .i64 0)),(.sc (.int .i64 0))]),none⟩,⟨none,(.store 2 (.tmp 5) (.tmp 7)),none⟩] false []) (.seq (.region [⟨(some 8),(.load true 2 (.tmp 5)),none⟩,⟨(some 9),(.call (.func 53) [(.tmp 8)]),none⟩,⟨(some 10),(.mov (.tmp 9)),none⟩,⟨(some 11),(.mov (.tmp 0)),(some ((some 10),true))⟩,⟨(some 12),(.call (.func 55) [(.tmp 11)]),(some ((some 10),true))⟩,⟨(some 13),(.load true 2 (.tmp 5)),(some ((some 10),true))⟩,⟨(some 14),(.call (.func 54) [(.tmp 12),(.tmp 13)]),(some ((some 10),true))⟩,⟨(some 15),(.bin .geq 3 (.tmp 14) (.const (.int .i64 0))),(some ((some 10),true))⟩,⟨(some 16),(.pick (.tmp 10) (.tmp 15) (.const (.bool false))),none⟩,⟨(some 4),(.mov (.tmp 16)),none⟩] true [(4,5)]) .ret)))
def r23 : List ARes:=[(.tmp 4)]
def c24 : ACode:=(.seq (.region [⟨(some 3),(.box 2 (.tmp 1)),none⟩,⟨(some 4),(.mov (.const (.slice none 0 0))),none⟩,⟨(some 5),(.mov (.const (.bool false))),none⟩] false []) (.seq (.region [⟨(some 6),(.mov (.tmp 0)),none⟩,⟨(some 7),(.call (.func 55) [(.tmp 6)]),none⟩,⟨(some 0),(.mov (.tmp 7)),none⟩] false []) (.seq (.seq (.region [⟨(some 8),(.load true 2 (.tmp 3)),none⟩,⟨(some 9),(.call (.func 53) [(.tmp 8)]),none⟩,⟨(some 10),(.un .not (.tmp 9)),none⟩,⟨(some 11),(.mov (.tmp 10)),none⟩,⟨(some 12),(.mov (.tmp 0)),(some ((some 11),false))⟩,⟨(some 13),(.load true 2 (.tmp 3)),(some ((some 11),false))⟩,⟨(some 14),(.call (.func 54) [(.tmp 12),(.tmp 13)]),(some ((some 11),false))⟩,⟨(some 15),(.bin .geq 3 (.tmp 14) (.const (.int .i64 0))),(some ((some 11),false))⟩,⟨(some 16),(.pick (.tmp 11) (.const (.bool true)) (.tmp 15)),none⟩] false []) (.cond (.tmp 16) (.seq (.region [⟨(some 17),(.mov (.tmp 0)),none⟩,⟨(some 18),(.call (.func 56) [(.tmp 17)]),none⟩,⟨(some 4),(.mov (.tmp 18)),none⟩,⟨(some 5),(.mov (.const (.bool false))),none⟩] false []) .ret) .skip)) (.seq (.region [⟨(some 19),(.mov (.tmp 0)),none⟩,⟨(some 20),(.call (.func 56) [(.tmp 19)]),none⟩,⟨(some 21),(.load true 2 (.tmp 3)),none⟩,⟨(some 22),(.bslice 2 [(.sc (.int .i64 0)),(.sc (.int .i64 0))] 1 [(0,(.tmp 21))]),none⟩,⟨(some 23),(.app 2 16 (.tmp 20) (.tmp 22)),none⟩,⟨(some 24),(.call (.func 57) [(.tmp 23)]),none⟩,⟨(some 4),(.mov (.tmp 24)),none⟩,⟨(some 5),(.mov (.const (.bool true))),none⟩] true [(1,2),(1,3)]) .ret))))
def r24 : List ARes:=[(.tmp 4),(.tmp 5)]
def c25 : ACode:=(.seq (.region [⟨(some 3),(.mov (.const (.slice none 0 0))),none⟩,⟨(some 4),(.mov (.const (.int .i64 0))),none⟩] false []) (.seq (.region [⟨(some 5),(.load false 1 (.tmp 1)),none⟩,⟨(some 6),(.iaddr none 1 (.tmp 5) (.const (.int .i64 0))),none⟩,⟨(some 7),(.load false 1 (.tmp 6)),none⟩,⟨(some 3),(.mov (.tmp 7)),none⟩,⟨(some 4),(.mov (.const (.int .i64 0))),none⟩] false []) .ret))
def r25 : List ARes:=[(.tmp 3),(.tmp 4)]
def c26 : ACode:=(.seq (.region [⟨(some 4),(.mov (.const (.bool false))),none⟩] false []) (.seq (.region [⟨(some 5),(.mov (.tmp 0)),none⟩,⟨(some 6),(.tostr (.tmp 5)),none⟩,⟨(some 7),(.mov (.tmp 1)),none⟩,⟨(some 8),(.tostr (.tmp 7)),none⟩,⟨(some 9),(.bin .eql 9 (.tmp 6) (.tmp 8)),none⟩,⟨(some 4),(.mov (.tmp 9)),none⟩] false []) .ret))
def r26 : List ARes:=[(.tmp 4)]
def c27 : ACode:=(.seq (.region [⟨(some 1),(.box 2 (.tmp 0)),none⟩,⟨(some 2),(.mov (.const (.bool false))),none⟩] false []) (.seq (.region [⟨(some 3),(.faddr 0 (.tmp 1)),none⟩,⟨(some 4),(.load false 1 (.tmp 3)),none⟩,⟨(some 5),(.call (.func 58) [(.tmp 4)]),none⟩,⟨(some 6),(.mov (.tmp 5)),none⟩,⟨(some 7),(.faddr 1 (.tmp 1)),(some ((some 6),true))⟩,⟨(some 8),(.load false 1 (.tmp 7)),(some ((some 6),true))⟩,⟨(some 9),(.call (.func 58) [(.tmp 8)]),(some ((some 6),true))⟩,⟨(some 10),(.pick (.tmp 6) (.tmp 9) (.const (.bool false))),none⟩,⟨(some 11),(.mov (.tmp 10)),none⟩,⟨(some 12),(.faddr 0 (.tmp 1)),(some ((some 11),true))⟩,⟨(some 13),(.load false 1 (.tmp 12)),(some ((some 11),true))⟩,⟨(some 14),(.faddr 1 (.tmp 1)),(some ((some 11),true))⟩,⟨(some 15),(.load false 1 (.tmp 14)),(some ((some 11),true))⟩,⟨(some 16),(.call (.func 59) [(.tmp 13),(.tmp 15)]),(some ((some 11),true))⟩,⟨(some 17),(.un .not (.tmp 16)),(some ((some 11),true))⟩,⟨(some 18),(.pick (.tmp 11) (.tmp 17) (.const (.bool false))),none⟩,⟨(some 2),(.mov (.tmp 18)),none⟩] false []) .ret))
def r27 : List ARes:=[(.tmp 2)]
def c28 : ACode:=(.seq (.region [⟨(some 2),(.alloc [(.sc (.int .i64 0)),(.sc (.int .i64 0)),(.sc (.int .i64 0)),(.sc (.int .i64 0))]),none⟩,⟨(some 3),(.mov (.const (.int .i64 0))),none⟩] false []) (.seq (.region [⟨(some 6),(.mov (.tmp 0)),none⟩,⟨(some 7),(.call (.func 60) [(.tmp 6)]),none⟩,⟨(some 4),(.mov (.tmp 7)),none⟩] false []) (.seq (.region [⟨(some 8),(.mov (.tmp 4)),none⟩,⟨(some 9),(.call (.func 61) [(.tmp 8),(.const (.int .i64 1))]),none⟩,⟨(some 10),(.mov (.tmp 4)),none⟩,⟨(some 11),(.call (.func 61) [(.tmp 10),(.const (.int .i64 1))]),none⟩,⟨(some 12),(.mov (.tmp 4)),none⟩,⟨(some 13),(.call (.func 61) [(.tmp 12),(.const (.int .i64 2))]),none⟩,⟨(some 14),(.build [(.sc (.int .i64 0)),(.sc (.int .i64 0)),(.sc (.int .i64 0)),(.sc (.int .i64 0))] [(0,(1,(.tmp 9))),(1,(1,(.tmp 11))),(2,(1,(.tmp 13)))]),none⟩,⟨(some 5),(.alloc [(.sc (.int .i64 0)),(.sc (.int .i64 0)),(.sc (.int .i64 0)),(.sc (.int .i64 0))]),none⟩,⟨none,(.store 4 (.tmp 5) (.tmp 14)),none⟩] false []) (.seq (.seq (.region [⟨(some 15),(.mov (.tmp 4)),none⟩,⟨(some 16),(.call (.func 62) [(.tmp 15)]),none⟩,⟨(some 17),(.bin .neq 29 (.tmp 16) (.const (.int .i64 0))),none⟩,⟨(some 18),(.mov (.tmp 17)),none⟩,⟨(some 19),(.load true 4 (.tmp 5)),(some ((some 18),false))⟩,⟨(some 20),(.call (.func 63) [(.tmp 19)]),(some ((some 18),false))⟩,⟨(some 21),(.un .not (.tmp 20)),(some ((some 18),false))⟩,⟨(some 22),(.pick (.tmp 18) (.const (.bool true)) (.tmp 21)),none⟩] false []) (.cond (.tmp 22) (.seq (.region [⟨(some 23),(.build [(.sc (.int .i64 0)),(.sc (.int .i64 0)),(.sc (.int .i64 0)),(.sc (.int .i64 0))] []),none⟩,⟨none,(.store 4 (.tmp 2) (.tmp 23)),none⟩,⟨(some 3),(.mov (.const (.int .i64 70))),none⟩] false []) .ret) .skip)) (.seq (.seq (.region [⟨(some 24),(.faddr 1 (.tmp 5)),none⟩,⟨(some 25),(.load false 1 (.tmp 24)),none⟩,⟨(some 26),(.call (.func 64) [(.tmp 25)]),none⟩] false []) (.cond (.tmp 26) (.region [⟨(some 27),(.mov (.tmp 4)),none⟩,⟨(some 28),(.nilck (.tmp 27)),none⟩,⟨(some 29),(.faddr 0 (.tmp 28)),none⟩,⟨(some 30),(.call (.func 65) [(.tmp 29),(.const (.int .i64 4))]),none⟩] false []) .skip)) (.seq (.region [⟨(some 31),(.mov (.tmp 4)),none⟩,⟨(some 32),(.faddr 1 (.tmp 5)),none⟩,⟨(some 33),(.load false 1 (.tmp 32)),none⟩,⟨(some 34),(.call (.func 66) [(.tmp 33)]),none⟩,⟨(some 35),(.call (.func 61) [(.tmp 31),(.tmp 34)]),none⟩,⟨(some 36),(.faddr 3 (.tmp 5)),none⟩,⟨none,(.store 1 (.tmp 36) (.tmp 35)),none⟩] false []) (.seq (.seq (.region [⟨(some 37),(.mov (.tmp 4)),none⟩,⟨(some 38),(.call (.func 62) [(.tmp 37)]),none⟩,⟨(some 39),(.bin .neq 29 (.tmp 38) (.const (.int .i64 0))),none⟩] false []) (.cond (.tmp 39) (.seq (.region [⟨(some 40),(.build [(.sc (.int .i64 0)),(.sc (.int .i64 0)),(.sc (.int .i64 0)),(.sc (.int .i64 0))] []),none⟩,⟨none,(.store 4 (.tmp 2) (.tmp 40)),none⟩,⟨(some 3),(.mov (.const (.int .i64 72))),none⟩] false []) .ret) .skip)) (.seq (.region [⟨(some 41),(.load true 4 (.tmp 5)),none⟩,⟨none,(.store 4 (.tmp 2) (.tmp 41)),none⟩,⟨(some 3),(.mov (.const (.int .i64 0))),none⟩] false []) .ret))))))))
def r28 : List ARes:=[(.cell 2 true 4),(.tmp 3)]
def c29 : ACode:=(.seq (.region [⟨(some 2),(.mov (.const (.bool false))),none⟩] false []) (.seq (.region [⟨(some 3),(.mov (.tmp 0)),none⟩,⟨(some 4),(.bin .eql 3 (.tmp 3) (.const (.int .i64 1))),none⟩,⟨(some 5),(.mov (.tmp 4)),none⟩,⟨(some 6),(.mov (.tmp 0)),(some ((some 5),false))⟩,⟨(some 7),(.bin .eql 3 (.tmp 6) (.const (.int .i64 2))),(some ((some 5),false))⟩,⟨(some 8),(.pick (.tmp 5) (.const (.bool true)) (.tmp 7)),none⟩,⟨(some 2),(.mov (.tmp 8)),none⟩] false []) .ret))
def r29 : List ARes:=[(.tmp 2)]
def c30L0 : ACode:=(.seq (.seq (.region [⟨(some 36),(.mov (.tmp 7)),none⟩,⟨(some 37),(.faddr 2 (.tmp 4)),none⟩,⟨(some 38),(.load false 1 (.tmp 37)),none⟩,⟨(some 39),(.bin .lss 3 (.tmp 36) (.tmp 38)),none⟩,⟨(some 40),(.mov (.tmp 39)),none⟩,⟨(some 41),(.mov (.tmp 5)),(some ((some 40),true))⟩,⟨(some 42),(.call (.func 62) [(.tmp 41)]),(some ((some 40),true))⟩,⟨(some 43),(.bin .eql 29 (.tmp 42) (.const (.int .i64 0))),(some ((some 40),true))⟩,⟨(some 44),(.pick (.tmp 40) (.tmp 43) (.const (.bool false))),none⟩] false []) (.cond (.tmp 44) .skip (.exit 2))) (.seq (.block 3 (.seq (.region [⟨(some 47),(.mov (.tmp 5)),none⟩,⟨(some 48),(.mov (.tmp 0)),none⟩,⟨(some 49),(.nilck (.tmp 48)),none⟩,⟨(some 50),(.faddr 1 (.tmp 49)),none⟩,⟨(some 51),(.load false 1 (.tmp 50)),none⟩,⟨(some 52),(.call (.func 66) [(.tmp 51)]),none⟩,⟨(some 53),(.call (.func 61) [(.tmp 47),(.tmp 52)]),none⟩,⟨(some 8),(.mov (.tmp 53)),none⟩] false []) (.seq (.region [⟨(some 54),(.mov (.tmp 7)),none⟩,⟨(some 55),(.faddr 2 (.tmp 4)),none⟩,⟨(some 56),(.load false 1 (.tmp 55)),none⟩,⟨(some 57),(.mov (.tmp 6)),none⟩,⟨(some 58),(.bin .sub 3 (.tmp 56) (.tmp 57)),none⟩,⟨(some 59),(.bin .lss 3 (.tmp 54) (.tmp 58)),none⟩] false []) (.cond (.tmp 59) (.region [⟨(some 60),(.mov (.tmp 0)),none⟩,⟨(some 61),(.mov (.tmp 0)),none⟩,⟨(some 62),(.nilck (.tmp 61)),none⟩,⟨(some 63),(.faddr 2 (.tmp 62)),none⟩,⟨(some 64),(.load false 1 (.tmp 63)),none⟩,⟨(some 65),(.mov (.tmp 8)),none⟩,⟨(some 66),(.bslice 1 [(.sc (.int .i64 0))] 1 [(0,(.tmp 65))]),none⟩,⟨(some 67),(.app 1 8 (.tmp 64) (.tmp 66)),none⟩,⟨(some 68),(.nilck (.tmp 60)),none⟩,⟨(some 69),(.faddr 2 (.tmp 68)),none⟩,⟨none,(.store 1 (.tmp 69) (.tmp 67)),none⟩] false []) (.region [⟨(some 70),(.mov (.tmp 0)),none⟩,⟨(some 71),(.mov (.tmp 0)),none⟩,⟨(some 72),(.nilck (.tmp 71)),none⟩,⟨(some 73),(.faddr 3 (.tmp 72)),none⟩,⟨(some 74),(.load false 1 (.tmp 73)),none⟩,⟨(some 75),(.mov (.tmp 8)),none⟩,⟨(some 76),(.bslice 1 [(.sc (.int .i64 0))] 1 [(0,(.tmp 75))]),none⟩,⟨(some 77),(.app 1 8 (.tmp 74) (.tmp 76)),none⟩,⟨(some 78),(.nilck (.tmp 70)),none⟩,⟨(some 79),(.faddr 3 (.tmp 78)),none⟩,⟨none,(.store 1 (.tmp 79) (.tmp 77)),none⟩] false []))))) (.region [⟨(some 45),(.mov (.tmp 7)),none⟩,⟨(some 46),(.bin .add 3 (.tmp 45) (.const (.int .i64 1))),none⟩,⟨(some 7),(.mov (.tmp 46)),none⟩] false [])))
def c30R1 : ACode:=(.seq (.region [⟨(some 80),(.mov (.tmp 0)),none⟩,⟨(some 81),(.mov (.tmp 0)),none⟩,⟨(some 82),(.nilck (.tmp 81)),none⟩,⟨(some 83),(.faddr 6 (.tmp 82)),none⟩,⟨(some 84),(.load false 1 (.tmp 83)),none⟩,⟨(some 85),(.mov (.tmp 84)),none⟩,⟨(some 86),(.mov (.tmp 5)),(some ((some 85),false))⟩,⟨(some 87),(.call (.func 62) [(.tmp 86)]),(some ((some 85),false))⟩,⟨(some 88),(.bin .neq 29 (.tmp 87) (.const (.int .i64 0))),(some ((some 85),false))⟩,⟨(some 89),(.pick (.tmp 85) (.const (.bool true)) (.tmp 88)),none⟩,⟨(some 90),(.nilck (.tmp 80)),none⟩,⟨(some 91),(.faddr 6 (.tmp 90)),none⟩,⟨none,(.store 1 (.tmp 91) (.tmp 89)),none⟩] false []) (.region [⟨(some 92),(.faddr 3 (.tmp 4)),none⟩,⟨(some 93),(.load false 1 (.tmp 92)),none⟩,⟨(some 1),(.mov (.tmp 93)),none⟩] false []))
def c30L2 : ACode:=(.seq (.seq (.region [⟨(some 9),(.mov (.tmp 1)),none⟩,⟨(some 10),(.bin .neq 3 (.tmp 9) (.const (.int .i64 0))),none⟩,⟨(some 11),(.mov (.tmp 10)),none⟩,⟨(some 12),(.mov (.tmp 0)),(some ((some 11),true))⟩,⟨(some 13),(.nilck (.tmp 12)),(some ((some 11),true))⟩,⟨(some 14),(.faddr 6 (.tmp 13)),(some ((some 11),true))⟩,⟨(some 15),(.load false 1 (.tmp 14)),(some ((some 11),true))⟩,⟨(some 16),(.un .not (.tmp 15)),(some ((some 11),true))⟩,⟨(some 17),(.pick (.tmp 11) (.tmp 16) (.const (.bool false))),none⟩] false []) (.cond (.tmp 17) .skip (.exit 0))) (.block 1 (.seq (.region [⟨(some 19),(.mov (.tmp 0)),none⟩,⟨(some 20),(.mov (.tmp 1)),none⟩,⟨(some 21),(.call (.func 67) [(.tmp 19),(.tmp 20)]),none⟩,⟨(some 18),(.mov (.tmp 21)),none⟩,⟨(some 22),(.ext (.tmp 18) 0),none⟩,⟨(some 23),(.ext (.tmp 18) 1),none⟩,⟨(some 4),(.alloc [(.sc (.int .i64 0)),(.sc (.int .i64 0)),(.sc (.int .i64 0)),(.sc (.int .i64 0))]),none⟩,⟨none,(.store 4 (.tmp 4) (.tmp 22)),none⟩,⟨(some 5),(.mov (.tmp 23)),none⟩] false []) (.seq (.region [⟨(some 24),(.mov (.tmp 0)),none⟩,⟨(some 25),(.mov (.tmp 0)),none⟩,⟨(some 26),(.nilck (.tmp 25)),none⟩,⟨(some 27),(.faddr 4 (.tmp 26)),none⟩,⟨(some 28),(.load false 1 (.tmp 27)),none⟩,⟨(some 29),(.mov (.tmp 1)),none⟩,⟨(some 30),(.bslice 1 [(.sc (.int .i64 0))] 1 [(0,(.tmp 29))]),none⟩,⟨(some 31),(.app 1 8 (.tmp 28) (.tmp 30)),none⟩,⟨(some 32),(.nilck (.tmp 24)),none⟩,⟨(some 33),(.faddr 4 (.tmp 32)),none⟩,⟨none,(.store 1 (.tmp 33) (.tmp 31)),none⟩] false []) (.seq (.region [⟨(some 34),(.mov (.tmp 5)),none⟩,⟨(some 35),(.call (.func 61) [(.tmp 34),(.const (.int .i64 4))]),none⟩,⟨(some 6),(.mov (.tmp 35)),none⟩] false []) (.seq (.seq (.region [⟨(some 7),(.mov (.const (.int .i64 0))),none⟩] false []) (.block 2 (.loop c30L0))) c30R1))))))
def c30 : ACode:=(.block 0 (.loop c30L2))
def r30 : List ARes:=[]
def c31L0 : ACode:=(.seq (.seq (.region [⟨(some 43),(.mov (.tmp 11)),none⟩,⟨(some 44),(.faddr 2 (.tmp 9)),none⟩,⟨(some 45),(.load false 1 (.tmp 44)),none⟩,⟨(some 46),(.bin .lss 3 (.tmp 43) (.tmp 45)),none⟩,⟨(some 47),(.mov (.tmp 46)),none⟩,⟨(some 48),(.mov (.tmp 10)),(some ((some 47),true))⟩,⟨(some 49),(.call (.func 62) [(.tmp 48)]),(some ((some 47),true))⟩,⟨(some 50),(.bin .eql 29 (.tmp 49) (.const (.int .i64 0))),(some ((some 47),true))⟩,⟨(some 51),(.pick (.tmp 47) (.tmp 50) (.const (.bool false))),none⟩] false []) (.cond (.tmp 51) .skip (.exit 4))) (.seq (.block 5 (.seq (.region [⟨(some 54),(.mov (.tmp 10)),none⟩,⟨(some 55),(.nilck (.tmp 54)),none⟩,⟨(some 56),(.faddr 0 (.tmp 55)),none⟩,⟨(some 57),(.call (.func 65) [(.tmp 56),(.const (.int .i64 8))]),none⟩] false []) (.region [⟨(some 58),(.mov (.tmp 5)),none⟩,⟨(some 59),(.mov (.tmp 10)),none⟩,⟨(some 60),(.call (.func 61) [(.tmp 59),(.const (.int .i64 8))]),none⟩,⟨(some 61),(.bslice 1 [(.sc (.int .i64 0))] 1 [(0,(.tmp 60))]),none⟩,⟨(some 62),(.app 1 8 (.tmp 58) (.tmp 61)),none⟩,⟨(some 5),(.mov (.tmp 62)),none⟩] false []))) (.region [⟨(some 52),(.mov (.tmp 11)),none⟩,⟨(some 53),(.bin .add 3 (.tmp 52) (.const (.int .i64 1))),none⟩,⟨(some 11),(.mov (.tmp 53)),none⟩] false [])))
def c31R1 : ACode:=(.region [⟨(some 63),(.mov (.tmp 0)),none⟩,⟨(some 64),(.mov (.tmp 0)),none⟩,⟨(some 65),(.nilck (.tmp 64)),none⟩,⟨(some 66),(.faddr 6 (.tmp 65)),none⟩,⟨(some 67),(.load false 1 (.tmp 66)),none⟩,⟨(some 68),(.mov (.tmp 67)),none⟩,⟨(some 69),(.mov (.tmp 10)),(some ((some 68),false))⟩,⟨(some 70),(.call (.func 62) [(.tmp 69)]),(some ((some 68),false))⟩,⟨(some 71),(.bin .neq 29 (.tmp 70) (.const (.int .i64 0))),(some ((some 68),false))⟩,⟨(some 72),(.pick (.tmp 68) (.const (.bool true)) (.tmp 71)),none⟩,⟨(some 73),(.nilck (.tmp 63)),none⟩,⟨(some 74),(.faddr 6 (.tmp 73)),none⟩,⟨none,(.store 1 (.tmp 74) (.tmp 72)),none⟩] false [])
def c31R2 : ACode:=(.region [⟨(some 75),(.bin .add 3 (.tmp 21) (.const (.int .i64 1))),none⟩,⟨(some 21),(.mov (.tmp 75)),none⟩] false [])
def c31L3 : ACode:=(.seq (.region [⟨(some 22),(.bin .lss 3 (.tmp 21) (.tmp 20)),none⟩] false []) (.seq (.cond (.tmp 22) .skip (.exit 2)) (.seq (.block 3 (.seq (.region [⟨(some 23),(.iaddr none 1 (.tmp 19) (.tmp 21)),none⟩,⟨(some 24),(.load false 1 (.tmp 23)),none⟩,⟨(some 8),(.mov (.tmp 24)),none⟩] false []) (.seq (.region [⟨(some 26),(.mov (.tmp 0)),none⟩,⟨(some 27),(.mov (.tmp 8)),none⟩,⟨(some 28),(.call (.func 67) [(.tmp 26),(.tmp 27)]),none⟩,⟨(some 25),(.mov (.tmp 28)),none⟩,⟨(some 29),(.ext (.tmp 25) 0),none⟩,⟨(some 30),(.ext (.tmp 25) 1),none⟩,⟨(some 9),(.alloc [(.sc (.int .i64 0)),(.sc (.int .i64 0)),(.sc (.int .i64 0)),(.sc (.int .i64 0))]),none⟩,⟨none,(.store 4 (.tmp 9) (.tmp 29)),none⟩,⟨(some 10),(.mov (.tmp 30)),none⟩] false []) (.seq (.seq (.region [⟨(some 31),(.mov (.tmp 0)),none⟩,⟨(some 32),(.nilck (.tmp 31)),none⟩,⟨(some 33),(.faddr 6 (.tmp 32)),none⟩,⟨(some 34),(.load false 1 (.tmp 33)),none⟩] false []) (.cond (.tmp 34) .ret .skip)) (.seq (.region [⟨(some 35),(.faddr 3 (.tmp 9)),none⟩,⟨(some 36),(.load false 1 (.tmp 35)),none⟩,⟨(some 37),(.bin .eql 3 (.tmp 36) (.const (.int .i64 0))),none⟩,⟨(some 6),(.mov (.tmp 37)),none⟩] false []) (.seq (.seq (.region [⟨(some 38),(.mov (.tmp 6)),none⟩] false []) (.cond (.tmp 38) (.seq (.region [⟨(some 39),(.mov (.tmp 0)),none⟩,⟨(some 40),(.load true 4 (.tmp 9)),none⟩,⟨(some 41),(.mov (.tmp 10)),none⟩,⟨(some 42),(.call (.func 68) [(.tmp 39),(.tmp 40),(.tmp 41)]),none⟩] false []) (.exit 3)) .skip)) (.seq (.seq (.region [⟨(some 11),(.mov (.const (.int .i64 0))),none⟩] false []) (.block 4 (.loop c31L0))) c31R1))))))) c31R2)))
def c31R4 : ACode:=(.seq (.region [⟨(some 76),(.mov (.tmp 0)),none⟩,⟨(some 77),(.mov (.tmp 4)),none⟩,⟨(some 78),(.mov (.tmp 0)),none⟩,⟨(some 79),(.nilck (.tmp 78)),none⟩,⟨(some 80),(.faddr 4 (.tmp 79)),none⟩,⟨(some 81),(.load false 1 (.tmp 80)),none⟩,⟨(some 82),(.bslice 1 [(.sc (.slice none 0 0))] 2 [(0,(.tmp 77)),(1,(.tmp 81))]),none⟩,⟨(some 83),(.call (.func 69) [(.tmp 82)]),none⟩,⟨(some 84),(.nilck (.tmp 76)),none⟩,⟨(some 85),(.faddr 4 (.tmp 84)),none⟩,⟨none,(.store 1 (.tmp 85) (.tmp 83)),none⟩] false []) (.seq (.seq (.region [⟨(some 86),(.mov (.tmp 6)),none⟩,⟨(some 87),(.mov (.tmp 86)),none⟩,⟨(some 88),(.mov (.tmp 5)),(some ((some 87),false))⟩,⟨(some 89),(.len 0 (.tmp 88)),(some ((some 87),false))⟩,⟨(some 90),(.bin .eql 3 (.tmp 89) (.const (.int .i64 0))),(some ((some 87),false))⟩,⟨(some 91),(.pick (.tmp 87) (.const (.bool true)) (.tmp 90)),none⟩] false []) (.cond (.tmp 91) .ret .skip)) (.region [⟨(some 92),(.mov (.tmp 5)),none⟩,⟨(some 4),(.mov (.tmp 92)),none⟩] false [])))
def c31L5 : ACode:=(.seq (.seq (.region [⟨(some 14),(.mov (.tmp 0)),none⟩,⟨(some 15),(.nilck (.tmp 14)),none⟩,⟨(some 16),(.faddr 6 (.tmp 15)),none⟩,⟨(some 17),(.load false 1 (.tmp 16)),none⟩,⟨(some 18),(.un .not (.tmp 17)),none⟩] false []) (.cond (.tmp 18) .skip (.exit 0))) (.block 1 (.seq (.region [⟨(some 5),(.mov (.const (.slice none 0 0))),none⟩] false []) (.seq (.region [⟨(some 6),(.mov (.const (.bool false))),none⟩] false []) (.seq (.seq (.region [⟨(some 19),(.mov (.tmp 4)),none⟩,⟨(some 20),(.len 0 (.tmp 19)),none⟩,⟨(some 21),(.mov (.const (.int .i64 0))),none⟩] false []) (.block 2 (.loop c31L3))) c31R4)))))
def c31 : ACode:=(.seq (.region [⟨(some 12),(.mov (.tmp 1)),none⟩,⟨(some 13),(.bslice 1 [(.sc (.int .i64 0))] 1 [(0,(.tmp 12))]),none⟩,⟨(some 4),(.mov (.tmp 13)),none⟩] false []) (.block 0 (.loop c31L5)))
def r31 : List ARes:=[]
def c32L0 : ACode:=(.seq (.region [⟨(some 10),(.bin .lss 3 (.tmp 9) (.tmp 8)),none⟩] false []) (.seq (.cond (.tmp 10) .skip (.exit 0)) (.seq (.block 1 (.seq (.region [⟨(some 11),(.iaddr none 1 (.tmp 7) (.tmp 9)),none⟩,⟨(some 12),(.load false 1 (.tmp 11)),none⟩,⟨(some 5),(.mov (.tmp 12)),none⟩] false []) (.seq (.region [⟨(some 13),(.mov (.tmp 5)),none⟩,⟨(some 14),(.build [(.sc (.int .i64 0)),(.sc (.int .i64 0))] [(0,(1,(.tmp 13))),(1,(1,(.const (.int .i64 1))))]),none⟩,⟨(some 6),(.alloc [(.sc (.int .i64 0)),(.sc (.int .i64 0))]),none⟩,⟨none,(.store 2 (.tmp 6) (.tmp 14)),none⟩] false []) (.seq (.region [⟨(some 15),(.load true 2 (.tmp 6)),none⟩,⟨(some 16),(.call (.func 53) [(.tmp 15)]),none⟩] false []) (.cond (.tmp 16) (.region [⟨(some 17),(.mov (.tmp 3)),none⟩,⟨(some 18),(.load true 2 (.tmp 6)),none⟩,⟨(some 19),(.bslice 2 [(.sc (.int .i64 0)),(.sc (.int .i64 0))] 1 [(0,(.tmp 18))]),none⟩,⟨(some 20),(.app 2 16 (.tmp 17) (.tmp 19)),none⟩,⟨(some 3),(.mov (.tmp 20)),none⟩] false []) .skip))))) (.region [⟨(some 21),(.bin .add 3 (.tmp 9) (.const (.int .i64 1))),none⟩,⟨(some 9),(.mov (.tmp 21)),none⟩] false []))))
def c32R1 : ACode:=(.seq (.region [⟨(some 22),(.mov (.tmp 3)),none⟩,⟨(some 23),(.call (.func 57) [(.tmp 22)]),none⟩,⟨(some 2),(.mov (.tmp 23)),none⟩] false []) .ret)
def c32 : ACode:=(.seq (.region [⟨(some 2),(.mov (.const (.slice none 0 0))),none⟩] false []) (.seq (.region [⟨(some 3),(.mov (.const (.slice none 0 0))),none⟩] false []) (.seq (.seq (.region [⟨(some 7),(.mov (.tmp 0)),none⟩,⟨(some 8),(.len 0 (.tmp 7)),none⟩,⟨(some 9),(.mov (.const (.int .i64 0))),none⟩] false []) (.block 0 (.loop c32L0))) c32R1)))
def r32 : List ARes:=[(.tmp 2)]
def c33L0 : ACode:=(.seq (.region [⟨(some 15),(.bin .lss 3 (.tmp 14) (.tmp 13)),none⟩] false []) (.seq (.cond (.tmp 15) .skip (.exit 0)) (.seq (.block 1 (.seq (.region [⟨(some 16),(.mov (.tmp 14)),none⟩,⟨(some 17),(.iaddr none 1 (.tmp 12) (.tmp 14)),none⟩,⟨(some 18),(.load false 1 (.tmp 17)),none⟩,⟨(some 5),(.mov (.tmp 16)),none⟩,⟨(some 6),(.mov (.tmp 18)),none⟩] false []) (.seq (.region [⟨(some 20),(.mov (.tmp 0)),none⟩,⟨(some 21),(.nilck (.tmp 20)),none⟩,⟨(some 22),(.faddr 0 (.tmp 21)),none⟩,⟨(some 23),(.load false 1 (.tmp 22)),none⟩,⟨(some 24),(.mov (.tmp 6)),none⟩,⟨(some 25),(.call (.tmp 23) [(.tmp 24)]),none⟩,⟨(some 19),(.mov (.tmp 25)),none⟩,⟨(some 26),(.ext (.tmp 19) 0),none⟩,⟨(some 27),(.ext (.tmp 19) 1),none⟩,⟨(some 7),(.mov (.tmp 26)),none⟩,⟨(some 8),(.mov (.tmp 27)),none⟩] false []) (.seq (.region [⟨(some 28),(.mov (.tmp 8)),none⟩,⟨(some 29),(.bin .neq 29 (.tmp 28) (.const (.int .i64 0))),none⟩,⟨(some 30),(.mov (.tmp 29)),none⟩,⟨(some 31),(.mov (.tmp 7)),(some ((some 30),false))⟩,⟨(some 32),(.mov (.tmp 1)),(some ((some 30),false))⟩,⟨(some 33),(.mov (.tmp 5)),(some ((some 30),false))⟩,⟨(some 34),(.iaddr none 1 (.tmp 32) (.tmp 33)),(some ((some 30),false))⟩,⟨(some 35),(.load false 1 (.tmp 34)),(some ((some 30),false))⟩,⟨(some 36),(.call (.func 26) [(.tmp 31),(.tmp 35)]),(some ((some 30),false))⟩,⟨(some 37),(.un .not (.tmp 36)),(some ((some 30),false))⟩,⟨(some 38),(.pick (.tmp 30) (.const (.bool true)) (.tmp 37)),none⟩] false []) (.cond (.tmp 38) (.seq (.region [⟨(some 4),(.mov (.const (.bool false))),none⟩] false []) .ret) .skip))))) (.region [⟨(some 39),(.bin .add 3 (.tmp 14) (.const (.int .i64 1))),none⟩,⟨(some 14),(.mov (.tmp 39)),none⟩] false []))))
def c33R1 : ACode:=(.seq (.region [⟨(some 4),(.mov (.const (.bool true))),none⟩] false []) .ret)
def c33 : ACode:=(.seq (.region [⟨(some 4),(.mov (.const (.bool false))),none⟩] false []) (.seq (.seq (.region [⟨(some 9),(.mov (.tmp 0)),none⟩,⟨(some 10),(.nilck (.tmp 9)),none⟩,⟨(some 11),(.faddr 4 (.tmp 10)),none⟩,⟨(some 12),(.load false 1 (.tmp 11)),none⟩,⟨(some 13),(.len 0 (.tmp 12)),none⟩,⟨(some 14),(.mov (.const (.int .i64 0))),none⟩] false []) (.block 0 (.loop c33L0))) c33R1))
def r33 : List ARes:=[(.tmp 4)]
def c35L0 : ACode:=(.seq (.region [⟨(some 14),(.bin .lss 3 (.tmp 13) (.tmp 12)),none⟩] false []) (.seq (.cond (.tmp 14) .skip (.exit 0)) (.seq (.block 1 (.seq (.region [⟨(some 15),(.mov (.tmp 13)),none⟩,⟨(some 5),(.mov (.tmp 15)),none⟩] false []) (.seq (.region [⟨(some 16),(.mov (.tmp 0)),none⟩,⟨(some 17),(.mov (.tmp 5)),none⟩,⟨(some 18),(.iaddr none 2 (.tmp 16) (.tmp 17)),none⟩,⟨(some 19),(.load true 2 (.tmp 18)),none⟩,⟨(some 20),(.mov (.tmp 1)),none⟩,⟨(some 21),(.mov (.tmp 5)),none⟩,⟨(some 22),(.iaddr none 2 (.tmp 20) (.tmp 21)),none⟩,⟨(some 23),(.load true 2 (.tmp 22)),none⟩,⟨(some 24),(.eqs true [0,0] (.tmp 19) (.tmp 23)),none⟩] true []) (.cond (.tmp 24) (.seq (.region [⟨(some 4),(.mov (.const (.bool false))),none⟩] false []) .ret) .skip)))) (.region [⟨(some 25),(.bin .add 3 (.tmp 13) (.const (.int .i64 1))),none⟩,⟨(some 13),(.mov (.tmp 25)),none⟩] false []))))
def c35R1 : ACode:=(.seq (.region [⟨(some 4),(.mov (.const (.bool true))),none⟩] false []) .ret)
def c35 : ACode:=(.seq (.region [⟨(some 4),(.mov (.const (.bool false))),none⟩] false []) (.seq (.seq (.region [⟨(some 6),(.mov (.tmp 0)),none⟩,⟨(some 7),(.len 0 (.tmp 6)),none⟩,⟨(some 8),(.mov (.tmp 1)),none⟩,⟨(some 9),(.len 0 (.tmp 8)),none⟩,⟨(some 10),(.bin .neq 3 (.tmp 7) (.tmp 9)),none⟩] false []) (.cond (.tmp 10) (.seq (.region [⟨(some 4),(.mov (.const (.bool false))),none⟩] false []) .ret) .skip)) (.seq (.seq (.region [⟨(some 11),(.mov (.tmp 0)),none⟩,⟨(some 12),(.len 0 (.tmp 11)),none⟩,⟨(some 13),(.mov (.const (.int .i64 0))),none⟩] false []) (.block 0 (.loop c35L0))) c35R1)))
def r35 : List ARes:=[(.tmp 4)]
def c44 : ACode:=(.seq (.region [⟨(some 1),(.box 2 (.tmp 0)),none⟩,⟨(some 2),(.mov (.const (.bool false))),none⟩] false []) (.seq (.region [⟨(some 3),(.faddr 0 (.tmp 1)),none⟩,⟨(some 4),(.load false 1 (.tmp 3)),none⟩,⟨(some 5),(.bin .geq 3 (.tmp 4) (.const (.int .i64 0))),none⟩,⟨(some 6),(.mov (.tmp 5)),none⟩,⟨(some 7),(.faddr 0 (.tmp 1)),(some ((some 6),true))⟩,⟨(some 8),(.load false 1 (.tmp 7)),(some ((some 6),true))⟩,⟨(some 9),(.bin .leq 3 (.tmp 8) (.const (.int .i64 32768))),(some ((some 6),true))⟩,⟨(some 10),(.pick (.tmp 6) (.tmp 9) (.const (.bool false))),none⟩,⟨(some 11),(.mov (.tmp 10)),none⟩,⟨(some 12),(.faddr 1 (.tmp 1)),(some ((some 11),true))⟩,⟨(some 13),(.load false 1 (.tmp 12)),(some ((some 11),true))⟩,⟨(some 14),(.bin .geq 3 (.tmp 13) (.const (.int .i64 1))),(some ((some 11),true))⟩,⟨(some 15),(.pick (.tmp 11) (.tmp 14) (.const (.bool false))),none⟩,⟨(some 16),(.mov (.tmp 15)),none⟩,⟨(some 17),(.faddr 1 (.tmp 1)),(some ((some 16),true))⟩,⟨(some 18),(.load false 1 (.tmp 17)),(some ((some 16),true))⟩,⟨(some 19),(.bin .leq 3 (.tmp 18) (.const (.int .i64 32768))),(some ((some 16),true))⟩,⟨(some 20),(.pick (.tmp 16) (.tmp 19) (.const (.bool false))),none⟩,⟨(some 21),(.mov (.tmp 20)),none⟩,⟨(some 22),(.faddr 0 (.tmp 1)),(some ((some 21),true))⟩,⟨(some 23),(.load false 1 (.tmp 22)),(some ((some 21),true))⟩,⟨(some 24),(.faddr 1 (.tmp 1)),(some ((some 21),true))⟩,⟨(some 25),(.load false 1 (.tmp 24)),(some ((some 21),true))⟩,⟨(some 26),(.bin .add 3 (.tmp 23) (.tmp 25)),(some ((some 21),true))⟩,⟨(some 27),(.bin .leq 3 (.tmp 26) (.const (.int .i64 32768))),(some ((some 21),true))⟩,⟨(some 28),(.pick (.tmp 21) (.tmp 27) (.const (.bool false))),none⟩,⟨(some 2),(.mov (.tmp 28)),none⟩] false []) .ret))
def r44 : List ARes:=[(.tmp 2)]
def c45L0 : ACode:=(.seq (.region [⟨(some 10),(.bin .lss 3 (.tmp 9) (.tmp 8)),none⟩] false []) (.seq (.cond (.tmp 10) .skip (.exit 0)) (.seq (.block 1 (.seq (.region [⟨(some 11),(.iaddr none 2 (.tmp 7) (.tmp 9)),none⟩,⟨(some 12),(.load true 2 (.tmp 11)),none⟩,⟨(some 5),(.alloc [(.sc (.int .i64 0)),(.sc (.int .i64 0))]),none⟩,⟨none,(.store 2 (.tmp 5) (.tmp 12)),none⟩] false []) (.region [⟨(some 13),(.mov (.tmp 3)),none⟩,⟨(some 14),(.faddr 1 (.tmp 5)),none⟩,⟨(some 15),(.load false 1 (.tmp 14)),none⟩,⟨(some 16),(.bin .add 3 (.tmp 13) (.tmp 15)),none⟩,⟨(some 3),(.mov (.tmp 16)),none⟩] false []))) (.region [⟨(some 17),(.bin .add 3 (.tmp 9) (.const (.int .i64 1))),none⟩,⟨(some 9),(.mov (.tmp 17)),none⟩] false []))))
def c45R1 : ACode:=(.seq (.region [⟨(some 18),(.mov (.tmp 3)),none⟩,⟨(some 2),(.mov (.tmp 18)),none⟩] false []) .ret)
def c45 : ACode:=(.seq (.region [⟨(some 2),(.mov (.const (.int .i64 0))),none⟩] false []) (.seq (.region [⟨(some 3),(.mov (.const (.int .i64 0))),none⟩] false []) (.seq (.seq (.region [⟨(some 6),(.mov (.tmp 0)),none⟩,⟨(some 7),(.call (.func 55) [(.tmp 6)]),none⟩,⟨(some 8),(.len 0 (.tmp 7)),none⟩,⟨(some 9),(.mov (.const (.int .i64 0))),none⟩] false []) (.block 0 (.loop c45L0))) c45R1)))
def r45 : List ARes:=[(.tmp 2)]
def c46 : ACode:=(.seq (.region [⟨(some 2),(.mov (.const (.bool false))),none⟩] false []) (.seq (.region [⟨(some 3),(.mov (.tmp 0)),none⟩,⟨(some 4),(.bin .geq 3 (.tmp 3) (.const (.int .i64 1))),none⟩,⟨(some 5),(.mov (.tmp 4)),none⟩,⟨(some 6),(.mov (.tmp 0)),(some ((some 5),true))⟩,⟨(some 7),(.bin .leq 3 (.tmp 6) (.const (.int .i64 3))),(some ((some 5),true))⟩,⟨(some 8),(.pick (.tmp 5) (.tmp 7) (.const (.bool false))),none⟩,⟨(some 2),(.mov (.tmp 8)),none⟩] false []) .ret))
def r46 : List ARes:=[(.tmp 2)]
def c47 : ACode:=(.seq (.region [⟨(some 4),(.mov (.const (.int .i64 0))),none⟩] false []) (.seq (.region [⟨(some 5),(.mov (.tmp 0)),none⟩,⟨(some 6),(.mov (.tmp 1)),none⟩,⟨(some 7),(.bin .add 3 (.tmp 5) (.tmp 6)),none⟩,⟨(some 8),(.bin .sub 3 (.tmp 7) (.const (.int .i64 1))),none⟩,⟨(some 9),(.mov (.tmp 1)),none⟩,⟨(some 10),(.bin .quo 3 (.tmp 8) (.tmp 9)),none⟩,⟨(some 4),(.mov (.tmp 10)),none⟩] false []) .ret))
def r47 : List ARes:=[(.tmp 4)]
def c48 : ACode:=(.seq (.region [⟨(some 2),(.mov (.const (.int .i64 0))),none⟩] false []) (.seq (.region [⟨(some 3),(.mov (.tmp 0)),none⟩,⟨(some 4),(.call (.func 83) [(.tmp 3)]),none⟩,⟨(some 5),(.bin .sub 3 (.tmp 4) (.const (.int .i64 4))),none⟩,⟨(some 6),(.mov (.tmp 0)),none⟩,⟨(some 7),(.call (.func 66) [(.tmp 6)]),none⟩,⟨(some 8),(.bin .quo 3 (.tmp 5) (.tmp 7)),none⟩,⟨(some 2),(.mov (.tmp 8)),none⟩] false []) .ret))
def r48 : List ARes:=[(.tmp 2)]
def c49L0 : ACode:=(.seq (.region [⟨(some 10),(.bin .lss 3 (.tmp 9) (.tmp 8)),none⟩] false []) (.seq (.cond (.tmp 10) .skip (.exit 0)) (.seq (.block 1 (.seq (.region [⟨(some 11),(.mov (.tmp 9)),none⟩,⟨(some 12),(.iaddr none 1 (.tmp 7) (.tmp 9)),none⟩,⟨(some 13),(.load false 1 (.tmp 12)),none⟩,⟨(some 5),(.mov (.tmp 11)),none⟩,⟨(some 6),(.mov (.tmp 13)),none⟩] false []) (.seq (.region [⟨(some 14),(.mov (.tmp 6)),none⟩,⟨(some 15),(.bin .lss 3 (.tmp 14) (.const (.int .i64 2))),none⟩,⟨(some 16),(.mov (.tmp 15)),none⟩,⟨(some 17),(.mov (.tmp 6)),(some ((some 16),false))⟩,⟨(some 18),(.bin .geq 3 (.tmp 17) (.const (.int .i64 16384))),(some ((some 16),false))⟩,⟨(some 19),(.pick (.tmp 16) (.const (.bool true)) (.tmp 18)),none⟩,⟨(some 20),(.mov (.tmp 19)),none⟩,⟨(some 21),(.mov (.tmp 0)),(some ((some 20),false))⟩,⟨(some 22),(.mov (.tmp 5)),(some ((some 20),false))⟩,⟨(some 23),(.slice 1 (.tmp 21) none (some (.tmp 22)) none),(some ((some 20),false))⟩,⟨(some 24),(.mov (.tmp 6)),(some ((some 20),false))⟩,⟨(some 25),(.call (.func 84) [(.tmp 23),(.tmp 24)]),(some ((some 20),false))⟩,⟨(some 26),(.pick (.tmp 20) (.const (.bool true)) (.tmp 25)),none⟩] false []) (.cond (.tmp 26) (.seq (.region [⟨(some 4),(.mov (.const (.bool false))),none⟩] false []) .ret) .skip)))) (.region [⟨(some 27),(.bin .add 3 (.tmp 9) (.const (.int .i64 1))),none⟩,⟨(some 9),(.mov (.tmp 27)),none⟩] false []))))
def c49R1 : ACode:=(.seq (.region [⟨(some 28),(.mov (.tmp 0)),none⟩,⟨(some 29),(.len 0 (.tmp 28)),none⟩,⟨(some 30),(.mov (.tmp 1)),none⟩,⟨(some 31),(.bin .eql 3 (.tmp 29) (.tmp 30)),none⟩,⟨(some 4),(.mov (.tmp 31)),none⟩] false []) .ret)
def c49 : ACode:=(.seq (.region [⟨(some 4),(.mov (.const (.bool false))),none⟩] false []) (.seq (.seq (.region [⟨(some 7),(.mov (.tmp 0)),none⟩,⟨(some 8),(.len 0 (.tmp 7)),none⟩,⟨(some 9),(.mov (.const (.int .i64 0))),none⟩] false []) (.block 0 (.loop c49L0))) c49R1))
def r49 : List ARes:=[(.tmp 4)]
def c50L0 : ACode:=(.seq (.region [⟨(some 58),(.bin .lss 3 (.tmp 57) (.tmp 56)),none⟩] false []) (.seq (.cond (.tmp 58) .skip (.exit 2)) (.seq (.block 3 (.seq (.region [⟨(some 59),(.iaddr none 1 (.tmp 55) (.tmp 57)),none⟩,⟨(some 60),(.load false 1 (.tmp 59)),none⟩,⟨(some 14),(.mov (.tmp 60)),none⟩] false []) (.region [⟨(some 61),(.mov (.tmp 12)),none⟩,⟨(some 62),(.mov (.tmp 14)),none⟩,⟨(some 63),(.load false 1 (.tmp 3)),none⟩,⟨(some 64),(.call (.func 66) [(.tmp 63)]),none⟩,⟨(some 65),(.call (.func 88) [(.tmp 61),(.tmp 62),(.tmp 64)]),none⟩] false []))) (.region [⟨(some 66),(.bin .add 3 (.tmp 57) (.const (.int .i64 1))),none⟩,⟨(some 57),(.mov (.tmp 66)),none⟩] false []))))
def c50R1 : ACode:=(.seq (.region [⟨(some 67),(.load false 1 (.tmp 3)),none⟩,⟨(some 68),(.mov (.tmp 10)),none⟩,⟨(some 69),(.len 0 (.tmp 68)),none⟩,⟨(some 70),(.build [(.sc (.int .i64 0)),(.sc (.int .i64 0)),(.sc (.int .i64 0)),(.sc (.int .i64 0))] [(0,(1,(.const (.int .i64 70)))),(1,(1,(.tmp 67))),(2,(1,(.tmp 69)))]),none⟩,⟨(some 15),(.alloc [(.sc (.int .i64 0)),(.sc (.int .i64 0)),(.sc (.int .i64 0)),(.sc (.int .i64 0))]),none⟩,⟨none,(.store 4 (.tmp 15) (.tmp 70)),none⟩] false []) (.seq (.seq (.region [⟨(some 71),(.mov (.tmp 11)),none⟩,⟨(some 72),(.bin .add 3 (.tmp 71) (.const (.int .i64 1))),none⟩,⟨(some 73),(.load false 1 (.tmp 5)),none⟩,⟨(some 74),(.len 0 (.tmp 73)),none⟩,⟨(some 75),(.bin .lss 3 (.tmp 72) (.tmp 74)),none⟩] false []) (.cond (.tmp 75) (.region [⟨(some 76),(.load false 1 (.tmp 5)),none⟩,⟨(some 77),(.mov (.tmp 11)),none⟩,⟨(some 78),(.bin .add 3 (.tmp 77) (.const (.int .i64 1))),none⟩,⟨(some 79),(.iaddr none 1 (.tmp 76) (.tmp 78)),none⟩,⟨(some 80),(.load false 1 (.tmp 79)),none⟩,⟨(some 81),(.faddr 3 (.tmp 15)),none⟩,⟨none,(.store 1 (.tmp 81) (.tmp 80)),none⟩] false []) .skip)) (.seq (.region [⟨(some 83),(.mov (.tmp 12)),none⟩,⟨(some 84),(.call (.func 89) [(.tmp 83)]),none⟩,⟨(some 82),(.mov (.tmp 84)),none⟩,⟨(some 85),(.ext (.tmp 82) 0),none⟩,⟨(some 86),(.ext (.tmp 82) 1),none⟩,⟨(some 16),(.mov (.tmp 85)),none⟩,⟨(some 17),(.mov (.tmp 86)),none⟩] false []) (.seq (.region [⟨(some 88),(.load true 4 (.tmp 15)),none⟩,⟨(some 89),(.mov (.tmp 16)),none⟩,⟨(some 90),(.call (.func 90) [(.tmp 88),(.tmp 89)]),none⟩,⟨(some 87),(.mov (.tmp 90)),none⟩,⟨(some 91),(.ext (.tmp 87) 0),none⟩,⟨(some 92),(.ext (.tmp 87) 1),none⟩,⟨(some 18),(.mov (.tmp 91)),none⟩,⟨(some 19),(.mov (.tmp 92)),none⟩] false []) (.region [⟨(some 93),(.load false 1 (.tmp 9)),none⟩,⟨(some 94),(.mov (.tmp 18)),none⟩,⟨(some 95),(.bslice 1 [(.sc (.slice none 0 0))] 1 [(0,(.tmp 94))]),none⟩,⟨(some 96),(.app 1 24 (.tmp 93) (.tmp 95)),none⟩,⟨none,(.store 1 (.tmp 9) (.tmp 96)),none⟩] false [])))))
def c50A2 : ACode:=(.region [⟨(some 10),(.mov (.tmp 33)),none⟩] false [])
def c50B2 : ACode:=(.block 1 (.seq (.region [⟨(some 34),(.load false 1 (.tmp 9)),none⟩,⟨(some 35),(.len 0 (.tmp 34)),none⟩,⟨(some 11),(.mov (.tmp 35)),none⟩] false []) (.seq (.region [⟨(some 36),(.load false 1 (.tmp 3)),none⟩,⟨(some 37),(.call (.func 83) [(.tmp 36)]),none⟩,⟨(some 38),(.call (.func 87) [(.tmp 37)]),none⟩,⟨(some 12),(.mov (.tmp 38)),none⟩] false []) (.seq (.region [⟨(some 39),(.mov (.tmp 12)),none⟩,⟨(some 40),(.mov (.tmp 10)),none⟩,⟨(some 41),(.len 0 (.tmp 40)),none⟩,⟨(some 42),(.load false 1 (.tmp 7)),none⟩,⟨(some 43),(.len 0 (.tmp 42)),none⟩,⟨(some 44),(.mov (.tmp 11)),none⟩,⟨(some 45),(.load false 1 (.tmp 3)),none⟩,⟨(some 46),(.call (.func 48) [(.tmp 45)]),none⟩,⟨(some 47),(.bin .mul 3 (.tmp 44) (.tmp 46)),none⟩,⟨(some 48),(.bin .sub 3 (.tmp 43) (.tmp 47)),none⟩,⟨(some 49),(.mx2 (.tmp 48) (.const (.int .i64 0))),none⟩,⟨(some 50),(.mov (.tmp 10)),none⟩,⟨(some 51),(.len 0 (.tmp 50)),none⟩,⟨(some 52),(.mn2 (.tmp 49) (.tmp 51)),none⟩,⟨(some 53),(.bin .sub 3 (.tmp 41) (.tmp 52)),none⟩,⟨(some 54),(.call (.func 88) [(.tmp 39),(.tmp 53),(.const (.int .i64 4))]),none⟩] true [(2,7),(3,7),(4,7),(7,12)]) (.seq (.seq (.region [⟨(some 55),(.mov (.tmp 10)),none⟩,⟨(some 56),(.len 0 (.tmp 55)),none⟩,⟨(some 57),(.mov (.const (.int .i64 0))),none⟩] false []) (.block 2 (.loop c50L0))) c50R1)))))
def c50R3 : ACode:=(.seq (.region [⟨(some 97),(.load false 1 (.tmp 9)),none⟩,⟨(some 6),(.mov (.tmp 97)),none⟩] false []) .ret)
def c50 : ACode:=(.seq (.region [⟨(some 3),(.box 1 (.tmp 0)),none⟩,⟨(some 4),(.box 2 (.tmp 1)),none⟩,⟨(some 5),(.box 1 (.tmp 2)),none⟩,⟨(some 6),(.mov (.const (.slice none 0 0))),none⟩] false []) (.seq (.region [⟨(some 20),(.faddr 0 (.tmp 4)),none⟩,⟨(some 21),(.load false 1 (.tmp 20)),none⟩,⟨(some 22),(.call (.func 85) [(.tmp 21)]),none⟩,⟨(some 7),(.alloc [(.sc (.slice none 0 0))]),none⟩,⟨none,(.store 1 (.tmp 7) (.tmp 22)),none⟩] false []) (.seq (.region [⟨(some 23),(.load false 1 (.tmp 7)),none⟩,⟨(some 24),(.faddr 1 (.tmp 4)),none⟩,⟨(some 25),(.load false 1 (.tmp 24)),none⟩,⟨(some 26),(.call (.func 85) [(.tmp 25)]),none⟩,⟨(some 27),(.bslice 1 [(.sc (.slice none 0 0))] 2 [(0,(.tmp 23)),(1,(.tmp 26))]),none⟩,⟨(some 28),(.call (.func 69) [(.tmp 27)]),none⟩,⟨(some 8),(.mov (.tmp 28)),none⟩] true [(0,3)]) (.seq (.region [⟨(some 9),(.alloc [(.sc (.slice none 0 0))]),none⟩] false []) (.seq (.seq (.region [⟨(some 29),(.mov (.tmp 8)),none⟩,⟨(some 30),(.load false 1 (.tmp 3)),none⟩,⟨(some 31),(.call (.func 48) [(.tmp 30)]),none⟩,⟨(some 32),(.call (.func 86) [(.tmp 29),(.tmp 31)]),none⟩] false []) (.block 0 (.rangeF (.tmp 32) [33] c50A2 c50B2))) c50R3)))))
def r50 : List ARes:=[(.tmp 6)]
def c51 : ACode:=(.seq (.region [⟨(some 3),(.box 1 (.tmp 0)),none⟩,⟨(some 4),(.box 2 (.tmp 1)),none⟩,⟨(some 5),(.box 1 (.tmp 2)),none⟩,⟨(some 6),(.mov (.const (.slice none 0 0))),none⟩] false []) .stop)
def r51 : List ARes:=[(.tmp 6)]
def c52L0 : ACode:=(.seq (.seq (.region [⟨(some 4),(.mov (.tmp 3)),none⟩,⟨(some 5),(.mov (.tmp 0)),none⟩,⟨(some 6),(.len 0 (.tmp 5)),none⟩,⟨(some 7),(.bin .lss 3 (.tmp 4) (.tmp 6)),none⟩] false []) (.cond (.tmp 7) .skip (.exit 0))) (.seq (.block 1 (.seq (.region [⟨(some 10),(.mov (.tmp 0)),none⟩,⟨(some 11),(.mov (.tmp 3)),none⟩,⟨(some 12),(.iaddr none 2 (.tmp 10) (.tmp 11)),none⟩,⟨(some 13),(.faddr 0 (.tmp 12)),none⟩,⟨(some 14),(.load false 1 (.tmp 13)),none⟩,⟨(some 15),(.bin .lss 3 (.tmp 14) (.const (.int .i64 2))),none⟩,⟨(some 16),(.mov (.tmp 15)),none⟩,⟨(some 17),(.mov (.tmp 0)),(some ((some 16),false))⟩,⟨(some 18),(.mov (.tmp 3)),(some ((some 16),false))⟩,⟨(some 19),(.iaddr none 2 (.tmp 17) (.tmp 18)),(some ((some 16),false))⟩,⟨(some 20),(.faddr 0 (.tmp 19)),(some ((some 16),false))⟩,⟨(some 21),(.load false 1 (.tmp 20)),(some ((some 16),false))⟩,⟨(some 22),(.mov (.tmp 0)),(some ((some 16),false))⟩,⟨(some 23),(.mov (.tmp 3)),(some ((some 16),false))⟩,⟨(some 24),(.iaddr none 2 (.tmp 22) (.tmp 23)),(some ((some 16),false))⟩,⟨(some 25),(.faddr 1 (.tmp 24)),(some ((some 16),false))⟩,⟨(some 26),(.load false 1 (.tmp 25)),(some ((some 16),false))⟩,⟨(some 27),(.bin .add 3 (.tmp 21) (.tmp 26)),(some ((some 16),false))⟩,⟨(some 28),(.bin .gtr 3 (.tmp 27) (.const (.int .i64 16384))),(some ((some 16),false))⟩,⟨(some 29),(.pick (.tmp 16) (.const (.bool true)) (.tmp 28)),none⟩] true []) (.cond (.tmp 29) (.seq (.region [⟨(some 2),(.mov (.const (.bool false))),none⟩] false []) .ret) .skip))) (.region [⟨(some 8),(.mov (.tmp 3)),none⟩,⟨(some 9),(.bin .add 3 (.tmp 8) (.const (.int .i64 1))),none⟩,⟨(some 3),(.mov (.tmp 9)),none⟩] false [])))
def c52R1 : ACode:=(.seq (.region [⟨(some 30),(.mov (.tmp 0)),none⟩,⟨(some 31),(.call (.func 94) [(.tmp 30)]),none⟩,⟨(some 2),(.mov (.tmp 31)),none⟩] false []) .ret)
def c52 : ACode:=(.seq (.region [⟨(some 2),(.mov (.const (.bool false))),none⟩] false []) (.seq (.seq (.region [⟨(some 3),(.mov (.const (.int .i64 0))),none⟩] false []) (.block 0 (.loop c52L0))) c52R1))
def r52 : List ARes:=[(.tmp 2)]
def c53 : ACode:=(.seq (.region [⟨(some 1),(.box 2 (.tmp 0)),none⟩,⟨(some 2),(.mov (.const (.bool false))),none⟩] false []) (.seq (.region [⟨(some 3),(.faddr 0 (.tmp 1)),none⟩,⟨(some 4),(.load false 1 (.tmp 3)),none⟩,⟨(some 5),(.bin .geq 3 (.tmp 4) (.const (.int .i64 0))),none⟩,⟨(some 6),(.mov (.tmp 5)),none⟩,⟨(some 7),(.faddr 1 (.tmp 1)),(some ((some 6),true))⟩,⟨(some 8),(.load false 1 (.tmp 7)),(some ((some 6),true))⟩,⟨(some 9),(.bin .geq 3 (.tmp 8) (.const (.int .i64 1))),(some ((some 6),true))⟩,⟨(some 10),(.pick (.tmp 6) (.tmp 9) (.const (.bool false))),none⟩,⟨(some 11),(.mov (.tmp 10)),none⟩,⟨(some 12),(.faddr 0 (.tmp 1)),(some ((some 11),true))⟩,⟨(some 13),(.load false 1 (.tmp 12)),(some ((some 11),true))⟩,⟨(some 14),(.bin .leq 3 (.tmp 13) (.const (.int .i64 32768))),(some ((some 11),true))⟩,⟨(some 15),(.pick (.tmp 11) (.tmp 14) (.const (.bool false))),none⟩,⟨(some 16),(.mov (.tmp 15)),none⟩,⟨(some 17),(.faddr 1 (.tmp 1)),(some ((some 16),true))⟩,⟨(some 18),(.load false 1 (.tmp 17)),(some ((some 16),true))⟩,⟨(some 19),(.faddr 0 (.tmp 1)),(some ((some 16),true))⟩,⟨(some 20),(.load false 1 (.tmp 19)),(some ((some 16),true))⟩,⟨(some 21),(.bin .sub 3 (.const (.int .i64 32768)) (.tmp 20)),(some ((some 16),true))⟩,⟨(some 22),(.bin .leq 3 (.tmp 18) (.tmp 21)),(some ((some 16),true))⟩,⟨(some 23),(.pick (.tmp 16) (.tmp 22) (.const (.bool false))),none⟩,⟨(some 2),(.mov (.tmp 23)),none⟩] false []) .ret))
def r53 : List ARes:=[(.tmp 2)]
def c54 : ACode:=(.seq (.region [⟨(some 3),(.box 2 (.tmp 1)),none⟩,⟨(some 4),(.mov (.const (.int .i64 0))),none⟩] false []) (.seq (.region [⟨(some 5),(.mov (.tmp 0)),none⟩,⟨(some 6),(.mkfn (.func 96) [] [(.tmp 3)]),none⟩,⟨(some 7),(.call (.func 95) [(.tmp 5),(.tmp 6)]),none⟩,⟨(some 4),(.mov (.tmp 7)),none⟩] false []) .ret))
def r54 : List ARes:=[(.tmp 4)]
def c55 : ACode:=(.seq (.region [⟨(some 2),(.mov (.const (.slice none 0 0))),none⟩] false []) (.seq (.seq (.region [⟨(some 3),(.mov (.tmp 0)),none⟩,⟨(some 4),(.call (.func 98) [(.tmp 3)]),none⟩,⟨(some 5),(.un .not (.tmp 4)),none⟩] false []) (.cond (.tmp 5) (.seq (.region [⟨(some 2),(.mov (.const (.slice none 0 0))),none⟩] false []) .ret) .skip)) (.seq (.region [⟨(some 6),(.mov (.tmp 0)),none⟩,⟨(some 2),(.mov (.tmp 6)),none⟩] false []) .ret)))
def r55 : List ARes:=[(.tmp 2)]
def c56 : ACode:=(.seq (.region [⟨(some 2),(.mov (.const (.slice none 0 0))),none⟩] false []) (.seq (.seq (.region [⟨(some 3),(.mov (.tmp 0)),none⟩,⟨(some 4),(.isnil false 0 (.tmp 3)),none⟩] false []) (.cond (.tmp 4) (.seq (.region [⟨(some 2),(.mov (.const (.slice none 0 0))),none⟩] false []) .ret) .skip)) (.seq (.region [⟨(some 5),(.bslice 2 [(.sc (.int .i64 0)),(.sc (.int .i64 0))] 0 []),none⟩,⟨(some 6),(.mov (.tmp 0)),none⟩,⟨(some 7),(.app 2 16 (.tmp 5) (.tmp 6)),none⟩,⟨(some 2),(.mov (.tmp 7)),none⟩] false []) .ret)))
def r56 : List ARes:=[(.tmp 2)]
def c57L0 : ACode:=(.seq (.region [⟨(some 15),(.bin .lss 3 (.tmp 14) (.tmp 13)),none⟩] false []) (.seq (.cond (.tmp 15) .skip (.exit 0)) (.seq (.block 1 (.seq (.region [⟨(some 16),(.iaddr none 2 (.tmp 12) (.tmp 14)),none⟩,⟨(some 17),(.load true 2 (.tmp 16)),none⟩,⟨(some 6),(.alloc [(.sc (.int .i64 0)),(.sc (.int .i64 0))]),none⟩,⟨none,(.store 2 (.tmp 6) (.tmp 17)),none⟩] false []) (.seq (.region [⟨(some 18),(.mov (.tmp 4)),none⟩,⟨(some 19),(.len 0 (.tmp 18)),none⟩,⟨(some 20),(.bin .sub 3 (.tmp 19) (.const (.int .i64 1))),none⟩,⟨(some 7),(.mov (.tmp 20)),none⟩] false []) (.seq (.seq (.region [⟨(some 21),(.mov (.tmp 7)),none⟩,⟨(some 22),(.bin .lss 3 (.tmp 21) (.const (.int .i64 0))),none⟩,⟨(some 23),(.mov (.tmp 22)),none⟩,⟨(some 24),(.faddr 0 (.tmp 6)),(some ((some 23),false))⟩,⟨(some 25),(.load false 1 (.tmp 24)),(some ((some 23),false))⟩,⟨(some 26),(.mov (.tmp 4)),(some ((some 23),false))⟩,⟨(some 27),(.mov (.tmp 7)),(some ((some 23),false))⟩,⟨(some 28),(.iaddr none 2 (.tmp 26) (.tmp 27)),(some ((some 23),false))⟩,⟨(some 29),(.load true 2 (.tmp 28)),(some ((some 23),false))⟩,⟨(some 30),(.call (.func 97) [(.tmp 29)]),(some ((some 23),false))⟩,⟨(some 31),(.bin .gtr 3 (.tmp 25) (.tmp 30)),(some ((some 23),false))⟩,⟨(some 32),(.pick (.tmp 23) (.const (.bool true)) (.tmp 31)),none⟩] true [(4,9)]) (.cond (.tmp 32) (.seq (.region [⟨(some 33),(.mov (.tmp 4)),none⟩,⟨(some 34),(.load true 2 (.tmp 6)),none⟩,⟨(some 35),(.bslice 2 [(.sc (.int .i64 0)),(.sc (.int .i64 0))] 1 [(0,(.tmp 34))]),none⟩,⟨(some 36),(.app 2 16 (.tmp 33) (.tmp 35)),none⟩,⟨(some 4),(.mov (.tmp 36)),none⟩] false []) (.exit 1)) .skip)) (.region [⟨(some 37),(.mov (.tmp 4)),none⟩,⟨(some 38),(.mov (.tmp 7)),none⟩,⟨(some 39),(.mov (.tmp 4)),none⟩,⟨(some 40),(.mov (.tmp 7)),none⟩,⟨(some 41),(.iaddr none 2 (.tmp 39) (.tmp 40)),none⟩,⟨(some 42),(.load true 2 (.tmp 41)),none⟩,⟨(some 43),(.call (.func 97) [(.tmp 42)]),none⟩,⟨(some 44),(.load true 2 (.tmp 6)),none⟩,⟨(some 45),(.call (.func 97) [(.tmp 44)]),none⟩,⟨(some 46),(.mx2 (.tmp 43) (.tmp 45)),none⟩,⟨(some 47),(.mov (.tmp 4)),none⟩,⟨(some 48),(.mov (.tmp 7)),none⟩,⟨(some 49),(.iaddr none 2 (.tmp 47) (.tmp 48)),none⟩,⟨(some 50),(.faddr 0 (.tmp 49)),none⟩,⟨(some 51),(.load false 1 (.tmp 50)),none⟩,⟨(some 52),(.bin .sub 3 (.tmp 46) (.tmp 51)),none⟩,⟨(some 53),(.iaddr none 2 (.tmp 37) (.tmp 38)),none⟩,⟨(some 54),(.faddr 1 (.tmp 53)),none⟩,⟨none,(.store 1 (.tmp 54) (.tmp 52)),none⟩] true [(6,7),(6,12),(8,12),(6,14),(8,14)]))))) (.region [⟨(some 55),(.bin .add 3 (.tmp 14) (.const (.int .i64 1))),none⟩,⟨(some 14),(.mov (.tmp 55)),none⟩] false []))))
def c57R1 : ACode:=(.seq (.region [⟨(some 56),(.mov (.tmp 4)),none⟩,⟨(some 2),(.mov (.tmp 56)),none⟩] false []) .ret)
def c57 : ACode:=(.seq (.region [⟨(some 2),(.mov (.const (.slice none 0 0))),none⟩] false []) (.seq (.region [⟨(some 8),(.mov (.tmp 0)),none⟩,⟨(some 9),(.call (.func 56) [(.tmp 8)]),none⟩,⟨(some 3),(.mov (.tmp 9)),none⟩] false []) (.seq (.region [⟨(some 10),(.mov (.tmp 3)),none⟩,⟨(some 11),(.call (.func 99) [(.tmp 10),(.func 100)]),none⟩] false []) (.seq (.region [⟨(some 4),(.mov (.const (.slice none 0 0))),none⟩] false []) (.seq (.seq (.region [⟨(some 12),(.mov (.tmp 3)),none⟩,⟨(some 13),(.len 0 (.tmp 12)),none⟩,⟨(some 14),(.mov (.const (.int .i64 0))),none⟩] false []) (.block 0 (.loop c57L0))) c57R1)))))
def r57 : List ARes:=[(.tmp 2)]
def c58 : ACode:=(.seq (.region [⟨(some 2),(.mov (.const (.bool false))),none⟩] false []) (.seq (.region [⟨(some 3),(.mov (.tmp 0)),none⟩,⟨(some 4),(.call (.func 98) [(.tmp 3)]),none⟩,⟨(some 5),(.mov (.tmp 4)),none⟩,⟨(some 6),(.mov (.tmp 0)),(some ((some 5),true))⟩,⟨(some 7),(.call (.func 101) [(.tmp 6)]),(some ((some 5),true))⟩,⟨(some 8),(.bin .leq 3 (.tmp 7) (.const (.int .i64 16384))),(some ((some 5),true))⟩,⟨(some 9),(.pick (.tmp 5) (.tmp 8) (.const (.bool false))),none⟩,⟨(some 10),(.mov (.tmp 9)),none⟩,⟨(some 11),(.mov (.tmp 0)),(some ((some 10),true))⟩,⟨(some 12),(.len 0 (.tmp 11)),(some ((some 10),true))⟩,⟨(some 13),(.bin .eql 3 (.tmp 12) (.const (.int .i64 0))),(some ((some 10),true))⟩,⟨(some 14),(.mov (.tmp 13)),(some ((some 10),true))⟩,⟨(some 15),(.mov (.tmp 0)),(some ((some 14),false))⟩,⟨(some 16),(.iaddr none 2 (.tmp 15) (.const (.int .i64 0))),(some ((some 14),false))⟩,⟨(some 17),(.faddr 0 (.tmp 16)),(some ((some 14),false))⟩,⟨(some 18),(.load false 1 (.tmp 17)),(some ((some 14),false))⟩,⟨(some 19),(.bin .geq 3 (.tmp 18) (.const (.int .i64 2))),(some ((some 14),false))⟩,⟨(some 20),(.pick (.tmp 14) (.const (.bool true)) (.tmp 19)),(some ((some 10),true))⟩,⟨(some 21),(.pick (.tmp 10) (.tmp 20) (.const (.bool false))),none⟩,⟨(some 2),(.mov (.tmp 21)),none⟩] false []) .ret))
def r58 : List ARes:=[(.tmp 2)]
def c59 : ACode:=(.seq (.region [⟨(some 3),(.box 1 (.tmp 1)),none⟩,⟨(some 4),(.mov (.const (.bool false))),none⟩] false []) (.seq (.region [⟨(some 5),(.load false 1 (.tmp 3)),none⟩,⟨(some 6),(.call (.func 55) [(.tmp 5)]),none⟩,⟨none,(.store 1 (.tmp 3) (.tmp 6)),none⟩] false []) (.seq (.region [⟨(some 7),(.mov (.tmp 0)),none⟩,⟨(some 8),(.call (.func 55) [(.tmp 7)]),none⟩,⟨(some 9),(.mkfn (.func 103) [] [(.tmp 3)]),none⟩,⟨(some 10),(.call (.func 102) [(.tmp 8),(.tmp 9)]),none⟩,⟨(some 4),(.mov (.tmp 10)),none⟩] false []) .ret)))
def r59 : List ARes:=[(.tmp 4)]
def c60 : ACode:=(.seq (.region [⟨(some 2),(.mov (.const (.pointer none))),none⟩] false []) (.seq (.region [⟨(some 3),(.mov (.tmp 0)),none⟩,⟨(some 4),(.call (.func 104) [(.tmp 3)]),none⟩,⟨(some 5),(.build [(.sc (.slice none 0 0)),(.sc (.int .i64 0)),(.sc (.bool false))] [(0,(1,(.tmp 4)))]),none⟩,⟨(some 6),(.build [(.sc (.slice none 0 0)),(.sc (.int .i64 0)),(.sc (.bool false))] [(0,(3,(.tmp 5)))]),none⟩,⟨(some 7),(.box 3 (.tmp 6)),none⟩,⟨(some 2),(.mov (.tmp 7)),none⟩] false []) .ret))
def r60 : List ARes:=[(.tmp 2)]
def c61A0 : ACode:=(.region [⟨(some 7),(.mov (.tmp 25)),none⟩] false [])
def c61B0 : ACode:=(.block 1 (.region [⟨(some 26),(.load false 1 (.tmp 5)),none⟩,⟨(some 27),(.bin .shl 146 (.tmp 26) (.const (.int .u64 8))),none⟩,⟨(some 28),(.mov (.tmp 7)),none⟩,⟨(some 29),(.conv .u64 (.tmp 28)),none⟩,⟨(some 30),(.bin .or 146 (.tmp 27) (.tmp 29)),none⟩,⟨none,(.store 1 (.tmp 5) (.tmp 30)),none⟩] false []))
def c61 : ACode:=(.seq (.region [⟨(some 4),(.mov (.const (.int .i64 0))),none⟩] false []) (.seq (.seq (.region [⟨(some 8),(.mov (.tmp 1)),none⟩,⟨(some 9),(.bin .lss 3 (.tmp 8) (.const (.int .i64 1))),none⟩,⟨(some 10),(.mov (.tmp 9)),none⟩,⟨(some 11),(.mov (.tmp 1)),(some ((some 10),false))⟩,⟨(some 12),(.bin .gtr 3 (.tmp 11) (.const (.int .i64 8))),(some ((some 10),false))⟩,⟨(some 13),(.pick (.tmp 10) (.const (.bool true)) (.tmp 12)),none⟩] false []) (.cond (.tmp 13) (.region [⟨(some 14),(.mov (.tmp 0)),none⟩,⟨(some 15),(.nilck (.tmp 14)),none⟩,⟨(some 16),(.faddr 0 (.tmp 15)),none⟩,⟨(some 17),(.faddr 2 (.tmp 16)),none⟩,⟨none,(.store 1 (.tmp 17) (.const (.bool true))),none⟩] false []) .skip)) (.seq (.region [⟨(some 5),(.alloc [(.sc (.int .u64 0))]),none⟩,⟨none,(.store 1 (.tmp 5) (.const (.int .u64 0))),none⟩] false []) (.seq (.seq (.region [⟨(some 18),(.mov (.tmp 0)),none⟩,⟨(some 19),(.nilck (.tmp 18)),none⟩,⟨(some 20),(.faddr 0 (.tmp 19)),none⟩,⟨(some 21),(.mov (.tmp 1)),none⟩,⟨(some 22),(.call (.func 106) [(.tmp 20),(.tmp 21)]),none⟩,⟨(some 23),(.call (.func 105) [(.tmp 22)]),none⟩] false []) (.block 0 (.rangeF (.tmp 23) [24,25] c61A0 c61B0))) (.seq (.seq (.region [⟨(some 31),(.load false 1 (.tmp 5)),none⟩,⟨(some 32),(.bin .gtr 146 (.tmp 31) (.const (.int .u64 9223372036854775807))),none⟩] false []) (.cond (.tmp 32) (.seq (.region [⟨(some 33),(.mov (.tmp 0)),none⟩,⟨(some 34),(.nilck (.tmp 33)),none⟩,⟨(some 35),(.faddr 0 (.tmp 34)),none⟩,⟨(some 36),(.faddr 2 (.tmp 35)),none⟩,⟨none,(.store 1 (.tmp 36) (.const (.bool true))),none⟩] false []) (.seq (.region [⟨(some 37),(.mov (.tmp 0)),none⟩,⟨(some 38),(.nilck (.tmp 37)),none⟩,⟨(some 39),(.faddr 0 (.tmp 38)),none⟩,⟨(some 40),(.faddr 1 (.tmp 39)),none⟩,⟨(some 41),(.load false 1 (.tmp 40)),none⟩,⟨(some 42),(.mov (.tmp 1)),none⟩,⟨(some 43),(.bin .sub 3 (.tmp 41) (.tmp 42)),none⟩,⟨(some 44),(.nilck (.tmp 37)),none⟩,⟨(some 45),(.faddr 0 (.tmp 44)),none⟩,⟨(some 46),(.faddr 1 (.tmp 45)),none⟩,⟨none,(.store 1 (.tmp 46) (.tmp 43)),none⟩] false []) (.seq (.region [⟨(some 4),(.mov (.const (.int .i64 0))),none⟩] false []) .ret))) .skip)) (.seq (.region [⟨(some 47),(.load false 1 (.tmp 5)),none⟩,⟨(some 48),(.conv .i64 (.tmp 47)),none⟩,⟨(some 4),(.mov (.tmp 48)),none⟩] false []) .ret))))))
def r61 : List ARes:=[(.tmp 4)]
def c62 : ACode:=(.seq (.region [⟨(some 2),(.mov (.const (.int .i64 0))),none⟩] false []) (.seq (.seq (.region [⟨(some 3),(.mov (.tmp 0)),none⟩,⟨(some 4),(.nilck (.tmp 3)),none⟩,⟨(some 5),(.faddr 0 (.tmp 4)),none⟩,⟨(some 6),(.faddr 2 (.tmp 5)),none⟩,⟨(some 7),(.load false 1 (.tmp 6)),none⟩] false []) (.cond (.tmp 7) (.seq (.region [⟨(some 2),(.mov (.const (.int .i64 30))),none⟩] false []) .ret) .skip)) (.seq (.region [⟨(some 2),(.mov (.const (.int .i64 0))),none⟩] false []) .ret)))
def r62 : List ARes:=[(.tmp 2)]
def c63 : ACode:=(.seq (.region [⟨(some 1),(.box 4 (.tmp 0)),none⟩,⟨(some 2),(.mov (.const (.bool false))),none⟩] false []) (.seq (.region [⟨(some 3),(.bslice 1 [(.sc (.int .i64 0))] 4 [(0,(.const (.int .i64 76))),(1,(.const (.int .i64 66))),(2,(.const (.int .i64 79))),(3,(.const (.int .i64 70)))]),none⟩,⟨(some 4),(.faddr 0 (.tmp 1)),none⟩,⟨(some 5),(.load false 1 (.tmp 4)),none⟩,⟨(some 6),(.call (.func 84) [(.tmp 3),(.tmp 5)]),none⟩,⟨(some 7),(.mov (.tmp 6)),none⟩,⟨(some 8),(.faddr 1 (.tmp 1)),(some ((some 7),true))⟩,⟨(some 9),(.load false 1 (.tmp 8)),(some ((some 7),true))⟩,⟨(some 10),(.call (.func 46) [(.tmp 9)]),(some ((some 7),true))⟩,⟨(some 11),(.pick (.tmp 7) (.tmp 10) (.const (.bool false))),none⟩,⟨(some 2),(.mov (.tmp 11)),none⟩] false []) .ret))
def r63 : List ARes:=[(.tmp 2)]
def c64 : ACode:=(.seq (.region [⟨(some 2),(.mov (.const (.bool false))),none⟩] false []) (.seq (.region [⟨(some 3),(.mov (.tmp 0)),none⟩,⟨(some 4),(.bin .gtr 3 (.tmp 3) (.const (.int .i64 1))),none⟩,⟨(some 2),(.mov (.tmp 4)),none⟩] false []) .ret))
def r64 : List ARes:=[(.tmp 2)]
def c65 : ACode:=(.region [⟨(some 4),(.mov (.tmp 0)),none⟩,⟨(some 5),(.mov (.tmp 1)),none⟩,⟨(some 6),(.call (.func 106) [(.tmp 4),(.tmp 5)]),none⟩] false [])
def r65 : List ARes:=[]
def c66 : ACode:=(.seq (.region [⟨(some 2),(.mov (.const (.int .i64 0))),none⟩] false []) (.seq (.region [⟨(some 3),(.mov (.tmp 0)),none⟩,⟨(some 4),(.call (.func 107) [(.tmp 3)]),none⟩,⟨(some 5),(.field false 2 1 (.tmp 4)),none⟩,⟨(some 2),(.mov (.tmp 5)),none⟩] false []) .ret))
def r66 : List ARes:=[(.tmp 2)]
def c67 : ACode:=(.seq (.region [⟨(some 4),(.alloc [(.sc (.int .i64 0)),(.sc (.int .i64 0)),(.sc (.int .i64 0)),(.sc (.int .i64 0))]),none⟩,⟨(some 5),(.mov (.const (.pointer none))),none⟩] false []) (.seq (.region [⟨(some 11),(.mov (.tmp 0)),none⟩,⟨(some 12),(.nilck (.tmp 11)),none⟩,⟨(some 13),(.faddr 0 (.tmp 12)),none⟩,⟨(some 14),(.load false 1 (.tmp 13)),none⟩,⟨(some 15),(.mov (.tmp 1)),none⟩,⟨(some 16),(.call (.tmp 14) [(.tmp 15)]),none⟩,⟨(some 10),(.mov (.tmp 16)),none⟩,⟨(some 17),(.ext (.tmp 10) 0),none⟩,⟨(some 18),(.ext (.tmp 10) 1),none⟩,⟨(some 6),(.mov (.tmp 17)),none⟩,⟨(some 7),(.mov (.tmp 18)),none⟩] false []) (.seq (.region [⟨(some 20),(.mov (.tmp 6)),none⟩,⟨(some 21),(.call (.func 28) [(.tmp 20)]),none⟩,⟨(some 19),(.mov (.tmp 21)),none⟩,⟨(some 22),(.ext (.tmp 19) 0),none⟩,⟨(some 23),(.ext (.tmp 19) 1),none⟩,⟨(some 8),(.alloc [(.sc (.int .i64 0)),(.sc (.int .i64 0)),(.sc (.int .i64 0)),(.sc (.int .i64 0))]),none⟩,⟨none,(.store 4 (.tmp 8) (.tmp 22)),none⟩,⟨(some 9),(.mov (.tmp 23)),none⟩] false []) (.seq (.seq (.region [⟨(some 24),(.mov (.tmp 7)),none⟩,⟨(some 25),(.bin .neq 29 (.tmp 24) (.const (.int .i64 0))),none⟩,⟨(some 26),(.mov (.tmp 25)),none⟩,⟨(some 27),(.mov (.tmp 9)),(some ((some 26),false))⟩,⟨(some 28),(.bin .neq 29 (.tmp 27) (.const (.int .i64 0))),(some ((some 26),false))⟩,⟨(some 29),(.pick (.tmp 26) (.const (.bool true)) (.tmp 28)),none⟩,⟨(some 30),(.mov (.tmp 29)),none⟩,⟨(some 31),(.mov (.tmp 6)),(some ((some 30),false))⟩,⟨(some 32),(.len 0 (.tmp 31)),(some ((some 30),false))⟩,⟨(some 33),(.bin .neq 3 (.tmp 32) (.const (.int .i64 256))),(some ((some 30),false))⟩,⟨(some 34),(.pick (.tmp 30) (.const (.bool true)) (.tmp 33)),none⟩,⟨(some 35),(.mov (.tmp 34)),none⟩,⟨(some 36),(.faddr 1 (.tmp 8)),(some ((some 35),false))⟩,⟨(some 37),(.load false 1 (.tmp 36)),(some ((some 35),false))⟩,⟨(some 38),(.mov (.tmp 0)),(some ((some 35),false))⟩,⟨(some 39),(.nilck (.tmp 38)),(some ((some 35),false))⟩,⟨(some 40),(.faddr 1 (.tmp 39)),(some ((some 35),false))⟩,⟨(some 41),(.load false 1 (.tmp 40)),(some ((some 35),false))⟩,⟨(some 42),(.bin .neq 3 (.tmp 37) (.tmp 41)),(some ((some 35),false))⟩,⟨(some 43),(.pick (.tmp 35) (.const (.bool true)) (.tmp 42)),none⟩,⟨(some 44),(.mov (.tmp 43)),none⟩,⟨(some 45),(.mov (.tmp 0)),(some ((some 44),false))⟩,⟨(some 46),(.nilck (.tmp 45)),(some ((some 44),false))⟩,⟨(some 47),(.faddr 5 (.tmp 46)),(some ((some 44),false))⟩,⟨(some 48),(.load false 1 (.tmp 47)),(some ((some 44),false))⟩,⟨(some 49),(.mov (.tmp 1)),(some ((some 44),false))⟩,⟨(some 50),(.look (some .i64) (.sc (.int .i64 0)) (.tmp 48) (.tmp 49) false),(some ((some 44),false))⟩,⟨(some 51),(.bin .gtr 3 (.tmp 50) (.const (.int .i64 0))),(some ((some 44),false))⟩,⟨(some 52),(.pick (.tmp 44) (.const (.bool true)) (.tmp 51)),none⟩] true []) (.cond (.tmp 52) (.region [⟨(some 53),(.mov (.tmp 0)),none⟩,⟨(some 54),(.nilck (.tmp 53)),none⟩,⟨(some 55),(.faddr 6 (.tmp 54)),none⟩,⟨none,(.store 1 (.tmp 55) (.const (.bool true))),none⟩] false []) .skip)) (.seq (.region [⟨(some 56),(.mov (.tmp 0)),none⟩,⟨(some 57),(.nilck (.tmp 56)),none⟩,⟨(some 58),(.faddr 5 (.tmp 57)),none⟩,⟨(some 59),(.load false 1 (.tmp 58)),none⟩,⟨(some 60),(.mov (.tmp 1)),none⟩,⟨none,(.mput (some .i64) (.tmp 59) (.tmp 60) (.const (.int .i64 1))),none⟩] false []) (.seq (.region [⟨(some 61),(.load true 4 (.tmp 8)),none⟩,⟨(some 62),(.mov (.tmp 6)),none⟩,⟨(some 63),(.call (.func 108) [(.tmp 62)]),none⟩,⟨(some 64),(.call (.func 60) [(.tmp 63)]),none⟩,⟨none,(.store 4 (.tmp 4) (.tmp 61)),none⟩,⟨(some 5),(.mov (.tmp 64)),none⟩] true [(0,2),(0,3)]) .ret))))))
def r67 : List ARes:=[(.cell 4 true 4),(.tmp 5)]
def c68L0 : ACode:=(.seq (.seq (.region [⟨(some 52),(.mov (.tmp 10)),none⟩,⟨(some 53),(.mov (.tmp 8)),none⟩,⟨(some 54),(.bin .lss 3 (.tmp 52) (.tmp 53)),none⟩,⟨(some 55),(.mov (.tmp 54)),none⟩,⟨(some 56),(.mov (.tmp 0)),(some ((some 55),true))⟩,⟨(some 57),(.nilck (.tmp 56)),(some ((some 55),true))⟩,⟨(some 58),(.faddr 6 (.tmp 57)),(some ((some 55),true))⟩,⟨(some 59),(.load false 1 (.tmp 58)),(some ((some 55),true))⟩,⟨(some 60),(.un .not (.tmp 59)),(some ((some 55),true))⟩,⟨(some 61),(.pick (.tmp 55) (.tmp 60) (.const (.bool false))),none⟩] false []) (.cond (.tmp 61) .skip (.exit 2))) (.seq (.block 3 (.seq (.region [⟨(some 64),(.mov (.tmp 9)),none⟩,⟨(some 65),(.bin .eql 3 (.tmp 64) (.const (.int .i64 0))),none⟩] false []) (.cond (.tmp 65) (.region [⟨(some 66),(.mov (.tmp 0)),none⟩,⟨(some 67),(.mov (.tmp 0)),none⟩,⟨(some 68),(.nilck (.tmp 67)),none⟩,⟨(some 69),(.faddr 2 (.tmp 68)),none⟩,⟨(some 70),(.load false 1 (.tmp 69)),none⟩,⟨(some 71),(.mov (.tmp 7)),none⟩,⟨(some 72),(.mov (.tmp 10)),none⟩,⟨(some 73),(.bin .add 3 (.tmp 71) (.tmp 72)),none⟩,⟨(some 74),(.bslice 1 [(.sc (.int .i64 0))] 1 [(0,(.tmp 73))]),none⟩,⟨(some 75),(.app 1 8 (.tmp 70) (.tmp 74)),none⟩,⟨(some 76),(.nilck (.tmp 66)),none⟩,⟨(some 77),(.faddr 2 (.tmp 76)),none⟩,⟨none,(.store 1 (.tmp 77) (.tmp 75)),none⟩] false []) (.region [⟨(some 78),(.mov (.tmp 0)),none⟩,⟨(some 79),(.mov (.tmp 0)),none⟩,⟨(some 80),(.nilck (.tmp 79)),none⟩,⟨(some 81),(.faddr 3 (.tmp 80)),none⟩,⟨(some 82),(.load false 1 (.tmp 81)),none⟩,⟨(some 83),(.mov (.tmp 7)),none⟩,⟨(some 84),(.mov (.tmp 10)),none⟩,⟨(some 85),(.bin .add 3 (.tmp 83) (.tmp 84)),none⟩,⟨(some 86),(.bslice 1 [(.sc (.int .i64 0))] 1 [(0,(.tmp 85))]),none⟩,⟨(some 87),(.app 1 8 (.tmp 82) (.tmp 86)),none⟩,⟨(some 88),(.nilck (.tmp 78)),none⟩,⟨(some 89),(.faddr 3 (.tmp 88)),none⟩,⟨none,(.store 1 (.tmp 89) (.tmp 87)),none⟩] false [])))) (.region [⟨(some 62),(.mov (.tmp 10)),none⟩,⟨(some 63),(.bin .add 3 (.tmp 62) (.const (.int .i64 1))),none⟩,⟨(some 10),(.mov (.tmp 63)),none⟩] false [])))
def c68R1 : ACode:=(.region [⟨(some 22),(.mov (.tmp 6)),none⟩,⟨(some 23),(.bin .add 3 (.tmp 22) (.const (.int .i64 1))),none⟩,⟨(some 6),(.mov (.tmp 23)),none⟩] false [])
def c68L2 : ACode:=(.seq (.seq (.region [⟨(some 11),(.mov (.tmp 6)),none⟩,⟨(some 12),(.faddr 2 (.tmp 4)),none⟩,⟨(some 13),(.load false 1 (.tmp 12)),none⟩,⟨(some 14),(.bin .lss 3 (.tmp 11) (.tmp 13)),none⟩,⟨(some 15),(.mov (.tmp 14)),none⟩,⟨(some 16),(.mov (.tmp 0)),(some ((some 15),true))⟩,⟨(some 17),(.nilck (.tmp 16)),(some ((some 15),true))⟩,⟨(some 18),(.faddr 6 (.tmp 17)),(some ((some 15),true))⟩,⟨(some 19),(.load false 1 (.tmp 18)),(some ((some 15),true))⟩,⟨(some 20),(.un .not (.tmp 19)),(some ((some 15),true))⟩,⟨(some 21),(.pick (.tmp 15) (.tmp 20) (.const (.bool false))),none⟩] false []) (.cond (.tmp 21) .skip (.exit 0))) (.seq (.block 1 (.seq (.region [⟨(some 24),(.mov (.tmp 2)),none⟩,⟨(some 25),(.call (.func 61) [(.tmp 24),(.const (.int .i64 8))]),none⟩,⟨(some 26),(.mov (.tmp 2)),none⟩,⟨(some 27),(.call (.func 61) [(.tmp 26),(.const (.int .i64 4))]),none⟩,⟨(some 28),(.mov (.tmp 2)),none⟩,⟨(some 29),(.call (.func 61) [(.tmp 28),(.const (.int .i64 1))]),none⟩,⟨(some 7),(.mov (.tmp 25)),none⟩,⟨(some 8),(.mov (.tmp 27)),none⟩,⟨(some 9),(.mov (.tmp 29)),none⟩] false []) (.seq (.region [⟨(some 30),(.mov (.tmp 0)),none⟩,⟨(some 31),(.mov (.tmp 2)),none⟩,⟨(some 32),(.call (.func 62) [(.tmp 31)]),none⟩,⟨(some 33),(.bin .neq 29 (.tmp 32) (.const (.int .i64 0))),none⟩,⟨(some 34),(.mov (.tmp 33)),none⟩,⟨(some 35),(.mov (.tmp 8)),(some ((some 34),false))⟩,⟨(some 36),(.mov (.tmp 0)),(some ((some 34),false))⟩,⟨(some 37),(.nilck (.tmp 36)),(some ((some 34),false))⟩,⟨(some 38),(.faddr 2 (.tmp 37)),(some ((some 34),false))⟩,⟨(some 39),(.load false 1 (.tmp 38)),(some ((some 34),false))⟩,⟨(some 40),(.len 0 (.tmp 39)),(some ((some 34),false))⟩,⟨(some 41),(.bin .sub 3 (.const (.int .i64 16384)) (.tmp 40)),(some ((some 34),false))⟩,⟨(some 42),(.mov (.tmp 0)),(some ((some 34),false))⟩,⟨(some 43),(.nilck (.tmp 42)),(some ((some 34),false))⟩,⟨(some 44),(.faddr 3 (.tmp 43)),(some ((some 34),false))⟩,⟨(some 45),(.load false 1 (.tmp 44)),(some ((some 34),false))⟩,⟨(some 46),(.len 0 (.tmp 45)),(some ((some 34),false))⟩,⟨(some 47),(.bin .sub 3 (.tmp 41) (.tmp 46)),(some ((some 34),false))⟩,⟨(some 48),(.bin .gtr 3 (.tmp 35) (.tmp 47)),(some ((some 34),false))⟩,⟨(some 49),(.pick (.tmp 34) (.const (.bool true)) (.tmp 48)),none⟩,⟨(some 50),(.nilck (.tmp 30)),none⟩,⟨(some 51),(.faddr 6 (.tmp 50)),none⟩,⟨none,(.store 1 (.tmp 51) (.tmp 49)),none⟩] true []) (.seq (.region [⟨(some 10),(.mov (.const (.int .i64 0))),none⟩] false []) (.block 2 (.loop c68L0)))))) c68R1))
def c68 : ACode:=(.seq (.region [⟨(some 4),(.box 4 (.tmp 1)),none⟩] false []) (.seq (.region [⟨(some 6),(.mov (.const (.int .i64 0))),none⟩] false []) (.block 0 (.loop c68L2))))
def r68 : List ARes:=[]
def c69L0 : ACode:=(.seq (.region [⟨(some 12),(.bin .lss 3 (.tmp 11) (.tmp 10)),none⟩] false []) (.seq (.cond (.tmp 12) .skip (.exit 0)) (.seq (.block 1 (.seq (.region [⟨(some 13),(.iaddr none 1 (.tmp 9) (.tmp 11)),none⟩,⟨(some 14),(.load false 1 (.tmp 13)),none⟩,⟨(some 5),(.mov (.tmp 14)),none⟩] false []) (.seq (.region [⟨(some 15),(.mov (.tmp 3)),none⟩,⟨(some 16),(.mov (.tmp 5)),none⟩,⟨(some 17),(.len 0 (.tmp 16)),none⟩,⟨(some 18),(.bin .add 3 (.tmp 15) (.tmp 17)),none⟩,⟨(some 3),(.mov (.tmp 18)),none⟩] false []) (.seq (.region [⟨(some 19),(.mov (.tmp 3)),none⟩,⟨(some 20),(.bin .lss 3 (.tmp 19) (.const (.int .i64 0))),none⟩] false []) (.cond (.tmp 20) (.region [⟨(some 21),.stop,none⟩,⟨none,.stop,none⟩] false []) .skip))))) (.region [⟨(some 22),(.bin .add 3 (.tmp 11) (.const (.int .i64 1))),none⟩,⟨(some 11),(.mov (.tmp 22)),none⟩] false []))))
def c69L1 : ACode:=(.seq (.region [⟨(some 28),(.bin .lss 3 (.tmp 27) (.tmp 26)),none⟩] false []) (.seq (.cond (.tmp 28) .skip (.exit 2)) (.seq (.block 3 (.seq (.region [⟨(some 29),(.iaddr none 1 (.tmp 25) (.tmp 27)),none⟩,⟨(some 30),(.load false 1 (.tmp 29)),none⟩,⟨(some 8),(.mov (.tmp 30)),none⟩] false []) (.region [⟨(some 31),(.mov (.tmp 6)),none⟩,⟨(some 32),(.mov (.tmp 8)),none⟩,⟨(some 33),(.app 1 8 (.tmp 31) (.tmp 32)),none⟩,⟨(some 6),(.mov (.tmp 33)),none⟩] false []))) (.region [⟨(some 34),(.bin .add 3 (.tmp 27) (.const (.int .i64 1))),none⟩,⟨(some 27),(.mov (.tmp 34)),none⟩] false []))))
def c69R2 : ACode:=(.seq (.region [⟨(some 35),(.mov (.tmp 6)),none⟩,⟨(some 2),(.mov (.tmp 35)),none⟩] false []) .ret)
def c69R3 : ACode:=(.seq (.region [⟨(some 23),(.mov (.tmp 3)),none⟩,⟨(some 24),(.call (.func 109) [(.const (.slice none 0 0)),(.tmp 23)]),none⟩,⟨(some 6),(.mov (.tmp 24)),none⟩] false []) (.seq (.seq (.region [⟨(some 25),(.mov (.tmp 0)),none⟩,⟨(some 26),(.len 0 (.tmp 25)),none⟩,⟨(some 27),(.mov (.const (.int .i64 0))),none⟩] false []) (.block 2 (.loop c69L1))) c69R2))
def c69 : ACode:=(.seq (.region [⟨(some 2),(.mov (.const (.slice none 0 0))),none⟩] false []) (.seq (.region [⟨(some 3),(.mov (.const (.int .i64 0))),none⟩] false []) (.seq (.seq (.region [⟨(some 9),(.mov (.tmp 0)),none⟩,⟨(some 10),(.len 0 (.tmp 9)),none⟩,⟨(some 11),(.mov (.const (.int .i64 0))),none⟩] false []) (.block 0 (.loop c69L0))) c69R3)))
def r69 : List ARes:=[(.tmp 2)]
def c83 : ACode:=(.seq (.region [⟨(some 2),(.mov (.const (.int .i64 0))),none⟩] false []) (.seq (.seq (.region [⟨(some 3),(.mov (.tmp 0)),none⟩,⟨(some 4),(.call (.func 46) [(.tmp 3)]),none⟩,⟨(some 5),(.un .not (.tmp 4)),none⟩] false []) (.cond (.tmp 5) (.seq (.region [⟨(some 2),(.mov (.const (.int .i64 0))),none⟩] false []) .ret) .skip)) (.seq (.region [⟨(some 6),(.mov (.tmp 0)),none⟩,⟨(some 7),(.call (.func 114) [(.tmp 6)]),none⟩,⟨(some 8),(.bin .sub 3 (.const (.int .i64 256)) (.tmp 7)),none⟩,⟨(some 2),(.mov (.tmp 8)),none⟩] false []) .ret)))
def r83 : List ARes:=[(.tmp 2)]
def c84 : ACode:=(.seq (.region [⟨(some 4),(.mov (.const (.bool false))),none⟩] false []) (.seq (.region [⟨(some 5),(.mov (.tmp 0)),none⟩,⟨(some 6),(.mov (.tmp 1)),none⟩,⟨(some 7),(.call (.func 115) [(.tmp 5),(.tmp 6)]),none⟩,⟨(some 8),(.bin .geq 3 (.tmp 7) (.const (.int .i64 0))),none⟩,⟨(some 4),(.mov (.tmp 8)),none⟩] false []) .ret))
def r84 : List ARes:=[(.tmp 4)]
def c85L0 : ACode:=(.seq (.region [⟨(some 17),(.bin .lss 3 (.tmp 16) (.tmp 15)),none⟩] false []) (.seq (.cond (.tmp 17) .skip (.exit 2)) (.seq (.block 3 (.seq (.region [⟨(some 18),(.mov (.tmp 16)),none⟩,⟨(some 6),(.mov (.tmp 18)),none⟩] false []) (.region [⟨(some 19),(.mov (.tmp 3)),none⟩,⟨(some 20),(.faddr 0 (.tmp 5)),none⟩,⟨(some 21),(.load false 1 (.tmp 20)),none⟩,⟨(some 22),(.mov (.tmp 6)),none⟩,⟨(some 23),(.bin .add 3 (.tmp 21) (.tmp 22)),none⟩,⟨(some 24),(.bslice 1 [(.sc (.int .i64 0))] 1 [(0,(.tmp 23))]),none⟩,⟨(some 25),(.app 1 8 (.tmp 19) (.tmp 24)),none⟩,⟨(some 3),(.mov (.tmp 25)),none⟩] false []))) (.region [⟨(some 26),(.bin .add 3 (.tmp 16) (.const (.int .i64 1))),none⟩,⟨(some 16),(.mov (.tmp 26)),none⟩] false []))))
def c85R1 : ACode:=(.region [⟨(some 27),(.bin .add 3 (.tmp 10) (.const (.int .i64 1))),none⟩,⟨(some 10),(.mov (.tmp 27)),none⟩] false [])
def c85L2 : ACode:=(.seq (.region [⟨(some 11),(.bin .lss 3 (.tmp 10) (.tmp 9)),none⟩] false []) (.seq (.cond (.tmp 11) .skip (.exit 0)) (.seq (.block 1 (.seq (.region [⟨(some 12),(.iaddr none 2 (.tmp 8) (.tmp 10)),none⟩,⟨(some 13),(.load true 2 (.tmp 12)),none⟩,⟨(some 5),(.alloc [(.sc (.int .i64 0)),(.sc (.int .i64 0))]),none⟩,⟨none,(.store 2 (.tmp 5) (.tmp 13)),none⟩] false []) (.seq (.region [⟨(some 14),(.faddr 1 (.tmp 5)),none⟩,⟨(some 15),(.load false 1 (.tmp 14)),none⟩,⟨(some 16),(.mov (.const (.int .i64 0))),none⟩] false []) (.block 2 (.loop c85L0))))) c85R1)))
def c85R3 : ACode:=(.seq (.region [⟨(some 28),(.mov (.tmp 3)),none⟩,⟨(some 2),(.mov (.tmp 28)),none⟩] false []) .ret)
def c85 : ACode:=(.seq (.region [⟨(some 2),(.mov (.const (.slice none 0 0))),none⟩] false []) (.seq (.region [⟨(some 3),(.mov (.const (.slice none 0 0))),none⟩] false []) (.seq (.seq (.region [⟨(some 7),(.mov (.tmp 0)),none⟩,⟨(some 8),(.call (.func 55) [(.tmp 7)]),none⟩,⟨(some 9),(.len 0 (.tmp 8)),none⟩,⟨(some 10),(.mov (.const (.int .i64 0))),none⟩] false []) (.block 0 (.loop c85L2))) c85R3)))
def r85 : List ARes:=[(.tmp 2)]
def c86 : ACode:=(.seq (.region [⟨(some 2),(.box 1 (.tmp 0)),none⟩,⟨(some 3),(.box 1 (.tmp 1)),none⟩,⟨(some 4),(.mov (.const .nilFunc)),none⟩] false []) (.seq (.seq (.region [⟨(some 5),(.load false 1 (.tmp 3)),none⟩,⟨(some 6),(.bin .lss 3 (.tmp 5) (.const (.int .i64 1))),none⟩] false []) (.cond (.tmp 6) (.region [⟨(some 7),.stop,none⟩,⟨none,.stop,none⟩] false []) .skip)) (.seq (.region [⟨(some 8),(.mkfn (.func 116) [] [(.tmp 2),(.tmp 3)]),none⟩,⟨(some 4),(.mov (.tmp 8)),none⟩] false []) .ret)))
def r86 : List ARes:=[(.tmp 4)]
def c87 : ACode:=(.seq (.region [⟨(some 2),(.mov (.const (.pointer none))),none⟩] false []) (.seq (.seq (.region [⟨(some 3),(.mov (.tmp 0)),none⟩,⟨(some 4),(.bin .lss 3 (.tmp 3) (.const (.int .i64 0))),none⟩,⟨(some 5),(.mov (.tmp 4)),none⟩,⟨(some 6),(.mov (.tmp 0)),(some ((some 5),false))⟩,⟨(some 7),(.bin .gtr 3 (.tmp 6) (.const (.int .i64 65536))),(some ((some 5),false))⟩,⟨(some 8),(.pick (.tmp 5) (.const (.bool true)) (.tmp 7)),none⟩] false []) (.cond (.tmp 8) (.region [⟨(some 0),(.mov (.const (.int .i64 0))),none⟩] false []) .skip)) (.seq (.region [⟨(some 9),(.mov (.tmp 0)),none⟩,⟨(some 10),(.mkslice 1 1 [(.sc (.int .u8 0))] (.tmp 9) (.tmp 9)),none⟩,⟨(some 11),(.build [(.sc (.slice none 0 0)),(.sc (.int .i64 0)),(.sc (.bool false))] [(0,(1,(.tmp 10)))]),none⟩,⟨(some 12),(.build [(.sc (.slice none 0 0)),(.sc (.int .i64 0)),(.sc (.bool false))] [(0,(3,(.tmp 11)))]),none⟩,⟨(some 13),(.box 3 (.tmp 12)),none⟩,⟨(some 2),(.mov (.tmp 13)),none⟩] false []) .ret)))
def r87 : List ARes:=[(.tmp 2)]
def c88L0 : ACode:=(.seq (.region [⟨(some 24),(.bin .lss 3 (.tmp 23) (.tmp 22)),none⟩] false []) (.seq (.cond (.tmp 24) .skip (.exit 0)) (.seq (.block 1 (.seq (.region [⟨(some 25),(.mov (.tmp 23)),none⟩,⟨(some 7),(.mov (.tmp 25)),none⟩] false []) (.region [⟨(some 26),(.mov (.tmp 6)),none⟩,⟨(some 27),(.mov (.tmp 7)),none⟩,⟨(some 28),(.mov (.tmp 1)),none⟩,⟨(some 29),(.mov (.tmp 7)),none⟩,⟨(some 30),(.bin .mul 3 (.const (.int .i64 8)) (.tmp 29)),none⟩,⟨(some 31),(.bin .shr 3 (.tmp 28) (.tmp 30)),none⟩,⟨(some 32),(.conv .u8 (.tmp 31)),none⟩,⟨(some 33),(.iaddr none 1 (.tmp 26) (.tmp 27)),none⟩,⟨none,(.store 1 (.tmp 33) (.tmp 32)),none⟩] false []))) (.region [⟨(some 34),(.bin .add 3 (.tmp 23) (.const (.int .i64 1))),none⟩,⟨(some 23),(.mov (.tmp 34)),none⟩] false []))))
def c88 : ACode:=(.seq (.seq (.region [⟨(some 8),(.mov (.tmp 1)),none⟩,⟨(some 9),(.mov (.tmp 2)),none⟩,⟨(some 10),(.call (.func 117) [(.tmp 8),(.tmp 9)]),none⟩,⟨(some 11),(.un .not (.tmp 10)),none⟩] false []) (.cond (.tmp 11) (.seq (.region [⟨(some 12),(.mov (.tmp 0)),none⟩,⟨(some 13),(.nilck (.tmp 12)),none⟩,⟨(some 14),(.faddr 0 (.tmp 13)),none⟩,⟨(some 15),(.faddr 2 (.tmp 14)),none⟩,⟨none,(.store 1 (.tmp 15) (.const (.bool true))),none⟩] false []) .ret) .skip)) (.seq (.region [⟨(some 16),(.mov (.tmp 0)),none⟩,⟨(some 17),(.nilck (.tmp 16)),none⟩,⟨(some 18),(.faddr 0 (.tmp 17)),none⟩,⟨(some 19),(.mov (.tmp 2)),none⟩,⟨(some 20),(.call (.func 106) [(.tmp 18),(.tmp 19)]),none⟩,⟨(some 6),(.mov (.tmp 20)),none⟩] false []) (.seq (.region [⟨(some 21),(.mov (.tmp 6)),none⟩,⟨(some 22),(.len 0 (.tmp 21)),none⟩,⟨(some 23),(.mov (.const (.int .i64 0))),none⟩] false []) (.block 0 (.loop c88L0)))))
def r88 : List ARes:=[]
def c89 : ACode:=(.seq (.region [⟨(some 2),(.mov (.const (.slice none 0 0))),none⟩,⟨(some 3),(.mov (.const (.int .i64 0))),none⟩] false []) (.seq (.seq (.region [⟨(some 4),(.mov (.tmp 0)),none⟩,⟨(some 5),(.nilck (.tmp 4)),none⟩,⟨(some 6),(.faddr 0 (.tmp 5)),none⟩,⟨(some 7),(.faddr 2 (.tmp 6)),none⟩,⟨(some 8),(.load false 1 (.tmp 7)),none⟩] false []) (.cond (.tmp 8) (.seq (.region [⟨(some 2),(.mov (.const (.slice none 0 0))),none⟩,⟨(some 3),(.mov (.const (.int .i64 30))),none⟩] false []) .ret) .skip)) (.seq (.region [⟨(some 9),(.mov (.tmp 0)),none⟩,⟨(some 10),(.nilck (.tmp 9)),none⟩,⟨(some 11),(.faddr 0 (.tmp 10)),none⟩,⟨(some 12),(.faddr 0 (.tmp 11)),none⟩,⟨(some 13),(.load false 1 (.tmp 12)),none⟩,⟨(some 14),(.call (.func 104) [(.tmp 13)]),none⟩,⟨(some 2),(.mov (.tmp 14)),none⟩,⟨(some 3),(.mov (.const (.int .i64 0))),none⟩] false []) .ret)))
def r89 : List ARes:=[(.tmp 2),(.tmp 3)]
def c90 : ACode:=(.seq (.region [⟨(some 2),(.box 4 (.tmp 0)),none⟩,⟨(some 4),(.mov (.const (.slice none 0 0))),none⟩,⟨(some 5),(.mov (.const (.int .i64 0))),none⟩] false []) (.seq (.seq (.region [⟨(some 9),(.load true 4 (.tmp 2)),none⟩,⟨(some 10),(.call (.func 63) [(.tmp 9)]),none⟩,⟨(some 11),(.un .not (.tmp 10)),none⟩] false []) (.cond (.tmp 11) (.seq (.region [⟨(some 4),(.mov (.const (.slice none 0 0))),none⟩,⟨(some 5),(.mov (.const (.int .i64 70))),none⟩] false []) .ret) .skip)) (.seq (.region [⟨(some 12),(.call (.func 87) [(.const (.int .i64 256))]),none⟩,⟨(some 6),(.mov (.tmp 12)),none⟩] false []) (.seq (.region [⟨(some 13),(.mov (.tmp 6)),none⟩,⟨(some 14),(.faddr 0 (.tmp 2)),none⟩,⟨(some 15),(.load false 1 (.tmp 14)),none⟩,⟨(some 16),(.call (.func 88) [(.tmp 13),(.tmp 15),(.const (.int .i64 1))]),none⟩] false []) (.seq (.region [⟨(some 17),(.mov (.tmp 6)),none⟩,⟨(some 18),(.faddr 1 (.tmp 2)),none⟩,⟨(some 19),(.load false 1 (.tmp 18)),none⟩,⟨(some 20),(.call (.func 88) [(.tmp 17),(.tmp 19),(.const (.int .i64 1))]),none⟩] false []) (.seq (.region [⟨(some 21),(.mov (.tmp 6)),none⟩,⟨(some 22),(.faddr 2 (.tmp 2)),none⟩,⟨(some 23),(.load false 1 (.tmp 22)),none⟩,⟨(some 24),(.call (.func 88) [(.tmp 21),(.tmp 23),(.const (.int .i64 2))]),none⟩] false []) (.seq (.seq (.region [⟨(some 25),(.faddr 1 (.tmp 2)),none⟩,⟨(some 26),(.load false 1 (.tmp 25)),none⟩,⟨(some 27),(.call (.func 64) [(.tmp 26)]),none⟩] false []) (.cond (.tmp 27) (.region [⟨(some 28),(.mov (.tmp 6)),none⟩,⟨(some 29),(.nilck (.tmp 28)),none⟩,⟨(some 30),(.faddr 0 (.tmp 29)),none⟩,⟨(some 31),(.call (.func 65) [(.tmp 30),(.const (.int .i64 4))]),none⟩] false []) .skip)) (.seq (.region [⟨(some 32),(.mov (.tmp 6)),none⟩,⟨(some 33),(.faddr 3 (.tmp 2)),none⟩,⟨(some 34),(.load false 1 (.tmp 33)),none⟩,⟨(some 35),(.faddr 1 (.tmp 2)),none⟩,⟨(some 36),(.load false 1 (.tmp 35)),none⟩,⟨(some 37),(.call (.func 66) [(.tmp 36)]),none⟩,⟨(some 38),(.call (.func 88) [(.tmp 32),(.tmp 34),(.tmp 37)]),none⟩] true [(2,5)]) (.seq (.region [⟨(some 39),(.mov (.tmp 6)),none⟩,⟨(some 40),(.mov (.tmp 1)),none⟩,⟨(some 41),(.call (.func 118) [(.tmp 39),(.tmp 40)]),none⟩] false []) (.seq (.region [⟨(some 43),(.mov (.tmp 6)),none⟩,⟨(some 44),(.call (.func 89) [(.tmp 43)]),none⟩,⟨(some 42),(.mov (.tmp 44)),none⟩,⟨(some 45),(.ext (.tmp 42) 0),none⟩,⟨(some 46),(.ext (.tmp 42) 1),none⟩,⟨(some 7),(.mov (.tmp 45)),none⟩,⟨(some 8),(.mov (.tmp 46)),none⟩] false []) (.seq (.seq (.region [⟨(some 47),(.mov (.tmp 8)),none⟩,⟨(some 48),(.bin .neq 29 (.tmp 47) (.const (.int .i64 0))),none⟩] false []) (.cond (.tmp 48) (.seq (.region [⟨(some 4),(.mov (.const (.slice none 0 0))),none⟩,⟨(some 5),(.mov (.const (.int .i64 73))),none⟩] false []) .ret) .skip)) (.seq (.seq (.region [⟨(some 49),(.faddr 1 (.tmp 2)),none⟩,⟨(some 50),(.load false 1 (.tmp 49)),none⟩,⟨(some 51),(.call (.func 64) [(.tmp 50)]),none⟩] false []) (.cond (.tmp 51) (.region [⟨(some 52),(.mov (.tmp 7)),none⟩,⟨(some 53),(.call (.func 119) [(.tmp 52),(.const (.int .i64 4))]),none⟩,⟨(some 7),(.mov (.tmp 53)),none⟩] false []) .skip)) (.seq (.region [⟨(some 54),(.mov (.tmp 7)),none⟩,⟨(some 4),(.mov (.tmp 54)),none⟩,⟨(some 5),(.mov (.const (.int .i64 0))),none⟩] false []) .ret)))))))))))))
def r90 : List ARes:=[(.tmp 4),(.tmp 5)]
def c94L0 : ACode:=(.seq (.seq (.region [⟨(some 4),(.mov (.tmp 3)),none⟩,⟨(some 5),(.mov (.tmp 0)),none⟩,⟨(some 6),(.len 0 (.tmp 5)),none⟩,⟨(some 7),(.bin .lss 3 (.tmp 4) (.tmp 6)),none⟩] false []) (.cond (.tmp 7) .skip (.exit 0))) (.seq (.block 1 (.seq (.region [⟨(some 10),(.mov (.tmp 0)),none⟩,⟨(some 11),(.mov (.tmp 3)),none⟩,⟨(some 12),(.iaddr none 2 (.tmp 10) (.tmp 11)),none⟩,⟨(some 13),(.load true 2 (.tmp 12)),none⟩,⟨(some 14),(.call (.func 44) [(.tmp 13)]),none⟩,⟨(some 15),(.un .not (.tmp 14)),none⟩,⟨(some 16),(.mov (.tmp 15)),none⟩,⟨(some 17),(.mov (.tmp 3)),(some ((some 16),false))⟩,⟨(some 18),(.bin .gtr 3 (.tmp 17) (.const (.int .i64 0))),(some ((some 16),false))⟩,⟨(some 19),(.mov (.tmp 18)),(some ((some 16),false))⟩,⟨(some 20),(.mov (.tmp 0)),(some ((some 19),true))⟩,⟨(some 21),(.mov (.tmp 3)),(some ((some 19),true))⟩,⟨(some 22),(.iaddr none 2 (.tmp 20) (.tmp 21)),(some ((some 19),true))⟩,⟨(some 23),(.faddr 0 (.tmp 22)),(some ((some 19),true))⟩,⟨(some 24),(.load false 1 (.tmp 23)),(some ((some 19),true))⟩,⟨(some 25),(.mov (.tmp 0)),(some ((some 19),true))⟩,⟨(some 26),(.mov (.tmp 3)),(some ((some 19),true))⟩,⟨(some 27),(.bin .sub 3 (.tmp 26) (.const (.int .i64 1))),(some ((some 19),true))⟩,⟨(some 28),(.iaddr none 2 (.tmp 25) (.tmp 27)),(some ((some 19),true))⟩,⟨(some 29),(.faddr 0 (.tmp 28)),(some ((some 19),true))⟩,⟨(some 30),(.load false 1 (.tmp 29)),(some ((some 19),true))⟩,⟨(some 31),(.mov (.tmp 0)),(some ((some 19),true))⟩,⟨(some 32),(.mov (.tmp 3)),(some ((some 19),true))⟩,⟨(some 33),(.bin .sub 3 (.tmp 32) (.const (.int .i64 1))),(some ((some 19),true))⟩,⟨(some 34),(.iaddr none 2 (.tmp 31) (.tmp 33)),(some ((some 19),true))⟩,⟨(some 35),(.faddr 1 (.tmp 34)),(some ((some 19),true))⟩,⟨(some 36),(.load false 1 (.tmp 35)),(some ((some 19),true))⟩,⟨(some 37),(.bin .add 3 (.tmp 30) (.tmp 36)),(some ((some 19),true))⟩,⟨(some 38),(.bin .add 3 (.tmp 37) (.const (.int .i64 1))),(some ((some 19),true))⟩,⟨(some 39),(.bin .lss 3 (.tmp 24) (.tmp 38)),(some ((some 19),true))⟩,⟨(some 40),(.pick (.tmp 19) (.tmp 39) (.const (.bool false))),(some ((some 16),false))⟩,⟨(some 41),(.pick (.tmp 16) (.const (.bool true)) (.tmp 40)),none⟩] true []) (.cond (.tmp 41) (.seq (.region [⟨(some 2),(.mov (.const (.bool false))),none⟩] false []) .ret) .skip))) (.region [⟨(some 8),(.mov (.tmp 3)),none⟩,⟨(some 9),(.bin .add 3 (.tmp 8) (.const (.int .i64 1))),none⟩,⟨(some 3),(.mov (.tmp 9)),none⟩] false [])))
def c94R1 : ACode:=(.seq (.region [⟨(some 2),(.mov (.const (.bool true))),none⟩] false []) .ret)
def c94 : ACode:=(.seq (.region [⟨(some 2),(.mov (.const (.bool false))),none⟩] false []) (.seq (.seq (.region [⟨(some 3),(.mov (.const (.int .i64 0))),none⟩] false []) (.block 0 (.loop c94L0))) c94R1))
def r94 : List ARes:=[(.tmp 2)]
def c95L0 : ACode:=(.seq (.region [⟨(some 9),(.bin .lss 3 (.tmp 8) (.tmp 7)),none⟩] false []) (.seq (.cond (.tmp 9) .skip (.exit 0)) (.seq (.block 1 (.seq (.region [⟨(some 10),(.mov (.tmp 8)),none⟩,⟨(some 5),(.mov (.tmp 10)),none⟩] false []) (.seq (.region [⟨(some 11),(.mov (.tmp 1)),none⟩,⟨(some 12),(.mov (.tmp 0)),none⟩,⟨(some 13),(.mov (.tmp 5)),none⟩,⟨(some 14),(.iaddr none 2 (.tmp 12) (.tmp 13)),none⟩,⟨(some 15),(.load true 2 (.tmp 14)),none⟩,⟨(some 16),(.call (.tmp 11) [(.tmp 15)]),none⟩] false []) (.cond (.tmp 16) (.seq (.region [⟨(some 17),(.mov (.tmp 5)),none⟩,⟨(some 4),(.mov (.tmp 17)),none⟩] false []) .ret) .skip)))) (.region [⟨(some 18),(.bin .add 3 (.tmp 8) (.const (.int .i64 1))),none⟩,⟨(some 8),(.mov (.tmp 18)),none⟩] false []))))
def c95R1 : ACode:=(.seq (.region [⟨(some 4),(.mov (.const (.int .i64 (-1)))),none⟩] false []) .ret)
def c95 : ACode:=(.seq (.region [⟨(some 4),(.mov (.const (.int .i64 0))),none⟩] false []) (.seq (.seq (.region [⟨(some 6),(.mov (.tmp 0)),none⟩,⟨(some 7),(.len 0 (.tmp 6)),none⟩,⟨(some 8),(.mov (.const (.int .i64 0))),none⟩] false []) (.block 0 (.loop c95L0))) c95R1))
def r95 : List ARes:=[(.tmp 4)]
def c96 : ACode:=(.seq (.region [⟨(some 2),(.box 2 (.tmp 0)),none⟩,⟨(some 3),(.mov (.const (.bool false))),none⟩] false []) (.seq (.region [⟨(some 4),(.faddr 0 (.tmp 2)),none⟩,⟨(some 5),(.load false 1 (.tmp 4)),none⟩,⟨(some 6),(.load true 2 (.tmp 1)),none⟩,⟨(some 7),(.call (.func 97) [(.tmp 6)]),none⟩,⟨(some 8),(.bin .lss 3 (.tmp 5) (.tmp 7)),none⟩,⟨(some 9),(.mov (.tmp 8)),none⟩,⟨(some 10),(.faddr 0 (.tmp 1)),(some ((some 9),true))⟩,⟨(some 11),(.load false 1 (.tmp 10)),(some ((some 9),true))⟩,⟨(some 12),(.load true 2 (.tmp 2)),(some ((some 9),true))⟩,⟨(some 13),(.call (.func 97) [(.tmp 12)]),(some ((some 9),true))⟩,⟨(some 14),(.bin .lss 3 (.tmp 11) (.tmp 13)),(some ((some 9),true))⟩,⟨(some 15),(.pick (.tmp 9) (.tmp 14) (.const (.bool false))),none⟩,⟨(some 3),(.mov (.tmp 15)),none⟩] true [(1,3),(7,9)]) .ret))
def r96 : List ARes:=[(.tmp 3)]
def c97 : ACode:=(.seq (.region [⟨(some 1),(.box 2 (.tmp 0)),none⟩,⟨(some 2),(.mov (.const (.int .i64 0))),none⟩] false []) (.seq (.region [⟨(some 3),(.faddr 0 (.tmp 1)),none⟩,⟨(some 4),(.load false 1 (.tmp 3)),none⟩,⟨(some 5),(.faddr 1 (.tmp 1)),none⟩,⟨(some 6),(.load false 1 (.tmp 5)),none⟩,⟨(some 7),(.bin .add 3 (.tmp 4) (.tmp 6)),none⟩,⟨(some 2),(.mov (.tmp 7)),none⟩] false []) .ret))
def r97 : List ARes:=[(.tmp 2)]
def c98L0 : ACode:=(.seq (.region [⟨(some 8),(.bin .lss 3 (.tmp 7) (.tmp 6)),none⟩] false []) (.seq (.cond (.tmp 8) .skip (.exit 0)) (.seq (.block 1 (.seq (.region [⟨(some 9),(.mov (.tmp 7)),none⟩,⟨(some 10),(.iaddr none 2 (.tmp 5) (.tmp 7)),none⟩,⟨(some 11),(.load true 2 (.tmp 10)),none⟩,⟨(some 4),(.alloc [(.sc (.int .i64 0)),(.sc (.int .i64 0))]),none⟩,⟨(some 3),(.mov (.tmp 9)),none⟩,⟨none,(.store 2 (.tmp 4) (.tmp 11)),none⟩] false []) (.seq (.region [⟨(some 12),(.load true 2 (.tmp 4)),none⟩,⟨(some 13),(.call (.func 53) [(.tmp 12)]),none⟩,⟨(some 14),(.un .not (.tmp 13)),none⟩,⟨(some 15),(.mov (.tmp 14)),none⟩,⟨(some 16),(.mov (.tmp 3)),(some ((some 15),false))⟩,⟨(some 17),(.bin .gtr 3 (.tmp 16) (.const (.int .i64 0))),(some ((some 15),false))⟩,⟨(some 18),(.mov (.tmp 17)),(some ((some 15),false))⟩,⟨(some 19),(.faddr 0 (.tmp 4)),(some ((some 18),true))⟩,⟨(some 20),(.load false 1 (.tmp 19)),(some ((some 18),true))⟩,⟨(some 21),(.mov (.tmp 0)),(some ((some 18),true))⟩,⟨(some 22),(.mov (.tmp 3)),(some ((some 18),true))⟩,⟨(some 23),(.bin .sub 3 (.tmp 22) (.const (.int .i64 1))),(some ((some 18),true))⟩,⟨(some 24),(.iaddr none 2 (.tmp 21) (.tmp 23)),(some ((some 18),true))⟩,⟨(some 25),(.load true 2 (.tmp 24)),(some ((some 18),true))⟩,⟨(some 26),(.call (.func 97) [(.tmp 25)]),(some ((some 18),true))⟩,⟨(some 27),(.bin .leq 3 (.tmp 20) (.tmp 26)),(some ((some 18),true))⟩,⟨(some 28),(.pick (.tmp 18) (.tmp 27) (.const (.bool false))),(some ((some 15),false))⟩,⟨(some 29),(.pick (.tmp 15) (.const (.bool true)) (.tmp 28)),none⟩] true [(8,14)]) (.cond (.tmp 29) (.seq (.region [⟨(some 2),(.mov (.const (.bool false))),none⟩] false []) .ret) .skip)))) (.region [⟨(some 30),(.bin .add 3 (.tmp 7) (.const (.int .i64 1))),none⟩,⟨(some 7),(.mov (.tmp 30)),none⟩] false []))))
def c98R1 : ACode:=(.seq (.region [⟨(some 2),(.mov (.const (.bool true))),none⟩] false []) .ret)
def c98 : ACode:=(.seq (.region [⟨(some 2),(.mov (.const (.bool false))),none⟩] false []) (.seq (.seq (.region [⟨(some 5),(.mov (.tmp 0)),none⟩,⟨(some 6),(.len 0 (.tmp 5)),none⟩,⟨(some 7),(.mov (.const (.int .i64 0))),none⟩] false []) (.block 0 (.loop c98L0))) c98R1))
def r98 : List ARes:=[(.tmp 2)]
def c99 : ACode:=(.seq (.region [⟨(some 5),(.mov (.tmp 0)),none⟩,⟨(some 6),(.len 0 (.tmp 5)),none⟩,⟨(some 4),(.mov (.tmp 6)),none⟩] false []) (.region [⟨(some 7),(.mov (.tmp 0)),none⟩,⟨(some 8),(.mov (.tmp 4)),none⟩,⟨(some 9),(.mov (.tmp 4)),none⟩,⟨(some 10),(.conv .u64 (.tmp 9)),none⟩,⟨(some 11),(.call (.func 124) [(.tmp 10)]),none⟩,⟨(some 12),(.mov (.tmp 1)),none⟩,⟨(some 13),(.call (.func 123) [(.tmp 7),(.const (.int .i64 0)),(.tmp 8),(.tmp 11),(.tmp 12)]),none⟩] false []))
def r99 : List ARes:=[]
def c100 : ACode:=(.seq (.region [⟨(some 2),(.box 2 (.tmp 0)),none⟩,⟨(some 3),(.box 2 (.tmp 1)),none⟩,⟨(some 4),(.mov (.const (.int .i64 0))),none⟩] false []) (.seq (.region [⟨(some 5),(.faddr 0 (.tmp 2)),none⟩,⟨(some 6),(.load false 1 (.tmp 5)),none⟩,⟨(some 7),(.faddr 0 (.tmp 3)),none⟩,⟨(some 8),(.load false 1 (.tmp 7)),none⟩,⟨(some 9),(.bin .sub 3 (.tmp 6) (.tmp 8)),none⟩,⟨(some 4),(.mov (.tmp 9)),none⟩] false []) .ret))
def r100 : List ARes:=[(.tmp 4)]
def c101 : ACode:=(.seq (.region [⟨(some 2),(.mov (.const (.int .i64 0))),none⟩] false []) (.seq (.region [⟨(some 6),(.mov (.tmp 0)),none⟩,⟨(some 7),(.call (.func 55) [(.tmp 6)]),none⟩,⟨(some 8),(.call (.func 125) [(.tmp 7)]),none⟩,⟨(some 5),(.mov (.tmp 8)),none⟩,⟨(some 9),(.ext (.tmp 5) 0),none⟩,⟨(some 10),(.ext (.tmp 5) 1),none⟩,⟨(some 3),(.alloc [(.sc (.int .i64 0)),(.sc (.int .i64 0))]),none⟩,⟨none,(.store 2 (.tmp 3) (.tmp 9)),none⟩,⟨(some 4),(.mov (.tmp 10)),none⟩] false []) (.seq (.seq (.region [⟨(some 11),(.mov (.tmp 4)),none⟩,⟨(some 12),(.un .not (.tmp 11)),none⟩] false []) (.cond (.tmp 12) (.seq (.region [⟨(some 2),(.mov (.const (.int .i64 0))),none⟩] false []) .ret) .skip)) (.seq (.region [⟨(some 13),(.load true 2 (.tmp 3)),none⟩,⟨(some 14),(.call (.func 97) [(.tmp 13)]),none⟩,⟨(some 2),(.mov (.tmp 14)),none⟩] false []) .ret))))
def r101 : List ARes:=[(.tmp 2)]
def c102 : ACode:=(.seq (.region [⟨(some 4),(.mov (.const (.bool false))),none⟩] false []) (.seq (.region [⟨(some 5),(.mov (.tmp 0)),none⟩,⟨(some 6),(.mov (.tmp 1)),none⟩,⟨(some 7),(.call (.func 95) [(.tmp 5),(.tmp 6)]),none⟩,⟨(some 8),(.bin .geq 3 (.tmp 7) (.const (.int .i64 0))),none⟩,⟨(some 4),(.mov (.tmp 8)),none⟩] false []) .ret))
def r102 : List ARes:=[(.tmp 4)]
def c103 : ACode:=(.seq (.region [⟨(some 2),(.box 2 (.tmp 0)),none⟩,⟨(some 3),(.mov (.const (.bool false))),none⟩] false []) (.seq (.region [⟨(some 4),(.load false 1 (.tmp 1)),none⟩,⟨(some 5),(.load true 2 (.tmp 2)),none⟩,⟨(some 6),(.call (.func 54) [(.tmp 4),(.tmp 5)]),none⟩,⟨(some 7),(.bin .geq 3 (.tmp 6) (.const (.int .i64 0))),none⟩,⟨(some 3),(.mov (.tmp 7)),none⟩] false []) .ret))
def r103 : List ARes:=[(.tmp 3)]
def c104 : ACode:=(.seq (.region [⟨(some 2),(.mov (.const (.slice none 0 0))),none⟩] false []) (.seq (.seq (.region [⟨(some 3),(.mov (.tmp 0)),none⟩,⟨(some 4),(.isnil false 0 (.tmp 3)),none⟩] false []) (.cond (.tmp 4) (.seq (.region [⟨(some 2),(.mov (.const (.slice none 0 0))),none⟩] false []) .ret) .skip)) (.seq (.region [⟨(some 5),(.bslice 1 [(.sc (.int .u8 0))] 0 []),none⟩,⟨(some 6),(.mov (.tmp 0)),none⟩,⟨(some 7),(.app 1 1 (.tmp 5) (.tmp 6)),none⟩,⟨(some 2),(.mov (.tmp 7)),none⟩] false []) .ret)))
def r104 : List ARes:=[(.tmp 2)]
def c105 : ACode:=(.seq (.region [⟨(some 1),(.box 1 (.tmp 0)),none⟩,⟨(some 2),(.mov (.const .nilFunc)),none⟩] false []) (.seq (.region [⟨(some 3),(.mkfn (.func 126) [] [(.tmp 1)]),none⟩,⟨(some 2),(.mov (.tmp 3)),none⟩] false []) .ret))
def r105 : List ARes:=[(.tmp 2)]
def c106 : ACode:=(.seq (.region [⟨(some 4),(.mov (.const (.slice none 0 0))),none⟩] false []) (.seq (.seq (.region [⟨(some 5),(.mov (.tmp 0)),none⟩,⟨(some 6),(.nilck (.tmp 5)),none⟩,⟨(some 7),(.faddr 2 (.tmp 6)),none⟩,⟨(some 8),(.load false 1 (.tmp 7)),none⟩,⟨(some 9),(.mov (.tmp 8)),none⟩,⟨(some 10),(.mov (.tmp 1)),(some ((some 9),false))⟩,⟨(some 11),(.bin .lss 3 (.tmp 10) (.const (.int .i64 0))),(some ((some 9),false))⟩,⟨(some 12),(.pick (.tmp 9) (.const (.bool true)) (.tmp 11)),none⟩,⟨(some 13),(.mov (.tmp 12)),none⟩,⟨(some 14),(.mov (.tmp 1)),(some ((some 13),false))⟩,⟨(some 15),(.mov (.tmp 0)),(some ((some 13),false))⟩,⟨(some 16),(.nilck (.tmp 15)),(some ((some 13),false))⟩,⟨(some 17),(.faddr 0 (.tmp 16)),(some ((some 13),false))⟩,⟨(some 18),(.load false 1 (.tmp 17)),(some ((some 13),false))⟩,⟨(some 19),(.len 0 (.tmp 18)),(some ((some 13),false))⟩,⟨(some 20),(.mov (.tmp 0)),(some ((some 13),false))⟩,⟨(some 21),(.nilck (.tmp 20)),(some ((some 13),false))⟩,⟨(some 22),(.faddr 1 (.tmp 21)),(some ((some 13),false))⟩,⟨(some 23),(.load false 1 (.tmp 22)),(some ((some 13),false))⟩,⟨(some 24),(.bin .sub 3 (.tmp 19) (.tmp 23)),(some ((some 13),false))⟩,⟨(some 25),(.bin .gtr 3 (.tmp 14) (.tmp 24)),(some ((some 13),false))⟩,⟨(some 26),(.pick (.tmp 13) (.const (.bool true)) (.tmp 25)),none⟩] true []) (.cond (.tmp 26) (.seq (.region [⟨(some 27),(.mov (.tmp 0)),none⟩,⟨(some 28),(.nilck (.tmp 27)),none⟩,⟨(some 29),(.faddr 2 (.tmp 28)),none⟩,⟨none,(.store 1 (.tmp 29) (.const (.bool true))),none⟩] false []) (.seq (.region [⟨(some 4),(.mov (.const (.slice none 0 0))),none⟩] false []) .ret)) .skip)) (.seq (.region [⟨(some 30),(.mov (.tmp 0)),none⟩,⟨(some 31),(.nilck (.tmp 30)),none⟩,⟨(some 32),(.faddr 1 (.tmp 31)),none⟩,⟨(some 33),(.load false 1 (.tmp 32)),none⟩,⟨(some 34),(.mov (.tmp 1)),none⟩,⟨(some 35),(.bin .add 3 (.tmp 33) (.tmp 34)),none⟩,⟨(some 36),(.nilck (.tmp 30)),none⟩,⟨(some 37),(.faddr 1 (.tmp 36)),none⟩,⟨none,(.store 1 (.tmp 37) (.tmp 35)),none⟩] false []) (.seq (.region [⟨(some 38),(.mov (.tmp 0)),none⟩,⟨(some 39),(.nilck (.tmp 38)),none⟩,⟨(some 40),(.faddr 0 (.tmp 39)),none⟩,⟨(some 41),(.load false 1 (.tmp 40)),none⟩,⟨(some 42),(.mov (.tmp 0)),none⟩,⟨(some 43),(.nilck (.tmp 42)),none⟩,⟨(some 44),(.faddr 1 (.tmp 43)),none⟩,⟨(some 45),(.load false 1 (.tmp 44)),none⟩,⟨(some 46),(.mov (.tmp 1)),none⟩,⟨(some 47),(.bin .sub 3 (.tmp 45) (.tmp 46)),none⟩,⟨(some 48),(.mov (.tmp 0)),none⟩,⟨(some 49),(.nilck (.tmp 48)),none⟩,⟨(some 50),(.faddr 1 (.tmp 49)),none⟩,⟨(some 51),(.load false 1 (.tmp 50)),none⟩,⟨(some 52),(.slice 1 (.tmp 41) (some (.tmp 47)) (some (.tmp 51)) none),none⟩,⟨(some 4),(.mov (.tmp 52)),none⟩] true []) .ret))))
def r106 : List ARes:=[(.tmp 4)]
def c107 : ACode:=(.seq (.region [⟨(some 2),(.alloc [(.sc (.int .i64 0)),(.sc (.int .i64 0)),(.sc (.int .i64 0)),(.sc (.int .i64 0))]),none⟩] false []) (.seq (.seq (.region [⟨(some 3),(.mov (.tmp 0)),none⟩,⟨(some 4),(.call (.func 46) [(.tmp 3)]),none⟩,⟨(some 5),(.un .not (.tmp 4)),none⟩] false []) (.cond (.tmp 5) (.seq (.region [⟨(some 6),(.build [(.sc (.int .i64 0)),(.sc (.int .i64 0)),(.sc (.int .i64 0)),(.sc (.int .i64 0))] []),none⟩,⟨none,(.store 4 (.tmp 2) (.tmp 6)),none⟩] false []) .ret) .skip)) (.seq (.region [⟨(some 7),(.build [(.sc (.int .i64 0)),(.sc (.int .i64 0)),(.sc (.int .i64 0)),(.sc (.int .i64 0))] [(0,(1,(.const (.int .i64 16)))),(1,(1,(.const (.int .i64 400)))),(2,(1,(.const (.int .i64 4)))),(3,(1,(.const (.int .i64 8))))]),none⟩,⟨(some 8),(.build [(.sc (.int .i64 0)),(.sc (.int .i64 0)),(.sc (.int .i64 0)),(.sc (.int .i64 0))] [(0,(1,(.const (.int .i64 20)))),(1,(1,(.const (.int .i64 800)))),(2,(1,(.const (.int .i64 8)))),(3,(1,(.const (.int .i64 16))))]),none⟩,⟨(some 9),(.build [(.sc (.int .i64 0)),(.sc (.int .i64 0)),(.sc (.int .i64 0)),(.sc (.int .i64 0))] [(0,(1,(.const (.int .i64 24)))),(1,(1,(.const (.int .i64 1600)))),(2,(1,(.const (.int .i64 8)))),(3,(1,(.const (.int .i64 16))))]),none⟩,⟨(some 10),(.build [(.sc (.int .i64 0)),(.sc (.int .i64 0)),(.sc (.int .i64 0)),(.sc (.int .i64 0)),(.sc (.int .i64 0)),(.sc (.int .i64 0)),(.sc (.int .i64 0)),(.sc (.int .i64 0)),(.sc (.int .i64 0)),(.sc (.int .i64 0)),(.sc (.int .i64 0)),(.sc (.int .i64 0))] [(0,(4,(.tmp 7))),(4,(4,(.tmp 8))),(8,(4,(.tmp 9)))]),none⟩,⟨(some 11),(.mov (.tmp 0)),none⟩,⟨(some 12),(.bin .sub 3 (.tmp 11) (.const (.int .i64 1))),none⟩,⟨(some 13),(.index 3 true 4 (.tmp 10) (.tmp 12)),none⟩,⟨none,(.store 4 (.tmp 2) (.tmp 13)),none⟩] false []) .ret)))
def r107 : List ARes:=[(.cell 2 true 4)]
def c108 : ACode:=(.seq (.region [⟨(some 2),(.mov (.const (.slice none 0 0))),none⟩] false []) (.seq (.region [⟨(some 6),(.mov (.tmp 0)),none⟩,⟨(some 7),(.call (.func 28) [(.tmp 6)]),none⟩,⟨(some 5),(.mov (.tmp 7)),none⟩,⟨(some 8),(.ext (.tmp 5) 0),none⟩,⟨(some 9),(.ext (.tmp 5) 1),none⟩,⟨(some 3),(.alloc [(.sc (.int .i64 0)),(.sc (.int .i64 0)),(.sc (.int .i64 0)),(.sc (.int .i64 0))]),none⟩,⟨none,(.store 4 (.tmp 3) (.tmp 8)),none⟩,⟨(some 4),(.mov (.tmp 9)),none⟩] false []) (.seq (.seq (.region [⟨(some 10),(.mov (.tmp 4)),none⟩,⟨(some 11),(.bin .neq 29 (.tmp 10) (.const (.int .i64 0))),none⟩,⟨(some 12),(.mov (.tmp 11)),none⟩,⟨(some 13),(.mov (.tmp 0)),(some ((some 12),false))⟩,⟨(some 14),(.len 0 (.tmp 13)),(some ((some 12),false))⟩,⟨(some 15),(.bin .neq 3 (.tmp 14) (.const (.int .i64 256))),(some ((some 12),false))⟩,⟨(some 16),(.pick (.tmp 12) (.const (.bool true)) (.tmp 15)),none⟩] false []) (.cond (.tmp 16) (.seq (.region [⟨(some 2),(.mov (.const (.slice none 0 0))),none⟩] false []) .ret) .skip)) (.seq (.region [⟨(some 17),(.mov (.tmp 0)),none⟩,⟨(some 18),(.faddr 1 (.tmp 3)),none⟩,⟨(some 19),(.load false 1 (.tmp 18)),none⟩,⟨(some 20),(.call (.func 114) [(.tmp 19)]),none⟩,⟨(some 21),(.slice 1 (.tmp 17) (some (.tmp 20)) none none),none⟩,⟨(some 22),(.call (.func 104) [(.tmp 21)]),none⟩,⟨(some 2),(.mov (.tmp 22)),none⟩] false []) .ret))))
def r108 : List ARes:=[(.tmp 2)]
def c109 : ACode:=(.seq (.region [⟨(some 4),(.mov (.const (.slice none 0 0))),none⟩] false []) (.seq (.seq (.region [⟨(some 5),(.mov (.tmp 1)),none⟩,⟨(some 6),(.bin .lss 3 (.tmp 5) (.const (.int .i64 0))),none⟩] false []) (.cond (.tmp 6) (.region [⟨(some 7),.stop,none⟩,⟨none,.stop,none⟩] false []) .skip)) (.seq (.seq (.region [⟨(some 8),(.mov (.tmp 1)),none⟩,⟨(some 9),(.mov (.tmp 0)),none⟩,⟨(some 10),(.cap (.tmp 9)),none⟩,⟨(some 11),(.mov (.tmp 0)),none⟩,⟨(some 12),(.len 0 (.tmp 11)),none⟩,⟨(some 13),(.bin .sub 3 (.tmp 10) (.tmp 12)),none⟩,⟨(some 14),(.bin .sub 3 (.tmp 8) (.tmp 13)),none⟩,⟨(some 1),(.mov (.tmp 14)),none⟩] false []) (.seq (.region [⟨(some 15),(.mov (.tmp 1)),none⟩,⟨(some 16),(.bin .gtr 3 (.tmp 15) (.const (.int .i64 0))),none⟩] false []) (.cond (.tmp 16) (.region [⟨(some 17),(.mov (.tmp 0)),none⟩,⟨(some 18),(.mov (.tmp 0)),none⟩,⟨(some 19),(.cap (.tmp 18)),none⟩,⟨(some 20),(.slice 1 (.tmp 17) none (some (.tmp 19)) none),none⟩,⟨(some 21),(.mov (.tmp 1)),none⟩,⟨(some 22),(.appz 1 8 [(.sc (.int .i64 0))] (.tmp 20) (.tmp 21)),none⟩,⟨(some 23),(.mov (.tmp 0)),none⟩,⟨(some 24),(.len 0 (.tmp 23)),none⟩,⟨(some 25),(.slice 1 (.tmp 22) none (some (.tmp 24)) none),none⟩,⟨(some 0),(.mov (.tmp 25)),none⟩] false []) .skip))) (.seq (.region [⟨(some 26),(.mov (.tmp 0)),none⟩,⟨(some 4),(.mov (.tmp 26)),none⟩] false []) .ret))))
def r109 : List ARes:=[(.tmp 4)]
def c114 : ACode:=(.seq (.region [⟨(some 2),(.mov (.const (.int .i64 0))),none⟩] false []) (.seq (.region [⟨(some 3),(.mov (.tmp 0)),none⟩,⟨(some 4),(.call (.func 107) [(.tmp 3)]),none⟩,⟨(some 5),(.field false 3 1 (.tmp 4)),none⟩,⟨(some 2),(.mov (.tmp 5)),none⟩] false []) .ret))
def r114 : List ARes:=[(.tmp 2)]
def c115L0 : ACode:=(.seq (.region [⟨(some 9),(.bin .lss 3 (.tmp 8) (.tmp 7)),none⟩] false []) (.seq (.cond (.tmp 9) .skip (.exit 0)) (.seq (.block 1 (.seq (.region [⟨(some 10),(.mov (.tmp 8)),none⟩,⟨(some 5),(.mov (.tmp 10)),none⟩] false []) (.seq (.region [⟨(some 11),(.mov (.tmp 1)),none⟩,⟨(some 12),(.mov (.tmp 0)),none⟩,⟨(some 13),(.mov (.tmp 5)),none⟩,⟨(some 14),(.iaddr none 1 (.tmp 12) (.tmp 13)),none⟩,⟨(some 15),(.load false 1 (.tmp 14)),none⟩,⟨(some 16),(.bin .eql 3 (.tmp 11) (.tmp 15)),none⟩] false []) (.cond (.tmp 16) (.seq (.region [⟨(some 17),(.mov (.tmp 5)),none⟩,⟨(some 4),(.mov (.tmp 17)),none⟩] false []) .ret) .skip)))) (.region [⟨(some 18),(.bin .add 3 (.tmp 8) (.const (.int .i64 1))),none⟩,⟨(some 8),(.mov (.tmp 18)),none⟩] false []))))
def c115R1 : ACode:=(.seq (.region [⟨(some 4),(.mov (.const (.int .i64 (-1)))),none⟩] false []) .ret)
def c115 : ACode:=(.seq (.region [⟨(some 4),(.mov (.const (.int .i64 0))),none⟩] false []) (.seq (.seq (.region [⟨(some 6),(.mov (.tmp 0)),none⟩,⟨(some 7),(.len 0 (.tmp 6)),none⟩,⟨(some 8),(.mov (.const (.int .i64 0))),none⟩] false []) (.block 0 (.loop c115L0))) c115R1))
def r115 : List ARes:=[(.tmp 4)]
def c116L0 : ACode:=(.seq (.seq (.region [⟨(some 6),(.mov (.tmp 4)),none⟩,⟨(some 7),(.load false 1 (.tmp 1)),none⟩,⟨(some 8),(.len 0 (.tmp 7)),none⟩,⟨(some 9),(.bin .lss 3 (.tmp 6) (.tmp 8)),none⟩] false []) (.cond (.tmp 9) .skip (.exit 0))) (.seq (.block 1 (.seq (.region [⟨(some 13),(.load false 1 (.tmp 2)),none⟩,⟨(some 14),(.load false 1 (.tmp 1)),none⟩,⟨(some 15),(.mov (.tmp 4)),none⟩,⟨(some 16),(.slice 1 (.tmp 14) (some (.tmp 15)) none none),none⟩,⟨(some 17),(.len 0 (.tmp 16)),none⟩,⟨(some 18),(.mn2 (.tmp 13) (.tmp 17)),none⟩,⟨(some 5),(.mov (.tmp 18)),none⟩] true []) (.seq (.region [⟨(some 19),(.mov (.tmp 0)),none⟩,⟨(some 20),(.load false 1 (.tmp 1)),none⟩,⟨(some 21),(.mov (.tmp 4)),none⟩,⟨(some 22),(.mov (.tmp 4)),none⟩,⟨(some 23),(.mov (.tmp 5)),none⟩,⟨(some 24),(.bin .add 3 (.tmp 22) (.tmp 23)),none⟩,⟨(some 25),(.mov (.tmp 4)),none⟩,⟨(some 26),(.mov (.tmp 5)),none⟩,⟨(some 27),(.bin .add 3 (.tmp 25) (.tmp 26)),none⟩,⟨(some 28),(.slice 1 (.tmp 20) (some (.tmp 21)) (some (.tmp 24)) (some (.tmp 27))),none⟩,⟨(some 29),(.call (.tmp 19) [(.tmp 28)]),none⟩,⟨(some 30),(.un .not (.tmp 29)),none⟩] false []) (.cond (.tmp 30) .ret .skip)))) (.region [⟨(some 10),(.mov (.tmp 4)),none⟩,⟨(some 11),(.load false 1 (.tmp 2)),none⟩,⟨(some 12),(.bin .add 3 (.tmp 10) (.tmp 11)),none⟩,⟨(some 4),(.mov (.tmp 12)),none⟩] false [])))
def c116 : ACode:=(.seq (.region [⟨(some 4),(.mov (.const (.int .i64 0))),none⟩] false []) (.block 0 (.loop c116L0)))
def r116 : List ARes:=[]
def c117 : ACode:=(.seq (.region [⟨(some 4),(.mov (.const (.bool false))),none⟩] false []) (.seq (.region [⟨(some 5),(.mov (.tmp 1)),none⟩,⟨(some 6),(.bin .geq 3 (.tmp 5) (.const (.int .i64 1))),none⟩,⟨(some 7),(.mov (.tmp 6)),none⟩,⟨(some 8),(.mov (.tmp 1)),(some ((some 7),true))⟩,⟨(some 9),(.bin .leq 3 (.tmp 8) (.const (.int .i64 8))),(some ((some 7),true))⟩,⟨(some 10),(.pick (.tmp 7) (.tmp 9) (.const (.bool false))),none⟩,⟨(some 11),(.mov (.tmp 10)),none⟩,⟨(some 12),(.mov (.tmp 0)),(some ((some 11),true))⟩,⟨(some 13),(.bin .geq 3 (.tmp 12) (.const (.int .i64 0))),(some ((some 11),true))⟩,⟨(some 14),(.pick (.tmp 11) (.tmp 13) (.const (.bool false))),none⟩,⟨(some 15),(.mov (.tmp 14)),none⟩,⟨(some 16),(.mov (.tmp 1)),(some ((some 15),true))⟩,⟨(some 17),(.bin .eql 3 (.tmp 16) (.const (.int .i64 8))),(some ((some 15),true))⟩,⟨(some 18),(.mov (.tmp 17)),(some ((some 15),true))⟩,⟨(some 19),(.mov (.tmp 0)),(some ((some 18),false))⟩,⟨(some 20),(.mov (.tmp 1)),(some ((some 18),false))⟩,⟨(some 21),(.bin .mul 3 (.const (.int .i64 8)) (.tmp 20)),(some ((some 18),false))⟩,⟨(some 22),(.bin .shr 3 (.tmp 19) (.tmp 21)),(some ((some 18),false))⟩,⟨(some 23),(.bin .eql 3 (.tmp 22) (.const (.int .i64 0))),(some ((some 18),false))⟩,⟨(some 24),(.pick (.tmp 18) (.const (.bool true)) (.tmp 23)),(some ((some 15),true))⟩,⟨(some 25),(.pick (.tmp 15) (.tmp 24) (.const (.bool false))),none⟩,⟨(some 4),(.mov (.tmp 25)),none⟩] false []) .ret))
def r117 : List ARes:=[(.tmp 4)]
def c118 : ACode:=(.region [⟨(some 4),(.mov (.tmp 0)),none⟩,⟨(some 5),(.nilck (.tmp 4)),none⟩,⟨(some 6),(.faddr 0 (.tmp 5)),none⟩,⟨(some 7),(.mov (.tmp 1)),none⟩,⟨(some 8),(.len 0 (.tmp 7)),none⟩,⟨(some 9),(.call (.func 106) [(.tmp 6),(.tmp 8)]),none⟩,⟨(some 10),(.mov (.tmp 1)),none⟩,⟨(some 11),(.copy 1 (.tmp 9) (.tmp 10)),none⟩] false [])
def r118 : List ARes:=[]
def c119L0 : ACode:=(.seq (.region [⟨(some 17),(.bin .lss 3 (.tmp 16) (.const (.int .i64 4))),none⟩] false []) (.seq (.cond (.tmp 17) .skip (.exit 0)) (.seq (.block 1 (.seq (.region [⟨(some 18),(.mov (.tmp 16)),none⟩,⟨(some 7),(.mov (.tmp 18)),none⟩] false []) (.region [⟨(some 19),(.mov (.tmp 5)),none⟩,⟨(some 20),(.mov (.tmp 1)),none⟩,⟨(some 21),(.mov (.tmp 7)),none⟩,⟨(some 22),(.bin .add 3 (.tmp 20) (.tmp 21)),none⟩,⟨(some 23),(.mov (.tmp 6)),none⟩,⟨(some 24),(.mov (.tmp 7)),none⟩,⟨(some 25),(.bin .mul 3 (.const (.int .i64 8)) (.tmp 24)),none⟩,⟨(some 26),(.bin .shr 176 (.tmp 23) (.tmp 25)),none⟩,⟨(some 27),(.conv .u8 (.tmp 26)),none⟩,⟨(some 28),(.iaddr none 1 (.tmp 19) (.tmp 22)),none⟩,⟨none,(.store 1 (.tmp 28) (.tmp 27)),none⟩] false []))) (.region [⟨(some 29),(.bin .add 3 (.tmp 16) (.const (.int .i64 1))),none⟩,⟨(some 16),(.mov (.tmp 29)),none⟩] false []))))
def c119R1 : ACode:=(.seq (.region [⟨(some 30),(.mov (.tmp 5)),none⟩,⟨(some 4),(.mov (.tmp 30)),none⟩] false []) .ret)
def c119 : ACode:=(.seq (.region [⟨(some 4),(.mov (.const (.slice none 0 0))),none⟩] false []) (.seq (.region [⟨(some 8),(.mov (.tmp 0)),none⟩,⟨(some 9),(.call (.func 104) [(.tmp 8)]),none⟩,⟨(some 5),(.mov (.tmp 9)),none⟩] false []) (.seq (.seq (.region [⟨(some 10),(.mov (.tmp 0)),none⟩,⟨(some 11),(.mov (.tmp 1)),none⟩,⟨(some 12),(.call (.func 128) [(.tmp 10),(.tmp 11)]),none⟩] false []) (.cond (.tmp 12) (.seq (.region [⟨(some 13),(.mov (.tmp 0)),none⟩,⟨(some 14),(.mov (.tmp 1)),none⟩,⟨(some 15),(.call (.func 129) [(.tmp 13),(.tmp 14)]),none⟩,⟨(some 6),(.mov (.tmp 15)),none⟩] false []) (.seq (.region [⟨(some 16),(.mov (.const (.int .i64 0))),none⟩] false []) (.block 0 (.loop c119L0)))) .skip)) c119R1)))
def r119 : List ARes:=[(.tmp 4)]
def c125 : ACode:=(.seq (.region [⟨(some 2),(.alloc [(.sc (.int .i64 0)),(.sc (.int .i64 0))]),none⟩,⟨(some 3),(.mov (.const (.bool false))),none⟩] false []) (.seq (.region [⟨(some 4),(.alloc [(.sc (.int .i64 0)),(.sc (.int .i64 0))]),none⟩] false []) (.seq (.seq (.region [⟨(some 5),(.mov (.tmp 0)),none⟩,⟨(some 6),(.len 0 (.tmp 5)),none⟩,⟨(some 7),(.bin .eql 3 (.tmp 6) (.const (.int .i64 0))),none⟩] false []) (.cond (.tmp 7) (.seq (.region [⟨(some 8),(.load true 2 (.tmp 4)),none⟩,⟨none,(.store 2 (.tmp 2) (.tmp 8)),none⟩,⟨(some 3),(.mov (.const (.bool false))),none⟩] false []) .ret) .skip)) (.seq (.region [⟨(some 9),(.mov (.tmp 0)),none⟩,⟨(some 10),(.mov (.tmp 0)),none⟩,⟨(some 11),(.len 0 (.tmp 10)),none⟩,⟨(some 12),(.bin .sub 3 (.tmp 11) (.const (.int .i64 1))),none⟩,⟨(some 13),(.iaddr none 2 (.tmp 9) (.tmp 12)),none⟩,⟨(some 14),(.load true 2 (.tmp 13)),none⟩,⟨none,(.store 2 (.tmp 2) (.tmp 14)),none⟩,⟨(some 3),(.mov (.const (.bool true))),none⟩] false []) .ret))))
def r125 : List ARes:=[(.cell 2 true 2),(.tmp 3)]
def c126L0 : ACode:=(.seq (.seq (.region [⟨(some 7),(.mov (.tmp 3)),none⟩,⟨(some 8),(.bin .geq 3 (.tmp 7) (.const (.int .i64 0))),none⟩] false []) (.cond (.tmp 8) .skip (.exit 0))) (.seq (.block 1 (.seq (.region [⟨(some 11),(.mov (.tmp 0)),none⟩,⟨(some 12),(.mov (.tmp 3)),none⟩,⟨(some 13),(.load false 1 (.tmp 1)),none⟩,⟨(some 14),(.mov (.tmp 3)),none⟩,⟨(some 15),(.iaddr none 1 (.tmp 13) (.tmp 14)),none⟩,⟨(some 16),(.load false 1 (.tmp 15)),none⟩,⟨(some 17),(.call (.tmp 11) [(.tmp 12),(.tmp 16)]),none⟩,⟨(some 18),(.un .not (.tmp 17)),none⟩] false []) (.cond (.tmp 18) .ret .skip))) (.region [⟨(some 9),(.mov (.tmp 3)),none⟩,⟨(some 10),(.bin .sub 3 (.tmp 9) (.const (.int .i64 1))),none⟩,⟨(some 3),(.mov (.tmp 10)),none⟩] false [])))
def c126 : ACode:=(.seq (.region [⟨(some 4),(.load false 1 (.tmp 1)),none⟩,⟨(some 5),(.len 0 (.tmp 4)),none⟩,⟨(some 6),(.bin .sub 3 (.tmp 5) (.const (.int .i64 1))),none⟩,⟨(some 3),(.mov (.tmp 6)),none⟩] false []) (.block 0 (.loop c126L0)))
def r126 : List ARes:=[]
def c128 : ACode:=(.seq (.region [⟨(some 4),(.mov (.const (.bool false))),none⟩] false []) (.seq (.region [⟨(some 5),(.mov (.tmp 1)),none⟩,⟨(some 6),(.bin .geq 3 (.tmp 5) (.const (.int .i64 0))),none⟩,⟨(some 7),(.mov (.tmp 6)),none⟩,⟨(some 8),(.mov (.tmp 1)),(some ((some 7),true))⟩,⟨(some 9),(.mov (.tmp 0)),(some ((some 7),true))⟩,⟨(some 10),(.len 0 (.tmp 9)),(some ((some 7),true))⟩,⟨(some 11),(.bin .sub 3 (.tmp 10) (.const (.int .i64 4))),(some ((some 7),true))⟩,⟨(some 12),(.bin .leq 3 (.tmp 8) (.tmp 11)),(some ((some 7),true))⟩,⟨(some 13),(.pick (.tmp 7) (.tmp 12) (.const (.bool false))),none⟩,⟨(some 4),(.mov (.tmp 13)),none⟩] false []) .ret))
def r128 : List ARes:=[(.tmp 4)]
def c129 : ACode:=(.seq (.region [⟨(some 4),(.mov (.const (.int .u32 0))),none⟩] false []) (.seq (.region [⟨(some 5),(.mov (.tmp 0)),none⟩,⟨(some 6),(.mov (.tmp 1)),none⟩,⟨(some 7),(.slice 1 (.tmp 5) none (some (.tmp 6)) none),none⟩,⟨(some 8),(.call (.func 144) [(.tmp 7)]),none⟩,⟨(some 9),(.mov (.tmp 0)),none⟩,⟨(some 10),(.mov (.tmp 1)),none⟩,⟨(some 11),(.bin .add 3 (.tmp 10) (.const (.int .i64 4))),none⟩,⟨(some 12),(.slice 1 (.tmp 9) (some (.tmp 11)) none none),none⟩,⟨(some 13),(.call (.func 143) [(.tmp 8),(.tmp 12)]),none⟩,⟨(some 4),(.mov (.tmp 13)),none⟩] true [(3,7)]) .ret))
def r129 : List ARes:=[(.tmp 4)]
noncomputable def ft : FT
 | 9 => some (.go false 116 r9 c9)
 | 11 => some (.go true 17 r11 c11)
 | 15 => some (.go true 44 r15 c15)
 | 16 => some (.go true 51 r16 c16)
 | 17 => some (.go true 37 r17 c17)
 | 18 => some (.go true 36 r18 c18)
 | 20 => some (.go true 21 r20 c20)
 | 21 => some (.go true 59 r21 c21)
 | 23 => some (.go true 17 r23 c23)
 | 24 => some (.go true 25 r24 c24)
 | 25 => some (.go false 8 r25 c25)
 | 26 => some (.go true 10 r26 c26)
 | 27 => some (.go true 19 r27 c27)
 | 28 => some (.go true 42 r28 c28)
 | 29 => some (.go true 9 r29 c29)
 | 30 => some (.go false 94 r30 c30)
 | 31 => some (.go false 93 r31 c31)
 | 32 => some (.go true 24 r32 c32)
 | 33 => some (.go false 40 r33 c33)
 | 35 => some (.go true 26 r35 c35)
 | 44 => some (.go true 29 r44 c44)
 | 45 => some (.go true 19 r45 c45)
 | 46 => some (.go true 9 r46 c46)
 | 47 => some (.go true 11 r47 c47)
 | 48 => some (.go true 9 r48 c48)
 | 49 => some (.go true 32 r49 c49)
 | 50 => some (.go true 98 r50 c50)
 | 51 => some (.go true 50 r51 c51)
 | 52 => some (.go true 32 r52 c52)
 | 53 => some (.go true 24 r53 c53)
 | 55 => some (.go true 7 r55 c55)
 | 57 => some (.go true 57 r57 c57)
 | 58 => some (.go true 22 r58 c58)
 | 59 => some (.go true 11 r59 c59)
 | 60 => some (.go false 8 r60 c60)
 | 61 => some (.go false 49 r61 c61)
 | 62 => some (.go false 8 r62 c62)
 | 63 => some (.go true 12 r63 c63)
 | 64 => some (.go true 5 r64 c64)
 | 65 => some (.go false 7 r65 c65)
 | 66 => some (.go true 6 r66 c66)
 | 67 => some (.go false 65 r67 c67)
 | 68 => some (.go false 90 r68 c68)
 | 69 => some (.go true 36 r69 c69)
 | 83 => some (.go true 9 r83 c83)
 | 84 => some (.go true 9 r84 c84)
 | 85 => some (.go true 29 r85 c85)
 | 86 => some (.go false 9 r86 c86)
 | 87 => some (.go false 14 r87 c87)
 | 88 => some (.go false 35 r88 c88)
 | 89 => some (.go false 15 r89 c89)
 | 90 => some (.go true 55 r90 c90)
 | 94 => some (.go true 42 r94 c94)
 | 95 => some (.go true 19 r95 c95)
 | 96 => some (.go true 16 r96 c96)
 | 97 => some (.go true 8 r97 c97)
 | 98 => some (.go true 31 r98 c98)
 | 100 => some (.go true 10 r100 c100)
 | 101 => some (.go true 15 r101 c101)
 | 102 => some (.go true 9 r102 c102)
 | 103 => some (.go true 8 r103 c103)
 | 105 => some (.go false 4 r105 c105)
 | 106 => some (.go false 53 r106 c106)
 | 107 => some (.go true 14 r107 c107)
 | 108 => some (.go true 23 r108 c108)
 | 109 => some (.go false 27 r109 c109)
 | 114 => some (.go true 6 r114 c114)
 | 115 => some (.go true 19 r115 c115)
 | 116 => some (.go false 31 r116 c116)
 | 117 => some (.go true 26 r117 c117)
 | 118 => some (.go false 12 r118 c118)
 | 119 => some (.go true 31 r119 c119)
 | 125 => some (.go true 15 r125 c125)
 | 126 => some (.go false 19 r126 c126)
 | 128 => some (.go true 14 r128 c128)
 | 129 => some (.go true 14 r129 c129)
 | 56 => some (.eprim (ecloP 2 16))
 | 104 => some (.pprim (cloF 1 1))
 | 99 => some (.prim (sortP 100))
 | _ => none
end Go.VI
set_option linter.unusedSimpArgs false
namespace Go.VI
attribute [local congr] AW_congr OW_congr DW_congr NW_congr VW_congr GW_congr PW_congr KW_congr ite_congr' GV_congr CV_congr
abbrev Bytes:=List Int
structure ItemM where
 key : Bytes
 value : Bytes
 size : Int
 ref : Int
structure KidM where
 key : Bytes
 ref : Int
structure NodeM where
 leaf : Bool
 items : List ItemM
 kids : List KidM
structure NamedM where
 ref : Int
 n : NodeM
structure StepM where
 ref : Int
 n : NodeM
 k : Int
def int (n : Int) : AV:=.sc (.int .i64 n)
def boolA (b : Bool) : AV:=.sc (.bool b)
def byteC (n : Int) : List AV:=[.sc (.int .u8 n)]
def encB (l : Bytes) : AV:=.lst (l.map byteC)
def itemC (x : ItemM) : List AV:=[encB x.key,encB x.value,int x.size,int x.ref]
def encI (l : List ItemM) : AV:=.lst (l.map itemC)
def kidC (x : KidM) : List AV:=[encB x.key,int x.ref]
def encK (l : List KidM) : AV:=.lst (l.map kidC)
def nodeC (n : NodeM) : List AV:=[boolA n.leaf,encI n.items,encK n.kids]
def namedC (x : NamedM) : List AV:=int x.ref :: nodeC x.n
def encL (l : List NamedM) : AV:=.lst (l.map namedC)
def stepC (x : StepM) : List AV:=[int x.ref,boolA x.n.leaf,encI x.n.items,encK x.n.kids,int x.k]
def encS (l : List StepM) : AV:=.lst (l.map stepC)
section
variable {H : Heap} {K : Heap} {L : List Blk}
theorem len_byteC (n : Int) : (byteC n).length = 1:=rfl
theorem len_itemC (x : ItemM) : (itemC x).length = 4:=rfl
theorem len_kidC (x : KidM) : (kidC x).length = 2:=rfl
theorem len_namedC (x : NamedM) : (namedC x).length = 4:=rfl
theorem len_stepC (x : StepM) : (stepC x).length = 5:=rfl
theorem lenB (l : Bytes) : lenV H 0 (encB l) = some (.sc (.int .i64 (l.length : Int)),H):=by simp [lenV,lenOfA,encB]
theorem lenI (l : List ItemM) : lenV H 0 (encI l) = some (.sc (.int .i64 (l.length : Int)),H):=by simp [lenV,lenOfA,encI]
theorem lenK (l : List KidM) : lenV H 0 (encK l) = some (.sc (.int .i64 (l.length : Int)),H):=by simp [lenV,lenOfA,encK]
theorem lenL (l : List NamedM) : lenV H 0 (encL l) = some (.sc (.int .i64 (l.length : Int)),H):=by simp [lenV,lenOfA,encL]
theorem lenS (l : List StepM) : lenV H 0 (encS l) = some (.sc (.int .i64 (l.length : Int)),H):=by simp [lenV,lenOfA,encS]
theorem atB {l : Bytes} {i : Nat} (h : i < l.length) : iaddrA H none 1 (encB l) (i : Int) = some (.pim (l.map byteC) i 0):=iaddr_map h len_byteC
theorem cB {l : Bytes} {i off n : Nat} (h : i < l.length) : cellsAt H (.pim (l.map byteC) i off) n = if off + n ≤ 1 then some (((byteC l[i]).drop off).take n) else none:=cells_map h
end
section
theorem zi (n : Nat) (H : Heap) (x : ItemM) : frz.frzL (n + 6) H (itemC x) = some (itemC x,H):=rfl
theorem zk (n : Nat) (H : Heap) (x : KidM) : frz.frzL (n + 4) H (kidC x) = some (kidC x,H):=rfl
theorem zn (n : Nat) (H : Heap) (x : NodeM) : frz.frzL (n + 5) H (nodeC x) = some (nodeC x,H):=rfl
theorem zm (n : Nat) (H : Heap) (x : NamedM) : frz.frzL (n + 6) H (namedC x) = some (namedC x,H):=rfl
theorem zs (n : Nat) (H : Heap) (x : StepM) : frz.frzL (n + 7) H (stepC x) = some (stepC x,H):=rfl
theorem fz_i (H : Heap) (x : ItemM) : frz.frzL 24 H (itemC x) = some (itemC x,H):=rfl
theorem fz_k (H : Heap) (x : KidM) : frz.frzL 24 H (kidC x) = some (kidC x,H):=rfl
theorem i_all (x : ItemM) : (itemC x).take 4 = itemC x:=rfl
theorem i_0 (x : ItemM) : (itemC x).take 1 = [encB x.key]:=rfl
theorem i_1 (x : ItemM) : ((itemC x).drop 1).take 1 = [encB x.value]:=rfl
theorem i_2 (x : ItemM) : ((itemC x).drop 2).take 1 = [int x.size]:=rfl
theorem i_3 (x : ItemM) : ((itemC x).drop 3).take 1 = [int x.ref]:=rfl
theorem i_one (x : ItemM) : oneAll (itemC x) = true:=rfl
theorem k_all (x : KidM) : (kidC x).take 2 = kidC x:=rfl
theorem k_0 (x : KidM) : (kidC x).take 1 = [encB x.key]:=rfl
theorem k_1 (x : KidM) : ((kidC x).drop 1).take 1 = [int x.ref]:=rfl
theorem k_one (x : KidM) : oneAll (kidC x) = true:=rfl
theorem n_all (x : NodeM) : (nodeC x).take 3 = nodeC x:=rfl
theorem n_0 (x : NodeM) : (nodeC x).take 1 = [boolA x.leaf]:=rfl
theorem n_1 (x : NodeM) : ((nodeC x).drop 1).take 1 = [encI x.items]:=rfl
theorem n_2 (x : NodeM) : ((nodeC x).drop 2).take 1 = [encK x.kids]:=rfl
theorem n_one (x : NodeM) : oneAll (nodeC x) = true:=rfl
theorem len_nodeC (x : NodeM) : (nodeC x).length = 3:=rfl
theorem m_all (x : NamedM) : (namedC x).take 4 = namedC x:=rfl
theorem m_0 (x : NamedM) : (namedC x).take 1 = [int x.ref]:=rfl
theorem m_n (x : NamedM) : ((namedC x).drop 1).take 3 = nodeC x.n:=rfl
theorem m_1 (x : NamedM) : ((namedC x).drop 1).take 1 = [boolA x.n.leaf]:=rfl
theorem m_2 (x : NamedM) : ((namedC x).drop 2).take 1 = [encI x.n.items]:=rfl
theorem m_3 (x : NamedM) : ((namedC x).drop 3).take 1 = [encK x.n.kids]:=rfl
theorem m_one (x : NamedM) : oneAll (namedC x) = true:=rfl
theorem s_all (x : StepM) : (stepC x).take 5 = stepC x:=rfl
theorem s_0 (x : StepM) : (stepC x).take 1 = [int x.ref]:=rfl
theorem s_n (x : StepM) : ((stepC x).drop 1).take 3 = nodeC x.n:=rfl
theorem s_1 (x : StepM) : ((stepC x).drop 1).take 1 = [boolA x.n.leaf]:=rfl
theorem s_2 (x : StepM) : ((stepC x).drop 2).take 1 = [encI x.n.items]:=rfl
theorem s_3 (x : StepM) : ((stepC x).drop 3).take 1 = [encK x.n.kids]:=rfl
theorem s_4 (x : StepM) : ((stepC x).drop 4).take 1 = [int x.k]:=rfl
theorem s_one (x : StepM) : oneAll (stepC x) = true:=rfl
theorem frz_B (n : Nat) (H : Heap) (l : Bytes) : frz (n + 1) H (encB l) = some (encB l,H):=rfl
theorem frz_I (n : Nat) (H : Heap) (l : List ItemM) : frz (n + 1) H (encI l) = some (encI l,H):=rfl
theorem frz_K (n : Nat) (H : Heap) (l : List KidM) : frz (n + 1) H (encK l) = some (encK l,H):=rfl
theorem frz_L (n : Nat) (H : Heap) (l : List NamedM) : frz (n + 1) H (encL l) = some (encL l,H):=rfl
theorem frz_S (n : Nat) (H : Heap) (l : List StepM) : frz (n + 1) H (encS l) = some (encS l,H):=rfl
theorem one_B (l : Bytes) : (encB l).one = true:=rfl
theorem one_I (l : List ItemM) : (encI l).one = true:=rfl
theorem one_K (l : List KidM) : (encK l).one = true:=rfl
theorem one_L (l : List NamedM) : (encL l).one = true:=rfl
theorem one_S (l : List StepM) : (encS l).one = true:=rfl
theorem cs_B (l : Bytes) : (encB l).cells = [encB l]:=rfl
theorem cs_I (l : List ItemM) : (encI l).cells = [encI l]:=rfl
theorem cs_K (l : List KidM) : (encK l).cells = [encK l]:=rfl
theorem cs_L (l : List NamedM) : (encL l).cells = [encL l]:=rfl
theorem cs_S (l : List StepM) : (encS l).cells = [encS l]:=rfl
set_option linter.defProp false
def da:=(⟨@zi,@zk,@zn,@zm,@zs,@fz_i,@fz_k,@lenB,@lenI,@lenK,@lenL,@lenS,@i_all,@i_0,@i_1,@i_2,@i_3,@i_one,@k_all,@k_0,@k_1,@k_one,@n_all,@n_0,@n_1,@n_2,@n_one,@len_nodeC,@m_all,@m_0,@m_n,@m_1,@m_2,@m_3,@m_one,@s_all,@s_0,@s_n,@s_1,@s_2,@s_3,@s_4,@s_one,@len_itemC,@len_kidC,@len_namedC,@len_stepC,@frz_B,@frz_I,@frz_K,@frz_L,@frz_S,@one_B,@one_I,@one_K,@one_L,@one_S,@cs_B,@cs_I,@cs_K,@cs_L,@cs_S⟩ : _ ∧ _ ∧ _ ∧ _ ∧ _ ∧ _ ∧ _ ∧ _ ∧ _ ∧ _ ∧ _ ∧ _ ∧ _ ∧ _ ∧ _ ∧ _ ∧ _ ∧ _ ∧ _ ∧ _ ∧ _ ∧ _ ∧ _ ∧ _ ∧ _ ∧ _ ∧ _ ∧ _ ∧ _ ∧ _ ∧ _ ∧ _ ∧ _ ∧ _ ∧ _ ∧ _ ∧ _ ∧ _ ∧ _ ∧ _ ∧ _ ∧ _ ∧ _ ∧ _ ∧ _ ∧ _ ∧ _ ∧ _ ∧ _ ∧ _ ∧ _ ∧ _ ∧ _ ∧ _ ∧ _ ∧ _ ∧ _ ∧ _ ∧ _ ∧ _ ∧ _ ∧ _)
end
end Go.VI
namespace Go.VI
attribute [local congr] AW_congr OW_congr DW_congr NW_congr VW_congr GW_congr PW_congr KW_congr ite_congr' GV_congr CV_congr
abbrev RunM:=Int × Int
def runC (x : RunM) : List AV:=[int x.1,int x.2]
def encR (l : List RunM) : AV:=.lst (l.map runC)
def numC (n : Int) : List AV:=[int n]
def encN (l : List Int) : AV:=.lst (l.map numC)
def bitC (b : Bool) : List AV:=[boolA b]
def encT (l : List Bool) : AV:=.lst (l.map bitC)
section
variable {H : Heap}
theorem len_runC (x : RunM) : (runC x).length = 2:=rfl
theorem len_numC (x : Int) : (numC x).length = 1:=rfl
theorem len_bitC (x : Bool) : (bitC x).length = 1:=rfl
theorem lenR (l : List RunM) : lenV H 0 (encR l) = some (.sc (.int .i64 (l.length : Int)),H):=by simp [lenV,lenOfA,encR]
theorem lenN (l : List Int) : lenV H 0 (encN l) = some (.sc (.int .i64 (l.length : Int)),H):=by simp [lenV,lenOfA,encN]
theorem lenT (l : List Bool) : lenV H 0 (encT l) = some (.sc (.int .i64 (l.length : Int)),H):=by simp [lenV,lenOfA,encT]
theorem atR {l : List RunM} {i : Nat} (h : i < l.length) : iaddrA H none 2 (encR l) (i : Int) = some (.pim (l.map runC) i 0):=iaddr_map h len_runC
theorem atN {l : List Int} {i : Nat} (h : i < l.length) : iaddrA H none 1 (encN l) (i : Int) = some (.pim (l.map numC) i 0):=iaddr_map h len_numC
theorem cR {l : List RunM} {i off n : Nat} (h : i < l.length) : cellsAt H (.pim (l.map runC) i off) n = if off + n ≤ 2 then some (((runC l[i]).drop off).take n) else none:=cells_map h
theorem cN {l : List Int} {i off n : Nat} (h : i < l.length) : cellsAt H (.pim (l.map numC) i off) n = if off + n ≤ 1 then some (((numC l[i]).drop off).take n) else none:=cells_map h
theorem zr (n : Nat) (H : Heap) (x : RunM) : frz.frzL (n + 3) H (runC x) = some (runC x,H):=rfl
theorem fz_r (H : Heap) (x : RunM) : frz.frzL 24 H (runC x) = some (runC x,H):=rfl
theorem r_all (x : RunM) : (runC x).take 2 = runC x:=rfl
theorem r_0 (x : RunM) : (runC x).take 1 = [int x.1]:=rfl
theorem r_1 (x : RunM) : ((runC x).drop 1).take 1 = [int x.2]:=rfl
theorem r_one (x : RunM) : oneAll (runC x) = true:=rfl
theorem nu_0 (x : Int) : (numC x).take 1 = [int x]:=rfl
theorem bi_0 (x : Bool) : (bitC x).take 1 = [boolA x]:=rfl
theorem frz_R (n : Nat) (H : Heap) (l : List RunM) : frz (n + 1) H (encR l) = some (encR l,H):=rfl
theorem frz_N (n : Nat) (H : Heap) (l : List Int) : frz (n + 1) H (encN l) = some (encN l,H):=rfl
theorem frz_T (n : Nat) (H : Heap) (l : List Bool) : frz (n + 1) H (encT l) = some (encT l,H):=rfl
theorem one_R (l : List RunM) : (encR l).one = true:=rfl
theorem one_N (l : List Int) : (encN l).one = true:=rfl
theorem one_T (l : List Bool) : (encT l).one = true:=rfl
theorem cs_R (l : List RunM) : (encR l).cells = [encR l]:=rfl
theorem cs_N (l : List Int) : (encN l).cells = [encN l]:=rfl
theorem cs_T (l : List Bool) : (encT l).cells = [encT l]:=rfl
theorem sids_R (l : List RunM) : sids [encR l] = some []:=rfl
theorem sids_N (l : List Int) : sids [encN l] = some []:=rfl
theorem sids_T (l : List Bool) : sids [encT l] = some []:=rfl
end
set_option linter.defProp false
def dr:=And.intro @len_runC <| And.intro @len_numC <| And.intro @len_bitC <| And.intro @lenR <| And.intro @lenN <| And.intro @lenT <| And.intro @zr <| And.intro @fz_r <| And.intro @r_all <| And.intro @r_0 <| And.intro @r_1 <| And.intro @r_one <| And.intro @nu_0 <| And.intro @bi_0 <| And.intro @frz_R <| And.intro @frz_N <| And.intro @frz_T <| And.intro @one_R <| And.intro @one_N <| And.intro @one_T <| And.intro @cs_R <| And.intro @cs_N <| And.intro @cs_T <| And.intro @sids_R <| And.intro @sids_N @sids_T
def mayM (x : RunM) : Bool:=decide (0 ≤ x.1) && decide (1 ≤ x.2) && decide (x.1 ≤ 32768) && decide (x.2 ≤ 32768 - x.1)
theorem mayM_iff {x : RunM} : mayM x = true ↔ 0 ≤ x.1 ∧ 1 ≤ x.2 ∧ x.1 ≤ 32768 ∧ x.2 ≤ 32768 - x.1:=by simp [mayM,and_assoc]
theorem s53 (x : RunM) (H : Heap) : callL ft (.fn (.func 53) [] []) [.agg (runC x)] H = some (boolA (mayM x),H):=by
 refine call_p (as':=[.agg (runC x)]) rfl rfl (by simp) ?_
 unfold c53 r53
 by_cases h1 : 0 ≤ x.1
 ·by_cases h2 : 1 ≤ x.2
  ·by_cases h3 : x.1 ≤ 32768
   ·have w : IntKind.i64.wrap (32768 - x.1) = 32768 - x.1:=wrap_i64 (by omega)
    have e : mayM x = decide (x.2 ≤ 32768 - x.1):=by simp [mayM,h1,h2,h3]
    rw [e]
    simp only [↓vp,vz,Nat.reduceLT,Nat.reduceEqDiff,Nat.reduceLeDiff,Nat.reduceAdd,Nat.reduceSub,Nat.reduceMul,Int.reduceBEq,Int.reduceBNe,Int.reduceLT,Int.reduceLE,Int.reduceEq,reduceIte,reduceCtorEq,da,int,boolA,rt,dr,runC,h1,h2,h3,w]
   ·have e : mayM x = false:=by simp [mayM,h3]
    rw [e]
    simp only [↓vp,vz,Nat.reduceLT,Nat.reduceEqDiff,Nat.reduceLeDiff,Nat.reduceAdd,Nat.reduceSub,Nat.reduceMul,Int.reduceBEq,Int.reduceBNe,Int.reduceLT,Int.reduceLE,Int.reduceEq,reduceIte,reduceCtorEq,da,int,boolA,rt,dr,runC,h1,h2,h3]
  ·have e : mayM x = false:=by simp [mayM,h2]
   rw [e]
   simp only [↓vp,vz,Nat.reduceLT,Nat.reduceEqDiff,Nat.reduceLeDiff,Nat.reduceAdd,Nat.reduceSub,Nat.reduceMul,Int.reduceBEq,Int.reduceBNe,Int.reduceLT,Int.reduceLE,Int.reduceEq,reduceIte,reduceCtorEq,da,int,boolA,rt,dr,runC,h1,h2]
 ·have e : mayM x = false:=by simp [mayM,h1]
  rw [e]
  simp only [↓vp,vz,Nat.reduceLT,Nat.reduceEqDiff,Nat.reduceLeDiff,Nat.reduceAdd,Nat.reduceSub,Nat.reduceMul,Int.reduceBEq,Int.reduceBNe,Int.reduceLT,Int.reduceLE,Int.reduceEq,reduceIte,reduceCtorEq,da,int,boolA,rt,dr,runC,h1]
theorem k53 {x : RunM} {K : Heap} {L : List Blk} {Q : AV → Heap → Prop} : KW ft (.fn (.func 53) [] []) [.agg (runC x)] (hx K L) Q ↔ Q (boolA (mayM x)) (hx K L):=KW_of (s53 x _)
theorem s44 (x : RunM) (H : Heap) : callL ft (.fn (.func 44) [] []) [.agg (runC x)] H = some (boolA (mayM x),H):=by
 refine call_p (as':=[.agg (runC x)]) rfl rfl (by simp) ?_
 unfold c44 r44
 by_cases h1 : 0 ≤ x.1
 ·by_cases h3 : x.1 ≤ 32768
  ·by_cases h2 : 1 ≤ x.2
   ·by_cases h4 : x.2 ≤ 32768
    ·have w : IntKind.i64.wrap (x.1 + x.2) = x.1 + x.2:=wrap_i64 (by omega)
     have e : mayM x = decide (x.1 + x.2 ≤ 32768):=by
      simp [mayM,h1,h2,h3]
      omega
     rw [e]
     simp only [↓vp,vz,Nat.reduceLT,Nat.reduceEqDiff,Nat.reduceLeDiff,Nat.reduceAdd,Nat.reduceSub,Nat.reduceMul,Int.reduceBEq,Int.reduceBNe,Int.reduceLT,Int.reduceLE,Int.reduceEq,reduceIte,reduceCtorEq,da,int,boolA,rt,dr,runC,h1,h2,h3,h4,w]
    ·have e : mayM x = false:=by simp [mayM]; omega
     rw [e]
     simp only [↓vp,vz,Nat.reduceLT,Nat.reduceEqDiff,Nat.reduceLeDiff,Nat.reduceAdd,Nat.reduceSub,Nat.reduceMul,Int.reduceBEq,Int.reduceBNe,Int.reduceLT,Int.reduceLE,Int.reduceEq,reduceIte,reduceCtorEq,da,int,boolA,rt,dr,runC,h1,h2,h3,h4]
   ·have e : mayM x = false:=by simp [mayM,h2]
    rw [e]
    simp only [↓vp,vz,Nat.reduceLT,Nat.reduceEqDiff,Nat.reduceLeDiff,Nat.reduceAdd,Nat.reduceSub,Nat.reduceMul,Int.reduceBEq,Int.reduceBNe,Int.reduceLT,Int.reduceLE,Int.reduceEq,reduceIte,reduceCtorEq,da,int,boolA,rt,dr,runC,h1,h2,h3]
  ·have e : mayM x = false:=by simp [mayM,h3]
   rw [e]
   simp only [↓vp,vz,Nat.reduceLT,Nat.reduceEqDiff,Nat.reduceLeDiff,Nat.reduceAdd,Nat.reduceSub,Nat.reduceMul,Int.reduceBEq,Int.reduceBNe,Int.reduceLT,Int.reduceLE,Int.reduceEq,reduceIte,reduceCtorEq,da,int,boolA,rt,dr,runC,h1,h3]
 ·have e : mayM x = false:=by simp [mayM,h1]
  rw [e]
  simp only [↓vp,vz,Nat.reduceLT,Nat.reduceEqDiff,Nat.reduceLeDiff,Nat.reduceAdd,Nat.reduceSub,Nat.reduceMul,Int.reduceBEq,Int.reduceBNe,Int.reduceLT,Int.reduceLE,Int.reduceEq,reduceIte,reduceCtorEq,da,int,boolA,rt,dr,runC,h1]
theorem k44 {x : RunM} {K : Heap} {L : List Blk} {Q : AV → Heap → Prop} : KW ft (.fn (.func 44) [] []) [.agg (runC x)] (hx K L) Q ↔ Q (boolA (mayM x)) (hx K L):=KW_of (s44 x _)
def endM (x : RunM) : Int:=x.1 + x.2
theorem s97 (x : RunM) (h : -9223372036854775808 ≤ x.1 + x.2 ∧ x.1 + x.2 < 9223372036854775808) (H : Heap) : callL ft (.fn (.func 97) [] []) [.agg (runC x)] H = some (int (endM x),H):=by
 refine call_p (as':=[.agg (runC x)]) rfl rfl (by simp) ?_
 unfold c97 r97
 have w : IntKind.i64.wrap (x.1 + x.2) = endM x:=wrap_i64 (by omega)
 simp only [↓vp,vz,Nat.reduceLT,Nat.reduceEqDiff,Nat.reduceLeDiff,Nat.reduceAdd,Nat.reduceSub,Nat.reduceMul,Int.reduceBEq,Int.reduceBNe,Int.reduceLT,Int.reduceLE,Int.reduceEq,reduceIte,reduceCtorEq,da,int,boolA,rt,dr,runC,w]
theorem k97 {x : RunM} (h : -9223372036854775808 ≤ x.1 + x.2 ∧ x.1 + x.2 < 9223372036854775808) {K : Heap} {L : List Blk} {Q : AV → Heap → Prop} : KW ft (.fn (.func 97) [] []) [.agg (runC x)] (hx K L) Q ↔ Q (int (endM x)) (hx K L):=KW_of (s97 x h _)
end Go.VI
namespace Go.VI
attribute [local congr] AW_congr OW_congr DW_congr NW_congr VW_congr GW_congr PW_congr KW_congr ite_congr' GV_congr CV_congr
def kill (K : Heap) : AV → Heap
 | .sl id _ _ => K.set id .dead
 | _ => K
theorem kill_next (K : Heap) (S : AV) : (kill K S).next = K.next:=by
 unfold kill
 split
 ·exact Heap.next_set _ _ _
 ·rfl
theorem kill_get {K : Heap} {S : AV} {sz : Nat} {rows : List (List AV)} (h : Rep K sz S rows) {j : Nat} {b : Blk} (hj : K.get j = some b) (hb : ∀ r,b ≠ .row false sz r) : (kill K S).get j = some b:=by
 rcases h with ⟨rfl,_⟩ | ⟨id,rfl,hr⟩
 ·exact hj
 ·have : j ≠ id:=fun e => by
   subst e
   rw [hj] at hr
   exact hb _ (Option.some.inj hr)
  show (K.set id .dead).get j = _
  rw [Heap.get_set_ne _ this,hj]
theorem appA_rep {K : Heap} {S : AV} {sz bytes nid : Nat} {rows : List (List AV)} (h : Rep K sz S rows) {xs : List (List AV)} (h0 : xs ≠ []) (hs : allSz sz xs = true) (hb : (rows.length + xs.length) * bytes ≤ 140737488355328) (L : List Blk) :
  appA nid (hx K L) sz bytes S xs = some (.sl nid 0 (rows.length + xs.length),(hx (kill K S) L).put nid (.row false sz (rows ++ xs))):=by
 have hl : xs.length ≠ 0:=fun e => h0 (List.eq_nil_of_length_eq_zero e)
 rcases h with ⟨rfl,rfl⟩ | ⟨id,rfl,hr⟩
 ·rw [appA_nil,if_neg hl,if_pos ⟨by simpa using hb,hs⟩]
  simp [kill]
 ·have lid:=Heap.get_lt hr
  rw [appA_sl,hx_get_old K L id lid,hr]
  simp only
  rw [if_pos ⟨by trivial,by omega,hb,hs⟩,if_neg (by omega),hx_set_old K L _ id lid,List.drop_zero,List.take_of_length_le (Nat.le_refl _)]
  rfl
theorem kill_old {K : Heap} {S : AV} {sz : Nat} {rows : List (List AV)} (h : Rep K sz S rows) {j : Nat} {b : Blk} (hj : K.get j = some b) (hb : ∀ r,b ≠ .row false sz r) (L : List Blk) : (hx (kill K S) L).get j = some b:=by
 rw [hx_get_old _ _ _ (by rw [kill_next]; exact Heap.get_lt hj)]
 exact kill_get h hj hb
theorem get_old {K : Heap} {j : Nat} {b : Blk} (hj : K.get j = some b) (L : List Blk) : (hx K L).get j = some b:=by
 rw [hx_get_old _ _ _ (Heap.get_lt hj),hj]
def Stay (B : Nat) (H H' : Heap) : Prop:=H.next ≤ H'.next ∧ ∀ j,j < B → H'.get j = H.get j
theorem Stay.rfl' {B : Nat} {H : Heap} : Stay B H H:=⟨Nat.le_refl _,fun _ _ => rfl⟩
theorem Stay.trans {B : Nat} {H H' H'' : Heap} (h : Stay B H H') (h' : Stay B H' H'') : Stay B H H'':=⟨Nat.le_trans h.1 h'.1,fun j hj => (h'.2 j hj).trans (h.2 j hj)⟩
theorem Stay.hx {B : Nat} {H : Heap} (L : List Blk) (h : B ≤ H.next) : Stay B H (hx H L):=⟨by rw [hx_next]; omega,fun j hj => hx_get_old _ _ _ (by omega)⟩
theorem Stay.set {B : Nat} {H : Heap} {id : Nat} (b : Blk) (h : B ≤ id) : Stay B H (H.set id b):=⟨by rw [Heap.next_set]; exact Nat.le_refl _,fun j hj => Heap.get_set_ne _ (by omega)⟩
def RepB (B : Nat) (K : Heap) (sz : Nat) (S : AV) (rows : List (List AV)) : Prop:=(S = .sc (.slice none 0 0) ∧ rows = []) ∨ ∃ id,B ≤ id ∧ S = .sl id 0 rows.length ∧ K.get id = some (.row false sz rows)
theorem RepB.rep {B : Nat} {K : Heap} {sz : Nat} {S : AV} {rows : List (List AV)} (h : RepB B K sz S rows) : Rep K sz S rows:=by
 rcases h with h | ⟨id,_,h1,h2⟩
 ·exact .inl h
 ·exact .inr ⟨id,h1,h2⟩
theorem RepB.kill {B : Nat} {K : Heap} {sz : Nat} {S : AV} {rows : List (List AV)} (h : RepB B K sz S rows) : Stay B K (kill K S):=by
 rcases h with ⟨rfl,_⟩ | ⟨id,hb,rfl,_⟩
 ·exact .rfl'
 ·exact .set _ hb
theorem RepB.mono {B : Nat} {K K' : Heap} {sz : Nat} {S : AV} {rows : List (List AV)} (h : RepB B K sz S rows) (hk : ∀ id,B ≤ id → K.get id = some (.row false sz rows) → K'.get id = some (.row false sz rows)) : RepB B K' sz S rows:=by
 rcases h with h | ⟨id,hb,h1,h2⟩
 ·exact .inl h
 ·exact .inr ⟨id,hb,h1,hk id hb h2⟩
theorem rep_take {α : Type} (g : α → List AV) {l : List α} {i : Nat} (h : i < l.length) : (l.take (i + 1)).map g = (l.take i).map g ++ [g l[i]]:=by
 rw [List.take_succ_eq_append_getElem h,List.map_append]; rfl
theorem frz_rep {K : Heap} {L : List Blk} {sz : Nat} {S : AV} {rows : List (List AV)} (h : Rep (hx K L) sz S rows) (n : Nat) : ∃ K',frz (n + 1) (hx K L) S = some (.lst rows,K'):=by
 rcases h with ⟨rfl,rfl⟩ | ⟨id,rfl,h⟩
 ·exact ⟨_,rfl⟩
 ·refine ⟨(hx K L).set id (.row true sz rows),?_⟩
  rw [frz_sl,h]
  simp
theorem hxe_get' (L : List Blk) (i : Nat) : (hx Heap.empty L).get i = L[i]?:=by simp [hx,Heap.get,Heap.empty]
theorem hxe_nx (L : List Blk) : (hx Heap.empty L).next = L.length:=by simp [hx,Heap.next,Heap.empty]
theorem hx_hx (K : Heap) (L M : List Blk) : hx (hx K L) M = hx K (L ++ M):=by simp [hx]
def rgtL : Int → List RunM → Bool
 | _,[] => true
 | e,x :: xs => mayM x && (decide (e < x.1) && rgtL (endM x) xs)
def rightM (l : List RunM) : Bool:=rgtL (-1) l
def prevE (l : List RunM) (i : Nat) : Int:=if h : 0 < i ∧ i - 1 < l.length then endM l[i - 1] else -1
theorem prevE_0 (l : List RunM) : prevE l 0 = -1:=by simp [prevE]
theorem prevE_s {l : List RunM} {i : Nat} (h : i < l.length) : prevE l (i + 1) = endM l[i]:=by
 unfold prevE
 rw [dif_pos ⟨by omega,by simpa using h⟩]
 simp
theorem rgt_step {l : List RunM} {i : Nat} (h : i < l.length) : rgtL (prevE l i) (l.drop i) = (mayM l[i] && (decide (prevE l i < l[i].1) && rgtL (prevE l (i + 1)) (l.drop (i + 1)))):=by
 rw [List.drop_eq_getElem_cons h,prevE_s h]
 rfl
theorem may_end {x : RunM} (h : mayM x = true) : -9223372036854775808 ≤ x.1 + x.2 ∧ x.1 + x.2 < 9223372036854775808:=by
 rw [mayM_iff] at h
 omega
theorem p97 (x : RunM) : pureV ft (.fn (.func 97) [] []) [.agg (runC x)] = some (false,[]):=rfl
theorem l98 (l : List RunM) (hl : l.length ≤ 2000000) {Q : AExit → Env → Heap → Prop}
   (hex : ∀ f' K, rightM l = true → Q (.exit 0) (mkE 31 f') (hx K []))
   (hret : ∀ f' K, rightM l = false → f' 2 = boolA false → Q .ret (mkE 31 f') (hx K [])) :
   ∀ (d i : Nat) (K : Heap) (f : Nat → AV), i + d = l.length → rightM l = rgtL (prevE l i) (l.drop i) → (∀ j (hj : j < l.length), i = j + 1 → mayM l[j] = true) → f 0 = encR l → f 5 = encR l → f 6 = int l.length → f 7 = int i →
    AW ft (.loop c98L0) (mkE 31 f) (hx K []) Q := by
  intro d
  induction d with
  | zero =>
    intro i K f hd hc hm h0 h5 h6 h7
    have g1 : ((i : Int) < l.length) = False := by simp; omega
    rw [AW_loop]
    unfold c98L0
    rw [List.drop_eq_nil_of_le (by omega)] at hc
    simp only [↓vp, vz, Nat.reduceLT, Nat.reduceEqDiff, Nat.reduceLeDiff, Nat.reduceAdd, Nat.reduceSub, Nat.reduceMul, Int.reduceBEq, Int.reduceBNe, Int.reduceLT, Int.reduceLE, Int.reduceEq, reduceIte, reduceCtorEq, da, int, boolA, h6, h7, g1]
    exact hex _ K (by rw [hc]; rfl)
  | succ d ih =>
    intro i K f hd hc hm h0 h5 h6 h7
    have g1 : ((i : Int) < l.length) = True := by simp; omega
    have gi : i < l.length := by omega
    have w1 := wrap_succ (show i < 9223372036854775807 by omega)
    rw [rgt_step gi] at hc
    have km := fun K L Q => @k53 l[i] K L Q
    simp only [runC, int] at km
    rw [AW_loop]
    unfold c98L0
    cases c1 : mayM l[i] with
    | false =>
      rw [c1, Bool.false_and] at hc
      rw [c1] at km
      simp only [↓vp, vz, Nat.reduceLT, Nat.reduceEqDiff, Nat.reduceLeDiff, Nat.reduceAdd, Nat.reduceSub, Nat.reduceMul, Int.reduceBEq, Int.reduceBNe, Int.reduceLT, Int.reduceLE, Int.reduceEq, reduceIte, reduceCtorEq, da, int, boolA, dr, h0, h5, h6, h7, g1, atR gi, cR gi, runC, km]
      rw [← hx_nil (hx K _)]
      refine hret _ _ hc ?_
      simp only [↓vp, vz, Nat.reduceLT, Nat.reduceEqDiff, Nat.reduceLeDiff, Nat.reduceAdd, Nat.reduceSub, Nat.reduceMul, Int.reduceBEq, Int.reduceBNe, Int.reduceLT, Int.reduceLE, Int.reduceEq, reduceIte, reduceCtorEq, da, int, boolA]
    | true =>
      rw [c1, Bool.true_and] at hc
      rw [c1] at km
      cases i with
      | zero =>
        have hb := (mayM_iff.1 c1).1
        rw [prevE_0, decide_eq_true (by omega), Bool.true_and] at hc
        have g2 : (((0 : Nat) : Int) > 0) = False := eq_false (by omega)
        simp only [↓vp, vz, Nat.reduceLT, Nat.reduceEqDiff, Nat.reduceLeDiff, Nat.reduceAdd, Nat.reduceSub, Nat.reduceMul, Int.reduceBEq, Int.reduceBNe, Int.reduceLT, Int.reduceLE, Int.reduceEq, reduceIte, reduceCtorEq, da, int, boolA, dr, h0, h5, h6, h7, g1, g2, atR gi, cR gi, runC, km, w1]
        rw [← hx_nil (hx K _)]
        refine ih 1 _ _ (by omega) hc (fun j hj e => by obtain rfl : j = 0 := by omega
                                                        exact c1) ?_ ?_ ?_ ?_ <;> simp only [↓vp, vz, Nat.reduceLT, Nat.reduceEqDiff, Nat.reduceLeDiff, Nat.reduceAdd, Nat.reduceSub, Nat.reduceMul, Int.reduceBEq, Int.reduceBNe, Int.reduceLT, Int.reduceLE, Int.reduceEq, reduceIte, reduceCtorEq, da, int, boolA, h0, h5, h6]
      | succ j =>
        have hj : j < l.length := by omega
        have mj := hm j hj rfl
        have ke := fun K L Q => @k97 l[j] (may_end mj) K L Q
        have kp := p97 l[j]
        simp only [runC, int] at ke kp
        have w2 : IntKind.i64.wrap (((j + 1 : Nat) : Int) - 1) = (j : Int) := by rw [wrap_i64 (by omega)]; omega
        have g2 : (((j + 1 : Nat) : Int) > 0) = True := eq_true (by omega)
        rw [prevE_s hj] at hc
        by_cases c2 : endM l[j] < l[j + 1].1
        · have d2 : (l[j + 1].1 ≤ endM l[j]) = False := eq_false (by omega)
          simp only [↓vp, vz, Nat.reduceLT, Nat.reduceEqDiff, Nat.reduceLeDiff, Nat.reduceAdd, Nat.reduceSub, Nat.reduceMul, Int.reduceBEq, Int.reduceBNe, Int.reduceLT, Int.reduceLE, Int.reduceEq, reduceIte, reduceCtorEq, da, int, boolA, dr, h0, h5, h6, h7, g1, g2, w2, atR gi, cR gi, atR hj, cR hj, runC, km, ke, kp, d2, w1]
          rw [← hx_nil (hx K _)]
          refine ih (j + 2) _ _ (by omega) (by rw [hc, decide_eq_true c2, Bool.true_and]) (fun k hk e => by obtain rfl : k = j + 1 := by omega
                                                                                                            exact c1) ?_ ?_ ?_ ?_ <;> simp only [↓vp, vz, Nat.reduceLT, Nat.reduceEqDiff, Nat.reduceLeDiff, Nat.reduceAdd, Nat.reduceSub, Nat.reduceMul, Int.reduceBEq, Int.reduceBNe, Int.reduceLT, Int.reduceLE, Int.reduceEq, reduceIte, reduceCtorEq, da, int, boolA, h0, h5, h6]
        · have d2 : (l[j + 1].1 ≤ endM l[j]) = True := eq_true (by omega)
          rw [decide_eq_false c2, Bool.false_and] at hc
          simp only [↓vp, vz, Nat.reduceLT, Nat.reduceEqDiff, Nat.reduceLeDiff, Nat.reduceAdd, Nat.reduceSub, Nat.reduceMul, Int.reduceBEq, Int.reduceBNe, Int.reduceLT, Int.reduceLE, Int.reduceEq, reduceIte, reduceCtorEq, da, int, boolA, dr, h0, h5, h6, h7, g1, g2, w2, atR gi, cR gi, atR hj, cR hj, runC, km, ke, kp, d2]
          rw [← hx_nil (hx K _)]
          refine hret _ _ hc ?_
          simp only [↓vp, vz, Nat.reduceLT, Nat.reduceEqDiff, Nat.reduceLeDiff, Nat.reduceAdd, Nat.reduceSub, Nat.reduceMul, Int.reduceBEq, Int.reduceBNe, Int.reduceLT, Int.reduceLE, Int.reduceEq, reduceIte, reduceCtorEq, da, int, boolA]
theorem s98 (l : List RunM) (hl : l.length ≤ 2000000) (H : Heap) : callL ft (.fn (.func 98) [] []) [encR l] H = some (boolA (rightM l),H):=by
 refine call_p (as':=[encR l]) rfl rfl (by simp) ?_
 unfold c98 r98
 simp only [↓vp,vz,Nat.reduceLT,Nat.reduceEqDiff,Nat.reduceLeDiff,Nat.reduceAdd,Nat.reduceSub,Nat.reduceMul,Int.reduceBEq,Int.reduceBNe,Int.reduceLT,Int.reduceLE,Int.reduceEq,reduceIte,reduceCtorEq,da,int,boolA,dr]
 rw [← hx_nil (Heap.empty)]
 refine l98 l hl (fun f' K hm => ?_) (fun f' K hm q2 => ?_) l.length 0 _ _ (by simp) (by rw [prevE_0]; rfl) (by intro j hj h; omega) ?_ ?_ ?_ ?_
 ·unfold c98R1
  simp only [↓vp,vz,Nat.reduceLT,Nat.reduceEqDiff,Nat.reduceLeDiff,Nat.reduceAdd,Nat.reduceSub,Nat.reduceMul,Int.reduceBEq,Int.reduceBNe,Int.reduceLT,Int.reduceLE,Int.reduceEq,reduceIte,reduceCtorEq,da,int,boolA,rt,hm]
 ·simp only [↓vp,vz,Nat.reduceLT,Nat.reduceEqDiff,Nat.reduceLeDiff,Nat.reduceAdd,Nat.reduceSub,Nat.reduceMul,Int.reduceBEq,Int.reduceBNe,Int.reduceLT,Int.reduceLE,Int.reduceEq,reduceIte,reduceCtorEq,da,int,boolA,rt,hm,q2]
 all_goals first | rfl | (simp only [↓vp,vz,Nat.reduceLT,Nat.reduceEqDiff,Nat.reduceLeDiff,Nat.reduceAdd,Nat.reduceSub,Nat.reduceMul,Int.reduceBEq,Int.reduceBNe,Int.reduceLT,Int.reduceLE,Int.reduceEq,reduceIte,reduceCtorEq,da,int,boolA]; done)
theorem k98 {l : List RunM} (hl : l.length ≤ 2000000) {K : Heap} {L : List Blk} {Q : AV → Heap → Prop} : KW ft (.fn (.func 98) [] []) [encR l] (hx K L) Q ↔ Q (boolA (rightM l)) (hx K L):=KW_of (s98 l hl _)
theorem l94 (l : List RunM) (hl : l.length ≤ 2000000) {Q : AExit → Env → Heap → Prop}
   (hex : ∀ f' K, rightM l = true → Q (.exit 0) (mkE 42 f') (hx K []))
   (hret : ∀ f' K, rightM l = false → f' 2 = boolA false → Q .ret (mkE 42 f') (hx K [])) :
   ∀ (d i : Nat) (K : Heap) (f : Nat → AV), i + d = l.length → rightM l = rgtL (prevE l i) (l.drop i) → (∀ j (hj : j < l.length), i = j + 1 → mayM l[j] = true) → f 0 = encR l → f 3 = int i →
    AW ft (.loop c94L0) (mkE 42 f) (hx K []) Q := by
  intro d
  induction d with
  | zero =>
    intro i K f hd hc hm h0 h3
    have g1 : ((i : Int) < l.length) = False := by simp; omega
    rw [AW_loop]
    unfold c94L0
    rw [List.drop_eq_nil_of_le (by omega)] at hc
    simp only [↓vp, vz, Nat.reduceLT, Nat.reduceEqDiff, Nat.reduceLeDiff, Nat.reduceAdd, Nat.reduceSub, Nat.reduceMul, Int.reduceBEq, Int.reduceBNe, Int.reduceLT, Int.reduceLE, Int.reduceEq, reduceIte, reduceCtorEq, da, int, boolA, dr, h0, h3, g1]
    exact hex _ K (by rw [hc]; rfl)
  | succ d ih =>
    intro i K f hd hc hm h0 h3
    have g1 : ((i : Int) < l.length) = True := by simp; omega
    have gi : i < l.length := by omega
    have w1 := wrap_succ (show i < 9223372036854775807 by omega)
    rw [rgt_step gi] at hc
    have km := fun K L Q => @k44 l[i] K L Q
    simp only [runC, int] at km
    rw [AW_loop]
    unfold c94L0
    cases c1 : mayM l[i] with
    | false =>
      rw [c1, Bool.false_and] at hc
      rw [c1] at km
      simp only [↓vp, vz, Nat.reduceLT, Nat.reduceEqDiff, Nat.reduceLeDiff, Nat.reduceAdd, Nat.reduceSub, Nat.reduceMul, Int.reduceBEq, Int.reduceBNe, Int.reduceLT, Int.reduceLE, Int.reduceEq, reduceIte, reduceCtorEq, da, int, boolA, dr, h0, h3, g1, atR gi, cR gi, runC, km]
      refine hret _ _ hc ?_
      simp only [↓vp, vz, Nat.reduceLT, Nat.reduceEqDiff, Nat.reduceLeDiff, Nat.reduceAdd, Nat.reduceSub, Nat.reduceMul, Int.reduceBEq, Int.reduceBNe, Int.reduceLT, Int.reduceLE, Int.reduceEq, reduceIte, reduceCtorEq, da, int, boolA]
    | true =>
      rw [c1, Bool.true_and] at hc
      rw [c1] at km
      cases i with
      | zero =>
        have hb := (mayM_iff.1 c1).1
        rw [prevE_0, decide_eq_true (by omega), Bool.true_and] at hc
        have g2 : (((0 : Nat) : Int) > 0) = False := eq_false (by omega)
        simp only [↓vp, vz, Nat.reduceLT, Nat.reduceEqDiff, Nat.reduceLeDiff, Nat.reduceAdd, Nat.reduceSub, Nat.reduceMul, Int.reduceBEq, Int.reduceBNe, Int.reduceLT, Int.reduceLE, Int.reduceEq, reduceIte, reduceCtorEq, da, int, boolA, dr, h0, h3, g1, g2, atR gi, cR gi, runC, km, w1]
        refine ih 1 _ _ (by omega) hc (fun j hj e => by obtain rfl : j = 0 := by omega
                                                        exact c1) ?_ ?_ <;> simp only [↓vp, vz, Nat.reduceLT, Nat.reduceEqDiff, Nat.reduceLeDiff, Nat.reduceAdd, Nat.reduceSub, Nat.reduceMul, Int.reduceBEq, Int.reduceBNe, Int.reduceLT, Int.reduceLE, Int.reduceEq, reduceIte, reduceCtorEq, da, int, boolA, h0]
      | succ j =>
        have hj : j < l.length := by omega
        have mj := hm j hj rfl
        have mj' := mayM_iff.1 mj
        have g2 : (((j + 1 : Nat) : Int) > 0) = True := eq_true (by omega)
        have w2 : IntKind.i64.wrap (((j + 1 : Nat) : Int) - 1) = (j : Int) := by rw [wrap_i64 (by omega)]; omega
        have w3 : IntKind.i64.wrap (l[j].1 + l[j].2) = endM l[j] := wrap_i64 (by omega)
        have w4 : IntKind.i64.wrap (endM l[j] + 1) = endM l[j] + 1 := wrap_i64 (by unfold endM; omega)
        rw [prevE_s hj] at hc
        by_cases c2 : endM l[j] < l[j + 1].1
        · have d2 : (l[j + 1].1 < endM l[j] + 1) = False := eq_false (by omega)
          simp only [↓vp, vz, Nat.reduceLT, Nat.reduceEqDiff, Nat.reduceLeDiff, Nat.reduceAdd, Nat.reduceSub, Nat.reduceMul, Int.reduceBEq, Int.reduceBNe, Int.reduceLT, Int.reduceLE, Int.reduceEq, reduceIte, reduceCtorEq, da, int, boolA, dr, h0, h3, g1, g2, w2, w3, w4, atR gi, cR gi, atR hj, cR hj, runC, km, d2, w1]
          refine ih (j + 2) _ _ (by omega) (by rw [hc, decide_eq_true c2, Bool.true_and]) (fun k hk e => by obtain rfl : k = j + 1 := by omega
                                                                                                            exact c1) ?_ ?_ <;> simp only [↓vp, vz, Nat.reduceLT, Nat.reduceEqDiff, Nat.reduceLeDiff, Nat.reduceAdd, Nat.reduceSub, Nat.reduceMul, Int.reduceBEq, Int.reduceBNe, Int.reduceLT, Int.reduceLE, Int.reduceEq, reduceIte, reduceCtorEq, da, int, boolA, h0]
        · have d2 : (l[j + 1].1 < endM l[j] + 1) = True := eq_true (by omega)
          rw [decide_eq_false c2, Bool.false_and] at hc
          simp only [↓vp, vz, Nat.reduceLT, Nat.reduceEqDiff, Nat.reduceLeDiff, Nat.reduceAdd, Nat.reduceSub, Nat.reduceMul, Int.reduceBEq, Int.reduceBNe, Int.reduceLT, Int.reduceLE, Int.reduceEq, reduceIte, reduceCtorEq, da, int, boolA, dr, h0, h3, g1, g2, w2, w3, w4, atR gi, cR gi, atR hj, cR hj, runC, km, d2]
          refine hret _ _ hc ?_
          simp only [↓vp, vz, Nat.reduceLT, Nat.reduceEqDiff, Nat.reduceLeDiff, Nat.reduceAdd, Nat.reduceSub, Nat.reduceMul, Int.reduceBEq, Int.reduceBNe, Int.reduceLT, Int.reduceLE, Int.reduceEq, reduceIte, reduceCtorEq, da, int, boolA]
theorem s94 (l : List RunM) (hl : l.length ≤ 2000000) (H : Heap) : callL ft (.fn (.func 94) [] []) [encR l] H = some (boolA (rightM l),H):=by
 refine call_p (as':=[encR l]) rfl rfl (by simp) ?_
 unfold c94 r94
 simp only [↓vp,vz,Nat.reduceLT,Nat.reduceEqDiff,Nat.reduceLeDiff,Nat.reduceAdd,Nat.reduceSub,Nat.reduceMul,Int.reduceBEq,Int.reduceBNe,Int.reduceLT,Int.reduceLE,Int.reduceEq,reduceIte,reduceCtorEq,da,int,boolA,dr]
 rw [← hx_nil (Heap.empty)]
 refine l94 l hl (fun f' K hm => ?_) (fun f' K hm q2 => ?_) l.length 0 _ _ (by simp) (by rw [prevE_0]; rfl) (by intro j hj h; omega) ?_ ?_
 ·unfold c94R1
  simp only [↓vp,vz,Nat.reduceLT,Nat.reduceEqDiff,Nat.reduceLeDiff,Nat.reduceAdd,Nat.reduceSub,Nat.reduceMul,Int.reduceBEq,Int.reduceBNe,Int.reduceLT,Int.reduceLE,Int.reduceEq,reduceIte,reduceCtorEq,da,int,boolA,rt,hm]
 ·simp only [↓vp,vz,Nat.reduceLT,Nat.reduceEqDiff,Nat.reduceLeDiff,Nat.reduceAdd,Nat.reduceSub,Nat.reduceMul,Int.reduceBEq,Int.reduceBNe,Int.reduceLT,Int.reduceLE,Int.reduceEq,reduceIte,reduceCtorEq,da,int,boolA,rt,hm,q2]
 all_goals first | rfl | (simp only [↓vp,vz,Nat.reduceLT,Nat.reduceEqDiff,Nat.reduceLeDiff,Nat.reduceAdd,Nat.reduceSub,Nat.reduceMul,Int.reduceBEq,Int.reduceBNe,Int.reduceLT,Int.reduceLE,Int.reduceEq,reduceIte,reduceCtorEq,da,int,boolA]; done)
def cleanM (l : List RunM) : List RunM:=if rightM l then l else []
theorem cleanM_len (l : List RunM) : (cleanM l).length ≤ l.length:=by unfold cleanM; split <;> simp
theorem s55 (l : List RunM) (hl : l.length ≤ 2000000) (H : Heap) : callL ft (.fn (.func 55) [] []) [encR l] H = some (encR (cleanM l),H):=by
 refine call_p (as':=[encR l]) rfl rfl (by simp) ?_
 unfold c55 r55 cleanM
 have kr:=fun K L Q => @k98 l hl K L Q
 cases e : rightM l with
 | true =>
  rw [e] at kr
  simp only [↓vp,vz,Nat.reduceLT,Nat.reduceEqDiff,Nat.reduceLeDiff,Nat.reduceAdd,Nat.reduceSub,Nat.reduceMul,Int.reduceBEq,Int.reduceBNe,Int.reduceLT,Int.reduceLE,Int.reduceEq,reduceIte,reduceCtorEq,da,int,boolA,rt,dr,kr]
 | false =>
  rw [e] at kr
  simp only [↓vp,vz,Nat.reduceLT,Nat.reduceEqDiff,Nat.reduceLeDiff,Nat.reduceAdd,Nat.reduceSub,Nat.reduceMul,Int.reduceBEq,Int.reduceBNe,Int.reduceLT,Int.reduceLE,Int.reduceEq,reduceIte,reduceCtorEq,da,int,boolA,rt,dr,kr]
  rfl
theorem k55 {l : List RunM} (hl : l.length ≤ 2000000) {K : Heap} {L : List Blk} {Q : AV → Heap → Prop} : KW ft (.fn (.func 55) [] []) [encR l] (hx K L) Q ↔ Q (encR (cleanM l)) (hx K L):=KW_of (s55 l hl _)
end Go.VI
namespace Go.VI
attribute [local congr] AW_congr OW_congr DW_congr NW_congr VW_congr GW_congr PW_congr KW_congr ite_congr' GV_congr CV_congr
def sumM (l : List RunM) : Int:=(l.map (·.2)).sum
theorem sumM_cons (x : RunM) (l : List RunM) : sumM (x :: l) = x.2 + sumM l:=rfl
theorem sumM_take {l : List RunM} {i : Nat} (h : i < l.length) : sumM (l.take (i + 1)) = sumM (l.take i) + l[i].2:=by
 unfold sumM
 rw [List.take_succ_eq_append_getElem h,List.map_append,List.sum_append]
 simp
theorem sumM_bd {l : List RunM} (h : ∀ x ∈ l,mayM x = true) : 0 ≤ sumM l ∧ sumM l ≤ 32768 * l.length:=by
 induction l with
 | nil => exact ⟨Int.le_refl _,Int.le_refl _⟩
 | cons x l ih =>
  have h1:=mayM_iff.1 (h x (by simp))
  have h2:=ih fun y hy => h y (by simp [hy])
  rw [sumM_cons,List.length_cons]
  omega
theorem rgt_may : ∀ {l : List RunM} {e : Int},rgtL e l = true → ∀ x ∈ l,mayM x = true
 | [],_,_,x,hx => by cases hx
 | y :: l,e,h,x,hx => by
  simp only [rgtL,Bool.and_eq_true] at h
  rcases List.mem_cons.1 hx with rfl | hx
  ·exact h.1
  ·exact rgt_may h.2.2 x hx
theorem clean_may (l : List RunM) : ∀ x ∈ cleanM l,mayM x = true:=by
 intro x hx
 unfold cleanM at hx
 split at hx
 ·rename_i h
  exact rgt_may h x hx
 ·cases hx
theorem l45 (l : List RunM) (hl : l.length ≤ 2000000) (hm : ∀ x ∈ l, mayM x = true) {Q : AExit → Env → Heap → Prop}
   (hex : ∀ f' K, f' 3 = int (sumM l) → Q (.exit 0) (mkE 19 f') (hx K [])) :
   ∀ (d i : Nat) (K : Heap) (f : Nat → AV), i + d = l.length → f 3 = int (sumM (l.take i)) → f 7 = encR l → f 8 = int l.length → f 9 = int i →
    AW ft (.loop c45L0) (mkE 19 f) (hx K []) Q := by
  intro d
  induction d with
  | zero =>
    intro i K f hd h3 h7 h8 h9
    have g1 : ((i : Int) < l.length) = False := by simp; omega
    rw [AW_loop]
    unfold c45L0
    rw [List.take_of_length_le (by omega)] at h3
    simp only [↓vp, vz, Nat.reduceLT, Nat.reduceEqDiff, Nat.reduceLeDiff, Nat.reduceAdd, Nat.reduceSub, Nat.reduceMul, Int.reduceBEq, Int.reduceBNe, Int.reduceLT, Int.reduceLE, Int.reduceEq, reduceIte, reduceCtorEq, da, int, boolA, h8, h9, g1]
    refine hex _ K ?_
    simp only [↓vp, vz, Nat.reduceLT, Nat.reduceEqDiff, Nat.reduceLeDiff, Nat.reduceAdd, Nat.reduceSub, Nat.reduceMul, Int.reduceBEq, Int.reduceBNe, Int.reduceLT, Int.reduceLE, Int.reduceEq, reduceIte, reduceCtorEq, da, int, boolA, h3]
  | succ d ih =>
    intro i K f hd h3 h7 h8 h9
    have g1 : ((i : Int) < l.length) = True := by simp; omega
    have gi : i < l.length := by omega
    have w1 := wrap_succ (show i < 9223372036854775807 by omega)
    have b1 := sumM_bd (l := l.take (i + 1)) fun x hx => hm x (List.mem_of_mem_take hx)
    have b2 : (l.take (i + 1)).length ≤ 2000000 := by simp; omega
    have w2 : IntKind.i64.wrap (sumM (l.take i) + l[i].2) = sumM (l.take (i + 1)) := by
      rw [← sumM_take gi]
      exact wrap_i64 (by omega)
    rw [AW_loop]
    unfold c45L0
    simp only [↓vp, vz, Nat.reduceLT, Nat.reduceEqDiff, Nat.reduceLeDiff, Nat.reduceAdd, Nat.reduceSub, Nat.reduceMul, Int.reduceBEq, Int.reduceBNe, Int.reduceLT, Int.reduceLE, Int.reduceEq, reduceIte, reduceCtorEq, da, int, boolA, dr, h3, h7, h8, h9, g1, atR gi, cR gi, runC, w1, w2]
    rw [← hx_nil (hx K _)]
    refine ih (i + 1) _ _ (by omega) ?_ ?_ ?_ ?_ <;> simp only [↓vp, vz, Nat.reduceLT, Nat.reduceEqDiff, Nat.reduceLeDiff, Nat.reduceAdd, Nat.reduceSub, Nat.reduceMul, Int.reduceBEq, Int.reduceBNe, Int.reduceLT, Int.reduceLE, Int.reduceEq, reduceIte, reduceCtorEq, da, int, boolA, h7, h8]
def countM (l : List RunM) : Int:=sumM (cleanM l)
theorem s45 (l : List RunM) (hl : l.length ≤ 2000000) (H : Heap) : callL ft (.fn (.func 45) [] []) [encR l] H = some (int (countM l),H):=by
 refine call_p (as':=[encR l]) rfl rfl (by simp) ?_
 unfold c45 r45
 have kc:=fun K L Q => @k55 l hl K L Q
 have hl2:=cleanM_len l
 simp only [↓vp,vz,Nat.reduceLT,Nat.reduceEqDiff,Nat.reduceLeDiff,Nat.reduceAdd,Nat.reduceSub,Nat.reduceMul,Int.reduceBEq,Int.reduceBNe,Int.reduceLT,Int.reduceLE,Int.reduceEq,reduceIte,reduceCtorEq,da,int,boolA,dr,kc]
 rw [← hx_nil (Heap.empty)]
 refine l45 (cleanM l) (by omega) (clean_may l) (fun f' K q3 => ?_) (cleanM l).length 0 _ _ (by simp) ?_ ?_ ?_ ?_
 ·unfold c45R1
  simp only [↓vp,vz,Nat.reduceLT,Nat.reduceEqDiff,Nat.reduceLeDiff,Nat.reduceAdd,Nat.reduceSub,Nat.reduceMul,Int.reduceBEq,Int.reduceBNe,Int.reduceLT,Int.reduceLE,Int.reduceEq,reduceIte,reduceCtorEq,da,int,boolA,rt,q3]
  rfl
 all_goals first | rfl | (simp only [↓vp,vz,Nat.reduceLT,Nat.reduceEqDiff,Nat.reduceLeDiff,Nat.reduceAdd,Nat.reduceSub,Nat.reduceMul,Int.reduceBEq,Int.reduceBNe,Int.reduceLT,Int.reduceLE,Int.reduceEq,reduceIte,reduceCtorEq,da,int,boolA]; done)
def lastM (l : List RunM) : RunM:=l.getLast?.getD (0,0)
theorem s125 (l : List RunM) (hl : l.length ≤ 2000000) (H : Heap) : callL ft (.fn (.func 125) [] []) [encR l] H = some (.tup [.agg (runC (lastM l)),boolA (!l.isEmpty)],H):=by
 refine call_p (as':=[encR l]) rfl rfl (by simp) ?_
 unfold c125 r125
 by_cases h0 : l = []
 ·subst h0
  have g1 : (((([] : List RunM).length : Nat) : Int) = 0) = True:=eq_true rfl
  simp only [↓vp,vz,Nat.reduceLT,Nat.reduceEqDiff,Nat.reduceLeDiff,Nat.reduceAdd,Nat.reduceSub,Nat.reduceMul,Int.reduceBEq,Int.reduceBNe,Int.reduceLT,Int.reduceLE,Int.reduceEq,reduceIte,reduceCtorEq,da,int,boolA,rt,dr,g1]
  rfl
 ·have hp : 0 < l.length:=List.length_pos_iff.2 h0
  have g1 : ((l.length : Int) == 0) = false:=by simp; omega
  have gi : l.length - 1 < l.length:=by omega
  have w2 : IntKind.i64.wrap ((l.length : Int) - 1) = ((l.length - 1 : Nat) : Int):=by rw [wrap_i64 (by omega)]; omega
  have e : lastM l = l[l.length - 1]:=by
   unfold lastM
   rw [List.getLast?_eq_getElem?,List.getElem?_eq_getElem gi]
   rfl
  have e2 : l.isEmpty = false:=by simpa using h0
  rw [e,e2]
  simp only [↓vp,vz,Nat.reduceLT,Nat.reduceEqDiff,Nat.reduceLeDiff,Nat.reduceAdd,Nat.reduceSub,Nat.reduceMul,Int.reduceBEq,Int.reduceBNe,Int.reduceLT,Int.reduceLE,Int.reduceEq,reduceIte,reduceCtorEq,da,int,boolA,rt,dr,g1,w2,atR gi,cR gi,runC]
  try rfl
theorem k125 {l : List RunM} (hl : l.length ≤ 2000000) {K : Heap} {L : List Blk} {Q : AV → Heap → Prop} : KW ft (.fn (.func 125) [] []) [encR l] (hx K L) Q ↔ Q (.tup [.agg (runC (lastM l)),boolA (!l.isEmpty)]) (hx K L):=KW_of (s125 l hl _)
def endsM (l : List RunM) : Int:=if (cleanM l).isEmpty then 0 else endM (lastM (cleanM l))
theorem s101 (l : List RunM) (hl : l.length ≤ 2000000) (H : Heap) : callL ft (.fn (.func 101) [] []) [encR l] H = some (int (endsM l),H):=by
 refine call_p (as':=[encR l]) rfl rfl (by simp) ?_
 unfold c101 r101 endsM
 have kc:=fun K L Q => @k55 l hl K L Q
 have hl2:=cleanM_len l
 have kl:=fun K L Q => @k125 (cleanM l) (by omega) K L Q
 simp only [runC,int] at kl
 cases e : (cleanM l).isEmpty with
 | true =>
  rw [e] at kl
  simp only [↓vp,vz,Nat.reduceLT,Nat.reduceEqDiff,Nat.reduceLeDiff,Nat.reduceAdd,Nat.reduceSub,Nat.reduceMul,Int.reduceBEq,Int.reduceBNe,Int.reduceLT,Int.reduceLE,Int.reduceEq,reduceIte,reduceCtorEq,da,int,boolA,rt,dr,kc,kl]
 | false =>
  rw [e] at kl
  have hm : mayM (lastM (cleanM l)) = true:=by
   refine clean_may l _ ?_
   unfold lastM
   rw [List.getLast?_eq_some_getLast (by simpa using e)]
   exact List.getLast_mem _
  have ke:=fun K L Q => @k97 (lastM (cleanM l)) (may_end hm) K L Q
  simp only [runC,int] at ke
  simp only [↓vp,vz,Nat.reduceLT,Nat.reduceEqDiff,Nat.reduceLeDiff,Nat.reduceAdd,Nat.reduceSub,Nat.reduceMul,Int.reduceBEq,Int.reduceBNe,Int.reduceLT,Int.reduceLE,Int.reduceEq,reduceIte,reduceCtorEq,da,int,boolA,rt,dr,kc,kl,ke]
def sameM (a b : List RunM) : Bool:=decide (a = b)
end Go.VI
namespace Go.VI
attribute [local congr] AW_congr OW_congr DW_congr NW_congr VW_congr GW_congr PW_congr KW_congr ite_congr' GV_congr CV_congr
def idxM (p : RunM → Bool) : Nat → List RunM → Int
 | _,[] => -1
 | i,x :: r => if p x then (i : Int) else idxM p (i + 1) r
theorem idxM_neg (p : RunM → Bool) : ∀ (l : List RunM) (i : Nat),(decide (0 ≤ idxM p i l) = l.any p) ∧ (-1 ≤ idxM p i l ∧ idxM p i l < i + l.length ∨ idxM p i l = -1)
 | [],i => ⟨by simp [idxM],.inr rfl⟩
 | x :: r,i => by
  unfold idxM
  cases e : p x with
  | true => simp [e]; omega
  | false =>
   have h:=idxM_neg p r (i + 1)
   simp [e] at h ⊢
   refine ⟨h.1,?_⟩
   omega
section
variable {T : FT} (h116 : T 95 = some (.go true 19 r95 c95))
theorem l95 (G : AV) (p : RunM → Bool) (l : List RunM) (hl : l.length ≤ 2000000) (hG : ∀ x ∈ l, ∀ {K : Heap} {L : List Blk} {Q : AV → Heap → Prop}, KW T G [.agg (runC x)] (hx K L) Q ↔ Q (boolA (p x)) (hx K L)) {Q : AExit → Env → Heap → Prop}
   (hex : ∀ f', idxM p 0 l = -1 → Q (.exit 0) (mkE 19 f') (hx Heap.empty [])) (hret : ∀ f', f' 4 = int (idxM p 0 l) → Q .ret (mkE 19 f') (hx Heap.empty [])) :
   ∀ (d i : Nat) (f : Nat → AV), i + d = l.length → idxM p 0 l = idxM p i (l.drop i) → f 0 = encR l → f 1 = G → f 7 = int l.length → f 8 = int i →
    AW T (.loop c95L0) (mkE 19 f) (hx Heap.empty []) Q := by
  intro d
  induction d with
  | zero =>
    intro i f hd hc h0 h1 h7 h8
    have g1 : ((i : Int) < l.length) = False := by simp; omega
    rw [AW_loop]
    unfold c95L0
    rw [List.drop_eq_nil_of_le (by omega)] at hc
    simp only [↓vp, vz, Nat.reduceLT, Nat.reduceEqDiff, Nat.reduceLeDiff, Nat.reduceAdd, Nat.reduceSub, Nat.reduceMul, Int.reduceBEq, Int.reduceBNe, Int.reduceLT, Int.reduceLE, Int.reduceEq, reduceIte, reduceCtorEq, da, int, boolA, h7, h8, g1]
    exact hex _ (by rw [hc]; rfl)
  | succ d ih =>
    intro i f hd hc h0 h1 h7 h8
    have g1 : ((i : Int) < l.length) = True := by simp; omega
    have gi : i < l.length := by omega
    have w1 := wrap_succ (show i < 9223372036854775807 by omega)
    have kk := fun K L Q => @hG l[i] (List.getElem_mem gi) K L Q
    simp only [runC, int] at kk
    rw [AW_loop]
    unfold c95L0
    rw [List.drop_eq_getElem_cons gi, idxM] at hc
    cases e : p l[i] with
    | true =>
      rw [e, if_pos rfl] at hc
      simp only [↓vp, vz, Nat.reduceLT, Nat.reduceEqDiff, Nat.reduceLeDiff, Nat.reduceAdd, Nat.reduceSub, Nat.reduceMul, Int.reduceBEq, Int.reduceBNe, Int.reduceLT, Int.reduceLE, Int.reduceEq, reduceIte, reduceCtorEq, da, int, boolA, dr, h0, h1, h7, h8, g1, atR gi, cR gi, runC, kk, e, w1]
      refine hret _ ?_
      simp only [↓vp, vz, Nat.reduceLT, Nat.reduceEqDiff, Nat.reduceLeDiff, Nat.reduceAdd, Nat.reduceSub, Nat.reduceMul, Int.reduceBEq, Int.reduceBNe, Int.reduceLT, Int.reduceLE, Int.reduceEq, reduceIte, reduceCtorEq, da, int, boolA, hc]
    | false =>
      rw [e, if_neg (by simp)] at hc
      simp only [↓vp, vz, Nat.reduceLT, Nat.reduceEqDiff, Nat.reduceLeDiff, Nat.reduceAdd, Nat.reduceSub, Nat.reduceMul, Int.reduceBEq, Int.reduceBNe, Int.reduceLT, Int.reduceLE, Int.reduceEq, reduceIte, reduceCtorEq, da, int, boolA, dr, h0, h1, h7, h8, g1, atR gi, cR gi, runC, kk, e, w1]
      refine ih (i + 1) _ (by omega) hc ?_ ?_ ?_ ?_ <;> simp only [↓vp, vz, Nat.reduceLT, Nat.reduceEqDiff, Nat.reduceLeDiff, Nat.reduceAdd, Nat.reduceSub, Nat.reduceMul, Int.reduceBEq, Int.reduceBNe, Int.reduceLT, Int.reduceLE, Int.reduceEq, reduceIte, reduceCtorEq, da, int, boolA, h0, h1, h7]
include h116 in
theorem s95 (G : AV) (p : RunM → Bool) (l : List RunM) (hl : l.length ≤ 2000000) (hG : ∀ x ∈ l, ∀ {K : Heap} {L : List Blk} {Q : AV → Heap → Prop}, KW T G [.agg (runC x)] (hx K L) Q ↔ Q (boolA (p x)) (hx K L))
   {args : List AV} {H H1 : Heap} (hz : frzCells H args = some ([encR l, G], H1)) : callL T (.fn (.func 95) [] []) args H = some (int (idxM p 0 l), H1) := by
  refine call_p (as' := [encR l, G]) h116 (by simpa using hz) (by simp) ?_
  unfold c95 r95
  simp only [↓vp, vz, Nat.reduceLT, Nat.reduceEqDiff, Nat.reduceLeDiff, Nat.reduceAdd, Nat.reduceSub, Nat.reduceMul, Int.reduceBEq, Int.reduceBNe, Int.reduceLT, Int.reduceLE, Int.reduceEq, reduceIte, reduceCtorEq, da, int, boolA, dr]
  refine l95 G p l hl hG (fun f' hm => ?_) (fun f' h4 => ?_) l.length 0 _ (by simp) rfl ?_ ?_ ?_ ?_
  · unfold c95R1
    simp only [↓vp, vz, Nat.reduceLT, Nat.reduceEqDiff, Nat.reduceLeDiff, Nat.reduceAdd, Nat.reduceSub, Nat.reduceMul, Int.reduceBEq, Int.reduceBNe, Int.reduceLT, Int.reduceLE, Int.reduceEq, reduceIte, reduceCtorEq, da, int, boolA, rt, hm]
  · simp only [↓vp, vz, Nat.reduceLT, Nat.reduceEqDiff, Nat.reduceLeDiff, Nat.reduceAdd, Nat.reduceSub, Nat.reduceMul, Int.reduceBEq, Int.reduceBNe, Int.reduceLT, Int.reduceLE, Int.reduceEq, reduceIte, reduceCtorEq, da, int, boolA, rt, h4]
  all_goals first | rfl | (simp only [↓vp, vz, Nat.reduceLT, Nat.reduceEqDiff, Nat.reduceLeDiff, Nat.reduceAdd, Nat.reduceSub, Nat.reduceMul, Int.reduceBEq, Int.reduceBNe, Int.reduceLT, Int.reduceLE, Int.reduceEq, reduceIte, reduceCtorEq, da, int, boolA]; done)
include h116 in
theorem s102 (h114 : T 102 = some (.go true 9 r102 c102)) (l : List RunM) (hl : l.length ≤ 2000000) (G : AV) (hfz : ∀ H, frzCells H [encR l, G] = some ([encR l, G], H)) (p : RunM → Bool) (hG : ∀ x ∈ l, ∀ {K : Heap} {L : List Blk} {Q : AV → Heap → Prop}, KW T G [.agg (runC x)] (hx K L) Q ↔ Q (boolA (p x)) (hx K L))
   {args : List AV} {H H1 : Heap} (hz : frzCells H args = some ([encR l, G], H1)) : callL T (.fn (.func 102) [] []) args H = some (boolA (l.any p), H1) := by
  refine call_p (as' := [encR l, G]) h114 (by simpa using hz) (by simp) ?_
  unfold c102 r102
  have kk := fun H Q => @KW_of T _ _ _ Q _ _ (s95 h116 G p l hl hG (hfz H))
  simp only [int] at kk
  have e := (idxM_neg p l 0).1
  rw [← e]
  simp only [↓vp, vz, Nat.reduceLT, Nat.reduceEqDiff, Nat.reduceLeDiff, Nat.reduceAdd, Nat.reduceSub, Nat.reduceMul, Int.reduceBEq, Int.reduceBNe, Int.reduceLT, Int.reduceLE, Int.reduceEq, reduceIte, reduceCtorEq, da, int, boolA, rt, kk]
end
def endW (x : RunM) : Int:=IntKind.i64.wrap (x.1 + x.2)
theorem endW_may {x : RunM} (h : mayM x = true) : endW x = endM x:=by
 unfold endW
 exact wrap_i64 (by have:=mayM_iff.1 h; omega)
theorem s97w (x : RunM) (H : Heap) : callL ft (.fn (.func 97) [] []) [.agg (runC x)] H = some (int (endW x),H):=by
 refine call_p (as':=[.agg (runC x)]) rfl rfl (by simp) ?_
 unfold c97 r97 endW
 simp only [↓vp,vz,Nat.reduceLT,Nat.reduceEqDiff,Nat.reduceLeDiff,Nat.reduceAdd,Nat.reduceSub,Nat.reduceMul,Int.reduceBEq,Int.reduceBNe,Int.reduceLT,Int.reduceLE,Int.reduceEq,reduceIte,reduceCtorEq,da,int,boolA,rt,dr,runC]
theorem k97w {x : RunM} {K : Heap} {L : List Blk} {Q : AV → Heap → Prop} : KW ft (.fn (.func 97) [] []) [.agg (runC x)] (hx K L) Q ↔ Q (int (endW x)) (hx K L):=KW_of (s97w x _)
def overF (x : RunM) : AV:=.fn (.func 96) [] [.pim [runC x] 0 0]
def overB (x y : RunM) : Bool:=decide (y.1 < endW x) && decide (x.1 < endW y)
theorem s96 (x y : RunM) (H : Heap) : callL ft (overF x) [.agg (runC y)] H = some (boolA (overB x y),H):=by
 refine call_p (as':=[.agg (runC y),.pim [runC x] 0 0]) rfl rfl (by simp) ?_
 unfold c96 r96 overB
 have kx:=fun K L Q => @k97w x K L Q
 have ky:=fun K L Q => @k97w y K L Q
 have px:=p97 x
 have py:=p97 y
 simp only [runC,int] at kx ky px py
 have cp : ∀ H,cellsAt H (.pim [[.sc (.int .i64 x.1),.sc (.int .i64 x.2)]] 0 0) 2 = some [.sc (.int .i64 x.1),.sc (.int .i64 x.2)]:=fun _ => rfl
 have cq : ∀ H,cellsAt H (.pim [[.sc (.int .i64 x.1),.sc (.int .i64 x.2)]] 0 0) 1 = some [.sc (.int .i64 x.1)]:=fun _ => rfl
 by_cases e : y.1 < endW x
 ·simp only [↓vp,vz,Nat.reduceLT,Nat.reduceEqDiff,Nat.reduceLeDiff,Nat.reduceAdd,Nat.reduceSub,Nat.reduceMul,Int.reduceBEq,Int.reduceBNe,Int.reduceLT,Int.reduceLE,Int.reduceEq,reduceIte,reduceCtorEq,da,int,boolA,rt,dr,runC,kx,ky,px,py,cp,cq,e]
 ·have ef : (decide (y.1 < endW x) && decide (x.1 < endW y)) = false:=by rw [decide_eq_false e]; rfl
  rw [ef]
  simp only [↓vp,vz,Nat.reduceLT,Nat.reduceEqDiff,Nat.reduceLeDiff,Nat.reduceAdd,Nat.reduceSub,Nat.reduceMul,Int.reduceBEq,Int.reduceBNe,Int.reduceLT,Int.reduceLE,Int.reduceEq,reduceIte,reduceCtorEq,da,int,boolA,rt,dr,runC,kx,ky,px,py,cp,cq,e]
noncomputable def ftO : FT
 | 54 => some (.go true 8 r54 c54)
 | k => ft k
theorem ftO_sub : Sub ft ftO:=by
 intro k d h
 unfold ftO
 split
 ·cases h
 ·exact h
def overI (l : List RunM) (x : RunM) : Int:=idxM (overB x) 0 l
theorem s54 (l : List RunM) (hl : l.length ≤ 2000000) (x : RunM) (H : Heap) : callL ftO (.fn (.func 54) [] []) [encR l,.agg (runC x)] H = some (int (overI l x),H):=by
 refine call_p (as':=[encR l,.agg (runC x)]) rfl rfl (by simp) ?_
 unfold c54 r54 overI
 have hz : frzCells (hx Heap.empty [.box false (runC x)]) [encR l,.fn (.func 96) [] [.ptr 0 0 0]] = some ([encR l,overF x],hx Heap.empty [.box true (runC x)]):=rfl
 have k2:=fun Q => @KW_of ftO _ _ _ Q _ _ (s95 (T:=ftO) rfl (overF x) (overB x) l hl (fun y _ K L Q => KW_of (callL_sub ftO_sub (s96 x y _))) hz)
 simp only [runC,int] at k2
 simp only [↓vp,vz,Nat.reduceLT,Nat.reduceEqDiff,Nat.reduceLeDiff,Nat.reduceAdd,Nat.reduceSub,Nat.reduceMul,Int.reduceBEq,Int.reduceBNe,Int.reduceLT,Int.reduceLE,Int.reduceEq,reduceIte,reduceCtorEq,da,int,boolA,rt,dr,runC]
 rw [k2]
 simp only [↓vp,vz,Nat.reduceLT,Nat.reduceEqDiff,Nat.reduceLeDiff,Nat.reduceAdd,Nat.reduceSub,Nat.reduceMul,Int.reduceBEq,Int.reduceBNe,Int.reduceLT,Int.reduceLE,Int.reduceEq,reduceIte,reduceCtorEq,da,int,boolA,rt,dr,runC]
noncomputable def overP : List AV → Heap → Option (AV × Heap):=roP (goP ftO 54)
theorem overP_at {l : List RunM} (hl : l.length ≤ 2000000) (x : RunM) {S : AV} {H H1 : Heap} (hz : frzCells H [S,.agg (runC x)] = some ([encR l,.agg (runC x)],H1)) : overP [S,.agg (runC x)] H = some (int (overI l x),H):=by
 unfold overP roP goP
 have hc : closedL [encR l,.agg (runC x)] = true:=rfl
 rw [hz]
 simp only [Option.bind_some,hc,if_true,s54 l hl x,Option.map_some,int]
noncomputable def ftM : FT
 | 54 => some (.prim overP)
 | k => ft k
theorem ftM_sub : Sub ft ftM:=by
 intro k d h
 unfold ftM
 split
 ·cases h
 ·exact h
theorem kM_of {f : AV} {args : List AV} {K : AV → Heap → Prop} {v : AV} {H H' : Heap} (h : callL ft f args H = some (v,H')) : KW ftM f args H K ↔ K v H':=KW_of (callL_sub ftM_sub h)
theorem k54 {l : List RunM} (hl : l.length ≤ 2000000) (x : RunM) {S : AV} {H H1 : Heap} (hz : frzCells H [S,.agg (runC x)] = some ([encR l,.agg (runC x)],H1)) {Q : AV → Heap → Prop} : KW ftM (.fn (.func 54) [] []) [S,.agg (runC x)] H Q ↔ Q (int (overI l x)) H :=
 k_prim rfl (overP_at hl x hz) (Nat.le_refl _)
theorem k54l {l : List RunM} (hl : l.length ≤ 2000000) {x : RunM} {K : Heap} {L : List Blk} {Q : AV → Heap → Prop} : KW ftM (.fn (.func 54) [] []) [encR l,.agg (runC x)] (hx K L) Q ↔ Q (int (overI l x)) (hx K L):=k54 hl x rfl
def hasM (l : List RunM) (p : Int) : Bool:=mayM (p,1) && decide (0 ≤ overI (cleanM l) (p,1))
theorem s23 (l : List RunM) (hl : l.length ≤ 2000000) (p : Int) (H : Heap) : callL ftM (.fn (.func 23) [] []) [encR l,int p] H = some (boolA (hasM l p),H):=by
 refine call_p (as':=[encR l,int p]) rfl rfl (by simp) ?_
 unfold c23 r23 hasM
 have hl2:=cleanM_len l
 have km:=fun K L Q => @kM_of _ _ Q _ _ _ (s53 (p,1) (hx K L))
 have kc:=fun K L Q => @kM_of _ _ Q _ _ _ (s55 l hl (hx K L))
 have ko:=fun K L Q => @k54l (cleanM l) (by omega) (p,1) K L Q
 have pc : pureV ftM (.fn (.func 55) [] []) [encR l] = some (false,[]):=rfl
 simp only [runC,int] at km ko
 cases e : mayM (p,1) with
 | true =>
  rw [e] at km
  simp only [↓vp,vz,Nat.reduceLT,Nat.reduceEqDiff,Nat.reduceLeDiff,Nat.reduceAdd,Nat.reduceSub,Nat.reduceMul,Int.reduceBEq,Int.reduceBNe,Int.reduceLT,Int.reduceLE,Int.reduceEq,reduceIte,reduceCtorEq,da,int,boolA,rt,dr,km,kc,ko,pc]
 | false =>
  rw [e] at km
  simp only [↓vp,vz,Nat.reduceLT,Nat.reduceEqDiff,Nat.reduceLeDiff,Nat.reduceAdd,Nat.reduceSub,Nat.reduceMul,Int.reduceBEq,Int.reduceBNe,Int.reduceLT,Int.reduceLE,Int.reduceEq,reduceIte,reduceCtorEq,da,int,boolA,rt,dr,km,kc,ko,pc,Bool.false_and]
end Go.VI
