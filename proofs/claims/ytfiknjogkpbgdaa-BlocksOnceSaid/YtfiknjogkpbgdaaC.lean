/- The resolved code of the functions that are walked, printed by a program of this proof, each held against the loaded program by the kernel. Conditions: none. -/
import Derived.Test.YtfiknjogkpbgdaaProg
import Derived.Test.YtfiknjogkpbgdaaED
namespace Go.Proofs.Ytfiknjogkpbgdaa
open E

/- conch conchlaw11.BlocksOnce -/
/- loops write: [[(4, 4), (8, 13), (40, 128)]] -/
def c3 : SF := ⟨130, 2, [.t 4],
  (.seq (.ops [⟨(some 4), none, .mov (.v (.bool false))⟩])
  (.seq (.seq (.ops [⟨(some 14), none, .mov (.t 0)⟩,
    ⟨(some 15), none, .bin .lss (.t 14) (.v (.int .i64 1))⟩,
    ⟨(some 16), none, .mov (.t 15)⟩,
    ⟨(some 17), (some (16, false)), .mov (.t 0)⟩,
    ⟨(some 18), (some (16, false)), .bin .gtr (.t 17) (.v (.int .i64 100))⟩,
    ⟨(some 19), none, .pick (.t 16) (.v (.bool true)) (.t 18)⟩,
    ⟨(some 20), none, .mov (.t 19)⟩,
    ⟨(some 21), (some (20, false)), .mov (.t 1)⟩,
    ⟨(some 22), (some (20, false)), .len false (.t 21)⟩,
    ⟨(some 23), (some (20, false)), .bin .gtr (.t 22) (.v (.int .i64 100))⟩,
    ⟨(some 24), none, .pick (.t 20) (.v (.bool true)) (.t 23)⟩])
  (.cond (.t 24)
  (.seq (.ops [⟨(some 25), none, .call 8 []⟩,
    ⟨(some 4), none, .mov (.t 25)⟩])
  .ret)
  .skip))
  (.seq (.ops [⟨(some 27), none, .mov (.t 0)⟩,
    ⟨(some 28), none, .call 9 [(.t 27)]⟩,
    ⟨(some 26), none, .mov (.t 28)⟩,
    ⟨(some 29), none, .ext 0 (.t 26)⟩,
    ⟨(some 30), none, .ext 1 (.t 26)⟩,
    ⟨(some 5), none, .mov (.t 29)⟩,
    ⟨(some 6), none, .mov (.t 30)⟩])
  (.seq (.seq (.ops [⟨(some 31), none, .mov (.t 6)⟩,
    ⟨(some 32), none, .bin .neq (.t 31) (.v (.int .i64 0))⟩,
    ⟨(some 33), none, .mov (.t 32)⟩,
    ⟨(some 34), (some (33, false)), .mov (.t 5)⟩,
    ⟨(some 35), (some (33, false)), .eq 0 false (.t 34) (.v (.pointer none))⟩,
    ⟨(some 36), none, .pick (.t 33) (.v (.bool true)) (.t 35)⟩])
  (.cond (.t 36)
  (.seq (.ops [⟨(some 4), none, .mov (.v (.bool false))⟩])
  .ret)
  .skip))
  (.seq (.ops [⟨(some 37), none, .mov (.t 0)⟩,
    ⟨(some 38), none, .bin .add (.t 37) (.v (.int .i64 1))⟩,
    ⟨(some 39), none, .mks 4 1 1 [(.bool false)] (.t 38) (.t 38)⟩,
    ⟨(some 7), none, .mov (.t 39)⟩])
  (.seq (.ops [⟨(some 8), none, .mov (.v (.int .i64 0))⟩])
  (.seq (.seq (.ops [⟨(some 9), none, .mov (.v (.int .i64 0))⟩])
  (.blk 0 (.loop (.seq (.seq (.ops [⟨(some 40), none, .mov (.t 9)⟩,
    ⟨(some 41), none, .mov (.t 1)⟩,
    ⟨(some 42), none, .len false (.t 41)⟩,
    ⟨(some 43), none, .bin .lss (.t 40) (.t 42)⟩])
  (.cond (.t 43)
  .skip
  (.exit 0)))
  (.seq (.blk 1 (.seq (.seq (.ops [⟨(some 46), none, .mov (.t 1)⟩,
    ⟨(some 47), none, .mov (.t 9)⟩,
    ⟨(some 48), none, .idx 1 (.t 46) (.t 47)⟩,
    ⟨(some 49), none, .load (.t 48)⟩,
    ⟨(some 50), none, .bin .leq (.t 49) (.v (.int .i64 0))⟩])
  (.cond (.t 50)
  (.seq (.ops [⟨(some 52), none, .mov (.t 5)⟩,
    ⟨(some 53), none, .call 10 [(.t 52)]⟩,
    ⟨(some 51), none, .mov (.t 53)⟩,
    ⟨(some 54), none, .ext 0 (.t 51)⟩,
    ⟨(some 55), none, .ext 1 (.t 51)⟩,
    ⟨(some 10), none, .mov (.t 54)⟩,
    ⟨(some 11), none, .mov (.t 55)⟩])
  (.seq (.seq (.ops [⟨(some 56), none, .mov (.t 11)⟩,
    ⟨(some 57), none, .bin .neq (.t 56) (.v (.int .i64 0))⟩])
  (.cond (.t 57)
  (.seq (.seq (.ops [⟨(some 58), none, .mov (.t 11)⟩,
    ⟨(some 59), none, .bin .neq (.t 58) (.v (.int .i64 20))⟩,
    ⟨(some 60), none, .mov (.t 59)⟩,
    ⟨(some 61), (some (60, false)), .mov (.t 8)⟩,
    ⟨(some 62), (some (60, false)), .mov (.t 0)⟩,
    ⟨(some 63), (some (60, false)), .bin .neq (.t 61) (.t 62)⟩,
    ⟨(some 64), none, .pick (.t 60) (.v (.bool true)) (.t 63)⟩,
    ⟨(some 65), none, .mov (.t 64)⟩,
    ⟨(some 66), (some (65, false)), .mov (.t 10)⟩,
    ⟨(some 67), (some (65, false)), .bin .neq (.t 66) (.v (.int .i64 0))⟩,
    ⟨(some 68), none, .pick (.t 65) (.v (.bool true)) (.t 67)⟩])
  (.cond (.t 68)
  (.seq (.ops [⟨(some 4), none, .mov (.v (.bool false))⟩])
  .ret)
  .skip))
  (.exit 1))
  .skip))
  (.seq (.seq (.ops [⟨(some 69), none, .mov (.t 10)⟩,
    ⟨(some 70), none, .bin .lss (.t 69) (.v (.int .i64 1))⟩,
    ⟨(some 71), none, .mov (.t 70)⟩,
    ⟨(some 72), (some (71, false)), .mov (.t 10)⟩,
    ⟨(some 73), (some (71, false)), .mov (.t 0)⟩,
    ⟨(some 74), (some (71, false)), .bin .gtr (.t 72) (.t 73)⟩,
    ⟨(some 75), none, .pick (.t 71) (.v (.bool true)) (.t 74)⟩,
    ⟨(some 76), none, .mov (.t 75)⟩,
    ⟨(some 77), (some (76, false)), .mov (.t 7)⟩,
    ⟨(some 78), (some (76, false)), .mov (.t 10)⟩,
    ⟨(some 79), (some (76, false)), .idx 1 (.t 77) (.t 78)⟩,
    ⟨(some 80), (some (76, false)), .load (.t 79)⟩,
    ⟨(some 81), none, .pick (.t 76) (.v (.bool true)) (.t 80)⟩])
  (.cond (.t 81)
  (.seq (.ops [⟨(some 4), none, .mov (.v (.bool false))⟩])
  .ret)
  .skip))
  (.seq (.ops [⟨(some 82), none, .mov (.t 7)⟩,
    ⟨(some 83), none, .mov (.t 10)⟩,
    ⟨(some 84), none, .idx 1 (.t 82) (.t 83)⟩,
    ⟨none, none, .store 1 (.t 84) (.v (.bool true))⟩])
  (.ops [⟨(some 85), none, .mov (.t 8)⟩,
    ⟨(some 86), none, .bin .add (.t 85) (.v (.int .i64 1))⟩,
    ⟨(some 8), none, .mov (.t 86)⟩])))))
  (.seq (.ops [⟨(some 87), none, .mov (.t 5)⟩,
    ⟨(some 88), none, .mov (.t 1)⟩,
    ⟨(some 89), none, .mov (.t 9)⟩,
    ⟨(some 90), none, .idx 1 (.t 88) (.t 89)⟩,
    ⟨(some 91), none, .load (.t 90)⟩,
    ⟨(some 92), none, .call 11 [(.t 87), (.t 91)]⟩,
    ⟨(some 12), none, .mov (.t 92)⟩])
  (.seq (.ops [⟨(some 93), none, .mov (.t 1)⟩,
    ⟨(some 94), none, .mov (.t 9)⟩,
    ⟨(some 95), none, .idx 1 (.t 93) (.t 94)⟩,
    ⟨(some 96), none, .load (.t 95)⟩,
    ⟨(some 97), none, .mov (.t 0)⟩,
    ⟨(some 98), none, .bin .leq (.t 96) (.t 97)⟩,
    ⟨(some 99), none, .mov (.t 98)⟩,
    ⟨(some 100), (some (99, true)), .mov (.t 7)⟩,
    ⟨(some 101), (some (99, true)), .mov (.t 1)⟩,
    ⟨(some 102), (some (99, true)), .mov (.t 9)⟩,
    ⟨(some 103), (some (99, true)), .idx 1 (.t 101) (.t 102)⟩,
    ⟨(some 104), (some (99, true)), .load (.t 103)⟩,
    ⟨(some 105), (some (99, true)), .mov (.t 0)⟩,
    ⟨(some 106), (some (99, true)), .min2 (.t 104) (.t 105)⟩,
    ⟨(some 107), (some (99, true)), .idx 1 (.t 100) (.t 106)⟩,
    ⟨(some 108), (some (99, true)), .load (.t 107)⟩,
    ⟨(some 109), none, .pick (.t 99) (.t 108) (.v (.bool false))⟩,
    ⟨(some 13), none, .mov (.t 109)⟩])
  (.seq (.seq (.ops [⟨(some 110), none, .mov (.t 12)⟩,
    ⟨(some 111), none, .bin .eql (.t 110) (.v (.int .i64 0))⟩,
    ⟨(some 112), none, .mov (.t 13)⟩,
    ⟨(some 113), none, .eq 4 true (.t 111) (.t 112)⟩])
  (.cond (.t 113)
  (.seq (.ops [⟨(some 4), none, .mov (.v (.bool false))⟩])
  .ret)
  .skip))
  (.seq (.ops [⟨(some 114), none, .mov (.t 13)⟩])
  (.cond (.t 114)
  (.seq (.ops [⟨(some 115), none, .mov (.t 7)⟩,
    ⟨(some 116), none, .mov (.t 1)⟩,
    ⟨(some 117), none, .mov (.t 9)⟩,
    ⟨(some 118), none, .idx 1 (.t 116) (.t 117)⟩,
    ⟨(some 119), none, .load (.t 118)⟩,
    ⟨(some 120), none, .idx 1 (.t 115) (.t 119)⟩,
    ⟨none, none, .store 1 (.t 120) (.v (.bool false))⟩])
  (.ops [⟨(some 121), none, .mov (.t 8)⟩,
    ⟨(some 122), none, .bin .sub (.t 121) (.v (.int .i64 1))⟩,
    ⟨(some 8), none, .mov (.t 122)⟩]))
  .skip)))))))
  (.seq (.ops [⟨(some 123), none, .mov (.t 5)⟩,
    ⟨(some 124), none, .call 12 [(.t 123)]⟩,
    ⟨(some 125), none, .mov (.t 0)⟩,
    ⟨(some 126), none, .mov (.t 8)⟩,
    ⟨(some 127), none, .bin .sub (.t 125) (.t 126)⟩,
    ⟨(some 128), none, .bin .neq (.t 124) (.t 127)⟩])
  (.cond (.t 128)
  (.seq (.ops [⟨(some 4), none, .mov (.v (.bool false))⟩])
  .ret)
  .skip))))
  (.ops [⟨(some 44), none, .mov (.t 9)⟩,
    ⟨(some 45), none, .bin .add (.t 44) (.v (.int .i64 1))⟩,
    ⟨(some 9), none, .mov (.t 45)⟩]))))))
  (.seq (.ops [⟨(some 129), none, .call 8 []⟩,
    ⟨(some 4), none, .mov (.t 129)⟩])
  .ret))))))))⟩
theorem c3_ok : trF Try.prog 3 = some c3 := by kernel_rfl
theorem k3_ok : okFn Try.prog 3 = true := by kernel_rfl

/- conch conchlaw11.BlocksFresh -/
def c4 : SF := ⟨84, 1, [.t 2],
  (.seq (.ops [⟨(some 2), none, .mov (.v (.bool false))⟩])
  (.seq (.seq (.ops [⟨(some 13), none, .mov (.t 0)⟩,
    ⟨(some 14), none, .len true (.t 13)⟩,
    ⟨(some 15), none, .bin .gtr (.t 14) (.v (.int .i64 64))⟩])
  (.cond (.t 15)
  (.seq (.ops [⟨(some 16), none, .call 8 []⟩,
    ⟨(some 2), none, .mov (.t 16)⟩])
  .ret)
  .skip))
  (.seq (.ops [⟨(some 18), none, .call 9 [(.v (.int .i64 3))]⟩,
    ⟨(some 17), none, .mov (.t 18)⟩,
    ⟨(some 19), none, .ext 0 (.t 17)⟩,
    ⟨(some 20), none, .ext 1 (.t 17)⟩,
    ⟨(some 3), none, .mov (.t 19)⟩,
    ⟨(some 4), none, .mov (.t 20)⟩])
  (.seq (.seq (.ops [⟨(some 21), none, .mov (.t 4)⟩,
    ⟨(some 22), none, .bin .neq (.t 21) (.v (.int .i64 0))⟩,
    ⟨(some 23), none, .mov (.t 22)⟩,
    ⟨(some 24), (some (23, false)), .mov (.t 3)⟩,
    ⟨(some 25), (some (23, false)), .eq 0 false (.t 24) (.v (.pointer none))⟩,
    ⟨(some 26), none, .pick (.t 23) (.v (.bool true)) (.t 25)⟩])
  (.cond (.t 26)
  (.seq (.ops [⟨(some 2), none, .mov (.v (.bool false))⟩])
  .ret)
  .skip))
  (.seq (.ops [⟨(some 28), none, .mov (.t 3)⟩,
    ⟨(some 29), none, .call 10 [(.t 28)]⟩,
    ⟨(some 27), none, .mov (.t 29)⟩,
    ⟨(some 30), none, .ext 0 (.t 27)⟩,
    ⟨(some 31), none, .ext 1 (.t 27)⟩,
    ⟨(some 5), none, .mov (.t 30)⟩,
    ⟨(some 6), none, .mov (.t 31)⟩])
  (.seq (.seq (.ops [⟨(some 32), none, .mov (.t 3)⟩,
    ⟨(some 33), none, .mov (.t 5)⟩,
    ⟨(some 34), none, .mov (.t 0)⟩,
    ⟨(some 35), none, .call 13 [(.t 32), (.t 33), (.v (.int .i64 0)), (.t 34)]⟩,
    ⟨(some 36), none, .bin .neq (.t 35) (.v (.int .i64 0))⟩,
    ⟨(some 37), none, .mov (.t 36)⟩,
    ⟨(some 38), (some (37, false)), .mov (.t 3)⟩,
    ⟨(some 39), (some (37, false)), .mov (.t 5)⟩,
    ⟨(some 40), (some (37, false)), .call 11 [(.t 38), (.t 39)]⟩,
    ⟨(some 41), (some (37, false)), .bin .neq (.t 40) (.v (.int .i64 0))⟩,
    ⟨(some 42), none, .pick (.t 37) (.v (.bool true)) (.t 41)⟩])
  (.cond (.t 42)
  (.seq (.ops [⟨(some 2), none, .mov (.v (.bool false))⟩])
  .ret)
  .skip))
  (.seq (.ops [⟨(some 44), none, .mov (.t 3)⟩,
    ⟨(some 45), none, .mov (.t 5)⟩,
    ⟨(some 46), none, .call 14 [(.t 44), (.t 45), (.v (.int .i64 0)), (.v (.int .i64 0))]⟩,
    ⟨(some 43), none, .mov (.t 46)⟩,
    ⟨(some 47), none, .ext 0 (.t 43)⟩,
    ⟨(some 48), none, .ext 1 (.t 43)⟩,
    ⟨(some 7), none, .mov (.t 47)⟩,
    ⟨(some 8), none, .mov (.t 48)⟩])
  (.seq (.ops [⟨(some 50), none, .mov (.t 3)⟩,
    ⟨(some 51), none, .call 10 [(.t 50)]⟩,
    ⟨(some 49), none, .mov (.t 51)⟩,
    ⟨(some 52), none, .ext 0 (.t 49)⟩,
    ⟨(some 53), none, .ext 1 (.t 49)⟩,
    ⟨(some 9), none, .mov (.t 52)⟩,
    ⟨(some 10), none, .mov (.t 53)⟩])
  (.seq (.ops [⟨(some 55), none, .mov (.t 3)⟩,
    ⟨(some 56), none, .mov (.t 9)⟩,
    ⟨(some 57), none, .call 14 [(.t 55), (.t 56), (.v (.int .i64 0)), (.v (.int .i64 64))]⟩,
    ⟨(some 54), none, .mov (.t 57)⟩,
    ⟨(some 58), none, .ext 0 (.t 54)⟩,
    ⟨(some 59), none, .ext 1 (.t 54)⟩,
    ⟨(some 11), none, .mov (.t 58)⟩,
    ⟨(some 12), none, .mov (.t 59)⟩])
  (.seq (.ops [⟨(some 60), none, .mov (.t 8)⟩,
    ⟨(some 61), none, .bin .eql (.t 60) (.v (.int .i64 23))⟩,
    ⟨(some 62), none, .mov (.t 61)⟩,
    ⟨(some 63), (some (62, true)), .mov (.t 10)⟩,
    ⟨(some 64), (some (62, true)), .bin .eql (.t 63) (.v (.int .i64 0))⟩,
    ⟨(some 65), none, .pick (.t 62) (.t 64) (.v (.bool false))⟩,
    ⟨(some 66), none, .mov (.t 65)⟩,
    ⟨(some 67), (some (66, true)), .mov (.t 9)⟩,
    ⟨(some 68), (some (66, true)), .mov (.t 5)⟩,
    ⟨(some 69), (some (66, true)), .bin .eql (.t 67) (.t 68)⟩,
    ⟨(some 70), none, .pick (.t 66) (.t 69) (.v (.bool false))⟩,
    ⟨(some 71), none, .mov (.t 70)⟩,
    ⟨(some 72), (some (71, true)), .mov (.t 12)⟩,
    ⟨(some 73), (some (71, true)), .bin .eql (.t 72) (.v (.int .i64 0))⟩,
    ⟨(some 74), none, .pick (.t 71) (.t 73) (.v (.bool false))⟩,
    ⟨(some 75), none, .mov (.t 74)⟩,
    ⟨(some 76), (some (75, true)), .mov (.t 11)⟩,
    ⟨(some 77), (some (75, true)), .mks 5 1 1 [(.int .u8 0)] (.v (.int .i64 64)) (.v (.int .i64 64))⟩,
    ⟨(some 78), (some (75, true)), .cvBS (.t 77)⟩,
    ⟨(some 79), (some (75, true)), .bin .eql (.t 76) (.t 78)⟩,
    ⟨(some 80), none, .pick (.t 75) (.t 79) (.v (.bool false))⟩,
    ⟨(some 81), none, .mov (.t 80)⟩,
    ⟨(some 82), (some (81, true)), .call 8 []⟩,
    ⟨(some 83), none, .pick (.t 81) (.t 82) (.v (.bool false))⟩,
    ⟨(some 2), none, .mov (.t 83)⟩])
  .ret))))))))))⟩
theorem c4_ok : trF Try.prog 4 = some c4 := by kernel_rfl
theorem k4_ok : okFn Try.prog 4 = true := by kernel_rfl

/- conch conchlaw11.BlocksKeeps -/
/- loops write: [[(6, 6), (9, 11), (75, 101)], [(6, 6), (14, 17), (123, 167)]] -/
def c5 : SF := ⟨177, 3, [.t 6],
  (.seq (.ops [⟨(some 5), none, .box 40 (.t 2)⟩,
    ⟨(some 6), none, .mov (.v (.bool false))⟩])
  (.seq (.seq (.ops [⟨(some 18), none, .mov (.t 0)⟩,
    ⟨(some 19), none, .bin .lss (.t 18) (.v (.int .i64 1))⟩,
    ⟨(some 20), none, .mov (.t 19)⟩,
    ⟨(some 21), (some (20, false)), .mov (.t 0)⟩,
    ⟨(some 22), (some (20, false)), .bin .gtr (.t 21) (.v (.int .i64 100))⟩,
    ⟨(some 23), none, .pick (.t 20) (.v (.bool true)) (.t 22)⟩,
    ⟨(some 24), none, .mov (.t 23)⟩,
    ⟨(some 25), (some (24, false)), .mov (.t 1)⟩,
    ⟨(some 26), (some (24, false)), .bin .lss (.t 25) (.v (.int .i64 1))⟩,
    ⟨(some 27), none, .pick (.t 24) (.v (.bool true)) (.t 26)⟩,
    ⟨(some 28), none, .mov (.t 27)⟩,
    ⟨(some 29), (some (28, false)), .mov (.t 1)⟩,
    ⟨(some 30), (some (28, false)), .mov (.t 0)⟩,
    ⟨(some 31), (some (28, false)), .bin .gtr (.t 29) (.t 30)⟩,
    ⟨(some 32), none, .pick (.t 28) (.v (.bool true)) (.t 31)⟩,
    ⟨(some 33), none, .mov (.t 32)⟩,
    ⟨(some 34), (some (33, false)), .fld 1 (.t 5)⟩,
    ⟨(some 35), (some (33, false)), .load (.t 34)⟩,
    ⟨(some 36), (some (33, false)), .bin .lss (.t 35) (.v (.int .i64 1))⟩,
    ⟨(some 37), none, .pick (.t 33) (.v (.bool true)) (.t 36)⟩,
    ⟨(some 38), none, .mov (.t 37)⟩,
    ⟨(some 39), (some (38, false)), .fld 1 (.t 5)⟩,
    ⟨(some 40), (some (38, false)), .load (.t 39)⟩,
    ⟨(some 41), (some (38, false)), .mov (.t 1)⟩,
    ⟨(some 42), (some (38, false)), .bin .gtr (.t 40) (.t 41)⟩,
    ⟨(some 43), none, .pick (.t 38) (.v (.bool true)) (.t 42)⟩,
    ⟨(some 44), none, .mov (.t 43)⟩,
    ⟨(some 45), (some (44, false)), .fld 2 (.t 5)⟩,
    ⟨(some 46), (some (44, false)), .load (.t 45)⟩,
    ⟨(some 47), (some (44, false)), .bin .lss (.t 46) (.v (.int .i64 0))⟩,
    ⟨(some 48), none, .pick (.t 44) (.v (.bool true)) (.t 47)⟩,
    ⟨(some 49), none, .mov (.t 48)⟩,
    ⟨(some 50), (some (49, false)), .fld 2 (.t 5)⟩,
    ⟨(some 51), (some (49, false)), .load (.t 50)⟩,
    ⟨(some 52), (some (49, false)), .bin .gtr (.t 51) (.v (.int .i64 64))⟩,
    ⟨(some 53), none, .pick (.t 49) (.v (.bool true)) (.t 52)⟩,
    ⟨(some 54), none, .mov (.t 53)⟩,
    ⟨(some 55), (some (54, false)), .fld 4 (.t 5)⟩,
    ⟨(some 56), (some (54, false)), .load (.t 55)⟩,
    ⟨(some 57), (some (54, false)), .len true (.t 56)⟩,
    ⟨(some 58), (some (54, false)), .fld 2 (.t 5)⟩,
    ⟨(some 59), (some (54, false)), .load (.t 58)⟩,
    ⟨(some 60), (some (54, false)), .bin .sub (.v (.int .i64 64)) (.t 59)⟩,
    ⟨(some 61), (some (54, false)), .bin .gtr (.t 57) (.t 60)⟩,
    ⟨(some 62), none, .pick (.t 54) (.v (.bool true)) (.t 61)⟩])
  (.cond (.t 62)
  (.seq (.ops [⟨(some 63), none, .call 8 []⟩,
    ⟨(some 6), none, .mov (.t 63)⟩])
  .ret)
  .skip))
  (.seq (.ops [⟨(some 65), none, .mov (.t 0)⟩,
    ⟨(some 66), none, .call 9 [(.t 65)]⟩,
    ⟨(some 64), none, .mov (.t 66)⟩,
    ⟨(some 67), none, .ext 0 (.t 64)⟩,
    ⟨(some 68), none, .ext 1 (.t 64)⟩,
    ⟨(some 7), none, .mov (.t 67)⟩,
    ⟨(some 8), none, .mov (.t 68)⟩])
  (.seq (.seq (.ops [⟨(some 69), none, .mov (.t 8)⟩,
    ⟨(some 70), none, .bin .neq (.t 69) (.v (.int .i64 0))⟩,
    ⟨(some 71), none, .mov (.t 70)⟩,
    ⟨(some 72), (some (71, false)), .mov (.t 7)⟩,
    ⟨(some 73), (some (71, false)), .eq 0 false (.t 72) (.v (.pointer none))⟩,
    ⟨(some 74), none, .pick (.t 71) (.v (.bool true)) (.t 73)⟩])
  (.cond (.t 74)
  (.seq (.ops [⟨(some 6), none, .mov (.v (.bool false))⟩])
  .ret)
  .skip))
  (.seq (.seq (.ops [⟨(some 9), none, .mov (.v (.int .i64 1))⟩])
  (.blk 0 (.loop (.seq (.seq (.ops [⟨(some 75), none, .mov (.t 9)⟩,
    ⟨(some 76), none, .mov (.t 1)⟩,
    ⟨(some 77), none, .bin .leq (.t 75) (.t 76)⟩])
  (.cond (.t 77)
  .skip
  (.exit 0)))
  (.seq (.blk 1 (.seq (.ops [⟨(some 81), none, .mov (.t 7)⟩,
    ⟨(some 82), none, .call 10 [(.t 81)]⟩,
    ⟨(some 80), none, .mov (.t 82)⟩,
    ⟨(some 83), none, .ext 0 (.t 80)⟩,
    ⟨(some 84), none, .ext 1 (.t 80)⟩,
    ⟨(some 10), none, .mov (.t 83)⟩,
    ⟨(some 11), none, .mov (.t 84)⟩])
  (.seq (.ops [⟨(some 85), none, .mov (.t 11)⟩,
    ⟨(some 86), none, .bin .neq (.t 85) (.v (.int .i64 0))⟩,
    ⟨(some 87), none, .mov (.t 86)⟩,
    ⟨(some 88), (some (87, false)), .mov (.t 10)⟩,
    ⟨(some 89), (some (87, false)), .mov (.t 9)⟩,
    ⟨(some 90), (some (87, false)), .bin .neq (.t 88) (.t 89)⟩,
    ⟨(some 91), none, .pick (.t 87) (.v (.bool true)) (.t 90)⟩,
    ⟨(some 92), none, .mov (.t 91)⟩,
    ⟨(some 93), (some (92, false)), .mov (.t 7)⟩,
    ⟨(some 94), (some (92, false)), .mov (.t 10)⟩,
    ⟨(some 95), (some (92, false)), .mov (.t 9)⟩,
    ⟨(some 96), (some (92, false)), .cvi .u8 (.t 95)⟩,
    ⟨(some 97), (some (92, false)), .bsl 5 3 [(.int .u8 0), (.int .u8 0), (.int .u8 0)] [(0, 1, (.t 96)), (1, 1, (.v (.int .u8 1))), (2, 1, (.v (.int .u8 2)))]⟩,
    ⟨(some 98), (some (92, false)), .cvBS (.t 97)⟩,
    ⟨(some 99), (some (92, false)), .call 13 [(.t 93), (.t 94), (.v (.int .i64 0)), (.t 98)]⟩,
    ⟨(some 100), (some (92, false)), .bin .neq (.t 99) (.v (.int .i64 0))⟩,
    ⟨(some 101), none, .pick (.t 92) (.v (.bool true)) (.t 100)⟩])
  (.cond (.t 101)
  (.seq (.ops [⟨(some 6), none, .mov (.v (.bool false))⟩])
  .ret)
  .skip))))
  (.ops [⟨(some 78), none, .mov (.t 9)⟩,
    ⟨(some 79), none, .bin .add (.t 78) (.v (.int .i64 1))⟩,
    ⟨(some 9), none, .mov (.t 79)⟩]))))))
  (.seq (.ops [⟨(some 103), none, .mov (.t 7)⟩,
    ⟨(some 104), none, .fld 1 (.t 5)⟩,
    ⟨(some 105), none, .load (.t 104)⟩,
    ⟨(some 106), none, .call 14 [(.t 103), (.t 105), (.v (.int .i64 0)), (.v (.int .i64 64))]⟩,
    ⟨(some 102), none, .mov (.t 106)⟩,
    ⟨(some 107), none, .ext 0 (.t 102)⟩,
    ⟨(some 108), none, .ext 1 (.t 102)⟩,
    ⟨(some 12), none, .mov (.t 107)⟩,
    ⟨(some 13), none, .mov (.t 108)⟩])
  (.seq (.seq (.ops [⟨(some 109), none, .mov (.t 12)⟩,
    ⟨(some 110), none, .len true (.t 109)⟩,
    ⟨(some 111), none, .bin .neq (.t 110) (.v (.int .i64 64))⟩,
    ⟨(some 112), none, .mov (.t 111)⟩,
    ⟨(some 113), (some (112, false)), .mov (.t 7)⟩,
    ⟨(some 114), (some (112, false)), .fld 1 (.t 5)⟩,
    ⟨(some 115), (some (112, false)), .load (.t 114)⟩,
    ⟨(some 116), (some (112, false)), .fld 2 (.t 5)⟩,
    ⟨(some 117), (some (112, false)), .load (.t 116)⟩,
    ⟨(some 118), (some (112, false)), .fld 4 (.t 5)⟩,
    ⟨(some 119), (some (112, false)), .load (.t 118)⟩,
    ⟨(some 120), (some (112, false)), .call 13 [(.t 113), (.t 115), (.t 117), (.t 119)]⟩,
    ⟨(some 121), (some (112, false)), .bin .neq (.t 120) (.v (.int .i64 0))⟩,
    ⟨(some 122), none, .pick (.t 112) (.v (.bool true)) (.t 121)⟩])
  (.cond (.t 122)
  (.seq (.ops [⟨(some 6), none, .mov (.v (.bool false))⟩])
  .ret)
  .skip))
  (.seq (.seq (.ops [⟨(some 14), none, .mov (.v (.int .i64 1))⟩])
  (.blk 2 (.loop (.seq (.seq (.ops [⟨(some 123), none, .mov (.t 14)⟩,
    ⟨(some 124), none, .mov (.t 1)⟩,
    ⟨(some 125), none, .bin .leq (.t 123) (.t 124)⟩])
  (.cond (.t 125)
  .skip
  (.exit 2)))
  (.seq (.blk 3 (.seq (.ops [⟨(some 129), none, .mov (.t 7)⟩,
    ⟨(some 130), none, .mov (.t 14)⟩,
    ⟨(some 131), none, .call 14 [(.t 129), (.t 130), (.v (.int .i64 0)), (.v (.int .i64 64))]⟩,
    ⟨(some 128), none, .mov (.t 131)⟩,
    ⟨(some 132), none, .ext 0 (.t 128)⟩,
    ⟨(some 133), none, .ext 1 (.t 128)⟩,
    ⟨(some 15), none, .mov (.t 132)⟩,
    ⟨(some 16), none, .mov (.t 133)⟩])
  (.seq (.dcall [⟨(some 134), none, .mov (.t 14)⟩,
    ⟨(some 135), none, .cvi .u8 (.t 134)⟩,
    ⟨(some 136), none, .bsl 5 3 [(.int .u8 0), (.int .u8 0), (.int .u8 0)] [(0, 1, (.t 135)), (1, 1, (.v (.int .u8 1))), (2, 1, (.v (.int .u8 2)))]⟩,
    ⟨(some 137), none, .cvBS (.t 136)⟩,
    ⟨(some 138), none, .mks 5 1 1 [(.int .u8 0)] (.v (.int .i64 61)) (.v (.int .i64 61))⟩,
    ⟨(some 139), none, .cvBS (.t 138)⟩,
    ⟨(some 140), none, .bin .add (.t 137) (.t 139)⟩,
    ⟨(some 17), none, .mov (.t 140)⟩])
  (.seq (.seq (.ops [⟨(some 141), none, .mov (.t 14)⟩,
    ⟨(some 142), none, .fld 1 (.t 5)⟩,
    ⟨(some 143), none, .load (.t 142)⟩,
    ⟨(some 144), none, .bin .eql (.t 141) (.t 143)⟩])
  (.cond (.t 144)
  (.dops [⟨(some 145), none, .mov (.t 12)⟩,
    ⟨(some 146), none, .fld 2 (.t 5)⟩,
    ⟨(some 147), none, .load (.t 146)⟩,
    ⟨(some 148), none, .subS (.t 145) none (some (.t 147))⟩,
    ⟨(some 149), none, .fld 4 (.t 5)⟩,
    ⟨(some 150), none, .load (.t 149)⟩,
    ⟨(some 151), none, .bin .add (.t 148) (.t 150)⟩,
    ⟨(some 152), none, .mov (.t 12)⟩,
    ⟨(some 153), none, .fld 2 (.t 5)⟩,
    ⟨(some 154), none, .load (.t 153)⟩,
    ⟨(some 155), none, .fld 4 (.t 5)⟩,
    ⟨(some 156), none, .load (.t 155)⟩,
    ⟨(some 157), none, .len true (.t 156)⟩,
    ⟨(some 158), none, .bin .add (.t 154) (.t 157)⟩,
    ⟨(some 159), none, .subS (.t 152) (some (.t 158)) none⟩,
    ⟨(some 160), none, .bin .add (.t 151) (.t 159)⟩,
    ⟨(some 17), none, .mov (.t 160)⟩])
  .skip))
  (.seq (.ops [⟨(some 161), none, .mov (.t 16)⟩,
    ⟨(some 162), none, .bin .neq (.t 161) (.v (.int .i64 0))⟩,
    ⟨(some 163), none, .mov (.t 162)⟩,
    ⟨(some 164), (some (163, false)), .mov (.t 15)⟩,
    ⟨(some 165), (some (163, false)), .mov (.t 17)⟩,
    ⟨(some 166), (some (163, false)), .bin .neq (.t 164) (.t 165)⟩,
    ⟨(some 167), none, .pick (.t 163) (.v (.bool true)) (.t 166)⟩])
  (.cond (.t 167)
  (.seq (.ops [⟨(some 6), none, .mov (.v (.bool false))⟩])
  .ret)
  .skip))))))
  (.ops [⟨(some 126), none, .mov (.t 14)⟩,
    ⟨(some 127), none, .bin .add (.t 126) (.v (.int .i64 1))⟩,
    ⟨(some 14), none, .mov (.t 127)⟩]))))))
  (.seq (.ops [⟨(some 168), none, .mov (.t 7)⟩,
    ⟨(some 169), none, .call 12 [(.t 168)]⟩,
    ⟨(some 170), none, .mov (.t 0)⟩,
    ⟨(some 171), none, .mov (.t 1)⟩,
    ⟨(some 172), none, .bin .sub (.t 170) (.t 171)⟩,
    ⟨(some 173), none, .bin .eql (.t 169) (.t 172)⟩,
    ⟨(some 174), none, .mov (.t 173)⟩,
    ⟨(some 175), (some (174, true)), .call 8 []⟩,
    ⟨(some 176), none, .pick (.t 174) (.t 175) (.v (.bool false))⟩,
    ⟨(some 6), none, .mov (.t 176)⟩])
  .ret)))))))))⟩
theorem c5_ok : trF Try.prog 5 = some c5 := by kernel_rfl
theorem k5_ok : okFn Try.prog 5 = true := by kernel_rfl

/- conch conchlaw11.BlocksPlays -/
/- loops write: [[(4, 5), (7, 7), (9, 24), (48, 191)]] -/
def c6 : SF := ⟨193, 2, [.t 4],
  (.seq (.ops [⟨(some 4), none, .mov (.v (.bool false))⟩])
  (.seq (.ops [⟨(some 26), none, .mov (.t 0)⟩,
    ⟨(some 27), none, .call 9 [(.t 26)]⟩,
    ⟨(some 25), none, .mov (.t 27)⟩,
    ⟨(some 28), none, .ext 0 (.t 25)⟩,
    ⟨(some 29), none, .ext 1 (.t 25)⟩,
    ⟨(some 5), none, .mov (.t 28)⟩,
    ⟨(some 6), none, .mov (.t 29)⟩])
  (.seq (.ops [⟨(some 31), none, .mov (.t 0)⟩,
    ⟨(some 32), none, .call 15 [(.t 31)]⟩,
    ⟨(some 30), none, .mov (.t 32)⟩,
    ⟨(some 33), none, .ext 0 (.t 30)⟩,
    ⟨(some 34), none, .ext 1 (.t 30)⟩,
    ⟨(some 7), none, .mov (.t 33)⟩,
    ⟨(some 8), none, .mov (.t 34)⟩])
  (.seq (.seq (.ops [⟨(some 35), none, .mov (.t 6)⟩,
    ⟨(some 36), none, .mov (.t 8)⟩,
    ⟨(some 37), none, .bin .neq (.t 35) (.t 36)⟩,
    ⟨(some 38), none, .mov (.t 37)⟩,
    ⟨(some 39), (some (38, false)), .mov (.t 5)⟩,
    ⟨(some 40), (some (38, false)), .eq 0 false (.t 39) (.v (.pointer none))⟩,
    ⟨(some 41), (some (38, false)), .mov (.t 7)⟩,
    ⟨(some 42), (some (38, false)), .eq 0 false (.t 41) (.v (.pointer none))⟩,
    ⟨(some 43), (some (38, false)), .eq 4 true (.t 40) (.t 42)⟩,
    ⟨(some 44), none, .pick (.t 38) (.v (.bool true)) (.t 43)⟩])
  (.cond (.t 44)
  (.seq (.ops [⟨(some 4), none, .mov (.v (.bool false))⟩])
  .ret)
  .skip))
  (.seq (.seq (.ops [⟨(some 45), none, .mov (.t 7)⟩,
    ⟨(some 46), none, .eq 0 false (.t 45) (.v (.pointer none))⟩])
  (.cond (.t 46)
  (.seq (.ops [⟨(some 47), none, .call 8 []⟩,
    ⟨(some 4), none, .mov (.t 47)⟩])
  .ret)
  .skip))
  (.seq (.seq (.ops [⟨(some 9), none, .mov (.v (.int .i64 0))⟩])
  (.blk 0 (.loop (.seq (.seq (.ops [⟨(some 48), none, .mov (.t 9)⟩,
    ⟨(some 49), none, .mov (.t 1)⟩,
    ⟨(some 50), none, .len false (.t 49)⟩,
    ⟨(some 51), none, .bin .lss (.t 48) (.t 50)⟩,
    ⟨(some 52), none, .mov (.t 51)⟩,
    ⟨(some 53), (some (52, true)), .mov (.t 9)⟩,
    ⟨(some 54), (some (52, true)), .bin .lss (.t 53) (.v (.int .i64 100))⟩,
    ⟨(some 55), none, .pick (.t 52) (.t 54) (.v (.bool false))⟩])
  (.cond (.t 55)
  .skip
  (.exit 0)))
  (.seq (.blk 1 (.seq (.ops [⟨(some 58), none, .mov (.t 1)⟩,
    ⟨(some 59), none, .mov (.t 9)⟩,
    ⟨(some 60), none, .idx 5 (.t 58) (.t 59)⟩,
    ⟨(some 61), none, .loadN 5 (.t 60)⟩,
    ⟨(some 10), none, .alloc 40 [(.int .i64 0), (.int .i64 0), (.int .i64 0), (.int .i64 0), (.string (bs []))]⟩,
    ⟨none, none, .store 5 (.t 10) (.t 61)⟩])
  (.seq (.seq (.ops [⟨(some 62), none, .fld 4 (.t 10)⟩,
    ⟨(some 63), none, .load (.t 62)⟩,
    ⟨(some 64), none, .len true (.t 63)⟩,
    ⟨(some 65), none, .bin .gtr (.t 64) (.v (.int .i64 200))⟩])
  (.cond (.t 65)
  (.seq (.ops [⟨(some 66), none, .call 8 []⟩,
    ⟨(some 4), none, .mov (.t 66)⟩])
  .ret)
  .skip))
  (.seq (.seq (.ops [⟨(some 67), none, .fld 0 (.t 10)⟩,
    ⟨(some 68), none, .load (.t 67)⟩])
  (.blk 2 (.seq (.ops [⟨(some 82), none, .bin .eql (.t 68) (.v (.int .i64 0))⟩,
    ⟨(some 81), none, .mov (.t 82)⟩])
  (.cond (.t 81)
  (.seq (.ops [⟨(some 84), none, .mov (.t 5)⟩,
    ⟨(some 85), none, .call 10 [(.t 84)]⟩,
    ⟨(some 83), none, .mov (.t 85)⟩,
    ⟨(some 86), none, .ext 0 (.t 83)⟩,
    ⟨(some 87), none, .ext 1 (.t 83)⟩,
    ⟨(some 11), none, .mov (.t 86)⟩,
    ⟨(some 12), none, .mov (.t 87)⟩])
  (.seq (.ops [⟨(some 89), none, .mov (.t 7)⟩,
    ⟨(some 90), none, .call 16 [(.t 89)]⟩,
    ⟨(some 88), none, .mov (.t 90)⟩,
    ⟨(some 91), none, .ext 0 (.t 88)⟩,
    ⟨(some 92), none, .ext 1 (.t 88)⟩,
    ⟨(some 13), none, .mov (.t 91)⟩,
    ⟨(some 14), none, .mov (.t 92)⟩])
  (.seq (.ops [⟨(some 93), none, .mov (.t 11)⟩,
    ⟨(some 94), none, .mov (.t 13)⟩,
    ⟨(some 95), none, .bin .neq (.t 93) (.t 94)⟩,
    ⟨(some 96), none, .mov (.t 95)⟩,
    ⟨(some 97), (some (96, false)), .mov (.t 12)⟩,
    ⟨(some 98), (some (96, false)), .mov (.t 14)⟩,
    ⟨(some 99), (some (96, false)), .bin .neq (.t 97) (.t 98)⟩,
    ⟨(some 100), none, .pick (.t 96) (.v (.bool true)) (.t 99)⟩])
  (.cond (.t 100)
  (.seq (.ops [⟨(some 4), none, .mov (.v (.bool false))⟩])
  .ret)
  .skip))))
  (.seq (.ops [⟨(some 102), none, .bin .eql (.t 68) (.v (.int .i64 1))⟩,
    ⟨(some 101), none, .mov (.t 102)⟩])
  (.cond (.t 101)
  (.seq (.dcall [⟨(some 103), none, .mov (.t 5)⟩,
    ⟨(some 104), none, .fld 1 (.t 10)⟩,
    ⟨(some 105), none, .load (.t 104)⟩,
    ⟨(some 106), none, .call 11 [(.t 103), (.t 105)]⟩,
    ⟨(some 107), none, .mov (.t 7)⟩,
    ⟨(some 108), none, .fld 1 (.t 10)⟩,
    ⟨(some 109), none, .load (.t 108)⟩,
    ⟨(some 110), none, .call 17 [(.t 107), (.t 109)]⟩,
    ⟨(some 111), none, .bin .neq (.t 106) (.t 110)⟩])
  (.cond (.t 111)
  (.seq (.ops [⟨(some 4), none, .mov (.v (.bool false))⟩])
  .ret)
  .skip))
  (.seq (.ops [⟨(some 113), none, .bin .eql (.t 68) (.v (.int .i64 2))⟩,
    ⟨(some 112), none, .mov (.t 113)⟩])
  (.cond (.t 112)
  (.seq (.ops [⟨(some 115), none, .mov (.t 5)⟩,
    ⟨(some 116), none, .fld 1 (.t 10)⟩,
    ⟨(some 117), none, .load (.t 116)⟩,
    ⟨(some 118), none, .fld 2 (.t 10)⟩,
    ⟨(some 119), none, .load (.t 118)⟩,
    ⟨(some 120), none, .fld 3 (.t 10)⟩,
    ⟨(some 121), none, .load (.t 120)⟩,
    ⟨(some 122), none, .call 14 [(.t 115), (.t 117), (.t 119), (.t 121)]⟩,
    ⟨(some 114), none, .mov (.t 122)⟩,
    ⟨(some 123), none, .ext 0 (.t 114)⟩,
    ⟨(some 124), none, .ext 1 (.t 114)⟩,
    ⟨(some 15), none, .mov (.t 123)⟩,
    ⟨(some 16), none, .mov (.t 124)⟩])
  (.seq (.ops [⟨(some 126), none, .mov (.t 7)⟩,
    ⟨(some 127), none, .fld 1 (.t 10)⟩,
    ⟨(some 128), none, .load (.t 127)⟩,
    ⟨(some 129), none, .fld 2 (.t 10)⟩,
    ⟨(some 130), none, .load (.t 129)⟩,
    ⟨(some 131), none, .fld 3 (.t 10)⟩,
    ⟨(some 132), none, .load (.t 131)⟩,
    ⟨(some 133), none, .call 18 [(.t 126), (.t 128), (.t 130), (.t 132)]⟩,
    ⟨(some 125), none, .mov (.t 133)⟩,
    ⟨(some 134), none, .ext 0 (.t 125)⟩,
    ⟨(some 135), none, .ext 1 (.t 125)⟩,
    ⟨(some 17), none, .mov (.t 134)⟩,
    ⟨(some 18), none, .mov (.t 135)⟩])
  (.seq (.ops [⟨(some 136), none, .mov (.t 15)⟩,
    ⟨(some 137), none, .mov (.t 17)⟩,
    ⟨(some 138), none, .bin .neq (.t 136) (.t 137)⟩,
    ⟨(some 139), none, .mov (.t 138)⟩,
    ⟨(some 140), (some (139, false)), .mov (.t 16)⟩,
    ⟨(some 141), (some (139, false)), .mov (.t 18)⟩,
    ⟨(some 142), (some (139, false)), .bin .neq (.t 140) (.t 141)⟩,
    ⟨(some 143), none, .pick (.t 139) (.v (.bool true)) (.t 142)⟩])
  (.cond (.t 143)
  (.seq (.ops [⟨(some 4), none, .mov (.v (.bool false))⟩])
  .ret)
  .skip))))
  (.seq (.ops [⟨(some 145), none, .bin .eql (.t 68) (.v (.int .i64 3))⟩,
    ⟨(some 144), none, .mov (.t 145)⟩])
  (.cond (.t 144)
  (.seq (.dcall [⟨(some 146), none, .mov (.t 5)⟩,
    ⟨(some 147), none, .fld 1 (.t 10)⟩,
    ⟨(some 148), none, .load (.t 147)⟩,
    ⟨(some 149), none, .fld 2 (.t 10)⟩,
    ⟨(some 150), none, .load (.t 149)⟩,
    ⟨(some 151), none, .fld 4 (.t 10)⟩,
    ⟨(some 152), none, .load (.t 151)⟩,
    ⟨(some 153), none, .call 13 [(.t 146), (.t 148), (.t 150), (.t 152)]⟩,
    ⟨(some 154), none, .mov (.t 7)⟩,
    ⟨(some 155), none, .fld 1 (.t 10)⟩,
    ⟨(some 156), none, .load (.t 155)⟩,
    ⟨(some 157), none, .fld 2 (.t 10)⟩,
    ⟨(some 158), none, .load (.t 157)⟩,
    ⟨(some 159), none, .fld 4 (.t 10)⟩,
    ⟨(some 160), none, .load (.t 159)⟩,
    ⟨(some 161), none, .call 19 [(.t 154), (.t 156), (.t 158), (.t 160)]⟩,
    ⟨(some 162), none, .bin .neq (.t 153) (.t 161)⟩])
  (.cond (.t 162)
  (.seq (.ops [⟨(some 4), none, .mov (.v (.bool false))⟩])
  .ret)
  .skip))
  (.seq (.ops [⟨(some 69), none, .mov (.t 5)⟩,
    ⟨(some 70), none, .call 20 [(.t 69)]⟩,
    ⟨(some 19), none, .mov (.t 70)⟩])
  (.seq (.ops [⟨(some 71), none, .mov (.t 7)⟩,
    ⟨(some 72), none, .call 21 [(.t 71)]⟩,
    ⟨(some 20), none, .mov (.t 72)⟩])
  (.seq (.ops [⟨(some 73), none, .mov (.t 5)⟩,
    ⟨(some 74), none, .call 10 [(.t 73)]⟩])
  (.seq (.ops [⟨(some 75), none, .mov (.t 5)⟩,
    ⟨(some 76), none, .call 13 [(.t 75), (.v (.int .i64 1)), (.v (.int .i64 0)), (.v (.string (bs [120])))]⟩])
  (.seq (.ops [⟨(some 77), none, .mov (.t 19)⟩,
    ⟨(some 5), none, .mov (.t 77)⟩])
  (.seq (.ops [⟨(some 78), none, .mov (.t 20)⟩,
    ⟨(some 7), none, .mov (.t 78)⟩])
  (.seq (.ops [⟨(some 79), none, .mov (.t 5)⟩,
    ⟨(some 80), none, .eq 0 false (.t 79) (.v (.pointer none))⟩])
  (.cond (.t 80)
  (.seq (.ops [⟨(some 4), none, .mov (.v (.bool false))⟩])
  .ret)
  .skip))))))))))))))))))
  (.seq (.ops [⟨(some 164), none, .mov (.t 5)⟩,
    ⟨(some 165), none, .fld 1 (.t 10)⟩,
    ⟨(some 166), none, .load (.t 165)⟩,
    ⟨(some 167), none, .call 14 [(.t 164), (.t 166), (.v (.int .i64 0)), (.v (.int .i64 64))]⟩,
    ⟨(some 163), none, .mov (.t 167)⟩,
    ⟨(some 168), none, .ext 0 (.t 163)⟩,
    ⟨(some 169), none, .ext 1 (.t 163)⟩,
    ⟨(some 21), none, .mov (.t 168)⟩,
    ⟨(some 22), none, .mov (.t 169)⟩])
  (.seq (.ops [⟨(some 171), none, .mov (.t 7)⟩,
    ⟨(some 172), none, .fld 1 (.t 10)⟩,
    ⟨(some 173), none, .load (.t 172)⟩,
    ⟨(some 174), none, .call 18 [(.t 171), (.t 173), (.v (.int .i64 0)), (.v (.int .i64 64))]⟩,
    ⟨(some 170), none, .mov (.t 174)⟩,
    ⟨(some 175), none, .ext 0 (.t 170)⟩,
    ⟨(some 176), none, .ext 1 (.t 170)⟩,
    ⟨(some 23), none, .mov (.t 175)⟩,
    ⟨(some 24), none, .mov (.t 176)⟩])
  (.seq (.ops [⟨(some 177), none, .mov (.t 21)⟩,
    ⟨(some 178), none, .mov (.t 23)⟩,
    ⟨(some 179), none, .bin .neq (.t 177) (.t 178)⟩,
    ⟨(some 180), none, .mov (.t 179)⟩,
    ⟨(some 181), (some (180, false)), .mov (.t 22)⟩,
    ⟨(some 182), (some (180, false)), .mov (.t 24)⟩,
    ⟨(some 183), (some (180, false)), .bin .neq (.t 181) (.t 182)⟩,
    ⟨(some 184), none, .pick (.t 180) (.v (.bool true)) (.t 183)⟩,
    ⟨(some 185), none, .mov (.t 184)⟩,
    ⟨(some 186), (some (185, false)), .mov (.t 5)⟩,
    ⟨(some 187), (some (185, false)), .call 12 [(.t 186)]⟩,
    ⟨(some 188), (some (185, false)), .mov (.t 7)⟩,
    ⟨(some 189), (some (185, false)), .call 22 [(.t 188)]⟩,
    ⟨(some 190), (some (185, false)), .bin .neq (.t 187) (.t 189)⟩,
    ⟨(some 191), none, .pick (.t 185) (.v (.bool true)) (.t 190)⟩])
  (.cond (.t 191)
  (.seq (.ops [⟨(some 4), none, .mov (.v (.bool false))⟩])
  .ret)
  .skip))))))))
  (.ops [⟨(some 56), none, .mov (.t 9)⟩,
    ⟨(some 57), none, .bin .add (.t 56) (.v (.int .i64 1))⟩,
    ⟨(some 9), none, .mov (.t 57)⟩]))))))
  (.seq (.ops [⟨(some 192), none, .call 8 []⟩,
    ⟨(some 4), none, .mov (.t 192)⟩])
  .ret)))))))⟩
theorem c6_ok : trF Try.prog 6 = some c6 := by kernel_rfl
theorem k6_ok : okFn Try.prog 6 = true := by kernel_rfl

/- conch conchlaw11.BlocksNil -/
def c7 : SF := ⟨56, 2, [.t 4],
  (.seq (.ops [⟨(some 4), none, .mov (.v (.bool false))⟩])
  (.seq (.ops [⟨(some 5), none, .mov (.v (.pointer none))⟩])
  (.seq (.ops [⟨(some 11), none, .mov (.t 5)⟩,
    ⟨(some 12), none, .call 10 [(.t 11)]⟩,
    ⟨(some 10), none, .mov (.t 12)⟩,
    ⟨(some 13), none, .ext 0 (.t 10)⟩,
    ⟨(some 14), none, .ext 1 (.t 10)⟩,
    ⟨(some 6), none, .mov (.t 13)⟩,
    ⟨(some 7), none, .mov (.t 14)⟩])
  (.seq (.ops [⟨(some 16), none, .mov (.t 5)⟩,
    ⟨(some 17), none, .mov (.t 0)⟩,
    ⟨(some 18), none, .mov (.t 0)⟩,
    ⟨(some 19), none, .mov (.t 0)⟩,
    ⟨(some 20), none, .call 14 [(.t 16), (.t 17), (.t 18), (.t 19)]⟩,
    ⟨(some 15), none, .mov (.t 20)⟩,
    ⟨(some 21), none, .ext 0 (.t 15)⟩,
    ⟨(some 22), none, .ext 1 (.t 15)⟩,
    ⟨(some 8), none, .mov (.t 21)⟩,
    ⟨(some 9), none, .mov (.t 22)⟩])
  (.seq (.ops [⟨(some 23), none, .mov (.t 7)⟩,
    ⟨(some 24), none, .bin .eql (.t 23) (.v (.int .i64 2))⟩,
    ⟨(some 25), none, .mov (.t 24)⟩,
    ⟨(some 26), (some (25, true)), .mov (.t 5)⟩,
    ⟨(some 27), (some (25, true)), .mov (.t 0)⟩,
    ⟨(some 28), (some (25, true)), .call 11 [(.t 26), (.t 27)]⟩,
    ⟨(some 29), (some (25, true)), .bin .eql (.t 28) (.v (.int .i64 2))⟩,
    ⟨(some 30), none, .pick (.t 25) (.t 29) (.v (.bool false))⟩,
    ⟨(some 31), none, .mov (.t 30)⟩,
    ⟨(some 32), (some (31, true)), .mov (.t 9)⟩,
    ⟨(some 33), (some (31, true)), .bin .eql (.t 32) (.v (.int .i64 2))⟩,
    ⟨(some 34), none, .pick (.t 31) (.t 33) (.v (.bool false))⟩,
    ⟨(some 35), none, .mov (.t 34)⟩,
    ⟨(some 36), (some (35, true)), .mov (.t 5)⟩,
    ⟨(some 37), (some (35, true)), .mov (.t 0)⟩,
    ⟨(some 38), (some (35, true)), .mov (.t 0)⟩,
    ⟨(some 39), (some (35, true)), .mov (.t 1)⟩,
    ⟨(some 40), (some (35, true)), .call 13 [(.t 36), (.t 37), (.t 38), (.t 39)]⟩,
    ⟨(some 41), (some (35, true)), .bin .eql (.t 40) (.v (.int .i64 2))⟩,
    ⟨(some 42), none, .pick (.t 35) (.t 41) (.v (.bool false))⟩,
    ⟨(some 43), none, .mov (.t 42)⟩,
    ⟨(some 44), (some (43, true)), .mov (.t 5)⟩,
    ⟨(some 45), (some (43, true)), .call 12 [(.t 44)]⟩,
    ⟨(some 46), (some (43, true)), .bin .eql (.t 45) (.v (.int .i64 0))⟩,
    ⟨(some 47), none, .pick (.t 43) (.t 46) (.v (.bool false))⟩,
    ⟨(some 48), none, .mov (.t 47)⟩,
    ⟨(some 49), (some (48, true)), .mov (.t 5)⟩,
    ⟨(some 50), (some (48, true)), .call 20 [(.t 49)]⟩,
    ⟨(some 51), (some (48, true)), .eq 0 false (.t 50) (.v (.pointer none))⟩,
    ⟨(some 52), none, .pick (.t 48) (.t 51) (.v (.bool false))⟩,
    ⟨(some 53), none, .mov (.t 52)⟩,
    ⟨(some 54), (some (53, true)), .call 8 []⟩,
    ⟨(some 55), none, .pick (.t 53) (.t 54) (.v (.bool false))⟩,
    ⟨(some 4), none, .mov (.t 55)⟩])
  .ret)))))⟩
theorem c7_ok : trF Try.prog 7 = some c7 := by kernel_rfl
theorem k7_ok : okFn Try.prog 7 = true := by kernel_rfl

/- conch conchlaw11.awake -/
def c8 : SF := ⟨83, 0, [.t 0],
  (.seq (.ops [⟨(some 0), none, .mov (.v (.bool false))⟩])
  (.seq (.ops [⟨(some 16), none, .call 9 [(.v (.int .i64 2))]⟩,
    ⟨(some 15), none, .mov (.t 16)⟩,
    ⟨(some 17), none, .ext 0 (.t 15)⟩,
    ⟨(some 18), none, .ext 1 (.t 15)⟩,
    ⟨(some 1), none, .mov (.t 17)⟩,
    ⟨(some 2), none, .mov (.t 18)⟩])
  (.seq (.seq (.ops [⟨(some 19), none, .mov (.t 2)⟩,
    ⟨(some 20), none, .bin .neq (.t 19) (.v (.int .i64 0))⟩,
    ⟨(some 21), none, .mov (.t 20)⟩,
    ⟨(some 22), (some (21, false)), .mov (.t 1)⟩,
    ⟨(some 23), (some (21, false)), .eq 0 false (.t 22) (.v (.pointer none))⟩,
    ⟨(some 24), none, .pick (.t 21) (.v (.bool true)) (.t 23)⟩])
  (.cond (.t 24)
  (.seq (.ops [⟨(some 0), none, .mov (.v (.bool false))⟩])
  .ret)
  .skip))
  (.seq (.ops [⟨(some 26), none, .mov (.t 1)⟩,
    ⟨(some 27), none, .call 10 [(.t 26)]⟩,
    ⟨(some 25), none, .mov (.t 27)⟩,
    ⟨(some 28), none, .ext 0 (.t 25)⟩,
    ⟨(some 29), none, .ext 1 (.t 25)⟩,
    ⟨(some 3), none, .mov (.t 28)⟩,
    ⟨(some 4), none, .mov (.t 29)⟩])
  (.seq (.ops [⟨(some 31), none, .mov (.t 1)⟩,
    ⟨(some 32), none, .call 10 [(.t 31)]⟩,
    ⟨(some 30), none, .mov (.t 32)⟩,
    ⟨(some 33), none, .ext 0 (.t 30)⟩,
    ⟨(some 34), none, .ext 1 (.t 30)⟩,
    ⟨(some 5), none, .mov (.t 33)⟩,
    ⟨(some 6), none, .mov (.t 34)⟩])
  (.seq (.ops [⟨(some 36), none, .mov (.t 1)⟩,
    ⟨(some 37), none, .call 10 [(.t 36)]⟩,
    ⟨(some 35), none, .mov (.t 37)⟩,
    ⟨(some 38), none, .ext 0 (.t 35)⟩,
    ⟨(some 39), none, .ext 1 (.t 35)⟩,
    ⟨(some 7), none, .mov (.t 38)⟩,
    ⟨(some 8), none, .mov (.t 39)⟩])
  (.seq (.ops [⟨(some 40), none, .mov (.t 1)⟩,
    ⟨(some 41), none, .call 11 [(.t 40), (.v (.int .i64 1))]⟩])
  (.seq (.ops [⟨(some 43), none, .mov (.t 1)⟩,
    ⟨(some 44), none, .call 10 [(.t 43)]⟩,
    ⟨(some 42), none, .mov (.t 44)⟩,
    ⟨(some 45), none, .ext 0 (.t 42)⟩,
    ⟨(some 46), none, .ext 1 (.t 42)⟩,
    ⟨(some 9), none, .mov (.t 45)⟩,
    ⟨(some 10), none, .mov (.t 46)⟩])
  (.seq (.ops [⟨(some 48), none, .mov (.t 1)⟩,
    ⟨(some 49), none, .call 14 [(.t 48), (.v (.int .i64 1)), (.v (.int .i64 64)), (.v (.int .i64 1))]⟩,
    ⟨(some 47), none, .mov (.t 49)⟩,
    ⟨(some 50), none, .ext 0 (.t 47)⟩,
    ⟨(some 51), none, .ext 1 (.t 47)⟩,
    ⟨(some 11), none, .mov (.t 50)⟩,
    ⟨(some 12), none, .mov (.t 51)⟩])
  (.seq (.ops [⟨(some 53), none, .mov (.t 1)⟩,
    ⟨(some 54), none, .call 14 [(.t 53), (.v (.int .i64 1)), (.v (.int .i64 63)), (.v (.int .i64 1))]⟩,
    ⟨(some 52), none, .mov (.t 54)⟩,
    ⟨(some 55), none, .ext 0 (.t 52)⟩,
    ⟨(some 56), none, .ext 1 (.t 52)⟩,
    ⟨(some 13), none, .mov (.t 55)⟩,
    ⟨(some 14), none, .mov (.t 56)⟩])
  (.seq (.ops [⟨(some 57), none, .mov (.t 3)⟩,
    ⟨(some 58), none, .bin .eql (.t 57) (.v (.int .i64 1))⟩,
    ⟨(some 59), none, .mov (.t 58)⟩,
    ⟨(some 60), (some (59, true)), .mov (.t 5)⟩,
    ⟨(some 61), (some (59, true)), .bin .eql (.t 60) (.v (.int .i64 2))⟩,
    ⟨(some 62), none, .pick (.t 59) (.t 61) (.v (.bool false))⟩,
    ⟨(some 63), none, .mov (.t 62)⟩,
    ⟨(some 64), (some (63, true)), .mov (.t 8)⟩,
    ⟨(some 65), (some (63, true)), .bin .eql (.t 64) (.v (.int .i64 20))⟩,
    ⟨(some 66), none, .pick (.t 63) (.t 65) (.v (.bool false))⟩,
    ⟨(some 67), none, .mov (.t 66)⟩,
    ⟨(some 68), (some (67, true)), .mov (.t 9)⟩,
    ⟨(some 69), (some (67, true)), .bin .eql (.t 68) (.v (.int .i64 1))⟩,
    ⟨(some 70), none, .pick (.t 67) (.t 69) (.v (.bool false))⟩,
    ⟨(some 71), none, .mov (.t 70)⟩,
    ⟨(some 72), (some (71, true)), .mov (.t 12)⟩,
    ⟨(some 73), (some (71, true)), .bin .eql (.t 72) (.v (.int .i64 1))⟩,
    ⟨(some 74), none, .pick (.t 71) (.t 73) (.v (.bool false))⟩,
    ⟨(some 75), none, .mov (.t 74)⟩,
    ⟨(some 76), (some (75, true)), .mov (.t 13)⟩,
    ⟨(some 77), (some (75, true)), .bin .eql (.t 76) (.v (.string (bs [0])))⟩,
    ⟨(some 78), none, .pick (.t 75) (.t 77) (.v (.bool false))⟩,
    ⟨(some 79), none, .mov (.t 78)⟩,
    ⟨(some 80), (some (79, true)), .mov (.t 14)⟩,
    ⟨(some 81), (some (79, true)), .bin .eql (.t 80) (.v (.int .i64 0))⟩,
    ⟨(some 82), none, .pick (.t 79) (.t 81) (.v (.bool false))⟩,
    ⟨(some 0), none, .mov (.t 82)⟩])
  .ret)))))))))))⟩
theorem c8_ok : trF Try.prog 8 = some c8 := by kernel_rfl
theorem k8_ok : okFn Try.prog 8 = true := by kernel_rfl

/- conch blocks.New -/
def c9 : SF := ⟨15, 1, [.t 2, .t 3],
  (.seq (.ops [⟨(some 2), none, .mov (.v (.pointer none))⟩,
    ⟨(some 3), none, .mov (.v (.int .i64 0))⟩])
  (.seq (.seq (.ops [⟨(some 4), none, .mov (.t 0)⟩,
    ⟨(some 5), none, .bin .lss (.t 4) (.v (.int .i64 1))⟩,
    ⟨(some 6), none, .mov (.t 5)⟩,
    ⟨(some 7), (some (6, false)), .mov (.t 0)⟩,
    ⟨(some 8), (some (6, false)), .bin .gtr (.t 7) (.v (.int .i64 4096))⟩,
    ⟨(some 9), none, .pick (.t 6) (.v (.bool true)) (.t 8)⟩])
  (.cond (.t 9)
  (.seq (.ops [⟨(some 2), none, .mov (.v (.pointer none))⟩,
    ⟨(some 3), none, .mov (.v (.int .i64 1))⟩])
  .ret)
  .skip))
  (.seq (.ops [⟨(some 10), none, .mov (.t 0)⟩,
    ⟨(some 11), none, .mks 56 65 65 ((.bool false) :: List.replicate 64 (.int .u8 0)) (.t 10) (.t 10)⟩,
    ⟨(some 12), none, .mov (.t 0)⟩,
    ⟨(some 13), none, .build [(.slice none 0 0), (.int .i64 0)] [(0, 1, (.t 11)), (1, 1, (.t 12))]⟩,
    ⟨(some 14), none, .box 52 (.t 13)⟩,
    ⟨(some 2), none, .mov (.t 14)⟩,
    ⟨(some 3), none, .mov (.v (.int .i64 0))⟩])
  .ret)))⟩
theorem c9_ok : trF Try.prog 9 = some c9 := by kernel_rfl
theorem k9_ok : okFn Try.prog 9 = true := by kernel_rfl

/- (*conch blocks.Store).Take -/
def c10 : SF := ⟨30, 1, [.t 2, .t 3],
  (.seq (.ops [⟨(some 2), none, .mov (.v (.int .i64 0))⟩,
    ⟨(some 3), none, .mov (.v (.int .i64 0))⟩])
  (.seq (.seq (.ops [⟨(some 5), none, .mov (.t 0)⟩,
    ⟨(some 6), none, .eq 0 false (.t 5) (.v (.pointer none))⟩])
  (.cond (.t 6)
  (.seq (.ops [⟨(some 2), none, .mov (.v (.int .i64 0))⟩,
    ⟨(some 3), none, .mov (.v (.int .i64 2))⟩])
  .ret)
  .skip))
  (.seq (.ops [⟨(some 7), none, .mov (.t 0)⟩,
    ⟨(some 8), none, .nck (.t 7)⟩,
    ⟨(some 9), none, .fld 0 (.t 8)⟩,
    ⟨(some 10), none, .load (.t 9)⟩,
    ⟨(some 11), none, .call 23 [(.t 10), (.v (.func (.func 24) #[] #[]))]⟩,
    ⟨(some 4), none, .mov (.t 11)⟩])
  (.seq (.seq (.ops [⟨(some 12), none, .mov (.t 4)⟩,
    ⟨(some 13), none, .bin .lss (.t 12) (.v (.int .i64 0))⟩])
  (.cond (.t 13)
  (.seq (.ops [⟨(some 2), none, .mov (.v (.int .i64 0))⟩,
    ⟨(some 3), none, .mov (.v (.int .i64 20))⟩])
  .ret)
  .skip))
  (.seq (.ops [⟨(some 14), none, .mov (.t 0)⟩,
    ⟨(some 15), none, .nck (.t 14)⟩,
    ⟨(some 16), none, .fld 0 (.t 15)⟩,
    ⟨(some 17), none, .load (.t 16)⟩,
    ⟨(some 18), none, .mov (.t 4)⟩,
    ⟨(some 19), none, .build ((.bool false) :: List.replicate 64 (.int .u8 0)) [(0, 1, (.v (.bool true)))]⟩,
    ⟨(some 20), none, .idx 65 (.t 17) (.t 18)⟩,
    ⟨none, none, .store 65 (.t 20) (.t 19)⟩])
  (.seq (.ops [⟨(some 21), none, .mov (.t 0)⟩,
    ⟨(some 22), none, .nck (.t 21)⟩,
    ⟨(some 23), none, .fld 1 (.t 22)⟩,
    ⟨(some 24), none, .load (.t 23)⟩,
    ⟨(some 25), none, .bin .sub (.t 24) (.v (.int .i64 1))⟩,
    ⟨(some 26), none, .nck (.t 21)⟩,
    ⟨(some 27), none, .fld 1 (.t 26)⟩,
    ⟨none, none, .store 1 (.t 27) (.t 25)⟩])
  (.seq (.ops [⟨(some 28), none, .mov (.t 4)⟩,
    ⟨(some 29), none, .bin .add (.t 28) (.v (.int .i64 1))⟩,
    ⟨(some 2), none, .mov (.t 29)⟩,
    ⟨(some 3), none, .mov (.v (.int .i64 0))⟩])
  .ret)))))))⟩
theorem c10_ok : trF Try.prog 10 = some c10 := by kernel_rfl
theorem k10_ok : okFn Try.prog 10 = true := by kernel_rfl

/- (*conch blocks.Store).Give -/
def c11 : SF := ⟨23, 2, [.t 4],
  (.seq (.ops [⟨(some 4), none, .mov (.v (.int .i64 0))⟩])
  (.seq (.seq (.ops [⟨(some 6), none, .mov (.t 0)⟩,
    ⟨(some 7), none, .eq 0 false (.t 6) (.v (.pointer none))⟩])
  (.cond (.t 7)
  (.seq (.ops [⟨(some 4), none, .mov (.v (.int .i64 2))⟩])
  .ret)
  .skip))
  (.seq (.ops [⟨(some 8), none, .mov (.t 0)⟩,
    ⟨(some 9), none, .mov (.t 1)⟩,
    ⟨(some 10), none, .call 25 [(.t 8), (.t 9)]⟩,
    ⟨(some 5), none, .mov (.t 10)⟩])
  (.seq (.seq (.ops [⟨(some 11), none, .mov (.t 5)⟩,
    ⟨(some 12), none, .eq 0 false (.t 11) (.v (.pointer none))⟩])
  (.cond (.t 12)
  (.seq (.ops [⟨(some 4), none, .mov (.v (.int .i64 23))⟩])
  .ret)
  .skip))
  (.seq (.ops [⟨(some 13), none, .mov (.t 5)⟩,
    ⟨(some 14), none, .nck (.t 13)⟩,
    ⟨(some 15), none, .fld 0 (.t 14)⟩,
    ⟨none, none, .store 1 (.t 15) (.v (.bool false))⟩])
  (.seq (.ops [⟨(some 16), none, .mov (.t 0)⟩,
    ⟨(some 17), none, .nck (.t 16)⟩,
    ⟨(some 18), none, .fld 1 (.t 17)⟩,
    ⟨(some 19), none, .load (.t 18)⟩,
    ⟨(some 20), none, .bin .add (.t 19) (.v (.int .i64 1))⟩,
    ⟨(some 21), none, .nck (.t 16)⟩,
    ⟨(some 22), none, .fld 1 (.t 21)⟩,
    ⟨none, none, .store 1 (.t 22) (.t 20)⟩])
  (.seq (.ops [⟨(some 4), none, .mov (.v (.int .i64 0))⟩])
  .ret)))))))⟩
theorem c11_ok : trF Try.prog 11 = some c11 := by kernel_rfl
theorem k11_ok : okFn Try.prog 11 = true := by kernel_rfl

/- (*conch blocks.Store).Free -/
def c12 : SF := ⟨9, 1, [.t 2],
  (.seq (.ops [⟨(some 2), none, .mov (.v (.int .i64 0))⟩])
  (.seq (.seq (.ops [⟨(some 3), none, .mov (.t 0)⟩,
    ⟨(some 4), none, .eq 0 false (.t 3) (.v (.pointer none))⟩])
  (.cond (.t 4)
  (.seq (.ops [⟨(some 2), none, .mov (.v (.int .i64 0))⟩])
  .ret)
  .skip))
  (.seq (.ops [⟨(some 5), none, .mov (.t 0)⟩,
    ⟨(some 6), none, .nck (.t 5)⟩,
    ⟨(some 7), none, .fld 1 (.t 6)⟩,
    ⟨(some 8), none, .load (.t 7)⟩,
    ⟨(some 2), none, .mov (.t 8)⟩])
  .ret)))⟩
theorem c12_ok : trF Try.prog 12 = some c12 := by kernel_rfl
theorem k12_ok : okFn Try.prog 12 = true := by kernel_rfl

/- (*conch blocks.Store).Write -/
def c13 : SF := ⟨39, 4, [.t 8],
  (.seq (.ops [⟨(some 8), none, .mov (.v (.int .i64 0))⟩])
  (.seq (.seq (.ops [⟨(some 10), none, .mov (.t 0)⟩,
    ⟨(some 11), none, .eq 0 false (.t 10) (.v (.pointer none))⟩])
  (.cond (.t 11)
  (.seq (.ops [⟨(some 8), none, .mov (.v (.int .i64 2))⟩])
  .ret)
  .skip))
  (.seq (.ops [⟨(some 12), none, .mov (.t 0)⟩,
    ⟨(some 13), none, .mov (.t 1)⟩,
    ⟨(some 14), none, .call 25 [(.t 12), (.t 13)]⟩,
    ⟨(some 9), none, .mov (.t 14)⟩])
  (.seq (.blk 0 (.seq (.ops [⟨(some 16), none, .mov (.t 9)⟩,
    ⟨(some 17), none, .eq 0 false (.t 16) (.v (.pointer none))⟩,
    ⟨(some 15), none, .mov (.t 17)⟩])
  (.cond (.t 15)
  (.seq (.ops [⟨(some 8), none, .mov (.v (.int .i64 23))⟩])
  .ret)
  (.seq (.ops [⟨(some 19), none, .mov (.t 2)⟩,
    ⟨(some 20), none, .bin .lss (.t 19) (.v (.int .i64 0))⟩,
    ⟨(some 21), none, .mov (.t 20)⟩,
    ⟨(some 22), (some (21, false)), .mov (.t 2)⟩,
    ⟨(some 23), (some (21, false)), .bin .gtr (.t 22) (.v (.int .i64 64))⟩,
    ⟨(some 24), none, .pick (.t 21) (.v (.bool true)) (.t 23)⟩,
    ⟨(some 25), none, .mov (.t 24)⟩,
    ⟨(some 26), (some (25, false)), .mov (.t 3)⟩,
    ⟨(some 27), (some (25, false)), .len true (.t 26)⟩,
    ⟨(some 28), (some (25, false)), .mov (.t 2)⟩,
    ⟨(some 29), (some (25, false)), .bin .sub (.v (.int .i64 64)) (.t 28)⟩,
    ⟨(some 30), (some (25, false)), .bin .gtr (.t 27) (.t 29)⟩,
    ⟨(some 31), none, .pick (.t 25) (.v (.bool true)) (.t 30)⟩,
    ⟨(some 18), none, .mov (.t 31)⟩])
  (.cond (.t 18)
  (.seq (.ops [⟨(some 8), none, .mov (.v (.int .i64 1))⟩])
  .ret)
  .skip)))))
  (.seq (.ops [⟨(some 32), none, .mov (.t 9)⟩,
    ⟨(some 33), none, .nck (.t 32)⟩,
    ⟨(some 34), none, .fld 1 (.t 33)⟩,
    ⟨(some 35), none, .mov (.t 2)⟩,
    ⟨(some 36), none, .subA 64 1 (.t 34) (some (.t 35)) none⟩,
    ⟨(some 37), none, .mov (.t 3)⟩,
    ⟨(some 38), none, .cpy 37 9 (.t 36) (.t 37)⟩])
  (.seq (.ops [⟨(some 8), none, .mov (.v (.int .i64 0))⟩])
  .ret))))))⟩
theorem c13_ok : trF Try.prog 13 = some c13 := by kernel_rfl
theorem k13_ok : okFn Try.prog 13 = true := by kernel_rfl

/- (*conch blocks.Store).Read -/
def c14 : SF := ⟨45, 4, [.t 8, .t 9],
  (.seq (.ops [⟨(some 8), none, .mov (.v (.string (bs [])))⟩,
    ⟨(some 9), none, .mov (.v (.int .i64 0))⟩])
  (.seq (.seq (.ops [⟨(some 11), none, .mov (.t 0)⟩,
    ⟨(some 12), none, .eq 0 false (.t 11) (.v (.pointer none))⟩])
  (.cond (.t 12)
  (.seq (.ops [⟨(some 8), none, .mov (.v (.string (bs [])))⟩,
    ⟨(some 9), none, .mov (.v (.int .i64 2))⟩])
  .ret)
  .skip))
  (.seq (.ops [⟨(some 13), none, .mov (.t 0)⟩,
    ⟨(some 14), none, .mov (.t 1)⟩,
    ⟨(some 15), none, .call 25 [(.t 13), (.t 14)]⟩,
    ⟨(some 10), none, .mov (.t 15)⟩])
  (.seq (.blk 0 (.seq (.ops [⟨(some 17), none, .mov (.t 10)⟩,
    ⟨(some 18), none, .eq 0 false (.t 17) (.v (.pointer none))⟩,
    ⟨(some 16), none, .mov (.t 18)⟩])
  (.cond (.t 16)
  (.seq (.ops [⟨(some 8), none, .mov (.v (.string (bs [])))⟩,
    ⟨(some 9), none, .mov (.v (.int .i64 23))⟩])
  .ret)
  (.seq (.ops [⟨(some 20), none, .mov (.t 2)⟩,
    ⟨(some 21), none, .bin .lss (.t 20) (.v (.int .i64 0))⟩,
    ⟨(some 22), none, .mov (.t 21)⟩,
    ⟨(some 23), (some (22, false)), .mov (.t 2)⟩,
    ⟨(some 24), (some (22, false)), .bin .gtr (.t 23) (.v (.int .i64 64))⟩,
    ⟨(some 25), none, .pick (.t 22) (.v (.bool true)) (.t 24)⟩,
    ⟨(some 26), none, .mov (.t 25)⟩,
    ⟨(some 27), (some (26, false)), .mov (.t 3)⟩,
    ⟨(some 28), (some (26, false)), .bin .lss (.t 27) (.v (.int .i64 0))⟩,
    ⟨(some 29), none, .pick (.t 26) (.v (.bool true)) (.t 28)⟩,
    ⟨(some 30), none, .mov (.t 29)⟩,
    ⟨(some 31), (some (30, false)), .mov (.t 3)⟩,
    ⟨(some 32), (some (30, false)), .mov (.t 2)⟩,
    ⟨(some 33), (some (30, false)), .bin .sub (.v (.int .i64 64)) (.t 32)⟩,
    ⟨(some 34), (some (30, false)), .bin .gtr (.t 31) (.t 33)⟩,
    ⟨(some 35), none, .pick (.t 30) (.v (.bool true)) (.t 34)⟩,
    ⟨(some 19), none, .mov (.t 35)⟩])
  (.cond (.t 19)
  (.seq (.ops [⟨(some 8), none, .mov (.v (.string (bs [])))⟩,
    ⟨(some 9), none, .mov (.v (.int .i64 1))⟩])
  .ret)
  .skip)))))
  (.seq (.ops [⟨(some 36), none, .mov (.t 10)⟩,
    ⟨(some 37), none, .nck (.t 36)⟩,
    ⟨(some 38), none, .fld 1 (.t 37)⟩,
    ⟨(some 39), none, .mov (.t 2)⟩,
    ⟨(some 40), none, .mov (.t 2)⟩,
    ⟨(some 41), none, .mov (.t 3)⟩,
    ⟨(some 42), none, .bin .add (.t 40) (.t 41)⟩,
    ⟨(some 43), none, .subA 64 1 (.t 38) (some (.t 39)) (some (.t 42))⟩,
    ⟨(some 44), none, .cvBS (.t 43)⟩,
    ⟨(some 8), none, .mov (.t 44)⟩,
    ⟨(some 9), none, .mov (.v (.int .i64 0))⟩])
  .ret)))))⟩
theorem c14_ok : trF Try.prog 14 = some c14 := by kernel_rfl
theorem k14_ok : okFn Try.prog 14 = true := by kernel_rfl

/- conch conchref11.New -/
def c15 : SF := ⟨15, 1, [.t 2, .t 3],
  (.seq (.ops [⟨(some 2), none, .mov (.v (.pointer none))⟩,
    ⟨(some 3), none, .mov (.v (.int .i64 0))⟩])
  (.seq (.seq (.ops [⟨(some 4), none, .mov (.t 0)⟩,
    ⟨(some 5), none, .bin .lss (.t 4) (.v (.int .i64 1))⟩,
    ⟨(some 6), none, .mov (.t 5)⟩,
    ⟨(some 7), (some (6, false)), .mov (.t 0)⟩,
    ⟨(some 8), (some (6, false)), .bin .gtr (.t 7) (.v (.int .i64 4096))⟩,
    ⟨(some 9), none, .pick (.t 6) (.v (.bool true)) (.t 8)⟩])
  (.cond (.t 9)
  (.seq (.ops [⟨(some 2), none, .mov (.v (.pointer none))⟩,
    ⟨(some 3), none, .mov (.v (.int .i64 1))⟩])
  .ret)
  .skip))
  (.seq (.ops [⟨(some 10), none, .mov (.t 0)⟩,
    ⟨(some 11), none, .bin .add (.t 10) (.v (.int .i64 1))⟩,
    ⟨(some 12), none, .mks 9 1 16 [(.string (bs []))] (.t 11) (.t 11)⟩,
    ⟨(some 13), none, .build [(.slice none 0 0)] [(0, 1, (.t 12))]⟩,
    ⟨(some 14), none, .box 62 (.t 13)⟩,
    ⟨(some 2), none, .mov (.t 14)⟩,
    ⟨(some 3), none, .mov (.v (.int .i64 0))⟩])
  .ret)))⟩
theorem c15_ok : trF Try.prog 15 = some c15 := by kernel_rfl
theorem k15_ok : okFn Try.prog 15 = true := by kernel_rfl

/- (*conch conchref11.Store).Take -/
/- loops write: [[(2, 29)]] -/
def c16 : SF := ⟨30, 1, [.t 2, .t 3],
  (.seq (.ops [⟨(some 2), none, .mov (.v (.int .i64 0))⟩,
    ⟨(some 3), none, .mov (.v (.int .i64 0))⟩])
  (.seq (.seq (.ops [⟨(some 4), none, .mov (.v (.int .i64 1))⟩])
  (.blk 0 (.loop (.seq (.seq (.ops [⟨(some 5), none, .mov (.t 4)⟩,
    ⟨(some 6), none, .mov (.t 0)⟩,
    ⟨(some 7), none, .nck (.t 6)⟩,
    ⟨(some 8), none, .fld 0 (.t 7)⟩,
    ⟨(some 9), none, .load (.t 8)⟩,
    ⟨(some 10), none, .len false (.t 9)⟩,
    ⟨(some 11), none, .bin .lss (.t 5) (.t 10)⟩])
  (.cond (.t 11)
  .skip
  (.exit 0)))
  (.seq (.blk 1 (.seq (.ops [⟨(some 14), none, .mov (.t 0)⟩,
    ⟨(some 15), none, .nck (.t 14)⟩,
    ⟨(some 16), none, .fld 0 (.t 15)⟩,
    ⟨(some 17), none, .load (.t 16)⟩,
    ⟨(some 18), none, .mov (.t 4)⟩,
    ⟨(some 19), none, .idx 1 (.t 17) (.t 18)⟩,
    ⟨(some 20), none, .load (.t 19)⟩,
    ⟨(some 21), none, .bin .eql (.t 20) (.v (.string (bs [])))⟩])
  (.cond (.t 21)
  (.seq (.dcall [⟨(some 22), none, .mov (.t 0)⟩,
    ⟨(some 23), none, .nck (.t 22)⟩,
    ⟨(some 24), none, .fld 0 (.t 23)⟩,
    ⟨(some 25), none, .load (.t 24)⟩,
    ⟨(some 26), none, .mov (.t 4)⟩,
    ⟨(some 27), none, .call 26 [(.v (.int .i64 64))]⟩,
    ⟨(some 28), none, .idx 1 (.t 25) (.t 26)⟩,
    ⟨none, none, .store 1 (.t 28) (.t 27)⟩])
  (.seq (.ops [⟨(some 29), none, .mov (.t 4)⟩,
    ⟨(some 2), none, .mov (.t 29)⟩,
    ⟨(some 3), none, .mov (.v (.int .i64 0))⟩])
  .ret))
  .skip)))
  (.ops [⟨(some 12), none, .mov (.t 4)⟩,
    ⟨(some 13), none, .bin .add (.t 12) (.v (.int .i64 1))⟩,
    ⟨(some 4), none, .mov (.t 13)⟩]))))))
  (.seq (.ops [⟨(some 2), none, .mov (.v (.int .i64 0))⟩,
    ⟨(some 3), none, .mov (.v (.int .i64 20))⟩])
  .ret)))⟩
theorem c16_ok : trF Try.prog 16 = some c16 := by kernel_rfl
theorem k16_ok : okFn Try.prog 16 = true := by kernel_rfl

/- (*conch conchref11.Store).Give -/
def c17 : SF := ⟨15, 2, [.t 4],
  (.seq (.ops [⟨(some 4), none, .mov (.v (.int .i64 0))⟩])
  (.seq (.seq (.ops [⟨(some 5), none, .mov (.t 0)⟩,
    ⟨(some 6), none, .mov (.t 1)⟩,
    ⟨(some 7), none, .call 27 [(.t 5), (.t 6)]⟩,
    ⟨(some 8), none, .un .not (.t 7)⟩])
  (.cond (.t 8)
  (.seq (.ops [⟨(some 4), none, .mov (.v (.int .i64 23))⟩])
  .ret)
  .skip))
  (.seq (.ops [⟨(some 9), none, .mov (.t 0)⟩,
    ⟨(some 10), none, .nck (.t 9)⟩,
    ⟨(some 11), none, .fld 0 (.t 10)⟩,
    ⟨(some 12), none, .load (.t 11)⟩,
    ⟨(some 13), none, .mov (.t 1)⟩,
    ⟨(some 14), none, .idx 1 (.t 12) (.t 13)⟩,
    ⟨none, none, .store 1 (.t 14) (.v (.string (bs [])))⟩])
  (.seq (.ops [⟨(some 4), none, .mov (.v (.int .i64 0))⟩])
  .ret))))⟩
theorem c17_ok : trF Try.prog 17 = some c17 := by kernel_rfl
theorem k17_ok : okFn Try.prog 17 = true := by kernel_rfl

/- (*conch conchref11.Store).Read -/
def c18 : SF := ⟨42, 4, [.t 8, .t 9],
  (.seq (.ops [⟨(some 8), none, .mov (.v (.string (bs [])))⟩,
    ⟨(some 9), none, .mov (.v (.int .i64 0))⟩])
  (.seq (.seq (.ops [⟨(some 10), none, .mov (.t 0)⟩,
    ⟨(some 11), none, .mov (.t 1)⟩,
    ⟨(some 12), none, .call 27 [(.t 10), (.t 11)]⟩,
    ⟨(some 13), none, .un .not (.t 12)⟩])
  (.cond (.t 13)
  (.seq (.ops [⟨(some 8), none, .mov (.v (.string (bs [])))⟩,
    ⟨(some 9), none, .mov (.v (.int .i64 23))⟩])
  .ret)
  .skip))
  (.seq (.seq (.ops [⟨(some 14), none, .mov (.t 2)⟩,
    ⟨(some 15), none, .bin .lss (.t 14) (.v (.int .i64 0))⟩,
    ⟨(some 16), none, .mov (.t 15)⟩,
    ⟨(some 17), (some (16, false)), .mov (.t 3)⟩,
    ⟨(some 18), (some (16, false)), .bin .lss (.t 17) (.v (.int .i64 0))⟩,
    ⟨(some 19), none, .pick (.t 16) (.v (.bool true)) (.t 18)⟩,
    ⟨(some 20), none, .mov (.t 19)⟩,
    ⟨(some 21), (some (20, false)), .mov (.t 2)⟩,
    ⟨(some 22), (some (20, false)), .bin .gtr (.t 21) (.v (.int .i64 64))⟩,
    ⟨(some 23), none, .pick (.t 20) (.v (.bool true)) (.t 22)⟩,
    ⟨(some 24), none, .mov (.t 23)⟩,
    ⟨(some 25), (some (24, false)), .mov (.t 3)⟩,
    ⟨(some 26), (some (24, false)), .mov (.t 2)⟩,
    ⟨(some 27), (some (24, false)), .bin .sub (.v (.int .i64 64)) (.t 26)⟩,
    ⟨(some 28), (some (24, false)), .bin .gtr (.t 25) (.t 27)⟩,
    ⟨(some 29), none, .pick (.t 24) (.v (.bool true)) (.t 28)⟩])
  (.cond (.t 29)
  (.seq (.ops [⟨(some 8), none, .mov (.v (.string (bs [])))⟩,
    ⟨(some 9), none, .mov (.v (.int .i64 1))⟩])
  .ret)
  .skip))
  (.seq (.ops [⟨(some 30), none, .mov (.t 0)⟩,
    ⟨(some 31), none, .nck (.t 30)⟩,
    ⟨(some 32), none, .fld 0 (.t 31)⟩,
    ⟨(some 33), none, .load (.t 32)⟩,
    ⟨(some 34), none, .mov (.t 1)⟩,
    ⟨(some 35), none, .idx 1 (.t 33) (.t 34)⟩,
    ⟨(some 36), none, .load (.t 35)⟩,
    ⟨(some 37), none, .mov (.t 2)⟩,
    ⟨(some 38), none, .mov (.t 2)⟩,
    ⟨(some 39), none, .mov (.t 3)⟩,
    ⟨(some 40), none, .bin .add (.t 38) (.t 39)⟩,
    ⟨(some 41), none, .subS (.t 36) (some (.t 37)) (some (.t 40))⟩,
    ⟨(some 8), none, .mov (.t 41)⟩,
    ⟨(some 9), none, .mov (.v (.int .i64 0))⟩])
  .ret))))⟩
theorem c18_ok : trF Try.prog 18 = some c18 := by kernel_rfl
theorem k18_ok : okFn Try.prog 18 = true := by kernel_rfl

/- (*conch conchref11.Store).Write -/
def c19 : SF := ⟨56, 4, [.t 8],
  (.seq (.ops [⟨(some 8), none, .mov (.v (.int .i64 0))⟩])
  (.seq (.seq (.ops [⟨(some 9), none, .mov (.t 0)⟩,
    ⟨(some 10), none, .mov (.t 1)⟩,
    ⟨(some 11), none, .call 27 [(.t 9), (.t 10)]⟩,
    ⟨(some 12), none, .un .not (.t 11)⟩])
  (.cond (.t 12)
  (.seq (.ops [⟨(some 8), none, .mov (.v (.int .i64 23))⟩])
  .ret)
  .skip))
  (.seq (.seq (.ops [⟨(some 13), none, .mov (.t 2)⟩,
    ⟨(some 14), none, .bin .lss (.t 13) (.v (.int .i64 0))⟩,
    ⟨(some 15), none, .mov (.t 14)⟩,
    ⟨(some 16), (some (15, false)), .mov (.t 2)⟩,
    ⟨(some 17), (some (15, false)), .bin .gtr (.t 16) (.v (.int .i64 64))⟩,
    ⟨(some 18), none, .pick (.t 15) (.v (.bool true)) (.t 17)⟩,
    ⟨(some 19), none, .mov (.t 18)⟩,
    ⟨(some 20), (some (19, false)), .mov (.t 3)⟩,
    ⟨(some 21), (some (19, false)), .len true (.t 20)⟩,
    ⟨(some 22), (some (19, false)), .mov (.t 2)⟩,
    ⟨(some 23), (some (19, false)), .bin .sub (.v (.int .i64 64)) (.t 22)⟩,
    ⟨(some 24), (some (19, false)), .bin .gtr (.t 21) (.t 23)⟩,
    ⟨(some 25), none, .pick (.t 19) (.v (.bool true)) (.t 24)⟩])
  (.cond (.t 25)
  (.seq (.ops [⟨(some 8), none, .mov (.v (.int .i64 1))⟩])
  .ret)
  .skip))
  (.seq (.dcall [⟨(some 26), none, .mov (.t 0)⟩,
    ⟨(some 27), none, .nck (.t 26)⟩,
    ⟨(some 28), none, .fld 0 (.t 27)⟩,
    ⟨(some 29), none, .load (.t 28)⟩,
    ⟨(some 30), none, .mov (.t 1)⟩,
    ⟨(some 31), none, .mov (.t 0)⟩,
    ⟨(some 32), none, .nck (.t 31)⟩,
    ⟨(some 33), none, .fld 0 (.t 32)⟩,
    ⟨(some 34), none, .load (.t 33)⟩,
    ⟨(some 35), none, .mov (.t 1)⟩,
    ⟨(some 36), none, .idx 1 (.t 34) (.t 35)⟩,
    ⟨(some 37), none, .load (.t 36)⟩,
    ⟨(some 38), none, .mov (.t 2)⟩,
    ⟨(some 39), none, .subS (.t 37) none (some (.t 38))⟩,
    ⟨(some 40), none, .mov (.t 3)⟩,
    ⟨(some 41), none, .bin .add (.t 39) (.t 40)⟩,
    ⟨(some 42), none, .mov (.t 0)⟩,
    ⟨(some 43), none, .nck (.t 42)⟩,
    ⟨(some 44), none, .fld 0 (.t 43)⟩,
    ⟨(some 45), none, .load (.t 44)⟩,
    ⟨(some 46), none, .mov (.t 1)⟩,
    ⟨(some 47), none, .idx 1 (.t 45) (.t 46)⟩,
    ⟨(some 48), none, .load (.t 47)⟩,
    ⟨(some 49), none, .mov (.t 2)⟩,
    ⟨(some 50), none, .mov (.t 3)⟩,
    ⟨(some 51), none, .len true (.t 50)⟩,
    ⟨(some 52), none, .bin .add (.t 49) (.t 51)⟩,
    ⟨(some 53), none, .subS (.t 48) (some (.t 52)) none⟩,
    ⟨(some 54), none, .bin .add (.t 41) (.t 53)⟩,
    ⟨(some 55), none, .idx 1 (.t 29) (.t 30)⟩,
    ⟨none, none, .store 1 (.t 55) (.t 54)⟩])
  (.seq (.ops [⟨(some 8), none, .mov (.v (.int .i64 0))⟩])
  .ret)))))⟩
theorem c19_ok : trF Try.prog 19 = some c19 := by kernel_rfl
theorem k19_ok : okFn Try.prog 19 = true := by kernel_rfl

/- (*conch blocks.Store).Copy -/
def c20 : SF := ⟨16, 1, [.t 2],
  (.seq (.ops [⟨(some 2), none, .mov (.v (.pointer none))⟩])
  (.seq (.seq (.ops [⟨(some 3), none, .mov (.t 0)⟩,
    ⟨(some 4), none, .eq 0 false (.t 3) (.v (.pointer none))⟩])
  (.cond (.t 4)
  (.seq (.ops [⟨(some 2), none, .mov (.v (.pointer none))⟩])
  .ret)
  .skip))
  (.seq (.dcall [⟨(some 5), none, .mov (.t 0)⟩,
    ⟨(some 6), none, .nck (.t 5)⟩,
    ⟨(some 7), none, .fld 0 (.t 6)⟩,
    ⟨(some 8), none, .load (.t 7)⟩,
    ⟨(some 9), none, .call 28 [(.t 8)]⟩,
    ⟨(some 10), none, .mov (.t 0)⟩,
    ⟨(some 11), none, .nck (.t 10)⟩,
    ⟨(some 12), none, .fld 1 (.t 11)⟩,
    ⟨(some 13), none, .load (.t 12)⟩,
    ⟨(some 14), none, .build [(.slice none 0 0), (.int .i64 0)] [(0, 1, (.t 9)), (1, 1, (.t 13))]⟩,
    ⟨(some 15), none, .box 52 (.t 14)⟩,
    ⟨(some 2), none, .mov (.t 15)⟩])
  .ret)))⟩
theorem c20_ok : trF Try.prog 20 = some c20 := by kernel_rfl
theorem k20_ok : okFn Try.prog 20 = true := by kernel_rfl

/- (*conch conchref11.Store).Copy -/
def c21 : SF := ⟨12, 1, [.t 2],
  (.seq (.ops [⟨(some 2), none, .mov (.v (.pointer none))⟩])
  (.seq (.ops [⟨(some 3), none, .mov (.v (.slice none 0 0))⟩])
  (.seq (.ops [⟨(some 4), none, .mov (.t 3)⟩,
    ⟨(some 5), none, .mov (.t 0)⟩,
    ⟨(some 6), none, .nck (.t 5)⟩,
    ⟨(some 7), none, .fld 0 (.t 6)⟩,
    ⟨(some 8), none, .load (.t 7)⟩,
    ⟨(some 9), none, .app 60 60 (.t 4) (.t 8)⟩,
    ⟨(some 10), none, .build [(.slice none 0 0)] [(0, 1, (.t 9))]⟩,
    ⟨(some 11), none, .box 62 (.t 10)⟩,
    ⟨(some 2), none, .mov (.t 11)⟩])
  .ret)))⟩
theorem c21_ok : trF Try.prog 21 = some c21 := by kernel_rfl
theorem k21_ok : okFn Try.prog 21 = true := by kernel_rfl

/- (*conch conchref11.Store).Free -/
/- loops write: [[(3, 23)]] -/
def c22 : SF := ⟨25, 1, [.t 2],
  (.seq (.ops [⟨(some 2), none, .mov (.v (.int .i64 0))⟩])
  (.seq (.ops [⟨(some 3), none, .mov (.v (.int .i64 0))⟩])
  (.seq (.seq (.ops [⟨(some 4), none, .mov (.v (.int .i64 1))⟩])
  (.blk 0 (.loop (.seq (.seq (.ops [⟨(some 5), none, .mov (.t 4)⟩,
    ⟨(some 6), none, .mov (.t 0)⟩,
    ⟨(some 7), none, .nck (.t 6)⟩,
    ⟨(some 8), none, .fld 0 (.t 7)⟩,
    ⟨(some 9), none, .load (.t 8)⟩,
    ⟨(some 10), none, .len false (.t 9)⟩,
    ⟨(some 11), none, .bin .lss (.t 5) (.t 10)⟩])
  (.cond (.t 11)
  .skip
  (.exit 0)))
  (.seq (.blk 1 (.seq (.ops [⟨(some 14), none, .mov (.t 0)⟩,
    ⟨(some 15), none, .nck (.t 14)⟩,
    ⟨(some 16), none, .fld 0 (.t 15)⟩,
    ⟨(some 17), none, .load (.t 16)⟩,
    ⟨(some 18), none, .mov (.t 4)⟩,
    ⟨(some 19), none, .idx 1 (.t 17) (.t 18)⟩,
    ⟨(some 20), none, .load (.t 19)⟩,
    ⟨(some 21), none, .bin .eql (.t 20) (.v (.string (bs [])))⟩])
  (.cond (.t 21)
  (.ops [⟨(some 22), none, .mov (.t 3)⟩,
    ⟨(some 23), none, .bin .add (.t 22) (.v (.int .i64 1))⟩,
    ⟨(some 3), none, .mov (.t 23)⟩])
  .skip)))
  (.ops [⟨(some 12), none, .mov (.t 4)⟩,
    ⟨(some 13), none, .bin .add (.t 12) (.v (.int .i64 1))⟩,
    ⟨(some 4), none, .mov (.t 13)⟩]))))))
  (.seq (.ops [⟨(some 24), none, .mov (.t 3)⟩,
    ⟨(some 2), none, .mov (.t 24)⟩])
  .ret))))⟩
theorem c22_ok : trF Try.prog 22 = some c22 := by kernel_rfl
theorem k22_ok : okFn Try.prog 22 = true := by kernel_rfl

/- slices.IndexFunc[[]conch blocks.block,conch blocks.block] -/
/- loops write: [[(4, 5), (8, 18)]] -/
def c23 : SF := ⟨19, 2, [.t 4],
  (.seq (.ops [⟨(some 4), none, .mov (.v (.int .i64 0))⟩])
  (.seq (.seq (.ops [⟨(some 6), none, .mov (.t 0)⟩,
    ⟨(some 7), none, .len false (.t 6)⟩,
    ⟨(some 8), none, .mov (.v (.int .i64 0))⟩])
  (.blk 0 (.loop (.seq (.ops [⟨(some 9), none, .bin .lss (.t 8) (.t 7)⟩])
  (.seq (.cond (.t 9)
  .skip
  (.exit 0))
  (.seq (.blk 1 (.seq (.ops [⟨(some 10), none, .mov (.t 8)⟩,
    ⟨(some 5), none, .mov (.t 10)⟩])
  (.seq (.ops [⟨(some 11), none, .mov (.t 1)⟩,
    ⟨(some 12), none, .mov (.t 0)⟩,
    ⟨(some 13), none, .mov (.t 5)⟩,
    ⟨(some 14), none, .idx 65 (.t 12) (.t 13)⟩,
    ⟨(some 15), none, .loadN 65 (.t 14)⟩,
    ⟨(some 16), none, .callv (.t 11) [(.t 15)]⟩])
  (.cond (.t 16)
  (.seq (.ops [⟨(some 17), none, .mov (.t 5)⟩,
    ⟨(some 4), none, .mov (.t 17)⟩])
  .ret)
  .skip))))
  (.ops [⟨(some 18), none, .bin .add (.t 8) (.v (.int .i64 1))⟩,
    ⟨(some 8), none, .mov (.t 18)⟩])))))))
  (.seq (.ops [⟨(some 4), none, .mov (.v (.int .i64 (-1)))⟩])
  .ret)))⟩
theorem c23_ok : trF Try.prog 23 = some c23 := by kernel_rfl
theorem k23_ok : okFn Try.prog 23 = true := by kernel_rfl

/- (*conch blocks.Store).Take$1 -/
def c24 : SF := ⟨6, 1, [.t 2],
  (.seq (.ops [⟨(some 1), none, .box 56 (.t 0)⟩,
    ⟨(some 2), none, .mov (.v (.bool false))⟩])
  (.seq (.ops [⟨(some 3), none, .fld 0 (.t 1)⟩,
    ⟨(some 4), none, .load (.t 3)⟩,
    ⟨(some 5), none, .un .not (.t 4)⟩,
    ⟨(some 2), none, .mov (.t 5)⟩])
  .ret))⟩
theorem c24_ok : trF Try.prog 24 = some c24 := by kernel_rfl
theorem k24_ok : okFn Try.prog 24 = true := by kernel_rfl

/- (*conch blocks.Store).at -/
def c25 : SF := ⟨35, 2, [.t 4],
  (.seq (.ops [⟨(some 4), none, .mov (.v (.pointer none))⟩])
  (.seq (.seq (.ops [⟨(some 5), none, .mov (.t 1)⟩,
    ⟨(some 6), none, .bin .lss (.t 5) (.v (.int .i64 1))⟩,
    ⟨(some 7), none, .mov (.t 6)⟩,
    ⟨(some 8), (some (7, false)), .mov (.t 1)⟩,
    ⟨(some 9), (some (7, false)), .mov (.t 0)⟩,
    ⟨(some 10), (some (7, false)), .nck (.t 9)⟩,
    ⟨(some 11), (some (7, false)), .fld 0 (.t 10)⟩,
    ⟨(some 12), (some (7, false)), .load (.t 11)⟩,
    ⟨(some 13), (some (7, false)), .len false (.t 12)⟩,
    ⟨(some 14), (some (7, false)), .bin .gtr (.t 8) (.t 13)⟩,
    ⟨(some 15), none, .pick (.t 7) (.v (.bool true)) (.t 14)⟩,
    ⟨(some 16), none, .mov (.t 15)⟩,
    ⟨(some 17), (some (16, false)), .mov (.t 0)⟩,
    ⟨(some 18), (some (16, false)), .nck (.t 17)⟩,
    ⟨(some 19), (some (16, false)), .fld 0 (.t 18)⟩,
    ⟨(some 20), (some (16, false)), .load (.t 19)⟩,
    ⟨(some 21), (some (16, false)), .mov (.t 1)⟩,
    ⟨(some 22), (some (16, false)), .bin .sub (.t 21) (.v (.int .i64 1))⟩,
    ⟨(some 23), (some (16, false)), .idx 65 (.t 20) (.t 22)⟩,
    ⟨(some 24), (some (16, false)), .fld 0 (.t 23)⟩,
    ⟨(some 25), (some (16, false)), .load (.t 24)⟩,
    ⟨(some 26), (some (16, false)), .un .not (.t 25)⟩,
    ⟨(some 27), none, .pick (.t 16) (.v (.bool true)) (.t 26)⟩])
  (.cond (.t 27)
  (.seq (.ops [⟨(some 4), none, .mov (.v (.pointer none))⟩])
  .ret)
  .skip))
  (.seq (.ops [⟨(some 28), none, .mov (.t 0)⟩,
    ⟨(some 29), none, .nck (.t 28)⟩,
    ⟨(some 30), none, .fld 0 (.t 29)⟩,
    ⟨(some 31), none, .load (.t 30)⟩,
    ⟨(some 32), none, .mov (.t 1)⟩,
    ⟨(some 33), none, .bin .sub (.t 32) (.v (.int .i64 1))⟩,
    ⟨(some 34), none, .idx 65 (.t 31) (.t 33)⟩,
    ⟨(some 4), none, .mov (.t 34)⟩])
  .ret)))⟩
theorem c25_ok : trF Try.prog 25 = some c25 := by kernel_rfl
theorem k25_ok : okFn Try.prog 25 = true := by kernel_rfl

/- conch conchref11.zeros -/
def c26 : SF := ⟨6, 1, [.t 2],
  (.seq (.ops [⟨(some 2), none, .mov (.v (.string (bs [])))⟩])
  (.seq (.ops [⟨(some 3), none, .mov (.t 0)⟩,
    ⟨(some 4), none, .mks 5 1 1 [(.int .u8 0)] (.t 3) (.t 3)⟩,
    ⟨(some 5), none, .cvBS (.t 4)⟩,
    ⟨(some 2), none, .mov (.t 5)⟩])
  .ret))⟩
theorem c26_ok : trF Try.prog 26 = some c26 := by kernel_rfl
theorem k26_ok : okFn Try.prog 26 = true := by kernel_rfl

/- (*conch conchref11.Store).is -/
def c27 : SF := ⟨26, 2, [.t 4],
  (.seq (.ops [⟨(some 4), none, .mov (.v (.bool false))⟩])
  (.seq (.ops [⟨(some 5), none, .mov (.t 1)⟩,
    ⟨(some 6), none, .bin .geq (.t 5) (.v (.int .i64 1))⟩,
    ⟨(some 7), none, .mov (.t 6)⟩,
    ⟨(some 8), (some (7, true)), .mov (.t 1)⟩,
    ⟨(some 9), (some (7, true)), .mov (.t 0)⟩,
    ⟨(some 10), (some (7, true)), .nck (.t 9)⟩,
    ⟨(some 11), (some (7, true)), .fld 0 (.t 10)⟩,
    ⟨(some 12), (some (7, true)), .load (.t 11)⟩,
    ⟨(some 13), (some (7, true)), .len false (.t 12)⟩,
    ⟨(some 14), (some (7, true)), .bin .lss (.t 8) (.t 13)⟩,
    ⟨(some 15), none, .pick (.t 7) (.t 14) (.v (.bool false))⟩,
    ⟨(some 16), none, .mov (.t 15)⟩,
    ⟨(some 17), (some (16, true)), .mov (.t 0)⟩,
    ⟨(some 18), (some (16, true)), .nck (.t 17)⟩,
    ⟨(some 19), (some (16, true)), .fld 0 (.t 18)⟩,
    ⟨(some 20), (some (16, true)), .load (.t 19)⟩,
    ⟨(some 21), (some (16, true)), .mov (.t 1)⟩,
    ⟨(some 22), (some (16, true)), .idx 1 (.t 20) (.t 21)⟩,
    ⟨(some 23), (some (16, true)), .load (.t 22)⟩,
    ⟨(some 24), (some (16, true)), .bin .neq (.t 23) (.v (.string (bs [])))⟩,
    ⟨(some 25), none, .pick (.t 16) (.t 24) (.v (.bool false))⟩,
    ⟨(some 4), none, .mov (.t 25)⟩])
  .ret))⟩
theorem c27_ok : trF Try.prog 27 = some c27 := by kernel_rfl
theorem k27_ok : okFn Try.prog 27 = true := by kernel_rfl

/- slices.Clone[[]conch blocks.block,conch blocks.block] -/
def c28 : SF := ⟨8, 1, [.t 2],
  (.seq (.ops [⟨(some 2), none, .mov (.v (.slice none 0 0))⟩])
  (.seq (.seq (.ops [⟨(some 3), none, .mov (.t 0)⟩,
    ⟨(some 4), none, .eq 1 false (.t 3) (.v (.slice none 0 0))⟩])
  (.cond (.t 4)
  (.seq (.ops [⟨(some 2), none, .mov (.v (.slice none 0 0))⟩])
  .ret)
  .skip))
  (.seq (.ops [⟨(some 5), none, .bsl 56 0 [] []⟩,
    ⟨(some 6), none, .mov (.t 0)⟩,
    ⟨(some 7), none, .app 50 50 (.t 5) (.t 6)⟩,
    ⟨(some 2), none, .mov (.t 7)⟩])
  .ret)))⟩
theorem c28_ok : trF Try.prog 28 = some c28 := by kernel_rfl
theorem k28_ok : okFn Try.prog 28 = true := by kernel_rfl

end Go.Proofs.Ytfiknjogkpbgdaa
