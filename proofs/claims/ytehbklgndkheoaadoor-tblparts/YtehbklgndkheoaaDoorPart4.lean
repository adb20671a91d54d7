/- Part 4 of a proof: flonglaw09.TblParts returns true for every text and leaves it as it was; no condition of our own. -/
import Derived.Test.YtehbklgndkheoaaDoorPart3
/- The Tbl seat's functions as the small machine has them. MADE BY PROGRAM (mk.py over VmPrint's print). -/
set_option linter.unusedVariables false
set_option maxRecDepth 100000
namespace Go.Proofs.VmX

/-- What the variables hold. -/
def gl (g : Nat) : AV :=
  match g with
  | 0 => .vptr (.agg [.int .i32 32, .int .u8 0]) 0
  | 2 => .vptr (.agg [.int .u8 240, .int .u8 240, .int .u8 240, .int .u8 240, .int .u8 240, .int .u8 240, .int .u8 240, .int .u8 240, .int .u8 240, .int .u8 240, .int .u8 240, .int .u8 240, .int .u8 240, .int .u8 240, .int .u8 240, .int .u8 240, .int .u8 240, .int .u8 240, .int .u8 240, .int .u8 240, .int .u8 240, .int .u8 240, .int .u8 240, .int .u8 240, .int .u8 240, .int .u8 240, .int .u8 240, .int .u8 240, .int .u8 240, .int .u8 240, .int .u8 240, .int .u8 240, .int .u8 240, .int .u8 240, .int .u8 240, .int .u8 240, .int .u8 240, .int .u8 240, .int .u8 240, .int .u8 240, .int .u8 240, .int .u8 240, .int .u8 240, .int .u8 240, .int .u8 240, .int .u8 240, .int .u8 240, .int .u8 240, .int .u8 240, .int .u8 240, .int .u8 240, .int .u8 240, .int .u8 240, .int .u8 240, .int .u8 240, .int .u8 240, .int .u8 240, .int .u8 240, .int .u8 240, .int .u8 240, .int .u8 240, .int .u8 240, .int .u8 240, .int .u8 240, .int .u8 240, .int .u8 240, .int .u8 240, .int .u8 240, .int .u8 240, .int .u8 240, .int .u8 240, .int .u8 240, .int .u8 240, .int .u8 240, .int .u8 240, .int .u8 240, .int .u8 240, .int .u8 240, .int .u8 240, .int .u8 240, .int .u8 240, .int .u8 240, .int .u8 240, .int .u8 240, .int .u8 240, .int .u8 240, .int .u8 240, .int .u8 240, .int .u8 240, .int .u8 240, .int .u8 240, .int .u8 240, .int .u8 240, .int .u8 240, .int .u8 240, .int .u8 240, .int .u8 240, .int .u8 240, .int .u8 240, .int .u8 240, .int .u8 240, .int .u8 240, .int .u8 240, .int .u8 240, .int .u8 240, .int .u8 240, .int .u8 240, .int .u8 240, .int .u8 240, .int .u8 240, .int .u8 240, .int .u8 240, .int .u8 240, .int .u8 240, .int .u8 240, .int .u8 240, .int .u8 240, .int .u8 240, .int .u8 240, .int .u8 240, .int .u8 240, .int .u8 240, .int .u8 240, .int .u8 240, .int .u8 240, .int .u8 240, .int .u8 240, .int .u8 240, .int .u8 241, .int .u8 241, .int .u8 241, .int .u8 241, .int .u8 241, .int .u8 241, .int .u8 241, .int .u8 241, .int .u8 241, .int .u8 241, .int .u8 241, .int .u8 241, .int .u8 241, .int .u8 241, .int .u8 241, .int .u8 241, .int .u8 241, .int .u8 241, .int .u8 241, .int .u8 241, .int .u8 241, .int .u8 241, .int .u8 241, .int .u8 241, .int .u8 241, .int .u8 241, .int .u8 241, .int .u8 241, .int .u8 241, .int .u8 241, .int .u8 241, .int .u8 241, .int .u8 241, .int .u8 241, .int .u8 241, .int .u8 241, .int .u8 241, .int .u8 241, .int .u8 241, .int .u8 241, .int .u8 241, .int .u8 241, .int .u8 241, .int .u8 241, .int .u8 241, .int .u8 241, .int .u8 241, .int .u8 241, .int .u8 241, .int .u8 241, .int .u8 241, .int .u8 241, .int .u8 241, .int .u8 241, .int .u8 241, .int .u8 241, .int .u8 241, .int .u8 241, .int .u8 241, .int .u8 241, .int .u8 241, .int .u8 241, .int .u8 241, .int .u8 241, .int .u8 241, .int .u8 241, .int .u8 2, .int .u8 2, .int .u8 2, .int .u8 2, .int .u8 2, .int .u8 2, .int .u8 2, .int .u8 2, .int .u8 2, .int .u8 2, .int .u8 2, .int .u8 2, .int .u8 2, .int .u8 2, .int .u8 2, .int .u8 2, .int .u8 2, .int .u8 2, .int .u8 2, .int .u8 2, .int .u8 2, .int .u8 2, .int .u8 2, .int .u8 2, .int .u8 2, .int .u8 2, .int .u8 2, .int .u8 2, .int .u8 2, .int .u8 2, .int .u8 19, .int .u8 3, .int .u8 3, .int .u8 3, .int .u8 3, .int .u8 3, .int .u8 3, .int .u8 3, .int .u8 3, .int .u8 3, .int .u8 3, .int .u8 3, .int .u8 3, .int .u8 35, .int .u8 3, .int .u8 3, .int .u8 52, .int .u8 4, .int .u8 4, .int .u8 4, .int .u8 68, .int .u8 241, .int .u8 241, .int .u8 241, .int .u8 241, .int .u8 241, .int .u8 241, .int .u8 241, .int .u8 241, .int .u8 241, .int .u8 241, .int .u8 241]) 0
  | 3 => .vptr (.agg [.int .u8 128, .int .u8 191, .int .u8 160, .int .u8 191, .int .u8 128, .int .u8 159, .int .u8 144, .int .u8 191, .int .u8 128, .int .u8 143, .int .u8 0, .int .u8 0, .int .u8 0, .int .u8 0, .int .u8 0, .int .u8 0, .int .u8 0, .int .u8 0, .int .u8 0, .int .u8 0, .int .u8 0, .int .u8 0, .int .u8 0, .int .u8 0, .int .u8 0, .int .u8 0, .int .u8 0, .int .u8 0, .int .u8 0, .int .u8 0, .int .u8 0, .int .u8 0]) 0
  | 4 => .vptr (.mp [.str [33, 61], .str [45, 62], .str [60, 45], .str [60, 61], .str [62, 61], .str [69, 117], .str [97, 58], .str [97, 113], .str [98, 117], .str [99, 111], .str [99, 113], .str [100, 101], .str [100, 105], .str [100, 113], .str [101, 109], .str [101, 110], .str [104, 97], .str [104, 121], .str [108, 113], .str [109, 117], .str [111, 58], .str [111, 113], .str [114, 103], .str [114, 113], .str [114, 115], .str [115, 99], .str [115, 115], .str [116, 105], .str [116, 109], .str [117, 58]] [.int .i32 8800, .int .i32 8594, .int .i32 8592, .int .i32 8804, .int .i32 8805, .int .i32 8364, .int .i32 228, .int .i32 39, .int .i32 8226, .int .i32 169, .int .i32 8217, .int .i32 176, .int .i32 247, .int .i32 34, .int .i32 8212, .int .i32 8211, .int .i32 94, .int .i32 8208, .int .i32 8220, .int .i32 215, .int .i32 246, .int .i32 8216, .int .i32 174, .int .i32 8221, .int .i32 92, .int .i32 167, .int .i32 223, .int .i32 126, .int .i32 8482, .int .i32 252]) 0
  | 5 => .vptr (.mp [.str [49], .str [50], .str [51], .str [52], .str [66], .str [66, 73], .str [73], .str [80], .str [82]] [.int .i32 0, .int .i32 1, .int .i32 2, .int .i32 3, .int .i32 1, .int .i32 3, .int .i32 2, .int .i32 4, .int .i32 0]) 0
  | _ => .junk

def inlC (f : Nat) : Bool := [30,31,32,47,48,49,94,95,97,103,106,55,56,57,70,71,72,74,75,99].contains f

def c0 : CFn := ⟨[], none, 0⟩

def c1 : CFn := ⟨[], none, 0⟩

def c2 : CFn := ⟨[], (some
  (.reg [⟨(some 0), (.callF 1 false []), none⟩])), 0⟩

def c3 : CFn := ⟨[(.tmp 2)], (some
  (.seq
   (.reg [⟨(some 2), (.mv (.c (.bool false))), none⟩])
   (.seq
    (.seq
     (.reg [⟨(some 13), (.mv (.t 0)), none⟩, ⟨(some 14), (.len true (.t 13)), none⟩, ⟨(some 15), (.bin 0 .gtr (.t 14) (.c (.int .i64 (500)))), none⟩])
     (.cond (.t 15)
      (.seq
       (.reg [⟨(some 16), (.callF 7 false []), none⟩, ⟨(some 2), (.mv (.t 16)), none⟩])
       .ret)
      .skip))
    (.seq
     (.reg [⟨(some 18), (.mv (.t 0)), none⟩, ⟨(some 19), (.callF 8 false [(.t 18)]), none⟩, ⟨(some 17), (.mv (.t 19)), none⟩, ⟨(some 20), (.extract (.t 17) 0), none⟩, ⟨(some 21), (.extract (.t 17) 1), none⟩, ⟨(some 22), (.extract (.t 17) 2), none⟩, ⟨(some 3), (.mv (.t 20)), none⟩, ⟨(some 4), (.mv (.t 21)), none⟩, ⟨(some 5), (.mv (.t 22)), none⟩])
     (.seq
      (.reg [⟨(some 24), (.mv (.t 0)), none⟩, ⟨(some 25), (.callF 9 false [(.t 24)]), none⟩, ⟨(some 23), (.mv (.t 25)), none⟩, ⟨(some 26), (.extract (.t 23) 0), none⟩, ⟨(some 27), (.extract (.t 23) 1), none⟩, ⟨(some 28), (.extract (.t 23) 2), none⟩, ⟨(some 6), (.mv (.t 26)), none⟩, ⟨(some 7), (.mv (.t 27)), none⟩, ⟨(some 8), (.mv (.t 28)), none⟩])
      (.seq
       (.reg [⟨(some 30), (.mv (.t 0)), none⟩, ⟨(some 31), (.callF 10 false [(.t 30)]), none⟩, ⟨(some 29), (.mv (.t 31)), none⟩, ⟨(some 32), (.extract (.t 29) 0), none⟩, ⟨(some 33), (.extract (.t 29) 1), none⟩, ⟨(some 9), (.mv (.t 32)), none⟩, ⟨(some 10), (.mv (.t 33)), none⟩])
       (.seq
        (.reg [⟨(some 35), (.mv (.t 0)), none⟩, ⟨(some 36), (.callF 11 false [(.t 35)]), none⟩, ⟨(some 34), (.mv (.t 36)), none⟩, ⟨(some 37), (.extract (.t 34) 0), none⟩, ⟨(some 38), (.extract (.t 34) 1), none⟩, ⟨(some 11), (.mv (.t 37)), none⟩, ⟨(some 12), (.mv (.t 38)), none⟩])
        (.seq
         (.reg [⟨(some 39), (.mv (.t 3)), none⟩, ⟨(some 40), (.mv (.t 6)), none⟩, ⟨(some 41), (.bin 1 .eql (.t 39) (.t 40)), none⟩, ⟨(some 42), (.mv (.t 41)), none⟩, ⟨(some 43), (.mv (.t 4)), (some (42, true))⟩, ⟨(some 44), (.mv (.t 7)), (some (42, true))⟩, ⟨(some 45), (.bin 1 .eql (.t 43) (.t 44)), (some (42, true))⟩, ⟨(some 46), (.pick (.t 42) (.t 45) (.c (.bool false))), none⟩, ⟨(some 47), (.mv (.t 46)), none⟩, ⟨(some 48), (.mv (.t 5)), (some (47, true))⟩, ⟨(some 49), (.mv (.t 8)), (some (47, true))⟩, ⟨(some 50), (.bin 1 .eql (.t 48) (.t 49)), (some (47, true))⟩, ⟨(some 51), (.pick (.t 47) (.t 50) (.c (.bool false))), none⟩, ⟨(some 52), (.mv (.t 51)), none⟩, ⟨(some 53), (.mv (.t 9)), (some (52, true))⟩, ⟨(some 54), (.mv (.t 11)), (some (52, true))⟩, ⟨(some 55), (.bin 0 .eql (.t 53) (.t 54)), (some (52, true))⟩, ⟨(some 56), (.pick (.t 52) (.t 55) (.c (.bool false))), none⟩, ⟨(some 57), (.mv (.t 56)), none⟩, ⟨(some 58), (.mv (.t 10)), (some (57, true))⟩, ⟨(some 59), (.mv (.t 12)), (some (57, true))⟩, ⟨(some 60), (.bin 1 .eql (.t 58) (.t 59)), (some (57, true))⟩, ⟨(some 61), (.pick (.t 57) (.t 60) (.c (.bool false))), none⟩, ⟨(some 62), (.mv (.t 61)), none⟩, ⟨(some 63), (.mv (.t 0)), (some (62, true))⟩, ⟨(some 64), (.callF 13 false [(.t 63)]), (some (62, true))⟩, ⟨(some 65), (.mv (.t 0)), (some (62, true))⟩, ⟨(some 66), (.callF 14 false [(.t 65), (.c (.int .u8 (9)))]), (some (62, true))⟩, ⟨(some 67), (.callF 12 false [(.t 64), (.t 66)]), (some (62, true))⟩, ⟨(some 68), (.pick (.t 62) (.t 67) (.c (.bool false))), none⟩, ⟨(some 69), (.mv (.t 68)), none⟩, ⟨(some 70), (.callF 7 false []), (some (69, true))⟩, ⟨(some 71), (.pick (.t 69) (.t 70) (.c (.bool false))), none⟩, ⟨(some 2), (.mv (.t 71)), none⟩])
         .ret)))))))), 0⟩

def c4 : CFn := ⟨[(.tmp 4)], (some
  (.seq
   (.reg [⟨(some 4), (.mv (.c (.bool false))), none⟩])
   (.seq
    (.seq
     (.reg [⟨(some 8), (.mv (.t 1)), none⟩, ⟨(some 9), (.callF 15 false [(.t 8)]), none⟩])
     (.cond (.t 9)
      (.seq
       (.reg [⟨(some 10), (.callF 7 false []), none⟩, ⟨(some 4), (.mv (.t 10)), none⟩])
       .ret)
      .skip))
    (.seq
     (.reg [⟨(some 12), (.mv (.t 0)), none⟩, ⟨(some 13), (.conv (.int .i64) (.t 12)), none⟩, ⟨(some 14), (.mv (.t 1)), none⟩, ⟨(some 15), (.callF 16 false [(.t 13), (.t 14)]), none⟩, ⟨(some 11), (.mv (.t 15)), none⟩, ⟨(some 16), (.extract (.t 11) 0), none⟩, ⟨(some 17), (.extract (.t 11) 1), none⟩, ⟨(some 5), (.alloc (.agg [(.str []), (.sl true 0 []), (.bool false), (.bool false)]) 4 36), none⟩, ⟨none, (.store 4 (.t 5) (.t 16)), none⟩, ⟨(some 6), (.mv (.t 17)), none⟩])
     (.seq
      (.seq
       (.reg [⟨(some 7), (.mv (.c (.int .i64 (0)))), none⟩])
       (.block 0
        (.loop
         (.seq
          (.seq
           (.reg [⟨(some 18), (.mv (.t 7)), none⟩, ⟨(some 19), (.mv (.t 6)), none⟩, ⟨(some 20), (.len false (.t 19)), none⟩, ⟨(some 21), (.bin 0 .lss (.t 18) (.t 20)), none⟩])
           (.cond (.t 21)
            .skip
            (.exit 0)))
          (.seq
           (.block 1
            (.seq
             (.reg [⟨(some 24), (.mv (.t 6)), none⟩, ⟨(some 25), (.mv (.t 7)), none⟩, ⟨(some 26), (.idxS 3 (.t 24) (.t 25)), none⟩, ⟨(some 27), (.fld 1 (.t 26)), none⟩, ⟨(some 28), (.load false 1 (.t 27)), none⟩, ⟨(some 29), (.mv (.t 0)), none⟩, ⟨(some 30), (.conv (.int .i64) (.t 29)), none⟩, ⟨(some 31), (.bin 0 .lss (.t 28) (.t 30)), none⟩, ⟨(some 32), (.mv (.t 31)), none⟩, ⟨(some 33), (.mv (.t 6)), (some (32, false))⟩, ⟨(some 34), (.mv (.t 7)), (some (32, false))⟩, ⟨(some 35), (.idxS 3 (.t 33) (.t 34)), (some (32, false))⟩, ⟨(some 36), (.fld 1 (.t 35)), (some (32, false))⟩, ⟨(some 37), (.load false 1 (.t 36)), (some (32, false))⟩, ⟨(some 38), (.mv (.t 0)), (some (32, false))⟩, ⟨(some 39), (.conv (.int .i64) (.t 38)), (some (32, false))⟩, ⟨(some 40), (.mv (.t 1)), (some (32, false))⟩, ⟨(some 41), (.len false (.t 40)), (some (32, false))⟩, ⟨(some 42), (.mm true (.t 41) [(.c (.int .i64 (1)))]), (some (32, false))⟩, ⟨(some 43), (.bin 0 .add (.t 39) (.t 42)), (some (32, false))⟩, ⟨(some 44), (.bin 0 .geq (.t 37) (.t 43)), (some (32, false))⟩, ⟨(some 45), (.pick (.t 32) (.c (.bool true)) (.t 44)), none⟩, ⟨(some 46), (.mv (.t 45)), none⟩, ⟨(some 47), (.mv (.t 6)), (some (46, false))⟩, ⟨(some 48), (.mv (.t 7)), (some (46, false))⟩, ⟨(some 49), (.idxS 3 (.t 47) (.t 48)), (some (46, false))⟩, ⟨(some 50), (.fld 2 (.t 49)), (some (46, false))⟩, ⟨(some 51), (.load false 1 (.t 50)), (some (46, false))⟩, ⟨(some 52), (.bin 0 .lss (.t 51) (.c (.int .i64 (0)))), (some (46, false))⟩, ⟨(some 53), (.pick (.t 46) (.c (.bool true)) (.t 52)), none⟩])
             (.cond (.t 53)
              (.seq
               (.reg [⟨(some 4), (.mv (.c (.bool false))), none⟩])
               .ret)
              .skip)))
           (.reg [⟨(some 22), (.mv (.t 7)), none⟩, ⟨(some 23), (.bin 0 .add (.t 22) (.c (.int .i64 (1)))), none⟩, ⟨(some 7), (.mv (.t 23)), none⟩]))))))
      (.seq
       (.reg [⟨(some 54), (.load true 4 (.t 5)), none⟩, ⟨(some 55), (.callF 17 false [(.t 54)]), none⟩, ⟨(some 56), (.mv (.t 55)), none⟩, ⟨(some 57), (.fld 1 (.t 5)), (some (56, true))⟩, ⟨(some 58), (.load false 1 (.t 57)), (some (56, true))⟩, ⟨(some 59), (.len false (.t 58)), (some (56, true))⟩, ⟨(some 60), (.mv (.t 1)), (some (56, true))⟩, ⟨(some 61), (.len false (.t 60)), (some (56, true))⟩, ⟨(some 62), (.bin 0 .leq (.t 59) (.t 61)), (some (56, true))⟩, ⟨(some 63), (.pick (.t 56) (.t 62) (.c (.bool false))), none⟩, ⟨(some 64), (.mv (.t 63)), none⟩, ⟨(some 65), (.callF 7 false []), (some (64, true))⟩, ⟨(some 66), (.pick (.t 64) (.t 65) (.c (.bool false))), none⟩, ⟨(some 4), (.mv (.t 66)), none⟩])
       .ret)))))), 0⟩

def c5 : CFn := ⟨[(.tmp 2)], (some
  (.seq
   (.reg [⟨(some 2), (.mv (.c (.bool false))), none⟩])
   (.seq
    (.seq
     (.reg [⟨(some 8), (.mv (.t 0)), none⟩, ⟨(some 9), (.len true (.t 8)), none⟩, ⟨(some 10), (.bin 0 .gtr (.t 9) (.c (.int .i64 (500)))), none⟩])
     (.cond (.t 10)
      (.seq
       (.reg [⟨(some 11), (.callF 7 false []), none⟩, ⟨(some 2), (.mv (.t 11)), none⟩])
       .ret)
      .skip))
    (.seq
     (.reg [⟨(some 12), (.mv (.t 0)), none⟩, ⟨(some 13), (.callF 13 false [(.t 12)]), none⟩, ⟨(some 3), (.mv (.t 13)), none⟩])
     (.seq
      (.reg [⟨(some 4), (.mv (.c (.str []))), none⟩])
      (.seq
       (.reg [⟨(some 5), (.mv (.c (.int .i64 (1)))), none⟩])
       (.seq
        (.seq
         (.reg [⟨(some 6), (.mv (.c (.int .i64 (0)))), none⟩])
         (.block 0
          (.loop
           (.seq
            (.seq
             (.reg [⟨(some 14), (.mv (.t 6)), none⟩, ⟨(some 15), (.mv (.t 3)), none⟩, ⟨(some 16), (.len false (.t 15)), none⟩, ⟨(some 17), (.bin 0 .lss (.t 14) (.t 16)), none⟩])
             (.cond (.t 17)
              .skip
              (.exit 0)))
            (.seq
             (.block 1
              (.seq
               (.seq
                (.reg [⟨(some 20), (.mv (.t 6)), none⟩, ⟨(some 21), (.bin 0 .gtr (.t 20) (.c (.int .i64 (0)))), none⟩])
                (.cond (.t 21)
                 (.reg [⟨(some 22), (.mv (.t 4)), none⟩, ⟨(some 23), (.bin 0 .add (.t 22) (.c (.str [9]))), none⟩, ⟨(some 4), (.mv (.t 23)), none⟩])
                 .skip))
               (.reg [⟨(some 24), (.mv (.t 4)), none⟩, ⟨(some 25), (.mv (.t 3)), none⟩, ⟨(some 26), (.mv (.t 6)), none⟩, ⟨(some 27), (.idxS 1 (.t 25) (.t 26)), none⟩, ⟨(some 28), (.load false 1 (.t 27)), none⟩, ⟨(some 29), (.bin 0 .add (.t 24) (.t 28)), none⟩, ⟨(some 4), (.mv (.t 29)), none⟩])))
             (.reg [⟨(some 18), (.mv (.t 6)), none⟩, ⟨(some 19), (.bin 0 .add (.t 18) (.c (.int .i64 (1)))), none⟩, ⟨(some 6), (.mv (.t 19)), none⟩]))))))
        (.seq
         (.seq
          (.reg [⟨(some 7), (.mv (.c (.int .i64 (0)))), none⟩])
          (.block 2
           (.loop
            (.seq
             (.seq
              (.reg [⟨(some 30), (.mv (.t 7)), none⟩, ⟨(some 31), (.mv (.t 0)), none⟩, ⟨(some 32), (.len true (.t 31)), none⟩, ⟨(some 33), (.bin 0 .lss (.t 30) (.t 32)), none⟩])
              (.cond (.t 33)
               .skip
               (.exit 2)))
             (.seq
              (.block 3
               (.seq
                (.reg [⟨(some 36), (.mv (.t 0)), none⟩, ⟨(some 37), (.mv (.t 7)), none⟩, ⟨(some 38), (.idxStr (.t 36) (.t 37)), none⟩, ⟨(some 39), (.bin 0 .eql (.t 38) (.c (.int .u8 (9)))), none⟩])
                (.cond (.t 39)
                 (.reg [⟨(some 40), (.mv (.t 5)), none⟩, ⟨(some 41), (.bin 0 .add (.t 40) (.c (.int .i64 (1)))), none⟩, ⟨(some 5), (.mv (.t 41)), none⟩])
                 .skip)))
              (.reg [⟨(some 34), (.mv (.t 7)), none⟩, ⟨(some 35), (.bin 0 .add (.t 34) (.c (.int .i64 (1)))), none⟩, ⟨(some 7), (.mv (.t 35)), none⟩]))))))
         (.seq
          (.reg [⟨(some 42), (.mv (.t 4)), none⟩, ⟨(some 43), (.mv (.t 0)), none⟩, ⟨(some 44), (.bin 0 .eql (.t 42) (.t 43)), none⟩, ⟨(some 45), (.mv (.t 44)), none⟩, ⟨(some 46), (.mv (.t 3)), (some (45, true))⟩, ⟨(some 47), (.len false (.t 46)), (some (45, true))⟩, ⟨(some 48), (.mv (.t 5)), (some (45, true))⟩, ⟨(some 49), (.bin 0 .eql (.t 47) (.t 48)), (some (45, true))⟩, ⟨(some 50), (.pick (.t 45) (.t 49) (.c (.bool false))), none⟩, ⟨(some 51), (.mv (.t 50)), none⟩, ⟨(some 52), (.callF 7 false []), (some (51, true))⟩, ⟨(some 53), (.pick (.t 51) (.t 52) (.c (.bool false))), none⟩, ⟨(some 2), (.mv (.t 53)), none⟩])
          .ret))))))))), 0⟩

def c6 : CFn := ⟨[(.tmp 2)], (some
  (.seq
   (.reg [⟨(some 1), (.box 4 36 (.t 0)), none⟩, ⟨(some 2), (.mv (.c (.bool false))), none⟩])
   (.seq
    (.seq
     (.reg [⟨(some 5), (.load true 4 (.t 1)), none⟩, ⟨(some 6), (.build [(.int .i64 (0)), (.int .i64 (0)), (.int .i64 (0)), (.sl true 0 []), (.sl true 0 []), (.sl true 0 []), (.str []), (.sl true 0 []), (.bool false), (.bool false)] [(6, (4, (.t 5)))]), none⟩, ⟨(some 7), (.bsl 10 [(.t 6)]), none⟩, ⟨(some 8), (.callF 18 false [(.t 7)]), none⟩, ⟨(some 9), (.bin 0 .gtr (.t 8) (.c (.int .i64 (500)))), none⟩, ⟨(some 10), (.mv (.t 9)), none⟩, ⟨(some 11), (.load true 4 (.t 1)), (some (10, false))⟩, ⟨(some 12), (.callF 19 false [(.t 11)]), (some (10, false))⟩, ⟨(some 13), (.un .not (.t 12)), (some (10, false))⟩, ⟨(some 14), (.pick (.t 10) (.c (.bool true)) (.t 13)), none⟩])
     (.cond (.t 14)
      (.seq
       (.reg [⟨(some 15), (.callF 7 false []), none⟩, ⟨(some 2), (.mv (.t 15)), none⟩])
       .ret)
      .skip))
    (.seq
     (.reg [⟨(some 17), (.load true 4 (.t 1)), none⟩, ⟨(some 18), (.callF 20 false [(.t 17)]), none⟩, ⟨(some 19), (.callF 16 false [(.c (.int .i64 (5))), (.t 18)]), none⟩, ⟨(some 16), (.mv (.t 19)), none⟩, ⟨(some 20), (.extract (.t 16) 0), none⟩, ⟨(some 21), (.extract (.t 16) 1), none⟩, ⟨(some 3), (.alloc (.agg [(.str []), (.sl true 0 []), (.bool false), (.bool false)]) 4 36), none⟩, ⟨none, (.store 4 (.t 3) (.t 20)), none⟩, ⟨(some 4), (.mv (.t 21)), none⟩])
     (.seq
      (.dreg [⟨⟨(some 22), (.load true 4 (.t 3)), none⟩, 0, false⟩, ⟨⟨(some 23), (.load true 4 (.t 1)), none⟩, 0, false⟩, ⟨⟨(some 24), (.callF 22 false [(.t 23)]), none⟩, 0, true⟩, ⟨⟨(some 25), (.callF 21 false [(.t 22), (.t 24)]), none⟩, 1, true⟩, ⟨⟨(some 26), (.mv (.t 25)), none⟩, 2, false⟩, ⟨⟨(some 27), (.mv (.t 4)), (some (26, true))⟩, 2, false⟩, ⟨⟨(some 28), (.len false (.t 27)), (some (26, true))⟩, 2, false⟩, ⟨⟨(some 29), (.bin 0 .eql (.t 28) (.c (.int .i64 (0)))), (some (26, true))⟩, 2, false⟩, ⟨⟨(some 30), (.pick (.t 26) (.t 29) (.c (.bool false))), none⟩, 2, false⟩, ⟨⟨(some 31), (.mv (.t 30)), none⟩, 2, false⟩, ⟨⟨(some 32), (.callF 7 false []), (some (31, true))⟩, 2, true⟩, ⟨⟨(some 33), (.pick (.t 31) (.t 32) (.c (.bool false))), none⟩, 3, false⟩, ⟨⟨(some 2), (.mv (.t 33)), none⟩, 3, false⟩] [⟨⟨(some 22), (.load true 4 (.t 3)), none⟩, 1⟩])
      .ret))))), 0⟩

def c7 : CFn := ⟨[(.tmp 0)], (some
  (.seq
   (.reg [⟨(some 0), (.mv (.c (.bool false))), none⟩])
   (.seq
    (.reg [⟨(some 5), (.bsl 1 [(.c (.str [108, 32, 114, 46])), (.c (.str [97, 9, 98]))]), none⟩, ⟨(some 6), (.callF 16 false [(.c (.int .i64 (1))), (.t 5)]), none⟩, ⟨(some 4), (.mv (.t 6)), none⟩, ⟨(some 7), (.extract (.t 4) 0), none⟩, ⟨(some 8), (.extract (.t 4) 1), none⟩, ⟨(some 1), (.alloc (.agg [(.str []), (.sl true 0 []), (.bool false), (.bool false)]) 4 36), none⟩, ⟨none, (.store 4 (.t 1) (.t 7)), none⟩, ⟨(some 2), (.mv (.t 8)), none⟩])
    (.seq
     (.reg [⟨(some 9), (.build [(.int .i32 (0)), (.int .u8 (0))] [(0, (1, (.c (.int .i32 (97)))))]), none⟩, ⟨(some 10), (.bsl 2 [(.t 9)]), none⟩, ⟨(some 11), (.build [(.int .i32 (0)), (.int .u8 (0))] [(0, (1, (.c (.int .i32 (98)))))]), none⟩, ⟨(some 12), (.bsl 2 [(.t 11)]), none⟩, ⟨(some 13), (.bsl 1 [(.t 10), (.t 12)]), none⟩, ⟨(some 14), (.build [(.bool false), (.sl true 0 [])] [(1, (1, (.t 13)))]), none⟩, ⟨(some 15), (.bsl 2 [(.t 14)]), none⟩, ⟨(some 16), (.build [(.str []), (.sl true 0 []), (.bool false), (.bool false)] [(0, (1, (.c (.str [108, 114])))), (1, (1, (.t 15)))]), none⟩, ⟨(some 3), (.alloc (.agg [(.str []), (.sl true 0 []), (.bool false), (.bool false)]) 4 36), none⟩, ⟨none, (.store 4 (.t 3) (.t 16)), none⟩])
     (.seq
      (.reg [⟨(some 17), (.load true 4 (.t 1)), none⟩, ⟨(some 18), (.load true 4 (.t 3)), none⟩, ⟨(some 19), (.callF 21 false [(.t 17), (.t 18)]), none⟩, ⟨(some 20), (.mv (.t 19)), none⟩, ⟨(some 21), (.mv (.t 2)), (some (20, true))⟩, ⟨(some 22), (.len false (.t 21)), (some (20, true))⟩, ⟨(some 23), (.bin 0 .eql (.t 22) (.c (.int .i64 (0)))), (some (20, true))⟩, ⟨(some 24), (.pick (.t 20) (.t 23) (.c (.bool false))), none⟩, ⟨(some 0), (.mv (.t 24)), none⟩])
      .ret))))), 0⟩

def c8 : CFn := ⟨[(.tmp 2), (.tmp 3), (.tmp 4)], (some
  (.seq
   (.reg [⟨(some 2), (.mv (.c (.bool false))), none⟩, ⟨(some 3), (.mv (.c (.bool false))), none⟩, ⟨(some 4), (.mv (.c (.bool false))), none⟩])
   (.seq
    (.reg [⟨(some 12), (.mv (.t 0)), none⟩, ⟨(some 13), (.callF 23 false [(.t 12), (.c (.str [59]))]), none⟩, ⟨(some 11), (.mv (.t 13)), none⟩, ⟨(some 14), (.extract (.t 11) 0), none⟩, ⟨(some 15), (.extract (.t 11) 1), none⟩, ⟨(some 5), (.mv (.t 14)), none⟩, ⟨(some 6), (.mv (.t 15)), none⟩])
    (.seq
     (.seq
      (.reg [⟨(some 16), (.mv (.t 6)), none⟩, ⟨(some 17), (.un .not (.t 16)), none⟩])
      (.cond (.t 17)
       (.seq
        (.reg [⟨(some 2), (.mv (.c (.bool false))), none⟩, ⟨(some 3), (.mv (.c (.bool false))), none⟩, ⟨(some 4), (.mv (.c (.bool false))), none⟩])
        .ret)
       .skip))
     (.seq
      (.reg [⟨(some 7), (.mv (.c (.bool false))), none⟩, ⟨(some 8), (.mv (.c (.bool false))), none⟩])
      (.seq
       (.seq
        (.reg [⟨(some 18), (.mv (.t 5)), none⟩, ⟨(some 19), (.callF 24 false [(.t 18)]), none⟩, ⟨(some 20), (.len false (.t 19)), none⟩, ⟨(some 21), (.mv (.c (.int .i64 (0)))), none⟩])
        (.block 0
         (.loop
          (.seq
           (.reg [⟨(some 22), (.bin 0 .lss (.t 21) (.t 20)), none⟩])
           (.seq
            (.cond (.t 22)
             .skip
             (.exit 0))
            (.seq
             (.block 1
              (.seq
               (.reg [⟨(some 23), (.idxS 1 (.t 19) (.t 21)), none⟩, ⟨(some 24), (.load false 1 (.t 23)), none⟩, ⟨(some 10), (.mv (.t 24)), none⟩])
               (.seq
                (.reg [⟨(some 25), (.mv (.t 10)), none⟩])
                (.block 2
                 (.seq
                  (.block 5
                   (.seq
                    (.block 4
                     (.seq
                      (.block 3
                       (.seq
                        (.seq
                         (.seq
                          (.reg [⟨(some 27), (.bin 0 .eql (.t 25) (.c (.str [97, 108, 108, 98, 111, 120]))), none⟩, ⟨(some 26), (.mv (.t 27)), none⟩])
                          (.cond (.t 26)
                           (.exit 3)
                           .skip))
                         (.seq
                          (.reg [⟨(some 29), (.bin 0 .eql (.t 25) (.c (.str [98, 111, 120]))), none⟩, ⟨(some 28), (.mv (.t 29)), none⟩])
                          (.cond (.t 28)
                           (.exit 4)
                           .skip)))
                        (.exit 5)))
                      (.reg [⟨(some 8), (.mv (.c (.bool true))), none⟩])))
                    (.seq
                     (.reg [⟨(some 7), (.mv (.c (.bool true))), none⟩])
                     (.exit 2))))
                  (.seq
                   (.seq
                    (.reg [⟨(some 2), (.mv (.c (.bool false))), none⟩, ⟨(some 3), (.mv (.c (.bool false))), none⟩, ⟨(some 4), (.mv (.c (.bool false))), none⟩])
                    .ret)
                   (.exit 2)))))))
             (.reg [⟨(some 30), (.bin 0 .add (.t 21) (.c (.int .i64 (1)))), none⟩, ⟨(some 21), (.mv (.t 30)), none⟩])))))))
       (.seq
        (.reg [⟨(some 31), (.mv (.t 7)), none⟩, ⟨(some 32), (.mv (.t 8)), none⟩, ⟨(some 2), (.mv (.t 31)), none⟩, ⟨(some 3), (.mv (.t 32)), none⟩, ⟨(some 4), (.mv (.c (.bool true))), none⟩])
        .ret))))))), 0⟩

def c9 : CFn := ⟨[(.tmp 2), (.tmp 3), (.tmp 4)], (some
  (.seq
   (.reg [⟨(some 2), (.mv (.c (.bool false))), none⟩, ⟨(some 3), (.mv (.c (.bool false))), none⟩, ⟨(some 4), (.mv (.c (.bool false))), none⟩])
   (.seq
    (.seq
     (.reg [⟨(some 9), (.mv (.t 0)), none⟩, ⟨(some 10), (.callF 25 false [(.t 9), (.c (.int .u8 (59)))]), none⟩, ⟨(some 11), (.un .not (.t 10)), none⟩])
     (.cond (.t 11)
      (.seq
       (.reg [⟨(some 2), (.mv (.c (.bool false))), none⟩, ⟨(some 3), (.mv (.c (.bool false))), none⟩, ⟨(some 4), (.mv (.c (.bool false))), none⟩])
       .ret)
      .skip))
    (.seq
     (.reg [⟨(some 12), (.mv (.t 0)), none⟩, ⟨(some 13), (.mv (.t 0)), none⟩, ⟨(some 14), (.len true (.t 13)), none⟩, ⟨(some 15), (.bin 0 .sub (.t 14) (.c (.int .i64 (1)))), none⟩, ⟨(some 16), (.sliceStr (.t 12) none (some (.t 15))), none⟩, ⟨(some 17), (.callF 26 false [(.t 16)]), none⟩, ⟨(some 5), (.mv (.t 17)), none⟩])
     (.seq
      (.reg [⟨(some 6), (.mv (.c (.bool false))), none⟩])
      (.seq
       (.reg [⟨(some 7), (.mv (.c (.bool false))), none⟩])
       (.seq
        (.seq
         (.reg [⟨(some 8), (.mv (.c (.int .i64 (0)))), none⟩])
         (.block 0
          (.loop
           (.seq
            (.seq
             (.reg [⟨(some 18), (.mv (.t 8)), none⟩, ⟨(some 19), (.mv (.t 5)), none⟩, ⟨(some 20), (.len false (.t 19)), none⟩, ⟨(some 21), (.bin 0 .lss (.t 18) (.t 20)), none⟩])
             (.cond (.t 21)
              .skip
              (.exit 0)))
            (.seq
             (.block 1
              (.seq
               (.seq
                (.reg [⟨(some 24), (.mv (.t 5)), none⟩, ⟨(some 25), (.mv (.t 8)), none⟩, ⟨(some 26), (.idxS 1 (.t 24) (.t 25)), none⟩, ⟨(some 27), (.load false 1 (.t 26)), none⟩, ⟨(some 28), (.bin 0 .neq (.t 27) (.c (.str [98, 111, 120]))), none⟩, ⟨(some 29), (.mv (.t 28)), none⟩, ⟨(some 30), (.mv (.t 5)), (some (29, true))⟩, ⟨(some 31), (.mv (.t 8)), (some (29, true))⟩, ⟨(some 32), (.idxS 1 (.t 30) (.t 31)), (some (29, true))⟩, ⟨(some 33), (.load false 1 (.t 32)), (some (29, true))⟩, ⟨(some 34), (.bin 0 .neq (.t 33) (.c (.str [97, 108, 108, 98, 111, 120]))), (some (29, true))⟩, ⟨(some 35), (.pick (.t 29) (.t 34) (.c (.bool false))), none⟩])
                (.cond (.t 35)
                 (.seq
                  (.reg [⟨(some 2), (.mv (.c (.bool false))), none⟩, ⟨(some 3), (.mv (.c (.bool false))), none⟩, ⟨(some 4), (.mv (.c (.bool false))), none⟩])
                  .ret)
                 .skip))
               (.seq
                (.reg [⟨(some 6), (.mv (.c (.bool true))), none⟩])
                (.reg [⟨(some 36), (.mv (.t 7)), none⟩, ⟨(some 37), (.mv (.t 36)), none⟩, ⟨(some 38), (.mv (.t 5)), (some (37, false))⟩, ⟨(some 39), (.mv (.t 8)), (some (37, false))⟩, ⟨(some 40), (.idxS 1 (.t 38) (.t 39)), (some (37, false))⟩, ⟨(some 41), (.load false 1 (.t 40)), (some (37, false))⟩, ⟨(some 42), (.bin 0 .eql (.t 41) (.c (.str [97, 108, 108, 98, 111, 120]))), (some (37, false))⟩, ⟨(some 43), (.pick (.t 37) (.c (.bool true)) (.t 42)), none⟩, ⟨(some 7), (.mv (.t 43)), none⟩]))))
             (.reg [⟨(some 22), (.mv (.t 8)), none⟩, ⟨(some 23), (.bin 0 .add (.t 22) (.c (.int .i64 (1)))), none⟩, ⟨(some 8), (.mv (.t 23)), none⟩]))))))
        (.seq
         (.reg [⟨(some 44), (.mv (.t 6)), none⟩, ⟨(some 45), (.mv (.t 7)), none⟩, ⟨(some 2), (.mv (.t 44)), none⟩, ⟨(some 3), (.mv (.t 45)), none⟩, ⟨(some 4), (.mv (.c (.bool true))), none⟩])
         .ret)))))))), 0⟩

def c10 : CFn := ⟨[(.tmp 2), (.tmp 3)], (some
  (.seq
   (.reg [⟨(some 2), (.mv (.c (.str []))), none⟩, ⟨(some 3), (.mv (.c (.bool false))), none⟩])
   (.seq
    (.reg [⟨(some 4), (.mv (.c (.sl true 0 []))), none⟩])
    (.seq
     (.reg [⟨(some 5), (.mv (.c (.bool true))), none⟩])
     (.seq
      (.seq
       (.reg [⟨(some 9), (.mv (.t 0)), none⟩, ⟨(some 10), (.callF 27 false [(.t 9), (.c (.str [46]))]), none⟩, ⟨(some 11), (.callF 24 false [(.t 10)]), none⟩, ⟨(some 12), (.len false (.t 11)), none⟩, ⟨(some 13), (.mv (.c (.int .i64 (0)))), none⟩])
       (.block 0
        (.loop
         (.seq
          (.reg [⟨(some 14), (.bin 0 .lss (.t 13) (.t 12)), none⟩])
          (.seq
           (.cond (.t 14)
            .skip
            (.exit 0))
           (.seq
            (.block 1
             (.seq
              (.reg [⟨(some 15), (.idxS 1 (.t 11) (.t 13)), none⟩, ⟨(some 16), (.load false 1 (.t 15)), none⟩, ⟨(some 7), (.mv (.t 16)), none⟩])
              (.seq
               (.reg [⟨(some 17), (.mv (.t 7)), none⟩, ⟨(some 18), (.idxStr (.t 17) (.c (.int .i64 (0)))), none⟩, ⟨(some 8), (.mv (.t 18)), none⟩])
               (.seq
                (.seq
                 (.reg [⟨(some 19), (.mv (.t 8)), none⟩, ⟨(some 20), (.bin 0 .geq (.t 19) (.c (.int .u8 (65)))), none⟩, ⟨(some 21), (.mv (.t 20)), none⟩, ⟨(some 22), (.mv (.t 8)), (some (21, true))⟩, ⟨(some 23), (.bin 0 .leq (.t 22) (.c (.int .u8 (90)))), (some (21, true))⟩, ⟨(some 24), (.pick (.t 21) (.t 23) (.c (.bool false))), none⟩])
                 (.cond (.t 24)
                  (.reg [⟨(some 25), (.mv (.t 8)), none⟩, ⟨(some 26), (.bin 0 .add (.t 25) (.c (.int .u8 (32)))), none⟩, ⟨(some 8), (.mv (.t 26)), none⟩])
                  .skip))
                (.seq
                 (.seq
                  (.reg [⟨(some 27), (.mv (.t 8)), none⟩, ⟨(some 28), (.callF 28 false [(.c (.str [108, 99, 114])), (.t 27)]), none⟩, ⟨(some 29), (.bin 0 .lss (.t 28) (.c (.int .i64 (0)))), none⟩])
                  (.cond (.t 29)
                   (.reg [⟨(some 8), (.mv (.c (.int .u8 (108)))), none⟩, ⟨(some 5), (.mv (.c (.bool false))), none⟩])
                   .skip))
                 (.reg [⟨(some 30), (.mv (.t 4)), none⟩, ⟨(some 31), (.mv (.t 8)), none⟩, ⟨(some 32), (.bsl 1 [(.t 31)]), none⟩, ⟨(some 33), (.append 5 1 1 (.t 30) (.t 32)), none⟩, ⟨(some 4), (.mv (.t 33)), none⟩]))))))
            (.reg [⟨(some 34), (.bin 0 .add (.t 13) (.c (.int .i64 (1)))), none⟩, ⟨(some 13), (.mv (.t 34)), none⟩])))))))
      (.seq
       (.reg [⟨(some 35), (.mv (.t 4)), none⟩, ⟨(some 36), (.conv .bytesStr (.t 35)), none⟩, ⟨(some 37), (.mv (.t 5)), none⟩, ⟨(some 2), (.mv (.t 36)), none⟩, ⟨(some 3), (.mv (.t 37)), none⟩])
       .ret)))))), 0⟩

def c11 : CFn := ⟨[(.tmp 2), (.tmp 3)], (some
  (.seq
   (.reg [⟨(some 2), (.mv (.c (.str []))), none⟩, ⟨(some 3), (.mv (.c (.bool false))), none⟩])
   (.seq
    (.seq
     (.reg [⟨(some 8), (.mv (.t 0)), none⟩, ⟨(some 9), (.callF 25 false [(.t 8), (.c (.int .u8 (46)))]), none⟩])
     (.cond (.t 9)
      (.reg [⟨(some 10), (.mv (.t 0)), none⟩, ⟨(some 11), (.mv (.t 0)), none⟩, ⟨(some 12), (.len true (.t 11)), none⟩, ⟨(some 13), (.bin 0 .sub (.t 12) (.c (.int .i64 (1)))), none⟩, ⟨(some 14), (.sliceStr (.t 10) none (some (.t 13))), none⟩, ⟨(some 0), (.mv (.t 14)), none⟩])
      .skip))
    (.seq
     (.reg [⟨(some 15), (.mv (.t 0)), none⟩, ⟨(some 16), (.callF 26 false [(.t 15)]), none⟩, ⟨(some 4), (.mv (.t 16)), none⟩])
     (.seq
      (.reg [⟨(some 5), (.mv (.c (.str []))), none⟩])
      (.seq
       (.reg [⟨(some 6), (.mv (.c (.bool true))), none⟩])
       (.seq
        (.seq
         (.reg [⟨(some 7), (.mv (.c (.int .i64 (0)))), none⟩])
         (.block 0
          (.loop
           (.seq
            (.seq
             (.reg [⟨(some 17), (.mv (.t 7)), none⟩, ⟨(some 18), (.mv (.t 4)), none⟩, ⟨(some 19), (.len false (.t 18)), none⟩, ⟨(some 20), (.bin 0 .lss (.t 17) (.t 19)), none⟩])
             (.cond (.t 20)
              .skip
              (.exit 0)))
            (.seq
             (.block 1
              (.seq
               (.reg [⟨(some 23), (.mv (.t 4)), none⟩, ⟨(some 24), (.mv (.t 7)), none⟩, ⟨(some 25), (.idxS 1 (.t 23) (.t 24)), none⟩, ⟨(some 26), (.load false 1 (.t 25)), none⟩, ⟨(some 27), (.idxStr (.t 26) (.c (.int .i64 (0)))), none⟩])
               (.block 2
                (.seq
                 (.seq
                  (.reg [⟨(some 31), (.bin 0 .eql (.t 27) (.c (.int .u8 (108)))), none⟩, ⟨(some 30), (.mv (.t 31)), none⟩])
                  (.cond (.t 30)
                   .skip
                   (.reg [⟨(some 32), (.bin 0 .eql (.t 27) (.c (.int .u8 (76)))), none⟩, ⟨(some 30), (.mv (.t 32)), none⟩])))
                 (.cond (.t 30)
                  (.reg [⟨(some 33), (.mv (.t 5)), none⟩, ⟨(some 34), (.bin 0 .add (.t 33) (.c (.str [108]))), none⟩, ⟨(some 5), (.mv (.t 34)), none⟩])
                  (.seq
                   (.seq
                    (.reg [⟨(some 36), (.bin 0 .eql (.t 27) (.c (.int .u8 (99)))), none⟩, ⟨(some 35), (.mv (.t 36)), none⟩])
                    (.cond (.t 35)
                     .skip
                     (.reg [⟨(some 37), (.bin 0 .eql (.t 27) (.c (.int .u8 (67)))), none⟩, ⟨(some 35), (.mv (.t 37)), none⟩])))
                   (.cond (.t 35)
                    (.reg [⟨(some 38), (.mv (.t 5)), none⟩, ⟨(some 39), (.bin 0 .add (.t 38) (.c (.str [99]))), none⟩, ⟨(some 5), (.mv (.t 39)), none⟩])
                    (.seq
                     (.seq
                      (.reg [⟨(some 41), (.bin 0 .eql (.t 27) (.c (.int .u8 (114)))), none⟩, ⟨(some 40), (.mv (.t 41)), none⟩])
                      (.cond (.t 40)
                       .skip
                       (.reg [⟨(some 42), (.bin 0 .eql (.t 27) (.c (.int .u8 (82)))), none⟩, ⟨(some 40), (.mv (.t 42)), none⟩])))
                     (.cond (.t 40)
                      (.reg [⟨(some 43), (.mv (.t 5)), none⟩, ⟨(some 44), (.bin 0 .add (.t 43) (.c (.str [114]))), none⟩, ⟨(some 5), (.mv (.t 44)), none⟩])
                      (.seq
                       (.reg [⟨(some 28), (.mv (.t 5)), none⟩, ⟨(some 29), (.bin 0 .add (.t 28) (.c (.str [108]))), none⟩, ⟨(some 5), (.mv (.t 29)), none⟩])
                       (.reg [⟨(some 6), (.mv (.c (.bool false))), none⟩])))))))))))
             (.reg [⟨(some 21), (.mv (.t 7)), none⟩, ⟨(some 22), (.bin 0 .add (.t 21) (.c (.int .i64 (1)))), none⟩, ⟨(some 7), (.mv (.t 22)), none⟩]))))))
        (.seq
         (.reg [⟨(some 45), (.mv (.t 5)), none⟩, ⟨(some 46), (.mv (.t 6)), none⟩, ⟨(some 2), (.mv (.t 45)), none⟩, ⟨(some 3), (.mv (.t 46)), none⟩])
         .ret)))))))), 0⟩

def c12 : CFn := ⟨[(.tmp 4)], (some
  (.seq
   (.reg [⟨(some 4), (.mv (.c (.bool false))), none⟩])
   (.seq
    (.seq
     (.reg [⟨(some 6), (.mv (.t 0)), none⟩, ⟨(some 7), (.len false (.t 6)), none⟩, ⟨(some 8), (.mv (.t 1)), none⟩, ⟨(some 9), (.len false (.t 8)), none⟩, ⟨(some 10), (.bin 0 .neq (.t 7) (.t 9)), none⟩])
     (.cond (.t 10)
      (.seq
       (.reg [⟨(some 4), (.mv (.c (.bool false))), none⟩])
       .ret)
      .skip))
    (.seq
     (.seq
      (.reg [⟨(some 5), (.mv (.c (.int .i64 (0)))), none⟩])
      (.block 0
       (.loop
        (.seq
         (.seq
          (.reg [⟨(some 11), (.mv (.t 5)), none⟩, ⟨(some 12), (.mv (.t 0)), none⟩, ⟨(some 13), (.len false (.t 12)), none⟩, ⟨(some 14), (.bin 0 .lss (.t 11) (.t 13)), none⟩])
          (.cond (.t 14)
           .skip
           (.exit 0)))
         (.seq
          (.block 1
           (.seq
            (.dreg [⟨⟨(some 17), (.mv (.t 0)), none⟩, 0, false⟩, ⟨⟨(some 18), (.mv (.t 5)), none⟩, 0, false⟩, ⟨⟨(some 19), (.idxS 1 (.t 17) (.t 18)), none⟩, 0, false⟩, ⟨⟨(some 20), (.load false 1 (.t 19)), none⟩, 0, false⟩, ⟨⟨(some 21), (.mv (.t 1)), none⟩, 0, false⟩, ⟨⟨(some 22), (.mv (.t 5)), none⟩, 0, false⟩, ⟨⟨(some 23), (.idxS 1 (.t 21) (.t 22)), none⟩, 0, false⟩, ⟨⟨(some 24), (.load false 1 (.t 23)), none⟩, 0, false⟩, ⟨⟨(some 25), (.bin 0 .neq (.t 20) (.t 24)), none⟩, 0, false⟩] [])
            (.cond (.t 25)
             (.seq
              (.reg [⟨(some 4), (.mv (.c (.bool false))), none⟩])
              .ret)
             .skip)))
          (.reg [⟨(some 15), (.mv (.t 5)), none⟩, ⟨(some 16), (.bin 0 .add (.t 15) (.c (.int .i64 (1)))), none⟩, ⟨(some 5), (.mv (.t 16)), none⟩]))))))
     (.seq
      (.reg [⟨(some 4), (.mv (.c (.bool true))), none⟩])
      .ret))))), 0⟩

def c13 : CFn := ⟨[(.tmp 2)], (some
  (.seq
   (.reg [⟨(some 2), (.mv (.c (.sl true 0 []))), none⟩])
   (.seq
    (.reg [⟨(some 3), (.mv (.t 0)), none⟩, ⟨(some 4), (.callF 29 false [(.t 3), (.c (.str [9]))]), none⟩, ⟨(some 2), (.mv (.t 4)), none⟩])
    .ret))), 0⟩

def c14 : CFn := ⟨[(.tmp 4)], (some
  (.seq
   (.reg [⟨(some 4), (.mv (.c (.sl true 0 []))), none⟩])
   (.seq
    (.reg [⟨(some 5), (.mv (.c (.sl true 0 []))), none⟩])
    (.seq
     (.reg [⟨(some 6), (.mv (.c (.str []))), none⟩])
     (.seq
      (.seq
       (.reg [⟨(some 7), (.mv (.c (.int .i64 (0)))), none⟩])
       (.block 0
        (.loop
         (.seq
          (.seq
           (.reg [⟨(some 8), (.mv (.t 7)), none⟩, ⟨(some 9), (.mv (.t 0)), none⟩, ⟨(some 10), (.len true (.t 9)), none⟩, ⟨(some 11), (.bin 0 .lss (.t 8) (.t 10)), none⟩])
           (.cond (.t 11)
            .skip
            (.exit 0)))
          (.seq
           (.block 1
            (.seq
             (.reg [⟨(some 14), (.mv (.t 0)), none⟩, ⟨(some 15), (.mv (.t 7)), none⟩, ⟨(some 16), (.idxStr (.t 14) (.t 15)), none⟩, ⟨(some 17), (.mv (.t 1)), none⟩, ⟨(some 18), (.bin 0 .eql (.t 16) (.t 17)), none⟩])
             (.cond (.t 18)
              (.seq
               (.reg [⟨(some 19), (.mv (.t 5)), none⟩, ⟨(some 20), (.mv (.t 6)), none⟩, ⟨(some 21), (.bsl 1 [(.t 20)]), none⟩, ⟨(some 22), (.append 9 1 16 (.t 19) (.t 21)), none⟩, ⟨(some 5), (.mv (.t 22)), none⟩])
               (.reg [⟨(some 6), (.mv (.c (.str []))), none⟩]))
              (.reg [⟨(some 23), (.mv (.t 6)), none⟩, ⟨(some 24), (.mv (.t 0)), none⟩, ⟨(some 25), (.mv (.t 7)), none⟩, ⟨(some 26), (.mv (.t 7)), none⟩, ⟨(some 27), (.bin 0 .add (.t 26) (.c (.int .i64 (1)))), none⟩, ⟨(some 28), (.sliceStr (.t 24) (some (.t 25)) (some (.t 27))), none⟩, ⟨(some 29), (.bin 0 .add (.t 23) (.t 28)), none⟩, ⟨(some 6), (.mv (.t 29)), none⟩]))))
           (.reg [⟨(some 12), (.mv (.t 7)), none⟩, ⟨(some 13), (.bin 0 .add (.t 12) (.c (.int .i64 (1)))), none⟩, ⟨(some 7), (.mv (.t 13)), none⟩]))))))
      (.seq
       (.reg [⟨(some 30), (.mv (.t 5)), none⟩, ⟨(some 31), (.mv (.t 6)), none⟩, ⟨(some 32), (.bsl 1 [(.t 31)]), none⟩, ⟨(some 33), (.append 9 1 16 (.t 30) (.t 32)), none⟩, ⟨(some 4), (.mv (.t 33)), none⟩])
       .ret)))))), 0⟩

def c15 : CFn := ⟨[(.tmp 2)], (some
  (.seq
   (.reg [⟨(some 2), (.mv (.c (.bool false))), none⟩])
   (.seq
    (.reg [⟨(some 3), (.mv (.c (.int .i64 (0)))), none⟩])
    (.seq
     (.seq
      (.reg [⟨(some 4), (.mv (.c (.int .i64 (0)))), none⟩])
      (.block 0
       (.loop
        (.seq
         (.seq
          (.reg [⟨(some 5), (.mv (.t 4)), none⟩, ⟨(some 6), (.mv (.t 0)), none⟩, ⟨(some 7), (.len false (.t 6)), none⟩, ⟨(some 8), (.bin 0 .lss (.t 5) (.t 7)), none⟩])
          (.cond (.t 8)
           .skip
           (.exit 0)))
         (.seq
          (.block 1
           (.reg [⟨(some 11), (.mv (.t 3)), none⟩, ⟨(some 12), (.bin 0 .add (.t 11) (.c (.int .i64 (1)))), none⟩, ⟨(some 13), (.mv (.t 0)), none⟩, ⟨(some 14), (.mv (.t 4)), none⟩, ⟨(some 15), (.idxS 1 (.t 13) (.t 14)), none⟩, ⟨(some 16), (.load false 1 (.t 15)), none⟩, ⟨(some 17), (.len true (.t 16)), none⟩, ⟨(some 18), (.bin 0 .add (.t 12) (.t 17)), none⟩, ⟨(some 3), (.mv (.t 18)), none⟩]))
          (.reg [⟨(some 9), (.mv (.t 4)), none⟩, ⟨(some 10), (.bin 0 .add (.t 9) (.c (.int .i64 (1)))), none⟩, ⟨(some 4), (.mv (.t 10)), none⟩]))))))
     (.seq
      (.reg [⟨(some 19), (.mv (.t 3)), none⟩, ⟨(some 20), (.bin 0 .gtr (.t 19) (.c (.int .i64 (1000)))), none⟩, ⟨(some 2), (.mv (.t 20)), none⟩])
      .ret))))), 0⟩

def c16 : CFn := ⟨[(.cell 4 true 4), (.tmp 5)], (some
  (.seq
   (.reg [⟨(some 4), (.alloc (.agg [(.str []), (.sl true 0 []), (.bool false), (.bool false)]) 4 36), none⟩, ⟨(some 5), (.mv (.c (.sl true 0 []))), none⟩])
   (.seq
    (.reg [⟨(some 7), (.mv (.t 1)), none⟩, ⟨(some 8), (.mv (.t 0)), none⟩, ⟨(some 9), (.build [(.sl true 0 []), (.int .i64 (0)), (.int .i64 (0)), (.str []), (.sl true 0 []), (.bool false), (.bool false), (.sl true 0 [])] [(0, (1, (.t 7))), (2, (1, (.t 8)))]), none⟩, ⟨(some 10), (.box 8 65 (.t 9)), none⟩, ⟨(some 6), (.mv (.t 10)), none⟩])
    (.seq
     (.reg [⟨(some 11), (.mv (.t 6)), none⟩, ⟨(some 12), (.callF 30 true [(.t 11)]), none⟩])
     (.seq
      (.reg [⟨(some 13), (.mv (.t 6)), none⟩, ⟨(some 14), (.callF 31 true [(.t 13)]), none⟩])
      (.seq
       (.block 0
        (.loop
         (.seq
          (.seq
           (.dreg [⟨⟨(some 15), (.mv (.t 6)), none⟩, 0, false⟩, ⟨⟨(some 16), (.nilCheck (.t 15)), none⟩, 0, false⟩, ⟨⟨(some 17), (.fld 1 (.t 16)), none⟩, 0, false⟩, ⟨⟨(some 18), (.load false 1 (.t 17)), none⟩, 0, false⟩, ⟨⟨(some 19), (.mv (.t 6)), none⟩, 0, false⟩, ⟨⟨(some 20), (.nilCheck (.t 19)), none⟩, 0, false⟩, ⟨⟨(some 21), (.fld 0 (.t 20)), none⟩, 0, false⟩, ⟨⟨(some 22), (.load false 1 (.t 21)), none⟩, 0, false⟩, ⟨⟨(some 23), (.len false (.t 22)), none⟩, 0, false⟩, ⟨⟨(some 24), (.bin 0 .lss (.t 18) (.t 23)), none⟩, 0, false⟩] [])
           (.cond (.t 24)
            .skip
            (.exit 0)))
          (.seq
           (.block 1
            (.reg [⟨(some 32), (.mv (.t 6)), none⟩, ⟨(some 33), (.callF 32 true [(.t 32)]), none⟩]))
           (.reg [⟨(some 25), (.mv (.t 6)), none⟩, ⟨(some 26), (.nilCheck (.t 25)), none⟩, ⟨(some 27), (.fld 1 (.t 26)), none⟩, ⟨(some 28), (.load false 1 (.t 27)), none⟩, ⟨(some 29), (.bin 0 .add (.t 28) (.c (.int .i64 (1)))), none⟩, ⟨(some 30), (.nilCheck (.t 25)), none⟩, ⟨(some 31), (.fld 1 (.t 30)), none⟩, ⟨none, (.store 1 (.t 31) (.t 29)), none⟩])))))
       (.seq
        (.dreg [⟨⟨(some 34), (.mv (.t 6)), none⟩, 0, false⟩, ⟨⟨(some 35), (.nilCheck (.t 34)), none⟩, 0, false⟩, ⟨⟨(some 36), (.fld 3 (.t 35)), none⟩, 0, false⟩, ⟨⟨(some 37), (.load true 4 (.t 36)), none⟩, 0, false⟩, ⟨⟨(some 38), (.callF 33 false [(.t 37)]), none⟩, 0, true⟩, ⟨⟨(some 39), (.mv (.t 6)), none⟩, 0, false⟩, ⟨⟨(some 40), (.nilCheck (.t 39)), none⟩, 0, false⟩, ⟨⟨(some 41), (.fld 7 (.t 40)), none⟩, 0, false⟩, ⟨⟨(some 42), (.load false 1 (.t 41)), none⟩, 0, false⟩, ⟨⟨none, (.store 4 (.t 4) (.t 38)), none⟩, 1, true⟩, ⟨⟨(some 5), (.mv (.t 42)), none⟩, 2, false⟩] [⟨⟨(some 42), (.load false 1 (.t 41)), none⟩, 1⟩, ⟨⟨(some 42), (.load false 1 (.t 41)), none⟩, 2⟩])
        .ret))))))), 0⟩

def c17 : CFn := ⟨[(.tmp 2)], (some
  (.seq
   (.reg [⟨(some 1), (.box 4 36 (.t 0)), none⟩, ⟨(some 2), (.mv (.c (.bool false))), none⟩])
   (.seq
    (.seq
     (.reg [⟨(some 7), (.fld 0 (.t 1)), none⟩, ⟨(some 8), (.load false 1 (.t 7)), none⟩, ⟨(some 9), (.len true (.t 8)), none⟩, ⟨(some 10), (.bin 0 .lss (.t 9) (.c (.int .i64 (1)))), none⟩, ⟨(some 11), (.mv (.t 10)), none⟩, ⟨(some 12), (.fld 0 (.t 1)), (some (11, false))⟩, ⟨(some 13), (.load false 1 (.t 12)), (some (11, false))⟩, ⟨(some 14), (.len true (.t 13)), (some (11, false))⟩, ⟨(some 15), (.bin 0 .gtr (.t 14) (.c (.int .i64 (20)))), (some (11, false))⟩, ⟨(some 16), (.pick (.t 11) (.c (.bool true)) (.t 15)), none⟩, ⟨(some 17), (.mv (.t 16)), none⟩, ⟨(some 18), (.fld 3 (.t 1)), (some (17, false))⟩, ⟨(some 19), (.load false 1 (.t 18)), (some (17, false))⟩, ⟨(some 20), (.mv (.t 19)), (some (17, false))⟩, ⟨(some 21), (.fld 2 (.t 1)), (some (20, true))⟩, ⟨(some 22), (.load false 1 (.t 21)), (some (20, true))⟩, ⟨(some 23), (.un .not (.t 22)), (some (20, true))⟩, ⟨(some 24), (.pick (.t 20) (.t 23) (.c (.bool false))), (some (17, false))⟩, ⟨(some 25), (.pick (.t 17) (.c (.bool true)) (.t 24)), none⟩])
     (.cond (.t 25)
      (.seq
       (.reg [⟨(some 2), (.mv (.c (.bool false))), none⟩])
       .ret)
      .skip))
    (.seq
     (.seq
      (.reg [⟨(some 3), (.mv (.c (.int .i64 (0)))), none⟩])
      (.block 0
       (.loop
        (.seq
         (.seq
          (.reg [⟨(some 26), (.mv (.t 3)), none⟩, ⟨(some 27), (.fld 0 (.t 1)), none⟩, ⟨(some 28), (.load false 1 (.t 27)), none⟩, ⟨(some 29), (.len true (.t 28)), none⟩, ⟨(some 30), (.bin 0 .lss (.t 26) (.t 29)), none⟩])
          (.cond (.t 30)
           .skip
           (.exit 0)))
         (.seq
          (.block 1
           (.seq
            (.reg [⟨(some 33), (.fld 0 (.t 1)), none⟩, ⟨(some 34), (.load false 1 (.t 33)), none⟩, ⟨(some 35), (.mv (.t 3)), none⟩, ⟨(some 36), (.idxStr (.t 34) (.t 35)), none⟩, ⟨(some 37), (.callF 34 false [(.t 36)]), none⟩, ⟨(some 38), (.un .not (.t 37)), none⟩])
            (.cond (.t 38)
             (.seq
              (.reg [⟨(some 2), (.mv (.c (.bool false))), none⟩])
              .ret)
             .skip)))
          (.reg [⟨(some 31), (.mv (.t 3)), none⟩, ⟨(some 32), (.bin 0 .add (.t 31) (.c (.int .i64 (1)))), none⟩, ⟨(some 3), (.mv (.t 32)), none⟩]))))))
     (.seq
      (.seq
       (.reg [⟨(some 4), (.mv (.c (.int .i64 (0)))), none⟩])
       (.block 2
        (.loop
         (.seq
          (.seq
           (.reg [⟨(some 39), (.mv (.t 4)), none⟩, ⟨(some 40), (.fld 1 (.t 1)), none⟩, ⟨(some 41), (.load false 1 (.t 40)), none⟩, ⟨(some 42), (.len false (.t 41)), none⟩, ⟨(some 43), (.bin 0 .lss (.t 39) (.t 42)), none⟩])
           (.cond (.t 43)
            .skip
            (.exit 2)))
          (.seq
           (.block 3
            (.seq
             (.reg [⟨(some 46), (.fld 1 (.t 1)), none⟩, ⟨(some 47), (.load false 1 (.t 46)), none⟩, ⟨(some 48), (.mv (.t 4)), none⟩, ⟨(some 49), (.idxS 2 (.t 47) (.t 48)), none⟩, ⟨(some 50), (.load true 2 (.t 49)), none⟩, ⟨(some 5), (.alloc (.agg [(.bool false), (.sl true 0 [])]) 2 56), none⟩, ⟨none, (.store 2 (.t 5) (.t 50)), none⟩])
             (.seq
              (.seq
               (.reg [⟨(some 51), (.fld 0 (.t 5)), none⟩, ⟨(some 52), (.load false 1 (.t 51)), none⟩, ⟨(some 53), (.mv (.t 52)), none⟩, ⟨(some 54), (.fld 1 (.t 5)), (some (53, true))⟩, ⟨(some 55), (.load false 1 (.t 54)), (some (53, true))⟩, ⟨(some 56), (.len false (.t 55)), (some (53, true))⟩, ⟨(some 57), (.bin 0 .gtr (.t 56) (.c (.int .i64 (0)))), (some (53, true))⟩, ⟨(some 58), (.pick (.t 53) (.t 57) (.c (.bool false))), none⟩, ⟨(some 59), (.mv (.t 58)), none⟩, ⟨(some 60), (.fld 0 (.t 5)), (some (59, false))⟩, ⟨(some 61), (.load false 1 (.t 60)), (some (59, false))⟩, ⟨(some 62), (.un .not (.t 61)), (some (59, false))⟩, ⟨(some 63), (.mv (.t 62)), (some (59, false))⟩, ⟨(some 64), (.fld 1 (.t 5)), (some (63, true))⟩, ⟨(some 65), (.load false 1 (.t 64)), (some (63, true))⟩, ⟨(some 66), (.len false (.t 65)), (some (63, true))⟩, ⟨(some 67), (.fld 0 (.t 1)), (some (63, true))⟩, ⟨(some 68), (.load false 1 (.t 67)), (some (63, true))⟩, ⟨(some 69), (.len true (.t 68)), (some (63, true))⟩, ⟨(some 70), (.bin 0 .neq (.t 66) (.t 69)), (some (63, true))⟩, ⟨(some 71), (.pick (.t 63) (.t 70) (.c (.bool false))), (some (59, false))⟩, ⟨(some 72), (.pick (.t 59) (.c (.bool true)) (.t 71)), none⟩])
               (.cond (.t 72)
                (.seq
                 (.reg [⟨(some 2), (.mv (.c (.bool false))), none⟩])
                 .ret)
                .skip))
              (.seq
               (.reg [⟨(some 6), (.mv (.c (.int .i64 (0)))), none⟩])
               (.block 4
                (.loop
                 (.seq
                  (.seq
                   (.reg [⟨(some 73), (.mv (.t 6)), none⟩, ⟨(some 74), (.fld 1 (.t 5)), none⟩, ⟨(some 75), (.load false 1 (.t 74)), none⟩, ⟨(some 76), (.len false (.t 75)), none⟩, ⟨(some 77), (.bin 0 .lss (.t 73) (.t 76)), none⟩])
                   (.cond (.t 77)
                    .skip
                    (.exit 4)))
                  (.seq
                   (.block 5
                    (.seq
                     (.reg [⟨(some 80), (.fld 1 (.t 5)), none⟩, ⟨(some 81), (.load false 1 (.t 80)), none⟩, ⟨(some 82), (.mv (.t 6)), none⟩, ⟨(some 83), (.idxS 1 (.t 81) (.t 82)), none⟩, ⟨(some 84), (.load false 1 (.t 83)), none⟩, ⟨(some 85), (.callF 35 false [(.t 84)]), none⟩, ⟨(some 86), (.un .not (.t 85)), none⟩])
                     (.cond (.t 86)
                      (.seq
                       (.reg [⟨(some 2), (.mv (.c (.bool false))), none⟩])
                       .ret)
                      .skip)))
                   (.reg [⟨(some 78), (.mv (.t 6)), none⟩, ⟨(some 79), (.bin 0 .add (.t 78) (.c (.int .i64 (1)))), none⟩, ⟨(some 6), (.mv (.t 79)), none⟩])))))))))
           (.reg [⟨(some 44), (.mv (.t 4)), none⟩, ⟨(some 45), (.bin 0 .add (.t 44) (.c (.int .i64 (1)))), none⟩, ⟨(some 4), (.mv (.t 45)), none⟩]))))))
      (.seq
       (.reg [⟨(some 2), (.mv (.c (.bool true))), none⟩])
       .ret)))))), 0⟩

def c18 : CFn := ⟨[(.tmp 2)], (some
  (.seq
   (.reg [⟨(some 2), (.mv (.c (.int .i64 (0)))), none⟩])
   (.seq
    (.reg [⟨(some 3), (.mv (.c (.int .i64 (0)))), none⟩])
    (.seq
     (.seq
      (.reg [⟨(some 4), (.mv (.c (.int .i64 (0)))), none⟩])
      (.block 0
       (.loop
        (.seq
         (.seq
          (.reg [⟨(some 9), (.mv (.t 4)), none⟩, ⟨(some 10), (.mv (.t 0)), none⟩, ⟨(some 11), (.len false (.t 10)), none⟩, ⟨(some 12), (.bin 0 .lss (.t 9) (.t 11)), none⟩])
          (.cond (.t 12)
           .skip
           (.exit 0)))
         (.seq
          (.block 1
           (.seq
            (.dreg [⟨⟨(some 15), (.mv (.t 3)), none⟩, 0, false⟩, ⟨⟨(some 16), (.bin 0 .add (.t 15) (.c (.int .i64 (3)))), none⟩, 0, false⟩, ⟨⟨(some 17), (.mv (.t 0)), none⟩, 0, false⟩, ⟨⟨(some 18), (.mv (.t 4)), none⟩, 0, false⟩, ⟨⟨(some 19), (.idxS 10 (.t 17) (.t 18)), none⟩, 0, false⟩, ⟨⟨(some 20), (.fld 3 (.t 19)), none⟩, 0, false⟩, ⟨⟨(some 21), (.load false 1 (.t 20)), none⟩, 0, false⟩, ⟨⟨(some 22), (.len false (.t 21)), none⟩, 0, false⟩, ⟨⟨(some 23), (.bin 0 .add (.t 16) (.t 22)), none⟩, 0, false⟩, ⟨⟨(some 24), (.mv (.t 0)), none⟩, 0, false⟩, ⟨⟨(some 25), (.mv (.t 4)), none⟩, 0, false⟩, ⟨⟨(some 26), (.idxS 10 (.t 24) (.t 25)), none⟩, 0, false⟩, ⟨⟨(some 27), (.fld 6 (.t 26)), none⟩, 0, false⟩, ⟨⟨(some 28), (.fld 0 (.t 27)), none⟩, 0, false⟩, ⟨⟨(some 29), (.load false 1 (.t 28)), none⟩, 0, false⟩, ⟨⟨(some 30), (.len true (.t 29)), none⟩, 0, false⟩, ⟨⟨(some 31), (.bin 0 .add (.t 23) (.t 30)), none⟩, 0, false⟩, ⟨⟨(some 32), (.mv (.t 0)), none⟩, 0, false⟩, ⟨⟨(some 33), (.mv (.t 4)), none⟩, 0, false⟩, ⟨⟨(some 34), (.idxS 10 (.t 32) (.t 33)), none⟩, 0, false⟩, ⟨⟨(some 35), (.fld 4 (.t 34)), none⟩, 0, false⟩, ⟨⟨(some 36), (.load false 1 (.t 35)), none⟩, 0, false⟩, ⟨⟨(some 37), (.callF 18 false [(.t 36)]), none⟩, 0, true⟩, ⟨⟨(some 38), (.bin 0 .add (.t 31) (.t 37)), none⟩, 1, false⟩, ⟨⟨(some 3), (.mv (.t 38)), none⟩, 1, false⟩] [⟨⟨(some 21), (.load false 1 (.t 20)), none⟩, 1⟩, ⟨⟨(some 29), (.load false 1 (.t 28)), none⟩, 1⟩])
            (.seq
             (.seq
              (.reg [⟨(some 5), (.mv (.c (.int .i64 (0)))), none⟩])
              (.block 2
               (.loop
                (.seq
                 (.seq
                  (.reg [⟨(some 39), (.mv (.t 5)), none⟩, ⟨(some 40), (.mv (.t 0)), none⟩, ⟨(some 41), (.mv (.t 4)), none⟩, ⟨(some 42), (.idxS 10 (.t 40) (.t 41)), none⟩, ⟨(some 43), (.fld 5 (.t 42)), none⟩, ⟨(some 44), (.load false 1 (.t 43)), none⟩, ⟨(some 45), (.len false (.t 44)), none⟩, ⟨(some 46), (.bin 0 .lss (.t 39) (.t 45)), none⟩])
                  (.cond (.t 46)
                   .skip
                   (.exit 2)))
                 (.seq
                  (.block 3
                   (.reg [⟨(some 49), (.mv (.t 3)), none⟩, ⟨(some 50), (.bin 0 .add (.t 49) (.c (.int .i64 (1)))), none⟩, ⟨(some 51), (.mv (.t 0)), none⟩, ⟨(some 52), (.mv (.t 4)), none⟩, ⟨(some 53), (.idxS 10 (.t 51) (.t 52)), none⟩, ⟨(some 54), (.fld 5 (.t 53)), none⟩, ⟨(some 55), (.load false 1 (.t 54)), none⟩, ⟨(some 56), (.mv (.t 5)), none⟩, ⟨(some 57), (.idxS 1 (.t 55) (.t 56)), none⟩, ⟨(some 58), (.load false 1 (.t 57)), none⟩, ⟨(some 59), (.len false (.t 58)), none⟩, ⟨(some 60), (.bin 0 .add (.t 50) (.t 59)), none⟩, ⟨(some 3), (.mv (.t 60)), none⟩]))
                  (.reg [⟨(some 47), (.mv (.t 5)), none⟩, ⟨(some 48), (.bin 0 .add (.t 47) (.c (.int .i64 (1)))), none⟩, ⟨(some 5), (.mv (.t 48)), none⟩]))))))
             (.seq
              (.reg [⟨(some 6), (.mv (.c (.int .i64 (0)))), none⟩])
              (.block 4
               (.loop
                (.seq
                 (.seq
                  (.reg [⟨(some 61), (.mv (.t 6)), none⟩, ⟨(some 62), (.mv (.t 0)), none⟩, ⟨(some 63), (.mv (.t 4)), none⟩, ⟨(some 64), (.idxS 10 (.t 62) (.t 63)), none⟩, ⟨(some 65), (.fld 6 (.t 64)), none⟩, ⟨(some 66), (.fld 1 (.t 65)), none⟩, ⟨(some 67), (.load false 1 (.t 66)), none⟩, ⟨(some 68), (.len false (.t 67)), none⟩, ⟨(some 69), (.bin 0 .lss (.t 61) (.t 68)), none⟩])
                  (.cond (.t 69)
                   .skip
                   (.exit 4)))
                 (.seq
                  (.block 5
                   (.seq
                    (.reg [⟨(some 72), (.mv (.t 0)), none⟩, ⟨(some 73), (.mv (.t 4)), none⟩, ⟨(some 74), (.idxS 10 (.t 72) (.t 73)), none⟩, ⟨(some 75), (.fld 6 (.t 74)), none⟩, ⟨(some 76), (.fld 1 (.t 75)), none⟩, ⟨(some 77), (.load false 1 (.t 76)), none⟩, ⟨(some 78), (.mv (.t 6)), none⟩, ⟨(some 79), (.idxS 2 (.t 77) (.t 78)), none⟩, ⟨(some 80), (.fld 1 (.t 79)), none⟩, ⟨(some 81), (.load false 1 (.t 80)), none⟩, ⟨(some 7), (.mv (.t 81)), none⟩])
                    (.seq
                     (.reg [⟨(some 82), (.mv (.t 3)), none⟩, ⟨(some 83), (.bin 0 .add (.t 82) (.c (.int .i64 (1)))), none⟩, ⟨(some 84), (.mv (.t 7)), none⟩, ⟨(some 85), (.len false (.t 84)), none⟩, ⟨(some 86), (.bin 0 .add (.t 83) (.t 85)), none⟩, ⟨(some 3), (.mv (.t 86)), none⟩])
                     (.seq
                      (.reg [⟨(some 8), (.mv (.c (.int .i64 (0)))), none⟩])
                      (.block 6
                       (.loop
                        (.seq
                         (.seq
                          (.reg [⟨(some 87), (.mv (.t 8)), none⟩, ⟨(some 88), (.mv (.t 7)), none⟩, ⟨(some 89), (.len false (.t 88)), none⟩, ⟨(some 90), (.bin 0 .lss (.t 87) (.t 89)), none⟩])
                          (.cond (.t 90)
                           .skip
                           (.exit 6)))
                         (.seq
                          (.block 7
                           (.reg [⟨(some 93), (.mv (.t 3)), none⟩, ⟨(some 94), (.mv (.t 7)), none⟩, ⟨(some 95), (.mv (.t 8)), none⟩, ⟨(some 96), (.idxS 1 (.t 94) (.t 95)), none⟩, ⟨(some 97), (.load false 1 (.t 96)), none⟩, ⟨(some 98), (.len false (.t 97)), none⟩, ⟨(some 99), (.bin 0 .add (.t 93) (.t 98)), none⟩, ⟨(some 3), (.mv (.t 99)), none⟩]))
                          (.reg [⟨(some 91), (.mv (.t 8)), none⟩, ⟨(some 92), (.bin 0 .add (.t 91) (.c (.int .i64 (1)))), none⟩, ⟨(some 8), (.mv (.t 92)), none⟩])))))))))
                  (.reg [⟨(some 70), (.mv (.t 6)), none⟩, ⟨(some 71), (.bin 0 .add (.t 70) (.c (.int .i64 (1)))), none⟩, ⟨(some 6), (.mv (.t 71)), none⟩])))))))))
          (.reg [⟨(some 13), (.mv (.t 4)), none⟩, ⟨(some 14), (.bin 0 .add (.t 13) (.c (.int .i64 (1)))), none⟩, ⟨(some 4), (.mv (.t 14)), none⟩]))))))
     (.seq
      (.reg [⟨(some 100), (.mv (.t 3)), none⟩, ⟨(some 2), (.mv (.t 100)), none⟩])
      .ret))))), 0⟩

def c19 : CFn := ⟨[(.tmp 2)], (some
  (.seq
   (.reg [⟨(some 1), (.box 4 36 (.t 0)), none⟩, ⟨(some 2), (.mv (.c (.bool false))), none⟩])
   (.seq
    (.seq
     (.reg [⟨(some 3), (.mv (.c (.int .i64 (0)))), none⟩])
     (.block 0
      (.loop
       (.seq
        (.seq
         (.reg [⟨(some 7), (.mv (.t 3)), none⟩, ⟨(some 8), (.fld 1 (.t 1)), none⟩, ⟨(some 9), (.load false 1 (.t 8)), none⟩, ⟨(some 10), (.len false (.t 9)), none⟩, ⟨(some 11), (.bin 0 .lss (.t 7) (.t 10)), none⟩])
         (.cond (.t 11)
          .skip
          (.exit 0)))
        (.seq
         (.block 1
          (.seq
           (.reg [⟨(some 4), (.mv (.c (.int .i64 (0)))), none⟩])
           (.block 2
            (.loop
             (.seq
              (.seq
               (.reg [⟨(some 14), (.mv (.t 4)), none⟩, ⟨(some 15), (.fld 1 (.t 1)), none⟩, ⟨(some 16), (.load false 1 (.t 15)), none⟩, ⟨(some 17), (.mv (.t 3)), none⟩, ⟨(some 18), (.idxS 2 (.t 16) (.t 17)), none⟩, ⟨(some 19), (.fld 1 (.t 18)), none⟩, ⟨(some 20), (.load false 1 (.t 19)), none⟩, ⟨(some 21), (.len false (.t 20)), none⟩, ⟨(some 22), (.bin 0 .lss (.t 14) (.t 21)), none⟩])
               (.cond (.t 22)
                .skip
                (.exit 2)))
              (.seq
               (.block 3
                (.seq
                 (.reg [⟨(some 25), (.fld 1 (.t 1)), none⟩, ⟨(some 26), (.load false 1 (.t 25)), none⟩, ⟨(some 27), (.mv (.t 3)), none⟩, ⟨(some 28), (.idxS 2 (.t 26) (.t 27)), none⟩, ⟨(some 29), (.fld 1 (.t 28)), none⟩, ⟨(some 30), (.load false 1 (.t 29)), none⟩, ⟨(some 31), (.mv (.t 4)), none⟩, ⟨(some 32), (.idxS 1 (.t 30) (.t 31)), none⟩, ⟨(some 33), (.load false 1 (.t 32)), none⟩, ⟨(some 5), (.mv (.t 33)), none⟩])
                 (.seq
                  (.reg [⟨(some 6), (.mv (.c (.int .i64 (0)))), none⟩])
                  (.block 4
                   (.loop
                    (.seq
                     (.seq
                      (.reg [⟨(some 34), (.mv (.t 6)), none⟩, ⟨(some 35), (.mv (.t 5)), none⟩, ⟨(some 36), (.len false (.t 35)), none⟩, ⟨(some 37), (.bin 0 .lss (.t 34) (.t 36)), none⟩])
                      (.cond (.t 37)
                       .skip
                       (.exit 4)))
                     (.seq
                      (.block 5
                       (.seq
                        (.reg [⟨(some 40), (.mv (.t 5)), none⟩, ⟨(some 41), (.mv (.t 6)), none⟩, ⟨(some 42), (.idxS 2 (.t 40) (.t 41)), none⟩, ⟨(some 43), (.fld 1 (.t 42)), none⟩, ⟨(some 44), (.load false 1 (.t 43)), none⟩, ⟨(some 45), (.bin 0 .neq (.t 44) (.c (.int .u8 (0)))), none⟩, ⟨(some 46), (.mv (.t 45)), none⟩, ⟨(some 47), (.mv (.t 5)), (some (46, false))⟩, ⟨(some 48), (.mv (.t 6)), (some (46, false))⟩, ⟨(some 49), (.idxS 2 (.t 47) (.t 48)), (some (46, false))⟩, ⟨(some 50), (.fld 0 (.t 49)), (some (46, false))⟩, ⟨(some 51), (.load false 1 (.t 50)), (some (46, false))⟩, ⟨(some 52), (.bin 0 .neq (.t 51) (.c (.int .i32 (32)))), (some (46, false))⟩, ⟨(some 53), (.mv (.t 52)), (some (46, false))⟩, ⟨(some 54), (.mv (.t 5)), (some (53, true))⟩, ⟨(some 55), (.mv (.t 6)), (some (53, true))⟩, ⟨(some 56), (.idxS 2 (.t 54) (.t 55)), (some (53, true))⟩, ⟨(some 57), (.fld 0 (.t 56)), (some (53, true))⟩, ⟨(some 58), (.load false 1 (.t 57)), (some (53, true))⟩, ⟨(some 59), (.bin 0 .neq (.t 58) (.c (.int .i32 (95)))), (some (53, true))⟩, ⟨(some 60), (.pick (.t 53) (.t 59) (.c (.bool false))), (some (46, false))⟩, ⟨(some 61), (.mv (.t 60)), (some (46, false))⟩, ⟨(some 62), (.mv (.t 5)), (some (61, true))⟩, ⟨(some 63), (.mv (.t 6)), (some (61, true))⟩, ⟨(some 64), (.idxS 2 (.t 62) (.t 63)), (some (61, true))⟩, ⟨(some 65), (.fld 0 (.t 64)), (some (61, true))⟩, ⟨(some 66), (.load false 1 (.t 65)), (some (61, true))⟩, ⟨(some 67), (.bin 0 .lss (.t 66) (.c (.int .i32 (97)))), (some (61, true))⟩, ⟨(some 68), (.mv (.t 67)), (some (61, true))⟩, ⟨(some 69), (.mv (.t 5)), (some (68, false))⟩, ⟨(some 70), (.mv (.t 6)), (some (68, false))⟩, ⟨(some 71), (.idxS 2 (.t 69) (.t 70)), (some (68, false))⟩, ⟨(some 72), (.fld 0 (.t 71)), (some (68, false))⟩, ⟨(some 73), (.load false 1 (.t 72)), (some (68, false))⟩, ⟨(some 74), (.bin 0 .gtr (.t 73) (.c (.int .i32 (122)))), (some (68, false))⟩, ⟨(some 75), (.pick (.t 68) (.c (.bool true)) (.t 74)), (some (61, true))⟩, ⟨(some 76), (.pick (.t 61) (.t 75) (.c (.bool false))), (some (46, false))⟩, ⟨(some 77), (.pick (.t 46) (.c (.bool true)) (.t 76)), none⟩])
                        (.cond (.t 77)
                         (.seq
                          (.reg [⟨(some 2), (.mv (.c (.bool false))), none⟩])
                          .ret)
                         .skip)))
                      (.reg [⟨(some 38), (.mv (.t 6)), none⟩, ⟨(some 39), (.bin 0 .add (.t 38) (.c (.int .i64 (1)))), none⟩, ⟨(some 6), (.mv (.t 39)), none⟩]))))))))
               (.reg [⟨(some 23), (.mv (.t 4)), none⟩, ⟨(some 24), (.bin 0 .add (.t 23) (.c (.int .i64 (1)))), none⟩, ⟨(some 4), (.mv (.t 24)), none⟩])))))))
         (.reg [⟨(some 12), (.mv (.t 3)), none⟩, ⟨(some 13), (.bin 0 .add (.t 12) (.c (.int .i64 (1)))), none⟩, ⟨(some 3), (.mv (.t 13)), none⟩]))))))
    (.seq
     (.reg [⟨(some 2), (.mv (.c (.bool true))), none⟩])
     .ret)))), 0⟩

def c20 : CFn := ⟨[(.tmp 2)], (some
  (.seq
   (.reg [⟨(some 1), (.box 4 36 (.t 0)), none⟩, ⟨(some 2), (.mv (.c (.sl true 0 []))), none⟩])
   (.seq
    (.reg [⟨(some 9), (.load true 4 (.t 1)), none⟩, ⟨(some 10), (.callF 33 false [(.t 9)]), none⟩, ⟨none, (.store 4 (.t 1) (.t 10)), none⟩])
    (.seq
     (.reg [⟨(some 3), (.mv (.c (.sl true 0 []))), none⟩])
     (.seq
      (.block 0
       (.seq
        (.reg [⟨(some 12), (.fld 3 (.t 1)), none⟩, ⟨(some 13), (.load false 1 (.t 12)), none⟩, ⟨(some 11), (.mv (.t 13)), none⟩])
        (.cond (.t 11)
         (.reg [⟨(some 14), (.mv (.t 3)), none⟩, ⟨(some 15), (.bsl 1 [(.c (.str [97, 108, 108, 98, 111, 120, 59]))]), none⟩, ⟨(some 16), (.append 9 1 16 (.t 14) (.t 15)), none⟩, ⟨(some 3), (.mv (.t 16)), none⟩])
         (.seq
          (.reg [⟨(some 18), (.fld 2 (.t 1)), none⟩, ⟨(some 19), (.load false 1 (.t 18)), none⟩, ⟨(some 17), (.mv (.t 19)), none⟩])
          (.cond (.t 17)
           (.reg [⟨(some 20), (.mv (.t 3)), none⟩, ⟨(some 21), (.bsl 1 [(.c (.str [98, 111, 120, 59]))]), none⟩, ⟨(some 22), (.append 9 1 16 (.t 20) (.t 21)), none⟩, ⟨(some 3), (.mv (.t 22)), none⟩])
           .skip)))))
      (.seq
       (.reg [⟨(some 23), (.mv (.t 3)), none⟩, ⟨(some 24), (.fld 0 (.t 1)), none⟩, ⟨(some 25), (.load false 1 (.t 24)), none⟩, ⟨(some 26), (.callF 29 false [(.t 25), (.c (.str []))]), none⟩, ⟨(some 27), (.callF 36 false [(.t 26), (.c (.str [32]))]), none⟩, ⟨(some 28), (.bin 0 .add (.t 27) (.c (.str [46]))), none⟩, ⟨(some 29), (.bsl 1 [(.t 28)]), none⟩, ⟨(some 30), (.append 9 1 16 (.t 23) (.t 29)), none⟩, ⟨(some 3), (.mv (.t 30)), none⟩])
       (.seq
        (.seq
         (.reg [⟨(some 31), (.fld 1 (.t 1)), none⟩, ⟨(some 32), (.load false 1 (.t 31)), none⟩, ⟨(some 33), (.len false (.t 32)), none⟩, ⟨(some 34), (.mv (.c (.int .i64 (0)))), none⟩])
         (.block 1
          (.loop
           (.seq
            (.reg [⟨(some 35), (.bin 0 .lss (.t 34) (.t 33)), none⟩])
            (.seq
             (.cond (.t 35)
              .skip
              (.exit 1))
             (.seq
              (.block 2
               (.seq
                (.reg [⟨(some 36), (.idxS 2 (.t 32) (.t 34)), none⟩, ⟨(some 37), (.load true 2 (.t 36)), none⟩, ⟨(some 5), (.alloc (.agg [(.bool false), (.sl true 0 [])]) 2 56), none⟩, ⟨none, (.store 2 (.t 5) (.t 37)), none⟩])
                (.seq
                 (.seq
                  (.reg [⟨(some 38), (.fld 0 (.t 5)), none⟩, ⟨(some 39), (.load false 1 (.t 38)), none⟩])
                  (.cond (.t 39)
                   (.seq
                    (.reg [⟨(some 40), (.mv (.t 3)), none⟩, ⟨(some 41), (.bsl 1 [(.c (.str [95]))]), none⟩, ⟨(some 42), (.append 9 1 16 (.t 40) (.t 41)), none⟩, ⟨(some 3), (.mv (.t 42)), none⟩])
                    (.exit 2))
                   .skip))
                 (.seq
                  (.reg [⟨(some 6), (.mv (.c (.sl true 0 []))), none⟩])
                  (.seq
                   (.seq
                    (.reg [⟨(some 43), (.fld 1 (.t 5)), none⟩, ⟨(some 44), (.load false 1 (.t 43)), none⟩, ⟨(some 45), (.len false (.t 44)), none⟩, ⟨(some 46), (.mv (.c (.int .i64 (0)))), none⟩])
                    (.block 3
                     (.loop
                      (.seq
                       (.reg [⟨(some 47), (.bin 0 .lss (.t 46) (.t 45)), none⟩])
                       (.seq
                        (.cond (.t 47)
                         .skip
                         (.exit 3))
                        (.seq
                         (.block 4
                          (.seq
                           (.reg [⟨(some 48), (.idxS 1 (.t 44) (.t 46)), none⟩, ⟨(some 49), (.load false 1 (.t 48)), none⟩, ⟨(some 8), (.mv (.t 49)), none⟩])
                           (.reg [⟨(some 50), (.mv (.t 6)), none⟩, ⟨(some 51), (.mv (.t 8)), none⟩, ⟨(some 52), (.fld 1 (.t 5)), none⟩, ⟨(some 53), (.load false 1 (.t 52)), none⟩, ⟨(some 54), (.len false (.t 53)), none⟩, ⟨(some 55), (.bin 0 .eql (.t 54) (.c (.int .i64 (1)))), none⟩, ⟨(some 56), (.callF 37 false [(.t 51), (.t 55)]), none⟩, ⟨(some 57), (.bsl 1 [(.t 56)]), none⟩, ⟨(some 58), (.append 9 1 16 (.t 50) (.t 57)), none⟩, ⟨(some 6), (.mv (.t 58)), none⟩])))
                         (.reg [⟨(some 59), (.bin 0 .add (.t 46) (.c (.int .i64 (1)))), none⟩, ⟨(some 46), (.mv (.t 59)), none⟩])))))))
                   (.reg [⟨(some 60), (.mv (.t 3)), none⟩, ⟨(some 61), (.mv (.t 6)), none⟩, ⟨(some 62), (.callF 36 false [(.t 61), (.c (.str [9]))]), none⟩, ⟨(some 63), (.bsl 1 [(.t 62)]), none⟩, ⟨(some 64), (.append 9 1 16 (.t 60) (.t 63)), none⟩, ⟨(some 3), (.mv (.t 64)), none⟩]))))))
              (.reg [⟨(some 65), (.bin 0 .add (.t 34) (.c (.int .i64 (1)))), none⟩, ⟨(some 34), (.mv (.t 65)), none⟩])))))))
        (.seq
         (.reg [⟨(some 66), (.mv (.t 3)), none⟩, ⟨(some 2), (.mv (.t 66)), none⟩])
         .ret)))))))), 0⟩

def c21 : CFn := ⟨[(.tmp 4)], (some
  (.seq
   (.reg [⟨(some 2), (.box 4 36 (.t 0)), none⟩, ⟨(some 3), (.box 4 36 (.t 1)), none⟩, ⟨(some 4), (.mv (.c (.bool false))), none⟩])
   (.seq
    (.seq
     (.reg [⟨(some 6), (.fld 0 (.t 2)), none⟩, ⟨(some 7), (.load false 1 (.t 6)), none⟩, ⟨(some 8), (.fld 0 (.t 3)), none⟩, ⟨(some 9), (.load false 1 (.t 8)), none⟩, ⟨(some 10), (.bin 0 .neq (.t 7) (.t 9)), none⟩, ⟨(some 11), (.mv (.t 10)), none⟩, ⟨(some 12), (.fld 2 (.t 2)), (some (11, false))⟩, ⟨(some 13), (.load false 1 (.t 12)), (some (11, false))⟩, ⟨(some 14), (.fld 2 (.t 3)), (some (11, false))⟩, ⟨(some 15), (.load false 1 (.t 14)), (some (11, false))⟩, ⟨(some 16), (.bin 1 .neq (.t 13) (.t 15)), (some (11, false))⟩, ⟨(some 17), (.pick (.t 11) (.c (.bool true)) (.t 16)), none⟩, ⟨(some 18), (.mv (.t 17)), none⟩, ⟨(some 19), (.fld 3 (.t 2)), (some (18, false))⟩, ⟨(some 20), (.load false 1 (.t 19)), (some (18, false))⟩, ⟨(some 21), (.fld 3 (.t 3)), (some (18, false))⟩, ⟨(some 22), (.load false 1 (.t 21)), (some (18, false))⟩, ⟨(some 23), (.bin 1 .neq (.t 20) (.t 22)), (some (18, false))⟩, ⟨(some 24), (.pick (.t 18) (.c (.bool true)) (.t 23)), none⟩, ⟨(some 25), (.mv (.t 24)), none⟩, ⟨(some 26), (.fld 1 (.t 2)), (some (25, false))⟩, ⟨(some 27), (.load false 1 (.t 26)), (some (25, false))⟩, ⟨(some 28), (.len false (.t 27)), (some (25, false))⟩, ⟨(some 29), (.fld 1 (.t 3)), (some (25, false))⟩, ⟨(some 30), (.load false 1 (.t 29)), (some (25, false))⟩, ⟨(some 31), (.len false (.t 30)), (some (25, false))⟩, ⟨(some 32), (.bin 0 .neq (.t 28) (.t 31)), (some (25, false))⟩, ⟨(some 33), (.pick (.t 25) (.c (.bool true)) (.t 32)), none⟩])
     (.cond (.t 33)
      (.seq
       (.reg [⟨(some 4), (.mv (.c (.bool false))), none⟩])
       .ret)
      .skip))
    (.seq
     (.seq
      (.reg [⟨(some 5), (.mv (.c (.int .i64 (0)))), none⟩])
      (.block 0
       (.loop
        (.seq
         (.seq
          (.reg [⟨(some 34), (.mv (.t 5)), none⟩, ⟨(some 35), (.fld 1 (.t 2)), none⟩, ⟨(some 36), (.load false 1 (.t 35)), none⟩, ⟨(some 37), (.len false (.t 36)), none⟩, ⟨(some 38), (.bin 0 .lss (.t 34) (.t 37)), none⟩])
          (.cond (.t 38)
           .skip
           (.exit 0)))
         (.seq
          (.block 1
           (.seq
            (.dreg [⟨⟨(some 41), (.fld 1 (.t 2)), none⟩, 0, false⟩, ⟨⟨(some 42), (.load false 1 (.t 41)), none⟩, 0, false⟩, ⟨⟨(some 43), (.mv (.t 5)), none⟩, 0, false⟩, ⟨⟨(some 44), (.idxS 2 (.t 42) (.t 43)), none⟩, 0, false⟩, ⟨⟨(some 45), (.fld 0 (.t 44)), none⟩, 0, false⟩, ⟨⟨(some 46), (.load false 1 (.t 45)), none⟩, 0, false⟩, ⟨⟨(some 47), (.fld 1 (.t 3)), none⟩, 0, false⟩, ⟨⟨(some 48), (.load false 1 (.t 47)), none⟩, 0, false⟩, ⟨⟨(some 49), (.mv (.t 5)), none⟩, 0, false⟩, ⟨⟨(some 50), (.idxS 2 (.t 48) (.t 49)), none⟩, 0, false⟩, ⟨⟨(some 51), (.fld 0 (.t 50)), none⟩, 0, false⟩, ⟨⟨(some 52), (.load false 1 (.t 51)), none⟩, 0, false⟩, ⟨⟨(some 53), (.bin 1 .neq (.t 46) (.t 52)), none⟩, 0, false⟩, ⟨⟨(some 54), (.mv (.t 53)), none⟩, 0, false⟩, ⟨⟨(some 55), (.fld 1 (.t 2)), (some (54, false))⟩, 0, false⟩, ⟨⟨(some 56), (.load false 1 (.t 55)), (some (54, false))⟩, 0, false⟩, ⟨⟨(some 57), (.mv (.t 5)), (some (54, false))⟩, 0, false⟩, ⟨⟨(some 58), (.idxS 2 (.t 56) (.t 57)), (some (54, false))⟩, 0, false⟩, ⟨⟨(some 59), (.fld 1 (.t 58)), (some (54, false))⟩, 0, false⟩, ⟨⟨(some 60), (.load false 1 (.t 59)), (some (54, false))⟩, 0, false⟩, ⟨⟨(some 61), (.fld 1 (.t 3)), (some (54, false))⟩, 0, false⟩, ⟨⟨(some 62), (.load false 1 (.t 61)), (some (54, false))⟩, 0, false⟩, ⟨⟨(some 63), (.mv (.t 5)), (some (54, false))⟩, 0, false⟩, ⟨⟨(some 64), (.idxS 2 (.t 62) (.t 63)), (some (54, false))⟩, 0, false⟩, ⟨⟨(some 65), (.fld 1 (.t 64)), (some (54, false))⟩, 0, false⟩, ⟨⟨(some 66), (.load false 1 (.t 65)), (some (54, false))⟩, 0, false⟩, ⟨⟨(some 67), (.callF 38 false [(.t 60), (.t 66)]), (some (54, false))⟩, 0, true⟩, ⟨⟨(some 68), (.un .not (.t 67)), (some (54, false))⟩, 1, false⟩, ⟨⟨(some 69), (.pick (.t 54) (.c (.bool true)) (.t 68)), none⟩, 1, false⟩] [])
            (.cond (.t 69)
             (.seq
              (.reg [⟨(some 4), (.mv (.c (.bool false))), none⟩])
              .ret)
             .skip)))
          (.reg [⟨(some 39), (.mv (.t 5)), none⟩, ⟨(some 40), (.bin 0 .add (.t 39) (.c (.int .i64 (1)))), none⟩, ⟨(some 5), (.mv (.t 40)), none⟩]))))))
     (.seq
      (.reg [⟨(some 4), (.mv (.c (.bool true))), none⟩])
      .ret))))), 0⟩

def c22 : CFn := ⟨[(.cell 2 true 4)], (some
  (.seq
   (.reg [⟨(some 1), (.box 4 36 (.t 0)), none⟩, ⟨(some 2), (.alloc (.agg [(.str []), (.sl true 0 []), (.bool false), (.bool false)]) 4 36), none⟩])
   (.seq
    (.reg [⟨(some 3), (.mv (.c (.str []))), none⟩])
    (.seq
     (.seq
      (.reg [⟨(some 4), (.mv (.c (.int .i64 (0)))), none⟩])
      (.block 0
       (.loop
        (.seq
         (.seq
          (.reg [⟨(some 10), (.mv (.t 4)), none⟩, ⟨(some 11), (.fld 0 (.t 1)), none⟩, ⟨(some 12), (.load false 1 (.t 11)), none⟩, ⟨(some 13), (.len true (.t 12)), none⟩, ⟨(some 14), (.bin 0 .lss (.t 10) (.t 13)), none⟩])
          (.cond (.t 14)
           .skip
           (.exit 0)))
         (.seq
          (.block 1
           (.seq
            (.reg [⟨(some 17), (.fld 0 (.t 1)), none⟩, ⟨(some 18), (.load false 1 (.t 17)), none⟩, ⟨(some 19), (.mv (.t 4)), none⟩, ⟨(some 20), (.idxStr (.t 18) (.t 19)), none⟩, ⟨(some 21), (.callF 34 false [(.t 20)]), none⟩, ⟨(some 22), (.mv (.t 21)), none⟩, ⟨(some 23), (.mv (.t 3)), (some (22, true))⟩, ⟨(some 24), (.len true (.t 23)), (some (22, true))⟩, ⟨(some 25), (.bin 0 .lss (.t 24) (.c (.int .i64 (20)))), (some (22, true))⟩, ⟨(some 26), (.pick (.t 22) (.t 25) (.c (.bool false))), none⟩])
            (.cond (.t 26)
             (.reg [⟨(some 27), (.mv (.t 3)), none⟩, ⟨(some 28), (.fld 0 (.t 1)), none⟩, ⟨(some 29), (.load false 1 (.t 28)), none⟩, ⟨(some 30), (.mv (.t 4)), none⟩, ⟨(some 31), (.mv (.t 4)), none⟩, ⟨(some 32), (.bin 0 .add (.t 31) (.c (.int .i64 (1)))), none⟩, ⟨(some 33), (.sliceStr (.t 29) (some (.t 30)) (some (.t 32))), none⟩, ⟨(some 34), (.bin 0 .add (.t 27) (.t 33)), none⟩, ⟨(some 3), (.mv (.t 34)), none⟩])
             .skip)))
          (.reg [⟨(some 15), (.mv (.t 4)), none⟩, ⟨(some 16), (.bin 0 .add (.t 15) (.c (.int .i64 (1)))), none⟩, ⟨(some 4), (.mv (.t 16)), none⟩]))))))
     (.seq
      (.seq
       (.reg [⟨(some 35), (.mv (.t 3)), none⟩, ⟨(some 36), (.bin 0 .eql (.t 35) (.c (.str []))), none⟩])
       (.cond (.t 36)
        (.reg [⟨(some 3), (.mv (.c (.str [108]))), none⟩])
        .skip))
      (.seq
       (.reg [⟨(some 37), (.mv (.t 3)), none⟩, ⟨(some 38), (.fld 2 (.t 1)), none⟩, ⟨(some 39), (.load false 1 (.t 38)), none⟩, ⟨(some 40), (.fld 3 (.t 1)), none⟩, ⟨(some 41), (.load false 1 (.t 40)), none⟩, ⟨(some 42), (.mv (.t 41)), none⟩, ⟨(some 43), (.fld 2 (.t 1)), (some (42, true))⟩, ⟨(some 44), (.load false 1 (.t 43)), (some (42, true))⟩, ⟨(some 45), (.pick (.t 42) (.t 44) (.c (.bool false))), none⟩, ⟨(some 46), (.build [(.str []), (.sl true 0 []), (.bool false), (.bool false)] [(0, (1, (.t 37))), (2, (1, (.t 39))), (3, (1, (.t 45)))]), none⟩, ⟨(some 5), (.alloc (.agg [(.str []), (.sl true 0 []), (.bool false), (.bool false)]) 4 36), none⟩, ⟨none, (.store 4 (.t 5) (.t 46)), none⟩])
       (.seq
        (.seq
         (.reg [⟨(some 6), (.mv (.c (.int .i64 (0)))), none⟩])
         (.block 2
          (.loop
           (.seq
            (.seq
             (.reg [⟨(some 47), (.mv (.t 6)), none⟩, ⟨(some 48), (.fld 1 (.t 1)), none⟩, ⟨(some 49), (.load false 1 (.t 48)), none⟩, ⟨(some 50), (.len false (.t 49)), none⟩, ⟨(some 51), (.bin 0 .lss (.t 47) (.t 50)), none⟩])
             (.cond (.t 51)
              .skip
              (.exit 2)))
            (.seq
             (.block 3
              (.seq
               (.reg [⟨(some 54), (.fld 1 (.t 1)), none⟩, ⟨(some 55), (.load false 1 (.t 54)), none⟩, ⟨(some 56), (.mv (.t 6)), none⟩, ⟨(some 57), (.idxS 2 (.t 55) (.t 56)), none⟩, ⟨(some 58), (.fld 0 (.t 57)), none⟩, ⟨(some 59), (.load false 1 (.t 58)), none⟩, ⟨(some 60), (.build [(.bool false), (.sl true 0 [])] [(0, (1, (.t 59)))]), none⟩, ⟨(some 7), (.alloc (.agg [(.bool false), (.sl true 0 [])]) 2 56), none⟩, ⟨none, (.store 2 (.t 7) (.t 60)), none⟩])
               (.seq
                (.seq
                 (.reg [⟨(some 8), (.mv (.c (.int .i64 (0)))), none⟩])
                 (.block 4
                  (.loop
                   (.seq
                    (.seq
                     (.reg [⟨(some 61), (.mv (.t 8)), none⟩, ⟨(some 62), (.mv (.t 3)), none⟩, ⟨(some 63), (.len true (.t 62)), none⟩, ⟨(some 64), (.bin 0 .lss (.t 61) (.t 63)), none⟩, ⟨(some 65), (.mv (.t 64)), none⟩, ⟨(some 66), (.fld 0 (.t 7)), (some (65, true))⟩, ⟨(some 67), (.load false 1 (.t 66)), (some (65, true))⟩, ⟨(some 68), (.un .not (.t 67)), (some (65, true))⟩, ⟨(some 69), (.pick (.t 65) (.t 68) (.c (.bool false))), none⟩])
                     (.cond (.t 69)
                      .skip
                      (.exit 4)))
                    (.seq
                     (.block 5
                      (.seq
                       (.reg [⟨(some 9), (.mv (.c (.sl true 0 []))), none⟩])
                       (.seq
                        (.seq
                         (.reg [⟨(some 72), (.mv (.t 8)), none⟩, ⟨(some 73), (.fld 1 (.t 1)), none⟩, ⟨(some 74), (.load false 1 (.t 73)), none⟩, ⟨(some 75), (.mv (.t 6)), none⟩, ⟨(some 76), (.idxS 2 (.t 74) (.t 75)), none⟩, ⟨(some 77), (.fld 1 (.t 76)), none⟩, ⟨(some 78), (.load false 1 (.t 77)), none⟩, ⟨(some 79), (.len false (.t 78)), none⟩, ⟨(some 80), (.bin 0 .lss (.t 72) (.t 79)), none⟩])
                         (.cond (.t 80)
                          (.reg [⟨(some 81), (.fld 1 (.t 1)), none⟩, ⟨(some 82), (.load false 1 (.t 81)), none⟩, ⟨(some 83), (.mv (.t 6)), none⟩, ⟨(some 84), (.idxS 2 (.t 82) (.t 83)), none⟩, ⟨(some 85), (.fld 1 (.t 84)), none⟩, ⟨(some 86), (.load false 1 (.t 85)), none⟩, ⟨(some 87), (.mv (.t 8)), none⟩, ⟨(some 88), (.idxS 1 (.t 86) (.t 87)), none⟩, ⟨(some 89), (.load false 1 (.t 88)), none⟩, ⟨(some 90), (.callF 39 false [(.t 89)]), none⟩, ⟨(some 9), (.mv (.t 90)), none⟩])
                          .skip))
                        (.reg [⟨(some 91), (.fld 1 (.t 7)), none⟩, ⟨(some 92), (.load false 1 (.t 91)), none⟩, ⟨(some 93), (.mv (.t 9)), none⟩, ⟨(some 94), (.bsl 1 [(.t 93)]), none⟩, ⟨(some 95), (.append 45 1 24 (.t 92) (.t 94)), none⟩, ⟨(some 96), (.fld 1 (.t 7)), none⟩, ⟨none, (.store 1 (.t 96) (.t 95)), none⟩]))))
                     (.reg [⟨(some 70), (.mv (.t 8)), none⟩, ⟨(some 71), (.bin 0 .add (.t 70) (.c (.int .i64 (1)))), none⟩, ⟨(some 8), (.mv (.t 71)), none⟩]))))))
                (.reg [⟨(some 97), (.fld 1 (.t 5)), none⟩, ⟨(some 98), (.load false 1 (.t 97)), none⟩, ⟨(some 99), (.load true 2 (.t 7)), none⟩, ⟨(some 100), (.bsl 2 [(.t 99)]), none⟩, ⟨(some 101), (.append 56 2 32 (.t 98) (.t 100)), none⟩, ⟨(some 102), (.fld 1 (.t 5)), none⟩, ⟨none, (.store 1 (.t 102) (.t 101)), none⟩]))))
             (.reg [⟨(some 52), (.mv (.t 6)), none⟩, ⟨(some 53), (.bin 0 .add (.t 52) (.c (.int .i64 (1)))), none⟩, ⟨(some 6), (.mv (.t 53)), none⟩]))))))
        (.seq
         (.reg [⟨(some 103), (.load true 4 (.t 5)), none⟩, ⟨none, (.store 4 (.t 2) (.t 103)), none⟩])
         .ret)))))))), 0⟩

def c23 : CFn := ⟨[(.tmp 4), (.tmp 5)], (some
  (.seq
   (.reg [⟨(some 4), (.mv (.c (.str []))), none⟩, ⟨(some 5), (.mv (.c (.bool false))), none⟩])
   (.seq
    (.reg [⟨(some 6), (.mv (.t 0)), none⟩, ⟨(some 7), (.mv (.t 1)), none⟩, ⟨(some 8), (.callF 40 false [(.t 6), (.t 7)]), none⟩, ⟨(some 9), (.extract (.t 8) 0), none⟩, ⟨(some 10), (.extract (.t 8) 1), none⟩, ⟨(some 4), (.mv (.t 9)), none⟩, ⟨(some 5), (.mv (.t 10)), none⟩])
    .ret))), 0⟩

def c24 : CFn := ⟨[(.tmp 2)], (some
  (.seq
   (.reg [⟨(some 2), (.mv (.c (.sl true 0 []))), none⟩])
   (.seq
    (.reg [⟨(some 3), (.mv (.t 0)), none⟩, ⟨(some 4), (.callF 41 false [(.t 3), (.c (.fn 42 [] []))]), none⟩, ⟨(some 2), (.mv (.t 4)), none⟩])
    .ret))), 0⟩

def c25 : CFn := ⟨[(.tmp 4)], (some
  (.seq
   (.reg [⟨(some 4), (.mv (.c (.bool false))), none⟩])
   (.seq
    (.reg [⟨(some 5), (.mv (.t 0)), none⟩, ⟨(some 6), (.len true (.t 5)), none⟩, ⟨(some 7), (.bin 0 .gtr (.t 6) (.c (.int .i64 (0)))), none⟩, ⟨(some 8), (.mv (.t 7)), none⟩, ⟨(some 9), (.mv (.t 0)), (some (8, true))⟩, ⟨(some 10), (.mv (.t 0)), (some (8, true))⟩, ⟨(some 11), (.len true (.t 10)), (some (8, true))⟩, ⟨(some 12), (.bin 0 .sub (.t 11) (.c (.int .i64 (1)))), (some (8, true))⟩, ⟨(some 13), (.idxStr (.t 9) (.t 12)), (some (8, true))⟩, ⟨(some 14), (.mv (.t 1)), (some (8, true))⟩, ⟨(some 15), (.bin 0 .eql (.t 13) (.t 14)), (some (8, true))⟩, ⟨(some 16), (.pick (.t 8) (.t 15) (.c (.bool false))), none⟩, ⟨(some 4), (.mv (.t 16)), none⟩])
    .ret))), 0⟩

def c26 : CFn := ⟨[(.tmp 2)], (some
  (.seq
   (.reg [⟨(some 2), (.mv (.c (.sl true 0 []))), none⟩])
   (.seq
    (.reg [⟨(some 3), (.mv (.c (.sl true 0 []))), none⟩])
    (.seq
     (.reg [⟨(some 4), (.mv (.c (.str []))), none⟩])
     (.seq
      (.seq
       (.reg [⟨(some 5), (.mv (.c (.int .i64 (0)))), none⟩])
       (.block 0
        (.loop
         (.seq
          (.seq
           (.reg [⟨(some 6), (.mv (.t 5)), none⟩, ⟨(some 7), (.mv (.t 0)), none⟩, ⟨(some 8), (.len true (.t 7)), none⟩, ⟨(some 9), (.bin 0 .leq (.t 6) (.t 8)), none⟩])
           (.cond (.t 9)
            .skip
            (.exit 0)))
          (.seq
           (.block 1
            (.seq
             (.seq
              (.reg [⟨(some 12), (.mv (.t 5)), none⟩, ⟨(some 13), (.mv (.t 0)), none⟩, ⟨(some 14), (.len true (.t 13)), none⟩, ⟨(some 15), (.bin 0 .lss (.t 12) (.t 14)), none⟩, ⟨(some 16), (.mv (.t 15)), none⟩, ⟨(some 17), (.mv (.t 0)), (some (16, true))⟩, ⟨(some 18), (.mv (.t 5)), (some (16, true))⟩, ⟨(some 19), (.idxStr (.t 17) (.t 18)), (some (16, true))⟩, ⟨(some 20), (.bin 0 .neq (.t 19) (.c (.int .u8 (32)))), (some (16, true))⟩, ⟨(some 21), (.pick (.t 16) (.t 20) (.c (.bool false))), none⟩, ⟨(some 22), (.mv (.t 21)), none⟩, ⟨(some 23), (.mv (.t 0)), (some (22, true))⟩, ⟨(some 24), (.mv (.t 5)), (some (22, true))⟩, ⟨(some 25), (.idxStr (.t 23) (.t 24)), (some (22, true))⟩, ⟨(some 26), (.bin 0 .neq (.t 25) (.c (.int .u8 (44)))), (some (22, true))⟩, ⟨(some 27), (.pick (.t 22) (.t 26) (.c (.bool false))), none⟩])
              (.cond (.t 27)
               (.seq
                (.reg [⟨(some 28), (.mv (.t 4)), none⟩, ⟨(some 29), (.mv (.t 0)), none⟩, ⟨(some 30), (.mv (.t 5)), none⟩, ⟨(some 31), (.mv (.t 5)), none⟩, ⟨(some 32), (.bin 0 .add (.t 31) (.c (.int .i64 (1)))), none⟩, ⟨(some 33), (.sliceStr (.t 29) (some (.t 30)) (some (.t 32))), none⟩, ⟨(some 34), (.bin 0 .add (.t 28) (.t 33)), none⟩, ⟨(some 4), (.mv (.t 34)), none⟩])
                (.exit 1))
               .skip))
             (.seq
              (.seq
               (.reg [⟨(some 35), (.mv (.t 4)), none⟩, ⟨(some 36), (.bin 0 .neq (.t 35) (.c (.str []))), none⟩])
               (.cond (.t 36)
                (.reg [⟨(some 37), (.mv (.t 3)), none⟩, ⟨(some 38), (.mv (.t 4)), none⟩, ⟨(some 39), (.bsl 1 [(.t 38)]), none⟩, ⟨(some 40), (.append 9 1 16 (.t 37) (.t 39)), none⟩, ⟨(some 3), (.mv (.t 40)), none⟩])
                .skip))
              (.reg [⟨(some 4), (.mv (.c (.str []))), none⟩]))))
           (.reg [⟨(some 10), (.mv (.t 5)), none⟩, ⟨(some 11), (.bin 0 .add (.t 10) (.c (.int .i64 (1)))), none⟩, ⟨(some 5), (.mv (.t 11)), none⟩]))))))
      (.seq
       (.reg [⟨(some 41), (.mv (.t 3)), none⟩, ⟨(some 2), (.mv (.t 41)), none⟩])
       .ret)))))), 0⟩

def c27 : CFn := ⟨[(.tmp 4)], (some
  (.seq
   (.reg [⟨(some 4), (.mv (.c (.str []))), none⟩])
   (.seq
    (.reg [⟨(some 5), (.mv (.t 0)), none⟩, ⟨(some 6), (.mv (.t 1)), none⟩, ⟨(some 7), (.callF 43 false [(.t 5), (.t 6)]), none⟩, ⟨(some 4), (.mv (.t 7)), none⟩])
    .ret))), 0⟩

def c28 : CFn := ⟨[(.tmp 4)], (some
  (.seq
   (.reg [⟨(some 4), (.mv (.c (.int .i64 (0)))), none⟩])
   (.seq
    (.reg [⟨(some 5), (.mv (.t 0)), none⟩, ⟨(some 6), (.mv (.t 1)), none⟩, ⟨(some 7), (.callF 44 false [(.t 5), (.t 6)]), none⟩, ⟨(some 4), (.mv (.t 7)), none⟩])
    .ret))), 0⟩

def c29 : CFn := ⟨[(.tmp 4)], (some
  (.seq
   (.reg [⟨(some 4), (.mv (.c (.sl true 0 []))), none⟩])
   (.seq
    (.reg [⟨(some 5), (.mv (.t 0)), none⟩, ⟨(some 6), (.mv (.t 1)), none⟩, ⟨(some 7), (.callF 45 false [(.t 5), (.t 6), (.c (.int .i64 (0))), (.c (.int .i64 (-1)))]), none⟩, ⟨(some 4), (.mv (.t 7)), none⟩])
    .ret))), 0⟩

def c30 : CFn := ⟨[], (some
  (.seq
   (.seq
    (.reg [⟨(some 5), (.mv (.t 0)), none⟩, ⟨(some 6), (.nilCheck (.t 5)), none⟩, ⟨(some 7), (.fld 0 (.t 6)), none⟩, ⟨(some 8), (.load false 1 (.t 7)), none⟩, ⟨(some 9), (.len false (.t 8)), none⟩, ⟨(some 10), (.bin 0 .eql (.t 9) (.c (.int .i64 (0)))), none⟩, ⟨(some 11), (.mv (.t 10)), none⟩, ⟨(some 12), (.mv (.t 0)), (some (11, false))⟩, ⟨(some 13), (.nilCheck (.t 12)), (some (11, false))⟩, ⟨(some 14), (.fld 0 (.t 13)), (some (11, false))⟩, ⟨(some 15), (.load false 1 (.t 14)), (some (11, false))⟩, ⟨(some 16), (.idxS 1 (.t 15) (.c (.int .i64 (0)))), (some (11, false))⟩, ⟨(some 17), (.load false 1 (.t 16)), (some (11, false))⟩, ⟨(some 18), (.callF 46 false [(.t 17), (.c (.str [59]))]), (some (11, false))⟩, ⟨(some 19), (.un .not (.t 18)), (some (11, false))⟩, ⟨(some 20), (.pick (.t 11) (.c (.bool true)) (.t 19)), none⟩])
    (.cond (.t 20)
     .ret
     .skip))
   (.seq
    (.reg [⟨(some 22), (.mv (.t 0)), none⟩, ⟨(some 23), (.nilCheck (.t 22)), none⟩, ⟨(some 24), (.fld 0 (.t 23)), none⟩, ⟨(some 25), (.load false 1 (.t 24)), none⟩, ⟨(some 26), (.idxS 1 (.t 25) (.c (.int .i64 (0)))), none⟩, ⟨(some 27), (.load false 1 (.t 26)), none⟩, ⟨(some 28), (.callF 8 false [(.t 27)]), none⟩, ⟨(some 21), (.mv (.t 28)), none⟩, ⟨(some 29), (.extract (.t 21) 0), none⟩, ⟨(some 30), (.extract (.t 21) 1), none⟩, ⟨(some 31), (.extract (.t 21) 2), none⟩, ⟨(some 2), (.mv (.t 29)), none⟩, ⟨(some 3), (.mv (.t 30)), none⟩, ⟨(some 4), (.mv (.t 31)), none⟩])
    (.seq
     (.seq
      (.reg [⟨(some 32), (.mv (.t 4)), none⟩, ⟨(some 33), (.un .not (.t 32)), none⟩])
      (.cond (.t 33)
       (.reg [⟨(some 34), (.mv (.t 0)), none⟩, ⟨(some 35), (.callF 47 true [(.t 34), (.c (.int .i64 (10))), (.c (.int .i64 (0)))]), none⟩])
       .skip))
     (.reg [⟨(some 36), (.mv (.t 0)), none⟩, ⟨(some 37), (.mv (.t 0)), none⟩, ⟨(some 38), (.mv (.t 0)), none⟩, ⟨(some 39), (.mv (.t 2)), none⟩, ⟨(some 40), (.mv (.t 3)), none⟩, ⟨(some 41), (.nilCheck (.t 36)), none⟩, ⟨(some 42), (.fld 3 (.t 41)), none⟩, ⟨(some 43), (.fld 2 (.t 42)), none⟩, ⟨none, (.store 1 (.t 43) (.t 39)), none⟩, ⟨(some 44), (.nilCheck (.t 37)), none⟩, ⟨(some 45), (.fld 3 (.t 44)), none⟩, ⟨(some 46), (.fld 3 (.t 45)), none⟩, ⟨none, (.store 1 (.t 46) (.t 40)), none⟩, ⟨(some 47), (.nilCheck (.t 38)), none⟩, ⟨(some 48), (.fld 1 (.t 47)), none⟩, ⟨none, (.store 1 (.t 48) (.c (.int .i64 (1)))), none⟩]))))), 0⟩

def c31 : CFn := ⟨[], (some
  (.seq
   (.reg [⟨(some 2), (.mv (.c (.bool false))), none⟩])
   (.seq
    (.block 0
     (.loop
      (.seq
       (.seq
        (.dreg [⟨⟨(some 6), (.mv (.t 0)), none⟩, 0, false⟩, ⟨⟨(some 7), (.nilCheck (.t 6)), none⟩, 0, false⟩, ⟨⟨(some 8), (.fld 1 (.t 7)), none⟩, 0, false⟩, ⟨⟨(some 9), (.load false 1 (.t 8)), none⟩, 0, false⟩, ⟨⟨(some 10), (.mv (.t 0)), none⟩, 0, false⟩, ⟨⟨(some 11), (.nilCheck (.t 10)), none⟩, 0, false⟩, ⟨⟨(some 12), (.fld 0 (.t 11)), none⟩, 0, false⟩, ⟨⟨(some 13), (.load false 1 (.t 12)), none⟩, 0, false⟩, ⟨⟨(some 14), (.len false (.t 13)), none⟩, 0, false⟩, ⟨⟨(some 15), (.bin 0 .lss (.t 9) (.t 14)), none⟩, 0, false⟩, ⟨⟨(some 16), (.mv (.t 15)), none⟩, 0, false⟩, ⟨⟨(some 17), (.mv (.t 2)), (some (16, true))⟩, 0, false⟩, ⟨⟨(some 18), (.un .not (.t 17)), (some (16, true))⟩, 0, false⟩, ⟨⟨(some 19), (.pick (.t 16) (.t 18) (.c (.bool false))), none⟩, 0, false⟩] [])
        (.cond (.t 19)
         .skip
         (.exit 0)))
       (.seq
        (.block 1
         (.seq
          (.dreg [⟨⟨(some 27), (.mv (.t 0)), none⟩, 0, false⟩, ⟨⟨(some 28), (.nilCheck (.t 27)), none⟩, 0, false⟩, ⟨⟨(some 29), (.fld 0 (.t 28)), none⟩, 0, false⟩, ⟨⟨(some 30), (.load false 1 (.t 29)), none⟩, 0, false⟩, ⟨⟨(some 31), (.mv (.t 0)), none⟩, 0, false⟩, ⟨⟨(some 32), (.nilCheck (.t 31)), none⟩, 0, false⟩, ⟨⟨(some 33), (.fld 1 (.t 32)), none⟩, 0, false⟩, ⟨⟨(some 34), (.load false 1 (.t 33)), none⟩, 0, false⟩, ⟨⟨(some 35), (.idxS 1 (.t 30) (.t 34)), none⟩, 0, false⟩, ⟨⟨(some 36), (.load false 1 (.t 35)), none⟩, 0, false⟩, ⟨⟨(some 3), (.mv (.t 36)), none⟩, 0, false⟩] [])
          (.seq
           (.reg [⟨(some 37), (.mv (.t 3)), none⟩, ⟨(some 38), (.callF 46 false [(.t 37), (.c (.str [46]))]), none⟩, ⟨(some 2), (.mv (.t 38)), none⟩])
           (.seq
            (.reg [⟨(some 40), (.mv (.t 3)), none⟩, ⟨(some 41), (.callF 10 false [(.t 40)]), none⟩, ⟨(some 39), (.mv (.t 41)), none⟩, ⟨(some 42), (.extract (.t 39) 0), none⟩, ⟨(some 43), (.extract (.t 39) 1), none⟩, ⟨(some 4), (.mv (.t 42)), none⟩, ⟨(some 5), (.mv (.t 43)), none⟩])
            (.seq
             (.seq
              (.reg [⟨(some 44), (.mv (.t 5)), none⟩, ⟨(some 45), (.un .not (.t 44)), none⟩])
              (.cond (.t 45)
               (.reg [⟨(some 46), (.mv (.t 0)), none⟩, ⟨(some 47), (.mv (.t 0)), none⟩, ⟨(some 48), (.nilCheck (.t 47)), none⟩, ⟨(some 49), (.fld 1 (.t 48)), none⟩, ⟨(some 50), (.load false 1 (.t 49)), none⟩, ⟨(some 51), (.callF 47 true [(.t 46), (.c (.int .i64 (10))), (.t 50)]), none⟩])
               .skip))
             (.seq
              (.seq
               (.reg [⟨(some 52), (.mv (.t 4)), none⟩, ⟨(some 53), (.len true (.t 52)), none⟩, ⟨(some 54), (.bin 0 .gtr (.t 53) (.c (.int .i64 (20)))), none⟩])
               (.cond (.t 54)
                (.seq
                 (.reg [⟨(some 55), (.mv (.t 0)), none⟩, ⟨(some 56), (.mv (.t 0)), none⟩, ⟨(some 57), (.nilCheck (.t 56)), none⟩, ⟨(some 58), (.fld 1 (.t 57)), none⟩, ⟨(some 59), (.load false 1 (.t 58)), none⟩, ⟨(some 60), (.callF 47 true [(.t 55), (.c (.int .i64 (11))), (.t 59)]), none⟩])
                 (.reg [⟨(some 61), (.mv (.t 4)), none⟩, ⟨(some 62), (.sliceStr (.t 61) none (some (.c (.int .i64 (20))))), none⟩, ⟨(some 4), (.mv (.t 62)), none⟩]))
                .skip))
              (.seq
               (.reg [⟨(some 63), (.mv (.t 4)), none⟩, ⟨(some 64), (.bin 0 .neq (.t 63) (.c (.str []))), none⟩])
               (.cond (.t 64)
                (.reg [⟨(some 65), (.mv (.t 0)), none⟩, ⟨(some 66), (.mv (.t 4)), none⟩, ⟨(some 67), (.nilCheck (.t 65)), none⟩, ⟨(some 68), (.fld 3 (.t 67)), none⟩, ⟨(some 69), (.fld 0 (.t 68)), none⟩, ⟨none, (.store 1 (.t 69) (.t 66)), none⟩])
                .skip))))))))
        (.reg [⟨(some 20), (.mv (.t 0)), none⟩, ⟨(some 21), (.nilCheck (.t 20)), none⟩, ⟨(some 22), (.fld 1 (.t 21)), none⟩, ⟨(some 23), (.load false 1 (.t 22)), none⟩, ⟨(some 24), (.bin 0 .add (.t 23) (.c (.int .i64 (1)))), none⟩, ⟨(some 25), (.nilCheck (.t 20)), none⟩, ⟨(some 26), (.fld 1 (.t 25)), none⟩, ⟨none, (.store 1 (.t 26) (.t 24)), none⟩])))))
    (.seq
     (.seq
      (.reg [⟨(some 70), (.mv (.t 0)), none⟩, ⟨(some 71), (.nilCheck (.t 70)), none⟩, ⟨(some 72), (.fld 3 (.t 71)), none⟩, ⟨(some 73), (.fld 0 (.t 72)), none⟩, ⟨(some 74), (.load false 1 (.t 73)), none⟩, ⟨(some 75), (.bin 0 .eql (.t 74) (.c (.str []))), none⟩])
      (.cond (.t 75)
       (.reg [⟨(some 76), (.mv (.t 0)), none⟩, ⟨(some 77), (.nilCheck (.t 76)), none⟩, ⟨(some 78), (.fld 3 (.t 77)), none⟩, ⟨(some 79), (.fld 0 (.t 78)), none⟩, ⟨none, (.store 1 (.t 79) (.c (.str [108]))), none⟩])
       .skip))
     (.seq
      (.reg [⟨(some 80), (.mv (.t 2)), none⟩, ⟨(some 81), (.un .not (.t 80)), none⟩])
      (.cond (.t 81)
       (.reg [⟨(some 82), (.mv (.t 0)), none⟩, ⟨(some 83), (.callF 47 true [(.t 82), (.c (.int .i64 (7))), (.c (.int .i64 (0)))]), none⟩])
       .skip)))))), 0⟩

def c32 : CFn := ⟨[], (some
  (.scope
   (.seq
    (.reg [⟨(some 8), (.mv (.t 0)), none⟩, ⟨(some 9), (.nilCheck (.t 8)), none⟩, ⟨(some 10), (.fld 1 (.t 9)), none⟩, ⟨(some 11), (.load false 1 (.t 10)), none⟩, ⟨(some 2), (.mv (.t 11)), none⟩])
    (.seq
     (.reg [⟨(some 12), (.build [(.bool false), (.sl true 0 [])] []), none⟩, ⟨(some 3), (.alloc (.agg [(.bool false), (.sl true 0 [])]) 2 56), none⟩, ⟨none, (.store 2 (.t 3) (.t 12)), none⟩])
     (.seq
      (.seq
       (.reg [⟨(some 13), (.mv (.t 0)), none⟩, ⟨(some 14), (.nilCheck (.t 13)), none⟩, ⟨(some 15), (.fld 0 (.t 14)), none⟩, ⟨(some 16), (.load false 1 (.t 15)), none⟩, ⟨(some 17), (.mv (.t 2)), none⟩, ⟨(some 18), (.idxS 1 (.t 16) (.t 17)), none⟩, ⟨(some 19), (.load false 1 (.t 18)), none⟩])
       (.block 0
        (.seq
         (.seq
          (.reg [⟨(some 21), (.bin 0 .eql (.t 19) (.c (.str [95]))), none⟩, ⟨(some 20), (.mv (.t 21)), none⟩])
          (.cond (.t 20)
           .skip
           (.reg [⟨(some 22), (.bin 0 .eql (.t 19) (.c (.str [61]))), none⟩, ⟨(some 20), (.mv (.t 22)), none⟩])))
         (.cond (.t 20)
          (.seq
           (.reg [⟨(some 23), (.fld 0 (.t 3)), none⟩, ⟨none, (.store 1 (.t 23) (.c (.bool true))), none⟩])
           (.seq
            (.dreg [⟨⟨(some 24), (.mv (.t 0)), none⟩, 0, false⟩, ⟨⟨(some 25), (.mv (.t 0)), none⟩, 0, false⟩, ⟨⟨(some 26), (.nilCheck (.t 25)), none⟩, 0, false⟩, ⟨⟨(some 27), (.fld 3 (.t 26)), none⟩, 0, false⟩, ⟨⟨(some 28), (.fld 1 (.t 27)), none⟩, 0, false⟩, ⟨⟨(some 29), (.load false 1 (.t 28)), none⟩, 0, false⟩, ⟨⟨(some 30), (.load true 2 (.t 3)), none⟩, 0, false⟩, ⟨⟨(some 31), (.bsl 2 [(.t 30)]), none⟩, 0, false⟩, ⟨⟨(some 32), (.append 56 2 32 (.t 29) (.t 31)), none⟩, 0, true⟩, ⟨⟨(some 33), (.nilCheck (.t 24)), none⟩, 1, false⟩, ⟨⟨(some 34), (.fld 3 (.t 33)), none⟩, 1, false⟩, ⟨⟨(some 35), (.fld 1 (.t 34)), none⟩, 1, false⟩, ⟨⟨none, (.store 1 (.t 35) (.t 32)), none⟩, 1, true⟩] [])
            .ret))
          .skip))))
      (.seq
       (.reg [⟨(some 36), (.mv (.t 0)), none⟩, ⟨(some 37), (.nilCheck (.t 36)), none⟩, ⟨(some 38), (.fld 0 (.t 37)), none⟩, ⟨(some 39), (.load false 1 (.t 38)), none⟩, ⟨(some 40), (.mv (.t 2)), none⟩, ⟨(some 41), (.idxS 1 (.t 39) (.t 40)), none⟩, ⟨(some 42), (.load false 1 (.t 41)), none⟩, ⟨(some 43), (.callF 13 false [(.t 42)]), none⟩, ⟨(some 4), (.mv (.t 43)), none⟩])
       (.seq
        (.label 0)
        (.seq
         (.block 1
          (.loop
           (.seq
            (.seq
             (.reg [⟨(some 44), (.mv (.t 4)), none⟩, ⟨(some 45), (.len false (.t 44)), none⟩, ⟨(some 46), (.bin 0 .gtr (.t 45) (.c (.int .i64 (0)))), none⟩])
             (.cond (.t 46)
              .skip
              (.exit 1)))
            (.block 2
             (.seq
              (.reg [⟨(some 47), (.mv (.t 4)), none⟩, ⟨(some 48), (.idxS 1 (.t 47) (.c (.int .i64 (0)))), none⟩, ⟨(some 49), (.load false 1 (.t 48)), none⟩, ⟨(some 5), (.mv (.t 49)), none⟩])
              (.seq
               (.reg [⟨(some 50), (.mv (.t 4)), none⟩, ⟨(some 51), (.slice 1 (.t 50) (some (.c (.int .i64 (1)))) none none), none⟩, ⟨(some 4), (.mv (.t 51)), none⟩])
               (.seq
                (.seq
                 (.reg [⟨(some 52), (.mv (.t 5)), none⟩, ⟨(some 53), (.bin 0 .neq (.t 52) (.c (.str [84, 123]))), none⟩])
                 (.cond (.t 53)
                  (.seq
                   (.dreg [⟨⟨(some 54), (.fld 1 (.t 3)), none⟩, 0, false⟩, ⟨⟨(some 55), (.load false 1 (.t 54)), none⟩, 0, false⟩, ⟨⟨(some 56), (.mv (.t 0)), none⟩, 0, false⟩, ⟨⟨(some 57), (.mv (.t 5)), none⟩, 0, false⟩, ⟨⟨(some 58), (.mv (.t 0)), none⟩, 0, false⟩, ⟨⟨(some 59), (.nilCheck (.t 58)), none⟩, 0, false⟩, ⟨⟨(some 60), (.fld 1 (.t 59)), none⟩, 0, false⟩, ⟨⟨(some 61), (.load false 1 (.t 60)), none⟩, 0, false⟩, ⟨⟨(some 62), (.callF 48 true [(.t 56), (.t 57), (.t 61)]), none⟩, 0, true⟩, ⟨⟨(some 63), (.bsl 1 [(.t 62)]), none⟩, 1, false⟩, ⟨⟨(some 64), (.append 45 1 24 (.t 55) (.t 63)), none⟩, 1, true⟩, ⟨⟨(some 65), (.fld 1 (.t 3)), none⟩, 2, false⟩, ⟨⟨none, (.store 1 (.t 65) (.t 64)), none⟩, 2, true⟩] [⟨⟨(some 55), (.load false 1 (.t 54)), none⟩, 1⟩])
                   (.exit 2))
                  .skip))
                (.seq
                 (.seq
                  (.reg [⟨(some 66), (.mv (.t 4)), none⟩, ⟨(some 67), (.len false (.t 66)), none⟩, ⟨(some 68), (.bin 0 .gtr (.t 67) (.c (.int .i64 (0)))), none⟩])
                  (.cond (.t 68)
                   (.reg [⟨(some 4), (.mv (.c (.sl true 0 []))), none⟩])
                   .skip))
                 (.seq
                  (.reg [⟨(some 70), (.mv (.t 0)), none⟩, ⟨(some 71), (.mv (.t 0)), none⟩, ⟨(some 72), (.nilCheck (.t 71)), none⟩, ⟨(some 73), (.fld 1 (.t 72)), none⟩, ⟨(some 74), (.load false 1 (.t 73)), none⟩, ⟨(some 75), (.callF 49 true [(.t 70), (.t 74)]), none⟩, ⟨(some 69), (.mv (.t 75)), none⟩, ⟨(some 76), (.extract (.t 69) 0), none⟩, ⟨(some 77), (.extract (.t 69) 1), none⟩, ⟨(some 6), (.mv (.t 76)), none⟩, ⟨(some 7), (.mv (.t 77)), none⟩])
                  (.reg [⟨(some 78), (.fld 1 (.t 3)), none⟩, ⟨(some 79), (.load false 1 (.t 78)), none⟩, ⟨(some 80), (.mv (.t 6)), none⟩, ⟨(some 81), (.bsl 1 [(.t 80)]), none⟩, ⟨(some 82), (.append 45 1 24 (.t 79) (.t 81)), none⟩, ⟨(some 83), (.mv (.t 7)), none⟩, ⟨(some 84), (.fld 1 (.t 3)), none⟩, ⟨none, (.store 1 (.t 84) (.t 82)), none⟩, ⟨(some 4), (.mv (.t 83)), none⟩]))))))))))
         (.seq
          (.seq
           (.dreg [⟨⟨(some 85), (.fld 1 (.t 3)), none⟩, 0, false⟩, ⟨⟨(some 86), (.load false 1 (.t 85)), none⟩, 0, false⟩, ⟨⟨(some 87), (.len false (.t 86)), none⟩, 0, false⟩, ⟨⟨(some 88), (.mv (.t 0)), none⟩, 0, false⟩, ⟨⟨(some 89), (.nilCheck (.t 88)), none⟩, 0, false⟩, ⟨⟨(some 90), (.fld 3 (.t 89)), none⟩, 0, false⟩, ⟨⟨(some 91), (.fld 0 (.t 90)), none⟩, 0, false⟩, ⟨⟨(some 92), (.load false 1 (.t 91)), none⟩, 0, false⟩, ⟨⟨(some 93), (.len true (.t 92)), none⟩, 0, false⟩, ⟨⟨(some 94), (.bin 0 .gtr (.t 87) (.t 93)), none⟩, 0, false⟩] [])
           (.cond (.t 94)
            (.reg [⟨(some 95), (.mv (.t 0)), none⟩, ⟨(some 96), (.mv (.t 2)), none⟩, ⟨(some 97), (.callF 47 true [(.t 95), (.c (.int .i64 (11))), (.t 96)]), none⟩])
            .skip))
          (.dreg [⟨⟨(some 98), (.mv (.t 0)), none⟩, 0, false⟩, ⟨⟨(some 99), (.mv (.t 0)), none⟩, 0, false⟩, ⟨⟨(some 100), (.nilCheck (.t 99)), none⟩, 0, false⟩, ⟨⟨(some 101), (.fld 3 (.t 100)), none⟩, 0, false⟩, ⟨⟨(some 102), (.fld 1 (.t 101)), none⟩, 0, false⟩, ⟨⟨(some 103), (.load false 1 (.t 102)), none⟩, 0, false⟩, ⟨⟨(some 104), (.load true 2 (.t 3)), none⟩, 0, false⟩, ⟨⟨(some 105), (.bsl 2 [(.t 104)]), none⟩, 0, false⟩, ⟨⟨(some 106), (.append 56 2 32 (.t 103) (.t 105)), none⟩, 0, true⟩, ⟨⟨(some 107), (.nilCheck (.t 98)), none⟩, 1, false⟩, ⟨⟨(some 108), (.fld 3 (.t 107)), none⟩, 1, false⟩, ⟨⟨(some 109), (.fld 1 (.t 108)), none⟩, 1, false⟩, ⟨⟨none, (.store 1 (.t 109) (.t 106)), none⟩, 1, true⟩] [])))))))))), 0⟩

def c33 : CFn := ⟨[(.cell 2 true 4)], (some
  (.seq
   (.reg [⟨(some 1), (.box 4 36 (.t 0)), none⟩, ⟨(some 2), (.alloc (.agg [(.str []), (.sl true 0 []), (.bool false), (.bool false)]) 4 36), none⟩])
   (.seq
    (.reg [⟨(some 10), (.fld 0 (.t 1)), none⟩, ⟨(some 11), (.load false 1 (.t 10)), none⟩, ⟨(some 12), (.callF 50 false [(.c (.fn 51 [] [])), (.t 11)]), none⟩, ⟨(some 3), (.mv (.t 12)), none⟩])
    (.seq
     (.seq
      (.reg [⟨(some 13), (.mv (.t 3)), none⟩, ⟨(some 14), (.mv (.t 3)), none⟩, ⟨(some 15), (.len true (.t 14)), none⟩, ⟨(some 16), (.mm false (.t 15) [(.c (.int .i64 (20)))]), none⟩, ⟨(some 17), (.sliceStr (.t 13) none (some (.t 16))), none⟩, ⟨(some 3), (.mv (.t 17)), none⟩])
      (.seq
       (.reg [⟨(some 18), (.mv (.t 3)), none⟩, ⟨(some 19), (.bin 0 .eql (.t 18) (.c (.str []))), none⟩])
       (.cond (.t 19)
        (.reg [⟨(some 3), (.mv (.c (.str [108]))), none⟩])
        .skip)))
     (.seq
      (.reg [⟨(some 20), (.mv (.t 3)), none⟩, ⟨(some 21), (.fld 2 (.t 1)), none⟩, ⟨(some 22), (.load false 1 (.t 21)), none⟩, ⟨(some 23), (.fld 3 (.t 1)), none⟩, ⟨(some 24), (.load false 1 (.t 23)), none⟩, ⟨(some 25), (.mv (.t 24)), none⟩, ⟨(some 26), (.fld 2 (.t 1)), (some (25, true))⟩, ⟨(some 27), (.load false 1 (.t 26)), (some (25, true))⟩, ⟨(some 28), (.pick (.t 25) (.t 27) (.c (.bool false))), none⟩, ⟨(some 29), (.build [(.str []), (.sl true 0 []), (.bool false), (.bool false)] [(0, (1, (.t 20))), (2, (1, (.t 22))), (3, (1, (.t 28)))]), none⟩, ⟨(some 4), (.alloc (.agg [(.str []), (.sl true 0 []), (.bool false), (.bool false)]) 4 36), none⟩, ⟨none, (.store 4 (.t 4) (.t 29)), none⟩])
      (.seq
       (.seq
        (.reg [⟨(some 30), (.fld 1 (.t 1)), none⟩, ⟨(some 31), (.load false 1 (.t 30)), none⟩, ⟨(some 32), (.len false (.t 31)), none⟩, ⟨(some 33), (.mv (.c (.int .i64 (0)))), none⟩])
        (.block 0
         (.loop
          (.seq
           (.reg [⟨(some 34), (.bin 0 .lss (.t 33) (.t 32)), none⟩])
           (.seq
            (.cond (.t 34)
             .skip
             (.exit 0))
            (.seq
             (.block 1
              (.seq
               (.reg [⟨(some 35), (.idxS 2 (.t 31) (.t 33)), none⟩, ⟨(some 36), (.load true 2 (.t 35)), none⟩, ⟨(some 6), (.alloc (.agg [(.bool false), (.sl true 0 [])]) 2 56), none⟩, ⟨none, (.store 2 (.t 6) (.t 36)), none⟩])
               (.seq
                (.reg [⟨(some 37), (.fld 0 (.t 6)), none⟩, ⟨(some 38), (.load false 1 (.t 37)), none⟩, ⟨(some 39), (.build [(.bool false), (.sl true 0 [])] [(0, (1, (.t 38)))]), none⟩, ⟨(some 7), (.alloc (.agg [(.bool false), (.sl true 0 [])]) 2 56), none⟩, ⟨none, (.store 2 (.t 7) (.t 39)), none⟩])
                (.seq
                 (.seq
                  (.reg [⟨(some 8), (.mv (.c (.int .i64 (0)))), none⟩])
                  (.block 2
                   (.loop
                    (.seq
                     (.seq
                      (.reg [⟨(some 40), (.mv (.t 8)), none⟩, ⟨(some 41), (.mv (.t 3)), none⟩, ⟨(some 42), (.len true (.t 41)), none⟩, ⟨(some 43), (.bin 0 .lss (.t 40) (.t 42)), none⟩, ⟨(some 44), (.mv (.t 43)), none⟩, ⟨(some 45), (.fld 0 (.t 6)), (some (44, true))⟩, ⟨(some 46), (.load false 1 (.t 45)), (some (44, true))⟩, ⟨(some 47), (.un .not (.t 46)), (some (44, true))⟩, ⟨(some 48), (.pick (.t 44) (.t 47) (.c (.bool false))), none⟩])
                      (.cond (.t 48)
                       .skip
                       (.exit 2)))
                     (.seq
                      (.block 3
                       (.seq
                        (.reg [⟨(some 9), (.mv (.c (.sl true 0 []))), none⟩])
                        (.seq
                         (.seq
                          (.reg [⟨(some 51), (.mv (.t 8)), none⟩, ⟨(some 52), (.fld 1 (.t 6)), none⟩, ⟨(some 53), (.load false 1 (.t 52)), none⟩, ⟨(some 54), (.len false (.t 53)), none⟩, ⟨(some 55), (.bin 0 .lss (.t 51) (.t 54)), none⟩])
                          (.cond (.t 55)
                           (.reg [⟨(some 56), (.fld 1 (.t 6)), none⟩, ⟨(some 57), (.load false 1 (.t 56)), none⟩, ⟨(some 58), (.mv (.t 8)), none⟩, ⟨(some 59), (.idxS 1 (.t 57) (.t 58)), none⟩, ⟨(some 60), (.load false 1 (.t 59)), none⟩, ⟨(some 61), (.callF 53 false [(.t 60)]), none⟩, ⟨(some 9), (.mv (.t 61)), none⟩])
                           .skip))
                         (.reg [⟨(some 62), (.fld 1 (.t 7)), none⟩, ⟨(some 63), (.load false 1 (.t 62)), none⟩, ⟨(some 64), (.mv (.t 9)), none⟩, ⟨(some 65), (.bsl 1 [(.t 64)]), none⟩, ⟨(some 66), (.append 45 1 24 (.t 63) (.t 65)), none⟩, ⟨(some 67), (.fld 1 (.t 7)), none⟩, ⟨none, (.store 1 (.t 67) (.t 66)), none⟩]))))
                      (.reg [⟨(some 49), (.mv (.t 8)), none⟩, ⟨(some 50), (.bin 0 .add (.t 49) (.c (.int .i64 (1)))), none⟩, ⟨(some 8), (.mv (.t 50)), none⟩]))))))
                 (.reg [⟨(some 68), (.fld 1 (.t 4)), none⟩, ⟨(some 69), (.load false 1 (.t 68)), none⟩, ⟨(some 70), (.load true 2 (.t 7)), none⟩, ⟨(some 71), (.bsl 2 [(.t 70)]), none⟩, ⟨(some 72), (.append 56 2 32 (.t 69) (.t 71)), none⟩, ⟨(some 73), (.fld 1 (.t 4)), none⟩, ⟨none, (.store 1 (.t 73) (.t 72)), none⟩])))))
             (.reg [⟨(some 74), (.bin 0 .add (.t 33) (.c (.int .i64 (1)))), none⟩, ⟨(some 33), (.mv (.t 74)), none⟩])))))))
       (.seq
        (.reg [⟨(some 75), (.load true 4 (.t 4)), none⟩, ⟨none, (.store 4 (.t 2) (.t 75)), none⟩])
        .ret))))))), 0⟩

def c34 : CFn := ⟨[(.tmp 2)], (some
  (.seq
   (.reg [⟨(some 2), (.mv (.c (.bool false))), none⟩])
   (.seq
    (.reg [⟨(some 3), (.mv (.t 0)), none⟩, ⟨(some 4), (.bin 0 .eql (.t 3) (.c (.int .u8 (108)))), none⟩, ⟨(some 5), (.mv (.t 4)), none⟩, ⟨(some 6), (.mv (.t 0)), (some (5, false))⟩, ⟨(some 7), (.bin 0 .eql (.t 6) (.c (.int .u8 (99)))), (some (5, false))⟩, ⟨(some 8), (.pick (.t 5) (.c (.bool true)) (.t 7)), none⟩, ⟨(some 9), (.mv (.t 8)), none⟩, ⟨(some 10), (.mv (.t 0)), (some (9, false))⟩, ⟨(some 11), (.bin 0 .eql (.t 10) (.c (.int .u8 (114)))), (some (9, false))⟩, ⟨(some 12), (.pick (.t 9) (.c (.bool true)) (.t 11)), none⟩, ⟨(some 2), (.mv (.t 12)), none⟩])
    .ret))), 0⟩

def c35 : CFn := ⟨[(.tmp 2)], (some
  (.seq
   (.reg [⟨(some 2), (.mv (.c (.bool false))), none⟩])
   (.seq
    (.reg [⟨(some 3), (.mv (.t 0)), none⟩, ⟨(some 4), (.callF 39 false [(.t 3)]), none⟩, ⟨(some 5), (.mv (.t 0)), none⟩, ⟨(some 6), (.callF 54 false [(.t 4), (.t 5)]), none⟩, ⟨(some 2), (.mv (.t 6)), none⟩])
    .ret))), 0⟩

def c36 : CFn := ⟨[(.tmp 4)], (some
  (.seq
   (.reg [⟨(some 4), (.mv (.c (.str []))), none⟩])
   (.seq
    (.seq
     (.reg [⟨(some 11), (.mv (.t 0)), none⟩, ⟨(some 12), (.len false (.t 11)), none⟩])
     (.block 0
      (.seq
       (.reg [⟨(some 14), (.bin 0 .eql (.t 12) (.c (.int .i64 (0)))), none⟩, ⟨(some 13), (.mv (.t 14)), none⟩])
       (.cond (.t 13)
        (.seq
         (.reg [⟨(some 4), (.mv (.c (.str []))), none⟩])
         .ret)
        (.seq
         (.reg [⟨(some 16), (.bin 0 .eql (.t 12) (.c (.int .i64 (1)))), none⟩, ⟨(some 15), (.mv (.t 16)), none⟩])
         (.cond (.t 15)
          (.seq
           (.reg [⟨(some 17), (.mv (.t 0)), none⟩, ⟨(some 18), (.idxS 1 (.t 17) (.c (.int .i64 (0)))), none⟩, ⟨(some 19), (.load false 1 (.t 18)), none⟩, ⟨(some 4), (.mv (.t 19)), none⟩])
           .ret)
          .skip))))))
    (.seq
     (.reg [⟨(some 5), (.mv (.c (.int .i64 (0)))), none⟩])
     (.seq
      (.seq
       (.reg [⟨(some 20), (.mv (.t 1)), none⟩, ⟨(some 21), (.len true (.t 20)), none⟩, ⟨(some 22), (.bin 0 .gtr (.t 21) (.c (.int .i64 (0)))), none⟩])
       (.cond (.t 22)
        (.seq
         (.seq
          (.reg [⟨(some 23), (.mv (.t 1)), none⟩, ⟨(some 24), (.len true (.t 23)), none⟩, ⟨(some 25), (.mv (.t 0)), none⟩, ⟨(some 26), (.len false (.t 25)), none⟩, ⟨(some 27), (.bin 0 .sub (.t 26) (.c (.int .i64 (1)))), none⟩, ⟨(some 28), (.bin 0 .quo (.c (.int .i64 (9223372036854775807))) (.t 27)), none⟩, ⟨(some 29), (.bin 0 .geq (.t 24) (.t 28)), none⟩])
          (.cond (.t 29)
           (.reg [⟨(some 30), .iface, none⟩, ⟨none, .bad, none⟩])
           .skip))
         (.reg [⟨(some 31), (.mv (.t 5)), none⟩, ⟨(some 32), (.mv (.t 1)), none⟩, ⟨(some 33), (.len true (.t 32)), none⟩, ⟨(some 34), (.mv (.t 0)), none⟩, ⟨(some 35), (.len false (.t 34)), none⟩, ⟨(some 36), (.bin 0 .sub (.t 35) (.c (.int .i64 (1)))), none⟩, ⟨(some 37), (.bin 0 .mul (.t 33) (.t 36)), none⟩, ⟨(some 38), (.bin 0 .add (.t 31) (.t 37)), none⟩, ⟨(some 5), (.mv (.t 38)), none⟩]))
        .skip))
      (.seq
       (.seq
        (.reg [⟨(some 39), (.mv (.t 0)), none⟩, ⟨(some 40), (.len false (.t 39)), none⟩, ⟨(some 41), (.mv (.c (.int .i64 (0)))), none⟩])
        (.block 1
         (.loop
          (.seq
           (.reg [⟨(some 42), (.bin 0 .lss (.t 41) (.t 40)), none⟩])
           (.seq
            (.cond (.t 42)
             .skip
             (.exit 1))
            (.seq
             (.block 2
              (.seq
               (.reg [⟨(some 43), (.idxS 1 (.t 39) (.t 41)), none⟩, ⟨(some 44), (.load false 1 (.t 43)), none⟩, ⟨(some 7), (.mv (.t 44)), none⟩])
               (.seq
                (.seq
                 (.reg [⟨(some 45), (.mv (.t 7)), none⟩, ⟨(some 46), (.len true (.t 45)), none⟩, ⟨(some 47), (.mv (.t 5)), none⟩, ⟨(some 48), (.bin 0 .sub (.c (.int .i64 (9223372036854775807))) (.t 47)), none⟩, ⟨(some 49), (.bin 0 .gtr (.t 46) (.t 48)), none⟩])
                 (.cond (.t 49)
                  (.reg [⟨(some 50), .iface, none⟩, ⟨none, .bad, none⟩])
                  .skip))
                (.reg [⟨(some 51), (.mv (.t 5)), none⟩, ⟨(some 52), (.mv (.t 7)), none⟩, ⟨(some 53), (.len true (.t 52)), none⟩, ⟨(some 54), (.bin 0 .add (.t 51) (.t 53)), none⟩, ⟨(some 5), (.mv (.t 54)), none⟩]))))
             (.reg [⟨(some 55), (.bin 0 .add (.t 41) (.c (.int .i64 (1)))), none⟩, ⟨(some 41), (.mv (.t 55)), none⟩])))))))
       (.seq
        (.reg [⟨(some 8), (.alloc (.agg [.nilp, (.sl true 0 [])]) 2 87), none⟩])
        (.seq
         (.reg [⟨(some 56), (.mv (.t 5)), none⟩, ⟨(some 57), (.callF 55 true [(.t 8), (.t 56)]), none⟩])
         (.seq
          (.reg [⟨(some 58), (.mv (.t 0)), none⟩, ⟨(some 59), (.idxS 1 (.t 58) (.c (.int .i64 (0)))), none⟩, ⟨(some 60), (.load false 1 (.t 59)), none⟩, ⟨(some 61), (.callF 56 true [(.t 8), (.t 60)]), none⟩])
          (.seq
           (.seq
            (.reg [⟨(some 62), (.mv (.t 0)), none⟩, ⟨(some 63), (.slice 1 (.t 62) (some (.c (.int .i64 (1)))) none none), none⟩, ⟨(some 64), (.len false (.t 63)), none⟩, ⟨(some 65), (.mv (.c (.int .i64 (0)))), none⟩])
            (.block 3
             (.loop
              (.seq
               (.reg [⟨(some 66), (.bin 0 .lss (.t 65) (.t 64)), none⟩])
               (.seq
                (.cond (.t 66)
                 .skip
                 (.exit 3))
                (.seq
                 (.block 4
                  (.seq
                   (.reg [⟨(some 67), (.idxS 1 (.t 63) (.t 65)), none⟩, ⟨(some 68), (.load false 1 (.t 67)), none⟩, ⟨(some 10), (.mv (.t 68)), none⟩])
                   (.seq
                    (.reg [⟨(some 69), (.mv (.t 1)), none⟩, ⟨(some 70), (.callF 56 true [(.t 8), (.t 69)]), none⟩])
                    (.reg [⟨(some 71), (.mv (.t 10)), none⟩, ⟨(some 72), (.callF 56 true [(.t 8), (.t 71)]), none⟩]))))
                 (.reg [⟨(some 73), (.bin 0 .add (.t 65) (.c (.int .i64 (1)))), none⟩, ⟨(some 65), (.mv (.t 73)), none⟩])))))))
           (.seq
            (.reg [⟨(some 74), (.callF 57 true [(.t 8)]), none⟩, ⟨(some 4), (.mv (.t 74)), none⟩])
            .ret))))))))))), 0⟩

def c37 : CFn := ⟨[(.tmp 4)], (some
  (.seq
   (.reg [⟨(some 4), (.mv (.c (.str []))), none⟩])
   (.seq
    (.reg [⟨(some 5), (.mv (.c (.sl true 0 []))), none⟩])
    (.seq
     (.seq
      (.reg [⟨(some 9), (.mv (.t 0)), none⟩, ⟨(some 10), (.len false (.t 9)), none⟩, ⟨(some 11), (.mv (.c (.int .i64 (0)))), none⟩])
      (.block 0
       (.loop
        (.seq
         (.reg [⟨(some 12), (.bin 0 .lss (.t 11) (.t 10)), none⟩])
         (.seq
          (.cond (.t 12)
           .skip
           (.exit 0))
          (.seq
           (.block 1
            (.seq
             (.reg [⟨(some 13), (.idxS 2 (.t 9) (.t 11)), none⟩, ⟨(some 14), (.load true 2 (.t 13)), none⟩, ⟨(some 7), (.alloc (.agg [(.int .i32 (0)), (.int .u8 (0))]) 2 54), none⟩, ⟨none, (.store 2 (.t 7) (.t 14)), none⟩])
             (.seq
              (.reg [⟨(some 15), (.fld 0 (.t 7)), none⟩, ⟨(some 16), (.load false 1 (.t 15)), none⟩, ⟨(some 17), (.bin 0 .geq (.t 16) (.c (.int .i32 (32)))), none⟩, ⟨(some 18), (.mv (.t 17)), none⟩, ⟨(some 19), (.fld 0 (.t 7)), (some (18, true))⟩, ⟨(some 20), (.load false 1 (.t 19)), (some (18, true))⟩, ⟨(some 21), (.bin 0 .lss (.t 20) (.c (.int .i32 (127)))), (some (18, true))⟩, ⟨(some 22), (.mv (.t 21)), (some (18, true))⟩, ⟨(some 23), (.fld 0 (.t 7)), (some (22, false))⟩, ⟨(some 24), (.load false 1 (.t 23)), (some (22, false))⟩, ⟨(some 25), (.bin 0 .gtr (.t 24) (.c (.int .i32 (159)))), (some (22, false))⟩, ⟨(some 26), (.pick (.t 22) (.c (.bool true)) (.t 25)), (some (18, true))⟩, ⟨(some 27), (.pick (.t 18) (.t 26) (.c (.bool false))), none⟩, ⟨(some 28), (.mv (.t 27)), none⟩, ⟨(some 29), (.fld 0 (.t 7)), (some (28, true))⟩, ⟨(some 30), (.load false 1 (.t 29)), (some (28, true))⟩, ⟨(some 31), (.bin 0 .neq (.t 30) (.c (.int .i32 (8232)))), (some (28, true))⟩, ⟨(some 32), (.pick (.t 28) (.t 31) (.c (.bool false))), none⟩, ⟨(some 33), (.mv (.t 32)), none⟩, ⟨(some 34), (.fld 0 (.t 7)), (some (33, true))⟩, ⟨(some 35), (.load false 1 (.t 34)), (some (33, true))⟩, ⟨(some 36), (.bin 0 .neq (.t 35) (.c (.int .i32 (8233)))), (some (33, true))⟩, ⟨(some 37), (.pick (.t 33) (.t 36) (.c (.bool false))), none⟩])
              (.cond (.t 37)
               (.reg [⟨(some 38), (.mv (.t 5)), none⟩, ⟨(some 39), (.fld 0 (.t 7)), none⟩, ⟨(some 40), (.load false 1 (.t 39)), none⟩, ⟨(some 41), (.bsl 1 [(.t 40)]), none⟩, ⟨(some 42), (.append 21 1 4 (.t 38) (.t 41)), none⟩, ⟨(some 5), (.mv (.t 42)), none⟩])
               .skip))))
           (.reg [⟨(some 43), (.bin 0 .add (.t 11) (.c (.int .i64 (1)))), none⟩, ⟨(some 11), (.mv (.t 43)), none⟩])))))))
     (.seq
      (.reg [⟨(some 44), (.mv (.t 5)), none⟩, ⟨(some 45), (.conv .runesStr (.t 44)), none⟩, ⟨(some 8), (.mv (.t 45)), none⟩])
      (.seq
       (.seq
        (.reg [⟨(some 46), (.bsl 1 [(.c (.str [95])), (.c (.str [61])), (.c (.str [84, 123]))]), none⟩, ⟨(some 47), (.mv (.t 8)), none⟩, ⟨(some 48), (.callF 58 false [(.t 46), (.t 47)]), none⟩, ⟨(some 49), (.mv (.t 48)), none⟩, ⟨(some 50), (.mv (.t 8)), (some (49, false))⟩, ⟨(some 51), (.bin 0 .eql (.t 50) (.c (.str []))), (some (49, false))⟩, ⟨(some 52), (.mv (.t 51)), (some (49, false))⟩, ⟨(some 53), (.mv (.t 1)), (some (52, true))⟩, ⟨(some 54), (.pick (.t 52) (.t 53) (.c (.bool false))), (some (49, false))⟩, ⟨(some 55), (.pick (.t 49) (.c (.bool true)) (.t 54)), none⟩])
        (.cond (.t 55)
         (.reg [⟨(some 56), (.mv (.t 8)), none⟩, ⟨(some 57), (.bin 0 .add (.c (.str [92, 38])) (.t 56)), none⟩, ⟨(some 8), (.mv (.t 57)), none⟩])
         .skip))
       (.seq
        (.reg [⟨(some 58), (.mv (.t 8)), none⟩, ⟨(some 4), (.mv (.t 58)), none⟩])
        .ret))))))), 0⟩

def c38 : CFn := ⟨[(.tmp 4)], (some
  (.seq
   (.reg [⟨(some 4), (.mv (.c (.bool false))), none⟩])
   (.seq
    (.seq
     (.reg [⟨(some 6), (.mv (.t 0)), none⟩, ⟨(some 7), (.len false (.t 6)), none⟩, ⟨(some 8), (.mv (.t 1)), none⟩, ⟨(some 9), (.len false (.t 8)), none⟩, ⟨(some 10), (.bin 0 .neq (.t 7) (.t 9)), none⟩])
     (.cond (.t 10)
      (.seq
       (.reg [⟨(some 4), (.mv (.c (.bool false))), none⟩])
       .ret)
      .skip))
    (.seq
     (.seq
      (.reg [⟨(some 5), (.mv (.c (.int .i64 (0)))), none⟩])
      (.block 0
       (.loop
        (.seq
         (.seq
          (.reg [⟨(some 11), (.mv (.t 5)), none⟩, ⟨(some 12), (.mv (.t 0)), none⟩, ⟨(some 13), (.len false (.t 12)), none⟩, ⟨(some 14), (.bin 0 .lss (.t 11) (.t 13)), none⟩])
          (.cond (.t 14)
           .skip
           (.exit 0)))
         (.seq
          (.block 1
           (.seq
            (.dreg [⟨⟨(some 17), (.mv (.t 0)), none⟩, 0, false⟩, ⟨⟨(some 18), (.mv (.t 5)), none⟩, 0, false⟩, ⟨⟨(some 19), (.idxS 1 (.t 17) (.t 18)), none⟩, 0, false⟩, ⟨⟨(some 20), (.load false 1 (.t 19)), none⟩, 0, false⟩, ⟨⟨(some 21), (.mv (.t 1)), none⟩, 0, false⟩, ⟨⟨(some 22), (.mv (.t 5)), none⟩, 0, false⟩, ⟨⟨(some 23), (.idxS 1 (.t 21) (.t 22)), none⟩, 0, false⟩, ⟨⟨(some 24), (.load false 1 (.t 23)), none⟩, 0, false⟩, ⟨⟨(some 25), (.callF 54 false [(.t 20), (.t 24)]), none⟩, 0, true⟩, ⟨⟨(some 26), (.un .not (.t 25)), none⟩, 1, false⟩] [])
            (.cond (.t 26)
             (.seq
              (.reg [⟨(some 4), (.mv (.c (.bool false))), none⟩])
              .ret)
             .skip)))
          (.reg [⟨(some 15), (.mv (.t 5)), none⟩, ⟨(some 16), (.bin 0 .add (.t 15) (.c (.int .i64 (1)))), none⟩, ⟨(some 5), (.mv (.t 16)), none⟩]))))))
     (.seq
      (.reg [⟨(some 4), (.mv (.c (.bool true))), none⟩])
      .ret))))), 0⟩

def c39 : CFn := ⟨[(.tmp 2)], (some
  (.seq
   (.reg [⟨(some 2), (.mv (.c (.sl true 0 []))), none⟩])
   (.seq
    (.reg [⟨(some 5), (.mv (.t 0)), none⟩, ⟨(some 6), (.callF 59 false [(.t 5)]), none⟩, ⟨(some 0), (.mv (.t 6)), none⟩])
    (.seq
     (.reg [⟨(some 3), (.mv (.c (.sl true 0 []))), none⟩])
     (.seq
      (.seq
       (.reg [⟨(some 4), (.mv (.c (.int .i64 (0)))), none⟩])
       (.block 0
        (.loop
         (.seq
          (.seq
           (.reg [⟨(some 7), (.mv (.t 4)), none⟩, ⟨(some 8), (.mv (.t 0)), none⟩, ⟨(some 9), (.len false (.t 8)), none⟩, ⟨(some 10), (.bin 0 .lss (.t 7) (.t 9)), none⟩])
           (.cond (.t 10)
            .skip
            (.exit 0)))
          (.seq
           (.block 1
            (.seq
             (.reg [⟨(some 13), (.mv (.t 0)), none⟩, ⟨(some 14), (.mv (.t 4)), none⟩, ⟨(some 15), (.idxS 2 (.t 13) (.t 14)), none⟩, ⟨(some 16), (.fld 0 (.t 15)), none⟩, ⟨(some 17), (.load false 1 (.t 16)), none⟩, ⟨(some 18), (.bin 0 .neq (.t 17) (.c (.int .i32 (32)))), none⟩])
             (.cond (.t 18)
              (.reg [⟨(some 19), (.mv (.t 3)), none⟩, ⟨(some 20), (.mv (.t 0)), none⟩, ⟨(some 21), (.mv (.t 4)), none⟩, ⟨(some 22), (.idxS 2 (.t 20) (.t 21)), none⟩, ⟨(some 23), (.load true 2 (.t 22)), none⟩, ⟨(some 24), (.bsl 2 [(.t 23)]), none⟩, ⟨(some 25), (.append 54 2 8 (.t 19) (.t 24)), none⟩, ⟨(some 3), (.mv (.t 25)), none⟩])
              (.seq
               (.reg [⟨(some 26), (.mv (.t 3)), none⟩, ⟨(some 27), (.len false (.t 26)), none⟩, ⟨(some 28), (.bin 0 .gtr (.t 27) (.c (.int .i64 (0)))), none⟩, ⟨(some 29), (.mv (.t 28)), none⟩, ⟨(some 30), (.mv (.t 3)), (some (29, true))⟩, ⟨(some 31), (.mv (.t 3)), (some (29, true))⟩, ⟨(some 32), (.len false (.t 31)), (some (29, true))⟩, ⟨(some 33), (.bin 0 .sub (.t 32) (.c (.int .i64 (1)))), (some (29, true))⟩, ⟨(some 34), (.idxS 2 (.t 30) (.t 33)), (some (29, true))⟩, ⟨(some 35), (.fld 0 (.t 34)), (some (29, true))⟩, ⟨(some 36), (.load false 1 (.t 35)), (some (29, true))⟩, ⟨(some 37), (.bin 0 .neq (.t 36) (.c (.int .i32 (32)))), (some (29, true))⟩, ⟨(some 38), (.pick (.t 29) (.t 37) (.c (.bool false))), none⟩])
               (.cond (.t 38)
                (.reg [⟨(some 39), (.mv (.t 3)), none⟩, ⟨(some 40), (.build [(.int .i32 (0)), (.int .u8 (0))] [(0, (1, (.c (.int .i32 (32)))))]), none⟩, ⟨(some 41), (.bsl 2 [(.t 40)]), none⟩, ⟨(some 42), (.append 54 2 8 (.t 39) (.t 41)), none⟩, ⟨(some 3), (.mv (.t 42)), none⟩])
                .skip)))))
           (.reg [⟨(some 11), (.mv (.t 4)), none⟩, ⟨(some 12), (.bin 0 .add (.t 11) (.c (.int .i64 (1)))), none⟩, ⟨(some 4), (.mv (.t 12)), none⟩]))))))
      (.seq
       (.reg [⟨(some 43), (.mv (.t 3)), none⟩, ⟨(some 2), (.mv (.t 43)), none⟩])
       .ret)))))), 0⟩

def c40 : CFn := ⟨[(.tmp 4), (.tmp 5)], (some
  (.seq
   (.reg [⟨(some 4), (.mv (.c (.str []))), none⟩, ⟨(some 5), (.mv (.c (.bool false))), none⟩])
   (.seq
    (.seq
     (.reg [⟨(some 6), (.mv (.t 0)), none⟩, ⟨(some 7), (.mv (.t 1)), none⟩, ⟨(some 8), (.callF 60 false [(.t 6), (.t 7)]), none⟩, ⟨(some 9), (.un .not (.t 8)), none⟩])
     (.cond (.t 9)
      (.seq
       (.reg [⟨(some 10), (.mv (.t 0)), none⟩, ⟨(some 4), (.mv (.t 10)), none⟩, ⟨(some 5), (.mv (.c (.bool false))), none⟩])
       .ret)
      .skip))
    (.seq
     (.reg [⟨(some 11), (.mv (.t 0)), none⟩, ⟨(some 12), (.mv (.t 0)), none⟩, ⟨(some 13), (.len true (.t 12)), none⟩, ⟨(some 14), (.mv (.t 1)), none⟩, ⟨(some 15), (.len true (.t 14)), none⟩, ⟨(some 16), (.bin 0 .sub (.t 13) (.t 15)), none⟩, ⟨(some 17), (.sliceStr (.t 11) none (some (.t 16))), none⟩, ⟨(some 4), (.mv (.t 17)), none⟩, ⟨(some 5), (.mv (.c (.bool true))), none⟩])
     .ret)))), 0⟩

def c41 : CFn := ⟨[(.tmp 4)], (some
  (.seq
   (.reg [⟨(some 4), (.mv (.c (.sl true 0 []))), none⟩])
   (.seq
    (.reg [⟨(some 12), (.mkSlice 98 2 16 (.agg [(.int .i64 (0)), (.int .i64 (0))]) (.c (.int .i64 (0))) (.c (.int .i64 (32)))), none⟩, ⟨(some 5), (.mv (.t 12)), none⟩])
    (.seq
     (.reg [⟨(some 6), (.mv (.c (.int .i64 (-1)))), none⟩])
     (.seq
      (.seq
       (.reg [⟨(some 13), (.mv (.t 0)), none⟩, ⟨(some 14), (.rangeS (.t 13)), none⟩])
       (.block 0
        (.loop
         (.seq
          (.reg [⟨(some 15), (.nextS (.t 14)), none⟩, ⟨(some 16), (.extract (.t 15) 0), none⟩])
          (.seq
           (.cond (.t 16)
            .skip
            (.exit 0))
           (.block 1
            (.seq
             (.reg [⟨(some 17), (.extract (.t 15) 1), none⟩, ⟨(some 18), (.extract (.t 15) 2), none⟩, ⟨(some 7), (.mv (.t 17)), none⟩, ⟨(some 8), (.mv (.t 18)), none⟩])
             (.seq
              (.reg [⟨(some 19), (.mv (.t 1)), none⟩, ⟨(some 20), (.mv (.t 8)), none⟩, ⟨(some 21), (.callV (.t 19) [(.t 20)]), none⟩])
              (.cond (.t 21)
               (.seq
                (.reg [⟨(some 22), (.mv (.t 6)), none⟩, ⟨(some 23), (.bin 0 .geq (.t 22) (.c (.int .i64 (0)))), none⟩])
                (.cond (.t 23)
                 (.seq
                  (.reg [⟨(some 24), (.mv (.t 5)), none⟩, ⟨(some 25), (.mv (.t 6)), none⟩, ⟨(some 26), (.mv (.t 7)), none⟩, ⟨(some 27), (.build [(.int .i64 (0)), (.int .i64 (0))] [(0, (1, (.t 25))), (1, (1, (.t 26)))]), none⟩, ⟨(some 28), (.bsl 2 [(.t 27)]), none⟩, ⟨(some 29), (.append 98 2 16 (.t 24) (.t 28)), none⟩, ⟨(some 5), (.mv (.t 29)), none⟩])
                  (.reg [⟨(some 30), (.mv (.t 6)), none⟩, ⟨(some 31), (.un .xor (.t 30)), none⟩, ⟨(some 6), (.mv (.t 31)), none⟩]))
                 .skip))
               (.seq
                (.reg [⟨(some 32), (.mv (.t 6)), none⟩, ⟨(some 33), (.bin 0 .lss (.t 32) (.c (.int .i64 (0)))), none⟩])
                (.cond (.t 33)
                 (.reg [⟨(some 34), (.mv (.t 7)), none⟩, ⟨(some 6), (.mv (.t 34)), none⟩])
                 .skip)))))))))))
      (.seq
       (.seq
        (.reg [⟨(some 35), (.mv (.t 6)), none⟩, ⟨(some 36), (.bin 0 .geq (.t 35) (.c (.int .i64 (0)))), none⟩])
        (.cond (.t 36)
         (.reg [⟨(some 37), (.mv (.t 5)), none⟩, ⟨(some 38), (.mv (.t 6)), none⟩, ⟨(some 39), (.mv (.t 0)), none⟩, ⟨(some 40), (.len true (.t 39)), none⟩, ⟨(some 41), (.build [(.int .i64 (0)), (.int .i64 (0))] [(0, (1, (.t 38))), (1, (1, (.t 40)))]), none⟩, ⟨(some 42), (.bsl 2 [(.t 41)]), none⟩, ⟨(some 43), (.append 98 2 16 (.t 37) (.t 42)), none⟩, ⟨(some 5), (.mv (.t 43)), none⟩])
         .skip))
       (.seq
        (.reg [⟨(some 44), (.mv (.t 5)), none⟩, ⟨(some 45), (.len false (.t 44)), none⟩, ⟨(some 46), (.mkSlice 9 1 16 (.str []) (.t 45) (.t 45)), none⟩, ⟨(some 9), (.mv (.t 46)), none⟩])
        (.seq
         (.seq
          (.reg [⟨(some 47), (.mv (.t 5)), none⟩, ⟨(some 48), (.len false (.t 47)), none⟩, ⟨(some 49), (.mv (.c (.int .i64 (0)))), none⟩])
          (.block 2
           (.loop
            (.seq
             (.reg [⟨(some 50), (.bin 0 .lss (.t 49) (.t 48)), none⟩])
             (.seq
              (.cond (.t 50)
               .skip
               (.exit 2))
              (.seq
               (.block 3
                (.seq
                 (.reg [⟨(some 51), (.mv (.t 49)), none⟩, ⟨(some 52), (.idxS 2 (.t 47) (.t 49)), none⟩, ⟨(some 53), (.load true 2 (.t 52)), none⟩, ⟨(some 11), (.alloc (.agg [(.int .i64 (0)), (.int .i64 (0))]) 2 98), none⟩, ⟨(some 10), (.mv (.t 51)), none⟩, ⟨none, (.store 2 (.t 11) (.t 53)), none⟩])
                 (.reg [⟨(some 54), (.mv (.t 9)), none⟩, ⟨(some 55), (.mv (.t 10)), none⟩, ⟨(some 56), (.mv (.t 0)), none⟩, ⟨(some 57), (.fld 0 (.t 11)), none⟩, ⟨(some 58), (.load false 1 (.t 57)), none⟩, ⟨(some 59), (.fld 1 (.t 11)), none⟩, ⟨(some 60), (.load false 1 (.t 59)), none⟩, ⟨(some 61), (.sliceStr (.t 56) (some (.t 58)) (some (.t 60))), none⟩, ⟨(some 62), (.idxS 1 (.t 54) (.t 55)), none⟩, ⟨none, (.store 1 (.t 62) (.t 61)), none⟩])))
               (.reg [⟨(some 63), (.bin 0 .add (.t 49) (.c (.int .i64 (1)))), none⟩, ⟨(some 49), (.mv (.t 63)), none⟩])))))))
         (.seq
          (.reg [⟨(some 64), (.mv (.t 9)), none⟩, ⟨(some 4), (.mv (.t 64)), none⟩])
          .ret))))))))), 0⟩

def c42 : CFn := ⟨[(.tmp 2)], (some
  (.seq
   (.reg [⟨(some 2), (.mv (.c (.bool false))), none⟩])
   (.seq
    (.reg [⟨(some 3), (.mv (.t 0)), none⟩, ⟨(some 4), (.bin 0 .eql (.t 3) (.c (.int .i32 (32)))), none⟩, ⟨(some 5), (.mv (.t 4)), none⟩, ⟨(some 6), (.mv (.t 0)), (some (5, false))⟩, ⟨(some 7), (.bin 0 .eql (.t 6) (.c (.int .i32 (44)))), (some (5, false))⟩, ⟨(some 8), (.pick (.t 5) (.c (.bool true)) (.t 7)), none⟩, ⟨(some 2), (.mv (.t 8)), none⟩])
    .ret))), 0⟩

def c43 : CFn := ⟨[(.tmp 4)], (some
  (.seq
   (.reg [⟨(some 4), (.mv (.c (.str []))), none⟩])
   (.seq
    (.seq
     (.reg [⟨(some 5), (.mv (.t 0)), none⟩, ⟨(some 6), (.mv (.t 1)), none⟩, ⟨(some 7), (.callF 60 false [(.t 5), (.t 6)]), none⟩])
     (.cond (.t 7)
      (.seq
       (.reg [⟨(some 8), (.mv (.t 0)), none⟩, ⟨(some 9), (.mv (.t 0)), none⟩, ⟨(some 10), (.len true (.t 9)), none⟩, ⟨(some 11), (.mv (.t 1)), none⟩, ⟨(some 12), (.len true (.t 11)), none⟩, ⟨(some 13), (.bin 0 .sub (.t 10) (.t 12)), none⟩, ⟨(some 14), (.sliceStr (.t 8) none (some (.t 13))), none⟩, ⟨(some 4), (.mv (.t 14)), none⟩])
       .ret)
      .skip))
    (.seq
     (.reg [⟨(some 15), (.mv (.t 0)), none⟩, ⟨(some 4), (.mv (.t 15)), none⟩])
     .ret)))), 0⟩

def c44 : CFn := ⟨[(.tmp 4)], (some
  (.seq
   (.reg [⟨(some 4), (.mv (.c (.int .i64 (0)))), none⟩])
   (.seq
    (.reg [⟨(some 5), (.mv (.t 0)), none⟩, ⟨(some 6), (.mv (.t 1)), none⟩, ⟨(some 7), (.callF 61 false [(.t 5), (.t 6)]), none⟩, ⟨(some 4), (.mv (.t 7)), none⟩])
    .ret))), 0⟩

def c45 : CFn := ⟨[(.tmp 8)], (some
  (.seq
   (.reg [⟨(some 8), (.mv (.c (.sl true 0 []))), none⟩])
   (.seq
    (.seq
     (.reg [⟨(some 12), (.mv (.t 3)), none⟩, ⟨(some 13), (.bin 0 .eql (.t 12) (.c (.int .i64 (0)))), none⟩])
     (.cond (.t 13)
      (.seq
       (.reg [⟨(some 8), (.mv (.c (.sl true 0 []))), none⟩])
       .ret)
      .skip))
    (.seq
     (.seq
      (.reg [⟨(some 14), (.mv (.t 1)), none⟩, ⟨(some 15), (.bin 0 .eql (.t 14) (.c (.str []))), none⟩])
      (.cond (.t 15)
       (.seq
        (.reg [⟨(some 16), (.mv (.t 0)), none⟩, ⟨(some 17), (.mv (.t 3)), none⟩, ⟨(some 18), (.callF 62 false [(.t 16), (.t 17)]), none⟩, ⟨(some 8), (.mv (.t 18)), none⟩])
        .ret)
       .skip))
     (.seq
      (.seq
       (.reg [⟨(some 19), (.mv (.t 3)), none⟩, ⟨(some 20), (.bin 0 .lss (.t 19) (.c (.int .i64 (0)))), none⟩])
       (.cond (.t 20)
        (.reg [⟨(some 21), (.mv (.t 0)), none⟩, ⟨(some 22), (.mv (.t 1)), none⟩, ⟨(some 23), (.callF 63 false [(.t 21), (.t 22)]), none⟩, ⟨(some 24), (.bin 0 .add (.t 23) (.c (.int .i64 (1)))), none⟩, ⟨(some 3), (.mv (.t 24)), none⟩])
        .skip))
      (.seq
       (.reg [⟨(some 25), (.mv (.t 3)), none⟩, ⟨(some 26), (.mv (.t 0)), none⟩, ⟨(some 27), (.len true (.t 26)), none⟩, ⟨(some 28), (.bin 0 .add (.t 27) (.c (.int .i64 (1)))), none⟩, ⟨(some 29), (.mm false (.t 25) [(.t 28)]), none⟩, ⟨(some 3), (.mv (.t 29)), none⟩])
       (.seq
        (.reg [⟨(some 30), (.mv (.t 3)), none⟩, ⟨(some 31), (.mkSlice 9 1 16 (.str []) (.t 30) (.t 30)), none⟩, ⟨(some 9), (.mv (.t 31)), none⟩])
        (.seq
         (.reg [⟨(some 32), (.mv (.t 3)), none⟩, ⟨(some 33), (.bin 0 .sub (.t 32) (.c (.int .i64 (1)))), none⟩, ⟨(some 3), (.mv (.t 33)), none⟩])
         (.seq
          (.reg [⟨(some 10), (.mv (.c (.int .i64 (0)))), none⟩])
          (.seq
           (.block 0
            (.loop
             (.seq
              (.seq
               (.reg [⟨(some 34), (.mv (.t 10)), none⟩, ⟨(some 35), (.mv (.t 3)), none⟩, ⟨(some 36), (.bin 0 .lss (.t 34) (.t 35)), none⟩])
               (.cond (.t 36)
                .skip
                (.exit 0)))
              (.block 1
               (.seq
                (.reg [⟨(some 37), (.mv (.t 0)), none⟩, ⟨(some 38), (.mv (.t 1)), none⟩, ⟨(some 39), (.callF 64 false [(.t 37), (.t 38)]), none⟩, ⟨(some 11), (.mv (.t 39)), none⟩])
                (.seq
                 (.seq
                  (.reg [⟨(some 40), (.mv (.t 11)), none⟩, ⟨(some 41), (.bin 0 .lss (.t 40) (.c (.int .i64 (0)))), none⟩])
                  (.cond (.t 41)
                   (.exit 0)
                   .skip))
                 (.seq
                  (.reg [⟨(some 42), (.mv (.t 9)), none⟩, ⟨(some 43), (.mv (.t 10)), none⟩, ⟨(some 44), (.mv (.t 0)), none⟩, ⟨(some 45), (.mv (.t 11)), none⟩, ⟨(some 46), (.mv (.t 2)), none⟩, ⟨(some 47), (.bin 0 .add (.t 45) (.t 46)), none⟩, ⟨(some 48), (.sliceStr (.t 44) none (some (.t 47))), none⟩, ⟨(some 49), (.idxS 1 (.t 42) (.t 43)), none⟩, ⟨none, (.store 1 (.t 49) (.t 48)), none⟩])
                  (.seq
                   (.reg [⟨(some 50), (.mv (.t 0)), none⟩, ⟨(some 51), (.mv (.t 11)), none⟩, ⟨(some 52), (.mv (.t 1)), none⟩, ⟨(some 53), (.len true (.t 52)), none⟩, ⟨(some 54), (.bin 0 .add (.t 51) (.t 53)), none⟩, ⟨(some 55), (.sliceStr (.t 50) (some (.t 54)) none), none⟩, ⟨(some 0), (.mv (.t 55)), none⟩])
                   (.reg [⟨(some 56), (.mv (.t 10)), none⟩, ⟨(some 57), (.bin 0 .add (.t 56) (.c (.int .i64 (1)))), none⟩, ⟨(some 10), (.mv (.t 57)), none⟩])))))))))
           (.seq
            (.reg [⟨(some 58), (.mv (.t 9)), none⟩, ⟨(some 59), (.mv (.t 10)), none⟩, ⟨(some 60), (.mv (.t 0)), none⟩, ⟨(some 61), (.idxS 1 (.t 58) (.t 59)), none⟩, ⟨none, (.store 1 (.t 61) (.t 60)), none⟩])
            (.seq
             (.reg [⟨(some 62), (.mv (.t 9)), none⟩, ⟨(some 63), (.mv (.t 10)), none⟩, ⟨(some 64), (.bin 0 .add (.t 63) (.c (.int .i64 (1)))), none⟩, ⟨(some 65), (.slice 1 (.t 62) none (some (.t 64)) none), none⟩, ⟨(some 8), (.mv (.t 65)), none⟩])
             .ret)))))))))))), 0⟩

def c46 : CFn := ⟨[(.tmp 4)], (some
  (.seq
   (.reg [⟨(some 4), (.mv (.c (.bool false))), none⟩])
   (.seq
    (.reg [⟨(some 5), (.mv (.t 0)), none⟩, ⟨(some 6), (.mv (.t 1)), none⟩, ⟨(some 7), (.callF 60 false [(.t 5), (.t 6)]), none⟩, ⟨(some 4), (.mv (.t 7)), none⟩])
    .ret))), 0⟩

def c47 : CFn := ⟨[], (some
  (.dreg [⟨⟨(some 6), (.mv (.t 0)), none⟩, 0, false⟩, ⟨⟨(some 7), (.mv (.t 0)), none⟩, 0, false⟩, ⟨⟨(some 8), (.nilCheck (.t 7)), none⟩, 0, false⟩, ⟨⟨(some 9), (.fld 7 (.t 8)), none⟩, 0, false⟩, ⟨⟨(some 10), (.load false 1 (.t 9)), none⟩, 0, false⟩, ⟨⟨(some 11), (.mv (.t 1)), none⟩, 0, false⟩, ⟨⟨(some 12), (.mv (.t 0)), none⟩, 0, false⟩, ⟨⟨(some 13), (.nilCheck (.t 12)), none⟩, 0, false⟩, ⟨⟨(some 14), (.fld 2 (.t 13)), none⟩, 0, false⟩, ⟨⟨(some 15), (.load false 1 (.t 14)), none⟩, 0, false⟩, ⟨⟨(some 16), (.mv (.t 2)), none⟩, 0, false⟩, ⟨⟨(some 17), (.bin 0 .add (.t 15) (.t 16)), none⟩, 0, false⟩, ⟨⟨(some 18), (.build [(.int .i64 (0)), (.int .i64 (0)), (.int .i64 (0))] [(0, (1, (.t 11))), (1, (1, (.t 17)))]), none⟩, 0, false⟩, ⟨⟨(some 19), (.bsl 3 [(.t 18)]), none⟩, 0, false⟩, ⟨⟨(some 20), (.append 41 3 24 (.t 10) (.t 19)), none⟩, 0, true⟩, ⟨⟨(some 21), (.nilCheck (.t 6)), none⟩, 1, false⟩, ⟨⟨(some 22), (.fld 7 (.t 21)), none⟩, 1, false⟩, ⟨⟨none, (.store 1 (.t 22) (.t 20)), none⟩, 1, true⟩] [])), 0⟩

def c48 : CFn := ⟨[(.tmp 6)], (some
  (.seq
   (.reg [⟨(some 6), (.mv (.c (.sl true 0 []))), none⟩])
   (.seq
    (.reg [⟨(some 13), (.build [(.int .u8 (0)), (.int .u8 (0))] []), none⟩, ⟨(some 14), (.mv (.t 1)), none⟩, ⟨(some 15), (.callF 65 false [(.t 13), (.t 14)]), none⟩, ⟨(some 12), (.mv (.t 15)), none⟩, ⟨(some 16), (.extract (.t 12) 0), none⟩, ⟨(some 17), (.extract (.t 12) 1), none⟩, ⟨(some 18), (.extract (.t 12) 2), none⟩, ⟨(some 8), (.alloc (.agg [(.int .u8 (0)), (.int .u8 (0))]) 2 102), none⟩, ⟨(some 7), (.mv (.t 16)), none⟩, ⟨none, (.store 2 (.t 8) (.t 17)), none⟩, ⟨(some 9), (.mv (.t 18)), none⟩])
    (.seq
     (.seq
      (.reg [⟨(some 19), (.mv (.t 9)), none⟩, ⟨(some 20), (.len false (.t 19)), none⟩, ⟨(some 21), (.mv (.c (.int .i64 (0)))), none⟩])
      (.block 0
       (.loop
        (.seq
         (.reg [⟨(some 22), (.bin 0 .lss (.t 21) (.t 20)), none⟩])
         (.seq
          (.cond (.t 22)
           .skip
           (.exit 0))
          (.seq
           (.block 1
            (.seq
             (.reg [⟨(some 23), (.idxS 3 (.t 19) (.t 21)), none⟩, ⟨(some 24), (.load true 3 (.t 23)), none⟩, ⟨(some 11), (.alloc (.agg [(.int .i64 (0)), (.int .i64 (0)), (.int .i64 (0))]) 3 41), none⟩, ⟨none, (.store 3 (.t 11) (.t 24)), none⟩])
             (.dreg [⟨⟨(some 25), (.mv (.t 0)), none⟩, 0, false⟩, ⟨⟨(some 26), (.mv (.t 0)), none⟩, 0, false⟩, ⟨⟨(some 27), (.nilCheck (.t 26)), none⟩, 0, false⟩, ⟨⟨(some 28), (.fld 7 (.t 27)), none⟩, 0, false⟩, ⟨⟨(some 29), (.load false 1 (.t 28)), none⟩, 0, false⟩, ⟨⟨(some 30), (.fld 0 (.t 11)), none⟩, 0, false⟩, ⟨⟨(some 31), (.load false 1 (.t 30)), none⟩, 0, false⟩, ⟨⟨(some 32), (.mv (.t 0)), none⟩, 0, false⟩, ⟨⟨(some 33), (.nilCheck (.t 32)), none⟩, 0, false⟩, ⟨⟨(some 34), (.fld 2 (.t 33)), none⟩, 0, false⟩, ⟨⟨(some 35), (.load false 1 (.t 34)), none⟩, 0, false⟩, ⟨⟨(some 36), (.mv (.t 2)), none⟩, 0, false⟩, ⟨⟨(some 37), (.bin 0 .add (.t 35) (.t 36)), none⟩, 0, false⟩, ⟨⟨(some 38), (.fld 2 (.t 11)), none⟩, 0, false⟩, ⟨⟨(some 39), (.load false 1 (.t 38)), none⟩, 0, false⟩, ⟨⟨(some 40), (.build [(.int .i64 (0)), (.int .i64 (0)), (.int .i64 (0))] [(0, (1, (.t 31))), (1, (1, (.t 37))), (2, (1, (.t 39)))]), none⟩, 0, false⟩, ⟨⟨(some 41), (.bsl 3 [(.t 40)]), none⟩, 0, false⟩, ⟨⟨(some 42), (.append 41 3 24 (.t 29) (.t 41)), none⟩, 0, true⟩, ⟨⟨(some 43), (.nilCheck (.t 25)), none⟩, 1, false⟩, ⟨⟨(some 44), (.fld 7 (.t 43)), none⟩, 1, false⟩, ⟨⟨none, (.store 1 (.t 44) (.t 42)), none⟩, 1, true⟩] [])))
           (.reg [⟨(some 45), (.bin 0 .add (.t 21) (.c (.int .i64 (1)))), none⟩, ⟨(some 21), (.mv (.t 45)), none⟩])))))))
     (.seq
      (.reg [⟨(some 46), (.mv (.t 7)), none⟩, ⟨(some 6), (.mv (.t 46)), none⟩])
      .ret))))), 0⟩

def c49 : CFn := ⟨[(.tmp 4), (.tmp 5)], (some
  (.seq
   (.reg [⟨(some 4), (.mv (.c (.sl true 0 []))), none⟩, ⟨(some 5), (.mv (.c (.sl true 0 []))), none⟩])
   (.seq
    (.reg [⟨(some 6), (.mv (.c (.sl true 0 []))), none⟩])
    (.seq
     (.seq
      (.reg [⟨(some 7), (.mv (.t 0)), none⟩, ⟨(some 8), (.nilCheck (.t 7)), none⟩, ⟨(some 9), (.fld 1 (.t 8)), none⟩, ⟨(some 10), (.load false 1 (.t 9)), none⟩, ⟨(some 11), (.bin 0 .add (.t 10) (.c (.int .i64 (1)))), none⟩, ⟨(some 12), (.nilCheck (.t 7)), none⟩, ⟨(some 13), (.fld 1 (.t 12)), none⟩, ⟨none, (.store 1 (.t 13) (.t 11)), none⟩])
      (.block 0
       (.loop
        (.seq
         (.seq
          (.dreg [⟨⟨(some 14), (.mv (.t 0)), none⟩, 0, false⟩, ⟨⟨(some 15), (.nilCheck (.t 14)), none⟩, 0, false⟩, ⟨⟨(some 16), (.fld 1 (.t 15)), none⟩, 0, false⟩, ⟨⟨(some 17), (.load false 1 (.t 16)), none⟩, 0, false⟩, ⟨⟨(some 18), (.mv (.t 0)), none⟩, 0, false⟩, ⟨⟨(some 19), (.nilCheck (.t 18)), none⟩, 0, false⟩, ⟨⟨(some 20), (.fld 0 (.t 19)), none⟩, 0, false⟩, ⟨⟨(some 21), (.load false 1 (.t 20)), none⟩, 0, false⟩, ⟨⟨(some 22), (.len false (.t 21)), none⟩, 0, false⟩, ⟨⟨(some 23), (.bin 0 .lss (.t 17) (.t 22)), none⟩, 0, false⟩] [])
          (.cond (.t 23)
           .skip
           (.exit 0)))
         (.seq
          (.block 1
           (.seq
            (.seq
             (.dreg [⟨⟨(some 31), (.mv (.t 0)), none⟩, 0, false⟩, ⟨⟨(some 32), (.nilCheck (.t 31)), none⟩, 0, false⟩, ⟨⟨(some 33), (.fld 0 (.t 32)), none⟩, 0, false⟩, ⟨⟨(some 34), (.load false 1 (.t 33)), none⟩, 0, false⟩, ⟨⟨(some 35), (.mv (.t 0)), none⟩, 0, false⟩, ⟨⟨(some 36), (.nilCheck (.t 35)), none⟩, 0, false⟩, ⟨⟨(some 37), (.fld 1 (.t 36)), none⟩, 0, false⟩, ⟨⟨(some 38), (.load false 1 (.t 37)), none⟩, 0, false⟩, ⟨⟨(some 39), (.idxS 1 (.t 34) (.t 38)), none⟩, 0, false⟩, ⟨⟨(some 40), (.load false 1 (.t 39)), none⟩, 0, false⟩, ⟨⟨(some 41), (.callF 66 false [(.t 40), (.c (.str [84, 125]))]), none⟩, 0, true⟩] [])
             (.cond (.t 41)
              (.seq
               (.dreg [⟨⟨(some 42), (.mv (.t 6)), none⟩, 0, false⟩, ⟨⟨(some 43), (.mv (.t 0)), none⟩, 0, false⟩, ⟨⟨(some 44), (.nilCheck (.t 43)), none⟩, 0, false⟩, ⟨⟨(some 45), (.fld 0 (.t 44)), none⟩, 0, false⟩, ⟨⟨(some 46), (.load false 1 (.t 45)), none⟩, 0, false⟩, ⟨⟨(some 47), (.mv (.t 0)), none⟩, 0, false⟩, ⟨⟨(some 48), (.nilCheck (.t 47)), none⟩, 0, false⟩, ⟨⟨(some 49), (.fld 1 (.t 48)), none⟩, 0, false⟩, ⟨⟨(some 50), (.load false 1 (.t 49)), none⟩, 0, false⟩, ⟨⟨(some 51), (.idxS 1 (.t 46) (.t 50)), none⟩, 0, false⟩, ⟨⟨(some 52), (.load false 1 (.t 51)), none⟩, 0, false⟩, ⟨⟨(some 53), (.callF 13 false [(.t 52)]), none⟩, 0, true⟩, ⟨⟨(some 54), (.slice 1 (.t 53) (some (.c (.int .i64 (1)))) none none), none⟩, 1, false⟩, ⟨⟨(some 4), (.mv (.t 42)), none⟩, 1, false⟩, ⟨⟨(some 5), (.mv (.t 54)), none⟩, 1, false⟩] [])
               .ret)
              .skip))
            (.dreg [⟨⟨(some 55), (.mv (.t 6)), none⟩, 0, false⟩, ⟨⟨(some 56), (.mv (.t 0)), none⟩, 0, false⟩, ⟨⟨(some 57), (.mv (.t 0)), none⟩, 0, false⟩, ⟨⟨(some 58), (.nilCheck (.t 57)), none⟩, 0, false⟩, ⟨⟨(some 59), (.fld 0 (.t 58)), none⟩, 0, false⟩, ⟨⟨(some 60), (.load false 1 (.t 59)), none⟩, 0, false⟩, ⟨⟨(some 61), (.mv (.t 0)), none⟩, 0, false⟩, ⟨⟨(some 62), (.nilCheck (.t 61)), none⟩, 0, false⟩, ⟨⟨(some 63), (.fld 1 (.t 62)), none⟩, 0, false⟩, ⟨⟨(some 64), (.load false 1 (.t 63)), none⟩, 0, false⟩, ⟨⟨(some 65), (.idxS 1 (.t 60) (.t 64)), none⟩, 0, false⟩, ⟨⟨(some 66), (.load false 1 (.t 65)), none⟩, 0, false⟩, ⟨⟨(some 67), (.mv (.t 0)), none⟩, 0, false⟩, ⟨⟨(some 68), (.nilCheck (.t 67)), none⟩, 0, false⟩, ⟨⟨(some 69), (.fld 1 (.t 68)), none⟩, 0, false⟩, ⟨⟨(some 70), (.load false 1 (.t 69)), none⟩, 0, false⟩, ⟨⟨(some 71), (.callF 48 true [(.t 56), (.t 66), (.t 70)]), none⟩, 0, true⟩, ⟨⟨(some 72), (.callF 67 false [(.t 55), (.t 71)]), none⟩, 1, true⟩, ⟨⟨(some 6), (.mv (.t 72)), none⟩, 2, false⟩] [])))
          (.reg [⟨(some 24), (.mv (.t 0)), none⟩, ⟨(some 25), (.nilCheck (.t 24)), none⟩, ⟨(some 26), (.fld 1 (.t 25)), none⟩, ⟨(some 27), (.load false 1 (.t 26)), none⟩, ⟨(some 28), (.bin 0 .add (.t 27) (.c (.int .i64 (1)))), none⟩, ⟨(some 29), (.nilCheck (.t 24)), none⟩, ⟨(some 30), (.fld 1 (.t 29)), none⟩, ⟨none, (.store 1 (.t 30) (.t 28)), none⟩]))))))
     (.seq
      (.reg [⟨(some 73), (.mv (.t 0)), none⟩, ⟨(some 74), (.mv (.t 1)), none⟩, ⟨(some 75), (.callF 47 true [(.t 73), (.c (.int .i64 (7))), (.t 74)]), none⟩])
      (.seq
       (.reg [⟨(some 76), (.mv (.t 6)), none⟩, ⟨(some 4), (.mv (.t 76)), none⟩, ⟨(some 5), (.mv (.c (.sl true 0 []))), none⟩])
       .ret)))))), 0⟩

def c50 : CFn := ⟨[(.tmp 4)], (some
  (.seq
   (.reg [⟨(some 4), (.mv (.c (.str []))), none⟩])
   (.seq
    (.reg [⟨(some 5), (.alloc (.agg [.nilp, (.sl true 0 [])]) 2 87), none⟩])
    (.seq
     (.seq
      (.reg [⟨(some 13), (.mv (.t 1)), none⟩, ⟨(some 14), (.rangeS (.t 13)), none⟩])
      (.block 0
       (.loop
        (.seq
         (.reg [⟨(some 15), (.nextS (.t 14)), none⟩, ⟨(some 16), (.extract (.t 15) 0), none⟩])
         (.seq
          (.cond (.t 16)
           .skip
           (.exit 0))
          (.block 1
           (.seq
            (.reg [⟨(some 17), (.extract (.t 15) 1), none⟩, ⟨(some 18), (.extract (.t 15) 2), none⟩, ⟨(some 6), (.mv (.t 17)), none⟩, ⟨(some 7), (.mv (.t 18)), none⟩])
            (.seq
             (.reg [⟨(some 19), (.mv (.t 0)), none⟩, ⟨(some 20), (.mv (.t 7)), none⟩, ⟨(some 21), (.callV (.t 19) [(.t 20)]), none⟩, ⟨(some 8), (.mv (.t 21)), none⟩])
             (.seq
              (.seq
               (.reg [⟨(some 22), (.mv (.t 8)), none⟩, ⟨(some 23), (.mv (.t 7)), none⟩, ⟨(some 24), (.bin 0 .eql (.t 22) (.t 23)), none⟩, ⟨(some 25), (.mv (.t 24)), none⟩, ⟨(some 26), (.mv (.t 7)), (some (25, true))⟩, ⟨(some 27), (.bin 0 .neq (.t 26) (.c (.int .i32 (65533)))), (some (25, true))⟩, ⟨(some 28), (.pick (.t 25) (.t 27) (.c (.bool false))), none⟩])
               (.cond (.t 28)
                (.exit 1)
                .skip))
              (.seq
               (.reg [⟨(some 9), (.mv (.c (.int .i64 (0)))), none⟩])
               (.seq
                (.seq
                 (.reg [⟨(some 29), (.mv (.t 7)), none⟩, ⟨(some 30), (.bin 0 .eql (.t 29) (.c (.int .i32 (65533)))), none⟩])
                 (.cond (.t 30)
                  (.seq
                   (.reg [⟨(some 32), (.mv (.t 1)), none⟩, ⟨(some 33), (.mv (.t 6)), none⟩, ⟨(some 34), (.sliceStr (.t 32) (some (.t 33)) none), none⟩, ⟨(some 35), (.callF 68 false [(.t 34)]), none⟩, ⟨(some 31), (.mv (.t 35)), none⟩, ⟨(some 36), (.extract (.t 31) 0), none⟩, ⟨(some 37), (.extract (.t 31) 1), none⟩, ⟨(some 7), (.mv (.t 36)), none⟩, ⟨(some 9), (.mv (.t 37)), none⟩])
                   (.seq
                    (.reg [⟨(some 38), (.mv (.t 9)), none⟩, ⟨(some 39), (.bin 0 .neq (.t 38) (.c (.int .i64 (1)))), none⟩, ⟨(some 40), (.mv (.t 39)), none⟩, ⟨(some 41), (.mv (.t 8)), (some (40, true))⟩, ⟨(some 42), (.mv (.t 7)), (some (40, true))⟩, ⟨(some 43), (.bin 0 .eql (.t 41) (.t 42)), (some (40, true))⟩, ⟨(some 44), (.pick (.t 40) (.t 43) (.c (.bool false))), none⟩])
                    (.cond (.t 44)
                     (.exit 1)
                     .skip)))
                  (.reg [⟨(some 45), (.mv (.t 7)), none⟩, ⟨(some 46), (.callF 69 false [(.t 45)]), none⟩, ⟨(some 9), (.mv (.t 46)), none⟩])))
                (.seq
                 (.reg [⟨(some 47), (.mv (.t 1)), none⟩, ⟨(some 48), (.len true (.t 47)), none⟩, ⟨(some 49), (.bin 0 .add (.t 48) (.c (.int .i64 (4)))), none⟩, ⟨(some 50), (.callF 55 true [(.t 5), (.t 49)]), none⟩])
                 (.seq
                  (.reg [⟨(some 51), (.mv (.t 1)), none⟩, ⟨(some 52), (.mv (.t 6)), none⟩, ⟨(some 53), (.sliceStr (.t 51) none (some (.t 52))), none⟩, ⟨(some 54), (.callF 56 true [(.t 5), (.t 53)]), none⟩])
                  (.seq
                   (.seq
                    (.reg [⟨(some 55), (.mv (.t 8)), none⟩, ⟨(some 56), (.bin 0 .geq (.t 55) (.c (.int .i32 (0)))), none⟩])
                    (.cond (.t 56)
                     (.reg [⟨(some 57), (.mv (.t 8)), none⟩, ⟨(some 58), (.callF 70 true [(.t 5), (.t 57)]), none⟩])
                     .skip))
                   (.seq
                    (.reg [⟨(some 59), (.mv (.t 1)), none⟩, ⟨(some 60), (.mv (.t 6)), none⟩, ⟨(some 61), (.mv (.t 9)), none⟩, ⟨(some 62), (.bin 0 .add (.t 60) (.t 61)), none⟩, ⟨(some 63), (.sliceStr (.t 59) (some (.t 62)) none), none⟩, ⟨(some 1), (.mv (.t 63)), none⟩])
                    (.exit 0))))))))))))))))
     (.seq
      (.seq
       (.reg [⟨(some 64), (.callF 71 true [(.t 5)]), none⟩, ⟨(some 65), (.bin 0 .eql (.t 64) (.c (.int .i64 (0)))), none⟩])
       (.cond (.t 65)
        (.seq
         (.reg [⟨(some 66), (.mv (.t 1)), none⟩, ⟨(some 4), (.mv (.t 66)), none⟩])
         .ret)
        .skip))
      (.seq
       (.seq
        (.reg [⟨(some 67), (.mv (.t 1)), none⟩, ⟨(some 68), (.rangeS (.t 67)), none⟩])
        (.block 2
         (.loop
          (.seq
           (.reg [⟨(some 69), (.nextS (.t 68)), none⟩, ⟨(some 70), (.extract (.t 69) 0), none⟩])
           (.seq
            (.cond (.t 70)
             .skip
             (.exit 2))
            (.block 3
             (.seq
              (.reg [⟨(some 71), (.extract (.t 69) 2), none⟩, ⟨(some 11), (.mv (.t 71)), none⟩])
              (.seq
               (.reg [⟨(some 72), (.mv (.t 0)), none⟩, ⟨(some 73), (.mv (.t 11)), none⟩, ⟨(some 74), (.callV (.t 72) [(.t 73)]), none⟩, ⟨(some 12), (.mv (.t 74)), none⟩])
               (.seq
                (.reg [⟨(some 75), (.mv (.t 12)), none⟩, ⟨(some 76), (.bin 0 .geq (.t 75) (.c (.int .i32 (0)))), none⟩])
                (.cond (.t 76)
                 (.seq
                  (.reg [⟨(some 77), (.mv (.t 12)), none⟩, ⟨(some 78), (.bin 0 .lss (.t 77) (.c (.int .i32 (128)))), none⟩])
                  (.cond (.t 78)
                   (.reg [⟨(some 79), (.mv (.t 12)), none⟩, ⟨(some 80), (.conv (.int .u8) (.t 79)), none⟩, ⟨(some 81), (.callF 72 true [(.t 5), (.t 80)]), none⟩])
                   (.reg [⟨(some 82), (.mv (.t 12)), none⟩, ⟨(some 83), (.callF 70 true [(.t 5), (.t 82)]), none⟩])))
                 .skip))))))))))
       (.seq
        (.reg [⟨(some 84), (.callF 57 true [(.t 5)]), none⟩, ⟨(some 4), (.mv (.t 84)), none⟩])
        .ret))))))), 0⟩

def c51 : CFn := ⟨[(.tmp 2)], (some
  (.seq
   (.reg [⟨(some 2), (.mv (.c (.int .i32 (0)))), none⟩])
   (.seq
    (.seq
     (.reg [⟨(some 3), (.mv (.t 0)), none⟩, ⟨(some 4), (.callF 52 false [(.c (.str [108, 99, 114])), (.t 3)]), none⟩])
     (.cond (.t 4)
      (.seq
       (.reg [⟨(some 5), (.mv (.t 0)), none⟩, ⟨(some 2), (.mv (.t 5)), none⟩])
       .ret)
      .skip))
    (.seq
     (.reg [⟨(some 2), (.mv (.c (.int .i32 (-1)))), none⟩])
     .ret)))), 0⟩

def c52 : CFn := ⟨[(.tmp 4)], (some
  (.seq
   (.reg [⟨(some 4), (.mv (.c (.bool false))), none⟩])
   (.seq
    (.reg [⟨(some 5), (.mv (.t 0)), none⟩, ⟨(some 6), (.mv (.t 1)), none⟩, ⟨(some 7), (.callF 73 false [(.t 5), (.t 6)]), none⟩, ⟨(some 8), (.bin 0 .geq (.t 7) (.c (.int .i64 (0)))), none⟩, ⟨(some 4), (.mv (.t 8)), none⟩])
    .ret))), 0⟩

def c53 : CFn := ⟨[(.tmp 2)], (some
  (.seq
   (.reg [⟨(some 2), (.mv (.c (.sl true 0 []))), none⟩])
   (.seq
    (.reg [⟨(some 3), (.mv (.c (.sl true 0 []))), none⟩])
    (.seq
     (.reg [⟨(some 4), (.mv (.c (.bool false))), none⟩])
     (.seq
      (.seq
       (.reg [⟨(some 7), (.mv (.t 0)), none⟩, ⟨(some 8), (.len false (.t 7)), none⟩, ⟨(some 9), (.mv (.c (.int .i64 (0)))), none⟩])
       (.block 0
        (.loop
         (.seq
          (.reg [⟨(some 10), (.bin 0 .lss (.t 9) (.t 8)), none⟩])
          (.seq
           (.cond (.t 10)
            .skip
            (.exit 0))
           (.seq
            (.block 1
             (.seq
              (.reg [⟨(some 11), (.idxS 2 (.t 7) (.t 9)), none⟩, ⟨(some 12), (.load true 2 (.t 11)), none⟩, ⟨(some 6), (.alloc (.agg [(.int .i32 (0)), (.int .u8 (0))]) 2 54), none⟩, ⟨none, (.store 2 (.t 6) (.t 12)), none⟩])
              (.seq
               (.seq
                (.reg [⟨(some 13), (.fld 0 (.t 6)), none⟩, ⟨(some 14), (.load false 1 (.t 13)), none⟩, ⟨(some 15), (.fld 0 (.c (gl 0))), none⟩, ⟨(some 16), (.load false 1 (.t 15)), none⟩, ⟨(some 17), (.bin 0 .eql (.t 14) (.t 16)), none⟩])
                (.cond (.t 17)
                 (.seq
                  (.reg [⟨(some 4), (.mv (.c (.bool true))), none⟩])
                  (.exit 1))
                 .skip))
               (.seq
                (.seq
                 (.reg [⟨(some 18), (.mv (.t 4)), none⟩, ⟨(some 19), (.mv (.t 18)), none⟩, ⟨(some 20), (.mv (.t 3)), (some (19, true))⟩, ⟨(some 21), (.len false (.t 20)), (some (19, true))⟩, ⟨(some 22), (.bin 0 .gtr (.t 21) (.c (.int .i64 (0)))), (some (19, true))⟩, ⟨(some 23), (.pick (.t 19) (.t 22) (.c (.bool false))), none⟩])
                 (.cond (.t 23)
                  (.reg [⟨(some 24), (.mv (.t 3)), none⟩, ⟨(some 25), (.load true 2 (.c (gl 0))), none⟩, ⟨(some 26), (.bsl 2 [(.t 25)]), none⟩, ⟨(some 27), (.append 54 2 8 (.t 24) (.t 26)), none⟩, ⟨(some 3), (.mv (.t 27)), none⟩])
                  .skip))
                (.reg [⟨(some 28), (.mv (.t 3)), none⟩, ⟨(some 29), (.load true 2 (.t 6)), none⟩, ⟨(some 30), (.bsl 2 [(.t 29)]), none⟩, ⟨(some 31), (.append 54 2 8 (.t 28) (.t 30)), none⟩, ⟨(some 3), (.mv (.t 31)), none⟩, ⟨(some 4), (.mv (.c (.bool false))), none⟩])))))
            (.reg [⟨(some 32), (.bin 0 .add (.t 9) (.c (.int .i64 (1)))), none⟩, ⟨(some 9), (.mv (.t 32)), none⟩])))))))
      (.seq
       (.reg [⟨(some 33), (.mv (.t 3)), none⟩, ⟨(some 2), (.mv (.t 33)), none⟩])
       .ret)))))), 0⟩

def c54 : CFn := ⟨[(.tmp 4)], (some
  (.seq
   (.reg [⟨(some 4), (.mv (.c (.bool false))), none⟩])
   (.seq
    (.seq
     (.reg [⟨(some 6), (.mv (.t 0)), none⟩, ⟨(some 7), (.len false (.t 6)), none⟩, ⟨(some 8), (.mv (.t 1)), none⟩, ⟨(some 9), (.len false (.t 8)), none⟩, ⟨(some 10), (.bin 0 .neq (.t 7) (.t 9)), none⟩])
     (.cond (.t 10)
      (.seq
       (.reg [⟨(some 4), (.mv (.c (.bool false))), none⟩])
       .ret)
      .skip))
    (.seq
     (.seq
      (.reg [⟨(some 5), (.mv (.c (.int .i64 (0)))), none⟩])
      (.block 0
       (.loop
        (.seq
         (.seq
          (.reg [⟨(some 11), (.mv (.t 5)), none⟩, ⟨(some 12), (.mv (.t 0)), none⟩, ⟨(some 13), (.len false (.t 12)), none⟩, ⟨(some 14), (.bin 0 .lss (.t 11) (.t 13)), none⟩])
          (.cond (.t 14)
           .skip
           (.exit 0)))
         (.seq
          (.block 1
           (.seq
            (.dreg [⟨⟨(some 17), (.mv (.t 0)), none⟩, 0, false⟩, ⟨⟨(some 18), (.mv (.t 5)), none⟩, 0, false⟩, ⟨⟨(some 19), (.idxS 2 (.t 17) (.t 18)), none⟩, 0, false⟩, ⟨⟨(some 20), (.load true 2 (.t 19)), none⟩, 0, false⟩, ⟨⟨(some 21), (.mv (.t 1)), none⟩, 0, false⟩, ⟨⟨(some 22), (.mv (.t 5)), none⟩, 0, false⟩, ⟨⟨(some 23), (.idxS 2 (.t 21) (.t 22)), none⟩, 0, false⟩, ⟨⟨(some 24), (.load true 2 (.t 23)), none⟩, 0, false⟩, ⟨⟨(some 25), (.eqs true [2, 2] (.t 20) (.t 24)), none⟩, 0, false⟩] [])
            (.cond (.t 25)
             (.seq
              (.reg [⟨(some 4), (.mv (.c (.bool false))), none⟩])
              .ret)
             .skip)))
          (.reg [⟨(some 15), (.mv (.t 5)), none⟩, ⟨(some 16), (.bin 0 .add (.t 15) (.c (.int .i64 (1)))), none⟩, ⟨(some 5), (.mv (.t 16)), none⟩]))))))
     (.seq
      (.reg [⟨(some 4), (.mv (.c (.bool true))), none⟩])
      .ret))))), 0⟩

def c55 : CFn := ⟨[], (some
  (.seq
   (.reg [⟨(some 4), (.mv (.t 0)), none⟩, ⟨(some 5), (.callF 74 true [(.t 4)]), none⟩])
   (.seq
    (.seq
     (.reg [⟨(some 6), (.mv (.t 1)), none⟩, ⟨(some 7), (.bin 0 .lss (.t 6) (.c (.int .i64 (0)))), none⟩])
     (.cond (.t 7)
      (.reg [⟨(some 8), .iface, none⟩, ⟨none, .bad, none⟩])
      .skip))
    (.seq
     (.dreg [⟨⟨(some 9), (.mv (.t 0)), none⟩, 0, false⟩, ⟨⟨(some 10), (.nilCheck (.t 9)), none⟩, 0, false⟩, ⟨⟨(some 11), (.fld 1 (.t 10)), none⟩, 0, false⟩, ⟨⟨(some 12), (.load false 1 (.t 11)), none⟩, 0, false⟩, ⟨⟨(some 13), (.cap (.t 12)), none⟩, 0, false⟩, ⟨⟨(some 14), (.mv (.t 0)), none⟩, 0, false⟩, ⟨⟨(some 15), (.nilCheck (.t 14)), none⟩, 0, false⟩, ⟨⟨(some 16), (.fld 1 (.t 15)), none⟩, 0, false⟩, ⟨⟨(some 17), (.load false 1 (.t 16)), none⟩, 0, false⟩, ⟨⟨(some 18), (.len false (.t 17)), none⟩, 0, false⟩, ⟨⟨(some 19), (.bin 0 .sub (.t 13) (.t 18)), none⟩, 0, false⟩, ⟨⟨(some 20), (.mv (.t 1)), none⟩, 0, false⟩, ⟨⟨(some 21), (.bin 0 .lss (.t 19) (.t 20)), none⟩, 0, false⟩] [])
     (.cond (.t 21)
      (.reg [⟨(some 22), (.mv (.t 0)), none⟩, ⟨(some 23), (.mv (.t 1)), none⟩, ⟨(some 24), (.callF 75 true [(.t 22), (.t 23)]), none⟩])
      .skip))))), 0⟩

def c56 : CFn := ⟨[(.tmp 4), (.tmp 5)], (some
  (.seq
   (.reg [⟨(some 4), (.mv (.c (.int .i64 (0)))), none⟩, ⟨(some 5), (.mv (.c .nili)), none⟩])
   (.seq
    (.reg [⟨(some 6), (.mv (.t 0)), none⟩, ⟨(some 7), (.callF 74 true [(.t 6)]), none⟩])
    (.seq
     (.reg [⟨(some 8), (.mv (.t 0)), none⟩, ⟨(some 9), (.mv (.t 0)), none⟩, ⟨(some 10), (.nilCheck (.t 9)), none⟩, ⟨(some 11), (.fld 1 (.t 10)), none⟩, ⟨(some 12), (.load false 1 (.t 11)), none⟩, ⟨(some 13), (.mv (.t 1)), none⟩, ⟨(some 14), (.append 5 1 1 (.t 12) (.t 13)), none⟩, ⟨(some 15), (.nilCheck (.t 8)), none⟩, ⟨(some 16), (.fld 1 (.t 15)), none⟩, ⟨none, (.store 1 (.t 16) (.t 14)), none⟩])
     (.seq
      (.reg [⟨(some 17), (.mv (.t 1)), none⟩, ⟨(some 18), (.len true (.t 17)), none⟩, ⟨(some 4), (.mv (.t 18)), none⟩, ⟨(some 5), (.mv (.c .nili)), none⟩])
      .ret))))), 0⟩

def c57 : CFn := ⟨[(.tmp 2)], (some
  (.seq
   (.reg [⟨(some 2), (.mv (.c (.str []))), none⟩])
   (.seq
    (.dreg [⟨⟨(some 3), (.mv (.t 0)), none⟩, 0, false⟩, ⟨⟨(some 4), (.nilCheck (.t 3)), none⟩, 0, false⟩, ⟨⟨(some 5), (.fld 1 (.t 4)), none⟩, 0, false⟩, ⟨⟨(some 6), (.load false 1 (.t 5)), none⟩, 0, false⟩, ⟨⟨(some 7), .bad, none⟩, 0, true⟩, ⟨⟨(some 8), (.mv (.t 0)), none⟩, 0, false⟩, ⟨⟨(some 9), (.nilCheck (.t 8)), none⟩, 0, false⟩, ⟨⟨(some 10), (.fld 1 (.t 9)), none⟩, 0, false⟩, ⟨⟨(some 11), (.load false 1 (.t 10)), none⟩, 0, false⟩, ⟨⟨(some 12), (.len false (.t 11)), none⟩, 0, false⟩, ⟨⟨(some 13), .bad, none⟩, 1, true⟩, ⟨⟨(some 2), (.mv (.t 13)), none⟩, 2, false⟩] [⟨⟨(some 11), (.load false 1 (.t 10)), none⟩, 1⟩])
    .ret))), 0⟩

def c58 : CFn := ⟨[(.tmp 4)], (some
  (.seq
   (.reg [⟨(some 4), (.mv (.c (.bool false))), none⟩])
   (.seq
    (.reg [⟨(some 5), (.mv (.t 0)), none⟩, ⟨(some 6), (.mv (.t 1)), none⟩, ⟨(some 7), (.callF 76 false [(.t 5), (.t 6)]), none⟩, ⟨(some 8), (.bin 0 .geq (.t 7) (.c (.int .i64 (0)))), none⟩, ⟨(some 4), (.mv (.t 8)), none⟩])
    .ret))), 0⟩

def c59 : CFn := ⟨[(.tmp 2)], (some
  (.seq
   (.reg [⟨(some 2), (.mv (.c (.sl true 0 []))), none⟩])
   (.seq
    (.reg [⟨(some 4), (.mv (.t 0)), none⟩, ⟨(some 5), (.len false (.t 4)), none⟩, ⟨(some 3), (.mv (.t 5)), none⟩])
    (.seq
     (.block 0
      (.loop
       (.seq
        (.seq
         (.reg [⟨(some 6), (.mv (.t 3)), none⟩, ⟨(some 7), (.bin 0 .gtr (.t 6) (.c (.int .i64 (0)))), none⟩, ⟨(some 8), (.mv (.t 7)), none⟩, ⟨(some 9), (.mv (.t 0)), (some (8, true))⟩, ⟨(some 10), (.mv (.t 3)), (some (8, true))⟩, ⟨(some 11), (.bin 0 .sub (.t 10) (.c (.int .i64 (1)))), (some (8, true))⟩, ⟨(some 12), (.idxS 2 (.t 9) (.t 11)), (some (8, true))⟩, ⟨(some 13), (.fld 0 (.t 12)), (some (8, true))⟩, ⟨(some 14), (.load false 1 (.t 13)), (some (8, true))⟩, ⟨(some 15), (.bin 0 .eql (.t 14) (.c (.int .i32 (32)))), (some (8, true))⟩, ⟨(some 16), (.pick (.t 8) (.t 15) (.c (.bool false))), none⟩])
         (.cond (.t 16)
          .skip
          (.exit 0)))
        (.block 1
         (.reg [⟨(some 17), (.mv (.t 3)), none⟩, ⟨(some 18), (.bin 0 .sub (.t 17) (.c (.int .i64 (1)))), none⟩, ⟨(some 3), (.mv (.t 18)), none⟩])))))
     (.seq
      (.reg [⟨(some 19), (.mv (.t 0)), none⟩, ⟨(some 20), (.mv (.t 3)), none⟩, ⟨(some 21), (.slice 2 (.t 19) none (some (.t 20)) none), none⟩, ⟨(some 2), (.mv (.t 21)), none⟩])
      .ret))))), 0⟩

def c60 : CFn := ⟨[(.tmp 4)], (some
  (.seq
   (.reg [⟨(some 4), (.mv (.c (.bool false))), none⟩])
   (.seq
    (.reg [⟨(some 5), (.mv (.t 0)), none⟩, ⟨(some 6), (.len true (.t 5)), none⟩, ⟨(some 7), (.mv (.t 1)), none⟩, ⟨(some 8), (.len true (.t 7)), none⟩, ⟨(some 9), (.bin 0 .geq (.t 6) (.t 8)), none⟩, ⟨(some 10), (.mv (.t 9)), none⟩, ⟨(some 11), (.mv (.t 0)), (some (10, true))⟩, ⟨(some 12), (.mv (.t 0)), (some (10, true))⟩, ⟨(some 13), (.len true (.t 12)), (some (10, true))⟩, ⟨(some 14), (.mv (.t 1)), (some (10, true))⟩, ⟨(some 15), (.len true (.t 14)), (some (10, true))⟩, ⟨(some 16), (.bin 0 .sub (.t 13) (.t 15)), (some (10, true))⟩, ⟨(some 17), (.sliceStr (.t 11) (some (.t 16)) none), (some (10, true))⟩, ⟨(some 18), (.mv (.t 1)), (some (10, true))⟩, ⟨(some 19), (.bin 0 .eql (.t 17) (.t 18)), (some (10, true))⟩, ⟨(some 20), (.pick (.t 10) (.t 19) (.c (.bool false))), none⟩, ⟨(some 4), (.mv (.t 20)), none⟩])
    .ret))), 0⟩

def c61 : CFn := ⟨[], none, 1⟩

def c62 : CFn := ⟨[(.tmp 4)], (some
  (.seq
   (.reg [⟨(some 4), (.mv (.c (.sl true 0 []))), none⟩])
   (.seq
    (.reg [⟨(some 10), (.mv (.t 0)), none⟩, ⟨(some 11), (.callF 77 false [(.t 10)]), none⟩, ⟨(some 5), (.mv (.t 11)), none⟩])
    (.seq
     (.seq
      (.reg [⟨(some 12), (.mv (.t 1)), none⟩, ⟨(some 13), (.bin 0 .lss (.t 12) (.c (.int .i64 (0)))), none⟩, ⟨(some 14), (.mv (.t 13)), none⟩, ⟨(some 15), (.mv (.t 1)), (some (14, false))⟩, ⟨(some 16), (.mv (.t 5)), (some (14, false))⟩, ⟨(some 17), (.bin 0 .gtr (.t 15) (.t 16)), (some (14, false))⟩, ⟨(some 18), (.pick (.t 14) (.c (.bool true)) (.t 17)), none⟩])
      (.cond (.t 18)
       (.reg [⟨(some 19), (.mv (.t 5)), none⟩, ⟨(some 1), (.mv (.t 19)), none⟩])
       .skip))
     (.seq
      (.reg [⟨(some 20), (.mv (.t 1)), none⟩, ⟨(some 21), (.mkSlice 9 1 16 (.str []) (.t 20) (.t 20)), none⟩, ⟨(some 6), (.mv (.t 21)), none⟩])
      (.seq
       (.seq
        (.reg [⟨(some 7), (.mv (.c (.int .i64 (0)))), none⟩])
        (.block 0
         (.loop
          (.seq
           (.seq
            (.reg [⟨(some 22), (.mv (.t 7)), none⟩, ⟨(some 23), (.mv (.t 1)), none⟩, ⟨(some 24), (.bin 0 .sub (.t 23) (.c (.int .i64 (1)))), none⟩, ⟨(some 25), (.bin 0 .lss (.t 22) (.t 24)), none⟩])
            (.cond (.t 25)
             .skip
             (.exit 0)))
           (.seq
            (.block 1
             (.seq
              (.reg [⟨(some 29), (.mv (.t 0)), none⟩, ⟨(some 30), (.callF 68 false [(.t 29)]), none⟩, ⟨(some 28), (.mv (.t 30)), none⟩, ⟨(some 31), (.extract (.t 28) 0), none⟩, ⟨(some 32), (.extract (.t 28) 1), none⟩, ⟨(some 8), (.mv (.t 31)), none⟩, ⟨(some 9), (.mv (.t 32)), none⟩])
              (.seq
               (.reg [⟨(some 33), (.mv (.t 6)), none⟩, ⟨(some 34), (.mv (.t 7)), none⟩, ⟨(some 35), (.mv (.t 0)), none⟩, ⟨(some 36), (.mv (.t 9)), none⟩, ⟨(some 37), (.sliceStr (.t 35) none (some (.t 36))), none⟩, ⟨(some 38), (.idxS 1 (.t 33) (.t 34)), none⟩, ⟨none, (.store 1 (.t 38) (.t 37)), none⟩])
               (.reg [⟨(some 39), (.mv (.t 0)), none⟩, ⟨(some 40), (.mv (.t 9)), none⟩, ⟨(some 41), (.sliceStr (.t 39) (some (.t 40)) none), none⟩, ⟨(some 0), (.mv (.t 41)), none⟩]))))
            (.reg [⟨(some 26), (.mv (.t 7)), none⟩, ⟨(some 27), (.bin 0 .add (.t 26) (.c (.int .i64 (1)))), none⟩, ⟨(some 7), (.mv (.t 27)), none⟩]))))))
       (.seq
        (.seq
         (.reg [⟨(some 42), (.mv (.t 1)), none⟩, ⟨(some 43), (.bin 0 .gtr (.t 42) (.c (.int .i64 (0)))), none⟩])
         (.cond (.t 43)
          (.reg [⟨(some 44), (.mv (.t 6)), none⟩, ⟨(some 45), (.mv (.t 1)), none⟩, ⟨(some 46), (.bin 0 .sub (.t 45) (.c (.int .i64 (1)))), none⟩, ⟨(some 47), (.mv (.t 0)), none⟩, ⟨(some 48), (.idxS 1 (.t 44) (.t 46)), none⟩, ⟨none, (.store 1 (.t 48) (.t 47)), none⟩])
          .skip))
        (.seq
         (.reg [⟨(some 49), (.mv (.t 6)), none⟩, ⟨(some 4), (.mv (.t 49)), none⟩])
         .ret)))))))), 0⟩

def c63 : CFn := ⟨[(.tmp 4)], (some
  (.seq
   (.reg [⟨(some 4), (.mv (.c (.int .i64 (0)))), none⟩])
   (.seq
    (.seq
     (.reg [⟨(some 7), (.mv (.t 1)), none⟩, ⟨(some 8), (.len true (.t 7)), none⟩, ⟨(some 9), (.bin 0 .eql (.t 8) (.c (.int .i64 (0)))), none⟩])
     (.cond (.t 9)
      (.seq
       (.reg [⟨(some 10), (.mv (.t 0)), none⟩, ⟨(some 11), (.callF 77 false [(.t 10)]), none⟩, ⟨(some 12), (.bin 0 .add (.t 11) (.c (.int .i64 (1)))), none⟩, ⟨(some 4), (.mv (.t 12)), none⟩])
       .ret)
      .skip))
    (.seq
     (.seq
      (.reg [⟨(some 13), (.mv (.t 1)), none⟩, ⟨(some 14), (.len true (.t 13)), none⟩, ⟨(some 15), (.bin 0 .eql (.t 14) (.c (.int .i64 (1)))), none⟩])
      (.cond (.t 15)
       (.seq
        (.reg [⟨(some 16), (.mv (.t 0)), none⟩, ⟨(some 17), (.mv (.t 1)), none⟩, ⟨(some 18), (.idxStr (.t 17) (.c (.int .i64 (0)))), none⟩, ⟨(some 19), (.callF 78 false [(.t 16), (.t 18)]), none⟩, ⟨(some 4), (.mv (.t 19)), none⟩])
        .ret)
       .skip))
     (.seq
      (.reg [⟨(some 5), (.mv (.c (.int .i64 (0)))), none⟩])
      (.block 0
       (.loop
        (.block 1
         (.seq
          (.reg [⟨(some 20), (.mv (.t 0)), none⟩, ⟨(some 21), (.mv (.t 1)), none⟩, ⟨(some 22), (.callF 64 false [(.t 20), (.t 21)]), none⟩, ⟨(some 6), (.mv (.t 22)), none⟩])
          (.seq
           (.seq
            (.reg [⟨(some 23), (.mv (.t 6)), none⟩, ⟨(some 24), (.bin 0 .eql (.t 23) (.c (.int .i64 (-1)))), none⟩])
            (.cond (.t 24)
             (.seq
              (.reg [⟨(some 25), (.mv (.t 5)), none⟩, ⟨(some 4), (.mv (.t 25)), none⟩])
              .ret)
             .skip))
           (.seq
            (.reg [⟨(some 26), (.mv (.t 5)), none⟩, ⟨(some 27), (.bin 0 .add (.t 26) (.c (.int .i64 (1)))), none⟩, ⟨(some 5), (.mv (.t 27)), none⟩])
            (.reg [⟨(some 28), (.mv (.t 0)), none⟩, ⟨(some 29), (.mv (.t 6)), none⟩, ⟨(some 30), (.mv (.t 1)), none⟩, ⟨(some 31), (.len true (.t 30)), none⟩, ⟨(some 32), (.bin 0 .add (.t 29) (.t 31)), none⟩, ⟨(some 33), (.sliceStr (.t 28) (some (.t 32)) none), none⟩, ⟨(some 0), (.mv (.t 33)), none⟩])))))))))))), 0⟩

def c64 : CFn := ⟨[(.tmp 4)], (some
  (.seq
   (.reg [⟨(some 4), (.mv (.c (.int .i64 (0)))), none⟩])
   (.seq
    (.reg [⟨(some 5), (.mv (.t 0)), none⟩, ⟨(some 6), (.mv (.t 1)), none⟩, ⟨(some 7), (.callF 79 false [(.t 5), (.t 6)]), none⟩, ⟨(some 4), (.mv (.t 7)), none⟩])
    .ret))), 0⟩

def c65 : CFn := ⟨[(.tmp 4), (.cell 5 true 2), (.tmp 6)], (some
  (.seq
   (.reg [⟨(some 2), (.box 2 102 (.t 0)), none⟩, ⟨(some 4), (.mv (.c (.sl true 0 []))), none⟩, ⟨(some 5), (.alloc (.agg [(.int .u8 (0)), (.int .u8 (0))]) 2 102), none⟩, ⟨(some 6), (.mv (.c (.sl true 0 []))), none⟩])
   (.seq
    (.reg [⟨(some 11), (.mv (.t 1)), none⟩, ⟨(some 12), (.callF 80 false [(.t 11)]), none⟩, ⟨(some 10), (.mv (.t 12)), none⟩, ⟨(some 13), (.extract (.t 10) 0), none⟩, ⟨(some 14), (.extract (.t 10) 1), none⟩, ⟨(some 7), (.mv (.t 13)), none⟩, ⟨(some 8), (.mv (.t 14)), none⟩])
    (.seq
     (.reg [⟨(some 16), (.load true 2 (.t 2)), none⟩, ⟨(some 17), (.mv (.t 7)), none⟩, ⟨(some 18), (.callF 81 false [(.t 16), (.t 17)]), none⟩, ⟨(some 15), (.mv (.t 18)), none⟩, ⟨(some 19), (.extract (.t 15) 0), none⟩, ⟨(some 20), (.extract (.t 15) 1), none⟩, ⟨(some 9), (.mv (.t 19)), none⟩, ⟨none, (.store 2 (.t 2) (.t 20)), none⟩])
     (.seq
      (.dreg [⟨⟨(some 21), (.mv (.t 9)), none⟩, 0, false⟩, ⟨⟨(some 22), (.load true 2 (.t 2)), none⟩, 0, false⟩, ⟨⟨(some 23), (.mv (.t 8)), none⟩, 0, false⟩, ⟨⟨(some 4), (.mv (.t 21)), none⟩, 0, false⟩, ⟨⟨none, (.store 2 (.t 5) (.t 22)), none⟩, 0, true⟩, ⟨⟨(some 6), (.mv (.t 23)), none⟩, 1, false⟩] [])
      .ret))))), 0⟩

def c66 : CFn := ⟨[(.tmp 4)], (some
  (.seq
   (.reg [⟨(some 4), (.mv (.c (.bool false))), none⟩])
   (.seq
    (.reg [⟨(some 5), (.mv (.t 0)), none⟩, ⟨(some 6), (.mv (.t 1)), none⟩, ⟨(some 7), (.callF 82 false [(.t 5), (.t 6)]), none⟩, ⟨(some 4), (.mv (.t 7)), none⟩])
    .ret))), 0⟩

def c67 : CFn := ⟨[(.tmp 4)], (some
  (.seq
   (.reg [⟨(some 4), (.mv (.c (.sl true 0 []))), none⟩])
   (.seq
    (.block 0
     (.seq
      (.reg [⟨(some 6), (.mv (.t 0)), none⟩, ⟨(some 7), (.len false (.t 6)), none⟩, ⟨(some 8), (.bin 0 .eql (.t 7) (.c (.int .i64 (0)))), none⟩, ⟨(some 5), (.mv (.t 8)), none⟩])
      (.cond (.t 5)
       (.seq
        (.reg [⟨(some 9), (.mv (.t 1)), none⟩, ⟨(some 10), (.callF 83 false [(.t 9)]), none⟩, ⟨(some 4), (.mv (.t 10)), none⟩])
        .ret)
       (.seq
        (.reg [⟨(some 12), (.mv (.t 1)), none⟩, ⟨(some 13), (.len false (.t 12)), none⟩, ⟨(some 14), (.bin 0 .eql (.t 13) (.c (.int .i64 (0)))), none⟩, ⟨(some 11), (.mv (.t 14)), none⟩])
        (.cond (.t 11)
         (.seq
          (.reg [⟨(some 15), (.mv (.t 0)), none⟩, ⟨(some 16), (.callF 83 false [(.t 15)]), none⟩, ⟨(some 4), (.mv (.t 16)), none⟩])
          .ret)
         .skip)))))
    (.seq
     (.reg [⟨(some 17), (.mv (.t 0)), none⟩, ⟨(some 18), (.load true 2 (.c (gl 0))), none⟩, ⟨(some 19), (.bsl 2 [(.t 18)]), none⟩, ⟨(some 20), (.mv (.t 1)), none⟩, ⟨(some 21), (.bsl 1 [(.t 17), (.t 19), (.t 20)]), none⟩, ⟨(some 22), (.callF 84 false [(.t 21)]), none⟩, ⟨(some 4), (.mv (.t 22)), none⟩])
     .ret)))), 0⟩

def c68 : CFn := ⟨[(.tmp 2), (.tmp 3)], (some
  (.seq
   (.reg [⟨(some 2), (.mv (.c (.int .i32 (0)))), none⟩, ⟨(some 3), (.mv (.c (.int .i64 (0)))), none⟩])
   (.seq
    (.seq
     (.reg [⟨(some 4), (.mv (.t 0)), none⟩, ⟨(some 5), (.bin 0 .neq (.t 4) (.c (.str []))), none⟩, ⟨(some 6), (.mv (.t 5)), none⟩, ⟨(some 7), (.mv (.t 0)), (some (6, true))⟩, ⟨(some 8), (.idxStr (.t 7) (.c (.int .i64 (0)))), (some (6, true))⟩, ⟨(some 9), (.bin 0 .lss (.t 8) (.c (.int .u8 (128)))), (some (6, true))⟩, ⟨(some 10), (.pick (.t 6) (.t 9) (.c (.bool false))), none⟩])
     (.cond (.t 10)
      (.seq
       (.reg [⟨(some 11), (.mv (.t 0)), none⟩, ⟨(some 12), (.idxStr (.t 11) (.c (.int .i64 (0)))), none⟩, ⟨(some 13), (.conv (.int .i32) (.t 12)), none⟩, ⟨(some 2), (.mv (.t 13)), none⟩, ⟨(some 3), (.mv (.c (.int .i64 (1)))), none⟩])
       .ret)
      (.reg [⟨(some 15), (.mv (.t 0)), none⟩, ⟨(some 16), (.callF 85 false [(.t 15)]), none⟩, ⟨(some 14), (.mv (.t 16)), none⟩, ⟨(some 17), (.extract (.t 14) 0), none⟩, ⟨(some 18), (.extract (.t 14) 1), none⟩, ⟨(some 2), (.mv (.t 17)), none⟩, ⟨(some 3), (.mv (.t 18)), none⟩])))
    .ret))), 0⟩

def c69 : CFn := ⟨[(.tmp 2)], (some
  (.seq
   (.reg [⟨(some 2), (.mv (.c (.int .i64 (0)))), none⟩])
   (.seq
    (.block 0
     (.seq
      (.reg [⟨(some 4), (.mv (.t 0)), none⟩, ⟨(some 5), (.bin 0 .lss (.t 4) (.c (.int .i32 (0)))), none⟩, ⟨(some 3), (.mv (.t 5)), none⟩])
      (.cond (.t 3)
       (.seq
        (.reg [⟨(some 2), (.mv (.c (.int .i64 (-1)))), none⟩])
        .ret)
       (.seq
        (.reg [⟨(some 7), (.mv (.t 0)), none⟩, ⟨(some 8), (.bin 0 .leq (.t 7) (.c (.int .i32 (127)))), none⟩, ⟨(some 6), (.mv (.t 8)), none⟩])
        (.cond (.t 6)
         (.seq
          (.reg [⟨(some 2), (.mv (.c (.int .i64 (1)))), none⟩])
          .ret)
         (.seq
          (.reg [⟨(some 10), (.mv (.t 0)), none⟩, ⟨(some 11), (.bin 0 .leq (.t 10) (.c (.int .i32 (2047)))), none⟩, ⟨(some 9), (.mv (.t 11)), none⟩])
          (.cond (.t 9)
           (.seq
            (.reg [⟨(some 2), (.mv (.c (.int .i64 (2)))), none⟩])
            .ret)
           (.seq
            (.reg [⟨(some 13), (.mv (.t 0)), none⟩, ⟨(some 14), (.bin 0 .leq (.c (.int .i32 (55296))) (.t 13)), none⟩, ⟨(some 15), (.mv (.t 14)), none⟩, ⟨(some 16), (.mv (.t 0)), (some (15, true))⟩, ⟨(some 17), (.bin 0 .leq (.t 16) (.c (.int .i32 (57343)))), (some (15, true))⟩, ⟨(some 18), (.pick (.t 15) (.t 17) (.c (.bool false))), none⟩, ⟨(some 12), (.mv (.t 18)), none⟩])
            (.cond (.t 12)
             (.seq
              (.reg [⟨(some 2), (.mv (.c (.int .i64 (-1)))), none⟩])
              .ret)
             (.seq
              (.reg [⟨(some 20), (.mv (.t 0)), none⟩, ⟨(some 21), (.bin 0 .leq (.t 20) (.c (.int .i32 (65535)))), none⟩, ⟨(some 19), (.mv (.t 21)), none⟩])
              (.cond (.t 19)
               (.seq
                (.reg [⟨(some 2), (.mv (.c (.int .i64 (3)))), none⟩])
                .ret)
               (.seq
                (.reg [⟨(some 23), (.mv (.t 0)), none⟩, ⟨(some 24), (.bin 0 .leq (.t 23) (.c (.int .i32 (1114111)))), none⟩, ⟨(some 22), (.mv (.t 24)), none⟩])
                (.cond (.t 22)
                 (.seq
                  (.reg [⟨(some 2), (.mv (.c (.int .i64 (4)))), none⟩])
                  .ret)
                 .skip)))))))))))))
    (.seq
     (.reg [⟨(some 2), (.mv (.c (.int .i64 (-1)))), none⟩])
     .ret)))), 0⟩

def c70 : CFn := ⟨[(.tmp 4), (.tmp 5)], (some
  (.seq
   (.reg [⟨(some 4), (.mv (.c (.int .i64 (0)))), none⟩, ⟨(some 5), (.mv (.c .nili)), none⟩])
   (.seq
    (.reg [⟨(some 7), (.mv (.t 0)), none⟩, ⟨(some 8), (.callF 74 true [(.t 7)]), none⟩])
    (.seq
     (.reg [⟨(some 9), (.mv (.t 0)), none⟩, ⟨(some 10), (.nilCheck (.t 9)), none⟩, ⟨(some 11), (.fld 1 (.t 10)), none⟩, ⟨(some 12), (.load false 1 (.t 11)), none⟩, ⟨(some 13), (.len false (.t 12)), none⟩, ⟨(some 6), (.mv (.t 13)), none⟩])
     (.seq
      (.reg [⟨(some 14), (.mv (.t 0)), none⟩, ⟨(some 15), (.mv (.t 0)), none⟩, ⟨(some 16), (.nilCheck (.t 15)), none⟩, ⟨(some 17), (.fld 1 (.t 16)), none⟩, ⟨(some 18), (.load false 1 (.t 17)), none⟩, ⟨(some 19), (.mv (.t 1)), none⟩, ⟨(some 20), (.callF 86 false [(.t 18), (.t 19)]), none⟩, ⟨(some 21), (.nilCheck (.t 14)), none⟩, ⟨(some 22), (.fld 1 (.t 21)), none⟩, ⟨none, (.store 1 (.t 22) (.t 20)), none⟩])
      (.seq
       (.reg [⟨(some 23), (.mv (.t 0)), none⟩, ⟨(some 24), (.nilCheck (.t 23)), none⟩, ⟨(some 25), (.fld 1 (.t 24)), none⟩, ⟨(some 26), (.load false 1 (.t 25)), none⟩, ⟨(some 27), (.len false (.t 26)), none⟩, ⟨(some 28), (.mv (.t 6)), none⟩, ⟨(some 29), (.bin 0 .sub (.t 27) (.t 28)), none⟩, ⟨(some 4), (.mv (.t 29)), none⟩, ⟨(some 5), (.mv (.c .nili)), none⟩])
       .ret)))))), 0⟩

def c71 : CFn := ⟨[(.tmp 2)], (some
  (.seq
   (.reg [⟨(some 2), (.mv (.c (.int .i64 (0)))), none⟩])
   (.seq
    (.reg [⟨(some 3), (.mv (.t 0)), none⟩, ⟨(some 4), (.nilCheck (.t 3)), none⟩, ⟨(some 5), (.fld 1 (.t 4)), none⟩, ⟨(some 6), (.load false 1 (.t 5)), none⟩, ⟨(some 7), (.cap (.t 6)), none⟩, ⟨(some 2), (.mv (.t 7)), none⟩])
    .ret))), 0⟩

def c72 : CFn := ⟨[(.tmp 4)], (some
  (.seq
   (.reg [⟨(some 4), (.mv (.c .nili)), none⟩])
   (.seq
    (.reg [⟨(some 5), (.mv (.t 0)), none⟩, ⟨(some 6), (.callF 74 true [(.t 5)]), none⟩])
    (.seq
     (.reg [⟨(some 7), (.mv (.t 0)), none⟩, ⟨(some 8), (.mv (.t 0)), none⟩, ⟨(some 9), (.nilCheck (.t 8)), none⟩, ⟨(some 10), (.fld 1 (.t 9)), none⟩, ⟨(some 11), (.load false 1 (.t 10)), none⟩, ⟨(some 12), (.mv (.t 1)), none⟩, ⟨(some 13), (.bsl 1 [(.t 12)]), none⟩, ⟨(some 14), (.append 5 1 1 (.t 11) (.t 13)), none⟩, ⟨(some 15), (.nilCheck (.t 7)), none⟩, ⟨(some 16), (.fld 1 (.t 15)), none⟩, ⟨none, (.store 1 (.t 16) (.t 14)), none⟩])
     (.seq
      (.reg [⟨(some 4), (.mv (.c .nili)), none⟩])
      .ret))))), 0⟩

def c73 : CFn := ⟨[(.tmp 4)], (some
  (.seq
   (.reg [⟨(some 4), (.mv (.c (.int .i64 (0)))), none⟩])
   (.block 0
    (.seq
     (.reg [⟨(some 161), (.mv (.t 1)), none⟩, ⟨(some 162), (.bin 0 .leq (.c (.int .i32 (0))) (.t 161)), none⟩, ⟨(some 163), (.mv (.t 162)), none⟩, ⟨(some 164), (.mv (.t 1)), (some (163, true))⟩, ⟨(some 165), (.bin 0 .lss (.t 164) (.c (.int .i32 (128)))), (some (163, true))⟩, ⟨(some 166), (.pick (.t 163) (.t 165) (.c (.bool false))), none⟩, ⟨(some 160), (.mv (.t 166)), none⟩])
     (.cond (.t 160)
      (.seq
       (.reg [⟨(some 167), (.mv (.t 0)), none⟩, ⟨(some 168), (.mv (.t 1)), none⟩, ⟨(some 169), (.conv (.int .u8) (.t 168)), none⟩, ⟨(some 170), (.callF 28 false [(.t 167), (.t 169)]), none⟩, ⟨(some 4), (.mv (.t 170)), none⟩])
       .ret)
      (.seq
       (.reg [⟨(some 172), (.mv (.t 1)), none⟩, ⟨(some 173), (.bin 0 .eql (.t 172) (.c (.int .i32 (65533)))), none⟩, ⟨(some 171), (.mv (.t 173)), none⟩])
       (.cond (.t 171)
        (.seq
         (.seq
          (.reg [⟨(some 174), (.mv (.t 0)), none⟩, ⟨(some 175), (.rangeS (.t 174)), none⟩])
          (.block 9
           (.loop
            (.seq
             (.reg [⟨(some 176), (.nextS (.t 175)), none⟩, ⟨(some 177), (.extract (.t 176) 0), none⟩])
             (.seq
              (.cond (.t 177)
               .skip
               (.exit 9))
              (.block 10
               (.seq
                (.reg [⟨(some 178), (.extract (.t 176) 1), none⟩, ⟨(some 179), (.extract (.t 176) 2), none⟩, ⟨(some 5), (.mv (.t 178)), none⟩, ⟨(some 6), (.mv (.t 179)), none⟩])
                (.seq
                 (.reg [⟨(some 180), (.mv (.t 6)), none⟩, ⟨(some 181), (.bin 0 .eql (.t 180) (.c (.int .i32 (65533)))), none⟩])
                 (.cond (.t 181)
                  (.seq
                   (.reg [⟨(some 182), (.mv (.t 5)), none⟩, ⟨(some 4), (.mv (.t 182)), none⟩])
                   .ret)
                  .skip)))))))))
         (.seq
          (.reg [⟨(some 4), (.mv (.c (.int .i64 (-1)))), none⟩])
          .ret))
        (.seq
         (.reg [⟨(some 184), (.mv (.t 1)), none⟩, ⟨(some 185), (.callF 87 false [(.t 184)]), none⟩, ⟨(some 186), (.un .not (.t 185)), none⟩, ⟨(some 183), (.mv (.t 186)), none⟩])
         (.cond (.t 183)
          (.seq
           (.reg [⟨(some 4), (.mv (.c (.int .i64 (-1)))), none⟩])
           .ret)
          (.scope
           (.seq
            (.reg [⟨(some 17), (.mv (.t 1)), none⟩, ⟨(some 18), (.conv .intStr (.t 17)), none⟩, ⟨(some 7), (.mv (.t 18)), none⟩])
            (.seq
             (.reg [⟨(some 19), (.mv (.t 7)), none⟩, ⟨(some 20), (.len true (.t 19)), none⟩, ⟨(some 21), (.bin 0 .sub (.t 20) (.c (.int .i64 (1)))), none⟩, ⟨(some 8), (.mv (.t 21)), none⟩])
             (.seq
              (.reg [⟨(some 22), (.mv (.t 8)), none⟩, ⟨(some 9), (.mv (.t 22)), none⟩])
              (.seq
               (.reg [⟨(some 10), (.mv (.c (.int .i64 (0)))), none⟩])
               (.seq
                (.block 1
                 (.loop
                  (.seq
                   (.seq
                    (.reg [⟨(some 23), (.mv (.t 9)), none⟩, ⟨(some 24), (.mv (.t 0)), none⟩, ⟨(some 25), (.len true (.t 24)), none⟩, ⟨(some 26), (.bin 0 .lss (.t 23) (.t 25)), none⟩])
                    (.cond (.t 26)
                     .skip
                     (.exit 1)))
                   (.block 2
                    (.scope
                     (.seq
                      (.seq
                       (.dreg [⟨⟨(some 27), (.mv (.t 0)), none⟩, 0, false⟩, ⟨⟨(some 28), (.mv (.t 9)), none⟩, 0, false⟩, ⟨⟨(some 29), (.idxStr (.t 27) (.t 28)), none⟩, 0, false⟩, ⟨⟨(some 30), (.mv (.t 7)), none⟩, 0, false⟩, ⟨⟨(some 31), (.mv (.t 8)), none⟩, 0, false⟩, ⟨⟨(some 32), (.idxStr (.t 30) (.t 31)), none⟩, 0, false⟩, ⟨⟨(some 33), (.bin 0 .neq (.t 29) (.t 32)), none⟩, 0, false⟩] [])
                       (.cond (.t 33)
                        (.seq
                         (.dreg [⟨⟨(some 34), (.mv (.t 0)), none⟩, 0, false⟩, ⟨⟨(some 35), (.mv (.t 9)), none⟩, 0, false⟩, ⟨⟨(some 36), (.bin 0 .add (.t 35) (.c (.int .i64 (1)))), none⟩, 0, false⟩, ⟨⟨(some 37), (.sliceStr (.t 34) (some (.t 36)) none), none⟩, 0, false⟩, ⟨⟨(some 38), (.mv (.t 7)), none⟩, 0, false⟩, ⟨⟨(some 39), (.mv (.t 8)), none⟩, 0, false⟩, ⟨⟨(some 40), (.idxStr (.t 38) (.t 39)), none⟩, 0, false⟩, ⟨⟨(some 41), (.callF 28 false [(.t 37), (.t 40)]), none⟩, 0, true⟩, ⟨⟨(some 11), (.mv (.t 41)), none⟩, 1, false⟩] [])
                         (.seq
                          (.seq
                           (.reg [⟨(some 42), (.mv (.t 11)), none⟩, ⟨(some 43), (.bin 0 .lss (.t 42) (.c (.int .i64 (0)))), none⟩])
                           (.cond (.t 43)
                            (.seq
                             (.reg [⟨(some 4), (.mv (.c (.int .i64 (-1)))), none⟩])
                             .ret)
                            .skip))
                          (.reg [⟨(some 44), (.mv (.t 9)), none⟩, ⟨(some 45), (.mv (.t 11)), none⟩, ⟨(some 46), (.bin 0 .add (.t 45) (.c (.int .i64 (1)))), none⟩, ⟨(some 47), (.bin 0 .add (.t 44) (.t 46)), none⟩, ⟨(some 9), (.mv (.t 47)), none⟩])))
                        .skip))
                      (.seq
                       (.seq
                        (.reg [⟨(some 12), (.mv (.c (.int .i64 (1)))), none⟩])
                        (.block 3
                         (.loop
                          (.seq
                           (.seq
                            (.reg [⟨(some 48), (.mv (.t 12)), none⟩, ⟨(some 49), (.mv (.t 7)), none⟩, ⟨(some 50), (.len true (.t 49)), none⟩, ⟨(some 51), (.bin 0 .lss (.t 48) (.t 50)), none⟩])
                            (.cond (.t 51)
                             .skip
                             (.exit 3)))
                           (.seq
                            (.block 4
                             (.seq
                              (.dreg [⟨⟨(some 54), (.mv (.t 0)), none⟩, 0, false⟩, ⟨⟨(some 55), (.mv (.t 9)), none⟩, 0, false⟩, ⟨⟨(some 56), (.mv (.t 12)), none⟩, 0, false⟩, ⟨⟨(some 57), (.bin 0 .sub (.t 55) (.t 56)), none⟩, 0, false⟩, ⟨⟨(some 58), (.idxStr (.t 54) (.t 57)), none⟩, 0, false⟩, ⟨⟨(some 59), (.mv (.t 7)), none⟩, 0, false⟩, ⟨⟨(some 60), (.mv (.t 8)), none⟩, 0, false⟩, ⟨⟨(some 61), (.mv (.t 12)), none⟩, 0, false⟩, ⟨⟨(some 62), (.bin 0 .sub (.t 60) (.t 61)), none⟩, 0, false⟩, ⟨⟨(some 63), (.idxStr (.t 59) (.t 62)), none⟩, 0, false⟩, ⟨⟨(some 64), (.bin 0 .neq (.t 58) (.t 63)), none⟩, 0, false⟩] [])
                              (.cond (.t 64)
                               (.goto 0)
                               .skip)))
                            (.reg [⟨(some 52), (.mv (.t 12)), none⟩, ⟨(some 53), (.bin 0 .add (.t 52) (.c (.int .i64 (1)))), none⟩, ⟨(some 12), (.mv (.t 53)), none⟩]))))))
                       (.seq
                        (.seq
                         (.reg [⟨(some 65), (.mv (.t 9)), none⟩, ⟨(some 66), (.mv (.t 8)), none⟩, ⟨(some 67), (.bin 0 .sub (.t 65) (.t 66)), none⟩, ⟨(some 4), (.mv (.t 67)), none⟩])
                         .ret)
                        (.seq
                         (.label 0)
                         (.seq
                          (.reg [⟨(some 68), (.mv (.t 10)), none⟩, ⟨(some 69), (.bin 0 .add (.t 68) (.c (.int .i64 (1)))), none⟩, ⟨(some 10), (.mv (.t 69)), none⟩])
                          (.seq
                           (.reg [⟨(some 70), (.mv (.t 9)), none⟩, ⟨(some 71), (.bin 0 .add (.t 70) (.c (.int .i64 (1)))), none⟩, ⟨(some 9), (.mv (.t 71)), none⟩])
                           (.seq
                            (.reg [⟨(some 72), (.mv (.c (.bool true))), none⟩, ⟨(some 73), (.mv (.t 10)), (some (72, true))⟩, ⟨(some 74), (.mv (.t 9)), (some (72, true))⟩, ⟨(some 75), (.callF 88 false [(.t 74)]), (some (72, true))⟩, ⟨(some 76), (.bin 0 .gtr (.t 73) (.t 75)), (some (72, true))⟩, ⟨(some 77), (.pick (.t 72) (.t 76) (.c (.bool false))), none⟩, ⟨(some 78), (.mv (.t 77)), none⟩, ⟨(some 79), (.mv (.t 9)), (some (78, true))⟩, ⟨(some 80), (.mv (.t 0)), (some (78, true))⟩, ⟨(some 81), (.len true (.t 80)), (some (78, true))⟩, ⟨(some 82), (.bin 0 .lss (.t 79) (.t 81)), (some (78, true))⟩, ⟨(some 83), (.pick (.t 78) (.t 82) (.c (.bool false))), none⟩, ⟨(some 84), (.mv (.t 83)), none⟩, ⟨(some 85), (.mv (.c (.bool false))), (some (84, false))⟩, ⟨(some 86), (.mv (.t 10)), (some (85, true))⟩, ⟨(some 87), (.mv (.t 9)), (some (85, true))⟩, ⟨(some 88), (.bin 0 .shr (.t 87) (.c (.int .u64 (4)))), (some (85, true))⟩, ⟨(some 89), (.bin 0 .add (.c (.int .i64 (4))) (.t 88)), (some (85, true))⟩, ⟨(some 90), (.bin 0 .geq (.t 86) (.t 89)), (some (85, true))⟩, ⟨(some 91), (.pick (.t 85) (.t 90) (.c (.bool false))), (some (84, false))⟩, ⟨(some 92), (.mv (.t 91)), (some (84, false))⟩, ⟨(some 93), (.mv (.t 9)), (some (92, true))⟩, ⟨(some 94), (.mv (.t 0)), (some (92, true))⟩, ⟨(some 95), (.len true (.t 94)), (some (92, true))⟩, ⟨(some 96), (.bin 0 .lss (.t 93) (.t 95)), (some (92, true))⟩, ⟨(some 97), (.pick (.t 92) (.t 96) (.c (.bool false))), (some (84, false))⟩, ⟨(some 98), (.pick (.t 84) (.c (.bool true)) (.t 97)), none⟩])
                            (.cond (.t 98)
                             (.goto 1)
                             .skip)))))))))))))
                (.seq
                 (.seq
                  (.reg [⟨(some 4), (.mv (.c (.int .i64 (-1)))), none⟩])
                  .ret)
                 (.seq
                  (.label 1)
                  (.seq
                   (.cond (.c (.bool true))
                    (.seq
                     (.reg [⟨(some 99), (.mv (.t 0)), none⟩, ⟨(some 100), (.mv (.t 9)), none⟩, ⟨(some 101), (.mv (.t 8)), none⟩, ⟨(some 102), (.bin 0 .sub (.t 100) (.t 101)), none⟩, ⟨(some 103), (.sliceStr (.t 99) (some (.t 102)) none), none⟩, ⟨(some 104), (.mv (.t 1)), none⟩, ⟨(some 105), (.conv .intStr (.t 104)), none⟩, ⟨(some 106), (.callF 89 false [(.t 103), (.t 105)]), none⟩, ⟨(some 13), (.mv (.t 106)), none⟩])
                     (.seq
                      (.reg [⟨(some 107), (.mv (.t 13)), none⟩, ⟨(some 108), (.bin 0 .geq (.t 107) (.c (.int .i64 (0)))), none⟩])
                      (.cond (.t 108)
                       (.seq
                        (.reg [⟨(some 109), (.mv (.t 9)), none⟩, ⟨(some 110), (.mv (.t 13)), none⟩, ⟨(some 111), (.bin 0 .add (.t 109) (.t 110)), none⟩, ⟨(some 112), (.mv (.t 8)), none⟩, ⟨(some 113), (.bin 0 .sub (.t 111) (.t 112)), none⟩, ⟨(some 4), (.mv (.t 113)), none⟩])
                        .ret)
                       .skip)))
                    (.scope
                     (.seq
                      (.reg [⟨(some 114), (.mv (.t 7)), none⟩, ⟨(some 115), (.mv (.t 8)), none⟩, ⟨(some 116), (.idxStr (.t 114) (.t 115)), none⟩, ⟨(some 14), (.mv (.t 116)), none⟩])
                      (.seq
                       (.reg [⟨(some 117), (.mv (.t 7)), none⟩, ⟨(some 118), (.mv (.t 8)), none⟩, ⟨(some 119), (.bin 0 .sub (.t 118) (.c (.int .i64 (1)))), none⟩, ⟨(some 120), (.idxStr (.t 117) (.t 119)), none⟩, ⟨(some 15), (.mv (.t 120)), none⟩])
                       (.seq
                        (.label 2)
                        (.block 5
                         (.loop
                          (.seq
                           (.seq
                            (.reg [⟨(some 121), (.mv (.t 9)), none⟩, ⟨(some 122), (.mv (.t 0)), none⟩, ⟨(some 123), (.len true (.t 122)), none⟩, ⟨(some 124), (.bin 0 .lss (.t 121) (.t 123)), none⟩])
                            (.cond (.t 124)
                             .skip
                             (.exit 5)))
                           (.seq
                            (.block 6
                             (.seq
                              (.reg [⟨(some 127), (.mv (.t 0)), none⟩, ⟨(some 128), (.mv (.t 9)), none⟩, ⟨(some 129), (.idxStr (.t 127) (.t 128)), none⟩, ⟨(some 130), (.mv (.t 14)), none⟩, ⟨(some 131), (.bin 0 .eql (.t 129) (.t 130)), none⟩, ⟨(some 132), (.mv (.t 131)), none⟩, ⟨(some 133), (.mv (.t 0)), (some (132, true))⟩, ⟨(some 134), (.mv (.t 9)), (some (132, true))⟩, ⟨(some 135), (.bin 0 .sub (.t 134) (.c (.int .i64 (1)))), (some (132, true))⟩, ⟨(some 136), (.idxStr (.t 133) (.t 135)), (some (132, true))⟩, ⟨(some 137), (.mv (.t 15)), (some (132, true))⟩, ⟨(some 138), (.bin 0 .eql (.t 136) (.t 137)), (some (132, true))⟩, ⟨(some 139), (.pick (.t 132) (.t 138) (.c (.bool false))), none⟩])
                              (.cond (.t 139)
                               (.seq
                                (.seq
                                 (.reg [⟨(some 16), (.mv (.c (.int .i64 (2)))), none⟩])
                                 (.block 7
                                  (.loop
                                   (.seq
                                    (.seq
                                     (.reg [⟨(some 140), (.mv (.t 16)), none⟩, ⟨(some 141), (.mv (.t 7)), none⟩, ⟨(some 142), (.len true (.t 141)), none⟩, ⟨(some 143), (.bin 0 .lss (.t 140) (.t 142)), none⟩])
                                     (.cond (.t 143)
                                      .skip
                                      (.exit 7)))
                                    (.seq
                                     (.block 8
                                      (.seq
                                       (.dreg [⟨⟨(some 146), (.mv (.t 0)), none⟩, 0, false⟩, ⟨⟨(some 147), (.mv (.t 9)), none⟩, 0, false⟩, ⟨⟨(some 148), (.mv (.t 16)), none⟩, 0, false⟩, ⟨⟨(some 149), (.bin 0 .sub (.t 147) (.t 148)), none⟩, 0, false⟩, ⟨⟨(some 150), (.idxStr (.t 146) (.t 149)), none⟩, 0, false⟩, ⟨⟨(some 151), (.mv (.t 7)), none⟩, 0, false⟩, ⟨⟨(some 152), (.mv (.t 8)), none⟩, 0, false⟩, ⟨⟨(some 153), (.mv (.t 16)), none⟩, 0, false⟩, ⟨⟨(some 154), (.bin 0 .sub (.t 152) (.t 153)), none⟩, 0, false⟩, ⟨⟨(some 155), (.idxStr (.t 151) (.t 154)), none⟩, 0, false⟩, ⟨⟨(some 156), (.bin 0 .neq (.t 150) (.t 155)), none⟩, 0, false⟩] [])
                                       (.cond (.t 156)
                                        (.exit 6)
                                        .skip)))
                                     (.reg [⟨(some 144), (.mv (.t 16)), none⟩, ⟨(some 145), (.bin 0 .add (.t 144) (.c (.int .i64 (1)))), none⟩, ⟨(some 16), (.mv (.t 145)), none⟩]))))))
                                (.seq
                                 (.reg [⟨(some 157), (.mv (.t 9)), none⟩, ⟨(some 158), (.mv (.t 8)), none⟩, ⟨(some 159), (.bin 0 .sub (.t 157) (.t 158)), none⟩, ⟨(some 4), (.mv (.t 159)), none⟩])
                                 .ret))
                               .skip)))
                            (.reg [⟨(some 125), (.mv (.t 9)), none⟩, ⟨(some 126), (.bin 0 .add (.t 125) (.c (.int .i64 (1)))), none⟩, ⟨(some 9), (.mv (.t 126)), none⟩]))))))))))
                   (.seq
                    (.reg [⟨(some 4), (.mv (.c (.int .i64 (-1)))), none⟩])
                    .ret))))))))))))))))))), 0⟩

def c74 : CFn := ⟨[], (some
  (.seq
   (.reg [⟨(some 2), (.mv (.t 0)), none⟩, ⟨(some 3), (.nilCheck (.t 2)), none⟩, ⟨(some 4), (.fld 0 (.t 3)), none⟩, ⟨(some 5), (.load false 1 (.t 4)), none⟩, ⟨(some 6), (.bin 2 .eql (.t 5) (.c .nilp)), none⟩])
   (.cond (.t 6)
    (.reg [⟨(some 7), (.mv (.t 0)), none⟩, ⟨(some 8), (.mv (.t 0)), none⟩, ⟨(some 9), .bad, none⟩, ⟨(some 10), (.callF 90 false [(.t 9)]), none⟩, ⟨(some 11), .bad, none⟩, ⟨(some 12), (.nilCheck (.t 7)), none⟩, ⟨(some 13), (.fld 0 (.t 12)), none⟩, ⟨none, (.store 1 (.t 13) (.t 11)), none⟩])
    (.seq
     (.reg [⟨(some 14), (.mv (.t 0)), none⟩, ⟨(some 15), (.nilCheck (.t 14)), none⟩, ⟨(some 16), (.fld 0 (.t 15)), none⟩, ⟨(some 17), (.load false 1 (.t 16)), none⟩, ⟨(some 18), (.mv (.t 0)), none⟩, ⟨(some 19), (.bin 2 .neq (.t 17) (.t 18)), none⟩])
     (.cond (.t 19)
      .bad
      .skip))))), 0⟩

def c75 : CFn := ⟨[], (some
  (.seq
   (.dreg [⟨⟨(some 5), (.mv (.t 0)), none⟩, 0, false⟩, ⟨⟨(some 6), (.nilCheck (.t 5)), none⟩, 0, false⟩, ⟨⟨(some 7), (.fld 1 (.t 6)), none⟩, 0, false⟩, ⟨⟨(some 8), (.load false 1 (.t 7)), none⟩, 0, false⟩, ⟨⟨(some 9), (.cap (.t 8)), none⟩, 0, false⟩, ⟨⟨(some 10), (.bin 0 .mul (.c (.int .i64 (2))) (.t 9)), none⟩, 0, false⟩, ⟨⟨(some 11), (.mv (.t 1)), none⟩, 0, false⟩, ⟨⟨(some 12), (.bin 0 .add (.t 10) (.t 11)), none⟩, 0, false⟩, ⟨⟨(some 13), (.callF 91 false [(.t 12)]), none⟩, 0, true⟩, ⟨⟨(some 14), (.mv (.t 0)), none⟩, 0, false⟩, ⟨⟨(some 15), (.nilCheck (.t 14)), none⟩, 0, false⟩, ⟨⟨(some 16), (.fld 1 (.t 15)), none⟩, 0, false⟩, ⟨⟨(some 17), (.load false 1 (.t 16)), none⟩, 0, false⟩, ⟨⟨(some 18), (.len false (.t 17)), none⟩, 0, false⟩, ⟨⟨(some 19), (.slice 1 (.t 13) none (some (.t 18)) none), none⟩, 1, false⟩, ⟨⟨(some 4), (.mv (.t 19)), none⟩, 1, false⟩] [⟨⟨(some 17), (.load false 1 (.t 16)), none⟩, 1⟩])
   (.seq
    (.reg [⟨(some 20), (.mv (.t 4)), none⟩, ⟨(some 21), (.mv (.t 0)), none⟩, ⟨(some 22), (.nilCheck (.t 21)), none⟩, ⟨(some 23), (.fld 1 (.t 22)), none⟩, ⟨(some 24), (.load false 1 (.t 23)), none⟩, ⟨(some 25), (.copy 1 (.t 20) (.t 24)), none⟩])
    (.reg [⟨(some 26), (.mv (.t 0)), none⟩, ⟨(some 27), (.mv (.t 4)), none⟩, ⟨(some 28), (.nilCheck (.t 26)), none⟩, ⟨(some 29), (.fld 1 (.t 28)), none⟩, ⟨none, (.store 1 (.t 29) (.t 27)), none⟩])))), 0⟩

def c76 : CFn := ⟨[(.tmp 4)], (some
  (.seq
   (.reg [⟨(some 4), (.mv (.c (.int .i64 (0)))), none⟩])
   (.seq
    (.seq
     (.reg [⟨(some 6), (.mv (.t 0)), none⟩, ⟨(some 7), (.len false (.t 6)), none⟩, ⟨(some 8), (.mv (.c (.int .i64 (0)))), none⟩])
     (.block 0
      (.loop
       (.seq
        (.reg [⟨(some 9), (.bin 0 .lss (.t 8) (.t 7)), none⟩])
        (.seq
         (.cond (.t 9)
          .skip
          (.exit 0))
         (.seq
          (.block 1
           (.seq
            (.reg [⟨(some 10), (.mv (.t 8)), none⟩, ⟨(some 5), (.mv (.t 10)), none⟩])
            (.seq
             (.reg [⟨(some 11), (.mv (.t 1)), none⟩, ⟨(some 12), (.mv (.t 0)), none⟩, ⟨(some 13), (.mv (.t 5)), none⟩, ⟨(some 14), (.idxS 1 (.t 12) (.t 13)), none⟩, ⟨(some 15), (.load false 1 (.t 14)), none⟩, ⟨(some 16), (.bin 0 .eql (.t 11) (.t 15)), none⟩])
             (.cond (.t 16)
              (.seq
               (.reg [⟨(some 17), (.mv (.t 5)), none⟩, ⟨(some 4), (.mv (.t 17)), none⟩])
               .ret)
              .skip))))
          (.reg [⟨(some 18), (.bin 0 .add (.t 8) (.c (.int .i64 (1)))), none⟩, ⟨(some 8), (.mv (.t 18)), none⟩])))))))
    (.seq
     (.reg [⟨(some 4), (.mv (.c (.int .i64 (-1)))), none⟩])
     .ret)))), 0⟩

def c77 : CFn := ⟨[(.tmp 2)], (some
  (.seq
   (.reg [⟨(some 2), (.mv (.c (.int .i64 (0)))), none⟩])
   (.seq
    (.seq
     (.reg [⟨(some 3), (.mv (.t 0)), none⟩, ⟨(some 4), (.rangeS (.t 3)), none⟩])
     (.block 0
      (.loop
       (.seq
        (.reg [⟨(some 5), (.nextS (.t 4)), none⟩, ⟨(some 6), (.extract (.t 5) 0), none⟩])
        (.seq
         (.cond (.t 6)
          .skip
          (.exit 0))
         (.block 1
          (.reg [⟨(some 7), (.mv (.t 2)), none⟩, ⟨(some 8), (.bin 0 .add (.t 7) (.c (.int .i64 (1)))), none⟩, ⟨(some 2), (.mv (.t 8)), none⟩])))))))
    (.seq
     (.reg [⟨(some 9), (.mv (.t 2)), none⟩, ⟨(some 2), (.mv (.t 9)), none⟩])
     .ret)))), 0⟩

def c78 : CFn := ⟨[], none, 2⟩

def c79 : CFn := ⟨[(.tmp 4)], none, 10⟩

def c80 : CFn := ⟨[(.tmp 2), (.tmp 3)], (some
  (.seq
   (.reg [⟨(some 2), (.mv (.c (.sl true 0 []))), none⟩, ⟨(some 3), (.mv (.c (.sl true 0 []))), none⟩])
   (.scope
    (.seq
     (.reg [⟨(some 7), (.mv (.t 0)), none⟩, ⟨(some 8), (.conv .strBytes (.t 7)), none⟩, ⟨(some 9), (.callF 93 false [(.t 8)]), none⟩, ⟨(some 10), (.build [(.sl true 0 []), (.int .i64 (0)), (.sl true 0 []), (.sl true 0 [])] [(0, (1, (.t 9)))]), none⟩, ⟨(some 11), (.box 4 131 (.t 10)), none⟩, ⟨(some 4), (.mv (.t 11)), none⟩])
     (.seq
      (.label 0)
      (.seq
       (.block 0
        (.loop
         (.seq
          (.seq
           (.dreg [⟨⟨(some 12), (.mv (.t 4)), none⟩, 0, false⟩, ⟨⟨(some 13), (.nilCheck (.t 12)), none⟩, 0, false⟩, ⟨⟨(some 14), (.fld 1 (.t 13)), none⟩, 0, false⟩, ⟨⟨(some 15), (.load false 1 (.t 14)), none⟩, 0, false⟩, ⟨⟨(some 16), (.mv (.t 4)), none⟩, 0, false⟩, ⟨⟨(some 17), (.nilCheck (.t 16)), none⟩, 0, false⟩, ⟨⟨(some 18), (.fld 0 (.t 17)), none⟩, 0, false⟩, ⟨⟨(some 19), (.load false 1 (.t 18)), none⟩, 0, false⟩, ⟨⟨(some 20), (.len false (.t 19)), none⟩, 0, false⟩, ⟨⟨(some 21), (.bin 0 .lss (.t 15) (.t 20)), none⟩, 0, false⟩] [])
           (.cond (.t 21)
            .skip
            (.exit 0)))
          (.block 1
           (.seq
            (.dreg [⟨⟨(some 22), (.mv (.t 4)), none⟩, 0, false⟩, ⟨⟨(some 23), (.nilCheck (.t 22)), none⟩, 0, false⟩, ⟨⟨(some 24), (.fld 1 (.t 23)), none⟩, 0, false⟩, ⟨⟨(some 25), (.load false 1 (.t 24)), none⟩, 0, false⟩, ⟨⟨(some 26), (.mv (.t 4)), none⟩, 0, false⟩, ⟨⟨(some 27), (.nilCheck (.t 26)), none⟩, 0, false⟩, ⟨⟨(some 28), (.fld 0 (.t 27)), none⟩, 0, false⟩, ⟨⟨(some 29), (.load false 1 (.t 28)), none⟩, 0, false⟩, ⟨⟨(some 30), (.mv (.t 4)), none⟩, 0, false⟩, ⟨⟨(some 31), (.nilCheck (.t 30)), none⟩, 0, false⟩, ⟨⟨(some 32), (.fld 1 (.t 31)), none⟩, 0, false⟩, ⟨⟨(some 33), (.load false 1 (.t 32)), none⟩, 0, false⟩, ⟨⟨(some 34), (.idxS 1 (.t 29) (.t 33)), none⟩, 0, false⟩, ⟨⟨(some 35), (.load false 1 (.t 34)), none⟩, 0, false⟩, ⟨⟨(some 5), (.mv (.t 25)), none⟩, 0, false⟩, ⟨⟨(some 6), (.mv (.t 35)), none⟩, 0, false⟩] [])
            (.seq
             (.reg [⟨(some 36), (.mv (.t 4)), none⟩, ⟨(some 37), (.nilCheck (.t 36)), none⟩, ⟨(some 38), (.fld 1 (.t 37)), none⟩, ⟨(some 39), (.load false 1 (.t 38)), none⟩, ⟨(some 40), (.bin 0 .add (.t 39) (.c (.int .i64 (1)))), none⟩, ⟨(some 41), (.nilCheck (.t 36)), none⟩, ⟨(some 42), (.fld 1 (.t 41)), none⟩, ⟨none, (.store 1 (.t 42) (.t 40)), none⟩])
             (.block 2
              (.seq
               (.block 6
                (.seq
                 (.block 5
                  (.seq
                   (.block 4
                    (.seq
                     (.block 3
                      (.seq
                       (.seq
                        (.seq
                         (.seq
                          (.reg [⟨(some 44), (.mv (.t 6)), none⟩, ⟨(some 45), (.bin 0 .eql (.t 44) (.c (.int .i32 (32)))), none⟩, ⟨(some 43), (.mv (.t 45)), none⟩])
                          (.cond (.t 43)
                           .skip
                           (.reg [⟨(some 46), (.mv (.t 6)), none⟩, ⟨(some 47), (.bin 0 .eql (.t 46) (.c (.int .i32 (9)))), none⟩, ⟨(some 43), (.mv (.t 47)), none⟩])))
                         (.cond (.t 43)
                          (.exit 3)
                          .skip))
                        (.seq
                         (.seq
                          (.reg [⟨(some 49), (.mv (.t 6)), none⟩, ⟨(some 50), (.bin 0 .eql (.t 49) (.c (.int .i32 (92)))), none⟩, ⟨(some 48), (.mv (.t 50)), none⟩])
                          (.cond (.t 48)
                           (.exit 4)
                           .skip))
                         (.seq
                          (.reg [⟨(some 52), (.mv (.t 6)), none⟩, ⟨(some 53), (.callF 96 false [(.t 52)]), none⟩, ⟨(some 51), (.mv (.t 53)), none⟩])
                          (.cond (.t 51)
                           (.exit 5)
                           .skip))))
                       (.exit 6)))
                     (.seq
                      (.reg [⟨(some 54), (.mv (.t 4)), none⟩, ⟨(some 55), (.callF 94 true [(.t 54), (.c (.int .i64 (2))), (.c (.int .i32 (0)))]), none⟩])
                      (.exit 2))))
                   (.seq
                    (.seq
                     (.reg [⟨(some 56), (.mv (.t 4)), none⟩, ⟨(some 57), (.mv (.t 5)), none⟩, ⟨(some 58), (.callF 95 true [(.t 56), (.t 57)]), none⟩, ⟨(some 59), (.un .not (.t 58)), none⟩])
                     (.cond (.t 59)
                      (.exit 0)
                      .skip))
                    (.exit 2))))
                 (.seq
                  (.reg [⟨(some 60), (.mv (.t 4)), none⟩, ⟨(some 61), (.mv (.t 5)), none⟩, ⟨(some 62), (.callF 97 true [(.t 60), (.c (.int .i64 (3))), (.t 61)]), none⟩])
                  (.reg [⟨(some 6), (.mv (.c (.int .i32 (65533)))), none⟩]))))
               (.seq
                (.reg [⟨(some 63), (.mv (.t 4)), none⟩, ⟨(some 64), (.mv (.t 6)), none⟩, ⟨(some 65), (.callF 94 true [(.t 63), (.c (.int .i64 (1))), (.t 64)]), none⟩])
                (.exit 2))))))))))
       (.seq
        (.dreg [⟨⟨(some 66), (.mv (.t 4)), none⟩, 0, false⟩, ⟨⟨(some 67), (.nilCheck (.t 66)), none⟩, 0, false⟩, ⟨⟨(some 68), (.fld 2 (.t 67)), none⟩, 0, false⟩, ⟨⟨(some 69), (.load false 1 (.t 68)), none⟩, 0, false⟩, ⟨⟨(some 70), (.mv (.t 4)), none⟩, 0, false⟩, ⟨⟨(some 71), (.nilCheck (.t 70)), none⟩, 0, false⟩, ⟨⟨(some 72), (.fld 3 (.t 71)), none⟩, 0, false⟩, ⟨⟨(some 73), (.load false 1 (.t 72)), none⟩, 0, false⟩, ⟨⟨(some 2), (.mv (.t 69)), none⟩, 0, false⟩, ⟨⟨(some 3), (.mv (.t 73)), none⟩, 0, false⟩] [])
        .ret))))))), 0⟩

def c81 : CFn := ⟨[(.tmp 4), (.cell 5 true 2)], (some
  (.seq
   (.reg [⟨(some 2), (.box 2 102 (.t 0)), none⟩, ⟨(some 4), (.mv (.c (.sl true 0 []))), none⟩, ⟨(some 5), (.alloc (.agg [(.int .u8 (0)), (.int .u8 (0))]) 2 102), none⟩])
   (.scope
    (.seq
     (.reg [⟨(some 6), (.mv (.c (.sl true 0 []))), none⟩])
     (.seq
      (.label 0)
      (.seq
       (.seq
        (.reg [⟨(some 9), (.mv (.t 1)), none⟩, ⟨(some 10), (.len false (.t 9)), none⟩, ⟨(some 11), (.mv (.c (.int .i64 (0)))), none⟩])
        (.block 0
         (.loop
          (.seq
           (.reg [⟨(some 12), (.bin 0 .lss (.t 11) (.t 10)), none⟩])
           (.seq
            (.cond (.t 12)
             .skip
             (.exit 0))
            (.seq
             (.block 1
              (.seq
               (.reg [⟨(some 13), (.idxS 2 (.t 9) (.t 11)), none⟩, ⟨(some 14), (.load true 2 (.t 13)), none⟩, ⟨(some 8), (.alloc (.agg [(.int .i64 (0)), (.int .i32 (0))]) 2 135), none⟩, ⟨none, (.store 2 (.t 8) (.t 14)), none⟩])
               (.seq
                (.reg [⟨(some 15), (.fld 0 (.t 8)), none⟩, ⟨(some 16), (.load false 1 (.t 15)), none⟩])
                (.block 2
                 (.seq
                  (.reg [⟨(some 18), (.bin 0 .eql (.t 16) (.c (.int .i64 (1)))), none⟩, ⟨(some 17), (.mv (.t 18)), none⟩])
                  (.cond (.t 17)
                   (.reg [⟨(some 19), (.mv (.t 6)), none⟩, ⟨(some 20), (.fld 1 (.t 8)), none⟩, ⟨(some 21), (.load false 1 (.t 20)), none⟩, ⟨(some 22), (.fld 0 (.t 2)), none⟩, ⟨(some 23), (.load false 1 (.t 22)), none⟩, ⟨(some 24), (.build [(.int .i32 (0)), (.int .u8 (0))] [(0, (1, (.t 21))), (1, (1, (.t 23)))]), none⟩, ⟨(some 25), (.bsl 2 [(.t 24)]), none⟩, ⟨(some 26), (.append 54 2 8 (.t 19) (.t 25)), none⟩, ⟨(some 6), (.mv (.t 26)), none⟩])
                   (.seq
                    (.reg [⟨(some 28), (.bin 0 .eql (.t 16) (.c (.int .i64 (2)))), none⟩, ⟨(some 27), (.mv (.t 28)), none⟩])
                    (.cond (.t 27)
                     (.reg [⟨(some 29), (.mv (.t 6)), none⟩, ⟨(some 30), (.load true 2 (.c (gl 0))), none⟩, ⟨(some 31), (.bsl 2 [(.t 30)]), none⟩, ⟨(some 32), (.append 54 2 8 (.t 29) (.t 31)), none⟩, ⟨(some 6), (.mv (.t 32)), none⟩])
                     (.seq
                      (.reg [⟨(some 34), (.bin 0 .eql (.t 16) (.c (.int .i64 (3)))), none⟩, ⟨(some 33), (.mv (.t 34)), none⟩])
                      (.cond (.t 33)
                       (.reg [⟨(some 35), (.load true 2 (.t 2)), none⟩, ⟨(some 36), (.fld 1 (.t 8)), none⟩, ⟨(some 37), (.load false 1 (.t 36)), none⟩, ⟨(some 38), (.callF 98 false [(.t 35), (.t 37)]), none⟩, ⟨none, (.store 2 (.t 2) (.t 38)), none⟩])
                       (.exit 1)))))))))))
             (.reg [⟨(some 39), (.bin 0 .add (.t 11) (.c (.int .i64 (1)))), none⟩, ⟨(some 11), (.mv (.t 39)), none⟩])))))))
       (.seq
        (.dreg [⟨⟨(some 40), (.mv (.t 6)), none⟩, 0, false⟩, ⟨⟨(some 41), (.load true 2 (.t 2)), none⟩, 0, false⟩, ⟨⟨(some 4), (.mv (.t 40)), none⟩, 0, false⟩, ⟨⟨none, (.store 2 (.t 5) (.t 41)), none⟩, 0, true⟩] [])
        .ret))))))), 0⟩

def c82 : CFn := ⟨[(.tmp 4)], (some
  (.seq
   (.reg [⟨(some 4), (.mv (.c (.bool false))), none⟩])
   (.seq
    (.reg [⟨(some 5), (.mv (.t 0)), none⟩, ⟨(some 6), (.len true (.t 5)), none⟩, ⟨(some 7), (.mv (.t 1)), none⟩, ⟨(some 8), (.len true (.t 7)), none⟩, ⟨(some 9), (.bin 0 .geq (.t 6) (.t 8)), none⟩, ⟨(some 10), (.mv (.t 9)), none⟩, ⟨(some 11), (.mv (.t 0)), (some (10, true))⟩, ⟨(some 12), (.mv (.t 1)), (some (10, true))⟩, ⟨(some 13), (.len true (.t 12)), (some (10, true))⟩, ⟨(some 14), (.sliceStr (.t 11) none (some (.t 13))), (some (10, true))⟩, ⟨(some 15), (.mv (.t 1)), (some (10, true))⟩, ⟨(some 16), (.bin 0 .eql (.t 14) (.t 15)), (some (10, true))⟩, ⟨(some 17), (.pick (.t 10) (.t 16) (.c (.bool false))), none⟩, ⟨(some 4), (.mv (.t 17)), none⟩])
    .ret))), 0⟩

def c83 : CFn := ⟨[(.tmp 2)], (some
  (.seq
   (.reg [⟨(some 2), (.mv (.c (.sl true 0 []))), none⟩])
   (.seq
    (.seq
     (.reg [⟨(some 3), (.mv (.t 0)), none⟩, ⟨(some 4), (.bin 4 .eql (.t 3) (.c (.sl true 0 []))), none⟩])
     (.cond (.t 4)
      (.seq
       (.reg [⟨(some 2), (.mv (.c (.sl true 0 []))), none⟩])
       .ret)
      .skip))
    (.seq
     (.reg [⟨(some 5), (.bsl 2 []), none⟩, ⟨(some 6), (.mv (.t 0)), none⟩, ⟨(some 7), (.append 54 2 8 (.t 5) (.t 6)), none⟩, ⟨(some 2), (.mv (.t 7)), none⟩])
     .ret)))), 0⟩

def c84 : CFn := ⟨[(.tmp 2)], (some
  (.seq
   (.reg [⟨(some 2), (.mv (.c (.sl true 0 []))), none⟩])
   (.seq
    (.reg [⟨(some 3), (.mv (.c (.int .i64 (0)))), none⟩])
    (.seq
     (.seq
      (.reg [⟨(some 9), (.mv (.t 0)), none⟩, ⟨(some 10), (.len false (.t 9)), none⟩, ⟨(some 11), (.mv (.c (.int .i64 (0)))), none⟩])
      (.block 0
       (.loop
        (.seq
         (.reg [⟨(some 12), (.bin 0 .lss (.t 11) (.t 10)), none⟩])
         (.seq
          (.cond (.t 12)
           .skip
           (.exit 0))
          (.seq
           (.block 1
            (.seq
             (.reg [⟨(some 13), (.idxS 1 (.t 9) (.t 11)), none⟩, ⟨(some 14), (.load false 1 (.t 13)), none⟩, ⟨(some 5), (.mv (.t 14)), none⟩])
             (.seq
              (.reg [⟨(some 15), (.mv (.t 3)), none⟩, ⟨(some 16), (.mv (.t 5)), none⟩, ⟨(some 17), (.len false (.t 16)), none⟩, ⟨(some 18), (.bin 0 .add (.t 15) (.t 17)), none⟩, ⟨(some 3), (.mv (.t 18)), none⟩])
              (.seq
               (.reg [⟨(some 19), (.mv (.t 3)), none⟩, ⟨(some 20), (.bin 0 .lss (.t 19) (.c (.int .i64 (0)))), none⟩])
               (.cond (.t 20)
                (.reg [⟨(some 21), .iface, none⟩, ⟨none, .bad, none⟩])
                .skip)))))
           (.reg [⟨(some 22), (.bin 0 .add (.t 11) (.c (.int .i64 (1)))), none⟩, ⟨(some 11), (.mv (.t 22)), none⟩])))))))
     (.seq
      (.reg [⟨(some 23), (.mv (.t 3)), none⟩, ⟨(some 24), (.callF 99 true [(.c (.sl true 0 [])), (.t 23)]), none⟩, ⟨(some 6), (.mv (.t 24)), none⟩])
      (.seq
       (.seq
        (.reg [⟨(some 25), (.mv (.t 0)), none⟩, ⟨(some 26), (.len false (.t 25)), none⟩, ⟨(some 27), (.mv (.c (.int .i64 (0)))), none⟩])
        (.block 2
         (.loop
          (.seq
           (.reg [⟨(some 28), (.bin 0 .lss (.t 27) (.t 26)), none⟩])
           (.seq
            (.cond (.t 28)
             .skip
             (.exit 2))
            (.seq
             (.block 3
              (.seq
               (.reg [⟨(some 29), (.idxS 1 (.t 25) (.t 27)), none⟩, ⟨(some 30), (.load false 1 (.t 29)), none⟩, ⟨(some 8), (.mv (.t 30)), none⟩])
               (.reg [⟨(some 31), (.mv (.t 6)), none⟩, ⟨(some 32), (.mv (.t 8)), none⟩, ⟨(some 33), (.append 54 2 8 (.t 31) (.t 32)), none⟩, ⟨(some 6), (.mv (.t 33)), none⟩])))
             (.reg [⟨(some 34), (.bin 0 .add (.t 27) (.c (.int .i64 (1)))), none⟩, ⟨(some 27), (.mv (.t 34)), none⟩])))))))
       (.seq
        (.reg [⟨(some 35), (.mv (.t 6)), none⟩, ⟨(some 2), (.mv (.t 35)), none⟩])
        .ret))))))), 0⟩

def c85 : CFn := ⟨[(.tmp 2), (.tmp 3)], (some
  (.seq
   (.reg [⟨(some 2), (.mv (.c (.int .i32 (0)))), none⟩, ⟨(some 3), (.mv (.c (.int .i64 (0)))), none⟩])
   (.seq
    (.reg [⟨(some 13), (.mv (.t 0)), none⟩, ⟨(some 14), (.len true (.t 13)), none⟩, ⟨(some 4), (.mv (.t 14)), none⟩])
    (.seq
     (.seq
      (.reg [⟨(some 15), (.mv (.t 4)), none⟩, ⟨(some 16), (.bin 0 .lss (.t 15) (.c (.int .i64 (1)))), none⟩])
      (.cond (.t 16)
       (.seq
        (.reg [⟨(some 2), (.mv (.c (.int .i32 (65533)))), none⟩, ⟨(some 3), (.mv (.c (.int .i64 (0)))), none⟩])
        .ret)
       .skip))
     (.seq
      (.reg [⟨(some 17), (.mv (.t 0)), none⟩, ⟨(some 18), (.idxStr (.t 17) (.c (.int .i64 (0)))), none⟩, ⟨(some 5), (.mv (.t 18)), none⟩])
      (.seq
       (.reg [⟨(some 19), (.mv (.t 5)), none⟩, ⟨(some 20), (.idxA 256 1 (.c (gl 2)) (.t 19)), none⟩, ⟨(some 21), (.load false 1 (.t 20)), none⟩, ⟨(some 6), (.mv (.t 21)), none⟩])
       (.seq
        (.seq
         (.reg [⟨(some 22), (.mv (.t 6)), none⟩, ⟨(some 23), (.bin 0 .geq (.t 22) (.c (.int .u8 (240)))), none⟩])
         (.cond (.t 23)
          (.seq
           (.reg [⟨(some 24), (.mv (.t 6)), none⟩, ⟨(some 25), (.conv (.int .i32) (.t 24)), none⟩, ⟨(some 26), (.bin 0 .shl (.t 25) (.c (.int .u64 (31)))), none⟩, ⟨(some 27), (.bin 0 .shr (.t 26) (.c (.int .u64 (31)))), none⟩, ⟨(some 7), (.mv (.t 27)), none⟩])
           (.seq
            (.reg [⟨(some 28), (.mv (.t 0)), none⟩, ⟨(some 29), (.idxStr (.t 28) (.c (.int .i64 (0)))), none⟩, ⟨(some 30), (.conv (.int .i32) (.t 29)), none⟩, ⟨(some 31), (.mv (.t 7)), none⟩, ⟨(some 32), (.bin 0 .andNot (.t 30) (.t 31)), none⟩, ⟨(some 33), (.mv (.t 7)), none⟩, ⟨(some 34), (.bin 0 .and (.c (.int .i32 (65533))) (.t 33)), none⟩, ⟨(some 35), (.bin 0 .or (.t 32) (.t 34)), none⟩, ⟨(some 2), (.mv (.t 35)), none⟩, ⟨(some 3), (.mv (.c (.int .i64 (1)))), none⟩])
            .ret))
          .skip))
        (.seq
         (.reg [⟨(some 36), (.mv (.t 6)), none⟩, ⟨(some 37), (.bin 0 .and (.t 36) (.c (.int .u8 (7)))), none⟩, ⟨(some 38), (.conv (.int .i64) (.t 37)), none⟩, ⟨(some 8), (.mv (.t 38)), none⟩])
         (.seq
          (.reg [⟨(some 39), (.mv (.t 6)), none⟩, ⟨(some 40), (.bin 0 .shr (.t 39) (.c (.int .u64 (4)))), none⟩, ⟨(some 41), (.idxA 16 2 (.c (gl 3)) (.t 40)), none⟩, ⟨(some 42), (.load true 2 (.t 41)), none⟩, ⟨(some 9), (.alloc (.agg [(.int .u8 (0)), (.int .u8 (0))]) 2 140), none⟩, ⟨none, (.store 2 (.t 9) (.t 42)), none⟩])
          (.seq
           (.seq
            (.reg [⟨(some 43), (.mv (.t 4)), none⟩, ⟨(some 44), (.mv (.t 8)), none⟩, ⟨(some 45), (.bin 0 .lss (.t 43) (.t 44)), none⟩])
            (.cond (.t 45)
             (.seq
              (.reg [⟨(some 2), (.mv (.c (.int .i32 (65533)))), none⟩, ⟨(some 3), (.mv (.c (.int .i64 (1)))), none⟩])
              .ret)
             .skip))
           (.seq
            (.reg [⟨(some 46), (.mv (.t 0)), none⟩, ⟨(some 47), (.idxStr (.t 46) (.c (.int .i64 (1)))), none⟩, ⟨(some 10), (.mv (.t 47)), none⟩])
            (.seq
             (.seq
              (.reg [⟨(some 48), (.mv (.t 10)), none⟩, ⟨(some 49), (.fld 0 (.t 9)), none⟩, ⟨(some 50), (.load false 1 (.t 49)), none⟩, ⟨(some 51), (.bin 0 .lss (.t 48) (.t 50)), none⟩, ⟨(some 52), (.mv (.t 51)), none⟩, ⟨(some 53), (.fld 1 (.t 9)), (some (52, false))⟩, ⟨(some 54), (.load false 1 (.t 53)), (some (52, false))⟩, ⟨(some 55), (.mv (.t 10)), (some (52, false))⟩, ⟨(some 56), (.bin 0 .lss (.t 54) (.t 55)), (some (52, false))⟩, ⟨(some 57), (.pick (.t 52) (.c (.bool true)) (.t 56)), none⟩])
              (.cond (.t 57)
               (.seq
                (.reg [⟨(some 2), (.mv (.c (.int .i32 (65533)))), none⟩, ⟨(some 3), (.mv (.c (.int .i64 (1)))), none⟩])
                .ret)
               .skip))
             (.seq
              (.seq
               (.reg [⟨(some 58), (.mv (.t 8)), none⟩, ⟨(some 59), (.bin 0 .leq (.t 58) (.c (.int .i64 (2)))), none⟩])
               (.cond (.t 59)
                (.seq
                 (.reg [⟨(some 60), (.mv (.t 5)), none⟩, ⟨(some 61), (.bin 0 .and (.t 60) (.c (.int .u8 (31)))), none⟩, ⟨(some 62), (.conv (.int .i32) (.t 61)), none⟩, ⟨(some 63), (.bin 0 .shl (.t 62) (.c (.int .u64 (6)))), none⟩, ⟨(some 64), (.mv (.t 10)), none⟩, ⟨(some 65), (.bin 0 .and (.t 64) (.c (.int .u8 (63)))), none⟩, ⟨(some 66), (.conv (.int .i32) (.t 65)), none⟩, ⟨(some 67), (.bin 0 .or (.t 63) (.t 66)), none⟩, ⟨(some 2), (.mv (.t 67)), none⟩, ⟨(some 3), (.mv (.c (.int .i64 (2)))), none⟩])
                 .ret)
                .skip))
              (.seq
               (.reg [⟨(some 68), (.mv (.t 0)), none⟩, ⟨(some 69), (.idxStr (.t 68) (.c (.int .i64 (2)))), none⟩, ⟨(some 11), (.mv (.t 69)), none⟩])
               (.seq
                (.seq
                 (.reg [⟨(some 70), (.mv (.t 11)), none⟩, ⟨(some 71), (.bin 0 .lss (.t 70) (.c (.int .u8 (128)))), none⟩, ⟨(some 72), (.mv (.t 71)), none⟩, ⟨(some 73), (.mv (.t 11)), (some (72, false))⟩, ⟨(some 74), (.bin 0 .lss (.c (.int .u8 (191))) (.t 73)), (some (72, false))⟩, ⟨(some 75), (.pick (.t 72) (.c (.bool true)) (.t 74)), none⟩])
                 (.cond (.t 75)
                  (.seq
                   (.reg [⟨(some 2), (.mv (.c (.int .i32 (65533)))), none⟩, ⟨(some 3), (.mv (.c (.int .i64 (1)))), none⟩])
                   .ret)
                  .skip))
                (.seq
                 (.seq
                  (.reg [⟨(some 76), (.mv (.t 8)), none⟩, ⟨(some 77), (.bin 0 .leq (.t 76) (.c (.int .i64 (3)))), none⟩])
                  (.cond (.t 77)
                   (.seq
                    (.reg [⟨(some 78), (.mv (.t 5)), none⟩, ⟨(some 79), (.bin 0 .and (.t 78) (.c (.int .u8 (15)))), none⟩, ⟨(some 80), (.conv (.int .i32) (.t 79)), none⟩, ⟨(some 81), (.bin 0 .shl (.t 80) (.c (.int .u64 (12)))), none⟩, ⟨(some 82), (.mv (.t 10)), none⟩, ⟨(some 83), (.bin 0 .and (.t 82) (.c (.int .u8 (63)))), none⟩, ⟨(some 84), (.conv (.int .i32) (.t 83)), none⟩, ⟨(some 85), (.bin 0 .shl (.t 84) (.c (.int .u64 (6)))), none⟩, ⟨(some 86), (.bin 0 .or (.t 81) (.t 85)), none⟩, ⟨(some 87), (.mv (.t 11)), none⟩, ⟨(some 88), (.bin 0 .and (.t 87) (.c (.int .u8 (63)))), none⟩, ⟨(some 89), (.conv (.int .i32) (.t 88)), none⟩, ⟨(some 90), (.bin 0 .or (.t 86) (.t 89)), none⟩, ⟨(some 2), (.mv (.t 90)), none⟩, ⟨(some 3), (.mv (.c (.int .i64 (3)))), none⟩])
                    .ret)
                   .skip))
                 (.seq
                  (.reg [⟨(some 91), (.mv (.t 0)), none⟩, ⟨(some 92), (.idxStr (.t 91) (.c (.int .i64 (3)))), none⟩, ⟨(some 12), (.mv (.t 92)), none⟩])
                  (.seq
                   (.seq
                    (.reg [⟨(some 93), (.mv (.t 12)), none⟩, ⟨(some 94), (.bin 0 .lss (.t 93) (.c (.int .u8 (128)))), none⟩, ⟨(some 95), (.mv (.t 94)), none⟩, ⟨(some 96), (.mv (.t 12)), (some (95, false))⟩, ⟨(some 97), (.bin 0 .lss (.c (.int .u8 (191))) (.t 96)), (some (95, false))⟩, ⟨(some 98), (.pick (.t 95) (.c (.bool true)) (.t 97)), none⟩])
                    (.cond (.t 98)
                     (.seq
                      (.reg [⟨(some 2), (.mv (.c (.int .i32 (65533)))), none⟩, ⟨(some 3), (.mv (.c (.int .i64 (1)))), none⟩])
                      .ret)
                     .skip))
                   (.seq
                    (.reg [⟨(some 99), (.mv (.t 5)), none⟩, ⟨(some 100), (.bin 0 .and (.t 99) (.c (.int .u8 (7)))), none⟩, ⟨(some 101), (.conv (.int .i32) (.t 100)), none⟩, ⟨(some 102), (.bin 0 .shl (.t 101) (.c (.int .u64 (18)))), none⟩, ⟨(some 103), (.mv (.t 10)), none⟩, ⟨(some 104), (.bin 0 .and (.t 103) (.c (.int .u8 (63)))), none⟩, ⟨(some 105), (.conv (.int .i32) (.t 104)), none⟩, ⟨(some 106), (.bin 0 .shl (.t 105) (.c (.int .u64 (12)))), none⟩, ⟨(some 107), (.bin 0 .or (.t 102) (.t 106)), none⟩, ⟨(some 108), (.mv (.t 11)), none⟩, ⟨(some 109), (.bin 0 .and (.t 108) (.c (.int .u8 (63)))), none⟩, ⟨(some 110), (.conv (.int .i32) (.t 109)), none⟩, ⟨(some 111), (.bin 0 .shl (.t 110) (.c (.int .u64 (6)))), none⟩, ⟨(some 112), (.bin 0 .or (.t 107) (.t 111)), none⟩, ⟨(some 113), (.mv (.t 12)), none⟩, ⟨(some 114), (.bin 0 .and (.t 113) (.c (.int .u8 (63)))), none⟩, ⟨(some 115), (.conv (.int .i32) (.t 114)), none⟩, ⟨(some 116), (.bin 0 .or (.t 112) (.t 115)), none⟩, ⟨(some 2), (.mv (.t 116)), none⟩, ⟨(some 3), (.mv (.c (.int .i64 (4)))), none⟩])
                    .ret))))))))))))))))))), 0⟩

def c86 : CFn := ⟨[(.tmp 4)], (some
  (.seq
   (.reg [⟨(some 4), (.mv (.c (.sl true 0 []))), none⟩])
   (.seq
    (.seq
     (.reg [⟨(some 5), (.mv (.t 1)), none⟩, ⟨(some 6), (.conv (.int .u32) (.t 5)), none⟩, ⟨(some 7), (.bin 0 .leq (.t 6) (.c (.int .u32 (127)))), none⟩])
     (.cond (.t 7)
      (.seq
       (.reg [⟨(some 8), (.mv (.t 0)), none⟩, ⟨(some 9), (.mv (.t 1)), none⟩, ⟨(some 10), (.conv (.int .u8) (.t 9)), none⟩, ⟨(some 11), (.bsl 1 [(.t 10)]), none⟩, ⟨(some 12), (.append 5 1 1 (.t 8) (.t 11)), none⟩, ⟨(some 4), (.mv (.t 12)), none⟩])
       .ret)
      .skip))
    (.seq
     (.reg [⟨(some 13), (.mv (.t 0)), none⟩, ⟨(some 14), (.mv (.t 1)), none⟩, ⟨(some 15), (.callF 100 false [(.t 13), (.t 14)]), none⟩, ⟨(some 4), (.mv (.t 15)), none⟩])
     .ret)))), 0⟩

def c87 : CFn := ⟨[(.tmp 2)], (some
  (.seq
   (.reg [⟨(some 2), (.mv (.c (.bool false))), none⟩])
   (.seq
    (.block 0
     (.seq
      (.reg [⟨(some 4), (.mv (.t 0)), none⟩, ⟨(some 5), (.bin 0 .leq (.c (.int .i32 (0))) (.t 4)), none⟩, ⟨(some 6), (.mv (.t 5)), none⟩, ⟨(some 7), (.mv (.t 0)), (some (6, true))⟩, ⟨(some 8), (.bin 0 .lss (.t 7) (.c (.int .i32 (55296)))), (some (6, true))⟩, ⟨(some 9), (.pick (.t 6) (.t 8) (.c (.bool false))), none⟩, ⟨(some 3), (.mv (.t 9)), none⟩])
      (.cond (.t 3)
       (.seq
        (.reg [⟨(some 2), (.mv (.c (.bool true))), none⟩])
        .ret)
       (.seq
        (.reg [⟨(some 11), (.mv (.t 0)), none⟩, ⟨(some 12), (.bin 0 .lss (.c (.int .i32 (57343))) (.t 11)), none⟩, ⟨(some 13), (.mv (.t 12)), none⟩, ⟨(some 14), (.mv (.t 0)), (some (13, true))⟩, ⟨(some 15), (.bin 0 .leq (.t 14) (.c (.int .i32 (1114111)))), (some (13, true))⟩, ⟨(some 16), (.pick (.t 13) (.t 15) (.c (.bool false))), none⟩, ⟨(some 10), (.mv (.t 16)), none⟩])
        (.cond (.t 10)
         (.seq
          (.reg [⟨(some 2), (.mv (.c (.bool true))), none⟩])
          .ret)
         .skip)))))
    (.seq
     (.reg [⟨(some 2), (.mv (.c (.bool false))), none⟩])
     .ret)))), 0⟩

def c88 : CFn := ⟨[(.tmp 2)], (some
  (.seq
   (.reg [⟨(some 2), (.mv (.c (.int .i64 (0)))), none⟩])
   (.seq
    (.reg [⟨(some 3), (.mv (.t 0)), none⟩, ⟨(some 4), (.bin 0 .add (.t 3) (.c (.int .i64 (16)))), none⟩, ⟨(some 5), (.bin 0 .quo (.t 4) (.c (.int .i64 (8)))), none⟩, ⟨(some 2), (.mv (.t 5)), none⟩])
    .ret))), 0⟩

def c89 : CFn := ⟨[], none, 0⟩

def c90 : CFn := ⟨[], none, 4⟩

def c91 : CFn := ⟨[], none, 0⟩

def c92 : CFn := ⟨[(.tmp 4)], (some
  (.seq
   (.reg [⟨(some 4), (.mv (.c (.int .i64 (0)))), none⟩])
   (.seq
    (.reg [⟨(some 12), (.mv (.t 1)), none⟩, ⟨(some 13), (.callF 101 false [(.t 12)]), none⟩, ⟨(some 11), (.mv (.t 13)), none⟩, ⟨(some 14), (.extract (.t 11) 0), none⟩, ⟨(some 15), (.extract (.t 11) 1), none⟩, ⟨(some 5), (.mv (.t 14)), none⟩, ⟨(some 6), (.mv (.t 15)), none⟩])
    (.seq
     (.reg [⟨(some 16), (.mv (.t 1)), none⟩, ⟨(some 17), (.len true (.t 16)), none⟩, ⟨(some 7), (.mv (.t 17)), none⟩])
     (.seq
      (.reg [⟨(some 8), (.mv (.c (.int .u32 (0)))), none⟩])
      (.seq
       (.seq
        (.reg [⟨(some 9), (.mv (.c (.int .i64 (0)))), none⟩])
        (.block 0
         (.loop
          (.seq
           (.seq
            (.reg [⟨(some 18), (.mv (.t 9)), none⟩, ⟨(some 19), (.mv (.t 7)), none⟩, ⟨(some 20), (.bin 0 .lss (.t 18) (.t 19)), none⟩])
            (.cond (.t 20)
             .skip
             (.exit 0)))
           (.seq
            (.block 1
             (.reg [⟨(some 23), (.mv (.t 8)), none⟩, ⟨(some 24), (.bin 0 .mul (.t 23) (.c (.int .u32 (16777619)))), none⟩, ⟨(some 25), (.mv (.t 0)), none⟩, ⟨(some 26), (.mv (.t 9)), none⟩, ⟨(some 27), (.idxStr (.t 25) (.t 26)), none⟩, ⟨(some 28), (.conv (.int .u32) (.t 27)), none⟩, ⟨(some 29), (.bin 0 .add (.t 24) (.t 28)), none⟩, ⟨(some 8), (.mv (.t 29)), none⟩]))
            (.reg [⟨(some 21), (.mv (.t 9)), none⟩, ⟨(some 22), (.bin 0 .add (.t 21) (.c (.int .i64 (1)))), none⟩, ⟨(some 9), (.mv (.t 22)), none⟩]))))))
       (.seq
        (.seq
         (.reg [⟨(some 30), (.mv (.t 8)), none⟩, ⟨(some 31), (.mv (.t 5)), none⟩, ⟨(some 32), (.bin 0 .eql (.t 30) (.t 31)), none⟩, ⟨(some 33), (.mv (.t 32)), none⟩, ⟨(some 34), (.mv (.t 0)), (some (33, true))⟩, ⟨(some 35), (.mv (.t 7)), (some (33, true))⟩, ⟨(some 36), (.sliceStr (.t 34) none (some (.t 35))), (some (33, true))⟩, ⟨(some 37), (.mv (.t 1)), (some (33, true))⟩, ⟨(some 38), (.bin 0 .eql (.t 36) (.t 37)), (some (33, true))⟩, ⟨(some 39), (.pick (.t 33) (.t 38) (.c (.bool false))), none⟩])
         (.cond (.t 39)
          (.seq
           (.reg [⟨(some 4), (.mv (.c (.int .i64 (0)))), none⟩])
           .ret)
          .skip))
        (.seq
         (.seq
          (.reg [⟨(some 40), (.mv (.t 7)), none⟩, ⟨(some 10), (.mv (.t 40)), none⟩])
          (.block 2
           (.loop
            (.seq
             (.seq
              (.reg [⟨(some 41), (.mv (.t 10)), none⟩, ⟨(some 42), (.mv (.t 0)), none⟩, ⟨(some 43), (.len true (.t 42)), none⟩, ⟨(some 44), (.bin 0 .lss (.t 41) (.t 43)), none⟩])
              (.cond (.t 44)
               .skip
               (.exit 2)))
             (.block 3
              (.seq
               (.reg [⟨(some 45), (.mv (.t 8)), none⟩, ⟨(some 46), (.bin 0 .mul (.t 45) (.c (.int .u32 (16777619)))), none⟩, ⟨(some 8), (.mv (.t 46)), none⟩])
               (.seq
                (.reg [⟨(some 47), (.mv (.t 8)), none⟩, ⟨(some 48), (.mv (.t 0)), none⟩, ⟨(some 49), (.mv (.t 10)), none⟩, ⟨(some 50), (.idxStr (.t 48) (.t 49)), none⟩, ⟨(some 51), (.conv (.int .u32) (.t 50)), none⟩, ⟨(some 52), (.bin 0 .add (.t 47) (.t 51)), none⟩, ⟨(some 8), (.mv (.t 52)), none⟩])
                (.seq
                 (.reg [⟨(some 53), (.mv (.t 8)), none⟩, ⟨(some 54), (.mv (.t 6)), none⟩, ⟨(some 55), (.mv (.t 0)), none⟩, ⟨(some 56), (.mv (.t 10)), none⟩, ⟨(some 57), (.mv (.t 7)), none⟩, ⟨(some 58), (.bin 0 .sub (.t 56) (.t 57)), none⟩, ⟨(some 59), (.idxStr (.t 55) (.t 58)), none⟩, ⟨(some 60), (.conv (.int .u32) (.t 59)), none⟩, ⟨(some 61), (.bin 0 .mul (.t 54) (.t 60)), none⟩, ⟨(some 62), (.bin 0 .sub (.t 53) (.t 61)), none⟩, ⟨(some 8), (.mv (.t 62)), none⟩])
                 (.seq
                  (.reg [⟨(some 63), (.mv (.t 10)), none⟩, ⟨(some 64), (.bin 0 .add (.t 63) (.c (.int .i64 (1)))), none⟩, ⟨(some 10), (.mv (.t 64)), none⟩])
                  (.seq
                   (.reg [⟨(some 65), (.mv (.t 8)), none⟩, ⟨(some 66), (.mv (.t 5)), none⟩, ⟨(some 67), (.bin 0 .eql (.t 65) (.t 66)), none⟩, ⟨(some 68), (.mv (.t 67)), none⟩, ⟨(some 69), (.mv (.t 0)), (some (68, true))⟩, ⟨(some 70), (.mv (.t 10)), (some (68, true))⟩, ⟨(some 71), (.mv (.t 7)), (some (68, true))⟩, ⟨(some 72), (.bin 0 .sub (.t 70) (.t 71)), (some (68, true))⟩, ⟨(some 73), (.mv (.t 10)), (some (68, true))⟩, ⟨(some 74), (.sliceStr (.t 69) (some (.t 72)) (some (.t 73))), (some (68, true))⟩, ⟨(some 75), (.mv (.t 1)), (some (68, true))⟩, ⟨(some 76), (.bin 0 .eql (.t 74) (.t 75)), (some (68, true))⟩, ⟨(some 77), (.pick (.t 68) (.t 76) (.c (.bool false))), none⟩])
                   (.cond (.t 77)
                    (.seq
                     (.reg [⟨(some 78), (.mv (.t 10)), none⟩, ⟨(some 79), (.mv (.t 7)), none⟩, ⟨(some 80), (.bin 0 .sub (.t 78) (.t 79)), none⟩, ⟨(some 4), (.mv (.t 80)), none⟩])
                     .ret)
                    .skip)))))))))))
         (.seq
          (.reg [⟨(some 4), (.mv (.c (.int .i64 (-1)))), none⟩])
          .ret))))))))), 0⟩

def c93 : CFn := ⟨[(.tmp 2)], (some
  (.seq
   (.reg [⟨(some 2), (.mv (.c (.sl true 0 []))), none⟩])
   (.seq
    (.reg [⟨(some 3), (.mv (.c (.sl true 0 []))), none⟩])
    (.seq
     (.block 0
      (.loop
       (.seq
        (.seq
         (.reg [⟨(some 6), (.mv (.t 0)), none⟩, ⟨(some 7), (.len false (.t 6)), none⟩, ⟨(some 8), (.bin 0 .gtr (.t 7) (.c (.int .i64 (0)))), none⟩])
         (.cond (.t 8)
          .skip
          (.exit 0)))
        (.block 1
         (.seq
          (.reg [⟨(some 10), (.mv (.t 0)), none⟩, ⟨(some 11), (.callF 102 false [(.t 10)]), none⟩, ⟨(some 9), (.mv (.t 11)), none⟩, ⟨(some 12), (.extract (.t 9) 0), none⟩, ⟨(some 13), (.extract (.t 9) 1), none⟩, ⟨(some 4), (.mv (.t 12)), none⟩, ⟨(some 5), (.mv (.t 13)), none⟩])
          (.seq
           (.reg [⟨(some 14), (.mv (.t 3)), none⟩, ⟨(some 15), (.mv (.t 4)), none⟩, ⟨(some 16), (.bsl 1 [(.t 15)]), none⟩, ⟨(some 17), (.append 21 1 4 (.t 14) (.t 16)), none⟩, ⟨(some 3), (.mv (.t 17)), none⟩])
           (.reg [⟨(some 18), (.mv (.t 0)), none⟩, ⟨(some 19), (.mv (.t 5)), none⟩, ⟨(some 20), (.slice 1 (.t 18) (some (.t 19)) none none), none⟩, ⟨(some 0), (.mv (.t 20)), none⟩])))))))
     (.seq
      (.reg [⟨(some 21), (.mv (.t 3)), none⟩, ⟨(some 2), (.mv (.t 21)), none⟩])
      .ret))))), 0⟩

def c94 : CFn := ⟨[], (some
  (.reg [⟨(some 6), (.mv (.t 0)), none⟩, ⟨(some 7), (.mv (.t 0)), none⟩, ⟨(some 8), (.nilCheck (.t 7)), none⟩, ⟨(some 9), (.fld 2 (.t 8)), none⟩, ⟨(some 10), (.load false 1 (.t 9)), none⟩, ⟨(some 11), (.mv (.t 1)), none⟩, ⟨(some 12), (.mv (.t 2)), none⟩, ⟨(some 13), (.build [(.int .i64 (0)), (.int .i32 (0))] [(0, (1, (.t 11))), (1, (1, (.t 12)))]), none⟩, ⟨(some 14), (.bsl 2 [(.t 13)]), none⟩, ⟨(some 15), (.append 135 2 16 (.t 10) (.t 14)), none⟩, ⟨(some 16), (.nilCheck (.t 6)), none⟩, ⟨(some 17), (.fld 2 (.t 16)), none⟩, ⟨none, (.store 1 (.t 17) (.t 15)), none⟩])), 0⟩

def c95 : CFn := ⟨[(.tmp 4)], (some
  (.seq
   (.reg [⟨(some 4), (.mv (.c (.bool false))), none⟩])
   (.seq
    (.seq
     (.dreg [⟨⟨(some 6), (.mv (.t 0)), none⟩, 0, false⟩, ⟨⟨(some 7), (.nilCheck (.t 6)), none⟩, 0, false⟩, ⟨⟨(some 8), (.fld 1 (.t 7)), none⟩, 0, false⟩, ⟨⟨(some 9), (.load false 1 (.t 8)), none⟩, 0, false⟩, ⟨⟨(some 10), (.mv (.t 0)), none⟩, 0, false⟩, ⟨⟨(some 11), (.nilCheck (.t 10)), none⟩, 0, false⟩, ⟨⟨(some 12), (.fld 0 (.t 11)), none⟩, 0, false⟩, ⟨⟨(some 13), (.load false 1 (.t 12)), none⟩, 0, false⟩, ⟨⟨(some 14), (.len false (.t 13)), none⟩, 0, false⟩, ⟨⟨(some 15), (.bin 0 .eql (.t 9) (.t 14)), none⟩, 0, false⟩] [])
     (.cond (.t 15)
      (.seq
       (.reg [⟨(some 16), (.mv (.t 0)), none⟩, ⟨(some 17), (.mv (.t 1)), none⟩, ⟨(some 18), (.callF 97 true [(.t 16), (.c (.int .i64 (1))), (.t 17)]), none⟩])
       (.seq
        (.reg [⟨(some 4), (.mv (.c (.bool false))), none⟩])
        .ret))
      .skip))
    (.seq
     (.dreg [⟨⟨(some 19), (.mv (.t 0)), none⟩, 0, false⟩, ⟨⟨(some 20), (.nilCheck (.t 19)), none⟩, 0, false⟩, ⟨⟨(some 21), (.fld 0 (.t 20)), none⟩, 0, false⟩, ⟨⟨(some 22), (.load false 1 (.t 21)), none⟩, 0, false⟩, ⟨⟨(some 23), (.mv (.t 0)), none⟩, 0, false⟩, ⟨⟨(some 24), (.nilCheck (.t 23)), none⟩, 0, false⟩, ⟨⟨(some 25), (.fld 1 (.t 24)), none⟩, 0, false⟩, ⟨⟨(some 26), (.load false 1 (.t 25)), none⟩, 0, false⟩, ⟨⟨(some 27), (.idxS 1 (.t 22) (.t 26)), none⟩, 0, false⟩, ⟨⟨(some 28), (.load false 1 (.t 27)), none⟩, 0, false⟩, ⟨⟨(some 5), (.mv (.t 28)), none⟩, 0, false⟩] [])
     (.seq
      (.reg [⟨(some 29), (.mv (.t 0)), none⟩, ⟨(some 30), (.nilCheck (.t 29)), none⟩, ⟨(some 31), (.fld 1 (.t 30)), none⟩, ⟨(some 32), (.load false 1 (.t 31)), none⟩, ⟨(some 33), (.bin 0 .add (.t 32) (.c (.int .i64 (1)))), none⟩, ⟨(some 34), (.nilCheck (.t 29)), none⟩, ⟨(some 35), (.fld 1 (.t 34)), none⟩, ⟨none, (.store 1 (.t 35) (.t 33)), none⟩])
      (.seq
       (.seq
        (.reg [⟨(some 36), (.mv (.t 5)), none⟩])
        (.block 0
         (.seq
          (.seq
           (.reg [⟨(some 41), (.bin 0 .eql (.t 36) (.c (.int .i32 (92)))), none⟩, ⟨(some 40), (.mv (.t 41)), none⟩])
           (.cond (.t 40)
            .skip
            (.reg [⟨(some 42), (.bin 0 .eql (.t 36) (.c (.int .i32 (101)))), none⟩, ⟨(some 40), (.mv (.t 42)), none⟩])))
          (.cond (.t 40)
           (.reg [⟨(some 43), (.mv (.t 0)), none⟩, ⟨(some 44), (.callF 94 true [(.t 43), (.c (.int .i64 (1))), (.c (.int .i32 (92)))]), none⟩])
           (.seq
            (.seq
             (.reg [⟨(some 46), (.bin 0 .eql (.t 36) (.c (.int .i32 (45)))), none⟩, ⟨(some 45), (.mv (.t 46)), none⟩])
             (.cond (.t 45)
              .skip
              (.reg [⟨(some 47), (.bin 0 .eql (.t 36) (.c (.int .i32 (46)))), none⟩, ⟨(some 45), (.mv (.t 47)), none⟩])))
            (.cond (.t 45)
             (.reg [⟨(some 48), (.mv (.t 0)), none⟩, ⟨(some 49), (.mv (.t 5)), none⟩, ⟨(some 50), (.callF 94 true [(.t 48), (.c (.int .i64 (1))), (.t 49)]), none⟩])
             (.seq
              (.reg [⟨(some 52), (.bin 0 .eql (.t 36) (.c (.int .i32 (39)))), none⟩, ⟨(some 51), (.mv (.t 52)), none⟩])
              (.cond (.t 51)
               (.reg [⟨(some 53), (.mv (.t 0)), none⟩, ⟨(some 54), (.callF 94 true [(.t 53), (.c (.int .i64 (1))), (.c (.int .i32 (180)))]), none⟩])
               (.seq
                (.reg [⟨(some 56), (.bin 0 .eql (.t 36) (.c (.int .i32 (96)))), none⟩, ⟨(some 55), (.mv (.t 56)), none⟩])
                (.cond (.t 55)
                 (.reg [⟨(some 57), (.mv (.t 0)), none⟩, ⟨(some 58), (.mv (.t 5)), none⟩, ⟨(some 59), (.callF 94 true [(.t 57), (.c (.int .i64 (1))), (.t 58)]), none⟩])
                 (.seq
                  (.seq
                   (.reg [⟨(some 61), (.bin 0 .eql (.t 36) (.c (.int .i32 (32)))), none⟩, ⟨(some 60), (.mv (.t 61)), none⟩])
                   (.cond (.t 60)
                    .skip
                    (.seq
                     (.reg [⟨(some 62), (.bin 0 .eql (.t 36) (.c (.int .i32 (126)))), none⟩, ⟨(some 60), (.mv (.t 62)), none⟩])
                     (.cond (.t 60)
                      .skip
                      (.reg [⟨(some 63), (.bin 0 .eql (.t 36) (.c (.int .i32 (48)))), none⟩, ⟨(some 60), (.mv (.t 63)), none⟩])))))
                  (.cond (.t 60)
                   (.reg [⟨(some 64), (.mv (.t 0)), none⟩, ⟨(some 65), (.callF 94 true [(.t 64), (.c (.int .i64 (1))), (.c (.int .i32 (160)))]), none⟩])
                   (.seq
                    (.seq
                     (.reg [⟨(some 67), (.bin 0 .eql (.t 36) (.c (.int .i32 (38)))), none⟩, ⟨(some 66), (.mv (.t 67)), none⟩])
                     (.cond (.t 66)
                      .skip
                      (.seq
                       (.reg [⟨(some 68), (.bin 0 .eql (.t 36) (.c (.int .i32 (37)))), none⟩, ⟨(some 66), (.mv (.t 68)), none⟩])
                       (.cond (.t 66)
                        .skip
                        (.seq
                         (.reg [⟨(some 69), (.bin 0 .eql (.t 36) (.c (.int .i32 (47)))), none⟩, ⟨(some 66), (.mv (.t 69)), none⟩])
                         (.cond (.t 66)
                          .skip
                          (.seq
                           (.reg [⟨(some 70), (.bin 0 .eql (.t 36) (.c (.int .i32 (44)))), none⟩, ⟨(some 66), (.mv (.t 70)), none⟩])
                           (.cond (.t 66)
                            .skip
                            (.reg [⟨(some 71), (.bin 0 .eql (.t 36) (.c (.int .i32 (58)))), none⟩, ⟨(some 66), (.mv (.t 71)), none⟩])))))))))
                    (.cond (.t 66)
                     .skip
                     (.seq
                      (.reg [⟨(some 73), (.bin 0 .eql (.t 36) (.c (.int .i32 (34)))), none⟩, ⟨(some 72), (.mv (.t 73)), none⟩])
                      (.cond (.t 72)
                       (.seq
                        (.reg [⟨(some 4), (.mv (.c (.bool false))), none⟩])
                        .ret)
                       (.seq
                        (.seq
                         (.reg [⟨(some 75), (.bin 0 .eql (.t 36) (.c (.int .i32 (40)))), none⟩, ⟨(some 74), (.mv (.t 75)), none⟩])
                         (.cond (.t 74)
                          .skip
                          (.reg [⟨(some 76), (.bin 0 .eql (.t 36) (.c (.int .i32 (91)))), none⟩, ⟨(some 74), (.mv (.t 76)), none⟩])))
                        (.cond (.t 74)
                         (.seq
                          (.reg [⟨(some 77), (.mv (.t 0)), none⟩, ⟨(some 78), (.nilCheck (.t 77)), none⟩, ⟨(some 79), (.fld 1 (.t 78)), none⟩, ⟨(some 80), (.load false 1 (.t 79)), none⟩, ⟨(some 81), (.bin 0 .sub (.t 80) (.c (.int .i64 (1)))), none⟩, ⟨(some 82), (.nilCheck (.t 77)), none⟩, ⟨(some 83), (.fld 1 (.t 82)), none⟩, ⟨none, (.store 1 (.t 83) (.t 81)), none⟩])
                          (.seq
                           (.reg [⟨(some 84), (.mv (.t 0)), none⟩, ⟨(some 85), (.mv (.t 1)), none⟩, ⟨(some 86), (.callF 103 true [(.t 84), (.c (.bool false)), (.t 85)]), none⟩, ⟨(some 4), (.mv (.t 86)), none⟩])
                           .ret))
                         (.seq
                          (.reg [⟨(some 88), (.bin 0 .eql (.t 36) (.c (.int .i32 (102)))), none⟩, ⟨(some 87), (.mv (.t 88)), none⟩])
                          (.cond (.t 87)
                           (.seq
                            (.reg [⟨(some 89), (.mv (.t 0)), none⟩, ⟨(some 90), (.mv (.t 1)), none⟩, ⟨(some 91), (.callF 103 true [(.t 89), (.c (.bool true)), (.t 90)]), none⟩, ⟨(some 4), (.mv (.t 91)), none⟩])
                            .ret)
                           (.reg [⟨(some 37), (.mv (.t 0)), none⟩, ⟨(some 38), (.mv (.t 1)), none⟩, ⟨(some 39), (.callF 97 true [(.t 37), (.c (.int .i64 (1))), (.t 38)]), none⟩])))))))))))))))))))))
       (.seq
        (.reg [⟨(some 4), (.mv (.c (.bool true))), none⟩])
        .ret))))))), 0⟩

def c96 : CFn := ⟨[(.tmp 2)], (some
  (.seq
   (.reg [⟨(some 2), (.mv (.c (.bool false))), none⟩])
   (.seq
    (.block 0
     (.seq
      (.block 2
       (.block 1
        (.seq
         (.seq
          (.seq
           (.seq
            (.reg [⟨(some 4), (.mv (.t 0)), none⟩, ⟨(some 5), (.bin 0 .geq (.t 4) (.c (.int .i32 (0)))), none⟩, ⟨(some 6), (.mv (.t 5)), none⟩, ⟨(some 7), (.mv (.t 0)), (some (6, true))⟩, ⟨(some 8), (.bin 0 .lss (.t 7) (.c (.int .i32 (32)))), (some (6, true))⟩, ⟨(some 9), (.pick (.t 6) (.t 8) (.c (.bool false))), none⟩, ⟨(some 3), (.mv (.t 9)), none⟩])
            (.cond (.t 3)
             .skip
             (.reg [⟨(some 10), (.mv (.t 0)), none⟩, ⟨(some 11), (.bin 0 .geq (.t 10) (.c (.int .i32 (127)))), none⟩, ⟨(some 12), (.mv (.t 11)), none⟩, ⟨(some 13), (.mv (.t 0)), (some (12, true))⟩, ⟨(some 14), (.bin 0 .leq (.t 13) (.c (.int .i32 (159)))), (some (12, true))⟩, ⟨(some 15), (.pick (.t 12) (.t 14) (.c (.bool false))), none⟩, ⟨(some 3), (.mv (.t 15)), none⟩])))
           (.cond (.t 3)
            (.exit 1)
            .skip))
          (.seq
           (.seq
            (.reg [⟨(some 17), (.mv (.t 0)), none⟩, ⟨(some 18), (.bin 0 .eql (.t 17) (.c (.int .i32 (8232)))), none⟩, ⟨(some 16), (.mv (.t 18)), none⟩])
            (.cond (.t 16)
             .skip
             (.reg [⟨(some 19), (.mv (.t 0)), none⟩, ⟨(some 20), (.bin 0 .eql (.t 19) (.c (.int .i32 (8233)))), none⟩, ⟨(some 16), (.mv (.t 20)), none⟩])))
           (.cond (.t 16)
            (.exit 2)
            .skip)))
         (.exit 0))))
      (.seq
       (.seq
        (.reg [⟨(some 2), (.mv (.c (.bool true))), none⟩])
        .ret)
       (.exit 0))))
    (.seq
     (.reg [⟨(some 2), (.mv (.c (.bool false))), none⟩])
     .ret)))), 0⟩

def c97 : CFn := ⟨[], (some
  (.reg [⟨(some 6), (.mv (.t 0)), none⟩, ⟨(some 7), (.mv (.t 0)), none⟩, ⟨(some 8), (.nilCheck (.t 7)), none⟩, ⟨(some 9), (.fld 3 (.t 8)), none⟩, ⟨(some 10), (.load false 1 (.t 9)), none⟩, ⟨(some 11), (.mv (.t 1)), none⟩, ⟨(some 12), (.mv (.t 2)), none⟩, ⟨(some 13), (.bin 0 .add (.t 12) (.c (.int .i64 (1)))), none⟩, ⟨(some 14), (.build [(.int .i64 (0)), (.int .i64 (0)), (.int .i64 (0))] [(0, (1, (.t 11))), (2, (1, (.t 13)))]), none⟩, ⟨(some 15), (.bsl 3 [(.t 14)]), none⟩, ⟨(some 16), (.append 41 3 24 (.t 10) (.t 15)), none⟩, ⟨(some 17), (.nilCheck (.t 6)), none⟩, ⟨(some 18), (.fld 3 (.t 17)), none⟩, ⟨none, (.store 1 (.t 18) (.t 16)), none⟩])), 0⟩

def c98 : CFn := ⟨[(.cell 4 true 2)], (some
  (.seq
   (.reg [⟨(some 2), (.box 2 102 (.t 0)), none⟩, ⟨(some 4), (.alloc (.agg [(.int .u8 (0)), (.int .u8 (0))]) 2 102), none⟩])
   (.seq
    (.seq
     (.reg [⟨(some 5), (.mv (.t 1)), none⟩])
     (.block 0
      (.seq
       (.block 3
        (.block 2
         (.seq
          (.block 1
           (.seq
            (.seq
             (.seq
              (.reg [⟨(some 7), (.bin 0 .eql (.t 5) (.c (.int .i32 (4)))), none⟩, ⟨(some 6), (.mv (.t 7)), none⟩])
              (.cond (.t 6)
               (.exit 1)
               .skip))
             (.seq
              (.seq
               (.seq
                (.reg [⟨(some 9), (.bin 0 .eql (.t 5) (.c (.int .i32 (0)))), none⟩, ⟨(some 8), (.mv (.t 9)), none⟩])
                (.cond (.t 8)
                 .skip
                 (.reg [⟨(some 10), (.bin 0 .eql (.t 5) (.c (.int .i32 (1)))), none⟩, ⟨(some 8), (.mv (.t 10)), none⟩])))
               (.cond (.t 8)
                (.exit 2)
                .skip))
              (.seq
               (.seq
                (.reg [⟨(some 12), (.bin 0 .eql (.t 5) (.c (.int .i32 (2)))), none⟩, ⟨(some 11), (.mv (.t 12)), none⟩])
                (.cond (.t 11)
                 .skip
                 (.reg [⟨(some 13), (.bin 0 .eql (.t 5) (.c (.int .i32 (3)))), none⟩, ⟨(some 11), (.mv (.t 13)), none⟩])))
               (.cond (.t 11)
                (.exit 3)
                .skip))))
            (.exit 0)))
          (.seq
           (.seq
            (.reg [⟨(some 14), (.fld 1 (.t 2)), none⟩, ⟨(some 15), (.load false 1 (.t 14)), none⟩, ⟨(some 16), (.fld 0 (.t 2)), none⟩, ⟨(some 17), (.load false 1 (.t 16)), none⟩, ⟨(some 18), (.build [(.int .u8 (0)), (.int .u8 (0))] [(0, (1, (.t 15))), (1, (1, (.t 17)))]), none⟩, ⟨none, (.store 2 (.t 4) (.t 18)), none⟩])
            .ret)
           (.exit 0)))))
       (.seq
        (.seq
         (.reg [⟨(some 19), (.mv (.t 1)), none⟩, ⟨(some 20), (.conv (.int .u8) (.t 19)), none⟩, ⟨(some 21), (.fld 0 (.t 2)), none⟩, ⟨(some 22), (.load false 1 (.t 21)), none⟩, ⟨(some 23), (.build [(.int .u8 (0)), (.int .u8 (0))] [(0, (1, (.t 20))), (1, (1, (.t 22)))]), none⟩, ⟨none, (.store 2 (.t 4) (.t 23)), none⟩])
         .ret)
        (.exit 0)))))
    (.seq
     (.reg [⟨(some 24), (.load true 2 (.t 2)), none⟩, ⟨none, (.store 2 (.t 4) (.t 24)), none⟩])
     .ret)))), 0⟩

def c99 : CFn := ⟨[(.tmp 4)], (some
  (.seq
   (.reg [⟨(some 4), (.mv (.c (.sl true 0 []))), none⟩])
   (.seq
    (.seq
     (.reg [⟨(some 5), (.mv (.t 1)), none⟩, ⟨(some 6), (.bin 0 .lss (.t 5) (.c (.int .i64 (0)))), none⟩])
     (.cond (.t 6)
      (.reg [⟨(some 7), .iface, none⟩, ⟨none, .bad, none⟩])
      .skip))
    (.seq
     (.seq
      (.reg [⟨(some 8), (.mv (.t 1)), none⟩, ⟨(some 9), (.mv (.t 0)), none⟩, ⟨(some 10), (.cap (.t 9)), none⟩, ⟨(some 11), (.mv (.t 0)), none⟩, ⟨(some 12), (.len false (.t 11)), none⟩, ⟨(some 13), (.bin 0 .sub (.t 10) (.t 12)), none⟩, ⟨(some 14), (.bin 0 .sub (.t 8) (.t 13)), none⟩, ⟨(some 1), (.mv (.t 14)), none⟩])
      (.seq
       (.reg [⟨(some 15), (.mv (.t 1)), none⟩, ⟨(some 16), (.bin 0 .gtr (.t 15) (.c (.int .i64 (0)))), none⟩])
       (.cond (.t 16)
        (.reg [⟨(some 17), (.mv (.t 0)), none⟩, ⟨(some 18), (.mv (.t 0)), none⟩, ⟨(some 19), (.cap (.t 18)), none⟩, ⟨(some 20), (.slice 2 (.t 17) none (some (.t 19)) none), none⟩, ⟨(some 21), (.mv (.t 1)), none⟩, ⟨(some 22), (.appendZ 54 2 8 (.agg [(.int .i32 (0)), (.int .u8 (0))]) (.t 20) (.t 21)), none⟩, ⟨(some 23), (.mv (.t 0)), none⟩, ⟨(some 24), (.len false (.t 23)), none⟩, ⟨(some 25), (.slice 2 (.t 22) none (some (.t 24)) none), none⟩, ⟨(some 0), (.mv (.t 25)), none⟩])
        .skip)))
     (.seq
      (.reg [⟨(some 26), (.mv (.t 0)), none⟩, ⟨(some 4), (.mv (.t 26)), none⟩])
      .ret))))), 0⟩

def c100 : CFn := ⟨[(.tmp 4)], (some
  (.seq
   (.reg [⟨(some 4), (.mv (.c (.sl true 0 []))), none⟩])
   (.seq
    (.reg [⟨(some 6), (.mv (.t 1)), none⟩, ⟨(some 7), (.conv (.int .u32) (.t 6)), none⟩, ⟨(some 5), (.mv (.t 7)), none⟩])
    (.block 0
     (.seq
      (.reg [⟨(some 12), (.mv (.t 5)), none⟩, ⟨(some 13), (.bin 0 .leq (.t 12) (.c (.int .u32 (2047)))), none⟩, ⟨(some 11), (.mv (.t 13)), none⟩])
      (.cond (.t 11)
       (.seq
        (.reg [⟨(some 14), (.mv (.t 0)), none⟩, ⟨(some 15), (.mv (.t 1)), none⟩, ⟨(some 16), (.bin 0 .shr (.t 15) (.c (.int .u64 (6)))), none⟩, ⟨(some 17), (.conv (.int .u8) (.t 16)), none⟩, ⟨(some 18), (.bin 0 .or (.c (.int .u8 (192))) (.t 17)), none⟩, ⟨(some 19), (.mv (.t 1)), none⟩, ⟨(some 20), (.conv (.int .u8) (.t 19)), none⟩, ⟨(some 21), (.bin 0 .and (.t 20) (.c (.int .u8 (63)))), none⟩, ⟨(some 22), (.bin 0 .or (.c (.int .u8 (128))) (.t 21)), none⟩, ⟨(some 23), (.bsl 1 [(.t 18), (.t 22)]), none⟩, ⟨(some 24), (.append 5 1 1 (.t 14) (.t 23)), none⟩, ⟨(some 4), (.mv (.t 24)), none⟩])
        .ret)
       (.seq
        (.seq
         (.reg [⟨(some 26), (.mv (.t 5)), none⟩, ⟨(some 27), (.bin 0 .lss (.t 26) (.c (.int .u32 (55296)))), none⟩, ⟨(some 25), (.mv (.t 27)), none⟩])
         (.cond (.t 25)
          .skip
          (.reg [⟨(some 28), (.mv (.t 5)), none⟩, ⟨(some 29), (.bin 0 .lss (.c (.int .u32 (57343))) (.t 28)), none⟩, ⟨(some 30), (.mv (.t 29)), none⟩, ⟨(some 31), (.mv (.t 5)), (some (30, true))⟩, ⟨(some 32), (.bin 0 .leq (.t 31) (.c (.int .u32 (65535)))), (some (30, true))⟩, ⟨(some 33), (.pick (.t 30) (.t 32) (.c (.bool false))), none⟩, ⟨(some 25), (.mv (.t 33)), none⟩])))
        (.cond (.t 25)
         (.seq
          (.reg [⟨(some 34), (.mv (.t 0)), none⟩, ⟨(some 35), (.mv (.t 1)), none⟩, ⟨(some 36), (.bin 0 .shr (.t 35) (.c (.int .u64 (12)))), none⟩, ⟨(some 37), (.conv (.int .u8) (.t 36)), none⟩, ⟨(some 38), (.bin 0 .or (.c (.int .u8 (224))) (.t 37)), none⟩, ⟨(some 39), (.mv (.t 1)), none⟩, ⟨(some 40), (.bin 0 .shr (.t 39) (.c (.int .u64 (6)))), none⟩, ⟨(some 41), (.conv (.int .u8) (.t 40)), none⟩, ⟨(some 42), (.bin 0 .and (.t 41) (.c (.int .u8 (63)))), none⟩, ⟨(some 43), (.bin 0 .or (.c (.int .u8 (128))) (.t 42)), none⟩, ⟨(some 44), (.mv (.t 1)), none⟩, ⟨(some 45), (.conv (.int .u8) (.t 44)), none⟩, ⟨(some 46), (.bin 0 .and (.t 45) (.c (.int .u8 (63)))), none⟩, ⟨(some 47), (.bin 0 .or (.c (.int .u8 (128))) (.t 46)), none⟩, ⟨(some 48), (.bsl 1 [(.t 38), (.t 43), (.t 47)]), none⟩, ⟨(some 49), (.append 5 1 1 (.t 34) (.t 48)), none⟩, ⟨(some 4), (.mv (.t 49)), none⟩])
          .ret)
         (.seq
          (.reg [⟨(some 51), (.mv (.t 5)), none⟩, ⟨(some 52), (.bin 0 .gtr (.t 51) (.c (.int .u32 (65535)))), none⟩, ⟨(some 53), (.mv (.t 52)), none⟩, ⟨(some 54), (.mv (.t 5)), (some (53, true))⟩, ⟨(some 55), (.bin 0 .leq (.t 54) (.c (.int .u32 (1114111)))), (some (53, true))⟩, ⟨(some 56), (.pick (.t 53) (.t 55) (.c (.bool false))), none⟩, ⟨(some 50), (.mv (.t 56)), none⟩])
          (.cond (.t 50)
           (.seq
            (.reg [⟨(some 57), (.mv (.t 0)), none⟩, ⟨(some 58), (.mv (.t 1)), none⟩, ⟨(some 59), (.bin 0 .shr (.t 58) (.c (.int .u64 (18)))), none⟩, ⟨(some 60), (.conv (.int .u8) (.t 59)), none⟩, ⟨(some 61), (.bin 0 .or (.c (.int .u8 (240))) (.t 60)), none⟩, ⟨(some 62), (.mv (.t 1)), none⟩, ⟨(some 63), (.bin 0 .shr (.t 62) (.c (.int .u64 (12)))), none⟩, ⟨(some 64), (.conv (.int .u8) (.t 63)), none⟩, ⟨(some 65), (.bin 0 .and (.t 64) (.c (.int .u8 (63)))), none⟩, ⟨(some 66), (.bin 0 .or (.c (.int .u8 (128))) (.t 65)), none⟩, ⟨(some 67), (.mv (.t 1)), none⟩, ⟨(some 68), (.bin 0 .shr (.t 67) (.c (.int .u64 (6)))), none⟩, ⟨(some 69), (.conv (.int .u8) (.t 68)), none⟩, ⟨(some 70), (.bin 0 .and (.t 69) (.c (.int .u8 (63)))), none⟩, ⟨(some 71), (.bin 0 .or (.c (.int .u8 (128))) (.t 70)), none⟩, ⟨(some 72), (.mv (.t 1)), none⟩, ⟨(some 73), (.conv (.int .u8) (.t 72)), none⟩, ⟨(some 74), (.bin 0 .and (.t 73) (.c (.int .u8 (63)))), none⟩, ⟨(some 75), (.bin 0 .or (.c (.int .u8 (128))) (.t 74)), none⟩, ⟨(some 76), (.bsl 1 [(.t 61), (.t 66), (.t 71), (.t 75)]), none⟩, ⟨(some 77), (.append 5 1 1 (.t 57) (.t 76)), none⟩, ⟨(some 4), (.mv (.t 77)), none⟩])
            .ret)
           (.seq
            (.reg [⟨(some 8), (.mv (.t 0)), none⟩, ⟨(some 9), (.bsl 1 [(.c (.int .u8 (239))), (.c (.int .u8 (191))), (.c (.int .u8 (189)))]), none⟩, ⟨(some 10), (.append 5 1 1 (.t 8) (.t 9)), none⟩, ⟨(some 4), (.mv (.t 10)), none⟩])
            .ret))))))))))), 0⟩

def c101 : CFn := ⟨[(.tmp 2), (.tmp 3)], (some
  (.seq
   (.reg [⟨(some 2), (.mv (.c (.int .u32 (0)))), none⟩, ⟨(some 3), (.mv (.c (.int .u32 (0)))), none⟩])
   (.seq
    (.reg [⟨(some 4), (.mv (.c (.int .u32 (0)))), none⟩])
    (.seq
     (.seq
      (.reg [⟨(some 5), (.mv (.c (.int .i64 (0)))), none⟩])
      (.block 0
       (.loop
        (.seq
         (.seq
          (.reg [⟨(some 9), (.mv (.t 5)), none⟩, ⟨(some 10), (.mv (.t 0)), none⟩, ⟨(some 11), (.len true (.t 10)), none⟩, ⟨(some 12), (.bin 0 .lss (.t 9) (.t 11)), none⟩])
          (.cond (.t 12)
           .skip
           (.exit 0)))
         (.seq
          (.block 1
           (.reg [⟨(some 15), (.mv (.t 4)), none⟩, ⟨(some 16), (.bin 0 .mul (.t 15) (.c (.int .u32 (16777619)))), none⟩, ⟨(some 17), (.mv (.t 0)), none⟩, ⟨(some 18), (.mv (.t 5)), none⟩, ⟨(some 19), (.idxStr (.t 17) (.t 18)), none⟩, ⟨(some 20), (.conv (.int .u32) (.t 19)), none⟩, ⟨(some 21), (.bin 0 .add (.t 16) (.t 20)), none⟩, ⟨(some 4), (.mv (.t 21)), none⟩]))
          (.reg [⟨(some 13), (.mv (.t 5)), none⟩, ⟨(some 14), (.bin 0 .add (.t 13) (.c (.int .i64 (1)))), none⟩, ⟨(some 5), (.mv (.t 14)), none⟩]))))))
     (.seq
      (.reg [⟨(some 6), (.mv (.c (.int .u32 (1)))), none⟩, ⟨(some 7), (.mv (.c (.int .u32 (16777619)))), none⟩])
      (.seq
       (.seq
        (.reg [⟨(some 22), (.mv (.t 0)), none⟩, ⟨(some 23), (.len true (.t 22)), none⟩, ⟨(some 8), (.mv (.t 23)), none⟩])
        (.block 2
         (.loop
          (.seq
           (.seq
            (.reg [⟨(some 24), (.mv (.t 8)), none⟩, ⟨(some 25), (.bin 0 .gtr (.t 24) (.c (.int .i64 (0)))), none⟩])
            (.cond (.t 25)
             .skip
             (.exit 2)))
           (.seq
            (.block 3
             (.seq
              (.seq
               (.reg [⟨(some 28), (.mv (.t 8)), none⟩, ⟨(some 29), (.bin 0 .and (.t 28) (.c (.int .i64 (1)))), none⟩, ⟨(some 30), (.bin 0 .neq (.t 29) (.c (.int .i64 (0)))), none⟩])
               (.cond (.t 30)
                (.reg [⟨(some 31), (.mv (.t 6)), none⟩, ⟨(some 32), (.mv (.t 7)), none⟩, ⟨(some 33), (.bin 0 .mul (.t 31) (.t 32)), none⟩, ⟨(some 6), (.mv (.t 33)), none⟩])
                .skip))
              (.reg [⟨(some 34), (.mv (.t 7)), none⟩, ⟨(some 35), (.mv (.t 7)), none⟩, ⟨(some 36), (.bin 0 .mul (.t 34) (.t 35)), none⟩, ⟨(some 7), (.mv (.t 36)), none⟩])))
            (.reg [⟨(some 26), (.mv (.t 8)), none⟩, ⟨(some 27), (.bin 0 .shr (.t 26) (.c (.int .u64 (1)))), none⟩, ⟨(some 8), (.mv (.t 27)), none⟩]))))))
       (.seq
        (.reg [⟨(some 37), (.mv (.t 4)), none⟩, ⟨(some 38), (.mv (.t 6)), none⟩, ⟨(some 2), (.mv (.t 37)), none⟩, ⟨(some 3), (.mv (.t 38)), none⟩])
        .ret))))))), 0⟩

def c102 : CFn := ⟨[(.tmp 2), (.tmp 3)], (some
  (.seq
   (.reg [⟨(some 2), (.mv (.c (.int .i32 (0)))), none⟩, ⟨(some 3), (.mv (.c (.int .i64 (0)))), none⟩])
   (.seq
    (.reg [⟨(some 4), (.mv (.c (.int .i64 (0)))), none⟩, ⟨(some 5), (.mv (.c (.int .i32 (0)))), none⟩])
    (.seq
     (.seq
      (.reg [⟨(some 9), (.mv (.t 0)), none⟩, ⟨(some 10), (.idxS 1 (.t 9) (.c (.int .i64 (0)))), none⟩, ⟨(some 11), (.load false 1 (.t 10)), none⟩, ⟨(some 6), (.mv (.t 11)), none⟩])
      (.block 0
       (.seq
        (.reg [⟨(some 13), (.mv (.t 6)), none⟩, ⟨(some 14), (.bin 0 .lss (.t 13) (.c (.int .u8 (128)))), none⟩, ⟨(some 12), (.mv (.t 14)), none⟩])
        (.cond (.t 12)
         (.seq
          (.reg [⟨(some 15), (.mv (.t 6)), none⟩, ⟨(some 16), (.conv (.int .i32) (.t 15)), none⟩, ⟨(some 2), (.mv (.t 16)), none⟩, ⟨(some 3), (.mv (.c (.int .i64 (1)))), none⟩])
          .ret)
         (.seq
          (.reg [⟨(some 18), (.mv (.t 6)), none⟩, ⟨(some 19), (.bin 0 .and (.t 18) (.c (.int .u8 (224)))), none⟩, ⟨(some 20), (.bin 0 .eql (.t 19) (.c (.int .u8 (192)))), none⟩, ⟨(some 17), (.mv (.t 20)), none⟩])
          (.cond (.t 17)
           (.reg [⟨(some 21), (.mv (.t 6)), none⟩, ⟨(some 22), (.bin 0 .and (.t 21) (.c (.int .u8 (31)))), none⟩, ⟨(some 23), (.conv (.int .i32) (.t 22)), none⟩, ⟨(some 4), (.mv (.c (.int .i64 (2)))), none⟩, ⟨(some 5), (.mv (.t 23)), none⟩])
           (.seq
            (.reg [⟨(some 25), (.mv (.t 6)), none⟩, ⟨(some 26), (.bin 0 .and (.t 25) (.c (.int .u8 (240)))), none⟩, ⟨(some 27), (.bin 0 .eql (.t 26) (.c (.int .u8 (224)))), none⟩, ⟨(some 24), (.mv (.t 27)), none⟩])
            (.cond (.t 24)
             (.reg [⟨(some 28), (.mv (.t 6)), none⟩, ⟨(some 29), (.bin 0 .and (.t 28) (.c (.int .u8 (15)))), none⟩, ⟨(some 30), (.conv (.int .i32) (.t 29)), none⟩, ⟨(some 4), (.mv (.c (.int .i64 (3)))), none⟩, ⟨(some 5), (.mv (.t 30)), none⟩])
             (.seq
              (.reg [⟨(some 32), (.mv (.t 6)), none⟩, ⟨(some 33), (.bin 0 .and (.t 32) (.c (.int .u8 (248)))), none⟩, ⟨(some 34), (.bin 0 .eql (.t 33) (.c (.int .u8 (240)))), none⟩, ⟨(some 31), (.mv (.t 34)), none⟩])
              (.cond (.t 31)
               (.reg [⟨(some 35), (.mv (.t 6)), none⟩, ⟨(some 36), (.bin 0 .and (.t 35) (.c (.int .u8 (7)))), none⟩, ⟨(some 37), (.conv (.int .i32) (.t 36)), none⟩, ⟨(some 4), (.mv (.c (.int .i64 (4)))), none⟩, ⟨(some 5), (.mv (.t 37)), none⟩])
               .skip))))))))))
     (.seq
      (.seq
       (.reg [⟨(some 38), (.mv (.t 4)), none⟩, ⟨(some 39), (.bin 0 .eql (.t 38) (.c (.int .i64 (0)))), none⟩, ⟨(some 40), (.mv (.t 39)), none⟩, ⟨(some 41), (.mv (.t 0)), (some (40, false))⟩, ⟨(some 42), (.len false (.t 41)), (some (40, false))⟩, ⟨(some 43), (.mv (.t 4)), (some (40, false))⟩, ⟨(some 44), (.bin 0 .lss (.t 42) (.t 43)), (some (40, false))⟩, ⟨(some 45), (.pick (.t 40) (.c (.bool true)) (.t 44)), none⟩])
       (.cond (.t 45)
        (.seq
         (.reg [⟨(some 2), (.mv (.c (.int .i32 (65533)))), none⟩, ⟨(some 3), (.mv (.c (.int .i64 (1)))), none⟩])
         .ret)
        .skip))
      (.seq
       (.seq
        (.reg [⟨(some 46), (.mv (.t 0)), none⟩, ⟨(some 47), (.mv (.t 4)), none⟩, ⟨(some 48), (.slice 1 (.t 46) (some (.c (.int .i64 (1)))) (some (.t 47)) none), none⟩, ⟨(some 49), (.len false (.t 48)), none⟩, ⟨(some 50), (.mv (.c (.int .i64 (0)))), none⟩])
        (.block 1
         (.loop
          (.seq
           (.reg [⟨(some 51), (.bin 0 .lss (.t 50) (.t 49)), none⟩])
           (.seq
            (.cond (.t 51)
             .skip
             (.exit 1))
            (.seq
             (.block 2
              (.seq
               (.reg [⟨(some 52), (.idxS 1 (.t 48) (.t 50)), none⟩, ⟨(some 53), (.load false 1 (.t 52)), none⟩, ⟨(some 8), (.mv (.t 53)), none⟩])
               (.seq
                (.seq
                 (.reg [⟨(some 54), (.mv (.t 8)), none⟩, ⟨(some 55), (.bin 0 .and (.t 54) (.c (.int .u8 (192)))), none⟩, ⟨(some 56), (.bin 0 .neq (.t 55) (.c (.int .u8 (128)))), none⟩])
                 (.cond (.t 56)
                  (.seq
                   (.reg [⟨(some 2), (.mv (.c (.int .i32 (65533)))), none⟩, ⟨(some 3), (.mv (.c (.int .i64 (1)))), none⟩])
                   .ret)
                  .skip))
                (.reg [⟨(some 57), (.mv (.t 5)), none⟩, ⟨(some 58), (.bin 0 .shl (.t 57) (.c (.int .u64 (6)))), none⟩, ⟨(some 59), (.mv (.t 8)), none⟩, ⟨(some 60), (.bin 0 .and (.t 59) (.c (.int .u8 (63)))), none⟩, ⟨(some 61), (.conv (.int .i32) (.t 60)), none⟩, ⟨(some 62), (.bin 0 .or (.t 58) (.t 61)), none⟩, ⟨(some 5), (.mv (.t 62)), none⟩]))))
             (.reg [⟨(some 63), (.bin 0 .add (.t 50) (.c (.int .i64 (1)))), none⟩, ⟨(some 50), (.mv (.t 63)), none⟩])))))))
       (.seq
        (.seq
         (.reg [⟨(some 64), (.mv (.t 5)), none⟩, ⟨(some 65), (.callF 104 false [(.t 64)]), none⟩, ⟨(some 66), (.un .not (.t 65)), none⟩, ⟨(some 67), (.mv (.t 66)), none⟩, ⟨(some 68), (.mv (.t 5)), (some (67, false))⟩, ⟨(some 69), (.callF 105 false [(.t 68)]), (some (67, false))⟩, ⟨(some 70), (.mv (.t 4)), (some (67, false))⟩, ⟨(some 71), (.bin 0 .neq (.t 69) (.t 70)), (some (67, false))⟩, ⟨(some 72), (.pick (.t 67) (.c (.bool true)) (.t 71)), none⟩])
         (.cond (.t 72)
          (.seq
           (.reg [⟨(some 2), (.mv (.c (.int .i32 (65533)))), none⟩, ⟨(some 3), (.mv (.c (.int .i64 (1)))), none⟩])
           .ret)
          .skip))
        (.seq
         (.reg [⟨(some 73), (.mv (.t 5)), none⟩, ⟨(some 74), (.mv (.t 4)), none⟩, ⟨(some 2), (.mv (.t 73)), none⟩, ⟨(some 3), (.mv (.t 74)), none⟩])
         .ret)))))))), 0⟩

def c103 : CFn := ⟨[(.tmp 6)], (some
  (.seq
   (.reg [⟨(some 6), (.mv (.c (.bool false))), none⟩])
   (.seq
    (.reg [⟨(some 14), (.mv (.t 0)), none⟩, ⟨(some 15), (.mv (.t 1)), none⟩, ⟨(some 16), (.callF 106 true [(.t 14), (.t 15)]), none⟩, ⟨(some 13), (.mv (.t 16)), none⟩, ⟨(some 17), (.extract (.t 13) 0), none⟩, ⟨(some 18), (.extract (.t 13) 1), none⟩, ⟨(some 7), (.mv (.t 17)), none⟩, ⟨(some 8), (.mv (.t 18)), none⟩])
    (.seq
     (.seq
      (.reg [⟨(some 19), (.mv (.t 8)), none⟩, ⟨(some 20), (.un .not (.t 19)), none⟩])
      (.cond (.t 20)
       (.seq
        (.reg [⟨(some 21), (.mv (.t 0)), none⟩, ⟨(some 22), (.mv (.t 2)), none⟩, ⟨(some 23), (.callF 97 true [(.t 21), (.c (.int .i64 (1))), (.t 22)]), none⟩])
        (.seq
         (.reg [⟨(some 6), (.mv (.c (.bool false))), none⟩])
         .ret))
       .skip))
     (.seq
      (.reg [⟨(some 9), (.mv (.c (.int .i64 (1)))), none⟩, ⟨(some 10), (.mv (.c (.fn 107 [] []))), none⟩])
      (.seq
       (.seq
        (.reg [⟨(some 24), (.mv (.t 1)), none⟩])
        (.cond (.t 24)
         (.reg [⟨(some 9), (.mv (.c (.int .i64 (3)))), none⟩, ⟨(some 10), (.mv (.c (.fn 108 [] []))), none⟩])
         .skip))
       (.seq
        (.seq
         (.reg [⟨(some 26), (.mv (.t 10)), none⟩, ⟨(some 27), (.mv (.t 7)), none⟩, ⟨(some 28), (.callV (.t 26) [(.t 27)]), none⟩, ⟨(some 25), (.mv (.t 28)), none⟩, ⟨(some 29), (.extract (.t 25) 0), none⟩, ⟨(some 30), (.extract (.t 25) 1), none⟩, ⟨(some 11), (.mv (.t 29)), none⟩, ⟨(some 12), (.mv (.t 30)), none⟩])
         (.seq
          (.reg [⟨(some 31), (.mv (.t 12)), none⟩])
          (.cond (.t 31)
           (.reg [⟨(some 32), (.mv (.t 0)), none⟩, ⟨(some 33), (.mv (.t 9)), none⟩, ⟨(some 34), (.mv (.t 11)), none⟩, ⟨(some 35), (.callF 94 true [(.t 32), (.t 33), (.t 34)]), none⟩])
           (.reg [⟨(some 36), (.mv (.t 0)), none⟩, ⟨(some 37), (.mv (.t 2)), none⟩, ⟨(some 38), (.callF 97 true [(.t 36), (.c (.int .i64 (2))), (.t 37)]), none⟩]))))
        (.seq
         (.reg [⟨(some 6), (.mv (.c (.bool true))), none⟩])
         .ret)))))))), 0⟩

def c104 : CFn := ⟨[(.tmp 2)], (some
  (.seq
   (.reg [⟨(some 2), (.mv (.c (.bool false))), none⟩])
   (.seq
    (.reg [⟨(some 3), (.mv (.t 0)), none⟩, ⟨(some 4), (.bin 0 .geq (.t 3) (.c (.int .i32 (0)))), none⟩, ⟨(some 5), (.mv (.t 4)), none⟩, ⟨(some 6), (.mv (.t 0)), (some (5, true))⟩, ⟨(some 7), (.bin 0 .leq (.t 6) (.c (.int .i32 (1114111)))), (some (5, true))⟩, ⟨(some 8), (.pick (.t 5) (.t 7) (.c (.bool false))), none⟩, ⟨(some 9), (.mv (.t 8)), none⟩, ⟨(some 10), (.mv (.t 0)), (some (9, true))⟩, ⟨(some 11), (.bin 0 .lss (.t 10) (.c (.int .i32 (55296)))), (some (9, true))⟩, ⟨(some 12), (.mv (.t 11)), (some (9, true))⟩, ⟨(some 13), (.mv (.t 0)), (some (12, false))⟩, ⟨(some 14), (.bin 0 .gtr (.t 13) (.c (.int .i32 (57343)))), (some (12, false))⟩, ⟨(some 15), (.pick (.t 12) (.c (.bool true)) (.t 14)), (some (9, true))⟩, ⟨(some 16), (.pick (.t 9) (.t 15) (.c (.bool false))), none⟩, ⟨(some 2), (.mv (.t 16)), none⟩])
    .ret))), 0⟩

def c105 : CFn := ⟨[(.tmp 2)], (some
  (.seq
   (.reg [⟨(some 2), (.mv (.c (.int .i64 (0)))), none⟩])
   (.seq
    (.block 0
     (.seq
      (.reg [⟨(some 4), (.mv (.t 0)), none⟩, ⟨(some 5), (.bin 0 .lss (.t 4) (.c (.int .i32 (128)))), none⟩, ⟨(some 3), (.mv (.t 5)), none⟩])
      (.cond (.t 3)
       (.seq
        (.reg [⟨(some 2), (.mv (.c (.int .i64 (1)))), none⟩])
        .ret)
       (.seq
        (.reg [⟨(some 7), (.mv (.t 0)), none⟩, ⟨(some 8), (.bin 0 .lss (.t 7) (.c (.int .i32 (2048)))), none⟩, ⟨(some 6), (.mv (.t 8)), none⟩])
        (.cond (.t 6)
         (.seq
          (.reg [⟨(some 2), (.mv (.c (.int .i64 (2)))), none⟩])
          .ret)
         (.seq
          (.reg [⟨(some 10), (.mv (.t 0)), none⟩, ⟨(some 11), (.bin 0 .lss (.t 10) (.c (.int .i32 (65536)))), none⟩, ⟨(some 9), (.mv (.t 11)), none⟩])
          (.cond (.t 9)
           (.seq
            (.reg [⟨(some 2), (.mv (.c (.int .i64 (3)))), none⟩])
            .ret)
           .skip)))))))
    (.seq
     (.reg [⟨(some 2), (.mv (.c (.int .i64 (4)))), none⟩])
     .ret)))), 0⟩

def c106 : CFn := ⟨[(.tmp 4), (.tmp 5)], (some
  (.seq
   (.reg [⟨(some 4), (.mv (.c (.str []))), none⟩, ⟨(some 5), (.mv (.c (.bool false))), none⟩])
   (.seq
    (.reg [⟨(some 6), (.mv (.c (.int .i64 (1)))), none⟩])
    (.seq
     (.seq
      (.dreg [⟨⟨(some 10), (.mv (.t 0)), none⟩, 0, false⟩, ⟨⟨(some 11), (.nilCheck (.t 10)), none⟩, 0, false⟩, ⟨⟨(some 12), (.fld 0 (.t 11)), none⟩, 0, false⟩, ⟨⟨(some 13), (.load false 1 (.t 12)), none⟩, 0, false⟩, ⟨⟨(some 14), (.mv (.t 0)), none⟩, 0, false⟩, ⟨⟨(some 15), (.nilCheck (.t 14)), none⟩, 0, false⟩, ⟨⟨(some 16), (.fld 1 (.t 15)), none⟩, 0, false⟩, ⟨⟨(some 17), (.load false 1 (.t 16)), none⟩, 0, false⟩, ⟨⟨(some 18), (.slice 1 (.t 13) (some (.t 17)) none none), none⟩, 0, false⟩, ⟨⟨(some 7), (.mv (.t 18)), none⟩, 0, false⟩] [])
      (.block 0
       (.seq
        (.block 4
         (.seq
          (.block 3
           (.seq
            (.block 2
             (.seq
              (.block 1
               (.seq
                (.seq
                 (.seq
                  (.reg [⟨(some 20), (.mv (.t 7)), none⟩, ⟨(some 21), (.len false (.t 20)), none⟩, ⟨(some 22), (.bin 0 .eql (.t 21) (.c (.int .i64 (0)))), none⟩, ⟨(some 19), (.mv (.t 22)), none⟩])
                  (.cond (.t 19)
                   (.exit 1)
                   .skip))
                 (.seq
                  (.seq
                   (.reg [⟨(some 24), (.mv (.t 7)), none⟩, ⟨(some 25), (.idxS 1 (.t 24) (.c (.int .i64 (0)))), none⟩, ⟨(some 26), (.load false 1 (.t 25)), none⟩, ⟨(some 27), (.bin 0 .eql (.t 26) (.c (.int .i32 (91)))), none⟩, ⟨(some 23), (.mv (.t 27)), none⟩])
                   (.cond (.t 23)
                    (.exit 2)
                    .skip))
                  (.seq
                   (.reg [⟨(some 29), (.mv (.t 7)), none⟩, ⟨(some 30), (.idxS 1 (.t 29) (.c (.int .i64 (0)))), none⟩, ⟨(some 31), (.load false 1 (.t 30)), none⟩, ⟨(some 32), (.bin 0 .eql (.t 31) (.c (.int .i32 (40)))), none⟩, ⟨(some 28), (.mv (.t 32)), none⟩])
                   (.cond (.t 28)
                    (.exit 3)
                    .skip))))
                (.exit 4)))
              (.seq
               (.seq
                (.reg [⟨(some 4), (.mv (.c (.str []))), none⟩, ⟨(some 5), (.mv (.c (.bool false))), none⟩])
                .ret)
               (.exit 0))))
            (.seq
             (.seq
              (.reg [⟨(some 33), (.mv (.t 7)), none⟩, ⟨(some 34), (.callF 109 false [(.t 33), (.c (.int .i32 (93)))]), none⟩, ⟨(some 8), (.mv (.t 34)), none⟩])
              (.seq
               (.seq
                (.reg [⟨(some 35), (.mv (.t 8)), none⟩, ⟨(some 36), (.bin 0 .lss (.t 35) (.c (.int .i64 (0)))), none⟩])
                (.cond (.t 36)
                 (.seq
                  (.reg [⟨(some 4), (.mv (.c (.str []))), none⟩, ⟨(some 5), (.mv (.c (.bool false))), none⟩])
                  .ret)
                 .skip))
               (.seq
                (.reg [⟨(some 37), (.mv (.t 0)), none⟩, ⟨(some 38), (.nilCheck (.t 37)), none⟩, ⟨(some 39), (.fld 1 (.t 38)), none⟩, ⟨(some 40), (.load false 1 (.t 39)), none⟩, ⟨(some 41), (.mv (.t 8)), none⟩, ⟨(some 42), (.bin 0 .add (.t 41) (.c (.int .i64 (1)))), none⟩, ⟨(some 43), (.bin 0 .add (.t 40) (.t 42)), none⟩, ⟨(some 44), (.nilCheck (.t 37)), none⟩, ⟨(some 45), (.fld 1 (.t 44)), none⟩, ⟨none, (.store 1 (.t 45) (.t 43)), none⟩])
                (.seq
                 (.reg [⟨(some 46), (.mv (.t 7)), none⟩, ⟨(some 47), (.mv (.t 8)), none⟩, ⟨(some 48), (.slice 1 (.t 46) (some (.c (.int .i64 (1)))) (some (.t 47)) none), none⟩, ⟨(some 49), (.conv .runesStr (.t 48)), none⟩, ⟨(some 4), (.mv (.t 49)), none⟩, ⟨(some 5), (.mv (.c (.bool true))), none⟩])
                 .ret))))
             (.exit 0))))
          (.seq
           (.reg [⟨(some 50), (.mv (.t 0)), none⟩, ⟨(some 51), (.nilCheck (.t 50)), none⟩, ⟨(some 52), (.fld 1 (.t 51)), none⟩, ⟨(some 53), (.load false 1 (.t 52)), none⟩, ⟨(some 54), (.bin 0 .add (.t 53) (.c (.int .i64 (1)))), none⟩, ⟨(some 55), (.nilCheck (.t 50)), none⟩, ⟨(some 56), (.fld 1 (.t 55)), none⟩, ⟨none, (.store 1 (.t 56) (.t 54)), none⟩])
           (.reg [⟨(some 57), (.mv (.t 6)), none⟩, ⟨(some 58), (.bin 0 .add (.t 57) (.c (.int .i64 (1)))), none⟩, ⟨(some 6), (.mv (.t 58)), none⟩]))))
        (.seq
         (.seq
          (.dreg [⟨⟨(some 59), (.mv (.t 1)), none⟩, 0, false⟩, ⟨⟨(some 60), (.un .not (.t 59)), none⟩, 0, false⟩, ⟨⟨(some 61), (.mv (.t 60)), none⟩, 0, false⟩, ⟨⟨(some 62), (.mv (.t 6)), (some (61, true))⟩, 0, false⟩, ⟨⟨(some 63), (.bin 0 .eql (.t 62) (.c (.int .i64 (1)))), (some (61, true))⟩, 0, false⟩, ⟨⟨(some 64), (.pick (.t 61) (.t 63) (.c (.bool false))), none⟩, 0, false⟩, ⟨⟨(some 65), (.mv (.t 64)), none⟩, 0, false⟩, ⟨⟨(some 66), (.mv (.t 0)), (some (65, false))⟩, 0, false⟩, ⟨⟨(some 67), (.nilCheck (.t 66)), (some (65, false))⟩, 0, false⟩, ⟨⟨(some 68), (.fld 1 (.t 67)), (some (65, false))⟩, 0, false⟩, ⟨⟨(some 69), (.load false 1 (.t 68)), (some (65, false))⟩, 0, false⟩, ⟨⟨(some 70), (.mv (.t 6)), (some (65, false))⟩, 0, false⟩, ⟨⟨(some 71), (.bin 0 .add (.t 69) (.t 70)), (some (65, false))⟩, 0, false⟩, ⟨⟨(some 72), (.mv (.t 0)), (some (65, false))⟩, 0, false⟩, ⟨⟨(some 73), (.nilCheck (.t 72)), (some (65, false))⟩, 0, false⟩, ⟨⟨(some 74), (.fld 0 (.t 73)), (some (65, false))⟩, 0, false⟩, ⟨⟨(some 75), (.load false 1 (.t 74)), (some (65, false))⟩, 0, false⟩, ⟨⟨(some 76), (.len false (.t 75)), (some (65, false))⟩, 0, false⟩, ⟨⟨(some 77), (.bin 0 .gtr (.t 71) (.t 76)), (some (65, false))⟩, 0, false⟩, ⟨⟨(some 78), (.pick (.t 65) (.c (.bool true)) (.t 77)), none⟩, 0, false⟩] [])
          (.cond (.t 78)
           (.seq
            (.reg [⟨(some 4), (.mv (.c (.str []))), none⟩, ⟨(some 5), (.mv (.c (.bool false))), none⟩])
            .ret)
           .skip))
         (.exit 0)))))
     (.seq
      (.dreg [⟨⟨(some 79), (.mv (.t 0)), none⟩, 0, false⟩, ⟨⟨(some 80), (.nilCheck (.t 79)), none⟩, 0, false⟩, ⟨⟨(some 81), (.fld 0 (.t 80)), none⟩, 0, false⟩, ⟨⟨(some 82), (.load false 1 (.t 81)), none⟩, 0, false⟩, ⟨⟨(some 83), (.mv (.t 0)), none⟩, 0, false⟩, ⟨⟨(some 84), (.nilCheck (.t 83)), none⟩, 0, false⟩, ⟨⟨(some 85), (.fld 1 (.t 84)), none⟩, 0, false⟩, ⟨⟨(some 86), (.load false 1 (.t 85)), none⟩, 0, false⟩, ⟨⟨(some 87), (.mv (.t 0)), none⟩, 0, false⟩, ⟨⟨(some 88), (.nilCheck (.t 87)), none⟩, 0, false⟩, ⟨⟨(some 89), (.fld 1 (.t 88)), none⟩, 0, false⟩, ⟨⟨(some 90), (.load false 1 (.t 89)), none⟩, 0, false⟩, ⟨⟨(some 91), (.mv (.t 6)), none⟩, 0, false⟩, ⟨⟨(some 92), (.bin 0 .add (.t 90) (.t 91)), none⟩, 0, false⟩, ⟨⟨(some 93), (.slice 1 (.t 82) (some (.t 86)) (some (.t 92)) none), none⟩, 0, false⟩, ⟨⟨(some 94), (.conv .runesStr (.t 93)), none⟩, 0, false⟩, ⟨⟨(some 9), (.mv (.t 94)), none⟩, 0, false⟩] [])
      (.seq
       (.reg [⟨(some 95), (.mv (.t 0)), none⟩, ⟨(some 96), (.nilCheck (.t 95)), none⟩, ⟨(some 97), (.fld 1 (.t 96)), none⟩, ⟨(some 98), (.load false 1 (.t 97)), none⟩, ⟨(some 99), (.mv (.t 6)), none⟩, ⟨(some 100), (.bin 0 .add (.t 98) (.t 99)), none⟩, ⟨(some 101), (.nilCheck (.t 95)), none⟩, ⟨(some 102), (.fld 1 (.t 101)), none⟩, ⟨none, (.store 1 (.t 102) (.t 100)), none⟩])
       (.seq
        (.reg [⟨(some 103), (.mv (.t 9)), none⟩, ⟨(some 4), (.mv (.t 103)), none⟩, ⟨(some 5), (.mv (.c (.bool true))), none⟩])
        .ret))))))), 0⟩

def c107 : CFn := ⟨[(.tmp 2), (.tmp 3)], (some
  (.seq
   (.reg [⟨(some 2), (.mv (.c (.int .i32 (0)))), none⟩, ⟨(some 3), (.mv (.c (.bool false))), none⟩])
   (.seq
    (.seq
     (.reg [⟨(some 11), (.load false 1 (.c (gl 4))), none⟩, ⟨(some 12), (.mv (.t 0)), none⟩, ⟨(some 13), (.lookup 3 (.int .i32 (0)) true (.t 11) (.t 12)), none⟩, ⟨(some 10), (.mv (.t 13)), none⟩, ⟨(some 14), (.extract (.t 10) 0), none⟩, ⟨(some 15), (.extract (.t 10) 1), none⟩, ⟨(some 4), (.mv (.t 14)), none⟩, ⟨(some 5), (.mv (.t 15)), none⟩])
     (.seq
      (.reg [⟨(some 16), (.mv (.t 5)), none⟩])
      (.cond (.t 16)
       (.seq
        (.reg [⟨(some 17), (.mv (.t 4)), none⟩, ⟨(some 2), (.mv (.t 17)), none⟩, ⟨(some 3), (.mv (.c (.bool true))), none⟩])
        .ret)
       .skip)))
    (.seq
     (.seq
      (.reg [⟨(some 18), (.mv (.t 0)), none⟩, ⟨(some 19), (.len true (.t 18)), none⟩, ⟨(some 20), (.bin 0 .lss (.t 19) (.c (.int .i64 (5)))), none⟩, ⟨(some 21), (.mv (.t 20)), none⟩, ⟨(some 22), (.mv (.t 0)), (some (21, false))⟩, ⟨(some 23), (.len true (.t 22)), (some (21, false))⟩, ⟨(some 24), (.bin 0 .gtr (.t 23) (.c (.int .i64 (7)))), (some (21, false))⟩, ⟨(some 25), (.pick (.t 21) (.c (.bool true)) (.t 24)), none⟩, ⟨(some 26), (.mv (.t 25)), none⟩, ⟨(some 27), (.mv (.t 0)), (some (26, false))⟩, ⟨(some 28), (.idxStr (.t 27) (.c (.int .i64 (0)))), (some (26, false))⟩, ⟨(some 29), (.bin 0 .neq (.t 28) (.c (.int .u8 (117)))), (some (26, false))⟩, ⟨(some 30), (.pick (.t 26) (.c (.bool true)) (.t 29)), none⟩])
      (.cond (.t 30)
       (.seq
        (.reg [⟨(some 2), (.mv (.c (.int .i32 (0)))), none⟩, ⟨(some 3), (.mv (.c (.bool false))), none⟩])
        .ret)
       .skip))
     (.seq
      (.reg [⟨(some 6), (.mv (.c (.int .i32 (0)))), none⟩])
      (.seq
       (.seq
        (.reg [⟨(some 7), (.mv (.c (.int .i64 (1)))), none⟩])
        (.block 0
         (.loop
          (.seq
           (.seq
            (.reg [⟨(some 31), (.mv (.t 7)), none⟩, ⟨(some 32), (.mv (.t 0)), none⟩, ⟨(some 33), (.len true (.t 32)), none⟩, ⟨(some 34), (.bin 0 .lss (.t 31) (.t 33)), none⟩])
            (.cond (.t 34)
             .skip
             (.exit 0)))
           (.seq
            (.block 1
             (.seq
              (.reg [⟨(some 38), (.mv (.t 0)), none⟩, ⟨(some 39), (.mv (.t 7)), none⟩, ⟨(some 40), (.idxStr (.t 38) (.t 39)), none⟩, ⟨(some 41), (.callF 110 false [(.t 40)]), none⟩, ⟨(some 37), (.mv (.t 41)), none⟩, ⟨(some 42), (.extract (.t 37) 0), none⟩, ⟨(some 43), (.extract (.t 37) 1), none⟩, ⟨(some 8), (.mv (.t 42)), none⟩, ⟨(some 9), (.mv (.t 43)), none⟩])
              (.seq
               (.seq
                (.reg [⟨(some 44), (.mv (.t 9)), none⟩, ⟨(some 45), (.un .not (.t 44)), none⟩])
                (.cond (.t 45)
                 (.seq
                  (.reg [⟨(some 2), (.mv (.c (.int .i32 (0)))), none⟩, ⟨(some 3), (.mv (.c (.bool false))), none⟩])
                  .ret)
                 .skip))
               (.reg [⟨(some 46), (.mv (.t 6)), none⟩, ⟨(some 47), (.bin 0 .shl (.t 46) (.c (.int .u64 (4)))), none⟩, ⟨(some 48), (.mv (.t 8)), none⟩, ⟨(some 49), (.bin 0 .or (.t 47) (.t 48)), none⟩, ⟨(some 6), (.mv (.t 49)), none⟩]))))
            (.reg [⟨(some 35), (.mv (.t 7)), none⟩, ⟨(some 36), (.bin 0 .add (.t 35) (.c (.int .i64 (1)))), none⟩, ⟨(some 7), (.mv (.t 36)), none⟩]))))))
       (.seq
        (.seq
         (.reg [⟨(some 50), (.mv (.t 6)), none⟩, ⟨(some 51), (.callF 111 false [(.t 50)]), none⟩, ⟨(some 52), (.mv (.t 6)), none⟩, ⟨(some 53), (.bin 0 .neq (.t 51) (.t 52)), none⟩])
         (.cond (.t 53)
          (.seq
           (.reg [⟨(some 2), (.mv (.c (.int .i32 (0)))), none⟩, ⟨(some 3), (.mv (.c (.bool false))), none⟩])
           .ret)
          .skip))
        (.seq
         (.reg [⟨(some 54), (.mv (.t 6)), none⟩, ⟨(some 2), (.mv (.t 54)), none⟩, ⟨(some 3), (.mv (.c (.bool true))), none⟩])
         .ret)))))))), 0⟩

def c108 : CFn := ⟨[(.tmp 2), (.tmp 3)], (some
  (.seq
   (.reg [⟨(some 2), (.mv (.c (.int .i32 (0)))), none⟩, ⟨(some 3), (.mv (.c (.bool false))), none⟩])
   (.seq
    (.reg [⟨(some 7), (.load false 1 (.c (gl 5))), none⟩, ⟨(some 8), (.mv (.t 0)), none⟩, ⟨(some 9), (.lookup 3 (.int .i32 (0)) true (.t 7) (.t 8)), none⟩, ⟨(some 6), (.mv (.t 9)), none⟩, ⟨(some 10), (.extract (.t 6) 0), none⟩, ⟨(some 11), (.extract (.t 6) 1), none⟩, ⟨(some 4), (.mv (.t 10)), none⟩, ⟨(some 5), (.mv (.t 11)), none⟩])
    (.seq
     (.reg [⟨(some 12), (.mv (.t 4)), none⟩, ⟨(some 13), (.mv (.t 5)), none⟩, ⟨(some 2), (.mv (.t 12)), none⟩, ⟨(some 3), (.mv (.t 13)), none⟩])
     .ret)))), 0⟩

def c109 : CFn := ⟨[(.tmp 4)], (some
  (.seq
   (.reg [⟨(some 4), (.mv (.c (.int .i64 (0)))), none⟩])
   (.seq
    (.seq
     (.reg [⟨(some 6), (.mv (.t 0)), none⟩, ⟨(some 7), (.len false (.t 6)), none⟩, ⟨(some 8), (.mv (.c (.int .i64 (0)))), none⟩])
     (.block 0
      (.loop
       (.seq
        (.reg [⟨(some 9), (.bin 0 .lss (.t 8) (.t 7)), none⟩])
        (.seq
         (.cond (.t 9)
          .skip
          (.exit 0))
         (.seq
          (.block 1
           (.seq
            (.reg [⟨(some 10), (.mv (.t 8)), none⟩, ⟨(some 5), (.mv (.t 10)), none⟩])
            (.seq
             (.reg [⟨(some 11), (.mv (.t 1)), none⟩, ⟨(some 12), (.mv (.t 0)), none⟩, ⟨(some 13), (.mv (.t 5)), none⟩, ⟨(some 14), (.idxS 1 (.t 12) (.t 13)), none⟩, ⟨(some 15), (.load false 1 (.t 14)), none⟩, ⟨(some 16), (.bin 0 .eql (.t 11) (.t 15)), none⟩])
             (.cond (.t 16)
              (.seq
               (.reg [⟨(some 17), (.mv (.t 5)), none⟩, ⟨(some 4), (.mv (.t 17)), none⟩])
               .ret)
              .skip))))
          (.reg [⟨(some 18), (.bin 0 .add (.t 8) (.c (.int .i64 (1)))), none⟩, ⟨(some 8), (.mv (.t 18)), none⟩])))))))
    (.seq
     (.reg [⟨(some 4), (.mv (.c (.int .i64 (-1)))), none⟩])
     .ret)))), 0⟩

def c110 : CFn := ⟨[(.tmp 2), (.tmp 3)], (some
  (.seq
   (.reg [⟨(some 2), (.mv (.c (.int .i32 (0)))), none⟩, ⟨(some 3), (.mv (.c (.bool false))), none⟩])
   (.seq
    (.block 0
     (.seq
      (.reg [⟨(some 5), (.mv (.t 0)), none⟩, ⟨(some 6), (.bin 0 .geq (.t 5) (.c (.int .u8 (48)))), none⟩, ⟨(some 7), (.mv (.t 6)), none⟩, ⟨(some 8), (.mv (.t 0)), (some (7, true))⟩, ⟨(some 9), (.bin 0 .leq (.t 8) (.c (.int .u8 (57)))), (some (7, true))⟩, ⟨(some 10), (.pick (.t 7) (.t 9) (.c (.bool false))), none⟩, ⟨(some 4), (.mv (.t 10)), none⟩])
      (.cond (.t 4)
       (.seq
        (.reg [⟨(some 11), (.mv (.t 0)), none⟩, ⟨(some 12), (.bin 0 .sub (.t 11) (.c (.int .u8 (48)))), none⟩, ⟨(some 13), (.conv (.int .i32) (.t 12)), none⟩, ⟨(some 2), (.mv (.t 13)), none⟩, ⟨(some 3), (.mv (.c (.bool true))), none⟩])
        .ret)
       (.seq
        (.reg [⟨(some 15), (.mv (.t 0)), none⟩, ⟨(some 16), (.bin 0 .geq (.t 15) (.c (.int .u8 (65)))), none⟩, ⟨(some 17), (.mv (.t 16)), none⟩, ⟨(some 18), (.mv (.t 0)), (some (17, true))⟩, ⟨(some 19), (.bin 0 .leq (.t 18) (.c (.int .u8 (70)))), (some (17, true))⟩, ⟨(some 20), (.pick (.t 17) (.t 19) (.c (.bool false))), none⟩, ⟨(some 14), (.mv (.t 20)), none⟩])
        (.cond (.t 14)
         (.seq
          (.reg [⟨(some 21), (.mv (.t 0)), none⟩, ⟨(some 22), (.bin 0 .sub (.t 21) (.c (.int .u8 (65)))), none⟩, ⟨(some 23), (.conv (.int .i32) (.t 22)), none⟩, ⟨(some 24), (.bin 0 .add (.t 23) (.c (.int .i32 (10)))), none⟩, ⟨(some 2), (.mv (.t 24)), none⟩, ⟨(some 3), (.mv (.c (.bool true))), none⟩])
          .ret)
         .skip)))))
    (.seq
     (.reg [⟨(some 2), (.mv (.c (.int .i32 (0)))), none⟩, ⟨(some 3), (.mv (.c (.bool false))), none⟩])
     .ret)))), 0⟩

def c111 : CFn := ⟨[(.tmp 2)], (some
  (.seq
   (.reg [⟨(some 2), (.mv (.c (.int .i32 (0)))), none⟩])
   (.seq
    (.seq
     (.reg [⟨(some 3), (.mv (.t 0)), none⟩, ⟨(some 4), (.callF 104 false [(.t 3)]), none⟩, ⟨(some 5), (.un .not (.t 4)), none⟩, ⟨(some 6), (.mv (.t 5)), none⟩, ⟨(some 7), (.mv (.t 0)), (some (6, false))⟩, ⟨(some 8), (.callF 96 false [(.t 7)]), (some (6, false))⟩, ⟨(some 9), (.pick (.t 6) (.c (.bool true)) (.t 8)), none⟩])
     (.cond (.t 9)
      (.seq
       (.reg [⟨(some 2), (.mv (.c (.int .i32 (65533)))), none⟩])
       .ret)
      .skip))
    (.seq
     (.reg [⟨(some 10), (.mv (.t 0)), none⟩, ⟨(some 2), (.mv (.t 10)), none⟩])
     .ret)))), 0⟩

def c112 : CFn := ⟨[], none, 0⟩

def c113 : CFn := ⟨[], none, 0⟩

def c114 : CFn := ⟨[], none, 0⟩

def c115 : CFn := ⟨[], none, 0⟩

def c116 : CFn := ⟨[], none, 0⟩

def c117 : CFn := ⟨[], none, 0⟩

def c118 : CFn := ⟨[], none, 0⟩

def c119 : CFn := ⟨[], none, 0⟩

def c120 : CFn := ⟨[], none, 0⟩

def c121 : CFn := ⟨[], none, 0⟩

def c122 : CFn := ⟨[], none, 0⟩

def c123 : CFn := ⟨[], none, 0⟩

def c124 : CFn := ⟨[], none, 0⟩

def c125 : CFn := ⟨[], none, 0⟩

def c126 : CFn := ⟨[], none, 0⟩

def c127 : CFn := ⟨[], none, 0⟩

def c128 : CFn := ⟨[], none, 0⟩

def c129 : CFn := ⟨[], none, 0⟩

def c130 : CFn := ⟨[], none, 0⟩

def c131 : CFn := ⟨[], none, 0⟩

def c132 : CFn := ⟨[], none, 0⟩

def c133 : CFn := ⟨[], none, 0⟩

def c134 : CFn := ⟨[], none, 0⟩

def c135 : CFn := ⟨[], none, 0⟩

def c136 : CFn := ⟨[], (some
  (.seq
   (.reg [⟨(some 0), (.build [(.int .u8 (0)), (.int .u8 (0))] [(0, (1, (.c (.int .u8 (128))))), (1, (1, (.c (.int .u8 (191)))))]), none⟩, ⟨(some 1), (.build [(.int .u8 (0)), (.int .u8 (0))] [(0, (1, (.c (.int .u8 (160))))), (1, (1, (.c (.int .u8 (191)))))]), none⟩, ⟨(some 2), (.build [(.int .u8 (0)), (.int .u8 (0))] [(0, (1, (.c (.int .u8 (128))))), (1, (1, (.c (.int .u8 (159)))))]), none⟩, ⟨(some 3), (.build [(.int .u8 (0)), (.int .u8 (0))] [(0, (1, (.c (.int .u8 (144))))), (1, (1, (.c (.int .u8 (191)))))]), none⟩, ⟨(some 4), (.build [(.int .u8 (0)), (.int .u8 (0))] [(0, (1, (.c (.int .u8 (128))))), (1, (1, (.c (.int .u8 (143)))))]), none⟩, ⟨(some 5), (.build [(.int .u8 (0)), (.int .u8 (0)), (.int .u8 (0)), (.int .u8 (0)), (.int .u8 (0)), (.int .u8 (0)), (.int .u8 (0)), (.int .u8 (0)), (.int .u8 (0)), (.int .u8 (0)), (.int .u8 (0)), (.int .u8 (0)), (.int .u8 (0)), (.int .u8 (0)), (.int .u8 (0)), (.int .u8 (0)), (.int .u8 (0)), (.int .u8 (0)), (.int .u8 (0)), (.int .u8 (0)), (.int .u8 (0)), (.int .u8 (0)), (.int .u8 (0)), (.int .u8 (0)), (.int .u8 (0)), (.int .u8 (0)), (.int .u8 (0)), (.int .u8 (0)), (.int .u8 (0)), (.int .u8 (0)), (.int .u8 (0)), (.int .u8 (0))] [(0, (2, (.t 0))), (2, (2, (.t 1))), (4, (2, (.t 2))), (6, (2, (.t 3))), (8, (2, (.t 4)))]), none⟩, ⟨none, (.store 32 (.c (gl 3)) (.t 5)), none⟩])
   (.seq
    (.reg [⟨(some 6), .bad, none⟩, ⟨none, (.store 1 (.c (gl 4)) (.t 6)), none⟩])
    (.seq
     (.reg [⟨(some 7), (.load false 1 (.c (gl 4))), none⟩, ⟨none, .bad, none⟩])
     (.seq
      (.reg [⟨(some 8), (.load false 1 (.c (gl 4))), none⟩, ⟨none, .bad, none⟩])
      (.seq
       (.reg [⟨(some 9), (.load false 1 (.c (gl 4))), none⟩, ⟨none, .bad, none⟩])
       (.seq
        (.reg [⟨(some 10), (.load false 1 (.c (gl 4))), none⟩, ⟨none, .bad, none⟩])
        (.seq
         (.reg [⟨(some 11), (.load false 1 (.c (gl 4))), none⟩, ⟨none, .bad, none⟩])
         (.seq
          (.reg [⟨(some 12), (.load false 1 (.c (gl 4))), none⟩, ⟨none, .bad, none⟩])
          (.seq
           (.reg [⟨(some 13), (.load false 1 (.c (gl 4))), none⟩, ⟨none, .bad, none⟩])
           (.seq
            (.reg [⟨(some 14), (.load false 1 (.c (gl 4))), none⟩, ⟨none, .bad, none⟩])
            (.seq
             (.reg [⟨(some 15), (.load false 1 (.c (gl 4))), none⟩, ⟨none, .bad, none⟩])
             (.seq
              (.reg [⟨(some 16), (.load false 1 (.c (gl 4))), none⟩, ⟨none, .bad, none⟩])
              (.seq
               (.reg [⟨(some 17), (.load false 1 (.c (gl 4))), none⟩, ⟨none, .bad, none⟩])
               (.seq
                (.reg [⟨(some 18), (.load false 1 (.c (gl 4))), none⟩, ⟨none, .bad, none⟩])
                (.seq
                 (.reg [⟨(some 19), (.load false 1 (.c (gl 4))), none⟩, ⟨none, .bad, none⟩])
                 (.seq
                  (.reg [⟨(some 20), (.load false 1 (.c (gl 4))), none⟩, ⟨none, .bad, none⟩])
                  (.seq
                   (.reg [⟨(some 21), (.load false 1 (.c (gl 4))), none⟩, ⟨none, .bad, none⟩])
                   (.seq
                    (.reg [⟨(some 22), (.load false 1 (.c (gl 4))), none⟩, ⟨none, .bad, none⟩])
                    (.seq
                     (.reg [⟨(some 23), (.load false 1 (.c (gl 4))), none⟩, ⟨none, .bad, none⟩])
                     (.seq
                      (.reg [⟨(some 24), (.load false 1 (.c (gl 4))), none⟩, ⟨none, .bad, none⟩])
                      (.seq
                       (.reg [⟨(some 25), (.load false 1 (.c (gl 4))), none⟩, ⟨none, .bad, none⟩])
                       (.seq
                        (.reg [⟨(some 26), (.load false 1 (.c (gl 4))), none⟩, ⟨none, .bad, none⟩])
                        (.seq
                         (.reg [⟨(some 27), (.load false 1 (.c (gl 4))), none⟩, ⟨none, .bad, none⟩])
                         (.seq
                          (.reg [⟨(some 28), (.load false 1 (.c (gl 4))), none⟩, ⟨none, .bad, none⟩])
                          (.seq
                           (.reg [⟨(some 29), (.load false 1 (.c (gl 4))), none⟩, ⟨none, .bad, none⟩])
                           (.seq
                            (.reg [⟨(some 30), (.load false 1 (.c (gl 4))), none⟩, ⟨none, .bad, none⟩])
                            (.seq
                             (.reg [⟨(some 31), (.load false 1 (.c (gl 4))), none⟩, ⟨none, .bad, none⟩])
                             (.seq
                              (.reg [⟨(some 32), (.load false 1 (.c (gl 4))), none⟩, ⟨none, .bad, none⟩])
                              (.seq
                               (.reg [⟨(some 33), (.load false 1 (.c (gl 4))), none⟩, ⟨none, .bad, none⟩])
                               (.seq
                                (.reg [⟨(some 34), (.load false 1 (.c (gl 4))), none⟩, ⟨none, .bad, none⟩])
                                (.seq
                                 (.reg [⟨(some 35), (.load false 1 (.c (gl 4))), none⟩, ⟨none, .bad, none⟩])
                                 (.seq
                                  (.reg [⟨(some 36), (.load false 1 (.c (gl 4))), none⟩, ⟨none, .bad, none⟩])
                                  (.seq
                                   (.reg [⟨(some 37), .bad, none⟩, ⟨none, (.store 1 (.c (gl 5)) (.t 37)), none⟩])
                                   (.seq
                                    (.reg [⟨(some 38), (.load false 1 (.c (gl 5))), none⟩, ⟨none, .bad, none⟩])
                                    (.seq
                                     (.reg [⟨(some 39), (.load false 1 (.c (gl 5))), none⟩, ⟨none, .bad, none⟩])
                                     (.seq
                                      (.reg [⟨(some 40), (.load false 1 (.c (gl 5))), none⟩, ⟨none, .bad, none⟩])
                                      (.seq
                                       (.reg [⟨(some 41), (.load false 1 (.c (gl 5))), none⟩, ⟨none, .bad, none⟩])
                                       (.seq
                                        (.reg [⟨(some 42), (.load false 1 (.c (gl 5))), none⟩, ⟨none, .bad, none⟩])
                                        (.seq
                                         (.reg [⟨(some 43), (.load false 1 (.c (gl 5))), none⟩, ⟨none, .bad, none⟩])
                                         (.seq
                                          (.reg [⟨(some 44), (.load false 1 (.c (gl 5))), none⟩, ⟨none, .bad, none⟩])
                                          (.seq
                                           (.reg [⟨(some 45), (.load false 1 (.c (gl 5))), none⟩, ⟨none, .bad, none⟩])
                                           (.seq
                                            (.reg [⟨(some 46), (.load false 1 (.c (gl 5))), none⟩, ⟨none, .bad, none⟩])
                                            (.reg [⟨(some 47), (.build [(.int .i32 (0)), (.int .u8 (0))] [(0, (1, (.c (.int .i32 (32)))))]), none⟩, ⟨none, (.store 2 (.c (gl 0)) (.t 47)), none⟩])))))))))))))))))))))))))))))))))))))))))))), 0⟩

def codeL : List CFn := [c0, c1, c2, c3, c4, c5, c6, c7, c8, c9, c10, c11, c12, c13, c14, c15, c16, c17, c18, c19, c20, c21, c22, c23, c24, c25, c26, c27, c28, c29, c30, c31, c32, c33, c34, c35, c36, c37, c38, c39, c40, c41, c42, c43, c44, c45, c46, c47, c48, c49, c50, c51, c52, c53, c54, c55, c56, c57, c58, c59, c60, c61, c62, c63, c64, c65, c66, c67, c68, c69, c70, c71, c72, c73, c74, c75, c76, c77, c78, c79, c80, c81, c82, c83, c84, c85, c86, c87, c88, c89, c90, c91, c92, c93, c94, c95, c96, c97, c98, c99, c100, c101, c102, c103, c104, c105, c106, c107, c108, c109, c110, c111, c112, c113, c114, c115, c116, c117, c118, c119, c120, c121, c122, c123, c124, c125, c126, c127, c128, c129, c130, c131, c132, c133, c134, c135, c136]

def EC : Env := { code := fun f => codeL[f]?, inl := inlC }

theorem k0 : EC.code 0 = some c0 := rfl
theorem k1 : EC.code 1 = some c1 := rfl
theorem k2 : EC.code 2 = some c2 := rfl
theorem k3 : EC.code 3 = some c3 := rfl
theorem k4 : EC.code 4 = some c4 := rfl
theorem k5 : EC.code 5 = some c5 := rfl
theorem k6 : EC.code 6 = some c6 := rfl
theorem k7 : EC.code 7 = some c7 := rfl
theorem k8 : EC.code 8 = some c8 := rfl
theorem k9 : EC.code 9 = some c9 := rfl
theorem k10 : EC.code 10 = some c10 := rfl
theorem k11 : EC.code 11 = some c11 := rfl
theorem k12 : EC.code 12 = some c12 := rfl
theorem k13 : EC.code 13 = some c13 := rfl
theorem k14 : EC.code 14 = some c14 := rfl
theorem k15 : EC.code 15 = some c15 := rfl
theorem k16 : EC.code 16 = some c16 := rfl
theorem k17 : EC.code 17 = some c17 := rfl
theorem k18 : EC.code 18 = some c18 := rfl
theorem k19 : EC.code 19 = some c19 := rfl
theorem k20 : EC.code 20 = some c20 := rfl
theorem k21 : EC.code 21 = some c21 := rfl
theorem k22 : EC.code 22 = some c22 := rfl
theorem k23 : EC.code 23 = some c23 := rfl
theorem k24 : EC.code 24 = some c24 := rfl
theorem k25 : EC.code 25 = some c25 := rfl
theorem k26 : EC.code 26 = some c26 := rfl
theorem k27 : EC.code 27 = some c27 := rfl
theorem k28 : EC.code 28 = some c28 := rfl
theorem k29 : EC.code 29 = some c29 := rfl
theorem k30 : EC.code 30 = some c30 := rfl
theorem k31 : EC.code 31 = some c31 := rfl
theorem k32 : EC.code 32 = some c32 := rfl
theorem k33 : EC.code 33 = some c33 := rfl
theorem k34 : EC.code 34 = some c34 := rfl
theorem k35 : EC.code 35 = some c35 := rfl
theorem k36 : EC.code 36 = some c36 := rfl
theorem k37 : EC.code 37 = some c37 := rfl
theorem k38 : EC.code 38 = some c38 := rfl
theorem k39 : EC.code 39 = some c39 := rfl
theorem k40 : EC.code 40 = some c40 := rfl
theorem k41 : EC.code 41 = some c41 := rfl
theorem k42 : EC.code 42 = some c42 := rfl
theorem k43 : EC.code 43 = some c43 := rfl
theorem k44 : EC.code 44 = some c44 := rfl
theorem k45 : EC.code 45 = some c45 := rfl
theorem k46 : EC.code 46 = some c46 := rfl
theorem k47 : EC.code 47 = some c47 := rfl
theorem k48 : EC.code 48 = some c48 := rfl
theorem k49 : EC.code 49 = some c49 := rfl
theorem k50 : EC.code 50 = some c50 := rfl
theorem k51 : EC.code 51 = some c51 := rfl
theorem k52 : EC.code 52 = some c52 := rfl
theorem k53 : EC.code 53 = some c53 := rfl
theorem k54 : EC.code 54 = some c54 := rfl
theorem k55 : EC.code 55 = some c55 := rfl
theorem k56 : EC.code 56 = some c56 := rfl
theorem k57 : EC.code 57 = some c57 := rfl
theorem k58 : EC.code 58 = some c58 := rfl
theorem k59 : EC.code 59 = some c59 := rfl
theorem k60 : EC.code 60 = some c60 := rfl
theorem k61 : EC.code 61 = some c61 := rfl
theorem k62 : EC.code 62 = some c62 := rfl
theorem k63 : EC.code 63 = some c63 := rfl
theorem k64 : EC.code 64 = some c64 := rfl
theorem k65 : EC.code 65 = some c65 := rfl
theorem k66 : EC.code 66 = some c66 := rfl
theorem k67 : EC.code 67 = some c67 := rfl
theorem k68 : EC.code 68 = some c68 := rfl
theorem k69 : EC.code 69 = some c69 := rfl
theorem k70 : EC.code 70 = some c70 := rfl
theorem k71 : EC.code 71 = some c71 := rfl
theorem k72 : EC.code 72 = some c72 := rfl
theorem k73 : EC.code 73 = some c73 := rfl
theorem k74 : EC.code 74 = some c74 := rfl
theorem k75 : EC.code 75 = some c75 := rfl
theorem k76 : EC.code 76 = some c76 := rfl
theorem k77 : EC.code 77 = some c77 := rfl
theorem k78 : EC.code 78 = some c78 := rfl
theorem k79 : EC.code 79 = some c79 := rfl
theorem k80 : EC.code 80 = some c80 := rfl
theorem k81 : EC.code 81 = some c81 := rfl
theorem k82 : EC.code 82 = some c82 := rfl
theorem k83 : EC.code 83 = some c83 := rfl
theorem k84 : EC.code 84 = some c84 := rfl
theorem k85 : EC.code 85 = some c85 := rfl
theorem k86 : EC.code 86 = some c86 := rfl
theorem k87 : EC.code 87 = some c87 := rfl
theorem k88 : EC.code 88 = some c88 := rfl
theorem k89 : EC.code 89 = some c89 := rfl
theorem k90 : EC.code 90 = some c90 := rfl
theorem k91 : EC.code 91 = some c91 := rfl
theorem k92 : EC.code 92 = some c92 := rfl
theorem k93 : EC.code 93 = some c93 := rfl
theorem k94 : EC.code 94 = some c94 := rfl
theorem k95 : EC.code 95 = some c95 := rfl
theorem k96 : EC.code 96 = some c96 := rfl
theorem k97 : EC.code 97 = some c97 := rfl
theorem k98 : EC.code 98 = some c98 := rfl
theorem k99 : EC.code 99 = some c99 := rfl
theorem k100 : EC.code 100 = some c100 := rfl
theorem k101 : EC.code 101 = some c101 := rfl
theorem k102 : EC.code 102 = some c102 := rfl
theorem k103 : EC.code 103 = some c103 := rfl
theorem k104 : EC.code 104 = some c104 := rfl
theorem k105 : EC.code 105 = some c105 := rfl
theorem k106 : EC.code 106 = some c106 := rfl
theorem k107 : EC.code 107 = some c107 := rfl
theorem k108 : EC.code 108 = some c108 := rfl
theorem k109 : EC.code 109 = some c109 := rfl
theorem k110 : EC.code 110 = some c110 := rfl
theorem k111 : EC.code 111 = some c111 := rfl
theorem k112 : EC.code 112 = some c112 := rfl
theorem k113 : EC.code 113 = some c113 := rfl
theorem k114 : EC.code 114 = some c114 := rfl
theorem k115 : EC.code 115 = some c115 := rfl
theorem k116 : EC.code 116 = some c116 := rfl
theorem k117 : EC.code 117 = some c117 := rfl
theorem k118 : EC.code 118 = some c118 := rfl
theorem k119 : EC.code 119 = some c119 := rfl
theorem k120 : EC.code 120 = some c120 := rfl
theorem k121 : EC.code 121 = some c121 := rfl
theorem k122 : EC.code 122 = some c122 := rfl
theorem k123 : EC.code 123 = some c123 := rfl
theorem k124 : EC.code 124 = some c124 := rfl
theorem k125 : EC.code 125 = some c125 := rfl
theorem k126 : EC.code 126 = some c126 := rfl
theorem k127 : EC.code 127 = some c127 := rfl
theorem k128 : EC.code 128 = some c128 := rfl
theorem k129 : EC.code 129 = some c129 := rfl
theorem k130 : EC.code 130 = some c130 := rfl
theorem k131 : EC.code 131 = some c131 := rfl
theorem k132 : EC.code 132 = some c132 := rfl
theorem k133 : EC.code 133 = some c133 := rfl
theorem k134 : EC.code 134 = some c134 := rfl
theorem k135 : EC.code 135 = some c135 := rfl
theorem k136 : EC.code 136 = some c136 := rfl

end Go.Proofs.VmX
