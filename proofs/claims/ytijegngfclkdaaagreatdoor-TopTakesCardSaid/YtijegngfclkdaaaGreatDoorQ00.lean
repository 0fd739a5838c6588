/-
  Pieces of the proof: words that are said often.
  Conditions: none.
-/
import Derived.Lib.Hide
namespace Go
theorem zq {p:Prop} (h:p):RowKit.Hid p:=Lib.hid h
theorem lq {n:Nat}:n≤n:=Nat.le_refl n
theorem zq2 {p0 p1:Prop} (x0:p0) (x1:p1):RowKit.Hid (p0∧p1):=Lib.hid ⟨x0,x1⟩
theorem zq3 {p0 p1 p2:Prop} (x0:p0) (x1:p1) (x2:p2):RowKit.Hid (p0∧p1∧p2):=Lib.hid ⟨x0,x1,x2⟩
theorem zq4 {p0 p1 p2 p3:Prop} (x0:p0) (x1:p1) (x2:p2) (x3:p3):RowKit.Hid (p0∧p1∧p2∧p3):=Lib.hid ⟨x0,x1,x2,x3⟩
theorem zq5 {p0 p1 p2 p3 p4:Prop} (x0:p0) (x1:p1) (x2:p2) (x3:p3) (x4:p4):RowKit.Hid (p0∧p1∧p2∧p3∧p4):=Lib.hid ⟨x0,x1,x2,x3,x4⟩
theorem zq6 {p0 p1 p2 p3 p4 p5:Prop} (x0:p0) (x1:p1) (x2:p2) (x3:p3) (x4:p4) (x5:p5):RowKit.Hid (p0∧p1∧p2∧p3∧p4∧p5):=Lib.hid ⟨x0,x1,x2,x3,x4,x5⟩
theorem zq7 {p0 p1 p2 p3 p4 p5 p6:Prop} (x0:p0) (x1:p1) (x2:p2) (x3:p3) (x4:p4) (x5:p5) (x6:p6):RowKit.Hid (p0∧p1∧p2∧p3∧p4∧p5∧p6):=Lib.hid ⟨x0,x1,x2,x3,x4,x5,x6⟩
theorem zq8 {p0 p1 p2 p3 p4 p5 p6 p7:Prop} (x0:p0) (x1:p1) (x2:p2) (x3:p3) (x4:p4) (x5:p5) (x6:p6) (x7:p7):RowKit.Hid (p0∧p1∧p2∧p3∧p4∧p5∧p6∧p7):=Lib.hid ⟨x0,x1,x2,x3,x4,x5,x6,x7⟩
theorem zq9 {p0 p1 p2 p3 p4 p5 p6 p7 p8:Prop} (x0:p0) (x1:p1) (x2:p2) (x3:p3) (x4:p4) (x5:p5) (x6:p6) (x7:p7) (x8:p8):RowKit.Hid (p0∧p1∧p2∧p3∧p4∧p5∧p6∧p7∧p8):=Lib.hid ⟨x0,x1,x2,x3,x4,x5,x6,x7,x8⟩
theorem zq10 {p0 p1 p2 p3 p4 p5 p6 p7 p8 p9:Prop} (x0:p0) (x1:p1) (x2:p2) (x3:p3) (x4:p4) (x5:p5) (x6:p6) (x7:p7) (x8:p8) (x9:p9):RowKit.Hid (p0∧p1∧p2∧p3∧p4∧p5∧p6∧p7∧p8∧p9):=Lib.hid ⟨x0,x1,x2,x3,x4,x5,x6,x7,x8,x9⟩
theorem zq11 {p0 p1 p2 p3 p4 p5 p6 p7 p8 p9 p10:Prop} (x0:p0) (x1:p1) (x2:p2) (x3:p3) (x4:p4) (x5:p5) (x6:p6) (x7:p7) (x8:p8) (x9:p9) (x10:p10):RowKit.Hid (p0∧p1∧p2∧p3∧p4∧p5∧p6∧p7∧p8∧p9∧p10):=Lib.hid ⟨x0,x1,x2,x3,x4,x5,x6,x7,x8,x9,x10⟩
theorem zq12 {p0 p1 p2 p3 p4 p5 p6 p7 p8 p9 p10 p11:Prop} (x0:p0) (x1:p1) (x2:p2) (x3:p3) (x4:p4) (x5:p5) (x6:p6) (x7:p7) (x8:p8) (x9:p9) (x10:p10) (x11:p11):RowKit.Hid (p0∧p1∧p2∧p3∧p4∧p5∧p6∧p7∧p8∧p9∧p10∧p11):=Lib.hid ⟨x0,x1,x2,x3,x4,x5,x6,x7,x8,x9,x10,x11⟩
end Go
