import Derived.Test.YtlhlhpgjnjjhnaaGreatDoorProg
import Derived.Test.YtlhlhpgjnjjhnaaGreatDoorZ1
import Derived.RangeFuncGives
import Derived.Shelf.SlIter.Collect
import Derived.Maps.AppendAt
import Derived.Shelf.Abstract
import Derived.Sort.KeysCollected
import Derived.Test.YtlhlhpgjnjjhnaaGreatDoorZ2
import Derived.Shelf.SlSortCmp.InsertionK
import Derived.Shelf.SlLaysF0
import Derived.Ground.SlsfProg
import Derived.Shelf.SlSortCmp.WholeK
import Derived.Shelf.SlSortCmp.NoneTotal
set_option maxHeartbeats 16000000
set_option maxRecDepth 20000
open Go Go.RowKit Go.Proofs.YtlhlhpgjnjjhnaaGreatDoor.K
set_option linter.unusedVariables false
set_option maxRecDepth 100000
namespace Go.Proofs.YtlhlhpgjnjjhnaaGreatDoor.T
theorem ysb (Q:QD) (x0 x1 x2 x3 x4 x5 x6 x7 x8 x9 x10 x11 x12 x13 x14 x15 x16 x17 x18:Value):den Tryz.prog (sel (za3 Tryz.f130) [0]) Q #[x0,x1,x2,x3,x4,x5,x6,x7,x8,x9,x10,x11,x12,x13,x14,x15,x16,x17,x18] =
 Q .normal #[x0,x1,(.slice none 0 0),(.int .i64 0),x4,x5,x6,x7,x8,x9,x10,x11,x12,x13,x14,x15,x16,x17,x18]:=by kernel_rfl
theorem yjp (Q:QD) (x0 x1 x2 x3 x4 x5 x6 x7 x8 x9 x10 x11 x12 x13 x14 x15 x16 x17 x18:Value):den Tryz.prog (sel (za3 Tryz.f130) [1,0]) Q #[x0,x1,x2,x3,x4,x5,x6,x7,x8,x9,x10,x11,x12,x13,x14,x15,x16,x17,x18] =
 nw 233 [(.slice none 0 0)] λt1=>
 Q .normal #[x0,x1,x2,x3,t1,x5,x6,x7,x8,x9,x10,x11,x12,x13,x14,x15,x16,x17,x18]:=by kernel_rfl
theorem yej (Q:QD) (x0 x1 x2 x3 x4 x5 x6 x7 x8 x9 x10 x11 x12 x13 x14 x15 x16 x17 x18:Value):den Tryz.prog (sel (za3 Tryz.f130) [1,1,0]) Q #[x0,x1,x2,x3,x4,x5,x6,x7,x8,x9,x10,x11,x12,x13,x14,x15,x16,x17,x18] =
 nw 3 [(.int .i64 0)] λt1=>
 st 1 t1 (.int .i64 0) λ_=>
 Q .normal #[x0,x1,x2,x3,x4,t1,x6,x7,x8,x9,x10,x11,x12,x13,x14,x15,x16,x17,x18]:=by kernel_rfl
theorem zx3 (Q:QD) (x0 x1 x2 x3 x4 x5 x6 x7 x8 x9 x10 x11 x12 x13 x14 x15 x16 x17 x18:Value):den Tryz.prog (sel (za3 Tryz.f130) [1,1,1,0,0]) Q #[x0,x1,x2,x3,x4,x5,x6,x7,x8,x9,x10,x11,x12,x13,x14,x15,x16,x17,x18] =
 cF 183 #[x0] (λt1=>
 Q .normal #[x0,x1,x2,x3,x4,x5,x6,x7,x0,t1,x10,x11,x12,x13,x14,x15,x16,x17,x18]) (λc=>Q (.panic c) #[x0,x1,x2,x3,x4,x5,x6,x7,x0,x9,x10,x11,x12,x13,x14,x15,x16,x17,x18]):=by kernel_rfl
theorem zq2 (Q:QD) (x0 x1 x2 x3 x4 x5 x6 x7 x8 x9 x10 x11 x12 x13 x14 x15 x16 x17 x18:Value):den Tryz.prog (sel (asg ((sel (za3 Tryz.f130) [1,1,1,0,1,0]))) []) Q #[x0,x1,x2,x3,x4,x5,x6,x7,x8,x9,x10,x11,x12,x13,x14,x15,x16,x17,x18] =
 Q .normal #[x0,x1,x2,x3,x4,x5,x10,x11,x8,x9,x10,x11,x12,x13,x14,x15,x16,x17,x18]:=by kernel_rfl
theorem zpn (Q:QD) (x0 x1 x2 x3 x4 x5 x6 x7 x8 x9 x10 x11 x12 x13 x14 x15 x16 x17 x18:Value):den Tryz.prog (sel (bod ((sel (za3 Tryz.f130) [1,1,1,0,1,0]))) []) Q #[x0,x1,x2,x3,x4,x5,x6,x7,x8,x9,x10,x11,x12,x13,x14,x15,x16,x17,x18] =
 ld false 1 x4 λt1=>
 nws 44 1 (bsC #[(.slice none 0 0)] 1 1 #[(0,x7)]) λt2=>
 zek 44 1 24 t1 t2 λt3=>
 st 1 x4 t3 λ_=>
 st 1 x5 x6 λ_=>
 Q .normal #[x0,x1,x2,x3,x4,x5,x6,x7,x8,x9,x10,x11,t1,x7,t2,t3,x6,x17,x18]:=by kernel_rfl
theorem ycw (Q:QD) (x0 x1 x2 x3 x4 x5 x6 x7 x8 x9 x10 x11 x12 x13 x14 x15 x16 x17 x18:Value):den Tryz.prog (sel (za3 Tryz.f130) [1,1,1,1]) Q #[x0,x1,x2,x3,x4,x5,x6,x7,x8,x9,x10,x11,x12,x13,x14,x15,x16,x17,x18] =
 ld false 1 x4 λt1=>
 ld false 1 x5 λt2=>
 Q .ret #[x0,x1,t1,t2,x4,x5,x6,x7,x8,x9,x10,x11,x12,x13,x14,x15,x16,t1,t2]:=by kernel_rfl
theorem yq9 (Q:QD) (x0 x1 x2 x3 x4 x5 x6 x7 x8 x9 x10 x11 x12 x13 x14 x15 x16 x17 x18 x19 x20 x21 x22 x23 x24 x25 x26 x27 x28 x29 x30 x31 x32 x33 x34 x35 x36 x37 x38 x39 x40 x41 x42 x43 x44 x45 x46 x47 x48 x49 x50 x51 x52 x53 x54 x55 x56 x57 x58 x59 x60 x61 x62 x63 x64 x65:Value):den Tryz.prog (sel (za3 Tryz.f244) [0]) Q #[x0,x1,x2,x3,x4,x5,x6,x7,x8,x9,x10,x11,x12,x13,x14,x15,x16,x17,x18,x19,x20,x21,x22,x23,x24,x25,x26,x27,x28,x29,x30,x31,x32,x33,x34,x35,x36,x37,x38,x39,x40,x41,x42,x43,x44,x45,x46,x47,x48,x49,x50,x51,x52,x53,x54,x55,x56,x57,x58,x59,x60,x61,x62,x63,x64,x65] =
 Q .normal #[x0,x1,x2,(.int .i64 0),x4,x5,x6,x7,x8,x9,x10,x11,x12,x13,x14,x15,x16,x17,x18,x19,x20,x21,x22,x23,x24,x25,x26,x27,x28,x29,x30,x31,x32,x33,x34,x35,x36,x37,x38,x39,x40,x41,x42,x43,x44,x45,x46,x47,x48,x49,x50,x51,x52,x53,x54,x55,x56,x57,x58,x59,x60,x61,x62,x63,x64,x65]:=by kernel_rfl
theorem ybu (Q:QD) (x0 x1 x2 x3 x4 x5 x6 x7 x8 x9 x10 x11 x12 x13 x14 x15 x16 x17 x18 x19 x20 x21 x22 x23 x24 x25 x26 x27 x28 x29 x30 x31 x32 x33 x34 x35 x36 x37 x38 x39 x40 x41 x42 x43 x44 x45 x46 x47 x48 x49 x50 x51 x52 x53 x54 x55 x56 x57 x58 x59 x60 x61 x62 x63 x64 x65:Value):den Tryz.prog (sel (za3 Tryz.f244) [1,0,0,0]) Q #[x0,x1,x2,x3,x4,x5,x6,x7,x8,x9,x10,x11,x12,x13,x14,x15,x16,x17,x18,x19,x20,x21,x22,x23,x24,x25,x26,x27,x28,x29,x30,x31,x32,x33,x34,x35,x36,x37,x38,x39,x40,x41,x42,x43,x44,x45,x46,x47,x48,x49,x50,x51,x52,x53,x54,x55,x56,x57,x58,x59,x60,x61,x62,x63,x64,x65] =
 ld false 1 x1 λt1=>
 pv (zac t1) λt2=>
 pv (za1 .none .sub t2 x3) λt3=>
 pv (za1 .none .geq t3 (.int .i64 7)) λt4=>
 cnd t4 (
  Q .normal #[x0,x1,x2,x3,x4,x5,x6,t1,t2,x3,t3,t4,x12,x13,x14,x15,x16,x17,x18,x19,x20,x21,x22,x23,x24,x25,x26,x27,x28,x29,x30,x31,x32,x33,x34,x35,x36,x37,x38,x39,x40,x41,x42,x43,x44,x45,x46,x47,x48,x49,x50,x51,x52,x53,x54,x55,x56,x57,x58,x59,x60,x61,x62,x63,x64,x65]) (
  Q (.exit 0) #[x0,x1,x2,x3,x4,x5,x6,t1,t2,x3,t3,t4,x12,x13,x14,x15,x16,x17,x18,x19,x20,x21,x22,x23,x24,x25,x26,x27,x28,x29,x30,x31,x32,x33,x34,x35,x36,x37,x38,x39,x40,x41,x42,x43,x44,x45,x46,x47,x48,x49,x50,x51,x52,x53,x54,x55,x56,x57,x58,x59,x60,x61,x62,x63,x64,x65]):=by kernel_rfl
theorem zsk (Q:QD) (x0 x1 x2 x3 x4 x5 x6 x7 x8 x9 x10 x11 x12 x13 x14 x15 x16 x17 x18 x19 x20 x21 x22 x23 x24 x25 x26 x27 x28 x29 x30 x31 x32 x33 x34 x35 x36 x37 x38 x39 x40 x41 x42 x43 x44 x45 x46 x47 x48 x49 x50 x51 x52 x53 x54 x55 x56 x57 x58 x59 x60 x61 x62 x63 x64 x65:Value):den Tryz.prog (sel (za3 Tryz.f244) [1,0,0,1,0,0]) Q #[x0,x1,x2,x3,x4,x5,x6,x7,x8,x9,x10,x11,x12,x13,x14,x15,x16,x17,x18,x19,x20,x21,x22,x23,x24,x25,x26,x27,x28,x29,x30,x31,x32,x33,x34,x35,x36,x37,x38,x39,x40,x41,x42,x43,x44,x45,x46,x47,x48,x49,x50,x51,x52,x53,x54,x55,x56,x57,x58,x59,x60,x61,x62,x63,x64,x65] =
 ld false 1 x1 λt1=>
 pv (slV 1 t1 (some x3) none none) λt2=>
 Q .normal #[x0,x1,x2,x3,t2,x5,x6,x7,x8,x9,x10,x11,t1,x3,t2,x15,x16,x17,x18,x19,x20,x21,x22,x23,x24,x25,x26,x27,x28,x29,x30,x31,x32,x33,x34,x35,x36,x37,x38,x39,x40,x41,x42,x43,x44,x45,x46,x47,x48,x49,x50,x51,x52,x53,x54,x55,x56,x57,x58,x59,x60,x61,x62,x63,x64,x65]:=by kernel_rfl
theorem zq9 (Q:QD) (x0 x1 x2 x3 x4 x5 x6 x7 x8 x9 x10 x11 x12 x13 x14 x15 x16 x17 x18 x19 x20 x21 x22 x23 x24 x25 x26 x27 x28 x29 x30 x31 x32 x33 x34 x35 x36 x37 x38 x39 x40 x41 x42 x43 x44 x45 x46 x47 x48 x49 x50 x51 x52 x53 x54 x55 x56 x57 x58 x59 x60 x61 x62 x63 x64 x65:Value):den Tryz.prog (sel (za3 Tryz.f244) [1,0,0,1,0,1,0]) Q #[x0,x1,x2,x3,x4,x5,x6,x7,x8,x9,x10,x11,x12,x13,x14,x15,x16,x17,x18,x19,x20,x21,x22,x23,x24,x25,x26,x27,x28,x29,x30,x31,x32,x33,x34,x35,x36,x37,x38,x39,x40,x41,x42,x43,x44,x45,x46,x47,x48,x49,x50,x51,x52,x53,x54,x55,x56,x57,x58,x59,x60,x61,x62,x63,x64,x65] =
 pv (iaV none 1 x4 (.int .i64 0)) λt1=>
 ld false 1 t1 λt2=>
 pv (cvV .i64 t2) λt3=>
 pv (za1 .none .shl t3 (.int .u64 16)) λt4=>
 pv (iaV none 1 x4 (.int .i64 1)) λt5=>
 ld false 1 t5 λt6=>
 pv (cvV .i64 t6) λt7=>
 pv (za1 .none .shl t7 (.int .u64 8)) λt8=>
 pv (za1 .none .or t4 t8) λt9=>
 pv (iaV none 1 x4 (.int .i64 2)) λt10=>
 ld false 1 t10 λt11=>
 pv (cvV .i64 t11) λt12=>
 pv (za1 .none .or t9 t12) λt13=>
 Q .normal #[x0,x1,x2,x3,x4,t13,x6,x7,x8,x9,x10,x11,x12,x13,x14,x4,t1,t2,t3,t4,x4,t5,t6,t7,t8,t9,x4,t10,t11,t12,t13,x31,x32,x33,x34,x35,x36,x37,x38,x39,x40,x41,x42,x43,x44,x45,x46,x47,x48,x49,x50,x51,x52,x53,x54,x55,x56,x57,x58,x59,x60,x61,x62,x63,x64,x65]:=by kernel_rfl
theorem zoi (Q:QD) (x0 x1 x2 x3 x4 x5 x6 x7 x8 x9 x10 x11 x12 x13 x14 x15 x16 x17 x18 x19 x20 x21 x22 x23 x24 x25 x26 x27 x28 x29 x30 x31 x32 x33 x34 x35 x36 x37 x38 x39 x40 x41 x42 x43 x44 x45 x46 x47 x48 x49 x50 x51 x52 x53 x54 x55 x56 x57 x58 x59 x60 x61 x62 x63 x64 x65:Value):den Tryz.prog (sel (za3 Tryz.f244) [1,0,0,1,0,1,1,0]) Q #[x0,x1,x2,x3,x4,x5,x6,x7,x8,x9,x10,x11,x12,x13,x14,x15,x16,x17,x18,x19,x20,x21,x22,x23,x24,x25,x26,x27,x28,x29,x30,x31,x32,x33,x34,x35,x36,x37,x38,x39,x40,x41,x42,x43,x44,x45,x46,x47,x48,x49,x50,x51,x52,x53,x54,x55,x56,x57,x58,x59,x60,x61,x62,x63,x64,x65] =
 pv (zac x4) λt1=>
 pv (za1 .none .sub t1 (.int .i64 3)) λt2=>
 pv (za1 .none .sub t2 (.int .i64 4)) λt3=>
 pv (mm false (.int .i64 60000) t3) λt4=>
 pv (za1 .none .gtr x5 t4) λt5=>
 cnd t5 (
  Q .ret #[x0,x1,x2,x3,x4,x5,x6,x7,x8,x9,x10,x11,x12,x13,x14,x15,x16,x17,x18,x19,x20,x21,x22,x23,x24,x25,x26,x27,x28,x29,x30,x5,x4,t1,t2,t3,t4,t5,x38,x39,x40,x41,x42,x43,x44,x45,x46,x47,x48,x49,x50,x51,x52,x53,x54,x55,x56,x57,x58,x59,x60,x61,x62,x63,x64,x65]) (
  Q .normal #[x0,x1,x2,x3,x4,x5,x6,x7,x8,x9,x10,x11,x12,x13,x14,x15,x16,x17,x18,x19,x20,x21,x22,x23,x24,x25,x26,x27,x28,x29,x30,x5,x4,t1,t2,t3,t4,t5,x38,x39,x40,x41,x42,x43,x44,x45,x46,x47,x48,x49,x50,x51,x52,x53,x54,x55,x56,x57,x58,x59,x60,x61,x62,x63,x64,x65]):=by kernel_rfl
theorem zn4 (Q:QD) (x0 x1 x2 x3 x4 x5 x6 x7 x8 x9 x10 x11 x12 x13 x14 x15 x16 x17 x18 x19 x20 x21 x22 x23 x24 x25 x26 x27 x28 x29 x30 x31 x32 x33 x34 x35 x36 x37 x38 x39 x40 x41 x42 x43 x44 x45 x46 x47 x48 x49 x50 x51 x52 x53 x54 x55 x56 x57 x58 x59 x60 x61 x62 x63 x64 x65:Value):den Tryz.prog (sel (za3 Tryz.f244) [1,0,0,1,0,1,1,1,0]) Q #[x0,x1,x2,x3,x4,x5,x6,x7,x8,x9,x10,x11,x12,x13,x14,x15,x16,x17,x18,x19,x20,x21,x22,x23,x24,x25,x26,x27,x28,x29,x30,x31,x32,x33,x34,x35,x36,x37,x38,x39,x40,x41,x42,x43,x44,x45,x46,x47,x48,x49,x50,x51,x52,x53,x54,x55,x56,x57,x58,x59,x60,x61,x62,x63,x64,x65] =
 pv (za1 .none .add (.int .i64 3) x5) λt1=>
 Q .normal #[x0,x1,x2,x3,x4,x5,t1,x7,x8,x9,x10,x11,x12,x13,x14,x15,x16,x17,x18,x19,x20,x21,x22,x23,x24,x25,x26,x27,x28,x29,x30,x31,x32,x33,x34,x35,x36,x37,x5,t1,x40,x41,x42,x43,x44,x45,x46,x47,x48,x49,x50,x51,x52,x53,x54,x55,x56,x57,x58,x59,x60,x61,x62,x63,x64,x65]:=by kernel_rfl
theorem zlh (Q:QD) (x0 x1 x2 x3 x4 x5 x6 x7 x8 x9 x10 x11 x12 x13 x14 x15 x16 x17 x18 x19 x20 x21 x22 x23 x24 x25 x26 x27 x28 x29 x30 x31 x32 x33 x34 x35 x36 x37 x38 x39 x40 x41 x42 x43 x44 x45 x46 x47 x48 x49 x50 x51 x52 x53 x54 x55 x56 x57 x58 x59 x60 x61 x62 x63 x64 x65:Value):den Tryz.prog (sel (za3 Tryz.f244) [1,0,0,1,0,1,1,1,1,0]) Q #[x0,x1,x2,x3,x4,x5,x6,x7,x8,x9,x10,x11,x12,x13,x14,x15,x16,x17,x18,x19,x20,x21,x22,x23,x24,x25,x26,x27,x28,x29,x30,x31,x32,x33,x34,x35,x36,x37,x38,x39,x40,x41,x42,x43,x44,x45,x46,x47,x48,x49,x50,x51,x52,x53,x54,x55,x56,x57,x58,x59,x60,x61,x62,x63,x64,x65] =
 pv (slV 1 x4 none (some x6) (some x6)) λt1=>
 pv (za1 .none .add x6 (.int .i64 4)) λt2=>
 pv (slV 1 x4 (some x6) (some t2) none) λt3=>
 nws 44 1 (bsC #[(.slice none 0 0)] 1 1 #[(0,t1)]) λt4=>
 cF 185 #[t4] (λt5=>
 cF 184 #[t5,(.int .i64 4)] (λt6=>
 cF 97 #[t6,t3] (λt7=>
 pv (unV .not t7) λt8=>
 cnd t8 (
  Q .ret #[x0,x1,x2,x3,x4,x5,x6,x7,x8,x9,x10,x11,x12,x13,x14,x15,x16,x17,x18,x19,x20,x21,x22,x23,x24,x25,x26,x27,x28,x29,x30,x31,x32,x33,x34,x35,x36,x37,x38,x39,x4,x6,x6,t1,t4,t5,t6,x4,x6,x6,t2,t3,t7,t8,x54,x55,x56,x57,x58,x59,x60,x61,x62,x63,x64,x65]) (
  Q .normal #[x0,x1,x2,x3,x4,x5,x6,x7,x8,x9,x10,x11,x12,x13,x14,x15,x16,x17,x18,x19,x20,x21,x22,x23,x24,x25,x26,x27,x28,x29,x30,x31,x32,x33,x34,x35,x36,x37,x38,x39,x4,x6,x6,t1,t4,t5,t6,x4,x6,x6,t2,t3,t7,t8,x54,x55,x56,x57,x58,x59,x60,x61,x62,x63,x64,x65])) (λc=>Q (.panic c) #[x0,x1,x2,x3,x4,x5,x6,x7,x8,x9,x10,x11,x12,x13,x14,x15,x16,x17,x18,x19,x20,x21,x22,x23,x24,x25,x26,x27,x28,x29,x30,x31,x32,x33,x34,x35,x36,x37,x38,x39,x4,x6,x6,t1,t4,t5,t6,x4,x6,x6,t2,t3,x52,x53,x54,x55,x56,x57,x58,x59,x60,x61,x62,x63,x64,x65])) (λc=>Q (.panic c) #[x0,x1,x2,x3,x4,x5,x6,x7,x8,x9,x10,x11,x12,x13,x14,x15,x16,x17,x18,x19,x20,x21,x22,x23,x24,x25,x26,x27,x28,x29,x30,x31,x32,x33,x34,x35,x36,x37,x38,x39,x4,x6,x6,t1,t4,t5,x46,x4,x6,x6,t2,t3,x52,x53,x54,x55,x56,x57,x58,x59,x60,x61,x62,x63,x64,x65])) (λc=>Q (.panic c) #[x0,x1,x2,x3,x4,x5,x6,x7,x8,x9,x10,x11,x12,x13,x14,x15,x16,x17,x18,x19,x20,x21,x22,x23,x24,x25,x26,x27,x28,x29,x30,x31,x32,x33,x34,x35,x36,x37,x38,x39,x4,x6,x6,t1,t4,x45,x46,x4,x6,x6,t2,t3,x52,x53,x54,x55,x56,x57,x58,x59,x60,x61,x62,x63,x64,x65]):=by kernel_rfl
theorem zkt (Q:QD) (x0 x1 x2 x3 x4 x5 x6 x7 x8 x9 x10 x11 x12 x13 x14 x15 x16 x17 x18 x19 x20 x21 x22 x23 x24 x25 x26 x27 x28 x29 x30 x31 x32 x33 x34 x35 x36 x37 x38 x39 x40 x41 x42 x43 x44 x45 x46 x47 x48 x49 x50 x51 x52 x53 x54 x55 x56 x57 x58 x59 x60 x61 x62 x63 x64 x65:Value):den Tryz.prog (sel (za3 Tryz.f244) [1,0,0,1,0,1,1,1,1,1,0]) Q #[x0,x1,x2,x3,x4,x5,x6,x7,x8,x9,x10,x11,x12,x13,x14,x15,x16,x17,x18,x19,x20,x21,x22,x23,x24,x25,x26,x27,x28,x29,x30,x31,x32,x33,x34,x35,x36,x37,x38,x39,x40,x41,x42,x43,x44,x45,x46,x47,x48,x49,x50,x51,x52,x53,x54,x55,x56,x57,x58,x59,x60,x61,x62,x63,x64,x65] =
 pv (za1 .none .add x6 (.int .i64 4)) λt1=>
 pv (za1 .none .add x3 t1) λt2=>
 Q .normal #[x0,x1,x2,t2,x4,x5,x6,x7,x8,x9,x10,x11,x12,x13,x14,x15,x16,x17,x18,x19,x20,x21,x22,x23,x24,x25,x26,x27,x28,x29,x30,x31,x32,x33,x34,x35,x36,x37,x38,x39,x40,x41,x42,x43,x44,x45,x46,x47,x48,x49,x50,x51,x52,x53,x3,x6,t1,t2,x58,x59,x60,x61,x62,x63,x64,x65]:=by kernel_rfl
theorem zjw (Q:QD) (x0 x1 x2 x3 x4 x5 x6 x7 x8 x9 x10 x11 x12 x13 x14 x15 x16 x17 x18 x19 x20 x21 x22 x23 x24 x25 x26 x27 x28 x29 x30 x31 x32 x33 x34 x35 x36 x37 x38 x39 x40 x41 x42 x43 x44 x45 x46 x47 x48 x49 x50 x51 x52 x53 x54 x55 x56 x57 x58 x59 x60 x61 x62 x63 x64 x65:Value):den Tryz.prog (sel (za3 Tryz.f244) [1,0,0,1,0,1,1,1,1,1,1,1]) Q #[x0,x1,x2,x3,x4,x5,x6,x7,x8,x9,x10,x11,x12,x13,x14,x15,x16,x17,x18,x19,x20,x21,x22,x23,x24,x25,x26,x27,x28,x29,x30,x31,x32,x33,x34,x35,x36,x37,x38,x39,x40,x41,x42,x43,x44,x45,x46,x47,x48,x49,x50,x51,x52,x53,x54,x55,x56,x57,x58,x59,x60,x61,x62,x63,x64,x65] =
 cnd x65 (
  Q .ret #[x0,x1,x2,x3,x4,x5,x6,x7,x8,x9,x10,x11,x12,x13,x14,x15,x16,x17,x18,x19,x20,x21,x22,x23,x24,x25,x26,x27,x28,x29,x30,x31,x32,x33,x34,x35,x36,x37,x38,x39,x40,x41,x42,x43,x44,x45,x46,x47,x48,x49,x50,x51,x52,x53,x54,x55,x56,x57,x58,x59,x60,x61,x62,x63,x64,x65]) (
  Q .normal #[x0,x1,x2,x3,x4,x5,x6,x7,x8,x9,x10,x11,x12,x13,x14,x15,x16,x17,x18,x19,x20,x21,x22,x23,x24,x25,x26,x27,x28,x29,x30,x31,x32,x33,x34,x35,x36,x37,x38,x39,x40,x41,x42,x43,x44,x45,x46,x47,x48,x49,x50,x51,x52,x53,x54,x55,x56,x57,x58,x59,x60,x61,x62,x63,x64,x65]):=by kernel_rfl
theorem zju (Q:QD) (x1 x2 x3 x4 x5 x6 x7 x8 x9 x10 x11 x12 x13 x14 x15 x16 x17 x18 x19 x20 x21 x22 x23 x24 x25 x26 x27 x28 x29 x30 x31 x32 x33 x34 x35 x36 x37 x38 x39 x40 x41 x42 x43 x44 x45 x46 x47 x48 x49 x50 x51 x52 x53 x54 x55 x56 x57 x58 x59 x60 x61 x62 x63 x64 x65:Value) (y:Nat):zjr Tryz.prog (zgr (sel (za3 Tryz.f244) [1,0,0,1,0,1,1,1,1,1,1,0])) Q (zgr (sel (za3 Tryz.f244) [1,0,0,1,0,1,1,1,1,1,1,0])).toList #[(.func (.yield y) #[] #[]),x1,x2,x3,x4,x5,x6,x7,x8,x9,x10,x11,x12,x13,x14,x15,x16,x17,x18,x19,x20,x21,x22,x23,x24,x25,x26,x27,x28,x29,x30,x31,x32,x33,x34,x35,x36,x37,x38,x39,x40,x41,x42,x43,x44,x45,x46,x47,x48,x49,x50,x51,x52,x53,x54,x55,x56,x57,x58,x59,x60,x61,x62,x63,x64,x65] =
 pv (slV 1 x4 (some (.int .i64 3)) (some x6) none) λt1=>
 cF 84 #[t1] (λt2=>
 zv5 Tryz.prog y #[x3,t2] λt3=>
 pv (unV .not t3) λt4=>
 Q .normal #[(.func (.yield y) #[] #[]),x1,x2,x3,x4,x5,x6,x7,x8,x9,x10,x11,x12,x13,x14,x15,x16,x17,x18,x19,x20,x21,x22,x23,x24,x25,x26,x27,x28,x29,x30,x31,x32,x33,x34,x35,x36,x37,x38,x39,x40,x41,x42,x43,x44,x45,x46,x47,x48,x49,x50,x51,x52,x53,x54,x55,x56,x57,(.func (.yield y) #[] #[]),x3,x4,x6,t1,t2,t3,t4]) (λc=>Q (.panic c) #[(.func (.yield y) #[] #[]),x1,x2,x3,x4,x5,x6,x7,x8,x9,x10,x11,x12,x13,x14,x15,x16,x17,x18,x19,x20,x21,x22,x23,x24,x25,x26,x27,x28,x29,x30,x31,x32,x33,x34,x35,x36,x37,x38,x39,x40,x41,x42,x43,x44,x45,x46,x47,x48,x49,x50,x51,x52,x53,x54,x55,x56,x57,(.func (.yield y) #[] #[]),x3,x4,x6,t1,x63,x64,x65]):=by kernel_rfl
section
variable (K:zae) (E:zb2) (k1:Env -> Hp -> Prop) (x0 x1 x2 x3 x4 x5 x6 x7 x8 x9 x10 x11 x12 x13 x14 x15 x16 x17 x18 x19 x20 x21 x22 x23 x24 x25 x26 x27 x28 x29 x30 x31 x32 x33 x34 x35 x36 x37 x38 x39 x40 x41 x42 x43 x44 x45 x46 x47 v6 v7 v21:Value) (j:Nat -> Value)
abbrev q11:QD:=za7 Tryz.prog Tryz.f11.results.toList K E
abbrev d11 (p:List Nat):QD -> Env -> Hp -> Prop:=den Tryz.prog (sel (za3 Tryz.f11) p)
theorem t11:d11 [] (q11 K E) #[x0,U,U,U,U,U,U,U,U,U,U,U] =
 pv (za1 .none .lss x0 (.int .i64 0)) λt1=>
 gdK t1 false (λk=>k x0) λt2=>
 gdK t1 false (λk=>pv (za1 .none .gtr t2 (.int .i64 1048576)) k) λt3=>
 pv (zad t1 (.bool true) t3) λt4=>
 cnd t4 (
  K (.pointer none)) (
  pv (bdC #[(.slice none 0 0),(.int .i64 0),(.int .i8 0),(.int .i64 0),(.int .i64 0),(.int .i64 0)] [(0,3),(3,1),(4,1),(5,1)] #[(2,x0),(3,(.int .i64 (-1)))]) λt5=>
  nw 118 (Value.cells t5).toList λt6=>
  K t6):=by kernel_rfl
abbrev q24:QD:=za7 Tryz.prog Tryz.f24.results.toList K E
abbrev d24 (p:List Nat):QD -> Env -> Hp -> Prop:=den Tryz.prog (sel (za3 Tryz.f24) p)
abbrev q27:QD:=za7 Tryz.prog Tryz.f27.results.toList K E
abbrev d27 (p:List Nat):QD -> Env -> Hp -> Prop:=den Tryz.prog (sel (za3 Tryz.f27) p)
theorem t27:d27 [] (q27 K E) #[x0,x1,U,U,U,U,U,U,U,U,U,U,U,U,U,U,U,U,U,U,U,U,U,U,U,U,U,U,U,U,U,U,U,U,U] =
 pv (mm true x1 (.int .i64 0)) λt1=>
 pv (zai x0) λt2=>
 pv (faV 0 t2) λt3=>
 pv (zai x0) λt4=>
 pv (faV 3 t4) λt5=>
 ld false 1 t5 λt6=>
 cF 65 #[t3] (λt7 h8=>(ldV h8 false 1 t5 t6)∧(
  pv (za1 .none .sub t7 t6) λt9=>
  pv (mm false t1 t9) λt10=>
  pv (zai x0) λt11=>
  pv (faV 3 t11) λt12=>
  ld false 1 t12 λt13=>
  pv (za1 .none .add t13 t10) λt14=>
  cF 66 #[x0,t14] (λt15=>
  pv (zai x0) λt16=>
  pv (faV 0 t16) λt17=>
  cF 65 #[t17] (λt18=>
  pv (zai x0) λt19=>
  pv (faV 3 t19) λt20=>
  st 1 t20 t18 λ_=>
  pv (zai x0) λt21=>
  pv (faV 5 t21) λt22=>
  st 1 t22 (.int .i64 (-1)) λ_=>
  K (.tuple #[])) E) E) h8) E:=by kernel_rfl
abbrev q33:QD:=za7 Tryz.prog Tryz.f33.results.toList K E
abbrev d33 (p:List Nat):QD -> Env -> Hp -> Prop:=den Tryz.prog (sel (za3 Tryz.f33) p)
theorem t33:d33 [] (q33 K E) #[x0,U,U,U,U,U,U,U] =
 pv (zai x0) λt1=>
 pv (faV 0 t1) λt2=>
 cF 85 #[t2] (λt3=>
 cF 84 #[t3] (λt4=>
 K t4) E) E:=by kernel_rfl
abbrev q66:QD:=za7 Tryz.prog Tryz.f66.results.toList K E
abbrev d66 (p:List Nat):QD -> Env -> Hp -> Prop:=den Tryz.prog (sel (za3 Tryz.f66) p)
theorem t66:d66 [] (q66 K E) #[x0,x1,U,U,U,U,U,U,U,U,U,U,U,U,U,U,U,U] =
 pv (zai x0) λt1=>
 pv (faV 0 t1) λt2=>
 cF 116 #[t2,x1] (λt3=>
 pv (zai x0) λt4=>
 pv (faV 3 t4) λt5=>
 ld false 1 t5 λt6=>
 pv (mm false t6 x1) λt7=>
 pv (zai x0) λt8=>
 pv (faV 3 t8) λt9=>
 st 1 t9 t7 λ_=>
 K (.tuple #[])) E:=by kernel_rfl
abbrev q69:QD:=za7 Tryz.prog Tryz.f69.results.toList K E
abbrev d69 (p:List Nat):QD -> Env -> Hp -> Prop:=den Tryz.prog (sel (za3 Tryz.f69) p)
abbrev q89:QD:=za7 Tryz.prog Tryz.f89.results.toList K E
abbrev d89 (p:List Nat):QD -> Env -> Hp -> Prop:=den Tryz.prog (sel (za3 Tryz.f89) p)
abbrev q90:QD:=za7 Tryz.prog Tryz.f90.results.toList K E
abbrev d90 (p:List Nat):QD -> Env -> Hp -> Prop:=den Tryz.prog (sel (za3 Tryz.f90) p)
theorem t90:d90 [] (q90 K E) #[x0,U,U,U,U,U] =
 nw 29 (Value.cells x0).toList λt1=>
 ld false 1 t1 λt2=>
 cF 132 #[t2,(.func (.func 134) #[] #[t1])] (λt3=>
 K t3) E:=by kernel_rfl
abbrev yev:QD:=za7 Tryz.prog Tryz.f132.results.toList K E
abbrev yfy (p:List Nat):QD -> Env -> Hp -> Prop:=den Tryz.prog (sel (za3 Tryz.f132) p)
theorem yxu:yfy [] (yev K E) #[x0,x1,U,U,U,U,U,U,U,U,U,U,U,U,U,U,U,U,U,U,U,U,U,U,U,U] =
 pv (zai x0) λt1=>
 pv (faV 5 t1) λt2=>
 ld false 1 t2 λt3=>
 pv (za1 .none .eql t3 (.int .i64 0)) λt4=>
 cnd t4 (
  K (.int .u16 100)) (
  pv (zai x0) λt5=>
  pv (faV 5 t5) λt6=>
  ld false 1 t6 λt7=>
  pv (za1 .none .gtr t7 (.int .i64 0)) λt8=>
  cnd t8 (
  pv (zai x0) λt9=>
  pv (faV 5 t9) λt10=>
  ld false 1 t10 λt11=>
  pv (za1 .none .sub t11 (.int .i64 1)) λt12=>
  pv (zai x0) λt13=>
  pv (faV 5 t13) λt14=>
  st 1 t14 t12 λ_=>
  yfy [1,1] (yev K E) #[x0,x1,U,U,(.int .u16 0),t4,x0,t1,t2,t3,t4,t8,x0,t5,t6,t7,t8,x0,t9,t10,t11,t12,t13,t14,U,U]) (
  yfy [1,1] (yev K E) #[x0,x1,U,U,(.int .u16 0),t4,x0,t1,t2,t3,t4,t8,x0,t5,t6,t7,t8,U,U,U,U,U,U,U,U,U])):=by kernel_rfl
theorem yll:yfy [1,1] (yev K E) #[x0,x1,x2,x3,x4,x5,x6,x7,x8,x9,x10,x11,x12,x13,x14,x15,x16,x17,x18,x19,x20,x21,x22,x23,x24,x25] =
 zbq Tryz.prog x1 #[] (λt1=>
 K t1) E:=by kernel_rfl
abbrev qdb:QD:=za7 Tryz.prog Tryz.f133.results.toList K E
abbrev qaf (p:List Nat):QD -> Env -> Hp -> Prop:=den Tryz.prog (sel (za3 Tryz.f133) p)
abbrev yto:QD:=za7 Tryz.prog Tryz.f134.results.toList K E
abbrev yv3 (p:List Nat):QD -> Env -> Hp -> Prop:=den Tryz.prog (sel (za3 Tryz.f134) p)
theorem yvf:yv3 [] (yto K E) #[x0,U,U,U,U,U,U,U,U] =
 ld false 1 x0 λt1=>
 ld false 1 x0 λt2=>
 pv (zai t2) λt3=>
 pv (faV 0 t3) λt4=>
 cF 65 #[t4] (λt5 h6=>(ldV h6 false 1 x0 t1)∧(
  pv (zai t1) λt7=>
  pv (faV 3 t7) λt8=>
  st 1 t8 t5 λ_=>
  K (.int .u16 0)) h6) E:=by kernel_rfl
abbrev yw2:QD:=za7 Tryz.prog Tryz.f146.results.toList K E
abbrev yyo (p:List Nat):QD -> Env -> Hp -> Prop:=den Tryz.prog (sel (za3 Tryz.f146) p)
theorem yxa:yyo [] (yw2 K E) #[x0,x1,U,U,U,U,U,U] =
 nw 29 (Value.cells x0).toList λt1=>
 nw 44 (Value.cells x1).toList λt2=>
 ld false 1 t1 λt3=>
 cF 132 #[t3,(.func (.func 203) #[] #[t2,t1])] (λt4=>
 K t4) E:=by kernel_rfl
abbrev yu9:QD:=za7 Tryz.prog Tryz.f203.results.toList K E
abbrev yyn (p:List Nat):QD -> Env -> Hp -> Prop:=den Tryz.prog (sel (za3 Tryz.f203) p)
theorem yvn:yyn [] (yu9 K E) #[x0,x1,U,U,U,U,U,U,U,U,U,U,U,U,U,U,U,U,U,U] =
 ld false 1 x0 λt1=>
 pv (zac t1) λt2=>
 ld false 1 x1 λt3=>
 pv (zai t3) λt4=>
 pv (faV 4 t4) λt5=>
 ld false 1 t5 λt6=>
 ld false 1 x1 λt7=>
 pv (zai t7) λt8=>
 pv (faV 0 t8) λt9=>
 cF 65 #[t9] (λt10 h11=>(ldV h11 false 1 t5 t6)∧(ldV h11 false 1 x1 t3)∧(ldV h11 false 1 x0 t1)∧(
  pv (za1 .none .sub t6 t10) λt12=>
  pv (za1 .none .gtr t2 t12) λt13=>
  cnd t13 (
  K (.int .u16 100)) (
  ld false 1 x1 λt14=>
  pv (zai t14) λt15=>
  pv (faV 0 t15) λt16=>
  ld false 1 x0 λt17=>
  cF 204 #[t16,t17] (λt18=>
  K (.int .u16 0)) E)) h11) E:=by kernel_rfl
abbrev q39:QD:=za7 Tryz.prog Tryz.f39.results.toList K E
abbrev d39 (p:List Nat):QD -> Env -> Hp -> Prop:=den Tryz.prog (sel (za3 Tryz.f39) p)
theorem t39:d39 [] (q39 K E) #[x0,U,U,U,U,U,U,U,U,U,U,U,U,U,U,U,U,U,U,U,U,U,U,U,U,U,U,U,U,U,U,U,U,U,U,U] =
 cF 33 #[x0] (λt1=>
 cF 88 #[t1] (λt2=>
 pv (exV 0 t2) λt3=>
 pv (exV 1 t2) λt4=>
 pv (zac t1) λt5=>
 pv (za1 .none .lss t4 t5) λt6=>
 cnd t6 (
  cF 89 #[x0,t4] (λt7=>
  pv (za1 .none .neq t7 (.int .u16 0)) λt8=>
  cnd t8 (
  K (.tuple #[(.pointer none),(.slice none 0 0),t7])) (
  d39 [1,1,1,1] (q39 K E) #[x0,U,(.pointer none),(.slice none 0 0),(.int .u16 0),t1,t3,t4,t7,U,x0,t1,t2,t1,t2,t3,t4,t4,t1,t5,t6,x0,t4,t7,t7,t8,U,U,U,U,U,U,U,U,U,U])) E) (
  d39 [1,1,1,1] (q39 K E) #[x0,U,(.pointer none),(.slice none 0 0),(.int .u16 0),t1,t3,t4,U,U,x0,t1,t2,t1,t2,t3,t4,t4,t1,t5,t6,U,U,U,U,U,U,U,U,U,U,U,U,U,U,U])) E) E:=by kernel_rfl
theorem ydc:d39 [1,1,1,1] (q39 K E) #[x0,x1,x2,x3,x4,x5,x6,x7,x8,x9,x10,x11,x12,x13,x14,x15,x16,x17,x18,x19,x20,x21,x22,x23,x24,x25,x26,x27,x28,x29,x30,x31,x32,x33,x34,x35] =
 cF 90 #[x0] (λt1=>
 pv (za1 .none .neq t1 (.int .u16 0)) λt2=>
 cnd t2 (
  K (.tuple #[(.pointer none),(.slice none 0 0),t1])) (
  pv (bdC #[(.pointer none)] [(0,1)] #[(0,x0)]) λt3=>
  nw 189 (Value.cells t3).toList λt4=>
  K (.tuple #[t4,x6,(.int .u16 0)]))) E:=by kernel_rfl
abbrev q88:QD:=za7 Tryz.prog Tryz.f88.results.toList K E
abbrev d88 (p:List Nat):QD -> Env -> Hp -> Prop:=den Tryz.prog (sel (za3 Tryz.f88) p)
abbrev zzk:=za8 k1 (blk 0 (za8 (d88 [1,1,1,1,1] (q88 K E)) (q88 K E)))
def zd2 (j:Nat -> Value):Env:=#[x0,x1,x2,x3,x4,x5,v6,v7,x8,(j 9),(j 10),(j 11),(j 12),(j 13),x14,x15,x16,x17,x18,x19,x20,v21,(j 22),(j 23),(j 24),(j 25),(j 26),(j 27),(j 28),(j 29),(j 30),(j 31),(j 32),(j 33),(j 34),(j 35),(j 36),(j 37),(j 38),(j 39),(j 40),(j 41),(j 42),(j 43),(j 44),(j 45),x46,x47]
theorem t88:d88 [] (q88 K E) #[x0,U,U,U,U,U,U,U,U,U,U,U,U,U,U,U,U,U,U,U,U,U,U,U,U,U,U,U,U,U,U,U,U,U,U,U,U,U,U,U,U,U,U,U,U,U,U,U] =
 cF 130 #[x0] (λt1=>
 pv (exV 0 t1) λt2=>
 pv (exV 1 t1) λt3=>
 pv (zac t2) λt4=>
 lp (λk1=>d88 [1,1,1,1,0,1,0,0] (zzk K E k1)) (zd2 x0 U (.slice none 0 0) (.int .i64 0) t2 t3 U t1 x0 t1 t2 t3 t2 t4 U U (.slice none 0 0) (.int .i64 0) (.int .i64 0) (jf #[]))) E:=by kernel_rfl
theorem zpc:d88 [1,1,1,1,0,1,0,0] (zzk K E k1) (zd2 x0 x1 x2 x3 x4 x5 x8 x14 x15 x16 x17 x18 x19 x20 x46 x47 v6 v7 v21 j) =
 pv (za1 .none .lss v21 x20) λt1=>
 cnd t1 (
  pv (iaV none 1 x19 v21) λt2=>
  ld false 1 t2 λt3=>
  cF 95 #[t3] (λt4=>
  pv (exV 0 t4) λt5=>
  pv (exV 1 t4) λt6=>
  nw 77 [(.int .u8 0),(.int .u32 0),(.int .u32 0),(.slice none 0 0),(.slice none 0 0),(.int .u32 0),(.slice none 0 0),(.int .i64 0),(.int .i64 0),(.slice none 0 0)] λt7=>
  st 10 t7 t5 λ_=>
  pv (za1 .none .neq t6 (.int .u16 0)) λt8=>
  cnd t8 (
  d88 [1,1,1,1,1] (q88 K E) #[x0,x1,x2,x3,x4,x5,v6,v7,x8,t3,t7,t6,(j 12),(j 13),x14,x15,x16,x17,x18,x19,x20,v21,t1,t2,t3,t4,t3,t4,t5,t6,t6,t8,(j 32),(j 33),(j 34),(j 35),(j 36),(j 37),(j 38),(j 39),(j 40),(j 41),(j 42),(j 43),(j 44),(j 45),x46,x47]) (
  cF 131 #[t3] (λt9=>
  pv (exV 0 t9) λt10=>
  pv (exV 1 t9) λt11=>
  pv (zac t10) λt12=>
  pv (za1 .none .add v7 t12) λt13=>
  ld true 10 t7 λt14=>
  nws 77 1 (bsC #[(.int .u8 0),(.int .u32 0),(.int .u32 0),(.slice none 0 0),(.slice none 0 0),(.int .u32 0),(.slice none 0 0),(.int .i64 0),(.int .i64 0),(.slice none 0 0)] 10 1 #[(0,t14)]) λt15=>
  zek 77 10 136 v6 t15 λt16=>
  pv (za1 .none .add v21 (.int .i64 1)) λt17=>
  k1 (zd2 x0 x1 x2 x3 x4 x5 x8 x14 x15 x16 x17 x18 x19 x20 x46 x47 t16 t13 t17 (jf #[U,U,U,U,U,U,U,U,U,t3,t7,t6,t10,t11,U,U,U,U,U,U,U,U,t1,t2,t3,t4,t3,t4,t5,t6,t6,t8,t9,t3,t9,t10,t11,v7,t10,t12,t13,v6,t14,t15,t16,t17]))) E)) E) (
  d88 [1,1,1,1,1] (q88 K E) #[x0,x1,x2,x3,x4,x5,v6,v7,x8,(j 9),(j 10),(j 11),(j 12),(j 13),x14,x15,x16,x17,x18,x19,x20,v21,t1,(j 23),(j 24),(j 25),(j 26),(j 27),(j 28),(j 29),(j 30),(j 31),(j 32),(j 33),(j 34),(j 35),(j 36),(j 37),(j 38),(j 39),(j 40),(j 41),(j 42),(j 43),(j 44),(j 45),x46,x47]):=by kernel_rfl
theorem zz9:d88 [1,1,1,1,1] (q88 K E) #[x0,x1,x2,x3,x4,x5,x6,x7,x8,x9,x10,x11,x12,x13,x14,x15,x16,x17,x18,x19,x20,x21,x22,x23,x24,x25,x26,x27,x28,x29,x30,x31,x32,x33,x34,x35,x36,x37,x38,x39,x40,x41,x42,x43,x44,x45,x46,x47] =
 K (.tuple #[x6,x7]):=by kernel_rfl
abbrev yut:QD:=za7 Tryz.prog Tryz.f100.results.toList K E
abbrev yx5 (p:List Nat):QD -> Env -> Hp -> Prop:=den Tryz.prog (sel (za3 Tryz.f100) p)
theorem zpk:yx5 [] (yut K E) #[x0,x1,U,U,U,U,U,U,U,U,U,U,U,U,U,U,U,U,U,U,U,U,U,U,U,U,U,U,U,U] =
 nw 77 (Value.cells x1).toList λt1=>
 ld true 10 t1 λt2=>
 cF 138 #[t2] (λt3=>
 pv (exV 0 t3) λt4=>
 pv (exV 1 t3) λt5=>
 pv (za1 .none .neq t5 (.int .u16 0)) λt6=>
 cnd t6 (
  K t5) (
  cF 131 #[t4] (λt7=>
  pv (exV 0 t7) λt8=>
  pv (exV 1 t7) λt9=>
  pv (za1 .none .neq t9 (.int .u16 0)) λt10=>
  cnd t10 (
  K t9) (
  pv (zai x0) λt11=>
  pv (faV 0 t11) λt12=>
  ld false 1 t12 λt13=>
  cF 146 #[t13,t8] (λt14=>
  K t14) E)) E)) E:=by kernel_rfl
abbrev yei:QD:=za7 Tryz.prog Tryz.f145.results.toList K E
abbrev yeu (p:List Nat):QD -> Env -> Hp -> Prop:=den Tryz.prog (sel (za3 Tryz.f145) p)
theorem yuw:yeu [] (yei K E) #[x0,x1,U,U,U,U,U,U,U,U,U,U,U,U,U,U,U,U,U,U,U,U,U,U,U,U,U,U,U,U,U,U,U,U] =
 nw 77 (Value.cells x1).toList λt1=>
 pv (zai x0) λt2=>
 pv (faV 0 t2) λt3=>
 ld false 1 t3 λt4=>
 cF 33 #[t4] (λt5=>
 pv (zac t5) λt6=>
 ld true 10 t1 λt7=>
 cF 100 #[x0,t7] (λt8=>
 pv (za1 .none .neq t8 (.int .u16 0)) λt9=>
 cnd t9 (
  K t8) (
  pv (zai x0) λt10=>
  pv (faV 0 t10) λt11=>
  ld false 1 t11 λt12=>
  cF 90 #[t12] (λt13=>
  pv (za1 .none .neq t13 (.int .u16 0)) λt14=>
  cnd t14 (
  pv (zai x0) λt15=>
  pv (faV 0 t15) λt16=>
  ld false 1 t16 λt17=>
  cF 89 #[t17,t6] (λt18=>
  yeu [1,1,1,1,1] (yei K E) #[x0,x1,U,t1,(.int .u16 0),t6,t8,t13,x0,t2,t3,t4,t5,t6,x0,t7,t8,t8,t9,U,x0,t10,t11,t12,t13,t13,t14,x0,t15,t16,t17,t6,t18,U]) E) (
  yeu [1,1,1,1,1] (yei K E) #[x0,x1,U,t1,(.int .u16 0),t6,t8,t13,x0,t2,t3,t4,t5,t6,x0,t7,t8,t8,t9,U,x0,t10,t11,t12,t13,t13,t14,U,U,U,U,U,U,U])) E)) E) E:=by kernel_rfl
theorem zx9:yeu [1,1,1,1,1] (yei K E) #[x0,x1,x2,x3,x4,x5,x6,x7,x8,x9,x10,x11,x12,x13,x14,x15,x16,x17,x18,x19,x20,x21,x22,x23,x24,x25,x26,x27,x28,x29,x30,x31,x32,x33] =
 K x7:=by kernel_rfl
end
section
variable {K:zae} {E:zb2} {k1:Env -> Hp -> Prop} {σ:Type} {x0 x1 x2 x3 x4 x5 x8 x14 x15 x16 x17 x18 x19 x20 x46 x47 v6 v7 v21:Value} {h:Hp} {j:Nat -> Value}
theorem zpd (f6 f7 f21:σ -> Value) (I:σ -> Hp -> Prop) (μ:σ -> Nat) (s0:σ) (e6:v6=f6 s0) (e7:v7=f7 s0) (e21:v21=f21 s0) (h0:h.wf -> ∃ h',h.wk h'∧I s0 h')
 (round:∀ (k1:Env -> Hp -> Prop) (s:σ) (j:Nat -> Value) (h:Hp),I s h -> h.wf -> (∀ s' j' h',μ s'<μ s -> (h'.wf -> ∃ h'',h'.wk h''∧I s' h'') -> k1 (zd2 x0 x1 x2 x3 x4 x5 x8 x14 x15 x16 x17 x18 x19 x20 x46 x47 (f6 s') (f7 s') (f21 s') j') h') -> d88 [1,1,1,1,0,1,0,0] (zzk K E k1) (zd2 x0 x1 x2 x3 x4 x5 x8 x14 x15 x16 x17 x18 x19 x20 x46 x47 (f6 s) (f7 s) (f21 s) j) h) :
 lp (λk1=>d88 [1,1,1,1,0,1,0,0] (zzk K E k1)) (zd2 x0 x1 x2 x3 x4 x5 x8 x14 x15 x16 x17 x18 x19 x20 x46 x47 v6 v7 v21 j) h:=by
 subst e6;subst e7;subst e21;exact zaw _ I μ round s0 j h0
end
section
variable (K:zae) (E:zb2) (k1 k2:Env -> Hp -> Prop) (x0 x1 x2 x3 x4 x5 x6 x7 x8 x9 x10 x11 x12 x13 x14 x15 x16 x17 x18 x19 x20 x21 x22 x23 x24 x25 x26 x27 x28 x29 x30 x31 x32 x33 x34 x35 x36 x37 x38 x39 x40 x41 x42 x43 x44 x45 x46 x47 x48 x49 x50 x51 x52 x53 x54 x55 x56 x57 x58 x59 x60 x61 x62 x63 x64 x65 x66 x67 x68 x69 x70 x71 x72 x73 x74 x75 x76 x77 x78 x79 x80 x81 x82 x83 x84 x85 x86 x87 x88 x89 x90 x91 x92 x93 x94 x95 x96 x97 x98 x99 x100 x101 x102 x103 x104 x105 x106 x107 x108 x109 x110 x111 x112 x113 x114 x115 x116 x117 x118 x119 x120 x121 x122 x123 x124 x125 x126 x127 x128 x129 x130 x131 x132 x133 x134 x135 x136 x137 x138 x139 x140 x141 v17 v29 v33:Value) (j:Nat -> Value)
abbrev q12:QD:=za7 Tryz.prog Tryz.f12.results.toList K E
abbrev d12 (p:List Nat):QD -> Env -> Hp -> Prop:=den Tryz.prog (sel (za3 Tryz.f12) p)
abbrev zzp:=za8 k1 (blk 0 (za8 (d12 [1,1,1,1,1,1] (q12 K E)) (q12 K E)))
def zcl (j:Nat -> Value):Env:=#[x0,x1,x2,x3,x4,x5,x6,x7,x8,x9,x10,x11,x12,(j 13),x14,x15,x16,x17,x18,x19,x20,x21,x22,x23,x24,x25,x26,x27,x28,v29,(j 30),(j 31),(j 32),(j 33),(j 34),(j 35),(j 36),x37,x38,x39,x40,x41]
theorem t12:d12 [] (q12 K E) #[x0,x1,x2,U,U,U,U,U,U,U,U,U,U,U,U,U,U,U,U,U,U,U,U,U,U,U,U,U,U,U,U,U,U,U,U,U,U,U,U,U,U,U] =
 cF 38 #[x1] (λt1=>
 pv (za1 .ptr .eql t1 (.pointer none)) λt2=>
 cnd t2 (
  K (.tuple #[(.pointer none),(.int .u16 30)])) (
  cF 39 #[x2] (λt3=>
  pv (exV 0 t3) λt4=>
  pv (exV 1 t3) λt5=>
  pv (exV 2 t3) λt6=>
  pv (za1 .none .neq t6 (.int .u16 0)) λt7=>
  cnd t7 (
  K (.tuple #[(.pointer none),t6])) (
  pv (zac t5) λt8=>
  lp (λk1=>d12 [1,1,1,1,1,0,1,0,0] (zzp K E k1)) (zcl x0 x1 x2 U U U (.pointer none) (.int .u16 0) t1 t4 t5 t6 U x1 t1 t1 t2 t3 x2 t3 t4 t5 t6 t6 t7 U t5 t8 U U U U U (.int .i64 0) (jf #[])))) E)) E:=by kernel_rfl
theorem zne:d12 [1,1,1,1,1,0,1,0,0] (zzp K E k1) (zcl x0 x1 x2 x3 x4 x5 x6 x7 x8 x9 x10 x11 x12 x14 x15 x16 x17 x18 x19 x20 x21 x22 x23 x24 x25 x26 x27 x28 x37 x38 x39 x40 x41 v29 j) =
 pv (za1 .none .lss v29 x28) λt1=>
 cnd t1 (
  pv (iaV none 10 x27 v29) λt2=>
  ld true 10 t2 λt3=>
  nw 77 [(.int .u8 0),(.int .u32 0),(.int .u32 0),(.slice none 0 0),(.slice none 0 0),(.int .u32 0),(.slice none 0 0),(.int .i64 0),(.int .i64 0),(.slice none 0 0)] λt4=>
  st 10 t4 t3 λ_=>
  ld true 10 t4 λt5=>
  cF 40 #[x8,t5] (λt6=>
  pv (za1 .none .add v29 (.int .i64 1)) λt7=>
  k1 (zcl x0 x1 x2 x3 x4 x5 x6 x7 x8 x9 x10 x11 x12 x14 x15 x16 x17 x18 x19 x20 x21 x22 x23 x24 x25 x26 x27 x28 x37 x38 x39 x40 x41 t7 (jf #[U,U,U,U,U,U,U,U,U,U,U,U,U,t4,U,U,U,U,U,U,U,U,U,U,U,U,U,U,U,U,t1,t2,t3,x8,t5,t6,t7]))) E) (
  pv (bdC #[(.pointer none),(.pointer none),(.int .i64 0),(.slice none 0 0)] [(0,1),(1,1),(2,1),(3,1)] #[(0,x9),(1,x8),(2,x0)]) λt8=>
  nw 126 (Value.cells t8).toList λt9=>
  K (.tuple #[t9,(.int .u16 0)])):=by kernel_rfl
abbrev q13:QD:=za7 Tryz.prog Tryz.f13.results.toList K E
abbrev d13 (p:List Nat):QD -> Env -> Hp -> Prop:=den Tryz.prog (sel (za3 Tryz.f13) p)
theorem t13:d13 [] (q13 K E) #[x0,U,U,U,U,U,U] =
 pv (zai x0) λt1=>
 pv (faV 1 t1) λt2=>
 ld false 1 t2 λt3=>
 K t3:=by kernel_rfl
abbrev q16:QD:=za7 Tryz.prog Tryz.f16.results.toList K E
abbrev d16 (p:List Nat):QD -> Env -> Hp -> Prop:=den Tryz.prog (sel (za3 Tryz.f16) p)
def c16 (t1 t2 t3 t4 t5 t6 t7 t8 t9 t10 t11 t12 t13 t14 t15 t16 t17 t18:Value):Hp -> Prop :=
  pv (faV 0 t6) λt19=>
  ld false 1 t19 λt20=>
  pv (za1 .none .eql t20 (.int .u8 1)) λt21=>
  cnd t21 (
   ld false 1 t1 λt22=>
   ld true 8 t6 λt23=>
   pv (faV 0 t18) λt24=>
   ld false 1 t24 λt25=>
   cF 45 #[t22,t23,t25] (λt26=>
   zbq Tryz.prog (.func (.func 43) #[] #[t1,t2,t6]) #[t26] (λt27=>
   d16 [1,1,1,1,1,1,1] (q16 K E) #[x0,x1,x2,t1,t2,U,(.slice none 0 0),(.int .u16 0),t6,t5,t18,(.func (.func 43) #[] #[t1,t2,t6]),t3,x2,t3,t4,t5,t5,t7,U,t8,t9,t10,t11,t12,t13,t14,t15,t16,t17,(.func (.func 43) #[] #[t1,t2,t6]),t21,t19,t20,t21,(.func (.func 43) #[] #[t1,t2,t6]),t22,t23,t24,t25,t26,t27,U,U,U,U,U,U,U,U,U,U,U,U,U,U,U,U,U,U,U,U,U,U,U,U,U,U,U,U,U,U,U,U,U,U,U,U,U,U,U,U,U,U,U,U,U,U,U,U,U,U,U,U,U,U,U,U,U,U,U,U,U,U,U,U,U,U,U,U,U,U,U,U,U,U,U,U,U,U,U,U,U,U,U,U,U,U,U,U,U,U,U,U,U,U,U,U,U,U,U,U]) E) E) (
   pv (faV 0 t6) λt28=>
   ld false 1 t28 λt29=>
   pv (za1 .none .eql t29 (.int .u8 4)) λt30=>
   gdK t30 true (λk=>ld false 1 t1 k) λt31=>
   gdK t30 true (λk=>ld true 8 t6 k) λt32=>
   gdK t30 true (λk=>pv (faV 0 t18) k) λt33=>
   gdK t30 true (λk=>ld false 1 t33 k) λt34=>
   gdK t30 true (λk=>cF 46 #[t31,t32,t34] k E) λt35=>
   pv (zad t30 t35 (.bool false)) λt36=>
   cnd t36 (
   zbq Tryz.prog (.func (.func 43) #[] #[t1,t2,t6]) #[(.int .u8 6)] (λt37=>
   d16 [1,1,1,1,1,1,1] (q16 K E) #[x0,x1,x2,t1,t2,U,(.slice none 0 0),(.int .u16 0),t6,t5,t18,(.func (.func 43) #[] #[t1,t2,t6]),t3,x2,t3,t4,t5,t5,t7,U,t8,t9,t10,t11,t12,t13,t14,t15,t16,t17,(.func (.func 43) #[] #[t1,t2,t6]),t21,t19,t20,t21,U,U,U,U,U,U,U,t36,t28,t29,t30,t30,t31,t32,t33,t34,t35,t36,(.func (.func 43) #[] #[t1,t2,t6]),t37,U,U,U,U,U,U,U,U,U,U,U,U,U,U,U,U,U,U,U,U,U,U,U,U,U,U,U,U,U,U,U,U,U,U,U,U,U,U,U,U,U,U,U,U,U,U,U,U,U,U,U,U,U,U,U,U,U,U,U,U,U,U,U,U,U,U,U,U,U,U,U,U,U,U,U,U,U,U,U,U,U,U,U,U,U,U,U]) E) (
   pv (faV 0 t6) λt38=>
   ld false 1 t38 λt39=>
   pv (za1 .none .eql t39 (.int .u8 5)) λt40=>
   cnd t40 (
    ld false 1 t1 λt41=>
    pv (faV 1 t6) λt42=>
    ld false 1 t42 λt43=>
    pv (faV 0 t18) λt44=>
    ld false 1 t44 λt45=>
    cF 47 #[t41,t43,t45] (λt46=>
    d16 [1,1,1,1,1,1,1] (q16 K E) #[x0,x1,x2,t1,t2,U,(.slice none 0 0),(.int .u16 0),t6,t5,t18,(.func (.func 43) #[] #[t1,t2,t6]),t3,x2,t3,t4,t5,t5,t7,U,t8,t9,t10,t11,t12,t13,t14,t15,t16,t17,(.func (.func 43) #[] #[t1,t2,t6]),t21,t19,t20,t21,U,U,U,U,U,U,U,t36,t28,t29,t30,t30,t31,t32,t33,t34,t35,t36,U,U,t40,t38,t39,t40,t41,t42,t43,t44,t45,t46,U,U,U,U,U,U,U,U,U,U,U,U,U,U,U,U,U,U,U,U,U,U,U,U,U,U,U,U,U,U,U,U,U,U,U,U,U,U,U,U,U,U,U,U,U,U,U,U,U,U,U,U,U,U,U,U,U,U,U,U,U,U,U,U,U,U,U,U,U,U,U,U,U,U,U,U,U]) E) (
    pv (faV 0 t6) λt47=>
    ld false 1 t47 λt48=>
    pv (za1 .none .eql t48 (.int .u8 7)) λt49=>
    gdK t49 true (λk=>pv (faV 0 t18) k) λt50=>
    gdK t49 true (λk=>ld false 1 t50 k) λt51=>
    gdK t49 true (λk=>pv (za1 .none .eql t51 (.int .u8 2)) k) λt52=>
    pv (zad t49 t52 (.bool false)) λt53=>
    cnd t53 (
    ld false 1 t1 λt54=>
    ld false 1 t2 λt55=>
    pv (faV 1 t6) λt56=>
    ld false 1 t56 λt57=>
    pv (faV 1 t18) λt58=>
    ld false 1 t58 λt59=>
    pv (bdC #[(.int .u8 0),(.int .u32 0),(.int .u32 0),(.slice none 0 0),(.slice none 0 0),(.int .i64 0),(.int .i64 0),(.slice none 0 0)] [(0,1),(1,1),(2,1),(3,1),(4,1),(5,1),(6,1),(7,1)] #[(0,(.int .u8 4)),(1,t57),(2,t59)]) λt60=>
    cF 44 #[t54,t55,t60] (λt61=>
    d16 [1,1,1,1,1,1,1] (q16 K E) #[x0,x1,x2,t1,t2,U,(.slice none 0 0),(.int .u16 0),t6,t5,t18,(.func (.func 43) #[] #[t1,t2,t6]),t3,x2,t3,t4,t5,t5,t7,U,t8,t9,t10,t11,t12,t13,t14,t15,t16,t17,(.func (.func 43) #[] #[t1,t2,t6]),t21,t19,t20,t21,U,U,U,U,U,U,U,t36,t28,t29,t30,t30,t31,t32,t33,t34,t35,t36,U,U,t40,t38,t39,t40,U,U,U,U,U,U,t53,t47,t48,t49,t49,t50,t51,t52,t53,t54,t55,t56,t57,t58,t59,t60,t61,U,U,U,U,U,U,U,U,U,U,U,U,U,U,U,U,U,U,U,U,U,U,U,U,U,U,U,U,U,U,U,U,U,U,U,U,U,U,U,U,U,U,U,U,U,U,U,U,U,U,U,U,U,U,U,U,U,U,U,U]) E) (
    pv (faV 0 t6) λt62=>
    ld false 1 t62 λt63=>
    pv (za1 .none .eql t63 (.int .u8 7)) λt64=>
    gdK t64 true (λk=>ld false 1 t1 k) λt65=>
    gdK t64 true (λk=>pv (faV 1 t6) k) λt66=>
    gdK t64 true (λk=>ld false 1 t66 k) λt67=>
    gdK t64 true (λk=>pv (faV 0 t18) k) λt68=>
    gdK t64 true (λk=>ld false 1 t68 k) λt69=>
    gdK t64 true (λk=>cF 48 #[t65,t67,t69] k E) λt70=>
    pv (zad t64 t70 (.bool false)) λt71=>
    cnd t71 (
     zbq Tryz.prog (.func (.func 43) #[] #[t1,t2,t6]) #[(.int .u8 5)] (λt72=>
     d16 [1,1,1,1,1,1,1] (q16 K E) #[x0,x1,x2,t1,t2,U,(.slice none 0 0),(.int .u16 0),t6,t5,t18,(.func (.func 43) #[] #[t1,t2,t6]),t3,x2,t3,t4,t5,t5,t7,U,t8,t9,t10,t11,t12,t13,t14,t15,t16,t17,(.func (.func 43) #[] #[t1,t2,t6]),t21,t19,t20,t21,U,U,U,U,U,U,U,t36,t28,t29,t30,t30,t31,t32,t33,t34,t35,t36,U,U,t40,t38,t39,t40,U,U,U,U,U,U,t53,t47,t48,t49,t49,t50,t51,t52,t53,U,U,U,U,U,U,U,U,t71,t62,t63,t64,t64,t65,t66,t67,t68,t69,t70,t71,(.func (.func 43) #[] #[t1,t2,t6]),t72,U,U,U,U,U,U,U,U,U,U,U,U,U,U,U,U,U,U,U,U,U,U,U,U,U,U,U,U,U,U,U,U,U,U,U,U,U,U,U,U,U,U,U,U,U,U]) E) (
     pv (faV 0 t6) λt73=>
     ld false 1 t73 λt74=>
     pv (za1 .none .eql t74 (.int .u8 8)) λt75=>
     gdK t75 true (λk=>ld false 1 t1 k) λt76=>
     gdK t75 true (λk=>pv (zai t76) k) λt77=>
     gdK t75 true (λk=>pv (faV 1 t77) k) λt78=>
     gdK t75 true (λk=>ld false 1 t78 k) λt79=>
     gdK t75 true (λk=>cF 21 #[t79] k E) λt80=>
     gdK t75 true (λk=>pv (zac t80) k) λt81=>
     gdK t75 true (λk=>pv (za1 .none .eql t81 (.int .i64 0)) k) λt82=>
     pv (zad t75 t82 (.bool false)) λt83=>
     cnd t83 (
     ld false 1 t1 λt84=>
     ld false 1 t2 λt85=>
     pv (faV 1 t6) λt86=>
     ld false 1 t86 λt87=>
     ld false 1 t1 λt88=>
     pv (zai t88) λt89=>
     pv (faV 1 t89) λt90=>
     ld false 1 t90 λt91=>
     pv (zai t91) λt92=>
     pv (faV 0 t92) λt93=>
     ld false 1 t93 λt94=>
     pv (faV 5 t6) λt95=>
     ld false 1 t95 λt96=>
     pv (faV 6 t6) λt97=>
     ld false 1 t97 λt98=>
     cF 19 #[t94,t96,t98] (λt99 h100=>(ldV h100 false 1 t1 t88)∧(ldV h100 false 1 t86 t87)∧(ldV h100 false 1 t2 t85)∧(ldV h100 false 1 t1 t84)∧(
      pv (bdC #[(.int .u8 0),(.int .u32 0),(.int .u32 0),(.slice none 0 0),(.slice none 0 0),(.int .i64 0),(.int .i64 0),(.slice none 0 0)] [(0,1),(1,1),(2,1),(3,1),(4,1),(5,1),(6,1),(7,1)] #[(0,(.int .u8 9)),(1,t87),(7,t99)]) λt101=>
      cF 44 #[t84,t85,t101] (λybh h103=>(ldV h103 false 1 t1 t88)∧(
      d16 [1,1,1,1,1,1,1] (q16 K E) #[x0,x1,x2,t1,t2,U,(.slice none 0 0),(.int .u16 0),t6,t5,t18,(.func (.func 43) #[] #[t1,t2,t6]),t3,x2,t3,t4,t5,t5,t7,U,t8,t9,t10,t11,t12,t13,t14,t15,t16,t17,(.func (.func 43) #[] #[t1,t2,t6]),t21,t19,t20,t21,U,U,U,U,U,U,U,t36,t28,t29,t30,t30,t31,t32,t33,t34,t35,t36,U,U,t40,t38,t39,t40,U,U,U,U,U,U,t53,t47,t48,t49,t49,t50,t51,t52,t53,U,U,U,U,U,U,U,U,t71,t62,t63,t64,t64,t65,t66,t67,t68,t69,t70,t71,U,U,t83,t73,t74,t75,t75,t76,t77,t78,t79,t80,t81,t82,t83,t84,t85,t86,t87,t88,t89,t90,t91,t92,t93,t94,t95,t96,t97,t98,t99,t101,ybh,U,U,U,U,U,U,U,U,U,U,U,U,U,U,U]) h103) E) h100) E) (
     pv (faV 0 t6) λzse=>
     ld false 1 zse λzsm=>
     pv (za1 .none .eql zsm (.int .u8 10)) λzhi=>
     gdK zhi true (λk=>ld false 1 t1 k) λzsy=>
     gdK zhi true (λk=>ld true 8 t6 k) λzta=>
     gdK zhi true (λk=>cF 49 #[zsy,zta] k E) λt109=>
     pv (zad zhi t109 (.bool false)) λzp0=>
     cnd zp0 (
      zbq Tryz.prog (.func (.func 43) #[] #[t1,t2,t6]) #[(.int .u8 11)] (λt111=>
      d16 [1,1,1,1,1,1,1] (q16 K E) #[x0,x1,x2,t1,t2,U,(.slice none 0 0),(.int .u16 0),t6,t5,t18,(.func (.func 43) #[] #[t1,t2,t6]),t3,x2,t3,t4,t5,t5,t7,U,t8,t9,t10,t11,t12,t13,t14,t15,t16,t17,(.func (.func 43) #[] #[t1,t2,t6]),t21,t19,t20,t21,U,U,U,U,U,U,U,t36,t28,t29,t30,t30,t31,t32,t33,t34,t35,t36,U,U,t40,t38,t39,t40,U,U,U,U,U,U,t53,t47,t48,t49,t49,t50,t51,t52,t53,U,U,U,U,U,U,U,U,t71,t62,t63,t64,t64,t65,t66,t67,t68,t69,t70,t71,U,U,t83,t73,t74,t75,t75,t76,t77,t78,t79,t80,t81,t82,t83,U,U,U,U,U,U,U,U,U,U,U,U,U,U,U,U,U,U,zp0,zse,zsm,zhi,zhi,zsy,zta,t109,zp0,(.func (.func 43) #[] #[t1,t2,t6]),t111,U,U,U,U]) E) (
      d16 [1,1,1,1,1,1,1] (q16 K E) #[x0,x1,x2,t1,t2,U,(.slice none 0 0),(.int .u16 0),t6,t5,t18,(.func (.func 43) #[] #[t1,t2,t6]),t3,x2,t3,t4,t5,t5,t7,U,t8,t9,t10,t11,t12,t13,t14,t15,t16,t17,(.func (.func 43) #[] #[t1,t2,t6]),t21,t19,t20,t21,U,U,U,U,U,U,U,t36,t28,t29,t30,t30,t31,t32,t33,t34,t35,t36,U,U,t40,t38,t39,t40,U,U,U,U,U,U,t53,t47,t48,t49,t49,t50,t51,t52,t53,U,U,U,U,U,U,U,U,t71,t62,t63,t64,t64,t65,t66,t67,t68,t69,t70,t71,U,U,t83,t73,t74,t75,t75,t76,t77,t78,t79,t80,t81,t82,t83,U,U,U,U,U,U,U,U,U,U,U,U,U,U,U,U,U,U,zp0,zse,zsm,zhi,zhi,zsy,zta,t109,zp0,U,U,U,U,U,U])))))))
theorem t16:d16 [] (q16 K E) #[x0,x1,x2,U,U,U,U,U,U,U,U,U,U,U,U,U,U,U,U,U,U,U,U,U,U,U,U,U,U,U,U,U,U,U,U,U,U,U,U,U,U,U,U,U,U,U,U,U,U,U,U,U,U,U,U,U,U,U,U,U,U,U,U,U,U,U,U,U,U,U,U,U,U,U,U,U,U,U,U,U,U,U,U,U,U,U,U,U,U,U,U,U,U,U,U,U,U,U,U,U,U,U,U,U,U,U,U,U,U,U,U,U,U,U,U,U,U,U,U,U,U,U,U,U,U,U,U,U,U,U,U,U,U,U,U,U,U,U,U,U,U,U] =
 nw 31 (Value.cells x0).toList λt1=>
 nw 3 (Value.cells x1).toList λt2=>
 cF 42 #[x2] (λt3=>
 pv (exV 0 t3) λt4=>
 pv (exV 1 t3) λt5=>
 nw 49 [(.int .u8 0),(.int .u32 0),(.int .u32 0),(.slice none 0 0),(.slice none 0 0),(.int .i64 0),(.int .i64 0),(.slice none 0 0)] λt6=>
 st 8 t6 t4 λ_=>
 pv (za1 .none .neq t5 (.int .u16 0)) λt7=>
 cnd t7 (
  K (.tuple #[(.slice none 0 0),t5])) (
  ld false 1 t1 λt8=>
  pv (zai t8) λt9=>
  pv (faV 3 t9) λt10=>
  st 1 t10 (.slice none 0 0) λ_=>
  ld false 1 t1 λt11=>
  pv (zai t11) λt12=>
  pv (faV 1 t12) λt13=>
  ld false 1 t13 λt14=>
  pv (faV 1 t6) λt15=>
  ld false 1 t15 λt16=>
  bth (
  cF 28 #[t14,t16] (λt17=>
  nw 85 [(.int .u8 0),(.int .u32 0)] λt18=>
  st 2 t18 t17 λ_=>
   c16 K E x0 x1 x2 t1 t2 t3 t4 t5 t6 t7 t8 t9 t10 t11 t12 t13 t14 t15 t16 t17 t18) E) (
  nw 85 [(.int .u8 0),(.int .u32 0)] (λt112 h113=>(ldV h113 false 1 t15 t16)∧(ldV h113 false 1 t13 t14)∧(ldV h113 false 1 t1 t11)∧(
   cF 28 #[t14,t16] (λt114=>
   st 2 t112 t114 λ_=>
   c16 K E x0 x1 x2 t1 t2 t3 t4 t5 t6 t7 t8 t9 t10 t11 t12 t13 t14 t15 t16 t114 t112) E) h113)))) E:=by kernel_rfl
theorem zap:d16 [1,1,1,1,1,1,1] (q16 K E) #[x0,x1,x2,x3,x4,x5,x6,x7,x8,x9,x10,x11,x12,x13,x14,x15,x16,x17,x18,x19,x20,x21,x22,x23,x24,x25,x26,x27,x28,x29,x30,x31,x32,x33,x34,x35,x36,x37,x38,x39,x40,x41,x42,x43,x44,x45,x46,x47,x48,x49,x50,x51,x52,x53,x54,x55,x56,x57,x58,x59,x60,x61,x62,x63,x64,x65,x66,x67,x68,x69,x70,x71,x72,x73,x74,x75,x76,x77,x78,x79,x80,x81,x82,x83,x84,x85,x86,x87,x88,x89,x90,x91,x92,x93,x94,x95,x96,x97,x98,x99,x100,x101,x102,x103,x104,x105,x106,x107,x108,x109,x110,x111,x112,x113,x114,x115,x116,x117,x118,x119,x120,x121,x122,x123,x124,x125,x126,x127,x128,x129,x130,x131,x132,x133,x134,x135,x136,x137,x138,x139,x140,x141] =
 ld false 1 x3 λt1=>
 pv (zai t1) λt2=>
 pv (faV 3 t2) λt3=>
 ld false 1 t3 λt4=>
 K (.tuple #[t4,(.int .u16 0)]):=by kernel_rfl
abbrev q36:QD:=za7 Tryz.prog Tryz.f36.results.toList K E
abbrev d36 (p:List Nat):QD -> Env -> Hp -> Prop:=den Tryz.prog (sel (za3 Tryz.f36) p)
abbrev zp2:=za8 k2 (blk 2 (blk 1 (za8 (d36 [1,1,0,1,0,0,1,1,1] (za8 k1 (blk 0 (za8 (d36 [1,1,1] (q36 K E)) (q36 K E))))) (za8 k1 (blk 0 (za8 (d36 [1,1,1] (q36 K E)) (q36 K E)))))))
abbrev ya0:=za8 k1 (blk 0 (za8 (d36 [1,1,1] (q36 K E)) (q36 K E)))
def zem (j:Nat -> Value):Env:=#[x0,x1,x2,x3,(j 4),(j 5),x6,(j 7),x8,x9,x10,x11,x12,x13,x14,x15,x16,v17,(j 18),(j 19),(j 20),(j 21),(j 22),(j 23),(j 24),(j 25),(j 26),(j 27),(j 28),(j 29),(j 30),(j 31),(j 32),(j 33),(j 34),(j 35),(j 36),(j 37),(j 38),(j 39),(j 40),(j 41),(j 42),(j 43),(j 44),(j 45),(j 46),(j 47),(j 48),x49,x50,x51,x52]
def zbj (j:Nat -> Value):Env:=#[x0,x1,x2,x3,x4,x5,x6,(j 7),x8,x9,x10,x11,x12,x13,x14,x15,x16,x17,x18,x19,x20,x21,x22,x23,x24,x25,x26,x27,x28,x29,x30,x31,x32,v33,(j 34),(j 35),(j 36),(j 37),(j 38),(j 39),(j 40),(j 41),(j 42),(j 43),(j 44),(j 45),(j 46),(j 47),x48,x49,x50,x51,x52]
theorem t36:d36 [] (q36 K E) #[x0,U,U,U,U,U,U,U,U,U,U,U,U,U,U,U,U,U,U,U,U,U,U,U,U,U,U,U,U,U,U,U,U,U,U,U,U,U,U,U,U,U,U,U,U,U,U,U,U,U,U,U,U] =
 pv (zai x0) λt1=>
 pv (faV 3 t1) λt2=>
 st 1 t2 (.slice none 0 0) λ_=>
 pv (zai x0) λt3=>
 pv (faV 1 t3) λt4=>
 ld false 1 t4 λt5=>
 cF 21 #[t5] (λt6=>
 pv (zac t6) λt7=>
 lp (λk1=>d36 [1,1,0,1,0,0] (ya0 K E k1)) (zem x0 U (.slice none 0 0) U U x0 t1 t2 x0 t3 t4 t5 t6 t7 U U U U (.int .i64 0) (jf #[]))) E:=by kernel_rfl
theorem zw8:d36 [1,1,0,1,0,0] (ya0 K E k1) (zem x0 x1 x2 x3 x6 x8 x9 x10 x11 x12 x13 x14 x15 x16 x49 x50 x51 x52 v17 j) =
 pv (za1 .none .lss v17 x16) λt1=>
 cnd t1 (
  pv (iaV none 1 x15 v17) λt2=>
  ld false 1 t2 λt3=>
  pv (bdC #[(.int .u8 0),(.int .u32 0),(.int .u32 0),(.slice none 0 0),(.slice none 0 0),(.int .i64 0),(.int .i64 0),(.slice none 0 0)] [(0,1),(1,1),(2,1),(3,1),(4,1),(5,1),(6,1),(7,1)] #[(0,(.int .u8 7)),(1,t3)]) λt4=>
  nw 49 [(.int .u8 0),(.int .u32 0),(.int .u32 0),(.slice none 0 0),(.slice none 0 0),(.int .i64 0),(.int .i64 0),(.slice none 0 0)] λt5=>
  st 8 t5 t4 λ_=>
  ld true 8 t5 λt6=>
  cF 44 #[x0,(.int .i64 (-1)),t6] (λt7=>
  pv (zai x0) λt8=>
  pv (faV 1 t8) λt9=>
  ld false 1 t9 λt10=>
  cF 79 #[t10,t3] (λt11=>
  pv (zac t11) λt12=>
  lp (λk2=>d36 [1,1,0,1,0,0,1,1,0,0,1,1,1,1,0,0] (zp2 K E k1 k2)) (zbj x0 x1 x2 x3 t3 t5 x6 x8 x9 x10 x11 x12 x13 x14 x15 x16 v17 t1 t2 t3 t3 t4 x0 t6 t7 x0 t8 t9 t10 t3 t11 t12 (j 48) x49 x50 x51 x52 (.int .i64 0) (jf #[U,U,U,U,U,U,U,(j 7),U,U,U,U,U,U,U,U,U,U,U,U,U,U,U,U,U,U,U,U,U,U,U,U,U,U,(j 34),(j 35),(j 36),(j 37),(j 38),(j 39),(j 40),(j 41),(j 42),(j 43),(j 44),(j 45),(j 46),(j 47)]))) E) E) (
  pv (zai x0) λt13=>
  pv (faV 3 t13) λt14=>
  ld false 1 t14 λt15=>
  K t15):=by kernel_rfl
theorem zhq:d36 [1,1,0,1,0,0,1,1,0,0,1,1,1,1,0,0] (zp2 K E k1 k2) (zbj x0 x1 x2 x3 x4 x5 x6 x8 x9 x10 x11 x12 x13 x14 x15 x16 x17 x18 x19 x20 x21 x22 x23 x24 x25 x26 x27 x28 x29 x30 x31 x32 x48 x49 x50 x51 x52 v33 j) =
 pv (za1 .none .lss v33 x32) λt1=>
 cnd t1 (
  pv (iaV none 1 x31 v33) λt2=>
  ld false 1 t2 λt3=>
  pv (zai x0) λt4=>
  pv (faV 2 t4) λt5=>
  ld false 1 t5 λt6=>
  pv (za1 .none .neq t3 t6) λt7=>
  cnd t7 (
  ld true 8 x5 λt8=>
  cF 44 #[x0,t3,t8] (λt9=>
  d36 [1,1,0,1,0,0,1,1,0,0,1,1,1,1,0,0,1,1,1] (zp2 K E k1 k2) #[x0,x1,x2,x3,x4,x5,x6,t3,x8,x9,x10,x11,x12,x13,x14,x15,x16,x17,x18,x19,x20,x21,x22,x23,x24,x25,x26,x27,x28,x29,x30,x31,x32,v33,t1,t2,t3,t3,x0,t4,t5,t6,t7,x0,t3,t8,t9,(j 47),x48,x49,x50,x51,x52]) E) (
  d36 [1,1,0,1,0,0,1,1,0,0,1,1,1,1,0,0,1,1,1] (zp2 K E k1 k2) #[x0,x1,x2,x3,x4,x5,x6,t3,x8,x9,x10,x11,x12,x13,x14,x15,x16,x17,x18,x19,x20,x21,x22,x23,x24,x25,x26,x27,x28,x29,x30,x31,x32,v33,t1,t2,t3,t3,x0,t4,t5,t6,t7,(j 43),(j 44),(j 45),(j 46),(j 47),x48,x49,x50,x51,x52])) (
  pv (za1 .none .add x17 (.int .i64 1)) λt10=>
  k1 (zem x0 x1 x2 x3 x6 x8 x9 x10 x11 x12 x13 x14 x15 x16 x49 x50 x51 x52 t10 (jf #[U,U,U,U,x4,x5,U,(j 7),U,U,U,U,U,U,U,U,U,U,x18,x19,x20,x21,x22,x23,x24,x25,x26,x27,x28,x29,x30,x31,x32,v33,t1,(j 35),(j 36),(j 37),(j 38),(j 39),(j 40),(j 41),(j 42),(j 43),(j 44),(j 45),(j 46),(j 47),t10]))):=by kernel_rfl
theorem zdl:d36 [1,1,0,1,0,0,1,1,0,0,1,1,1,1,0,0,1,1,1] (zp2 K E k1 k2) #[x0,x1,x2,x3,x4,x5,x6,x7,x8,x9,x10,x11,x12,x13,x14,x15,x16,x17,x18,x19,x20,x21,x22,x23,x24,x25,x26,x27,x28,x29,x30,x31,x32,x33,x34,x35,x36,x37,x38,x39,x40,x41,x42,x43,x44,x45,x46,x47,x48,x49,x50,x51,x52] =
 pv (za1 .none .add x33 (.int .i64 1)) λt1=>
 k2 (zbj x0 x1 x2 x3 x4 x5 x6 x8 x9 x10 x11 x12 x13 x14 x15 x16 x17 x18 x19 x20 x21 x22 x23 x24 x25 x26 x27 x28 x29 x30 x31 x32 x48 x49 x50 x51 x52 t1 (jf #[U,U,U,U,U,U,U,x7,U,U,U,U,U,U,U,U,U,U,U,U,U,U,U,U,U,U,U,U,U,U,U,U,U,U,x34,x35,x36,x37,x38,x39,x40,x41,x42,x43,x44,x45,x46,t1])):=by kernel_rfl
abbrev q43:QD:=za7 Tryz.prog Tryz.f43.results.toList K E
abbrev d43 (p:List Nat):QD -> Env -> Hp -> Prop:=den Tryz.prog (sel (za3 Tryz.f43) p)
theorem t43:d43 [] (q43 K E) #[x0,x1,x2,x3,U,U,U,U,U,U,U,U] =
 ld false 1 x1 λt1=>
 ld false 1 x2 λt2=>
 pv (faV 1 x3) λt3=>
 ld false 1 t3 λt4=>
 pv (bdC #[(.int .u8 0),(.int .u32 0),(.int .u32 0),(.slice none 0 0),(.slice none 0 0),(.int .i64 0),(.int .i64 0),(.slice none 0 0)] [(0,1),(1,1),(2,1),(3,1),(4,1),(5,1),(6,1),(7,1)] #[(0,x0),(1,t4)]) λt5=>
 cF 44 #[t1,t2,t5] (λt6=>
 K (.tuple #[])) E:=by kernel_rfl
abbrev q44:QD:=za7 Tryz.prog Tryz.f44.results.toList K E
abbrev d44 (p:List Nat):QD -> Env -> Hp -> Prop:=den Tryz.prog (sel (za3 Tryz.f44) p)
theorem t44:d44 [] (q44 K E) #[x0,x1,x2,U,U,U,U,U,U,U,U,U,U,U,U,U,U,U,U,U,U,U,U,U,U,U,U,U,U,U,U] =
 nw 49 (Value.cells x2).toList λt1=>
 ld true 8 t1 λt2=>
 cF 96 #[t2] (λt3=>
 pv (exV 0 t3) λt4=>
 pv (exV 1 t3) λt5=>
 pv (za1 .none .eql t5 (.int .u16 0)) λt6=>
 cnd t6 (
  pv (zai x0) λt7=>
  pv (faV 3 t7) λt8=>
  ld false 1 t8 λt9=>
  pv (zai x0) λt10=>
  pv (faV 2 t10) λt11=>
  ld false 1 t11 λt12=>
  pv (bdC #[(.int .i64 0),(.int .i64 0),(.slice none 0 0)] [(0,1),(1,1),(2,1)] #[(0,t12),(1,x1),(2,t4)]) λt13=>
  nws 53 1 (bsC #[(.int .i64 0),(.int .i64 0),(.slice none 0 0)] 3 1 #[(0,t13)]) (λt14 h15=>(ldV h15 false 1 t8 t9)∧(
  zek 53 3 40 t9 t14 λt16=>
  pv (zai x0) λt17=>
  pv (faV 3 t17) λt18=>
  st 1 t18 t16 λ_=>
  K (.tuple #[])) h15)) (
  K (.tuple #[]))) E:=by kernel_rfl
abbrev q45:QD:=za7 Tryz.prog Tryz.f45.results.toList K E
abbrev d45 (p:List Nat):QD -> Env -> Hp -> Prop:=den Tryz.prog (sel (za3 Tryz.f45) p)
theorem t45:d45 [] (q45 K E) #[x0,x1,x2,U,U,U,U,U,U,U,U,U,U,U,U,U,U,U,U,U,U,U,U,U,U,U,U,U,U,U,U,U,U,U,U,U,U] =
 nw 49 (Value.cells x1).toList λt1=>
 pv (za1 .none .eql x2 (.int .u8 1)) λt2=>
 cnd t2 (
  K (.int .u8 2)) (
  pv (za1 .none .eql x2 (.int .u8 2)) λt3=>
  cnd t3 (
  K (.int .u8 6)) (
  pv (za1 .none .eql x2 (.int .u8 3)) λt4=>
  cnd t4 (
   K (.int .u8 3)) (
   pv (faV 1 t1) λt5=>
   ld false 1 t5 λt6=>
   pv (faV 3 t1) λt7=>
   ld false 1 t7 λt8=>
   pv (faV 4 t1) λt9=>
   ld false 1 t9 λt10=>
   pv (bdC #[(.int .u8 0),(.int .u32 0),(.int .u32 0),(.slice none 0 0),(.slice none 0 0),(.int .u32 0),(.slice none 0 0),(.int .i64 0),(.int .i64 0),(.slice none 0 0)] [(0,1),(1,1),(2,1),(3,1),(4,1),(5,2),(7,1),(8,1),(9,1)] #[(0,(.int .u8 1)),(1,t6),(3,t8),(4,t10)]) λt11=>
   nw 77 [(.int .u8 0),(.int .u32 0),(.int .u32 0),(.slice none 0 0),(.slice none 0 0),(.int .u32 0),(.slice none 0 0),(.int .i64 0),(.int .i64 0),(.slice none 0 0)] λt12=>
   st 10 t12 t11 λ_=>
   pv (zai x0) λt13=>
   pv (faV 1 t13) λt14=>
   ld false 1 t14 λt15=>
   pv (zai t15) λt16=>
   pv (faV 0 t16) λt17=>
   ld false 1 t17 λt18=>
   pv (faV 4 t1) λt19=>
   ld false 1 t19 λt20=>
   cF 98 #[t18,t20] (λt21=>
   gdK t21 true (λk=>k x0) λt22=>
   gdK t21 true (λk=>ld true 10 t12 k) λt23=>
   gdK t21 true (λk=>cF 99 #[t22,t23] k E) λt24=>
   pv (zad t21 t24 (.bool false)) λt25=>
   cnd t25 (
   K (.int .u8 2)) (
   K (.int .u8 3))) E))):=by kernel_rfl
abbrev q46:QD:=za7 Tryz.prog Tryz.f46.results.toList K E
abbrev d46 (p:List Nat):QD -> Env -> Hp -> Prop:=den Tryz.prog (sel (za3 Tryz.f46) p)
theorem t46:d46 [] (q46 K E) #[x0,x1,x2,U,U,U,U,U,U,U,U,U,U,U,U,U,U,U,U,U,U,U] =
 nw 49 (Value.cells x1).toList λt1=>
 pv (za1 .none .eql x2 (.int .u8 2)) λt2=>
 gdK t2 false (λk=>k x2) λt3=>
 gdK t2 false (λk=>pv (za1 .none .eql t3 (.int .u8 1)) k) λt4=>
 gdK t2 false (λk=>k t4) λt5=>
 gdK t5 true (λk=>k x0) λt6=>
 gdK t5 true (λk=>pv (faV 1 t1) k) λt7=>
 gdK t5 true (λk=>ld false 1 t7 k) λt8=>
 gdK t5 true (λk=>pv (faV 2 t1) k) λt9=>
 gdK t5 true (λk=>ld false 1 t9 k) λt10=>
 gdK t5 true (λk=>pv (bdC #[(.int .u8 0),(.int .u32 0),(.int .u32 0),(.slice none 0 0),(.slice none 0 0),(.int .u32 0),(.slice none 0 0),(.int .i64 0),(.int .i64 0),(.slice none 0 0)] [(0,1),(1,1),(2,1),(3,1),(4,1),(5,2),(7,1),(8,1),(9,1)] #[(0,(.int .u8 2)),(1,t8),(2,t10)]) k) λt11=>
 gdK t5 true (λk=>cF 99 #[t6,t11] k E) λt12=>
 gdK t2 false (λk=>pv (zad t5 t12 (.bool false)) k) λt13=>
 pv (zad t2 (.bool true) t13) λt14=>
 K t14:=by kernel_rfl
abbrev q47:QD:=za7 Tryz.prog Tryz.f47.results.toList K E
abbrev d47 (p:List Nat):QD -> Env -> Hp -> Prop:=den Tryz.prog (sel (za3 Tryz.f47) p)
theorem t47:d47 [] (q47 K E) #[x0,x1,x2,U,U,U,U,U,U,U,U,U,U,U,U,U,U,U,U,U,U,U,U,U] =
 pv (za1 .none .gtr x2 (.int .u8 1)) λt1=>
 cnd t1 (
  K (.tuple #[])) (
  pv (bdC #[(.int .u8 0),(.int .u32 0),(.int .u32 0),(.slice none 0 0),(.slice none 0 0),(.int .u32 0),(.slice none 0 0),(.int .i64 0),(.int .i64 0),(.slice none 0 0)] [(0,1),(1,1),(2,1),(3,1),(4,1),(5,2),(7,1),(8,1),(9,1)] #[(0,(.int .u8 3)),(1,x1)]) λt2=>
  nw 77 [(.int .u8 0),(.int .u32 0),(.int .u32 0),(.slice none 0 0),(.slice none 0 0),(.int .u32 0),(.slice none 0 0),(.int .i64 0),(.int .i64 0),(.slice none 0 0)] λt3=>
  st 10 t3 t2 λ_=>
  pv (zai x0) λt4=>
  pv (faV 0 t4) λt5=>
  ld false 1 t5 λt6=>
  ld true 10 t3 λt7=>
  cF 100 #[t6,t7] (λt8=>
  pv (za1 .none .eql t8 (.int .u16 0)) λt9=>
  cnd t9 (
  pv (zai x0) λt10=>
  pv (faV 1 t10) λt11=>
  ld false 1 t11 λt12=>
  ld true 10 t3 λt13=>
  cF 40 #[t12,t13] (λt14=>
  K (.tuple #[])) E) (
  K (.tuple #[]))) E):=by kernel_rfl
abbrev q48:QD:=za7 Tryz.prog Tryz.f48.results.toList K E
abbrev d48 (p:List Nat):QD -> Env -> Hp -> Prop:=den Tryz.prog (sel (za3 Tryz.f48) p)
theorem t48:d48 [] (q48 K E) #[x0,x1,x2,U,U,U,U,U,U,U,U,U,U,U,U,U,U,U,U] =
 pv (za1 .none .eql x2 (.int .u8 3)) λt1=>
 gdK t1 false (λk=>k x2) λt2=>
 gdK t1 false (λk=>pv (za1 .none .eql t2 (.int .u8 0)) k) λt3=>
 gdK t1 false (λk=>k t3) λt4=>
 gdK t4 true (λk=>k x0) λt5=>
 gdK t4 true (λk=>k x1) λt6=>
 gdK t4 true (λk=>pv (bdC #[(.int .u8 0),(.int .u32 0),(.int .u32 0),(.slice none 0 0),(.slice none 0 0),(.int .u32 0),(.slice none 0 0),(.int .i64 0),(.int .i64 0),(.slice none 0 0)] [(0,1),(1,1),(2,1),(3,1),(4,1),(5,2),(7,1),(8,1),(9,1)] #[(0,(.int .u8 3)),(1,t6)]) k) λt7=>
 gdK t4 true (λk=>cF 99 #[t5,t7] k E) λt8=>
 gdK t1 false (λk=>pv (zad t4 t8 (.bool false)) k) λt9=>
 pv (zad t1 (.bool true) t9) λt10=>
 K t10:=by kernel_rfl
abbrev q49:QD:=za7 Tryz.prog Tryz.f49.results.toList K E
abbrev d49 (p:List Nat):QD -> Env -> Hp -> Prop:=den Tryz.prog (sel (za3 Tryz.f49) p)
theorem t49:d49 [] (q49 K E) #[x0,x1,U,U,U,U,U,U,U,U,U,U,U,U,U,U,U,U,U,U,U,U,U,U,U,U] =
 nw 49 (Value.cells x1).toList λt1=>
 pv (faV 1 t1) λt2=>
 ld false 1 t2 λt3=>
 pv (zai x0) λt4=>
 pv (faV 1 t4) λt5=>
 ld false 1 t5 λt6=>
 cF 75 #[t6] (λt7 h8=>(ldV h8 false 1 t2 t3)∧(
  pv (za1 .none .leq t3 t7) λt9=>
  gdK t9 false (λk=>k x0) λt10=>
  gdK t9 false (λk=>pv (faV 1 t1) k) λt11=>
  gdK t9 false (λk=>ld false 1 t11 k) λt12=>
  gdK t9 false (λk=>pv (faV 5 t1) k) λt13=>
  gdK t9 false (λk=>ld false 1 t13 k) λt14=>
  gdK t9 false (λk=>pv (faV 6 t1) k) λt15=>
  gdK t9 false (λk=>ld false 1 t15 k) λt16=>
  gdK t9 false (λk=>pv (faV 7 t1) k) λt17=>
  gdK t9 false (λk=>ld false 1 t17 k) λt18=>
  gdK t9 false (λk=>pv (bdC #[(.int .u8 0),(.int .u32 0),(.int .u32 0),(.slice none 0 0),(.slice none 0 0),(.int .u32 0),(.slice none 0 0),(.int .i64 0),(.int .i64 0),(.slice none 0 0)] [(0,1),(1,1),(2,1),(3,1),(4,1),(5,2),(7,1),(8,1),(9,1)] #[(0,(.int .u8 7)),(1,t12),(6,t14),(7,t16),(8,t18)]) k) λt19=>
  gdK t9 false (λk=>cF 99 #[t10,t19] k E) λt20=>
  pv (zad t9 (.bool true) t20) λt21=>
  K t21) h8) E:=by kernel_rfl
abbrev q99:QD:=za7 Tryz.prog Tryz.f99.results.toList K E
abbrev d99 (p:List Nat):QD -> Env -> Hp -> Prop:=den Tryz.prog (sel (za3 Tryz.f99) p)
theorem t99:d99 [] (q99 K E) #[x0,x1,U,U,U,U,U,U,U,U,U,U,U,U,U,U,U,U,U,U,U] =
 nw 77 (Value.cells x1).toList λt1=>
 pv (zai x0) λt2=>
 pv (faV 0 t2) λt3=>
 ld false 1 t3 λt4=>
 ld true 10 t1 λt5=>
 cF 145 #[t4,t5] (λt6=>
 pv (za1 .none .eql t6 (.int .u16 0)) λt7=>
 gdK t7 true (λk=>k x0) λt8=>
 gdK t7 true (λk=>pv (zai t8) k) λt9=>
 gdK t7 true (λk=>pv (faV 1 t9) k) λt10=>
 gdK t7 true (λk=>ld false 1 t10 k) λt11=>
 gdK t7 true (λk=>ld true 10 t1 k) λt12=>
 gdK t7 true (λk=>cF 40 #[t11,t12] k E) λt13=>
 gdK t7 true (λk=>pv (za1 .none .eql t13 (.int .u16 0)) k) λt14=>
 pv (zad t7 t14 (.bool false)) λt15=>
 K t15) E:=by kernel_rfl
end
section
variable {K:zae} {E:zb2} {k1 k2:Env -> Hp -> Prop} {σ:Type} {x0 x1 x2 x3 x4 x5 x6 x7 x8 x9 x10 x11 x12 x13 x14 x15 x16 x17 x18 x19 x20 x21 x22 x23 x24 x25 x26 x27 x28 x29 x30 x31 x32 x37 x38 x39 x40 x41 x48 x49 x50 x51 x52 v17 v29 v33:Value} {h:Hp} {j:Nat -> Value}
theorem znk (f29:σ -> Value) (I:σ -> Hp -> Prop) (μ:σ -> Nat) (s0:σ) (e29:v29=f29 s0) (h0:h.wf -> ∃ h',h.wk h'∧I s0 h')
 (round:∀ (k1:Env -> Hp -> Prop) (s:σ) (j:Nat -> Value) (h:Hp),I s h -> h.wf -> (∀ s' j' h',μ s'<μ s -> (h'.wf -> ∃ h'',h'.wk h''∧I s' h'') -> k1 (zcl x0 x1 x2 x3 x4 x5 x6 x7 x8 x9 x10 x11 x12 x14 x15 x16 x17 x18 x19 x20 x21 x22 x23 x24 x25 x26 x27 x28 x37 x38 x39 x40 x41 (f29 s') j') h') -> d12 [1,1,1,1,1,0,1,0,0] (zzp K E k1) (zcl x0 x1 x2 x3 x4 x5 x6 x7 x8 x9 x10 x11 x12 x14 x15 x16 x17 x18 x19 x20 x21 x22 x23 x24 x25 x26 x27 x28 x37 x38 x39 x40 x41 (f29 s) j) h) :
 lp (λk1=>d12 [1,1,1,1,1,0,1,0,0] (zzp K E k1)) (zcl x0 x1 x2 x3 x4 x5 x6 x7 x8 x9 x10 x11 x12 x14 x15 x16 x17 x18 x19 x20 x21 x22 x23 x24 x25 x26 x27 x28 x37 x38 x39 x40 x41 v29 j) h:=by
 subst e29;exact zaw _ I μ round s0 j h0
theorem zun (f17:σ -> Value) (I:σ -> Hp -> Prop) (μ:σ -> Nat) (s0:σ) (e17:v17=f17 s0) (h0:h.wf -> ∃ h',h.wk h'∧I s0 h')
 (round:∀ (k1:Env -> Hp -> Prop) (s:σ) (j:Nat -> Value) (h:Hp),I s h -> h.wf -> (∀ s' j' h',μ s'<μ s -> (h'.wf -> ∃ h'',h'.wk h''∧I s' h'') -> k1 (zem x0 x1 x2 x3 x6 x8 x9 x10 x11 x12 x13 x14 x15 x16 x49 x50 x51 x52 (f17 s') j') h') -> d36 [1,1,0,1,0,0] (ya0 K E k1) (zem x0 x1 x2 x3 x6 x8 x9 x10 x11 x12 x13 x14 x15 x16 x49 x50 x51 x52 (f17 s) j) h) :
 lp (λk1=>d36 [1,1,0,1,0,0] (ya0 K E k1)) (zem x0 x1 x2 x3 x6 x8 x9 x10 x11 x12 x13 x14 x15 x16 x49 x50 x51 x52 v17 j) h:=by
 subst e17;exact zaw _ I μ round s0 j h0
theorem zhn (f33:σ -> Value) (I:σ -> Hp -> Prop) (μ:σ -> Nat) (s0:σ) (e33:v33=f33 s0) (h0:h.wf -> ∃ h',h.wk h'∧I s0 h')
 (round:∀ (k2:Env -> Hp -> Prop) (s:σ) (j:Nat -> Value) (h:Hp),I s h -> h.wf -> (∀ s' j' h',μ s'<μ s -> (h'.wf -> ∃ h'',h'.wk h''∧I s' h'') -> k2 (zbj x0 x1 x2 x3 x4 x5 x6 x8 x9 x10 x11 x12 x13 x14 x15 x16 x17 x18 x19 x20 x21 x22 x23 x24 x25 x26 x27 x28 x29 x30 x31 x32 x48 x49 x50 x51 x52 (f33 s') j') h') -> d36 [1,1,0,1,0,0,1,1,0,0,1,1,1,1,0,0] (zp2 K E k1 k2) (zbj x0 x1 x2 x3 x4 x5 x6 x8 x9 x10 x11 x12 x13 x14 x15 x16 x17 x18 x19 x20 x21 x22 x23 x24 x25 x26 x27 x28 x29 x30 x31 x32 x48 x49 x50 x51 x52 (f33 s) j) h) :
 lp (λk2=>d36 [1,1,0,1,0,0,1,1,0,0,1,1,1,1,0,0] (zp2 K E k1 k2)) (zbj x0 x1 x2 x3 x4 x5 x6 x8 x9 x10 x11 x12 x13 x14 x15 x16 x17 x18 x19 x20 x21 x22 x23 x24 x25 x26 x27 x28 x29 x30 x31 x32 x48 x49 x50 x51 x52 v33 j) h:=by
 subst e33;exact zaw _ I μ round s0 j h0
end
section
variable (K:zae) (E:zb2) (k1 k2:Env -> Hp -> Prop) (x0 x1 x2 x3 x4 x5 x6 x7 x8 x9 x10 x11 x12 x13 x14 x15 x16 x17 x18 x19 x20 x21 x22 x23 x24 x25 x26 x27 x28 x29 x30 x31 x32 x33 x34 x35 x36 x37 x38 x39 x40 x41 x42 x43 x44 x45 x46 x47 x48 x49 x50 x51 x52 x53 x54 x55 x56 x57 x58 x59 x60 x61 x62 x63 x64 x65 x66 x67 x68 x69 x70 x71 x72 x73 x74 x75 x76 x77 x78 x79 x80 x81 x82 x83 x84 x85 x86 x87 x88 x89 x90 x91 x92 x93 x94 x95 x96 x97 x98 x99 x100 x101 x102 v0 v3 v4 v5:Value) (j:Nat -> Value)
abbrev q25:QD:=za7 Tryz.prog Tryz.f25.results.toList K E
abbrev d25 (p:List Nat):QD -> Env -> Hp -> Prop:=den Tryz.prog (sel (za3 Tryz.f25) p)
theorem t25:d25 [] (q25 K E) #[x0,U,U,U,U,U,U,U,U,U,U,U,U,U,U,U,U,U,U,U,U,U,U,U,U,U] =
 nw 49 (Value.cells x0).toList λt1=>
 ld true 8 t1 λt2=>
 cF 61 #[t2] (λt3=>
 pv (unV .not t3) λt4=>
 cnd t4 (
  K (.tuple #[(.slice none 0 0),(.int .i64 1)])) (
  ld true 8 t1 λt5=>
  cF 63 #[t5] (λt6=>
  cF 62 #[t6] (λt7=>
  pv (exV 0 t7) λt8=>
  pv (exV 1 t7) λt9=>
  pv (za1 .none .neq t9 (.int .i64 0)) λt10=>
  cnd t10 (
  K (.tuple #[(.slice none 0 0),t9])) (
  pv (faV 0 t1) λt11=>
  ld false 1 t11 λt12=>
  nws 5 1 (bsC #[(.int .u8 0)] 1 1 #[(0,t12)]) λt13=>
  zek 5 1 1 t13 t8 λt14=>
  K (.tuple #[t14,(.int .i64 0)]))) E) E)) E:=by kernel_rfl
abbrev q61:QD:=za7 Tryz.prog Tryz.f61.results.toList K E
abbrev d61 (p:List Nat):QD -> Env -> Hp -> Prop:=den Tryz.prog (sel (za3 Tryz.f61) p)
theorem t61:d61 [] (q61 K E) #[x0,U,U,U,U,U,U,U,U,U,U,U,U,U,U,U,U,U,U,U,U,U,U,U,U,U,U,U,U,U,U,U,U,U,U,U,U,U,U,U,U,U,U,U,U,U,U,U,U] =
 nw 49 (Value.cells x0).toList λt1=>
 pv (faV 0 t1) λt2=>
 ld false 1 t2 λt3=>
 pv (za1 .none .lss t3 (.int .u8 1)) λt4=>
 gdK t4 false (λk=>pv (faV 0 t1) k) λt5=>
 gdK t4 false (λk=>ld false 1 t5 k) λt6=>
 gdK t4 false (λk=>pv (za1 .none .gtr t6 (.int .u8 11)) k) λt7=>
 pv (zad t4 (.bool true) t7) λt8=>
 gdK t8 false (λk=>pv (faV 0 t1) k) λt9=>
 gdK t8 false (λk=>ld false 1 t9 k) λt10=>
 gdK t8 false (λk=>pv (za1 .none .eql t10 (.int .u8 4)) k) λt11=>
 gdK t8 false (λk=>k t11) λt12=>
 gdK t12 true (λk=>pv (faV 3 t1) k) λt13=>
 gdK t12 true (λk=>ld false 1 t13 k) λt14=>
 gdK t12 true (λk=>pv (zac t14) k) λt15=>
 gdK t12 true (λk=>pv (za1 .none .gtr t15 (.int .i64 0)) k) λt16=>
 gdK t8 false (λk=>pv (zad t12 t16 (.bool false)) k) λt17=>
 pv (zad t8 (.bool true) t17) λt18=>
 cnd t18 (
  K (.bool false)) (
  pv (faV 0 t1) λt19=>
  ld false 1 t19 λt20=>
  pv (za1 .none .eql t20 (.int .u8 8)) λt21=>
  gdK t21 true (λk=>pv (faV 7 t1) k) λt22=>
  gdK t21 true (λk=>ld false 1 t22 k) λt23=>
  gdK t21 true (λk=>pv (zac t23) k) λt24=>
  gdK t21 true (λk=>pv (za1 .none .gtr t24 (.int .i64 0)) k) λt25=>
  pv (zad t21 t25 (.bool false)) λt26=>
  gdK t26 false (λk=>pv (faV 0 t1) k) λt27=>
  gdK t26 false (λk=>ld false 1 t27 k) λt28=>
  gdK t26 false (λk=>pv (za1 .none .eql t28 (.int .u8 9)) k) λt29=>
  gdK t26 false (λk=>k t29) λt30=>
  gdK t30 true (λk=>pv (faV 5 t1) k) λt31=>
  gdK t30 true (λk=>ld false 1 t31 k) λt32=>
  gdK t30 true (λk=>pv (za1 .none .neq t32 (.int .i64 0)) k) λt33=>
  gdK t30 true (λk=>k t33) λt34=>
  gdK t34 false (λk=>pv (faV 6 t1) k) λt35=>
  gdK t34 false (λk=>ld false 1 t35 k) λt36=>
  gdK t34 false (λk=>pv (za1 .none .neq t36 (.int .i64 0)) k) λt37=>
  gdK t30 true (λk=>pv (zad t34 (.bool true) t37) k) λt38=>
  gdK t26 false (λk=>pv (zad t30 t38 (.bool false)) k) λt39=>
  pv (zad t26 (.bool true) t39) λt40=>
  cnd t40 (
  K (.bool false)) (
  ld true 8 t1 λt41=>
  cF 63 #[t41] (λt42=>
  cF 113 #[t42] (λt43=>
  K t43) E) E)):=by kernel_rfl
abbrev q62:QD:=za7 Tryz.prog Tryz.f62.results.toList K E
abbrev d62 (p:List Nat):QD -> Env -> Hp -> Prop:=den Tryz.prog (sel (za3 Tryz.f62) p)
abbrev zzm:=za8 k1 (blk 1 (blk 0 (za8 (d62 [1,1,1,1,1] (q62 K E)) (q62 K E))))
def zb8 (j:Nat -> Value):Env:=#[x0,x1,x2,x3,v4,v5,x6,x7,x8,x9,x10,x11,x12,x13,x14,x15,x16,x17,x18,x19,x20,x21,x22,x23,x24,x25,x26,x27,x28,x29,x30,x31,x32,x33,x34,x35,x36,x37,x38,x39,x40,x41,x42,x43,x44,x45,x46,x47,x48,x49,x50,x51,x52,x53,x54,(j 55),(j 56),(j 57),(j 58),(j 59),(j 60),(j 61),(j 62),(j 63),(j 64),(j 65),(j 66),(j 67),(j 68),(j 69),(j 70),(j 71),(j 72),(j 73),(j 74),(j 75),(j 76),(j 77),(j 78),(j 79),(j 80),(j 81),(j 82),x83,x84,x85,x86,x87,x88,x89,x90,x91,x92,x93,x94,x95,x96,x97,x98,x99,x100,x101,x102]
theorem t62:d62 [] (q62 K E) #[x0,U,U,U,U,U,U,U,U,U,U,U,U,U,U,U,U,U,U,U,U,U,U,U,U,U,U,U,U,U,U,U,U,U,U,U,U,U,U,U,U,U,U,U,U,U,U,U,U,U,U,U,U,U,U,U,U,U,U,U,U,U,U,U,U,U,U,U,U,U,U,U,U,U,U,U,U,U,U,U,U,U,U,U,U,U,U,U,U,U,U,U,U,U,U,U,U,U,U,U,U,U,U] =
 nw 77 (Value.cells x0).toList λt1=>
 ld true 10 t1 λt2=>
 cF 113 #[t2] (λt3=>
 pv (unV .not t3) λt4=>
 cnd t4 (
  K (.tuple #[(.slice none 0 0),(.int .i64 1)])) (
  pv (faV 0 t1) λt5=>
  ld false 1 t5 λt6=>
  nws 5 1 (bsC #[(.int .u8 0)] 1 1 #[(0,t6)]) λt7=>
  pv (faV 1 t1) λt8=>
  ld false 1 t8 λt9=>
  pv (cvV .u64 t9) λt10=>
  cF 106 #[t7,t10,(.int .i64 4)] (λt11=>
  pv (faV 0 t1) λt12=>
  ld false 1 t12 λt13=>
  pv (za1 .none .eql t13 (.int .u8 1)) λt14=>
  cnd t14 (
  pv (faV 3 t1) λt15=>
  ld false 1 t15 λt16=>
  cF 114 #[t11,t16] (λt17=>
  pv (faV 4 t1) λt18=>
  ld false 1 t18 λt19=>
  cF 107 #[t17,t19] (λt20=>
  d62 [1,1,1,1,1] (q62 K E) #[x0,t1,(.slice none 0 0),(.int .i64 0),t20,U,t2,t3,t4,t5,t6,t7,t7,t8,t9,t10,t11,t12,t13,t14,t14,t11,t15,t16,t17,t17,t18,t19,t20,U,U,U,U,U,U,U,U,U,U,U,U,U,U,U,U,U,U,U,U,U,U,U,U,U,U,U,U,U,U,U,U,U,U,U,U,U,U,U,U,U,U,U,U,U,U,U,U,U,U,U,U,U,U,U,U,U,U,U,U,U,U,U,U,U,U,U,U,U,U,U,U,U,U]) E) E) (
  pv (za1 .none .eql t13 (.int .u8 2)) λt21=>
  cnd t21 (
   pv (faV 2 t1) λt22=>
   ld false 1 t22 λt23=>
   pv (cvV .u64 t23) λt24=>
   cF 106 #[t11,t24,(.int .i64 4)] (λt25=>
   pv (faV 3 t1) λt26=>
   ld false 1 t26 λt27=>
   cF 114 #[t25,t27] (λt28=>
   d62 [1,1,1,1,1] (q62 K E) #[x0,t1,(.slice none 0 0),(.int .i64 0),t28,U,t2,t3,t4,t5,t6,t7,t7,t8,t9,t10,t11,t12,t13,t14,t14,U,U,U,U,U,U,U,U,t21,t21,t11,t22,t23,t24,t25,t25,t26,t27,t28,U,U,U,U,U,U,U,U,U,U,U,U,U,U,U,U,U,U,U,U,U,U,U,U,U,U,U,U,U,U,U,U,U,U,U,U,U,U,U,U,U,U,U,U,U,U,U,U,U,U,U,U,U,U,U,U,U,U,U,U,U,U,U]) E) E) (
   pv (za1 .none .eql t13 (.int .u8 6)) λt29=>
   cnd t29 (
   pv (faV 5 t1) λt30=>
   pv (faV 0 t30) λt31=>
   ld false 1 t31 λt32=>
   pv (cvV .u64 t32) λt33=>
   cF 106 #[t11,t33,(.int .i64 4)] (λt34=>
   pv (faV 5 t1) λt35=>
   pv (faV 1 t35) λt36=>
   ld false 1 t36 λt37=>
   pv (zac t37) λt38=>
   pv (cvV .u64 t38) λt39=>
   cF 106 #[t34,t39,(.int .i64 1)] (λt40=>
   lp (λk1=>d62 [1,1,1,1,0,1,0,1,1,1,1,1,0,1,1,1,0,0] (zzm K E k1)) (zb8 x0 t1 (.slice none 0 0) (.int .i64 0) t2 t3 t4 t5 t6 t7 t7 t8 t9 t10 t11 t12 t13 t14 t14 U U U U U U U U t21 t21 U U U U U U U U U t29 t29 t11 t30 t31 t32 t33 t34 t34 t35 t36 t37 t38 t39 t40 U U U U U U U U U U U U U U U U U U U U t40 (.int .i64 0) (jf #[]))) E) E) (
   pv (za1 .none .eql t13 (.int .u8 7)) λt41=>
   cnd t41 (
    pv (faV 7 t1) λt42=>
    ld false 1 t42 λt43=>
    pv (cvV .u64 t43) λt44=>
    cF 106 #[t11,t44,(.int .i64 4)] (λt45=>
    pv (faV 8 t1) λt46=>
    ld false 1 t46 λt47=>
    pv (cvV .u64 t47) λt48=>
    cF 106 #[t45,t48,(.int .i64 4)] (λt49=>
    pv (faV 9 t1) λt50=>
    ld false 1 t50 λt51=>
    cF 53 #[t49,t51] (λt52=>
    d62 [1,1,1,1,1] (q62 K E) #[x0,t1,(.slice none 0 0),(.int .i64 0),t52,U,t2,t3,t4,t5,t6,t7,t7,t8,t9,t10,t11,t12,t13,t14,t14,U,U,U,U,U,U,U,U,t21,t21,U,U,U,U,U,U,U,U,U,t29,t29,U,U,U,U,U,U,U,U,U,U,U,U,U,U,U,U,U,U,U,U,U,U,U,U,U,U,U,U,U,U,U,U,U,U,U,U,U,U,U,U,U,t41,t41,t11,t42,t43,t44,t45,t45,t46,t47,t48,t49,t49,t50,t51,t52,U,U,U,U]) E) E) E) (
    d62 [1,1,1,1,1] (q62 K E) #[x0,t1,(.slice none 0 0),(.int .i64 0),t11,U,t2,t3,t4,t5,t6,t7,t7,t8,t9,t10,t11,t12,t13,t14,t14,U,U,U,U,U,U,U,U,t21,t21,U,U,U,U,U,U,U,U,U,t29,t29,U,U,U,U,U,U,U,U,U,U,U,U,U,U,U,U,U,U,U,U,U,U,U,U,U,U,U,U,U,U,U,U,U,U,U,U,U,U,U,U,U,t41,t41,U,U,U,U,U,U,U,U,U,U,U,U,U,U,U,U,U,U]))))) E)) E:=by kernel_rfl
theorem zib:d62 [1,1,1,1,1] (q62 K E) #[x0,x1,x2,x3,x4,x5,x6,x7,x8,x9,x10,x11,x12,x13,x14,x15,x16,x17,x18,x19,x20,x21,x22,x23,x24,x25,x26,x27,x28,x29,x30,x31,x32,x33,x34,x35,x36,x37,x38,x39,x40,x41,x42,x43,x44,x45,x46,x47,x48,x49,x50,x51,x52,x53,x54,x55,x56,x57,x58,x59,x60,x61,x62,x63,x64,x65,x66,x67,x68,x69,x70,x71,x72,x73,x74,x75,x76,x77,x78,x79,x80,x81,x82,x83,x84,x85,x86,x87,x88,x89,x90,x91,x92,x93,x94,x95,x96,x97,x98,x99,x100,x101,x102] =
 pv (zac x4) λt1=>
 pv (za1 .none .gtr t1 (.int .i64 60000)) λt2=>
 cnd t2 (
  K (.tuple #[(.slice none 0 0),(.int .i64 3)])) (
  K (.tuple #[x4,(.int .i64 0)])):=by kernel_rfl
theorem zp9:d62 [1,1,1,1,0,1,0,1,1,1,1,1,0,1,1,1,0,0] (zzm K E k1) (zb8 x0 x1 x2 x3 x6 x7 x8 x9 x10 x11 x12 x13 x14 x15 x16 x17 x18 x19 x20 x21 x22 x23 x24 x25 x26 x27 x28 x29 x30 x31 x32 x33 x34 x35 x36 x37 x38 x39 x40 x41 x42 x43 x44 x45 x46 x47 x48 x49 x50 x51 x52 x53 x54 x83 x84 x85 x86 x87 x88 x89 x90 x91 x92 x93 x94 x95 x96 x97 x98 x99 x100 x101 x102 v4 v5 j) =
 pv (faV 5 x1) λt1=>
 pv (faV 1 t1) λt2=>
 ld false 1 t2 λt3=>
 pv (zac t3) λt4=>
 pv (za1 .none .lss v5 t4) λt5=>
 cnd t5 (
  pv (faV 5 x1) λt6=>
  pv (faV 1 t6) λt7=>
  ld false 1 t7 λt8=>
  pv (iaV none 2 t8 v5) λt9=>
  pv (faV 0 t9) λt10=>
  ld false 1 t10 λt11=>
  pv (cvV .u64 t11) λt12=>
  cF 106 #[v4,t12,(.int .i64 4)] (λt13=>
  pv (faV 5 x1) λt14=>
  pv (faV 1 t14) λt15=>
  ld false 1 t15 λt16=>
  pv (iaV none 2 t16 v5) λt17=>
  pv (faV 1 t17) λt18=>
  ld false 1 t18 λt19=>
  pv (cvV .u64 t19) λt20=>
  cF 106 #[t13,t20,(.int .i64 1)] (λt21=>
  pv (za1 .none .add v5 (.int .i64 1)) λt22=>
  k1 (zb8 x0 x1 x2 x3 x6 x7 x8 x9 x10 x11 x12 x13 x14 x15 x16 x17 x18 x19 x20 x21 x22 x23 x24 x25 x26 x27 x28 x29 x30 x31 x32 x33 x34 x35 x36 x37 x38 x39 x40 x41 x42 x43 x44 x45 x46 x47 x48 x49 x50 x51 x52 x53 x54 x83 x84 x85 x86 x87 x88 x89 x90 x91 x92 x93 x94 x95 x96 x97 x98 x99 x100 x101 x102 t21 t22 (jf #[U,U,U,U,U,U,U,U,U,U,U,U,U,U,U,U,U,U,U,U,U,U,U,U,U,U,U,U,U,U,U,U,U,U,U,U,U,U,U,U,U,U,U,U,U,U,U,U,U,U,U,U,U,U,U,v5,t1,t2,t3,t4,t5,v5,t22,v4,t6,t7,t8,v5,t9,t10,t11,t12,t13,t13,t14,t15,t16,v5,t17,t18,t19,t20,t21]))) E) E) (
  d62 [1,1,1,1,1] (q62 K E) #[x0,x1,x2,x3,v4,v5,x6,x7,x8,x9,x10,x11,x12,x13,x14,x15,x16,x17,x18,x19,x20,x21,x22,x23,x24,x25,x26,x27,x28,x29,x30,x31,x32,x33,x34,x35,x36,x37,x38,x39,x40,x41,x42,x43,x44,x45,x46,x47,x48,x49,x50,x51,x52,x53,x54,v5,t1,t2,t3,t4,t5,(j 61),(j 62),(j 63),(j 64),(j 65),(j 66),(j 67),(j 68),(j 69),(j 70),(j 71),(j 72),(j 73),(j 74),(j 75),(j 76),(j 77),(j 78),(j 79),(j 80),(j 81),(j 82),x83,x84,x85,x86,x87,x88,x89,x90,x91,x92,x93,x94,x95,x96,x97,x98,x99,x100,x101,x102]):=by kernel_rfl
abbrev q63:QD:=za7 Tryz.prog Tryz.f63.results.toList K E
abbrev d63 (p:List Nat):QD -> Env -> Hp -> Prop:=den Tryz.prog (sel (za3 Tryz.f63) p)
theorem t63:d63 [] (q63 K E) #[x0,U,U,U,U,U,U,U,U,U,U,U,U,U,U,U,U,U,U,U,U,U,U,U,U,U,U,U,U,U,U,U,U] =
 nw 49 (Value.cells x0).toList λt1=>
 nw 77 [(.int .u8 0),(.int .u32 0),(.int .u32 0),(.slice none 0 0),(.slice none 0 0),(.int .u32 0),(.slice none 0 0),(.int .i64 0),(.int .i64 0),(.slice none 0 0)] λt2=>
 pv (faV 1 t1) λt3=>
 ld false 1 t3 λt4=>
 pv (faV 2 t1) λt5=>
 ld false 1 t5 λt6=>
 pv (faV 3 t1) λt7=>
 ld false 1 t7 λt8=>
 pv (faV 4 t1) λt9=>
 ld false 1 t9 λt10=>
 pv (faV 5 t1) λt11=>
 ld false 1 t11 λt12=>
 pv (faV 6 t1) λt13=>
 ld false 1 t13 λt14=>
 pv (faV 7 t1) λt15=>
 ld false 1 t15 λt16=>
 pv (bdC #[(.int .u8 0),(.int .u32 0),(.int .u32 0),(.slice none 0 0),(.slice none 0 0),(.int .u32 0),(.slice none 0 0),(.int .i64 0),(.int .i64 0),(.slice none 0 0)] [(0,1),(1,1),(2,1),(3,1),(4,1),(5,2),(7,1),(8,1),(9,1)] #[(0,(.int .u8 4)),(1,t4),(2,t6),(3,t8),(4,t10),(6,t12),(7,t14),(8,t16)]) λt17=>
 nw 77 [(.int .u8 0),(.int .u32 0),(.int .u32 0),(.slice none 0 0),(.slice none 0 0),(.int .u32 0),(.slice none 0 0),(.int .i64 0),(.int .i64 0),(.slice none 0 0)] λt18=>
 st 10 t18 t17 λ_=>
 pv (faV 0 t1) λt19=>
 ld false 1 t19 λt20=>
 pv (za1 .none .eql t20 (.int .u8 1)) λt21=>
 cnd t21 (
  pv (faV 0 t18) λt22=>
  st 1 t22 (.int .u8 1) λ_=>
  d63 [1,1,1] (q63 K E) #[x0,t1,t2,t18,t3,t4,t5,t6,t7,t8,t9,t10,t11,t12,t13,t14,t15,t16,t17,t19,t20,t21,t21,t22,U,U,U,U,U,U,U,U,U]) (
  pv (za1 .none .eql t20 (.int .u8 4)) λt23=>
  cnd t23 (
  pv (faV 0 t18) λt24=>
  st 1 t24 (.int .u8 2) λ_=>
  d63 [1,1,1] (q63 K E) #[x0,t1,t2,t18,t3,t4,t5,t6,t7,t8,t9,t10,t11,t12,t13,t14,t15,t16,t17,t19,t20,t21,t21,U,t23,t23,t24,U,U,U,U,U,U]) (
  pv (za1 .none .eql t20 (.int .u8 8)) λt25=>
  cnd t25 (
   d63 [1,1,0,1,0,1,1,1,1,1] (blk 0 (za8 (d63 [1,1,1] (q63 K E)) (q63 K E))) #[x0,t1,t2,t18,t3,t4,t5,t6,t7,t8,t9,t10,t11,t12,t13,t14,t15,t16,t17,t19,t20,t21,t21,U,t23,t23,U,t25,t25,U,U,U,U]) (
   pv (za1 .none .eql t20 (.int .u8 9)) λt26=>
   cnd t26 (
   d63 [1,1,0,1,0,1,1,1,1,1] (blk 0 (za8 (d63 [1,1,1] (q63 K E)) (q63 K E))) #[x0,t1,t2,t18,t3,t4,t5,t6,t7,t8,t9,t10,t11,t12,t13,t14,t15,t16,t17,t19,t20,t21,t21,U,t23,t23,U,t26,t25,t26,U,U,U]) (
   pv (za1 .none .eql t20 (.int .u8 10)) λt27=>
   d63 [1,1,0,1,0,1,1,1,1,1] (blk 0 (za8 (d63 [1,1,1] (q63 K E)) (q63 K E))) #[x0,t1,t2,t18,t3,t4,t5,t6,t7,t8,t9,t10,t11,t12,t13,t14,t15,t16,t17,t19,t20,t21,t21,U,t23,t23,U,t27,t25,t26,t27,U,U])))):=by kernel_rfl
theorem ziy:d63 [1,1,1] (q63 K E) #[x0,x1,x2,x3,x4,x5,x6,x7,x8,x9,x10,x11,x12,x13,x14,x15,x16,x17,x18,x19,x20,x21,x22,x23,x24,x25,x26,x27,x28,x29,x30,x31,x32] =
 ld true 10 x3 λt1=>
 st 10 x2 t1 λ_=>
 ld true 10 x2 λt2=>
 K t2:=by kernel_rfl
theorem zdu:d63 [1,1,0,1,0,1,1,1,1,1] (blk 0 (za8 (d63 [1,1,1] (q63 K E)) (q63 K E))) #[x0,x1,x2,x3,x4,x5,x6,x7,x8,x9,x10,x11,x12,x13,x14,x15,x16,x17,x18,x19,x20,x21,x22,x23,x24,x25,x26,x27,x28,x29,x30,x31,x32] =
 cnd x27 (
  pv (faV 0 x3) λt1=>
  st 1 t1 (.int .u8 7) λ_=>
  d63 [1,1,1] (q63 K E) #[x0,x1,x2,x3,x4,x5,x6,x7,x8,x9,x10,x11,x12,x13,x14,x15,x16,x17,x18,x19,x20,x21,x22,x23,x24,x25,x26,x27,x28,x29,x30,t1,x32]) (
  d63 [1,1,1] (q63 K E) #[x0,x1,x2,x3,x4,x5,x6,x7,x8,x9,x10,x11,x12,x13,x14,x15,x16,x17,x18,x19,x20,x21,x22,x23,x24,x25,x26,x27,x28,x29,x30,x31,x32]):=by kernel_rfl
abbrev zop:QD:=za7 Tryz.prog Tryz.f113.results.toList K E
abbrev zor (p:List Nat):QD -> Env -> Hp -> Prop:=den Tryz.prog (sel (za3 Tryz.f113) p)
theorem ytu:zor [] (zop K E) #[x0,U,U,U,U,U,U,U,U,U,U,U,U,U,U,U,U,U,U,U,U,U,U,U,U,U,U,U,U,U,U,U,U,U,U,U,U,U,U,U,U,U,U,U,U,U,U,U,U,U,U,U,U,U,U,U,U,U,U,U,U,U,U,U,U,U,U,U,U,U,U,U,U] =
 nw 77 (Value.cells x0).toList λt1=>
 pv (faV 0 t1) λt2=>
 ld false 1 t2 λt3=>
 pv (za1 .none .eql t3 (.int .u8 1)) λt4=>
 cnd t4 (
  ld true 10 t1 λt5=>
  cF 156 #[t5,(.string ⟨#[73,78,70]⟩)] (λt6=>
  gdK t6 true (λk=>pv (faV 3 t1) k) λt7=>
  gdK t6 true (λk=>ld false 1 t7 k) λt8=>
  gdK t6 true (λk=>cF 157 #[t8] k E) λt9=>
  pv (zad t6 t9 (.bool false)) λt10=>
  gdK t10 true (λk=>pv (faV 4 t1) k) λt11=>
  gdK t10 true (λk=>ld false 1 t11 k) λt12=>
  gdK t10 true (λk=>cF 158 #[t12] k E) λt13=>
  pv (zad t10 t13 (.bool false)) λt14=>
  K t14) E) (
  pv (za1 .none .eql t3 (.int .u8 2)) λt15=>
  cnd t15 (
  ld true 10 t1 λt16=>
  cF 156 #[t16,(.string ⟨#[73,65,78]⟩)] (λt17=>
  gdK t17 true (λk=>pv (faV 3 t1) k) λt18=>
  gdK t17 true (λk=>ld false 1 t18 k) λt19=>
  gdK t17 true (λk=>cF 157 #[t19] k E) λt20=>
  pv (zad t17 t20 (.bool false)) λt21=>
  K t21) E) (
  pv (za1 .none .eql t3 (.int .u8 3)) λt22=>
  cnd t22 (
   zor [1,0,1,0,1,1,1,1,1] (blk 0 (za8 (zor [1,1] (zop K E)) (zop K E))) #[x0,t1,(.bool false),t2,t3,t4,t4,U,U,U,U,U,U,U,U,U,U,U,U,t15,t15,U,U,U,U,U,U,U,t22,t22,U,U,U,U,U,U,U,U,U,U,U,U,U,U,U,U,U,U,U,U,U,U,U,U,U,U,U,U,U,U,U,U,U,U,U,U,U,U,U,U,U,U,U]) (
   pv (za1 .none .eql t3 (.int .u8 4)) λt23=>
   cnd t23 (
   zor [1,0,1,0,1,1,1,1,1] (blk 0 (za8 (zor [1,1] (zop K E)) (zop K E))) #[x0,t1,(.bool false),t2,t3,t4,t4,U,U,U,U,U,U,U,U,U,U,U,U,t15,t15,U,U,U,U,U,U,U,t23,t22,t23,U,U,U,U,U,U,U,U,U,U,U,U,U,U,U,U,U,U,U,U,U,U,U,U,U,U,U,U,U,U,U,U,U,U,U,U,U,U,U,U,U,U]) (
   pv (za1 .none .eql t3 (.int .u8 5)) λt24=>
   zor [1,0,1,0,1,1,1,1,1] (blk 0 (za8 (zor [1,1] (zop K E)) (zop K E))) #[x0,t1,(.bool false),t2,t3,t4,t4,U,U,U,U,U,U,U,U,U,U,U,U,t15,t15,U,U,U,U,U,U,U,t24,t22,t23,t24,U,U,U,U,U,U,U,U,U,U,U,U,U,U,U,U,U,U,U,U,U,U,U,U,U,U,U,U,U,U,U,U,U,U,U,U,U,U,U,U,U])))):=by kernel_rfl
theorem zea:zor [1,0,1,0,1,1,1,1,1] (blk 0 (za8 (zor [1,1] (zop K E)) (zop K E))) #[x0,x1,x2,x3,x4,x5,x6,x7,x8,x9,x10,x11,x12,x13,x14,x15,x16,x17,x18,x19,x20,x21,x22,x23,x24,x25,x26,x27,x28,x29,x30,x31,x32,x33,x34,x35,x36,x37,x38,x39,x40,x41,x42,x43,x44,x45,x46,x47,x48,x49,x50,x51,x52,x53,x54,x55,x56,x57,x58,x59,x60,x61,x62,x63,x64,x65,x66,x67,x68,x69,x70,x71,x72] =
 cnd x28 (
  ld true 10 x1 λt1=>
  cF 156 #[t1,(.string ⟨#[73]⟩)] (λt2=>
  K t2) E) (
  pv (za1 .none .eql x4 (.int .u8 6)) λt3=>
  cnd t3 (
  ld true 10 x1 λt4=>
  cF 156 #[t4,(.string ⟨#[77]⟩)] (λt5=>
  gdK t5 true (λk=>pv (faV 5 x1) k) λt6=>
  gdK t5 true (λk=>pv (faV 1 t6) k) λt7=>
  gdK t5 true (λk=>ld false 1 t7 k) λt8=>
  gdK t5 true (λk=>cF 159 #[t8] k E) λt9=>
  pv (zad t5 t9 (.bool false)) λt10=>
  K t10) E) (
  pv (za1 .none .eql x4 (.int .u8 7)) λt11=>
  cnd t11 (
   ld true 10 x1 λt12=>
   cF 156 #[t12,(.string ⟨#[73,82]⟩)] (λt13=>
   gdK t13 true (λk=>pv (faV 9 x1) k) λt14=>
   gdK t13 true (λk=>ld false 1 t14 k) λt15=>
   gdK t13 true (λk=>cF 160 #[t15] k E) λt16=>
   pv (zad t13 t16 (.bool false)) λt17=>
   gdK t17 true (λk=>pv (faV 7 x1) k) λt18=>
   gdK t17 true (λk=>ld false 1 t18 k) λt19=>
   gdK t17 true (λk=>pv (za1 .none .geq t19 (.int .i64 0)) k) λt20=>
   pv (zad t17 t20 (.bool false)) λt21=>
   gdK t21 true (λk=>pv (faV 7 x1) k) λt22=>
   gdK t21 true (λk=>ld false 1 t22 k) λt23=>
   gdK t21 true (λk=>pv (za1 .none .leq t23 (.int .i64 10000)) k) λt24=>
   pv (zad t21 t24 (.bool false)) λt25=>
   gdK t25 true (λk=>pv (faV 8 x1) k) λt26=>
   gdK t25 true (λk=>ld false 1 t26 k) λt27=>
   gdK t25 true (λk=>pv (za1 .none .geq t27 (.int .i64 0)) k) λt28=>
   pv (zad t25 t28 (.bool false)) λt29=>
   gdK t29 true (λk=>pv (faV 8 x1) k) λt30=>
   gdK t29 true (λk=>ld false 1 t30 k) λt31=>
   gdK t29 true (λk=>pv (za1 .none .leq t31 (.int .i64 10000)) k) λt32=>
   pv (zad t29 t32 (.bool false)) λt33=>
   K t33) E) (
   K (.bool false)))):=by kernel_rfl
abbrev ykw:QD:=za7 Tryz.prog Tryz.f114.results.toList K E
abbrev zwn (p:List Nat):QD -> Env -> Hp -> Prop:=den Tryz.prog (sel (za3 Tryz.f114) p)
abbrev zuz:=za8 k1 (blk 0 (za8 (zwn [1,1,1] (ykw K E)) (ykw K E)))
def ze9 (j:Nat -> Value):Env:=#[v0,x1,x2,x3,x4,v5,x6,x7,x8,x9,x10,(j 11),(j 12),(j 13),(j 14),(j 15),(j 16),(j 17),(j 18),(j 19),(j 20),(j 21),(j 22),(j 23),x24]
theorem t114:zwn [] (ykw K E) #[x0,x1,U,U,U,U,U,U,U,U,U,U,U,U,U,U,U,U,U,U,U,U,U,U,U] =
 pv (zac x1) λt1=>
 pv (cvV .u64 t1) λt2=>
 cF 106 #[x0,t2,(.int .i64 1)] (λt3=>
 lp (λk1=>zwn [1,1,0,1,0,0] (zuz K E k1)) (ze9 x1 U U (.slice none 0 0) x0 x1 t1 t2 t3 U t3 (.int .i64 0) (jf #[]))) E:=by kernel_rfl
theorem ztk:zwn [1,1,0,1,0,0] (zuz K E k1) (ze9 x1 x2 x3 x4 x6 x7 x8 x9 x10 x24 v0 v5 j) =
 pv (zac x1) λt1=>
 pv (za1 .none .lss v5 t1) λt2=>
 cnd t2 (
  pv (iaV none 1 x1 v5) λt3=>
  ld false 1 t3 λt4=>
  pv (cvV .u64 t4) λt5=>
  cF 106 #[v0,t5,(.int .i64 1)] (λt6=>
  pv (za1 .none .add v5 (.int .i64 1)) λt7=>
  k1 (ze9 x1 x2 x3 x4 x6 x7 x8 x9 x10 x24 t6 t7 (jf #[U,U,U,U,U,U,U,U,U,U,U,v5,x1,t1,t2,v5,t7,v0,x1,v5,t3,t4,t5,t6]))) E) (
  K v0):=by kernel_rfl
abbrev ymx:QD:=za7 Tryz.prog Tryz.f157.results.toList K E
abbrev zx0 (p:List Nat):QD -> Env -> Hp -> Prop:=den Tryz.prog (sel (za3 Tryz.f157) p)
abbrev zwe:=za8 k1 (blk 0 (za8 (zx0 [1,1] (ymx K E)) (ymx K E)))
def zf7 (j:Nat -> Value):Env:=#[x0,x1,(j 2),v3,(j 4),(j 5),(j 6),(j 7),(j 8),(j 9),(j 10),(j 11),(j 12),(j 13),(j 14),(j 15),(j 16),(j 17),(j 18),(j 19),(j 20),(j 21),(j 22),(j 23),(j 24),(j 25),(j 26),(j 27),(j 28),(j 29),(j 30),(j 31),(j 32),(j 33),(j 34),(j 35),(j 36),(j 37)]
theorem ywn:zx0 [] (ymx K E) #[x0,U,U,U,U,U,U,U,U,U,U,U,U,U,U,U,U,U,U,U,U,U,U,U,U,U,U,U,U,U,U,U,U,U,U,U,U,U] =
 lp (λk1=>zx0 [1,0,1,0,0] (zwe K E k1)) (zf7 x0 U (.int .i64 0) (jf #[U,U,(.bool false)])):=by kernel_rfl
theorem zy0:zx0 [1,0,1,0,0] (zwe K E k1) (zf7 x0 x1 v3 j) =
 pv (zac x0) λt1=>
 pv (za1 .none .lss v3 t1) λt2=>
 cnd t2 (
  pv (iaV none 1 x0 v3) λt3=>
  ld false 1 t3 λt4=>
  pv (za1 .none .lss t4 (.int .i64 0)) λt5=>
  gdK t5 false (λk=>k x0) λt6=>
  gdK t5 false (λk=>k v3) λt7=>
  gdK t5 false (λk=>pv (iaV none 1 t6 t7) k) λt8=>
  gdK t5 false (λk=>ld false 1 t8 k) λt9=>
  gdK t5 false (λk=>pv (za1 .none .gtr t9 (.int .i64 5)) k) λt10=>
  pv (zad t5 (.bool true) t10) λt11=>
  gdK t11 false (λk=>k v3) λt12=>
  gdK t11 false (λk=>pv (za1 .none .gtr t12 (.int .i64 0)) k) λt13=>
  gdK t11 false (λk=>k t13) λt14=>
  gdK t14 true (λk=>k x0) λt15=>
  gdK t14 true (λk=>k v3) λt16=>
  gdK t14 true (λk=>pv (iaV none 1 t15 t16) k) λt17=>
  gdK t14 true (λk=>ld false 1 t17 k) λt18=>
  gdK t14 true (λk=>k x0) λt19=>
  gdK t14 true (λk=>k v3) λt20=>
  gdK t14 true (λk=>pv (za1 .none .sub t20 (.int .i64 1)) k) λt21=>
  gdK t14 true (λk=>pv (iaV none 1 t19 t21) k) λt22=>
  gdK t14 true (λk=>ld false 1 t22 k) λt23=>
  gdK t14 true (λk=>pv (za1 .none .leq t18 t23) k) λt24=>
  gdK t11 false (λk=>pv (zad t14 t24 (.bool false)) k) λt25=>
  pv (zad t11 (.bool true) t25) λt26=>
  cnd t26 (
  K (.bool false)) (
  pv (za1 .none .add v3 (.int .i64 1)) λt27=>
  k1 (zf7 x0 x1 t27 (jf #[U,U,(j 2),U,v3,x0,t1,t2,v3,t27,x0,v3,t3,t4,t5,t5,t6,t7,t8,t9,t10,t11,t11,t12,t13,t14,t15,t16,t17,t18,t19,t20,t21,t22,t23,t24,t25,t26])))) (
  K (.bool true)):=by kernel_rfl
abbrev zlo:QD:=za7 Tryz.prog Tryz.f158.results.toList K E
abbrev zhb (p:List Nat):QD -> Env -> Hp -> Prop:=den Tryz.prog (sel (za3 Tryz.f158) p)
abbrev zum:=za8 k2 (blk 2 (za8 (zhb [1,0,1,0,0,1,0,0,1] (blk 1 (za8 (zhb [1,0,1,0,0,1,1] (za8 k1 (blk 0 (za8 (zhb [1,1] (zlo K E)) (zlo K E))))) (za8 k1 (blk 0 (za8 (zhb [1,1] (zlo K E)) (zlo K E))))))) (blk 1 (za8 (zhb [1,0,1,0,0,1,1] (za8 k1 (blk 0 (za8 (zhb [1,1] (zlo K E)) (zlo K E))))) (za8 k1 (blk 0 (za8 (zhb [1,1] (zlo K E)) (zlo K E))))))))
abbrev zue:=za8 k1 (blk 0 (za8 (zhb [1,1] (zlo K E)) (zlo K E)))
def zf4 (j:Nat -> Value):Env:=#[x0,x1,(j 2),v3,(j 4),(j 5),(j 6),(j 7),(j 8),(j 9),(j 10),(j 11),(j 12),(j 13),(j 14),(j 15),(j 16),(j 17),(j 18),(j 19),(j 20),(j 21),(j 22),(j 23),(j 24),(j 25),(j 26),(j 27),(j 28),(j 29),(j 30),(j 31),(j 32),(j 33),(j 34),(j 35),(j 36),(j 37),(j 38),(j 39),(j 40),(j 41),(j 42),(j 43),(j 44),(j 45),(j 46),(j 47),x48,x49,x50]
def zc0 (j:Nat -> Value):Env:=#[x0,x1,(j 2),x3,v4,x5,x6,x7,x8,x9,x10,(j 11),(j 12),(j 13),(j 14),(j 15),(j 16),(j 17),(j 18),(j 19),(j 20),(j 21),(j 22),(j 23),(j 24),(j 25),(j 26),(j 27),(j 28),(j 29),(j 30),(j 31),(j 32),(j 33),(j 34),(j 35),(j 36),(j 37),(j 38),(j 39),(j 40),x41,x42,x43,x44,x45,x46,x47,x48,x49,x50]
theorem yux:zhb [] (zlo K E) #[x0,U,U,U,U,U,U,U,U,U,U,U,U,U,U,U,U,U,U,U,U,U,U,U,U,U,U,U,U,U,U,U,U,U,U,U,U,U,U,U,U,U,U,U,U,U,U,U,U,U,U] =
 lp (λk1=>zhb [1,0,1,0,0] (zue K E k1)) (zf4 x0 U U U U (.int .i64 0) (jf #[U,U,(.bool false)])):=by kernel_rfl
theorem zxf:zhb [1,0,1,0,0] (zue K E k1) (zf4 x0 x1 x48 x49 x50 v3 j) =
 pv (zac x0) λt1=>
 pv (za1 .none .lss v3 t1) λt2=>
 cnd t2 (
  lp (λk2=>zhb [1,0,1,0,0,1,0,0,0,1,0,0] (zum K E k1 k2)) (zc0 x0 x1 v3 v3 x0 t1 t2 (j 9) (j 10) (j 41) (j 42) (j 43) (j 44) (j 45) (j 46) (j 47) x48 x49 x50 (.int .i64 0) (jf #[U,U,(j 2),U,U,U,U,U,U,U,U,(j 11),(j 12),(j 13),(j 14),(j 15),(j 16),(j 17),(j 18),(j 19),(j 20),(j 21),(j 22),(j 23),(j 24),(j 25),(j 26),(j 27),(j 28),(j 29),(j 30),(j 31),(j 32),(j 33),(j 34),(j 35),(j 36),(j 37),(j 38),(j 39),(j 40)]))) (
  pv (zac x0) λt3=>
  pv (za1 .none .leq t3 (.int .i64 200)) λt4=>
  K t4):=by kernel_rfl
theorem zjv:zhb [1,0,1,0,0,1,0,0,0,1,0,0] (zum K E k1 k2) (zc0 x0 x1 x3 x5 x6 x7 x8 x9 x10 x41 x42 x43 x44 x45 x46 x47 x48 x49 x50 v4 j) =
 pv (iaV none 2 x0 x3) λt1=>
 pv (faV 0 t1) λt2=>
 ld false 1 t2 λt3=>
 pv (zac t3) λt4=>
 pv (za1 .none .lss v4 t4) λt5=>
 cnd t5 (
  pv (iaV none 2 x0 x3) λt6=>
  pv (faV 0 t6) λt7=>
  ld false 1 t7 λt8=>
  pv (iaV none 1 t8 v4) λt9=>
  ld false 1 t9 λt10=>
  pv (za1 .none .lss t10 (.int .i64 0)) λt11=>
  gdK t11 false (λk=>k x0) λt12=>
  gdK t11 false (λk=>k x3) λt13=>
  gdK t11 false (λk=>pv (iaV none 2 t12 t13) k) λt14=>
  gdK t11 false (λk=>pv (faV 0 t14) k) λt15=>
  gdK t11 false (λk=>ld false 1 t15 k) λt16=>
  gdK t11 false (λk=>k v4) λt17=>
  gdK t11 false (λk=>pv (iaV none 1 t16 t17) k) λt18=>
  gdK t11 false (λk=>ld false 1 t18 k) λt19=>
  gdK t11 false (λk=>pv (za1 .none .gtr t19 (.int .i64 9999)) k) λt20=>
  pv (zad t11 (.bool true) t20) λt21=>
  cnd t21 (
  K (.bool false)) (
  pv (za1 .none .add v4 (.int .i64 1)) λt22=>
  k2 (zc0 x0 x1 x3 x5 x6 x7 x8 x9 x10 x41 x42 x43 x44 x45 x46 x47 x48 x49 x50 t22 (jf #[U,U,(j 2),U,U,U,U,U,U,U,U,v4,x0,x3,t1,t2,t3,t4,t5,v4,t22,x0,x3,t6,t7,t8,v4,t9,t10,t11,t11,t12,t13,t14,t15,t16,t17,t18,t19,t20,t21])))) (
  pv (iaV none 2 x0 x3) λt23=>
  pv (faV 0 t23) λt24=>
  ld false 1 t24 λt25=>
  pv (zac t25) λt26=>
  pv (za1 .none .gtr t26 (.int .i64 4)) λt27=>
  cnd t27 (
  K (.bool false)) (
  pv (za1 .none .add x3 (.int .i64 1)) λt28=>
  k1 (zf4 x0 x1 x48 x49 x50 t28 (jf #[U,U,(j 2),U,v4,x5,x6,x7,x8,x3,t28,v4,x0,x3,t1,t2,t3,t4,t5,(j 19),(j 20),(j 21),(j 22),(j 23),(j 24),(j 25),(j 26),(j 27),(j 28),(j 29),(j 30),(j 31),(j 32),(j 33),(j 34),(j 35),(j 36),(j 37),(j 38),(j 39),(j 40),x0,x3,t23,t24,t25,t26,t27])))):=by kernel_rfl
abbrev qc8:QD:=za7 Tryz.prog Tryz.f159.results.toList K E
abbrev qad (p:List Nat):QD -> Env -> Hp -> Prop:=den Tryz.prog (sel (za3 Tryz.f159) p)
abbrev ymg:QD:=za7 Tryz.prog Tryz.f160.results.toList K E
abbrev zy9 (p:List Nat):QD -> Env -> Hp -> Prop:=den Tryz.prog (sel (za3 Tryz.f160) p)
abbrev zuc:=za8 k1 (blk 0 (za8 (zy9 [1,1] (ymg K E)) (ymg K E)))
def zf2 (j:Nat -> Value):Env:=#[x0,x1,(j 2),v3,(j 4),(j 5),(j 6),(j 7),(j 8),(j 9),(j 10),(j 11),(j 12),(j 13),(j 14),(j 15),(j 16),(j 17),(j 18),(j 19),(j 20),(j 21),(j 22),(j 23),(j 24),(j 25),(j 26),(j 27),(j 28),(j 29),(j 30),(j 31),(j 32),(j 33),(j 34),x35,x36,x37]
theorem yy1:zy9 [] (ymg K E) #[x0,U,U,U,U,U,U,U,U,U,U,U,U,U,U,U,U,U,U,U,U,U,U,U,U,U,U,U,U,U,U,U,U,U,U,U,U,U] =
 lp (λk1=>zy9 [1,0,1,0,0] (zuc K E k1)) (zf2 x0 U U U U (.int .i64 0) (jf #[U,U,(.bool false)])):=by kernel_rfl
theorem zx1:zy9 [1,0,1,0,0] (zuc K E k1) (zf2 x0 x1 x35 x36 x37 v3 j) =
 pv (zac x0) λt1=>
 pv (za1 .none .lss v3 t1) λt2=>
 cnd t2 (
  pv (iaV none 2 x0 v3) λt3=>
  pv (faV 1 t3) λt4=>
  ld false 1 t4 λt5=>
  cF 158 #[t5] (λt6=>
  pv (unV .not t6) λt7=>
  gdK t7 false (λk=>k v3) λt8=>
  gdK t7 false (λk=>pv (za1 .none .gtr t8 (.int .i64 0)) k) λt9=>
  gdK t7 false (λk=>k t9) λt10=>
  gdK t10 true (λk=>k x0) λt11=>
  gdK t10 true (λk=>k v3) λt12=>
  gdK t10 true (λk=>pv (iaV none 2 t11 t12) k) λt13=>
  gdK t10 true (λk=>pv (faV 0 t13) k) λt14=>
  gdK t10 true (λk=>ld false 1 t14 k) λt15=>
  gdK t10 true (λk=>k x0) λt16=>
  gdK t10 true (λk=>k v3) λt17=>
  gdK t10 true (λk=>pv (za1 .none .sub t17 (.int .i64 1)) k) λt18=>
  gdK t10 true (λk=>pv (iaV none 2 t16 t18) k) λt19=>
  gdK t10 true (λk=>pv (faV 0 t19) k) λt20=>
  gdK t10 true (λk=>ld false 1 t20 k) λt21=>
  gdK t10 true (λk=>pv (za1 .none .leq t15 t21) k) λt22=>
  gdK t7 false (λk=>pv (zad t10 t22 (.bool false)) k) λt23=>
  pv (zad t7 (.bool true) t23) λt24=>
  cnd t24 (
  K (.bool false)) (
  pv (za1 .none .add v3 (.int .i64 1)) λt25=>
  k1 (zf2 x0 x1 x35 x36 x37 t25 (jf #[U,U,(j 2),U,v3,x0,t1,t2,v3,t25,x0,v3,t3,t4,t5,t6,t7,t7,t8,t9,t10,t11,t12,t13,t14,t15,t16,t17,t18,t19,t20,t21,t22,t23,t24])))) E) (
  pv (zac x0) λt26=>
  pv (za1 .none .leq t26 (.int .i64 5000)) λt27=>
  K t27):=by kernel_rfl
abbrev q18:QD:=za7 Tryz.prog Tryz.f18.results.toList K E
abbrev d18 (p:List Nat):QD -> Env -> Hp -> Prop:=den Tryz.prog (sel (za3 Tryz.f18) p)
abbrev q50:QD:=za7 Tryz.prog Tryz.f50.results.toList K E
abbrev d50 (p:List Nat):QD -> Env -> Hp -> Prop:=den Tryz.prog (sel (za3 Tryz.f50) p)
abbrev qbu:QD:=za7 Tryz.prog Tryz.f101.results.toList K E
abbrev qdf (p:List Nat):QD -> Env -> Hp -> Prop:=den Tryz.prog (sel (za3 Tryz.f101) p)
abbrev yzd:QD:=za7 Tryz.prog Tryz.f147.results.toList K E
abbrev qao (p:List Nat):QD -> Env -> Hp -> Prop:=den Tryz.prog (sel (za3 Tryz.f147) p)
abbrev qbx:QD:=za7 Tryz.prog Tryz.f148.results.toList K E
abbrev qd6 (p:List Nat):QD -> Env -> Hp -> Prop:=den Tryz.prog (sel (za3 Tryz.f148) p)
abbrev yzh:QD:=za7 Tryz.prog Tryz.f149.results.toList K E
abbrev qdq (p:List Nat):QD -> Env -> Hp -> Prop:=den Tryz.prog (sel (za3 Tryz.f149) p)
abbrev qb9:QD:=za7 Tryz.prog Tryz.f150.results.toList K E
abbrev qce (p:List Nat):QD -> Env -> Hp -> Prop:=den Tryz.prog (sel (za3 Tryz.f150) p)
abbrev qau:QD:=za7 Tryz.prog Tryz.f151.results.toList K E
abbrev qdw (p:List Nat):QD -> Env -> Hp -> Prop:=den Tryz.prog (sel (za3 Tryz.f151) p)
end
section
variable {K:zae} {E:zb2} {k1 k2:Env -> Hp -> Prop} {σ:Type} {x0 x1 x2 x3 x4 x5 x6 x7 x8 x9 x10 x11 x12 x13 x14 x15 x16 x17 x18 x19 x20 x21 x22 x23 x24 x25 x26 x27 x28 x29 x30 x31 x32 x33 x34 x35 x36 x37 x38 x39 x40 x41 x42 x43 x44 x45 x46 x47 x48 x49 x50 x51 x52 x53 x54 x83 x84 x85 x86 x87 x88 x89 x90 x91 x92 x93 x94 x95 x96 x97 x98 x99 x100 x101 x102 v0 v3 v4 v5:Value} {h:Hp} {j:Nat -> Value}
theorem zpa (f4 f5:σ -> Value) (I:σ -> Hp -> Prop) (μ:σ -> Nat) (s0:σ) (e4:v4=f4 s0) (e5:v5=f5 s0) (h0:h.wf -> ∃ h',h.wk h'∧I s0 h')
 (round:∀ (k1:Env -> Hp -> Prop) (s:σ) (j:Nat -> Value) (h:Hp),I s h -> h.wf -> (∀ s' j' h',μ s'<μ s -> (h'.wf -> ∃ h'',h'.wk h''∧I s' h'') -> k1 (zb8 x0 x1 x2 x3 x6 x7 x8 x9 x10 x11 x12 x13 x14 x15 x16 x17 x18 x19 x20 x21 x22 x23 x24 x25 x26 x27 x28 x29 x30 x31 x32 x33 x34 x35 x36 x37 x38 x39 x40 x41 x42 x43 x44 x45 x46 x47 x48 x49 x50 x51 x52 x53 x54 x83 x84 x85 x86 x87 x88 x89 x90 x91 x92 x93 x94 x95 x96 x97 x98 x99 x100 x101 x102 (f4 s') (f5 s') j') h') -> d62 [1,1,1,1,0,1,0,1,1,1,1,1,0,1,1,1,0,0] (zzm K E k1) (zb8 x0 x1 x2 x3 x6 x7 x8 x9 x10 x11 x12 x13 x14 x15 x16 x17 x18 x19 x20 x21 x22 x23 x24 x25 x26 x27 x28 x29 x30 x31 x32 x33 x34 x35 x36 x37 x38 x39 x40 x41 x42 x43 x44 x45 x46 x47 x48 x49 x50 x51 x52 x53 x54 x83 x84 x85 x86 x87 x88 x89 x90 x91 x92 x93 x94 x95 x96 x97 x98 x99 x100 x101 x102 (f4 s) (f5 s) j) h) :
 lp (λk1=>d62 [1,1,1,1,0,1,0,1,1,1,1,1,0,1,1,1,0,0] (zzm K E k1)) (zb8 x0 x1 x2 x3 x6 x7 x8 x9 x10 x11 x12 x13 x14 x15 x16 x17 x18 x19 x20 x21 x22 x23 x24 x25 x26 x27 x28 x29 x30 x31 x32 x33 x34 x35 x36 x37 x38 x39 x40 x41 x42 x43 x44 x45 x46 x47 x48 x49 x50 x51 x52 x53 x54 x83 x84 x85 x86 x87 x88 x89 x90 x91 x92 x93 x94 x95 x96 x97 x98 x99 x100 x101 x102 v4 v5 j) h:=by
 subst e4;subst e5;exact zaw _ I μ round s0 j h0
theorem ztm (f0 f5:σ -> Value) (I:σ -> Hp -> Prop) (μ:σ -> Nat) (s0:σ) (e0:v0=f0 s0) (e5:v5=f5 s0) (h0:h.wf -> ∃ h',h.wk h'∧I s0 h')
 (round:∀ (k1:Env -> Hp -> Prop) (s:σ) (j:Nat -> Value) (h:Hp),I s h -> h.wf -> (∀ s' j' h',μ s'<μ s -> (h'.wf -> ∃ h'',h'.wk h''∧I s' h'') -> k1 (ze9 x1 x2 x3 x4 x6 x7 x8 x9 x10 x24 (f0 s') (f5 s') j') h') -> zwn [1,1,0,1,0,0] (zuz K E k1) (ze9 x1 x2 x3 x4 x6 x7 x8 x9 x10 x24 (f0 s) (f5 s) j) h) :
 lp (λk1=>zwn [1,1,0,1,0,0] (zuz K E k1)) (ze9 x1 x2 x3 x4 x6 x7 x8 x9 x10 x24 v0 v5 j) h:=by
 subst e0;subst e5;exact zaw _ I μ round s0 j h0
theorem zwz (f3:σ -> Value) (I:σ -> Hp -> Prop) (μ:σ -> Nat) (s0:σ) (e3:v3=f3 s0) (h0:h.wf -> ∃ h',h.wk h'∧I s0 h')
 (round:∀ (k1:Env -> Hp -> Prop) (s:σ) (j:Nat -> Value) (h:Hp),I s h -> h.wf -> (∀ s' j' h',μ s'<μ s -> (h'.wf -> ∃ h'',h'.wk h''∧I s' h'') -> k1 (zf7 x0 x1 (f3 s') j') h') -> zx0 [1,0,1,0,0] (zwe K E k1) (zf7 x0 x1 (f3 s) j) h) :
 lp (λk1=>zx0 [1,0,1,0,0] (zwe K E k1)) (zf7 x0 x1 v3 j) h:=by
 subst e3;exact zaw _ I μ round s0 j h0
theorem zxh (f3:σ -> Value) (I:σ -> Hp -> Prop) (μ:σ -> Nat) (s0:σ) (e3:v3=f3 s0) (h0:h.wf -> ∃ h',h.wk h'∧I s0 h')
 (round:∀ (k1:Env -> Hp -> Prop) (s:σ) (j:Nat -> Value) (h:Hp),I s h -> h.wf -> (∀ s' j' h',μ s'<μ s -> (h'.wf -> ∃ h'',h'.wk h''∧I s' h'') -> k1 (zf4 x0 x1 x48 x49 x50 (f3 s') j') h') -> zhb [1,0,1,0,0] (zue K E k1) (zf4 x0 x1 x48 x49 x50 (f3 s) j) h) :
 lp (λk1=>zhb [1,0,1,0,0] (zue K E k1)) (zf4 x0 x1 x48 x49 x50 v3 j) h:=by
 subst e3;exact zaw _ I μ round s0 j h0
theorem zjz (f4:σ -> Value) (I:σ -> Hp -> Prop) (μ:σ -> Nat) (s0:σ) (e4:v4=f4 s0) (h0:h.wf -> ∃ h',h.wk h'∧I s0 h')
 (round:∀ (k2:Env -> Hp -> Prop) (s:σ) (j:Nat -> Value) (h:Hp),I s h -> h.wf -> (∀ s' j' h',μ s'<μ s -> (h'.wf -> ∃ h'',h'.wk h''∧I s' h'') -> k2 (zc0 x0 x1 x3 x5 x6 x7 x8 x9 x10 x41 x42 x43 x44 x45 x46 x47 x48 x49 x50 (f4 s') j') h') -> zhb [1,0,1,0,0,1,0,0,0,1,0,0] (zum K E k1 k2) (zc0 x0 x1 x3 x5 x6 x7 x8 x9 x10 x41 x42 x43 x44 x45 x46 x47 x48 x49 x50 (f4 s) j) h) :
 lp (λk2=>zhb [1,0,1,0,0,1,0,0,0,1,0,0] (zum K E k1 k2)) (zc0 x0 x1 x3 x5 x6 x7 x8 x9 x10 x41 x42 x43 x44 x45 x46 x47 x48 x49 x50 v4 j) h:=by
 subst e4;exact zaw _ I μ round s0 j h0
theorem zya (f3:σ -> Value) (I:σ -> Hp -> Prop) (μ:σ -> Nat) (s0:σ) (e3:v3=f3 s0) (h0:h.wf -> ∃ h',h.wk h'∧I s0 h')
 (round:∀ (k1:Env -> Hp -> Prop) (s:σ) (j:Nat -> Value) (h:Hp),I s h -> h.wf -> (∀ s' j' h',μ s'<μ s -> (h'.wf -> ∃ h'',h'.wk h''∧I s' h'') -> k1 (zf2 x0 x1 x35 x36 x37 (f3 s') j') h') -> zy9 [1,0,1,0,0] (zuc K E k1) (zf2 x0 x1 x35 x36 x37 (f3 s) j) h) :
 lp (λk1=>zy9 [1,0,1,0,0] (zuc K E k1)) (zf2 x0 x1 x35 x36 x37 v3 j) h:=by
 subst e3;exact zaw _ I μ round s0 j h0
end
section
variable (K:zae) (E:zb2) (k1:Env -> Hp -> Prop) (x0 x1 x2 x3 x4 x12 x13 x14 x15 x16 x17 x18 x19 x20 x21 x22 x23 x24 x25 x26 x27 x28 x29 x30 x31 x32 x33 x34 x35 x36 x37 x38 x39 x40 x41 x42 x43 x44 x45 x46 x47 x48 x49 x50 x99 x100 x101 x102 x103 x104 x105 x106 x107 x108 x109 x110 x111 x112 x113 x114 v5 v6 v7 v8 v9 v10 v11:Value) (j:Nat -> Value)
abbrev yl7:QD:=za7 Tryz.prog Tryz.f156.results.toList K E
abbrev ycj (p:List Nat):QD -> Env -> Hp -> Prop:=den Tryz.prog (sel (za3 Tryz.f156) p)
abbrev yc7:=za8 k1 (blk 0 (za8 (ycj [1,1,1,1,1,1,1,1] (yl7 K E)) (yl7 K E)))
def zax (j:Nat -> Value):Env:=#[x0,x1,x2,x3,x4,v5,v6,v7,v8,v9,v10,v11,x12,x13,x14,x15,x16,x17,x18,x19,x20,x21,x22,x23,x24,x25,x26,x27,x28,x29,x30,x31,x32,x33,x34,x35,x36,x37,x38,x39,x40,x41,x42,x43,x44,x45,x46,x47,x48,x49,x50,(j 51),(j 52),(j 53),(j 54),(j 55),(j 56),(j 57),(j 58),(j 59),(j 60),(j 61),(j 62),(j 63),(j 64),(j 65),(j 66),(j 67),(j 68),(j 69),(j 70),(j 71),(j 72),(j 73),(j 74),(j 75),(j 76),(j 77),(j 78),(j 79),(j 80),(j 81),(j 82),(j 83),(j 84),(j 85),(j 86),(j 87),(j 88),(j 89),(j 90),(j 91),(j 92),(j 93),(j 94),(j 95),(j 96),(j 97),(j 98),x99,x100,x101,x102,x103,x104,x105,x106,x107,x108,x109,x110,x111,x112,x113,x114]
theorem yxd:ycj [] (yl7 K E) #[x0,x1,U,U,U,U,U,U,U,U,U,U,U,U,U,U,U,U,U,U,U,U,U,U,U,U,U,U,U,U,U,U,U,U,U,U,U,U,U,U,U,U,U,U,U,U,U,U,U,U,U,U,U,U,U,U,U,U,U,U,U,U,U,U,U,U,U,U,U,U,U,U,U,U,U,U,U,U,U,U,U,U,U,U,U,U,U,U,U,U,U,U,U,U,U,U,U,U,U,U,U,U,U,U,U,U,U,U,U,U,U,U,U,U,U] =
 nw 77 (Value.cells x0).toList λt1=>
 pv (faV 1 t1) λt2=>
 ld false 1 t2 λt3=>
 pv (za1 .none .eql t3 (.int .u32 0)) λt4=>
 pv (faV 2 t1) λt5=>
 ld false 1 t5 λt6=>
 pv (za1 .none .eql t6 (.int .u32 0)) λt7=>
 pv (faV 3 t1) λt8=>
 ld false 1 t8 λt9=>
 pv (zac t9) λt10=>
 pv (za1 .none .eql t10 (.int .i64 0)) λt11=>
 pv (faV 4 t1) λt12=>
 ld false 1 t12 λt13=>
 pv (zac t13) λt14=>
 pv (za1 .none .eql t14 (.int .i64 0)) λt15=>
 pv (faV 5 t1) λt16=>
 pv (faV 0 t16) λt17=>
 ld false 1 t17 λt18=>
 pv (za1 .none .eql t18 (.int .u32 0)) λt19=>
 gdK t19 true (λk=>pv (faV 5 t1) k) λt20=>
 gdK t19 true (λk=>pv (faV 1 t20) k) λt21=>
 gdK t19 true (λk=>ld false 1 t21 k) λt22=>
 gdK t19 true (λk=>pv (zac t22) k) λt23=>
 gdK t19 true (λk=>pv (za1 .none .eql t23 (.int .i64 0)) k) λt24=>
 pv (zad t19 t24 (.bool false)) λt25=>
 pv (faV 7 t1) λt26=>
 ld false 1 t26 λt27=>
 pv (za1 .none .eql t27 (.int .i64 0)) λt28=>
 gdK t28 true (λk=>pv (faV 8 t1) k) λt29=>
 gdK t28 true (λk=>ld false 1 t29 k) λt30=>
 gdK t28 true (λk=>pv (za1 .none .eql t30 (.int .i64 0)) k) λt31=>
 pv (zad t28 t31 (.bool false)) λt32=>
 gdK t32 true (λk=>pv (faV 9 t1) k) λt33=>
 gdK t32 true (λk=>ld false 1 t33 k) λt34=>
 gdK t32 true (λk=>pv (zac t34) k) λt35=>
 gdK t32 true (λk=>pv (za1 .none .eql t35 (.int .i64 0)) k) λt36=>
 pv (zad t32 t36 (.bool false)) λt37=>
 lp (λk1=>ycj [1,1,1,1,1,1,1,0,1,0,0] (yc7 K E k1)) (zax x0 x1 t1 U (.bool false) t2 t3 t4 t5 t6 t7 t8 t9 t10 t11 t12 t13 t14 t15 t16 t17 t18 t19 t19 t20 t21 t22 t23 t24 t25 t26 t27 t28 t28 t29 t30 t31 t32 t32 t33 t34 t35 t36 t37 U U U U U U U U U U U U U U U U t4 t7 t11 t15 t25 t37 (.int .i64 0) (jf #[])):=by kernel_rfl
end
section
variable {K:zae} {E:zb2} {k1:Env -> Hp -> Prop} {σ:Type} {x0 x1 x2 x3 x4 x12 x13 x14 x15 x16 x17 x18 x19 x20 x21 x22 x23 x24 x25 x26 x27 x28 x29 x30 x31 x32 x33 x34 x35 x36 x37 x38 x39 x40 x41 x42 x43 x44 x45 x46 x47 x48 x49 x50 x99 x100 x101 x102 x103 x104 x105 x106 x107 x108 x109 x110 x111 x112 x113 x114 v5 v6 v7 v8 v9 v10 v11:Value} {h:Hp} {j:Nat -> Value}
theorem zkx (f5 f6 f7 f8 f9 f10 f11:σ -> Value) (I:σ -> Hp -> Prop) (μ:σ -> Nat) (s0:σ) (e5:v5=f5 s0) (e6:v6=f6 s0) (e7:v7=f7 s0) (e8:v8=f8 s0) (e9:v9=f9 s0) (e10:v10=f10 s0) (e11:v11=f11 s0) (h0:h.wf -> ∃ h',h.wk h'∧I s0 h')
 (round:∀ (k1:Env -> Hp -> Prop) (s:σ) (j:Nat -> Value) (h:Hp),I s h -> h.wf -> (∀ s' j' h',μ s'<μ s -> (h'.wf -> ∃ h'',h'.wk h''∧I s' h'') -> k1 (zax x0 x1 x2 x3 x4 x12 x13 x14 x15 x16 x17 x18 x19 x20 x21 x22 x23 x24 x25 x26 x27 x28 x29 x30 x31 x32 x33 x34 x35 x36 x37 x38 x39 x40 x41 x42 x43 x44 x45 x46 x47 x48 x49 x50 x99 x100 x101 x102 x103 x104 x105 x106 x107 x108 x109 x110 x111 x112 x113 x114 (f5 s') (f6 s') (f7 s') (f8 s') (f9 s') (f10 s') (f11 s') j') h') -> ycj [1,1,1,1,1,1,1,0,1,0,0] (yc7 K E k1) (zax x0 x1 x2 x3 x4 x12 x13 x14 x15 x16 x17 x18 x19 x20 x21 x22 x23 x24 x25 x26 x27 x28 x29 x30 x31 x32 x33 x34 x35 x36 x37 x38 x39 x40 x41 x42 x43 x44 x45 x46 x47 x48 x49 x50 x99 x100 x101 x102 x103 x104 x105 x106 x107 x108 x109 x110 x111 x112 x113 x114 (f5 s) (f6 s) (f7 s) (f8 s) (f9 s) (f10 s) (f11 s) j) h) :
 lp (λk1=>ycj [1,1,1,1,1,1,1,0,1,0,0] (yc7 K E k1)) (zax x0 x1 x2 x3 x4 x12 x13 x14 x15 x16 x17 x18 x19 x20 x21 x22 x23 x24 x25 x26 x27 x28 x29 x30 x31 x32 x33 x34 x35 x36 x37 x38 x39 x40 x41 x42 x43 x44 x45 x46 x47 x48 x49 x50 x99 x100 x101 x102 x103 x104 x105 x106 x107 x108 x109 x110 x111 x112 x113 x114 v5 v6 v7 v8 v9 v10 v11 j) h:=by
 subst e5;subst e6;subst e7;subst e8;subst e9;subst e10;subst e11;exact zaw _ I μ round s0 j h0
end
theorem zjs (Q:QD) (x0 x1 x2 x3 x4 x5 x6 x7 x8 x9 x10 x11 x12 x13 x14 x15 x16 x17 x18 x19 x20 x21 x22 x23 x24 x25 x26 x27 x28 x29 x30 x31 x32 x33 x34 x35 x36 x37 x38 x39 x40 x41 x42 x43 x44 x45 x46 x47 x48 x49 x50 x51 x52 x53 x54 x55 x56 x57 x58 x59 x60 x61 x62 x63 x64 x65 x66 x67 x68 x69 x70 x71 x72 x73 x74 x75 x76 x77 x78 x79 x80 x81 x82 x83 x84 x85 x86 x87 x88 x89 x90 x91 x92 x93 x94 x95 x96 x97 x98 x99 x100 x101 x102 x103 x104 x105 x106 x107 x108 x109 x110 x111 x112 x113 x114:Value):den Tryz.prog (sel (za3 Tryz.f156) [1,1,1,1,1,1,1,0,1,0,0,0]) Q #[x0,x1,x2,x3,x4,x5,x6,x7,x8,x9,x10,x11,x12,x13,x14,x15,x16,x17,x18,x19,x20,x21,x22,x23,x24,x25,x26,x27,x28,x29,x30,x31,x32,x33,x34,x35,x36,x37,x38,x39,x40,x41,x42,x43,x44,x45,x46,x47,x48,x49,x50,x51,x52,x53,x54,x55,x56,x57,x58,x59,x60,x61,x62,x63,x64,x65,x66,x67,x68,x69,x70,x71,x72,x73,x74,x75,x76,x77,x78,x79,x80,x81,x82,x83,x84,x85,x86,x87,x88,x89,x90,x91,x92,x93,x94,x95,x96,x97,x98,x99,x100,x101,x102,x103,x104,x105,x106,x107,x108,x109,x110,x111,x112,x113,x114] =
 pv (yks x1) λt1=>
 pv (za1 .none .lss x11 t1) λt2=>
 cnd t2 (
  Q .normal #[x0,x1,x2,x3,x4,x5,x6,x7,x8,x9,x10,x11,x12,x13,x14,x15,x16,x17,x18,x19,x20,x21,x22,x23,x24,x25,x26,x27,x28,x29,x30,x31,x32,x33,x34,x35,x36,x37,x38,x39,x40,x41,x42,x43,x44,x45,x46,x47,x48,x49,x50,x11,x1,t1,t2,x55,x56,x57,x58,x59,x60,x61,x62,x63,x64,x65,x66,x67,x68,x69,x70,x71,x72,x73,x74,x75,x76,x77,x78,x79,x80,x81,x82,x83,x84,x85,x86,x87,x88,x89,x90,x91,x92,x93,x94,x95,x96,x97,x98,x99,x100,x101,x102,x103,x104,x105,x106,x107,x108,x109,x110,x111,x112,x113,x114]) (
  Q (.exit 0) #[x0,x1,x2,x3,x4,x5,x6,x7,x8,x9,x10,x11,x12,x13,x14,x15,x16,x17,x18,x19,x20,x21,x22,x23,x24,x25,x26,x27,x28,x29,x30,x31,x32,x33,x34,x35,x36,x37,x38,x39,x40,x41,x42,x43,x44,x45,x46,x47,x48,x49,x50,x11,x1,t1,t2,x55,x56,x57,x58,x59,x60,x61,x62,x63,x64,x65,x66,x67,x68,x69,x70,x71,x72,x73,x74,x75,x76,x77,x78,x79,x80,x81,x82,x83,x84,x85,x86,x87,x88,x89,x90,x91,x92,x93,x94,x95,x96,x97,x98,x99,x100,x101,x102,x103,x104,x105,x106,x107,x108,x109,x110,x111,x112,x113,x114]):=by kernel_rfl
theorem zi1 (Q:QD) (x0 x1 x2 x3 x4 x5 x6 x7 x8 x9 x10 x11 x12 x13 x14 x15 x16 x17 x18 x19 x20 x21 x22 x23 x24 x25 x26 x27 x28 x29 x30 x31 x32 x33 x34 x35 x36 x37 x38 x39 x40 x41 x42 x43 x44 x45 x46 x47 x48 x49 x50 x51 x52 x53 x54 x55 x56 x57 x58 x59 x60 x61 x62 x63 x64 x65 x66 x67 x68 x69 x70 x71 x72 x73 x74 x75 x76 x77 x78 x79 x80 x81 x82 x83 x84 x85 x86 x87 x88 x89 x90 x91 x92 x93 x94 x95 x96 x97 x98 x99 x100 x101 x102 x103 x104 x105 x106 x107 x108 x109 x110 x111 x112 x113 x114:Value):den Tryz.prog (sel (za3 Tryz.f156) [1,1,1,1,1,1,1,0,1,0,0,1,0,0,0]) Q #[x0,x1,x2,x3,x4,x5,x6,x7,x8,x9,x10,x11,x12,x13,x14,x15,x16,x17,x18,x19,x20,x21,x22,x23,x24,x25,x26,x27,x28,x29,x30,x31,x32,x33,x34,x35,x36,x37,x38,x39,x40,x41,x42,x43,x44,x45,x46,x47,x48,x49,x50,x51,x52,x53,x54,x55,x56,x57,x58,x59,x60,x61,x62,x63,x64,x65,x66,x67,x68,x69,x70,x71,x72,x73,x74,x75,x76,x77,x78,x79,x80,x81,x82,x83,x84,x85,x86,x87,x88,x89,x90,x91,x92,x93,x94,x95,x96,x97,x98,x99,x100,x101,x102,x103,x104,x105,x106,x107,x108,x109,x110,x111,x112,x113,x114] =
 gdK x5 false (λk=>k x1) λt1=>
 gdK x5 false (λk=>k x11) λt2=>
 gdK x5 false (λk=>pv (ixV t1 t2) k) λt3=>
 gdK x5 false (λk=>pv (za1 .none .eql t3 (.int .u8 73)) k) λt4=>
 pv (zad x5 (.bool true) t4) λt5=>
 Q .normal #[x0,x1,x2,x3,x4,t5,x6,x7,x8,x9,x10,x11,x12,x13,x14,x15,x16,x17,x18,x19,x20,x21,x22,x23,x24,x25,x26,x27,x28,x29,x30,x31,x32,x33,x34,x35,x36,x37,x38,x39,x40,x41,x42,x43,x44,x45,x46,x47,x48,x49,x50,x51,x52,x53,x54,x55,x56,x5,x5,t1,t2,t3,t4,t5,x64,x65,x66,x67,x68,x69,x70,x71,x72,x73,x74,x75,x76,x77,x78,x79,x80,x81,x82,x83,x84,x85,x86,x87,x88,x89,x90,x91,x92,x93,x94,x95,x96,x97,x98,x99,x100,x101,x102,x103,x104,x105,x106,x107,x108,x109,x110,x111,x112,x113,x114]:=by kernel_rfl
theorem zhh (Q:QD) (x0 x1 x2 x3 x4 x5 x6 x7 x8 x9 x10 x11 x12 x13 x14 x15 x16 x17 x18 x19 x20 x21 x22 x23 x24 x25 x26 x27 x28 x29 x30 x31 x32 x33 x34 x35 x36 x37 x38 x39 x40 x41 x42 x43 x44 x45 x46 x47 x48 x49 x50 x51 x52 x53 x54 x55 x56 x57 x58 x59 x60 x61 x62 x63 x64 x65 x66 x67 x68 x69 x70 x71 x72 x73 x74 x75 x76 x77 x78 x79 x80 x81 x82 x83 x84 x85 x86 x87 x88 x89 x90 x91 x92 x93 x94 x95 x96 x97 x98 x99 x100 x101 x102 x103 x104 x105 x106 x107 x108 x109 x110 x111 x112 x113 x114:Value):den Tryz.prog (sel (za3 Tryz.f156) [1,1,1,1,1,1,1,0,1,0,0,1,0,0,1,0]) Q #[x0,x1,x2,x3,x4,x5,x6,x7,x8,x9,x10,x11,x12,x13,x14,x15,x16,x17,x18,x19,x20,x21,x22,x23,x24,x25,x26,x27,x28,x29,x30,x31,x32,x33,x34,x35,x36,x37,x38,x39,x40,x41,x42,x43,x44,x45,x46,x47,x48,x49,x50,x51,x52,x53,x54,x55,x56,x57,x58,x59,x60,x61,x62,x63,x64,x65,x66,x67,x68,x69,x70,x71,x72,x73,x74,x75,x76,x77,x78,x79,x80,x81,x82,x83,x84,x85,x86,x87,x88,x89,x90,x91,x92,x93,x94,x95,x96,x97,x98,x99,x100,x101,x102,x103,x104,x105,x106,x107,x108,x109,x110,x111,x112,x113,x114] =
 gdK x6 false (λk=>k x1) λt1=>
 gdK x6 false (λk=>k x11) λt2=>
 gdK x6 false (λk=>pv (ixV t1 t2) k) λt3=>
 gdK x6 false (λk=>pv (za1 .none .eql t3 (.int .u8 65)) k) λt4=>
 pv (zad x6 (.bool true) t4) λt5=>
 Q .normal #[x0,x1,x2,x3,x4,x5,t5,x7,x8,x9,x10,x11,x12,x13,x14,x15,x16,x17,x18,x19,x20,x21,x22,x23,x24,x25,x26,x27,x28,x29,x30,x31,x32,x33,x34,x35,x36,x37,x38,x39,x40,x41,x42,x43,x44,x45,x46,x47,x48,x49,x50,x51,x52,x53,x54,x55,x56,x57,x58,x59,x60,x61,x62,x63,x6,x6,t1,t2,t3,t4,t5,x71,x72,x73,x74,x75,x76,x77,x78,x79,x80,x81,x82,x83,x84,x85,x86,x87,x88,x89,x90,x91,x92,x93,x94,x95,x96,x97,x98,x99,x100,x101,x102,x103,x104,x105,x106,x107,x108,x109,x110,x111,x112,x113,x114]:=by kernel_rfl
theorem zh2 (Q:QD) (x0 x1 x2 x3 x4 x5 x6 x7 x8 x9 x10 x11 x12 x13 x14 x15 x16 x17 x18 x19 x20 x21 x22 x23 x24 x25 x26 x27 x28 x29 x30 x31 x32 x33 x34 x35 x36 x37 x38 x39 x40 x41 x42 x43 x44 x45 x46 x47 x48 x49 x50 x51 x52 x53 x54 x55 x56 x57 x58 x59 x60 x61 x62 x63 x64 x65 x66 x67 x68 x69 x70 x71 x72 x73 x74 x75 x76 x77 x78 x79 x80 x81 x82 x83 x84 x85 x86 x87 x88 x89 x90 x91 x92 x93 x94 x95 x96 x97 x98 x99 x100 x101 x102 x103 x104 x105 x106 x107 x108 x109 x110 x111 x112 x113 x114:Value):den Tryz.prog (sel (za3 Tryz.f156) [1,1,1,1,1,1,1,0,1,0,0,1,0,0,1,1,0]) Q #[x0,x1,x2,x3,x4,x5,x6,x7,x8,x9,x10,x11,x12,x13,x14,x15,x16,x17,x18,x19,x20,x21,x22,x23,x24,x25,x26,x27,x28,x29,x30,x31,x32,x33,x34,x35,x36,x37,x38,x39,x40,x41,x42,x43,x44,x45,x46,x47,x48,x49,x50,x51,x52,x53,x54,x55,x56,x57,x58,x59,x60,x61,x62,x63,x64,x65,x66,x67,x68,x69,x70,x71,x72,x73,x74,x75,x76,x77,x78,x79,x80,x81,x82,x83,x84,x85,x86,x87,x88,x89,x90,x91,x92,x93,x94,x95,x96,x97,x98,x99,x100,x101,x102,x103,x104,x105,x106,x107,x108,x109,x110,x111,x112,x113,x114] =
 gdK x7 false (λk=>k x1) λt1=>
 gdK x7 false (λk=>k x11) λt2=>
 gdK x7 false (λk=>pv (ixV t1 t2) k) λt3=>
 gdK x7 false (λk=>pv (za1 .none .eql t3 (.int .u8 78)) k) λt4=>
 pv (zad x7 (.bool true) t4) λt5=>
 Q .normal #[x0,x1,x2,x3,x4,x5,x6,t5,x8,x9,x10,x11,x12,x13,x14,x15,x16,x17,x18,x19,x20,x21,x22,x23,x24,x25,x26,x27,x28,x29,x30,x31,x32,x33,x34,x35,x36,x37,x38,x39,x40,x41,x42,x43,x44,x45,x46,x47,x48,x49,x50,x51,x52,x53,x54,x55,x56,x57,x58,x59,x60,x61,x62,x63,x64,x65,x66,x67,x68,x69,x70,x7,x7,t1,t2,t3,t4,t5,x78,x79,x80,x81,x82,x83,x84,x85,x86,x87,x88,x89,x90,x91,x92,x93,x94,x95,x96,x97,x98,x99,x100,x101,x102,x103,x104,x105,x106,x107,x108,x109,x110,x111,x112,x113,x114]:=by kernel_rfl
theorem zgo (Q:QD) (x0 x1 x2 x3 x4 x5 x6 x7 x8 x9 x10 x11 x12 x13 x14 x15 x16 x17 x18 x19 x20 x21 x22 x23 x24 x25 x26 x27 x28 x29 x30 x31 x32 x33 x34 x35 x36 x37 x38 x39 x40 x41 x42 x43 x44 x45 x46 x47 x48 x49 x50 x51 x52 x53 x54 x55 x56 x57 x58 x59 x60 x61 x62 x63 x64 x65 x66 x67 x68 x69 x70 x71 x72 x73 x74 x75 x76 x77 x78 x79 x80 x81 x82 x83 x84 x85 x86 x87 x88 x89 x90 x91 x92 x93 x94 x95 x96 x97 x98 x99 x100 x101 x102 x103 x104 x105 x106 x107 x108 x109 x110 x111 x112 x113 x114:Value):den Tryz.prog (sel (za3 Tryz.f156) [1,1,1,1,1,1,1,0,1,0,0,1,0,0,1,1,1,0]) Q #[x0,x1,x2,x3,x4,x5,x6,x7,x8,x9,x10,x11,x12,x13,x14,x15,x16,x17,x18,x19,x20,x21,x22,x23,x24,x25,x26,x27,x28,x29,x30,x31,x32,x33,x34,x35,x36,x37,x38,x39,x40,x41,x42,x43,x44,x45,x46,x47,x48,x49,x50,x51,x52,x53,x54,x55,x56,x57,x58,x59,x60,x61,x62,x63,x64,x65,x66,x67,x68,x69,x70,x71,x72,x73,x74,x75,x76,x77,x78,x79,x80,x81,x82,x83,x84,x85,x86,x87,x88,x89,x90,x91,x92,x93,x94,x95,x96,x97,x98,x99,x100,x101,x102,x103,x104,x105,x106,x107,x108,x109,x110,x111,x112,x113,x114] =
 gdK x8 false (λk=>k x1) λt1=>
 gdK x8 false (λk=>k x11) λt2=>
 gdK x8 false (λk=>pv (ixV t1 t2) k) λt3=>
 gdK x8 false (λk=>pv (za1 .none .eql t3 (.int .u8 70)) k) λt4=>
 pv (zad x8 (.bool true) t4) λt5=>
 Q .normal #[x0,x1,x2,x3,x4,x5,x6,x7,t5,x9,x10,x11,x12,x13,x14,x15,x16,x17,x18,x19,x20,x21,x22,x23,x24,x25,x26,x27,x28,x29,x30,x31,x32,x33,x34,x35,x36,x37,x38,x39,x40,x41,x42,x43,x44,x45,x46,x47,x48,x49,x50,x51,x52,x53,x54,x55,x56,x57,x58,x59,x60,x61,x62,x63,x64,x65,x66,x67,x68,x69,x70,x71,x72,x73,x74,x75,x76,x77,x8,x8,t1,t2,t3,t4,t5,x85,x86,x87,x88,x89,x90,x91,x92,x93,x94,x95,x96,x97,x98,x99,x100,x101,x102,x103,x104,x105,x106,x107,x108,x109,x110,x111,x112,x113,x114]:=by kernel_rfl
theorem zgk (Q:QD) (x0 x1 x2 x3 x4 x5 x6 x7 x8 x9 x10 x11 x12 x13 x14 x15 x16 x17 x18 x19 x20 x21 x22 x23 x24 x25 x26 x27 x28 x29 x30 x31 x32 x33 x34 x35 x36 x37 x38 x39 x40 x41 x42 x43 x44 x45 x46 x47 x48 x49 x50 x51 x52 x53 x54 x55 x56 x57 x58 x59 x60 x61 x62 x63 x64 x65 x66 x67 x68 x69 x70 x71 x72 x73 x74 x75 x76 x77 x78 x79 x80 x81 x82 x83 x84 x85 x86 x87 x88 x89 x90 x91 x92 x93 x94 x95 x96 x97 x98 x99 x100 x101 x102 x103 x104 x105 x106 x107 x108 x109 x110 x111 x112 x113 x114:Value):den Tryz.prog (sel (za3 Tryz.f156) [1,1,1,1,1,1,1,0,1,0,0,1,0,0,1,1,1,1,0]) Q #[x0,x1,x2,x3,x4,x5,x6,x7,x8,x9,x10,x11,x12,x13,x14,x15,x16,x17,x18,x19,x20,x21,x22,x23,x24,x25,x26,x27,x28,x29,x30,x31,x32,x33,x34,x35,x36,x37,x38,x39,x40,x41,x42,x43,x44,x45,x46,x47,x48,x49,x50,x51,x52,x53,x54,x55,x56,x57,x58,x59,x60,x61,x62,x63,x64,x65,x66,x67,x68,x69,x70,x71,x72,x73,x74,x75,x76,x77,x78,x79,x80,x81,x82,x83,x84,x85,x86,x87,x88,x89,x90,x91,x92,x93,x94,x95,x96,x97,x98,x99,x100,x101,x102,x103,x104,x105,x106,x107,x108,x109,x110,x111,x112,x113,x114] =
 gdK x9 false (λk=>k x1) λt1=>
 gdK x9 false (λk=>k x11) λt2=>
 gdK x9 false (λk=>pv (ixV t1 t2) k) λt3=>
 gdK x9 false (λk=>pv (za1 .none .eql t3 (.int .u8 77)) k) λt4=>
 pv (zad x9 (.bool true) t4) λt5=>
 Q .normal #[x0,x1,x2,x3,x4,x5,x6,x7,x8,t5,x10,x11,x12,x13,x14,x15,x16,x17,x18,x19,x20,x21,x22,x23,x24,x25,x26,x27,x28,x29,x30,x31,x32,x33,x34,x35,x36,x37,x38,x39,x40,x41,x42,x43,x44,x45,x46,x47,x48,x49,x50,x51,x52,x53,x54,x55,x56,x57,x58,x59,x60,x61,x62,x63,x64,x65,x66,x67,x68,x69,x70,x71,x72,x73,x74,x75,x76,x77,x78,x79,x80,x81,x82,x83,x84,x9,x9,t1,t2,t3,t4,t5,x92,x93,x94,x95,x96,x97,x98,x99,x100,x101,x102,x103,x104,x105,x106,x107,x108,x109,x110,x111,x112,x113,x114]:=by kernel_rfl
theorem zgj (Q:QD) (x0 x1 x2 x3 x4 x5 x6 x7 x8 x9 x10 x11 x12 x13 x14 x15 x16 x17 x18 x19 x20 x21 x22 x23 x24 x25 x26 x27 x28 x29 x30 x31 x32 x33 x34 x35 x36 x37 x38 x39 x40 x41 x42 x43 x44 x45 x46 x47 x48 x49 x50 x51 x52 x53 x54 x55 x56 x57 x58 x59 x60 x61 x62 x63 x64 x65 x66 x67 x68 x69 x70 x71 x72 x73 x74 x75 x76 x77 x78 x79 x80 x81 x82 x83 x84 x85 x86 x87 x88 x89 x90 x91 x92 x93 x94 x95 x96 x97 x98 x99 x100 x101 x102 x103 x104 x105 x106 x107 x108 x109 x110 x111 x112 x113 x114:Value):den Tryz.prog (sel (za3 Tryz.f156) [1,1,1,1,1,1,1,0,1,0,0,1,0,0,1,1,1,1,1]) Q #[x0,x1,x2,x3,x4,x5,x6,x7,x8,x9,x10,x11,x12,x13,x14,x15,x16,x17,x18,x19,x20,x21,x22,x23,x24,x25,x26,x27,x28,x29,x30,x31,x32,x33,x34,x35,x36,x37,x38,x39,x40,x41,x42,x43,x44,x45,x46,x47,x48,x49,x50,x51,x52,x53,x54,x55,x56,x57,x58,x59,x60,x61,x62,x63,x64,x65,x66,x67,x68,x69,x70,x71,x72,x73,x74,x75,x76,x77,x78,x79,x80,x81,x82,x83,x84,x85,x86,x87,x88,x89,x90,x91,x92,x93,x94,x95,x96,x97,x98,x99,x100,x101,x102,x103,x104,x105,x106,x107,x108,x109,x110,x111,x112,x113,x114] =
 gdK x10 false (λk=>k x1) λt1=>
 gdK x10 false (λk=>k x11) λt2=>
 gdK x10 false (λk=>pv (ixV t1 t2) k) λt3=>
 gdK x10 false (λk=>pv (za1 .none .eql t3 (.int .u8 82)) k) λt4=>
 pv (zad x10 (.bool true) t4) λt5=>
 Q .normal #[x0,x1,x2,x3,x4,x5,x6,x7,x8,x9,t5,x11,x12,x13,x14,x15,x16,x17,x18,x19,x20,x21,x22,x23,x24,x25,x26,x27,x28,x29,x30,x31,x32,x33,x34,x35,x36,x37,x38,x39,x40,x41,x42,x43,x44,x45,x46,x47,x48,x49,x50,x51,x52,x53,x54,x55,x56,x57,x58,x59,x60,x61,x62,x63,x64,x65,x66,x67,x68,x69,x70,x71,x72,x73,x74,x75,x76,x77,x78,x79,x80,x81,x82,x83,x84,x85,x86,x87,x88,x89,x90,x91,x10,x10,t1,t2,t3,t4,t5,x99,x100,x101,x102,x103,x104,x105,x106,x107,x108,x109,x110,x111,x112,x113,x114]:=by kernel_rfl
theorem zjl (Q:QD) (x0 x1 x2 x3 x4 x5 x6 x7 x8 x9 x10 x11 x12 x13 x14 x15 x16 x17 x18 x19 x20 x21 x22 x23 x24 x25 x26 x27 x28 x29 x30 x31 x32 x33 x34 x35 x36 x37 x38 x39 x40 x41 x42 x43 x44 x45 x46 x47 x48 x49 x50 x51 x52 x53 x54 x55 x56 x57 x58 x59 x60 x61 x62 x63 x64 x65 x66 x67 x68 x69 x70 x71 x72 x73 x74 x75 x76 x77 x78 x79 x80 x81 x82 x83 x84 x85 x86 x87 x88 x89 x90 x91 x92 x93 x94 x95 x96 x97 x98 x99 x100 x101 x102 x103 x104 x105 x106 x107 x108 x109 x110 x111 x112 x113 x114:Value):den Tryz.prog (sel (za3 Tryz.f156) [1,1,1,1,1,1,1,0,1,0,0,1,1]) Q #[x0,x1,x2,x3,x4,x5,x6,x7,x8,x9,x10,x11,x12,x13,x14,x15,x16,x17,x18,x19,x20,x21,x22,x23,x24,x25,x26,x27,x28,x29,x30,x31,x32,x33,x34,x35,x36,x37,x38,x39,x40,x41,x42,x43,x44,x45,x46,x47,x48,x49,x50,x51,x52,x53,x54,x55,x56,x57,x58,x59,x60,x61,x62,x63,x64,x65,x66,x67,x68,x69,x70,x71,x72,x73,x74,x75,x76,x77,x78,x79,x80,x81,x82,x83,x84,x85,x86,x87,x88,x89,x90,x91,x92,x93,x94,x95,x96,x97,x98,x99,x100,x101,x102,x103,x104,x105,x106,x107,x108,x109,x110,x111,x112,x113,x114] =
 pv (za1 .none .add x11 (.int .i64 1)) λt1=>
 Q .normal #[x0,x1,x2,x3,x4,x5,x6,x7,x8,x9,x10,t1,x12,x13,x14,x15,x16,x17,x18,x19,x20,x21,x22,x23,x24,x25,x26,x27,x28,x29,x30,x31,x32,x33,x34,x35,x36,x37,x38,x39,x40,x41,x42,x43,x44,x45,x46,x47,x48,x49,x50,x51,x52,x53,x54,x11,t1,x57,x58,x59,x60,x61,x62,x63,x64,x65,x66,x67,x68,x69,x70,x71,x72,x73,x74,x75,x76,x77,x78,x79,x80,x81,x82,x83,x84,x85,x86,x87,x88,x89,x90,x91,x92,x93,x94,x95,x96,x97,x98,x99,x100,x101,x102,x103,x104,x105,x106,x107,x108,x109,x110,x111,x112,x113,x114]:=by kernel_rfl
theorem zou (Q:QD) (x0 x1 x2 x3 x4 x5 x6 x7 x8 x9 x10 x11 x12 x13 x14 x15 x16 x17 x18 x19 x20 x21 x22 x23 x24 x25 x26 x27 x28 x29 x30 x31 x32 x33 x34 x35 x36 x37 x38 x39 x40 x41 x42 x43 x44 x45 x46 x47 x48 x49 x50 x51 x52 x53 x54 x55 x56 x57 x58 x59 x60 x61 x62 x63 x64 x65 x66 x67 x68 x69 x70 x71 x72 x73 x74 x75 x76 x77 x78 x79 x80 x81 x82 x83 x84 x85 x86 x87 x88 x89 x90 x91 x92 x93 x94 x95 x96 x97 x98 x99 x100 x101 x102 x103 x104 x105 x106 x107 x108 x109 x110 x111 x112 x113 x114:Value):den Tryz.prog (sel (za3 Tryz.f156) [1,1,1,1,1,1,1,1]) Q #[x0,x1,x2,x3,x4,x5,x6,x7,x8,x9,x10,x11,x12,x13,x14,x15,x16,x17,x18,x19,x20,x21,x22,x23,x24,x25,x26,x27,x28,x29,x30,x31,x32,x33,x34,x35,x36,x37,x38,x39,x40,x41,x42,x43,x44,x45,x46,x47,x48,x49,x50,x51,x52,x53,x54,x55,x56,x57,x58,x59,x60,x61,x62,x63,x64,x65,x66,x67,x68,x69,x70,x71,x72,x73,x74,x75,x76,x77,x78,x79,x80,x81,x82,x83,x84,x85,x86,x87,x88,x89,x90,x91,x92,x93,x94,x95,x96,x97,x98,x99,x100,x101,x102,x103,x104,x105,x106,x107,x108,x109,x110,x111,x112,x113,x114] =
 gdK x5 true (λk=>k x6) λt1=>
 pv (zad x5 t1 (.bool false)) λt2=>
 gdK t2 true (λk=>k x7) λt3=>
 pv (zad t2 t3 (.bool false)) λt4=>
 gdK t4 true (λk=>k x8) λt5=>
 pv (zad t4 t5 (.bool false)) λt6=>
 gdK t6 true (λk=>k x9) λt7=>
 pv (zad t6 t7 (.bool false)) λt8=>
 gdK t8 true (λk=>k x10) λt9=>
 pv (zad t8 t9 (.bool false)) λt10=>
 Q .ret #[x0,x1,x2,x3,t10,x5,x6,x7,x8,x9,x10,x11,x12,x13,x14,x15,x16,x17,x18,x19,x20,x21,x22,x23,x24,x25,x26,x27,x28,x29,x30,x31,x32,x33,x34,x35,x36,x37,x38,x39,x40,x41,x42,x43,x44,x45,x46,x47,x48,x49,x50,x51,x52,x53,x54,x55,x56,x57,x58,x59,x60,x61,x62,x63,x64,x65,x66,x67,x68,x69,x70,x71,x72,x73,x74,x75,x76,x77,x78,x79,x80,x81,x82,x83,x84,x85,x86,x87,x88,x89,x90,x91,x92,x93,x94,x95,x96,x97,x98,x5,x5,t1,t2,t2,t3,t4,t4,t5,t6,t6,t7,t8,t8,t9,t10]:=by kernel_rfl
section
variable (K:zae) (E:zb2) (x0:Value) (j:Nat -> Value)
abbrev q9:QD:=za7 Tryz.prog Tryz.f9.results.toList K E
abbrev d9 (p:List Nat):QD -> Env -> Hp -> Prop:=den Tryz.prog (sel (za3 Tryz.f9) p)
theorem t9:d9 [] (q9 K E) #[U,U,U,U,U,U,U,U,U,U,U,U,U,U,U,U,U,U,U,U,U,U,U,U,U,U,U,U,U,U,U,U,U,U,U,U,U,U,U,U,U,U,U,U,U,U,U,U,U,U,U,U,U,U,U,U,U,U,U,U,U,U,U,U,U,U,U,U,U,U,U,U,U,U,U,U,U,U,U,U,U,U,U,U,U,U,U,U,U,U,U,U,U,U,U,U,U,U,U,U,U,U,U,U,U,U,U,U,U,U,U,U,U,U,U,U,U,U,U,U,U,U,U,U,U,U,U,U,U,U,U,U,U,U,U,U,U,U,U,U,U,U,U,U,U,U,U,U,U,U,U,U,U,U,U,U,U,U,U,U,U,U,U,U,U,U,U,U,U] =
 cF 11 #[(.int .i64 9000)] (λt1=>
 pv (za1 .ptr .eql t1 (.pointer none)) λt2=>
 cnd t2 (
  K (.bool false)) (
  pv (bdC #[(.int .i64 0),(.slice none 0 0)] [(0,1),(1,1)] #[(0,(.int .i64 5))]) λt3=>
  nws 108 1 (bsC #[(.int .i64 0),(.slice none 0 0)] 2 1 #[(0,t3)]) λt4=>
  cF 12 #[(.int .i64 0),t4,t1] (λt5=>
  pv (exV 0 t5) λt6=>
  pv (exV 1 t5) λt7=>
  pv (za1 .none .neq t7 (.int .u16 0)) λt8=>
  gdK t8 false (λk=>k t6) λt9=>
  gdK t8 false (λk=>pv (za1 .ptr .eql t9 (.pointer none)) k) λt10=>
  pv (zad t8 (.bool true) t10) λt11=>
  gdK t11 false (λk=>k t6) λt12=>
  gdK t11 false (λk=>cF 13 #[t12] k E) λt13=>
  gdK t11 false (λk=>pv (za1 .ptr .eql t13 (.pointer none)) k) λt14=>
  pv (zad t11 (.bool true) t14) λt15=>
  cnd t15 (
  K (.bool false)) (
  nws 3 2 (bsC #[(.int .i64 0)] 1 2 #[(0,(.int .i64 0)),(1,(.int .i64 1))]) λt16=>
  nws 3 1 (bsC #[(.int .i64 0)] 1 1 #[(0,(.int .i64 1))]) λt17=>
  pv (bdC #[(.slice none 0 0),(.int .i64 0)] [(0,1),(1,1)] #[(0,t17),(1,(.int .i64 4))]) λt18=>
  nws 110 1 (bsC #[(.slice none 0 0),(.int .i64 0)] 2 1 #[(0,t18)]) λt19=>
  pv (bdC #[(.int .u8 0),(.int .u32 0),(.int .u32 0),(.slice none 0 0),(.slice none 0 0),(.int .i64 0),(.int .i64 0),(.slice none 0 0)] [(0,1),(1,1),(2,1),(3,1),(4,1),(5,1),(6,1),(7,1)] #[(0,(.int .u8 1)),(1,(.int .u32 7)),(3,t16),(4,t19)]) λt20=>
  cF 25 #[t20] (λt21=>
  pv (exV 0 t21) λt22=>
  pv (exV 1 t21) λt23=>
  cF 16 #[t6,(.int .i64 (-1)),t22] (λt24=>
  pv (exV 0 t24) λt25=>
  pv (exV 1 t24) λt26=>
  cF 27 #[t1,(.int .i64 0)] (λt27=>
  cF 12 #[(.int .i64 0),t4,t1] (λt28=>
  pv (exV 0 t28) λt29=>
  pv (exV 1 t28) λt30=>
  pv (za1 .none .neq t30 (.int .u16 0)) λt31=>
  gdK t31 false (λk=>k t29) λt32=>
  gdK t31 false (λk=>pv (za1 .ptr .eql t32 (.pointer none)) k) λt33=>
  pv (zad t31 (.bool true) t33) λt34=>
  gdK t34 false (λk=>k t29) λt35=>
  gdK t34 false (λk=>cF 13 #[t35] k E) λt36=>
  gdK t34 false (λk=>pv (za1 .ptr .eql t36 (.pointer none)) k) λt37=>
  pv (zad t34 (.bool true) t37) λt38=>
  cnd t38 (
   K (.bool false)) (
   cF 16 #[t29,(.int .i64 (-1)),t22] (λt39=>
   pv (exV 0 t39) λt40=>
   pv (exV 1 t39) λt41=>
   pv (bdC #[(.int .u8 0),(.int .u32 0),(.int .u32 0),(.slice none 0 0),(.slice none 0 0),(.int .i64 0),(.int .i64 0),(.slice none 0 0)] [(0,1),(1,1),(2,1),(3,1),(4,1),(5,1),(6,1),(7,1)] #[(0,(.int .u8 4)),(1,(.int .u32 7)),(2,(.int .u32 3))]) λt42=>
   cF 25 #[t42] (λt43=>
   pv (exV 0 t43) λt44=>
   pv (exV 1 t43) λt45=>
   cF 36 #[t29] (λt46=>
   cF 16 #[t29,(.int .i64 (-1)),t44] (λt47=>
   pv (exV 0 t47) λt48=>
   pv (exV 1 t47) λt49=>
   pv (za1 .none .neq t26 (.int .u16 0)) λt50=>
   gdK t50 false (λk=>k t41) λt51=>
   gdK t50 false (λk=>pv (za1 .none .neq t51 (.int .u16 0)) k) λt52=>
   pv (zad t50 (.bool true) t52) λt53=>
   gdK t53 false (λk=>k t49) λt54=>
   gdK t53 false (λk=>pv (za1 .none .neq t54 (.int .u16 0)) k) λt55=>
   pv (zad t53 (.bool true) t55) λt56=>
   gdK t56 false (λk=>k t25) λt57=>
   gdK t56 false (λk=>pv (zac t57) k) λt58=>
   gdK t56 false (λk=>pv (za1 .none .neq t58 (.int .i64 1)) k) λt59=>
   pv (zad t56 (.bool true) t59) λt60=>
   gdK t60 false (λk=>k t40) λt61=>
   gdK t60 false (λk=>pv (zac t61) k) λt62=>
   gdK t60 false (λk=>pv (za1 .none .neq t62 (.int .i64 1)) k) λt63=>
   pv (zad t60 (.bool true) t63) λt64=>
   gdK t64 false (λk=>k t48) λt65=>
   gdK t64 false (λk=>pv (zac t65) k) λt66=>
   gdK t64 false (λk=>pv (za1 .none .neq t66 (.int .i64 1)) k) λt67=>
   pv (zad t64 (.bool true) t67) λt68=>
   gdK t68 false (λk=>k t46) λt69=>
   gdK t68 false (λk=>pv (zac t69) k) λt70=>
   gdK t68 false (λk=>pv (za1 .none .neq t70 (.int .i64 2)) k) λt71=>
   pv (zad t68 (.bool true) t71) λt72=>
   gdK t72 false (λk=>k t46) λt73=>
   gdK t72 false (λk=>pv (iaV none 3 t73 (.int .i64 1)) k) λt74=>
   gdK t72 false (λk=>pv (faV 1 t74) k) λt75=>
   gdK t72 false (λk=>ld false 1 t75 k) λt76=>
   gdK t72 false (λk=>pv (za1 .none .neq t76 (.int .i64 1)) k) λt77=>
   pv (zad t72 (.bool true) t77) λt78=>
   cnd t78 (
   K (.bool false)) (
   pv (iaV none 3 t25 (.int .i64 0)) λt79=>
   pv (faV 2 t79) λt80=>
   ld false 1 t80 λt81=>
   pv (iaV none 1 t81 (.int .i64 0)) λt82=>
   ld false 1 t82 λt83=>
   pv (za1 .none .eql t83 (.int .u8 2)) λt84=>
   gdK t84 true (λk=>k t40) λt85=>
   gdK t84 true (λk=>pv (iaV none 3 t85 (.int .i64 0)) k) λt86=>
   gdK t84 true (λk=>pv (faV 2 t86) k) λt87=>
   gdK t84 true (λk=>ld false 1 t87 k) λt88=>
   gdK t84 true (λk=>pv (iaV none 1 t88 (.int .i64 0)) k) λt89=>
   gdK t84 true (λk=>ld false 1 t89 k) λt90=>
   gdK t84 true (λk=>pv (za1 .none .eql t90 (.int .u8 2)) k) λt91=>
   pv (zad t84 t91 (.bool false)) λt92=>
   gdK t92 true (λk=>k t48) λt93=>
   gdK t92 true (λk=>pv (iaV none 3 t93 (.int .i64 0)) k) λt94=>
   gdK t92 true (λk=>pv (faV 2 t94) k) λt95=>
   gdK t92 true (λk=>ld false 1 t95 k) λt96=>
   gdK t92 true (λk=>pv (iaV none 1 t96 (.int .i64 0)) k) λt97=>
   gdK t92 true (λk=>ld false 1 t97 k) λt98=>
   gdK t92 true (λk=>pv (za1 .none .eql t98 (.int .u8 6)) k) λt99=>
   pv (zad t92 t99 (.bool false)) λzpk=>
   gdK zpk true (λk=>k t48) λt101=>
   gdK zpk true (λk=>pv (iaV none 3 t101 (.int .i64 0)) k) λybh=>
   gdK zpk true (λk=>pv (faV 1 ybh) k) λymv=>
   gdK zpk true (λk=>ld false 1 ymv k) λzse=>
   gdK zpk true (λk=>pv (za1 .none .eql zse (.int .i64 (-1))) k) λzsm=>
   pv (zad zpk zsm (.bool false)) λzhi=>
   gdK zhi true (λk=>k t29) λzsy=>
   gdK zhi true (λk=>cF 13 #[zsy] k E) λzta=>
   gdK zhi true (λk=>cF 28 #[zta,(.int .u32 7)] k E) λt109=>
   gdK zhi true (λk=>pv (fdV false 1 1 t109) k) λzp0=>
   gdK zhi true (λk=>pv (za1 .none .eql zp0 (.int .u32 3)) k) λt111=>
   pv (zad zhi t111 (.bool false)) λt112=>
   K t112)) E) E) E) E)) E) E) E) E)) E)) E:=by kernel_rfl
abbrev q14:QD:=za7 Tryz.prog Tryz.f14.results.toList K E
abbrev d14 (p:List Nat):QD -> Env -> Hp -> Prop:=den Tryz.prog (sel (za3 Tryz.f14) p)
abbrev q17:QD:=za7 Tryz.prog Tryz.f17.results.toList K E
abbrev d17 (p:List Nat):QD -> Env -> Hp -> Prop:=den Tryz.prog (sel (za3 Tryz.f17) p)
theorem t17:d17 [] (q17 K E) #[x0,U,U,U,U,U,U,U,U,U,U] =
 nw 49 (Value.cells x0).toList λt1=>
 ld true 8 t1 λt2=>
 cF 25 #[t2] (λt3=>
 pv (exV 0 t3) λt4=>
 pv (exV 1 t3) λt5=>
 K t4) E:=by kernel_rfl
end
section
variable {K:zae} {E:zb2} {σ:Type} {h:Hp} {j:Nat -> Value}
end
section
variable (K:zae) (E:zb2) (x0 x1 x2 x3 x4 x5 x6 x7 x8 x9 x10 x11 x12 x13 x14 x15 x16 x17 x18 x19 x20 x21 x22 x23 x24 x25 x26 x27 x28 x29 x30 x31 x32 x33 x34 x35 x36 x37 x38 x39 x40 x41 x42 x43 x44 x45 x46 x47 x48 x49 x50 x51 x52 x53 x54 x55 x56 x57 x58 x59 x60 x61 x62 x63 x64 x65 x66 x67 x68 x69 x70 x71 x72 x73 x74 x75 x76 x77 x78 x79 x80 x81 x82 x83 x84 x85 x86 x87 x88 x89 x90 x91 x92 x93 x94 x95 x96 x97 x98 x99 x100 x101 x102 x103 x104 x105 x106 x107 x108 x109 x110 x111 x112 x113 x114 x115 x116 x117 x118 x119 x120 x121 x122 x123 x124 x125 x126 x127 x128 x129 x130 x131 x132 x133 x134 x135 x136 x137 x138 x139 x140 x141 x142 x143 x144 x145 x146 x147 x148 x149:Value) (j:Nat -> Value)
abbrev q4:QD:=za7 Tryz.prog Tryz.f4.results.toList K E
abbrev d4 (p:List Nat):QD -> Env -> Hp -> Prop:=den Tryz.prog (sel (za3 Tryz.f4) p)
theorem t4:d4 [] (q4 K E) #[x0,x1,x2,x3,U,U,U,U,U,U,U,U,U,U,U,U,U,U,U,U,U,U,U,U,U,U,U,U,U,U,U,U,U,U,U,U,U,U,U,U,U,U,U,U,U,U,U,U,U,U,U,U,U,U,U,U,U,U,U,U,U,U,U,U,U,U,U,U,U,U,U,U,U,U,U,U,U,U,U,U,U,U,U,U,U,U,U,U,U,U,U,U,U,U,U,U,U,U,U,U,U,U,U,U,U,U,U,U,U,U,U,U,U,U,U,U,U,U,U,U,U,U,U,U,U,U,U,U,U,U,U,U,U,U,U,U,U,U,U,U,U,U,U,U,U,U,U,U,U,U] =
 pv (zac x1) λt1=>
 pv (za1 .none .gtr t1 (.int .i64 80)) λt2=>
 gdK t2 false (λk=>cF 9 #[] k E) λt3=>
 gdK t2 false (λk=>pv (unV .not t3) k) λt4=>
 pv (zad t2 (.bool true) t4) λt5=>
 cnd t5 (
  cF 9 #[] (λt6=>
  K t6) E) (
  cF 10 #[x0] (λt7=>
  cF 11 #[(.int .i64 262144)] (λt8=>
  pv (za1 .ptr .eql t8 (.pointer none)) λt9=>
  cnd t9 (
  K (.bool false)) (
  cF 12 #[(.int .i64 0),t7,t8] (λt10=>
  pv (exV 0 t10) λt11=>
  pv (exV 1 t10) λt12=>
  pv (za1 .none .neq t12 (.int .u16 0)) λt13=>
  gdK t13 false (λk=>k t11) λt14=>
  gdK t13 false (λk=>pv (za1 .ptr .eql t14 (.pointer none)) k) λt15=>
  pv (zad t13 (.bool true) t15) λt16=>
  gdK t16 false (λk=>k t11) λt17=>
  gdK t16 false (λk=>cF 13 #[t17] k E) λt18=>
  gdK t16 false (λk=>pv (za1 .ptr .eql t18 (.pointer none)) k) λt19=>
  pv (zad t16 (.bool true) t19) λt20=>
  cnd t20 (
   K (.bool false)) (
   nws 3 1 (bsC #[(.int .i64 0)] 1 1 #[(0,(.int .i64 0))]) λt21=>
   cF 15 #[t7,x1,x2] (λt22=>
   pv (bdC #[(.int .u8 0),(.int .u32 0),(.int .u32 0),(.slice none 0 0),(.slice none 0 0),(.int .i64 0),(.int .i64 0),(.slice none 0 0)] [(0,1),(1,1),(2,1),(3,1),(4,1),(5,1),(6,1),(7,1)] #[(0,(.int .u8 1)),(1,(.int .u32 3)),(3,t21),(4,t22)]) λt23=>
   cF 17 #[t23] (λt24=>
   cnd x3 (
   cF 16 #[t11,(.int .i64 (-1)),t24] (λt25=>
   d4 [1,1,1,1,1,1,1,1,1] (q4 K E) #[x0,x1,x2,x3,U,U,U,U,(.bool false),t7,t8,t11,t12,t24,U,U,U,U,U,U,U,U,x1,t1,t2,t2,t3,t4,t5,U,x0,t7,t8,t8,t9,t10,t7,t8,t10,t11,t12,t12,t13,t13,t14,t15,t16,t16,t17,t18,t19,t20,t21,t7,x1,x2,t22,t23,t24,x3,t11,t24,t25,U,U,U,U,U,U,U,U,U,U,U,U,U,U,U,U,U,U,U,U,U,U,U,U,U,U,U,U,U,U,U,U,U,U,U,U,U,U,U,U,U,U,U,U,U,U,U,U,U,U,U,U,U,U,U,U,U,U,U,U,U,U,U,U,U,U,U,U,U,U,U,U,U,U,U,U,U,U,U,U,U,U,U,U,U,U,U]) E) (
   d4 [1,1,1,1,1,1,1,1,1] (q4 K E) #[x0,x1,x2,x3,U,U,U,U,(.bool false),t7,t8,t11,t12,t24,U,U,U,U,U,U,U,U,x1,t1,t2,t2,t3,t4,t5,U,x0,t7,t8,t8,t9,t10,t7,t8,t10,t11,t12,t12,t13,t13,t14,t15,t16,t16,t17,t18,t19,t20,t21,t7,x1,x2,t22,t23,t24,x3,U,U,U,U,U,U,U,U,U,U,U,U,U,U,U,U,U,U,U,U,U,U,U,U,U,U,U,U,U,U,U,U,U,U,U,U,U,U,U,U,U,U,U,U,U,U,U,U,U,U,U,U,U,U,U,U,U,U,U,U,U,U,U,U,U,U,U,U,U,U,U,U,U,U,U,U,U,U,U,U,U,U,U,U,U,U,U,U,U,U])) E) E)) E)) E) E):=by kernel_rfl
theorem zod:d4 [1,1,1,1,1,1,1,1,1] (q4 K E) #[x0,x1,x2,x3,x4,x5,x6,x7,x8,x9,x10,x11,x12,x13,x14,x15,x16,x17,x18,x19,x20,x21,x22,x23,x24,x25,x26,x27,x28,x29,x30,x31,x32,x33,x34,x35,x36,x37,x38,x39,x40,x41,x42,x43,x44,x45,x46,x47,x48,x49,x50,x51,x52,x53,x54,x55,x56,x57,x58,x59,x60,x61,x62,x63,x64,x65,x66,x67,x68,x69,x70,x71,x72,x73,x74,x75,x76,x77,x78,x79,x80,x81,x82,x83,x84,x85,x86,x87,x88,x89,x90,x91,x92,x93,x94,x95,x96,x97,x98,x99,x100,x101,x102,x103,x104,x105,x106,x107,x108,x109,x110,x111,x112,x113,x114,x115,x116,x117,x118,x119,x120,x121,x122,x123,x124,x125,x126,x127,x128,x129,x130,x131,x132,x133,x134,x135,x136,x137,x138,x139,x140,x141,x142,x143,x144,x145,x146,x147,x148,x149] =
 pv (bdC #[(.int .u8 0),(.int .u32 0),(.int .u32 0),(.slice none 0 0),(.slice none 0 0),(.int .i64 0),(.int .i64 0),(.slice none 0 0)] [(0,1),(1,1),(2,1),(3,1),(4,1),(5,1),(6,1),(7,1)] #[(0,(.int .u8 5)),(1,(.int .u32 3))]) λt1=>
 cF 17 #[t1] (λt2=>
 cF 16 #[x11,(.int .i64 (-1)),t2] (λt3=>
 pv (exV 0 t3) λt4=>
 pv (exV 1 t3) λt5=>
 cF 16 #[x11,(.int .i64 (-1)),x13] (λt6=>
 pv (exV 0 t6) λt7=>
 pv (exV 1 t6) λt8=>
 pv (bdC #[(.int .u8 0),(.int .u32 0),(.int .u32 0),(.slice none 0 0),(.slice none 0 0),(.int .i64 0),(.int .i64 0),(.slice none 0 0)] [(0,1),(1,1),(2,1),(3,1),(4,1),(5,1),(6,1),(7,1)] #[(0,(.int .u8 4)),(1,(.int .u32 3)),(2,(.int .u32 5))]) λt9=>
 cF 17 #[t9] (λt10=>
 cF 16 #[x11,(.int .i64 (-1)),t10] (λt11=>
 pv (exV 0 t11) λt12=>
 pv (exV 1 t11) λt13=>
 pv (bdC #[(.int .u8 0),(.int .u32 0),(.int .u32 0),(.slice none 0 0),(.slice none 0 0),(.int .i64 0),(.int .i64 0),(.slice none 0 0)] [(0,1),(1,1),(2,1),(3,1),(4,1),(5,1),(6,1),(7,1)] #[(0,(.int .u8 7)),(1,(.int .u32 3))]) λt14=>
 cF 17 #[t14] (λt15=>
 cF 16 #[x11,(.int .i64 2),t15] (λt16=>
 pv (exV 0 t16) λt17=>
 pv (exV 1 t16) λt18=>
 pv (zac t4) λt19=>
 pv (za1 .none .eql t19 (.int .i64 0)) λt20=>
 gdK t20 true (λk=>k t7) λt21=>
 gdK t20 true (λk=>pv (zac t21) k) λt22=>
 gdK t20 true (λk=>pv (za1 .none .eql t22 (.int .i64 1)) k) λt23=>
 pv (zad t20 t23 (.bool false)) λt24=>
 gdK t24 true (λk=>k t7) λt25=>
 gdK t24 true (λk=>pv (iaV none 3 t25 (.int .i64 0)) k) λt26=>
 gdK t24 true (λk=>pv (faV 2 t26) k) λt27=>
 gdK t24 true (λk=>ld false 1 t27 k) λt28=>
 gdK t24 true (λk=>pv (iaV none 1 t28 (.int .i64 0)) k) λt29=>
 gdK t24 true (λk=>ld false 1 t29 k) λt30=>
 gdK t24 true (λk=>pv (za1 .none .eql t30 (.int .u8 3)) k) λt31=>
 pv (zad t24 t31 (.bool false)) λt32=>
 gdK t32 true (λk=>k t12) λt33=>
 gdK t32 true (λk=>pv (zac t33) k) λt34=>
 gdK t32 true (λk=>pv (za1 .none .eql t34 (.int .i64 0)) k) λt35=>
 pv (zad t32 t35 (.bool false)) λt36=>
 gdK t36 true (λk=>k t17) λt37=>
 gdK t36 true (λk=>pv (zac t37) k) λt38=>
 gdK t36 true (λk=>pv (za1 .none .eql t38 (.int .i64 1)) k) λt39=>
 pv (zad t36 t39 (.bool false)) λt40=>
 gdK t40 true (λk=>k t17) λt41=>
 gdK t40 true (λk=>pv (iaV none 3 t41 (.int .i64 0)) k) λt42=>
 gdK t40 true (λk=>pv (faV 2 t42) k) λt43=>
 gdK t40 true (λk=>ld false 1 t43 k) λt44=>
 gdK t40 true (λk=>pv (iaV none 1 t44 (.int .i64 0)) k) λt45=>
 gdK t40 true (λk=>ld false 1 t45 k) λt46=>
 gdK t40 true (λk=>pv (za1 .none .eql t46 (.int .u8 5)) k) λt47=>
 pv (zad t40 t47 (.bool false)) λt48=>
 gdK t48 true (λk=>k t17) λt49=>
 gdK t48 true (λk=>pv (iaV none 3 t49 (.int .i64 0)) k) λt50=>
 gdK t48 true (λk=>pv (faV 1 t50) k) λt51=>
 gdK t48 true (λk=>ld false 1 t51 k) λt52=>
 gdK t48 true (λk=>pv (za1 .none .eql t52 (.int .i64 2)) k) λt53=>
 pv (zad t48 t53 (.bool false)) λt54=>
 gdK t54 true (λk=>k x11) λt55=>
 gdK t54 true (λk=>cF 13 #[t55] k E) λt56=>
 gdK t54 true (λk=>pv (zai t56) k) λt57=>
 gdK t54 true (λk=>pv (faV 0 t57) k) λt58=>
 gdK t54 true (λk=>ld false 1 t58 k) λt59=>
 gdK t54 true (λk=>cF 19 #[t59,(.int .i64 0),(.int .i64 10000)] k E) λt60=>
 gdK t54 true (λk=>pv (zac t60) k) λt61=>
 gdK t54 true (λk=>pv (za1 .none .eql t61 (.int .i64 0)) k) λt62=>
 pv (zad t54 t62 (.bool false)) λt63=>
 gdK t63 true (λk=>k x11) λt64=>
 gdK t63 true (λk=>cF 13 #[t64] k E) λt65=>
 gdK t63 true (λk=>cF 21 #[t65] k E) λt66=>
 gdK t63 true (λk=>pv (zac t66) k) λt67=>
 gdK t63 true (λk=>pv (za1 .none .eql t67 (.int .i64 0)) k) λt68=>
 pv (zad t63 t68 (.bool false)) λt69=>
 K t69) E) E) E) E) E) E) E:=by kernel_rfl
end
section
variable {K:zae} {E:zb2} {σ:Type} {h:Hp} {j:Nat -> Value}
end
end Go.Proofs.YtlhlhpgjnjjhnaaGreatDoor.T
/- slices.Collect(maps.Keys(m)) at keys uint32: turned from the worked proof GgCollectAtTheDump (keys of a string's kind). -/
namespace Go.Proofs.YtlhlhpgjnjjhnaaGreatDoor.A
open Go Go.Proofs Go.RowKit Go.Maps Go.Sort Go.Shelf
set_option linter.unusedVariables false
set_option linter.unusedSimpArgs false
abbrev zg1 (x:Int):Value:=.int .u32 x
theorem yln {x y:Int} (h:zg1 x=zg1 y):x=y:=by simpa [zg1] using h
theorem ye4 {P:Program} {k:TypeId} (hk:P.underlying k=some (.int .u32)) {key:Value} {kl:Lit} (h:keyOf P k key=some kl):∃ x:Int,key=zg1 x∧kl=.int .u32 x∧(Lit.int .u32 x).wf=true:=by
  obtain ⟨x,h1,h2,h3⟩:=Maps.keyOf_int_inv hk h;exact ⟨x,h1,h2,h3⟩
def zo8 {H:Type} (v:Value):Option (DataW H×List MemPlace):=some (.lit (.bool true),[])
def zl4 {H:Type} (D0:DataW H) (left:Lit -> Bool) (ss:List Int):Prop:=ss.Nodup∧∀ x,x∈ss↔(has D0 (.int .u32 x)=true∧left (.int .u32 x)=false)
theorem zl4.start {H:Type} (D0:DataW H):zl4 D0 (has D0) []:=⟨List.nodup_nil,λx=>by cases has D0 (.int .u32 x)<;>simp⟩
theorem zl4.step {H:Type} {D0:DataW H} {left:Lit -> Bool} {ss:List Int} (h:zl4 D0 left ss) {x:Int} {y:DataW H} (hlk:left (.int .u32 x)=true) (hat:∀ zd,D0.atKey (.int .u32 x) zd=y):zl4 D0 (λz=>left z && !z.sameKey (.int .u32 x)) (ss++[x]):=by
  have hhas:has D0 (.int .u32 x)=true:=has_true_of_atKey hat
  have hnew:x ∉ ss:=λhx=>by have := ((h.2 x).1 hx).2; rw [hlk] at this; cases this
  refine ⟨List.nodup_append.2 ⟨h.1,by simp,λa ha b hb=>by simp at hb; subst hb; exact λe=>hnew (e ▸ ha)⟩,λy=>?_⟩
  by_cases hy:y=x
  · subst hy; simp [hhas,Lit.sameKey]
  · simp [h.2 y,hy,Lit.sameKey]
theorem zl4.all {H:Type} {D0:DataW H} {left:Lit -> Bool} {ss:List Int} (h:zl4 D0 left ss) (hl:∀ kl,left kl=false):ss.Nodup∧∀ x,x∈ss↔has D0 (.int .u32 x)=true:=⟨h.1,λx=>by rw [h.2 x,hl]; simp⟩
theorem ycq {H:Type} (F:Fence) (n:Nat) (h10:F.fn 111) (hro:F.round=none) (hn:1≤n) (l Bm b nn:Nat) (D0:DataW H) (J:List Int -> World -> Prop)
    (hY:∀ pre x W,J pre W -> pre.length<Maps.size D0 -> YieldAt F (n - 1) Tryz.prog l #[zg1 x] W λe W'=>e=.returned (.bool true)∧J (pre++[x]) W'∧KeepsWalks W W')
    (W:World) (hJ:AbidesFrom W.heap.size J) (hm:W.cell? ⟨Bm,0,none⟩=some (.map (some b))) (hown:W.ownsMap Tryz.prog 38 zo8 b nn D0) (h0:J [] W) :
    CallsIn F n Tryz.prog 111 #[.func (.yield l) #[] #[],.pointer (some ⟨Bm,0,none⟩)] W λe W'=>(∃ v,e=.returned v)∧∃ ss:List Int,(ss.Nodup∧∀ x,x∈ss↔has D0 (.int .u32 x)=true)∧J ss W':=by
  refine callsIn_of_wp Tryz.func111 rfl h10 ?_ hro;simp only [Tryz.ntmps111,List.size_toArray,List.length_cons,List.length_nil,Nat.reduceAdd,Nat.reduceSub,Array.replicate_succ,Array.replicate_zero,List.push_toArray,List.append_toArray,List.nil_append,List.cons_append]
  gi_wp2_with (first
    | (gi_at_range; refine wpListIn_range_own _ rfl _ 56 rfl 38 154 (int_keyed Tryz.underlying38) Tryz.underlying56 _ b nn _ rfl hown ?_; intro w0 hrg0 hg0 hs0)
    | gi_in)
  go_frame
  gi_loopw [3] (λ_ wr=>∃ (left:Lit -> Bool) (cnt:Nat) (ss:List Int),wr.ranges Tryz.prog 38 zo8 b W.heap.size nn D0 left cnt∧ss.length+cnt≤Maps.size D0∧zl4 D0 left ss∧J ss wr)
    (λ_ wr=>wr.rangeLeft b W.heap.size)
  case atStart=>
    exact ⟨_,_,[],hrg0,by simp,zl4.start D0,hJ [] W w0 none h0 hg0 (λr e=>by cases e)⟩
  case round=>
    obtain ⟨left,cnt,ss,hrg,hcs,hC,hJs⟩:=hrel
    gi_wp2_with (first
      | (gi_at_next; refine wpListIn_next_ranges _ rfl _ rfl 38 (int_keyed Tryz.underlying38) zo8 zg1 id (λkey kl hk=>by obtain ⟨x,hx,_⟩:=ye4 Tryz.underlying38 hk; exact ⟨x,hx⟩) (λv _ _=>⟨v,rfl⟩) b W.heap.size nn _ _ _ rfl hrg ?_ ?_)
      | gi_in)
    ·
      intro hc0 hl0
      gi_wp2
      go_end0
      exact ⟨⟨_,rfl⟩,ss,hC.all hl0,hJs⟩
    ·
      intro x c kl yd yp w2 cnt2 hkey hlk hv hat hrg2 hlt hg2 hs2 hen;obtain ⟨x',ex,rfl,_⟩:=ye4 Tryz.underlying38 hkey;obtain rfl:x=x':=yln ex;have hJ2:J ss w2:=hJ ss wr w2 (some W.heap.size) hJs hg2 (λr e=>by cases e; exact ⟨Nat.le_refl _,hrg.iter_walk⟩);obtain ⟨fn,tmps,assign,body,hy,hR⟩:=hY ss x w2 hJ2 (by omega);clear hs2
      gi_wp2
      refine hR.mono ?_;rintro e W3 ⟨rfl,hJ3,hk3⟩
      gi_wp2
      have hrg3:=hrg2.of_walks hk3
      go_roundw
      case rel=>exact ⟨_,cnt2,ss++[x],hrg3,by simp; omega,hC.step hlk hat,hJ3⟩
      case measure=>rw [hrg3.left_eq,hrg.left_eq]; exact hlt
theorem zzc {H:Type} (F:Fence) (n:Nat) (h10:F.fn 111) (hro:F.round=none) (hn:1≤n) (Bm b nn:Nat) (D0:DataW H) (w:World) (hBm:Bm<w.heap.size)
    (hm:w.cell? ⟨Bm,0,none⟩=some (.map (some b))) (hown:w.ownsMap Tryz.prog 38 zo8 b nn D0) :
    SeqGives F n Tryz.prog 111 #[.pointer (some ⟨Bm,0,none⟩)] zg1 (λss=>(ss.Nodup∧∀ x,x∈ss↔has D0 (.int .u32 x)=true)) (Maps.size D0) w:=λl J W hW hJ hY h0=>by
  have hown':W.ownsMap Tryz.prog 38 zo8 b nn D0:=by
    have hbl:=hown.lt;obtain ⟨es,clock,hb,Ft,hs,hD⟩:=hown;exact ⟨es,clock,(hW.block b hbl).trans hb,Ft,hs,hD⟩
  exact ycq F n h10 hro hn l Bm b nn D0 J hY W hJ ((hW.cell (p:=⟨Bm,0,none⟩) hBm).trans hm) hown' h0
def zmw:Code:=(Code.region 2 #[{ dst:=some 5,op:=Op.assign (Operand.tmp 7),type:=38,pos := "iter.go:51",after:=#[],guard:=none }] false)
def zpr:Code:=(Code.block 1 (Code.region 3 #[{ dst:=some 8,op:=Op.load 61 (Operand.tmp 2),type:=61,pos := "iter.go:52",after:=#[],guard:=none },{ dst:=some 9,op:=Op.move (Operand.tmp 5),type:=38,pos := "iter.go:52",after:=#[],guard:=none },{ dst:=some 10,op:=Op.buildSlice 61 1 #[(0,Operand.tmp 9)],type:=61,pos := "iter.go:52",after:=#[{ on:=1,ground:=Ground.data }],guard:=none },{ dst:=some 11,op:=Op.call { callee:=Callee.builtin Builtin.append,args:=#[Operand.tmp 8,Operand.tmp 10],argTypes:=#[61,61] },type:=61,pos := "iter.go:52",after:=#[{ on:=0,ground:=Ground.data },{ on:=2,ground:=Ground.data }],guard:=none },{ dst:=none,op:=Op.store 61 (Operand.tmp 2) (Operand.tmp 11),type:=0,pos := "iter.go:52",after:=#[{ on:=3,ground:=Ground.data },{ on:=3,ground:=Ground.chain },{ on:=0,ground:=Ground.phase },{ on:=1,ground:=Ground.phase },{ on:=2,ground:=Ground.phase },{ on:=3,ground:=Ground.phase }],guard:=none }] false))
def zfl (fn:FuncId) (sv:Value) (Bs D:Nat) (st:LoopState) (pend:Option Code):Loop :=
  { state:=st,pending:=pend,fn,tmps:=#[.slice none 0 0,sv,.pointer (some ⟨Bs,0,none⟩),undef,.slice none 0 0,undef,sv,undef,undef,undef,undef,undef,undef],params:=#[7],assign:=zmw,body:=zpr,defers:=D }
structure znp (w0:World) (fn:FuncId) (sv:Value) (Bs l D:Nat) (ss:List Int) (W:World):Prop where
  box:∃ v,W.heap[Bs]?=some (.cells #[v] 61 (0,0))∧W.ownsRow w0.heap.size 38 1 v ss.length (ss.map zg1)∧(v=.slice none 0 0↔ss=[])
  L:W.heap[l]?=some (.loop (zfl fn sv Bs D .ready none))
  K:W.heap[D]?=some (.deferred (some []))
  below:Below w0.heap.size w0 W
theorem yac (w0:World) (fn:FuncId) (sv:Value) (Bs l D B:Nat) (hB:w0.heap.size≤B):AbidesFrom B (znp w0 fn sv Bs l D):=λs W W' row h hg hrow=>by
  have hrow':∀ r,row=some r -> ∃ o:Obj,W.heap[r]?=some o∧o.isWalk=true:=λr e=>(hrow r e).2;obtain ⟨v,hv,hr,hn⟩:=h.box
  exact ⟨⟨v,(grownBy_keeps hg hrow' hv rfl).trans hv,ownsRow_abides_a hr hg hrow',hn⟩,(grownBy_keeps hg hrow' h.L rfl).trans h.L,(grownBy_keeps hg hrow' h.K rfl).trans h.K,
    h.below.grown hg h.below.size (λk e=>Nat.le_trans hB (hrow k e).1)⟩
theorem ypj:(Tryz.prog.info? 38).map (λi=>(i.zero,i.size,i.bytes))=some (some (.int .u32 0),1,4):=by kernel_rfl
theorem yga (F:Fence) (m:Nat) (w0:World) (fn:FuncId) (hfn:F.fn fn) (sv:Value) (Bs l D:Nat) (hBl:Bs≠l) (hDl:D≠l) (hDB:D≠Bs) (h0B:w0.heap.size≤Bs) (h0l:w0.heap.size≤l)
    (N:Nat) (hN:N≤maxLen) (hNb:N*4≤140737488355328) (ss:List Int) (x:Int) (W:World) (h:znp w0 fn sv Bs l D ss W) (hlen:ss.length<N) :
    YieldAt F m Tryz.prog l #[zg1 x] W λe W'=>e=.returned (.bool true)∧znp w0 fn sv Bs l D (ss++[x]) W'∧KeepsWalks W W':=by
  obtain ⟨i0,hi,hz0,hz1,hz2⟩:=info_parts ypj;obtain ⟨v,hv,hrow,_⟩:=h.box;refine ⟨fn,#[.slice none 0 0,sv,.pointer (some ⟨Bs,0,none⟩),undef,.slice none 0 0,undef,sv,zg1 x,undef,undef,undef,undef,undef],zmw,zpr,by simpa [zfl] using run_yield (P:=Tryz.prog) (args:=#[zg1 x]) h.L rfl,roundIn_of_wpIn hfn ?_⟩;have hl:l<W.heap.size:=(Array.getElem?_eq_some_iff.1 h.L).1;have hbr:=run_beginRound (P:=Tryz.prog) h.L rfl;obtain ⟨W2,hW2⟩:∃ W2,W.putObj l (.loop { zfl fn sv Bs D .ready none with state:=.busy })=W2:=⟨_,rfl⟩;rw [hW2] at hbr;have hg2:W.grownBy W2 (some l):=by rw [← hW2]; exact grownBy_putObj_a _ _ _
  have hk2:KeepsWalks W W2:=by rw [← hW2]; exact KeepsWalks.putObj _ h.L rfl
  have hv2:W2.heap[Bs]?=some (.cells #[v] 61 (0,0)):=by rw [← hW2]; exact (World.putObj_heap_other hBl).trans hv
  have hK2:W2.heap[D]?=some (.deferred (some [])):=by rw [← hW2]; exact (World.putObj_heap_other hDl).trans h.K
  have hL2:W2.heap[l]?=some (.loop { zfl fn sv Bs D .ready none with state:=.busy }):=by rw [← hW2]; exact World.putObj_heap_same hl
  have hrow2:W2.ownsRow w0.heap.size 38 1 v ss.length (ss.map zg1):=hrow.kept hg2 (ownsRow_ne_a hrow h.L (λcur e=>by cases e));have hb2:Below w0.heap.size w0 W2:=h.below.grown hg2 h.below.size (λk e=>by cases e; exact h0l);obtain ⟨hc2,hf2⟩:=cell_of_box_a hv2;have hBlt:Bs<W2.heap.size:=(Array.getElem?_eq_some_iff.1 hv2).1;have hl2:l<W2.heap.size:=(Array.getElem?_eq_some_iff.1 hL2).1;have hDlt:D<W2.heap.size:=(Array.getElem?_eq_some_iff.1 hK2).1
  have ne_of:∀ {j:Nat} {o:Obj},W2.heap[j]?=some o -> (∀ cur,o≠.cells cur 38 (0,0)) -> some j≠v.ownBlock:=λhj hno=>by
    rcases ownsRow_ne_a hrow2 hj hno with e | e
    · rw [e]; simp
    · exact λe'=>e e'.symm
  clear hW2;unfold zmw
  gi_wp2_with (rw [Oper.semAt_eq _ _ _ (λc h=>by cases h)]; go_simp; try go_bits)
  unfold zpr
  gi_wp2_with (first
    | (gi_at_builtin; refine wpListIn_append_own _ rfl _ _ 61 rfl w0.heap.size 38 i0 (.int .u32 0) 1 4 Tryz.underlying61 hi hz0 hz1 hz2 rfl (by decide) _ _ _ rfl (hrow2.alloc _) ⟨W2.heap.size,0,none⟩ 1 1 [zg1 x] rfl rfl (cell_one_new _ _ _) (by simp [Value.oneCell',zg1]) (by omega) (by omega) (by have := hb2.size; simp; omega) ?_; intro v' w3 hown' hg3 hnil3
       have hv3:w3.heap[Bs]?=some (.cells #[v] 61 (0,0)):=(hg3.block Bs (by simp; omega) (ne_of hv2 (λcur e=>by cases e))).trans ((Below.heap_alloc _ _ Bs hBlt).trans hv2);obtain ⟨hc3,hf3⟩:=cell_of_box_a hv3
       obtain ⟨g',cap',cur',rfl,hbase',hgb',hr1,hr2,hr3,hr4⟩:∃ g' cap' cur',v'=.slice (some ⟨g',0,none⟩) (ss.length+1) cap'∧w0.heap.size≤g'∧w3.heap[g']?=some (.cells cur' 38 (0,0))∧ss.length+1≤cap'∧cap'≤maxLen∧cur'.size=cap'*1∧cur'.toList.take ((ss.length+1)*1)=ss.map zg1++[zg1 x]:=by
         rcases hown'.2 with ⟨_,h0⟩ | h'
         · exact absurd h0 (by omega)
         · exact h'
       go_frame)
    | (rw [Oper.semAt_eq _ _ _ (λc h=>by cases h)]; go_simp; try go_bits))
  have hg3':(W2.alloc (.cells #[zg1 x] 38)).grownBy w3 v.ownBlock:=hg3;have hL3:w3.heap[l]?=some (.loop { zfl fn sv Bs D .ready none with state:=.busy }):=(hg3'.block l (by simp; omega) (ne_of hL2 (λcur e=>by cases e))).trans ((Below.heap_alloc _ _ l hl2).trans hL2);have hK3:w3.heap[D]?=some (.deferred (some [])):=(hg3'.block D (by simp; omega) (ne_of hK2 (λcur e=>by cases e))).trans ((Below.heap_alloc _ _ D hDlt).trans hK2);obtain ⟨w4,hw4⟩:∃ w4,w3.setCell ⟨Bs,0,none⟩ (.slice (some ⟨g',0,none⟩) (ss.length+1) cap')=w4:=⟨_,rfl⟩;rw [hw4];have hg4:w3.grownBy w4 (some Bs):=by rw [← hw4]; exact grownBy_setCell0_a _ _ _
  have hv4:w4.heap[Bs]?=some (.cells #[.slice (some ⟨g',0,none⟩) (ss.length+1) cap'] 61 (0,0)):=by rw [← hw4]; exact heap_setCell_box_a _ hv3
  have hL4:w4.heap[l]?=some (.loop { zfl fn sv Bs D .ready none with state:=.busy }):=(hg4.block l (Array.getElem?_eq_some_iff.1 hL3).1 (λe=>hBl (by cases e; rfl))).trans hL3;have hK4:w4.heap[D]?=some (.deferred (some [])):=(hg4.block D (Array.getElem?_eq_some_iff.1 hK3).1 (λe=>hDB (by cases e; rfl))).trans hK3;have hrow4:=hown'.kept hg4 (ownsRow_ne_a hown' hv3 (λcur e=>by cases e));have hl4:l<w4.heap.size:=(Array.getElem?_eq_some_iff.1 hL4).1;have hb3:Below w0.heap.size w0 w3:=(hb2.alloc hb2.size _).grown hg3' (by have := hb2.size; simp; omega) (λk e=>(hrow2.lt k e).1);have hb4:Below w0.heap.size w0 w4:=hb3.grown hg4 hb3.size (λk e=>by cases e; exact h0B);have hk4:KeepsWalks W w4:=((hk2.trans (KeepsWalks.alloc _ _)).trans (KeepsWalks.of_grownBy hg3' (ownsRow_not_walk_a (hrow2.alloc _)))).trans (by rw [← hw4]; exact KeepsWalks.setCell _ _ _);clear hw4;refine ⟨_,_,run_endRound none hL4,rfl,⟨⟨_,(World.putObj_heap_other hBl).trans hv4,?_,by simp⟩,World.putObj_heap_same hl4,(World.putObj_heap_other hDl).trans hK4,hb4.grown (grownBy_putObj_a _ _ _) hb4.size (λk e=>by cases e; exact h0l)⟩,hk4.trans (KeepsWalks.putObj _ hL4 rfl)⟩;have := hrow4.kept (grownBy_putObj_a w4 l (.loop { { zfl fn sv Bs D .ready none with state:=.busy } with state:=if (none:Option Code).isNone then .ready else .done,pending:=none })) (ownsRow_ne_a hrow4 hL4 (λcur e=>by cases e))
  simpa using this
theorem zw1 (F:Fence) (n:Nat) (h11:F.fn 153) (hro:F.round=none) (hn:2≤n) (g:Nat) (lb:Array Value) (hFg:F.fn g) (eg:∀ args w,(callFunc g args).run Tryz.prog w=.ok (.enter g args) w)
    (S:List Int -> Prop) (N:Nat) (hN:N≤maxLen) (hNb:N*4≤140737488355328) (w:World) (hseq:SeqGives F (n - 1) Tryz.prog g lb zg1 S N w) :
    CallsIn F n Tryz.prog 153 #[.slice none 0 0,.func (.func g) #[] lb] w λe w'=>∃ (v:Value) (ss:List Int),e=.returned v∧S ss∧w'.ownsRow w.heap.size 38 1 v ss.length (ss.map zg1)∧(v=.slice none 0 0↔ss=[])∧Below w.heap.size w w':=by
  have h1:1≤n:=by omega
  refine callsIn_of_wp_marks Tryz.func153 rfl h11 ?_ hro;simp only [Tryz.ntmps153,List.size_toArray,List.length_cons,List.length_nil,Nat.reduceAdd,Nat.reduceSub,Array.replicate_succ,Array.replicate_zero,List.push_toArray,List.append_toArray,List.nil_append,List.cons_append]
  gi_wp2
  refine wpIn_rangeFunc ?_;intro fn hfn;rw [hro];obtain ⟨W0,hW0⟩:∃ W0,w.alloc (.cells #[.slice none 0 0] 61)=W0:=⟨_,rfl⟩;have hs0:W0.heap.size=w.heap.size+1:=by rw [← hW0]; simp
  have hv0:W0.heap[w.heap.size]?=some (.cells #[.slice none 0 0] 61 (0,0)):=by rw [← hW0]; exact World.alloc_heap_new w _
  have hb0:Below w.heap.size w W0:=by rw [← hW0]; exact (Below.refl _ w).alloc (Nat.le_refl _) _
  rw [hW0];obtain ⟨W1,hW1⟩:∃ W1,(W0.alloc (.deferred (some []))).alloc (.loop (zfl fn (.func (.func g) #[] lb) w.heap.size W0.heap.size .ready none))=W1:=⟨_,rfl⟩
  have hold:∀ k,k<W0.heap.size -> W1.heap[k]?=W0.heap[k]?:=λk hk=>by
    rw [← hW1]; exact (Below.heap_alloc _ _ k (by simp; omega)).trans (Below.heap_alloc _ _ k hk)
  have hb1:Below w.heap.size w W1:=by rw [← hW1]; exact (hb0.alloc hb0.size _).alloc (by have := hb0.size; simp; omega) _
  have hs1:W1.heap.size=W0.heap.size+2:=by rw [← hW1]; simp
  have hM:znp w fn (.func (.func g) #[] lb) w.heap.size (W0.heap.size+1) W0.heap.size [] W1 :=
    ⟨⟨_,(hold w.heap.size (by omega)).trans hv0,⟨rfl,.inl ⟨rfl,rfl⟩⟩,by simp⟩,
     by rw [← hW1]; have := World.alloc_heap_new (W0.alloc (.deferred (some []))) (.loop (zfl fn (.func (.func g) #[] lb) w.heap.size W0.heap.size .ready none)); rwa [World.size_alloc] at this,
     by rw [← hW1]; exact (Below.heap_alloc _ _ _ (by simp)).trans (World.alloc_heap_new W0 _),hb1⟩
  refine ⟨W0.heap.size+1,[{ target:=.collected W0.heap.size,args:=#[] }],W1,{ target:=.fn (.func g) lb,args:=#[.func (.yield (W0.heap.size+1)) #[] #[]] },W1,g,
    #[.func (.yield (W0.heap.size+1)) #[] #[]]++lb,W1,?_,?_,?_,?_,λ_=>h1,?_⟩
  · rw [← hW1]; exact run_enterLoop_outer _ _ _ _ _
  · simp [resolve,go_sem]
  · intro f' hf'; simp [Target.leads] at hf'; subst hf'; exact hFg
  · simp [invoke,go_sem,eg]
  · refine (hseq (W0.heap.size+1) (znp w fn (.func (.func g) #[] lb) w.heap.size (W0.heap.size+1) W0.heap.size) W1 hb1 (yac _ _ _ _ _ _ _ hb1.size)
      (λpre x W hJ hl=>yga F (n - 1 - 1) w fn hfn _ w.heap.size (W0.heap.size+1) W0.heap.size (by omega) (by omega) (by omega) (Nat.le_refl _) (by omega) N hN hNb pre x W hJ hl) hM).mono ?_
    rintro e W2 ⟨⟨v0,rfl⟩,ss,hS,h2⟩;obtain ⟨v,hv,hrow,hnil⟩:=h2.box;have hend:=run_endLoop (P:=Tryz.prog) h2.L (by simp [zfl]);obtain ⟨W3,hW3⟩:∃ W3,W2.putObj (W0.heap.size+1) (.loop { zfl fn (.func (.func g) #[] lb) w.heap.size W0.heap.size .ready none with state:=.exhausted })=W3:=⟨_,rfl⟩;rw [hW3] at hend;have hg3:W2.grownBy W3 (some (W0.heap.size+1)):=by rw [← hW3]; exact grownBy_putObj_a _ _ _
    have hv3:W3.heap[w.heap.size]?=some (.cells #[v] 61 (0,0)):=by rw [← hW3]; exact (World.putObj_heap_other (by omega)).trans hv
    have hK3:W3.heap[W0.heap.size]?=some (.deferred (some [])):=by rw [← hW3]; exact (World.putObj_heap_other (by omega)).trans h2.K
    have hrow3:=hrow.kept hg3 (ownsRow_ne_a hrow h2.L (λcur e=>by cases e));have hb3:Below w.heap.size w W3:=h2.below.grown hg3 h2.below.size (λk e=>by cases e; omega);obtain ⟨hc3,hf3⟩:=cell_of_box_a hv3;clear hW3;refine ⟨none,W3,hend,?_⟩
    gi_wp2
    rw [← hs0];refine ⟨by simp,.inl ⟨_,_,rfl,run_takeDeferred hK3,?_⟩⟩;exact ⟨_,results_tmp rfl _ _ _,v,ss,rfl,hS,hrow3.kept (grownBy_putObj_a _ _ _) (ownsRow_ne_a hrow3 hK3 (λcur e=>by cases e)),hnil,hb3.grown (grownBy_putObj_a _ _ _) hb3.size (λk e=>by cases e; omega)⟩
theorem zzg (F:Fence) (n:Nat) (h8:F.fn 109) (h11:F.fn 153) (hro:F.round=none) (hn:3≤n) (g:Nat) (lb:Array Value) (hFg:F.fn g) (eg:∀ args w,(callFunc g args).run Tryz.prog w=.ok (.enter g args) w)
    (S:List Int -> Prop) (N:Nat) (hN:N≤maxLen) (hNb:N*4≤140737488355328) (w:World) (hseq:SeqGives F (n - 1 - 1) Tryz.prog g lb zg1 S N w) :
    CallsIn F n Tryz.prog 109 #[.func (.func g) #[] lb] w λe w'=>∃ (v:Value) (ss:List Int),e=.returned v∧S ss∧w'.ownsRow w.heap.size 38 1 v ss.length (ss.map zg1)∧(v=.slice none 0 0↔ss=[])∧Below w.heap.size w w':=by
  have h1:1≤n:=by omega
  refine callsIn_of_wp Tryz.func109 rfl h8 ?_ hro;simp only [Tryz.ntmps109,List.size_toArray,List.length_cons,List.length_nil,Nat.reduceAdd,Nat.reduceSub,Array.replicate_succ,Array.replicate_zero,List.push_toArray,List.append_toArray,List.nil_append,List.cons_append]
  gi_wp2_with (gi_at_call 153; refine (zw1 F (n - 1) h11 hro (by omega) g lb hFg eg S N hN hNb _ hseq).mono ?_; rintro e w' ⟨v,ss,rfl,hS,hrow,hnil,hb⟩)
  go_ret
  exact ⟨v,ss,rfl,hS,hrow,hnil,hb⟩
end Go.Proofs.YtlhlhpgjnjjhnaaGreatDoor.A
open Go Go.RowKit Go.Proofs.YtlhlhpgjnjjhnaaGreatDoor.K Go.Proofs.YtlhlhpgjnjjhnaaGreatDoor.T
set_option linter.unusedVariables false
set_option linter.unusedSimpArgs false
namespace Go.Proofs.YtlhlhpgjnjjhnaaGreatDoor.A
theorem mixed:Tryz.prog.follows .mixedOrders=true:=by kernel_rfl
variable {F F':Nat -> Option (List Value)} {M M':Nat -> Option zah} {N N':Nat} {K:zae} {E:zb2}
end Go.Proofs.YtlhlhpgjnjjhnaaGreatDoor.A
open Go Go.RowKit Go.Proofs.YtlhlhpgjnjjhnaaGreatDoor.K Go.Proofs.YtlhlhpgjnjjhnaaGreatDoor.T
set_option linter.unusedVariables false
set_option linter.unusedSimpArgs false
namespace Go.Proofs.YtlhlhpgjnjjhnaaGreatDoor.A
variable {F F':Nat -> Option (List Value)} {M M':Nat -> Option zah} {N N':Nat} {K:zae} {E:zb2}
structure CE where
 n:Int
 s:Int
 lo:Int
 hi:Int
 deriving DecidableEq
def CE.cs (c:CE):List Value:=[.int .i64 c.n,.int .i64 c.s,.int .i64 c.lo,.int .i64 c.hi]
def CE.add (a b:CE):CE :=
 if b=⟨0,0,0,0⟩ then a else if a=⟨0,0,0,0⟩ then b else
  ⟨IntKind.i64.wrap (a.n+b.n),IntKind.i64.wrap (a.s+b.s),if b.lo<a.lo then b.lo else a.lo,if b.hi>a.hi then b.hi else a.hi⟩
def CE.merge (a b:CE):CE:=if 0=a.n then b else if 0=b.n then a else a.add b
def ic (l:List Int):List Value:=l.map (.int .i64)
theorem zxs {v:Value} {l:List Int} (hm0:∀ q,N≤q -> M q=none) (hv:sR F M 1 v l.length (ic l)) (hl:l.length≤10000000000000)
  (k:∀ v' F' N',(Hp.mk F' M N').wf -> za9 F F' -> N≤N' -> sF F' 1 v' l.length (ic l) -> K v' ⟨F',M,N'⟩):cF 122 #[v] K E ⟨F,M,N⟩:=by
 refine za5 mixed Tryz.func122 (by kernel_rfl) (yqk _ E _) (λhw=>?_);obtain ⟨a,c,rfl,hc⟩:=hv.form;cases a with
 | none=>
  have h0:l.length=0:=by rcases hv.2 with ⟨a',c',h1,h2⟩ | ⟨b,o,c',cs,h1,_⟩; exact h2; simp at h1
  have hl0:l=[]:=List.eq_nil_of_length_eq_zero h0;refine zab rfl (zav λhc=>⟨_,za0 hc,λhw'=>k _ F N hw' (za9.refl _) (Nat.le_refl _) ?_⟩);rw [hl0]; exact sF.nil _ _ _
 | some ad=>
  refine zab rfl (zan ?_);refine zd7 (cs:=[]) (by kernel_rfl) (λb0 hb0=>?_);refine ybz (n:=0) (cs:=[]) (m:=l.length) (news:=ic l) (yc8 (za2 _ _ _) rfl) (hv.new hw.m hb0).read (zt0 _) (by omega) (by simp [maxLen]; omega) (λh=>by cases h) (λ_ b c' hb hmc hcm hc=>?_);have hb':N≤b:=by rcases hb with h | h; omega; simp [Value.ownBlock] at h; omega
  rw [Nat.zero_add] at hmc;refine ⟨⟨upd F b (some (ic l)),M,max (b0+1) (b+1)⟩,znf (M0:=M) hc ?_ (hm0 b hb') (za2 _ _ _),λhw'=>k _ _ _ hw' (za9.upd (hw.f b hb')) (by omega) ?_⟩
  ·intro q c hq
   have hqN:q<N:=by
    rcases Nat.lt_or_ge q N with h | h
    ·exact h
    ·rw [hm0 q h] at hq; cases hq
   exact (za4 _ _ (by omega)).trans ((zmi _ (by simp [Value.ownBlock]; omega)).trans ((za4 _ _ (by omega)).trans hq))
  ·rw [Nat.zero_add];exact zjx (by simp [ic]) hmc
def CE.sum (a b:CE):CE:=⟨IntKind.i64.wrap (a.n+b.n),IntKind.i64.wrap (a.s+b.s),if b.lo<a.lo then b.lo else a.lo,if b.hi>a.hi then b.hi else a.hi⟩
def CE.rmerge (a b:CE):CE:=if a.n=0 then b else if b.n=0 then a else a.sum b
end Go.Proofs.YtlhlhpgjnjjhnaaGreatDoor.A
open Go
namespace Go.Proofs.YtlhlhpgjnjjhnaaGreatDoor.A
end Go.Proofs.YtlhlhpgjnjjhnaaGreatDoor.A
open Go
set_option linter.unusedVariables false
set_option linter.unusedSimpArgs false
namespace Go.Proofs.YtlhlhpgjnjjhnaaGreatDoor.A
def zc7:List Int -> List Int -> Int
  | [],[]=>0
  | [],_::_=>-1
  | _::_,[]=>1
  | a::l,b::m=>if a<b then -1 else if a>b then 1 else zc7 l m
theorem zhe:∀ a,zc7 a a=0
  | []=>rfl
  | a::l=>by simp [zc7,zhe l]
theorem zni:∀ {a b:List Int},zc7 a b=0 -> a=b
  | [],[],_=>rfl
  | [],b::m,h=>by simp [zc7] at h
  | a::l,[],h=>by simp [zc7] at h
  | a::l,b::m,h=>by
    simp only [zc7] at h
    split at h
    · omega
    · split at h
      · omega
      · have := zni h
        rw [this,show a=b by omega]
theorem zk6:∀ (a b:List Int),zc7 b a = - zc7 a b
  | [],[]=>rfl
  | [],b::m=>rfl
  | a::l,[]=>rfl
  | a::l,b::m=>by
    simp only [zc7]
    rcases Int.lt_trichotomy a b with h | h | h
    · rw [if_neg (by omega),if_pos (by omega),if_pos h]; rfl
    · subst h; simp [zk6 l m]
    · rw [if_pos (by omega),if_neg (by omega),if_pos (by omega)]
theorem zky:∀ {a b c:List Int},zc7 a b<0 -> zc7 b c<0 -> zc7 a c<0
  | [],[],c,h,_=>by simp [zc7] at h
  | [],b::m,[],_,h=>by simp [zc7] at h
  | [],b::m,c::o,_,_=>by simp [zc7]
  | a::l,[],c,h,_=>by simp [zc7] at h
  | a::l,b::m,[],_,h=>by simp [zc7] at h
  | a::l,b::m,c::o,h1,h2=>by
    simp only [zc7] at h1 h2 ⊢
    by_cases ha:a<b
    · by_cases hb:b<c
      · rw [if_pos (by omega)]; decide
      · rw [if_neg hb] at h2
        by_cases hc:b>c
        · rw [if_pos hc] at h2; omega
        · rw [if_pos (by omega)]; decide
    · rw [if_neg ha] at h1
      by_cases ha2:a>b
      · rw [if_pos ha2] at h1; omega
      · rw [if_neg ha2] at h1
        have:a=b:=by omega
        subst this
        by_cases hb:a<c
        · rw [if_pos hb]; decide
        · rw [if_neg hb] at h2 ⊢
          by_cases hc:a>c
          · rw [if_pos hc] at h2; omega
          · rw [if_neg hc] at h2 ⊢
            exact zky h1 h2
abbrev Rw:=List Int×CE
def zc4:List Rw -> List Int -> Option CE
  | [],_=>none
  | (k',c)::t,k=>if k'=k then some c else zc4 t k
theorem zj5:∀ {t:List Rw} {k:List Int},zc4 t k=none↔∀ x∈t,x.1≠k
  | [],k=>by simp [zc4]
  | (k',c)::t,k=>by
    simp only [zc4]
    split
    · rename_i h; simp [h]
    · rename_i h; rw [zj5]; simp [h]
def nodup (t:List Rw):Prop:=t.Pairwise λa b=>a.1≠b.1
theorem zkl:∀ {t:List Rw} {k:List Int} {c:CE},nodup t -> (zc4 t k=some c↔(k,c)∈t)
  | [],k,c,_=>by simp [zc4]
  | (k',c')::t,k,c,h=>by
    have h':=List.pairwise_cons.1 h;simp only [zc4]
    split
    · rename_i e
      subst e
      constructor
      · intro e; cases e; simp
      · intro e
        rcases List.mem_cons.1 e with e | e
        · cases e; rfl
        · exact absurd rfl (h'.1 (k',c) e)
    · rename_i e
      rw [zkl h'.2]
      simp [Ne.symm e]
def srt (t:List Rw):Prop:=t.Pairwise λa b=>zc7 a.1 b.1<0
theorem srt.nodup {t:List Rw} (h:srt t):nodup t:=h.imp λ{a b} h e=>by rw [e,zhe] at h; omega
theorem nodup.perm {a b:List Rw} (h:nodup a) (p:a.Perm b):nodup b:=p.pairwise h (λ{x y} h=>Ne.symm h)
theorem ye6:∀ {a b:List Rw},srt a -> srt b -> (∀ k,zc4 a k=zc4 b k) -> a=b
  | [],[],_,_,_=>rfl
  | [],(k,c)::b,_,_,h=>by have := h k; simp [zc4] at this
  | (k,c)::a,[],_,_,h=>by have := h k; simp [zc4] at this
  | (k,c)::a,(k',c')::b,ha,hb,h=>by
    have ha':=List.pairwise_cons.1 ha;have hb':=List.pairwise_cons.1 hb
    have hk:k=k':=by
      have h1:(k,c)∈(k',c')::b:=(zkl hb.nodup).1 (by rw [← h k]; simp [zc4]);have h2:(k',c')∈(k,c)::a:=(zkl ha.nodup).1 (by rw [h k']; simp [zc4])
      rcases List.mem_cons.1 h1 with e | e
      · cases e; rfl
      · rcases List.mem_cons.1 h2 with e' | e'
        · cases e'; rfl
        · have := ha'.1 _ e'
          have := hb'.1 _ e
          have h3:=zk6 k k'
          simp only at *
          omega
    subst hk;have hc:c=c':=by have := h k; simpa [zc4] using this
    subst hc
    have:a=b:=ye6 ha'.2 hb'.2 λq=>by
      by_cases hq:k=q
      · subst hq
        rw [zj5.2 (λx hx e=>by have := ha'.1 x hx; rw [e,zhe] at this; omega),zj5.2 (λx hx e=>by have := hb'.1 x hx; rw [e,zhe] at this; omega)]
      · have := h q
        simpa [zc4,hq] using this
    rw [this]
def mrg (o:Option CE) (c:CE):CE:=match o with
  | none=>c
  | some c'=>c'.merge c
def yr8:List Rw -> List Int -> CE -> List Rw
  | [],k,c=>[(k,c)]
  | (k',c')::t,k,c=>if k'=k then (k',c'.merge c)::t else (k',c')::yr8 t k c
def layR:List Rw -> List Int -> CE -> List Rw
  | [],k,c=>[(k,c)]
  | (k',c')::t,k,c=>if zc7 k' k<0 then (k',c')::layR t k c else if zc7 k' k=0 then (k,c'.merge c)::t else (k,c)::(k',c')::t
theorem zyf:∀ (t:List Rw) (k:List Int) (c:CE) (x:Rw),x∈layR t k c -> x.1=k∨x∈t
  | [],k,c,x,h=>by simp [layR] at h; exact .inl (by rw [h])
  | (k1,c1)::t,k,c,x,h=>by
    simp only [layR] at h
    split at h
    · rcases List.mem_cons.1 h with h | h
      · exact .inr (by rw [h]; simp)
      · rcases zyf t k c x h with h | h
        · exact .inl h
        · exact .inr (by simp [h])
    · split at h
      · rcases List.mem_cons.1 h with h | h
        · exact .inl (by rw [h])
        · exact .inr (by simp [h])
      · rcases List.mem_cons.1 h with h | h
        · exact .inl (by rw [h])
        · exact .inr h
theorem zsg:∀ {t:List Rw} {k:List Int} {c:CE},srt t -> srt (layR t k c)
  | [],k,c,_=>by simp [layR,srt]
  | (k1,c1)::t,k,c,h=>by
    have h':=List.pairwise_cons.1 h;simp only [layR]
    split
    · rename_i hk
      refine List.pairwise_cons.2 ⟨λx hx=>?_,zsg h'.2⟩
      rcases zyf t k c x hx with e | e
      · rw [e]; exact hk
      · exact h'.1 x e
    · split
      · rename_i hk
        have := zni hk;subst this;exact List.pairwise_cons.2 ⟨h'.1,h'.2⟩
      · rename_i h1 h2
        have h3:zc7 k k1<0:=by rw [zk6 k1 k]; omega
        refine List.pairwise_cons.2 ⟨λx hx=>?_,h⟩
        rcases List.mem_cons.1 hx with e | e
        · rw [e]; exact h3
        · exact zky h3 (h'.1 x e)
theorem zyv:∀ {t:List Rw} (k:List Int) (c:CE) (q:List Int),srt t -> zc4 (layR t k c) q=if k=q then some (mrg (zc4 t k) c) else zc4 t q
  | [],k,c,q,_=>by simp [layR,zc4,mrg]
  | (k1,c1)::t,k,c,q,h=>by
    have h':=List.pairwise_cons.1 h;simp only [layR]
    split
    · rename_i hk
      have hne:k1≠k:=λe=>by rw [e,zhe] at hk; omega
      simp only [zc4,if_neg hne];rw [zyv k c q h'.2]
      by_cases h2:k1=q
      · rw [if_pos h2,if_neg (λe=>hne (by rw [h2,e])),if_pos h2]
      · rw [if_neg h2,if_neg h2]
    · split
      · rename_i hk
        have := zni hk;subst this;simp only [zc4,if_true]
        by_cases h2:k1=q
        · simp [h2,mrg]
        · simp [h2]
      · rename_i h1 h2
        have hne:k1≠k:=λe=>h2 (by rw [e,zhe])
        have hno:zc4 t k=none:=zj5.2 λx hx e=>by
          have h3:=h'.1 x hx
          rw [e] at h3
          exact h1 h3
        simp only [zc4,if_neg hne,hno,mrg]
def tab (l:List Rw):List Rw:=l.foldl (λt r=>layR t r.1 r.2) []
def yz6 (l:List Rw):List Rw:=l.foldl (λt r=>yr8 t r.1 r.2) []
theorem ylu (l:List Rw):∀ t,srt t -> srt (l.foldl (λt r=>layR t r.1 r.2) t):=by
  induction l with
  | nil=>exact λt h=>h
  | cons r l ih=>exact λt h=>ih _ (zsg h)
theorem zx6 (l:List Rw):srt (tab l):=ylu l [] .nil
theorem yk9 (t:List Rw) (k:List Int) (c:CE):(layR t k c).length≤t.length+1:=by
  induction t with
  | nil=>simp [layR]
  | cons x t ih=>
    obtain ⟨k1,c1⟩:=x;simp only [layR]
    split
    · simp; omega
    · split<;>simp
end Go.Proofs.YtlhlhpgjnjjhnaaGreatDoor.A
open Go Go.RowKit Go.Proofs.YtlhlhpgjnjjhnaaGreatDoor.K Go.Proofs.YtlhlhpgjnjjhnaaGreatDoor.T
set_option linter.unusedVariables false
set_option linter.unusedSimpArgs false
namespace Go.Proofs.YtlhlhpgjnjjhnaaGreatDoor.A
variable {F F':Nat -> Option (List Value)} {M M':Nat -> Option zah} {N N':Nat} {K:zae} {E:zb2}
def za6 (M:Nat -> Option zah) (N:Nat):Prop:=∀ k,N≤k -> M k=none
theorem za6.new (h:za6 M N) {b:Nat} (hb:N≤b) (x:Option zah):za6 (upd M b x) (b+1):=λk hk=>(za4 _ _ (by omega)).trans (h k (by omega))
theorem za6.up (h:za6 M N) (hN:N≤N'):za6 M N':=λk hk=>h k (by omega)
theorem za6.set (h:za6 M N) {b:Nat} (hb:b<N) (x:Option zah):za6 (upd M b x) N:=λk hk=>(za4 _ _ (by omega)).trans (h k hk)
theorem za6.lt (h:za6 M N) {b:Nat} {c:zah} (hb:M b=some c):b<N:=by
 rcases Nat.lt_or_ge b N with h' | h'
 ·exact h'
 ·rw [h b h'] at hb; cases hb
def own (M:Nat -> Option zah) (B:Nat) (e:TypeId) (sz:Nat) (v:Value) (n:Nat) (cs:List Value):Prop :=
 cs.length=n*sz∧((v=.slice none 0 0∧n=0)∨∃ b c rest,v=.slice (some ⟨b,0,none⟩) n c∧n≤c∧c≤maxLen∧B≤b∧M b=some (.cells e (cs++rest) (c*sz)))
theorem own.nil {B:Nat} {e:TypeId} {sz:Nat}:own M B e sz (.slice none 0 0) 0 []:=⟨by simp,.inl ⟨rfl,rfl⟩⟩
theorem own.os {B:Nat} {e:TypeId} {sz n:Nat} {v:Value} {cs:List Value} (h:own M B e sz v n cs):yms M e sz v n cs :=
 ⟨h.1,h.2.imp id λ⟨b,c,rest,h1,h2,h3,_,h5⟩=>⟨b,c,h1,h2,h3,rest,h5⟩⟩
theorem own.rd {B:Nat} {e:TypeId} {sz n:Nat} {v:Value} {cs:List Value} (h:own M B e sz v n cs):sR F M sz v n cs:=by
 refine ⟨h.1,?_⟩
 rcases h.2 with ⟨rfl,rfl⟩ | ⟨b,c,rest,rfl,h2,h3,h4,h5⟩
 ·exact .inl ⟨_,_,rfl,rfl⟩
 ·exact .inr ⟨b,0,c,cs++rest,rfl,h2,.inr ⟨_,_,h5⟩,by rw [List.drop_zero,← h.1,List.take_left]⟩
theorem own.form {B:Nat} {e:TypeId} {sz n:Nat} {v:Value} {cs:List Value} (h:own M B e sz v n cs):∃ a c,v=.slice a n c∧n≤c:=by
 rcases h.2 with ⟨rfl,rfl⟩ | ⟨b,c,rest,rfl,h2,h3,h4,h5⟩
 ·exact ⟨_,_,rfl,Nat.le_refl _⟩
 ·exact ⟨_,_,rfl,h2⟩
theorem own.one {B:Nat} {e:TypeId} {sz n:Nat} {v:Value} {cs:List Value} (h:own M B e sz v n cs):v.oneCell'=true:=by
 obtain ⟨a,c,rfl,_⟩:=h.form; rfl
theorem own.ge {B:Nat} {e:TypeId} {sz n:Nat} {v:Value} {cs:List Value} (h:own M B e sz v n cs):∀ q,v.ownBlock=some q -> B≤q∧M q≠none:=by
 rcases h.2 with ⟨rfl,rfl⟩ | ⟨b,c,rest,rfl,h2,h3,h4,h5⟩
 ·intro q hq; simp [Value.ownBlock] at hq
 ·intro q hq; simp [Value.ownBlock] at hq; subst hq; exact ⟨h4,by rw [h5]; simp⟩
theorem own.lt {B:Nat} {e:TypeId} {sz n:Nat} {v:Value} {cs:List Value} (h:own M B e sz v n cs) (hm:za6 M N):∀ q,v.ownBlock=some q -> q<N:=λq hq=>by
 have := (h.ge q hq).2;cases hq:M q with
 | none=>exact absurd hq this
 | some c=>exact hm.lt hq
theorem own.keep {B B':Nat} {e:TypeId} {sz n:Nat} {v:Value} {cs:List Value} (h:own M B e sz v n cs) (hM:∀ q,v.ownBlock=some q -> M' q=M q) (hB:B'≤B:=by omega):own M' B' e sz v n cs :=
 ⟨h.1,h.2.imp id λ⟨b,c,rest,h1,h2,h3,h4,h5⟩=>⟨b,c,rest,h1,h2,h3,by omega,(hM b (by rw [h1]; rfl)).trans h5⟩⟩
def fr (M M':Nat -> Option zah) (N:Nat) (v v':Value):Prop:=∀ q,v.ownBlock≠some q -> q<N -> M' q=M q∧v'.ownBlock≠some q
theorem fr.trans {M'':Nat -> Option zah} {v v' v'':Value} (h:fr M M' N v v') (k:fr M' M'' N' v' v'') (hN:N≤N'):fr M M'' N v v'':=λq hq hl=>
 ⟨((k q (h q hq hl).2 (by omega)).1).trans (h q hq hl).1,(k q (h q hq hl).2 (by omega)).2⟩
theorem fr.refl {v:Value}:fr M M N v v:=λq hq _=>⟨rfl,hq⟩
theorem own.app {B:Nat} {e:TypeId} {sz bytes n m:Nat} {v x:Value} {cs news:List Value} (h:own M B e sz v n cs) (hm:za6 M N) (hB:B≤N) (hx:sR F M sz x m news) (h1:∀ c∈news,c.oneCell'=true) (hb:(n+m)*bytes≤140737488355328) (hmx:n+m≤maxLen)
  (k:∀ v' M' N',own M' B e sz v' (n+m) (cs++news) -> fr M M' N v v' -> N≤N' -> za6 M' N' -> K v' ⟨F,M',N'⟩):zek e sz bytes v x K ⟨F,M,N⟩:=by
 have hlen:(cs++news).length=(n+m)*sz:=by rw [List.length_append,h.1,hx.1,Nat.add_mul]
 refine ybz h.os hx.read h1 hb hmx (λhv h0=>?_) (λ_ b c hb hc hcm=>?_)
 ·subst hv; subst h0;have hn:news=[]:=List.eq_nil_of_length_eq_zero (by simpa using hx.1);subst hn
  have hn0:n=0:=by
   rcases h.2 with ⟨_,h⟩ | ⟨b,c,rest,h1,_⟩
   ·exact h
   ·cases h1
  subst hn0;exact k _ _ _ ⟨hlen,.inl ⟨rfl,rfl⟩⟩ fr.refl (Nat.le_refl _) hm
 ·have hlt:=h.lt hm;have hbB:B≤b:=by rcases hb with hb | hb; omega; exact (h.ge b hb).1
  have hfn:∀ q,zgg M v q=M q∨v.ownBlock=some q:=λq=>by
   by_cases hq:v.ownBlock=some q
   ·exact .inr hq
   ·exact .inl (zmi _ hq)
  refine k _ _ _ ⟨hlen,.inr ⟨b,c,[],rfl,hc,hcm,hbB,by rw [za2,List.append_nil]⟩⟩ (λq hq hqN=>?_) (Nat.le_max_left _ _) (λq hq=>?_)
  ·have hqb:q≠b:=by rcases hb with hb | hb; omega; exact λe=>hq (e ▸ hb)
   exact ⟨(za4 _ _ hqb).trans (zmi _ hq),by simp [Value.ownBlock]; omega⟩
  ·rw [za4 _ _ (by omega)]
   rcases hfn q with hf | hf
   ·rw [hf]; exact hm q (by omega)
   ·have := hlt q hf; omega
theorem ysf {a:Option Addr} {n c:Nat} {h:Hp} (k:K (.int .i64 n) h):pv (zac (.slice a n c)) K h:=⟨_,rfl,k⟩
theorem inV {e:EqK} {op:BinOp} {k:IntKind} {a b:Int} (hop:op≠.shl∧op≠.shr:=by decide):za1 e op (.int k a) (.int k b)=zfr op k a b:=by
 cases op<;>simp_all [za1]
theorem zkz {e:EqK} {a b:Nat} {h:Hp} (h1:b≤a) (h2:a≤9223372036854775807) (k:K (.int .i64 ((a - b:Nat):Int)) h):pv (za1 e .sub (.int .i64 a) (.int .i64 b)) K h :=
 zcz (by omega) (by omega) (by rw [← Int.ofNat_sub h1]; exact k)
theorem zkc {e:EqK} {a b:Nat} {h:Hp} (h2:a+b≤9223372036854775807) (k:K (.int .i64 ((a+b:Nat):Int)) h):pv (za1 e .add (.int .i64 a) (.int .i64 b)) K h :=
 zmj (by omega) (by omega) (by rw [← Int.natCast_add]; exact k)
theorem yj7 {x:Int} (h0:0≤x) (h1:x<18446744073709551616):IntKind.u64.wrap x=x:=by
 unfold IntKind.wrap
 simp [IntKind.bits,IntKind.signed]
 omega
theorem yxy {e:EqK} {a b:Nat} {h:Hp} (h2:a*b<18446744073709551616) (k:K (.int .u64 ((a*b:Nat):Int)) h):pv (za1 e .mul (.int .u64 a) (.int .u64 b)) K h :=
 ⟨_,by rw [inV]; rfl,by rw [← Int.natCast_mul,yj7 (by omega) (by omega)]; exact k⟩
theorem zas {α:Type} (f:Nat -> Option α) (b:Nat) (x y:Option α):upd (upd f b x) b y=upd f b y:=by funext q; simp only [upd]; split<;>rfl
noncomputable def zh3 (M:Nat -> Option zah) (p:Nat -> Prop):Nat -> Option zah:=λq=>open Classical in if p q then M q else none
theorem zfi {p:Nat -> Prop} {q:Nat} (h:p q):zh3 M p q=M q:=if_pos h
theorem yi2 (M:Nat -> Option zah) (p:Nat -> Prop):zf1 (zh3 M p) M:=λk c h=>by
 unfold zh3 at h
 split at h
 ·exact h
 ·cases h
theorem zgx {p:Nat -> Prop} (h:za6 M N):za6 (zh3 M p) N:=λk hk=>by
 unfold zh3
 split
 ·exact h k hk
 ·rfl
def yz5 (N:Nat) (v:Value) (q:Nat):Prop:=q<N∨v.ownBlock=some q
theorem yv9 {A:zae -> Hp -> Prop}:gdK (.bool true) true A K=A K:=by funext h; unfold gdK; rw [if_pos (by simp [isB])]
theorem ywm {A:zae -> Hp -> Prop}:gdK (.bool false) false A K=A K:=by funext h; unfold gdK; rw [if_pos (by simp [isB])]
theorem ytj {A:zae -> Hp -> Prop}:gdK (.bool true) false A K=K undef:=by funext h; unfold gdK; rw [if_neg (by simp [isB])]
theorem yyk {A:zae -> Hp -> Prop}:gdK (.bool false) true A K=K undef:=by funext h; unfold gdK; rw [if_neg (by simp [isB])]
theorem pvS {v:Value}:pv (some v) K=K v:=by funext h; exact propext ⟨λ⟨u,h1,h2⟩=>by cases h1; exact h2,λh=>⟨_,rfl,h⟩⟩
theorem yst {a b:Value}:zad (.bool true) a b=some a:=rfl
theorem yss {a b:Value}:zad (.bool false) a b=some b:=rfl
theorem faP {b o off:Nat}:faV off (.pointer (some ⟨b,o,none⟩))=some (.pointer (some ⟨b,o+off,none⟩)):=rfl
theorem yuy {a:Option Addr} {n c:Nat}:zac (.slice a n c)=some (.int .i64 n):=rfl
theorem yuj {a:Option Addr} {n c:Nat}:zk1 (.slice a n c)=some (.int .i64 c):=rfl
theorem ywj {a:Addr}:zai (.pointer (some a))=some (.pointer (some a)):=rfl
theorem exA {a:Value} {l:List Value}:exV 0 (.tuple ⟨a::l⟩)=some a:=rfl
theorem exB {a b:Value} {l:List Value}:exV 1 (.tuple ⟨a::b::l⟩)=some b:=rfl
theorem exC {a b c:Value} {l:List Value}:exV 2 (.tuple ⟨a::b::c::l⟩)=some c:=rfl
theorem yva {b:Bool}:unV .not (.bool b)=some (.bool !b):=rfl
theorem yul {A B:Hp -> Prop}:cnd (.bool true) A B=A:=by funext h; exact propext ⟨λ⟨t,h1,h2⟩=>by cases h1; simpa using h2,λh=>⟨true,rfl,by simpa using h⟩⟩
theorem yyh {A B:Hp -> Prop}:cnd (.bool false) A B=B:=by funext h; exact propext ⟨λ⟨t,h1,h2⟩=>by cases h1; simpa using h2,λh=>⟨false,rfl,by simpa using h⟩⟩
theorem sS:(∀ (A:zae -> Hp -> Prop) (K:zae),gdK (.bool true) true A K=A K)∧(∀ (A:zae -> Hp -> Prop) (K:zae),gdK (.bool false) false A K=A K)∧(∀ (A:zae -> Hp -> Prop) (K:zae),gdK (.bool true) false A K=K undef)∧(∀ (A:zae -> Hp -> Prop) (K:zae),gdK (.bool false) true A K=K undef) ∧
  (∀ (v:Value) (K:zae),pv (some v) K=K v)∧(∀ (a b:Value),zad (.bool true) a b=some a)∧(∀ (a b:Value),zad (.bool false) a b=some b)∧(∀ (b o off:Nat),faV off (.pointer (some ⟨b,o,none⟩))=some (.pointer (some ⟨b,o+off,none⟩))) ∧
  (∀ (a:Option Addr) (n c:Nat),zac (.slice a n c)=some (.int .i64 n))∧(∀ (a:Option Addr) (n c:Nat),zk1 (.slice a n c)=some (.int .i64 c))∧(∀ (a:Addr),zai (.pointer (some a))=some (.pointer (some a))) ∧
  (∀ (a:Value) (l:List Value),exV 0 (.tuple ⟨a::l⟩)=some a)∧(∀ (a b:Value) (l:List Value),exV 1 (.tuple ⟨a::b::l⟩)=some b)∧(∀ (a b c:Value) (l:List Value),exV 2 (.tuple ⟨a::b::c::l⟩)=some c) ∧
  (∀ (b:Bool),unV .not (.bool b)=some (.bool !b))∧(∀ (A B:Hp -> Prop),cnd (.bool true) A B=A)∧(∀ (A B:Hp -> Prop),cnd (.bool false) A B=B)∧((!true)=false)∧((!false)=true)∧(∀ n:Nat,0+n=n)∧(∀ n:Nat,n+0=n) :=
 ⟨λ_ _=>yv9,λ_ _=>ywm,λ_ _=>ytj,λ_ _=>yyk,λ_ _=>pvS,λ_ _=>yst,λ_ _=>yss,λ_ _ _=>faP,λ_ _ _=>yuy,λ_ _ _=>yuj,λ_=>ywj,λ_ _=>exA,λ_ _ _=>exB,λ_ _ _ _=>exC,λ_=>yva,λ_ _=>yul,λ_ _=>yyh,Bool.not_true,Bool.not_false,Nat.zero_add,Nat.add_zero⟩
def dig (d:Nat):Int:=if d<10 then 48+d else 87+d
def num (u:Nat):List Int:=if h:u<36 then [dig u] else num (u/36)++[dig (u%36)]
termination_by u
decreasing_by omega
def txt (i:Int):List Int:=if i<0 then 45::num i.natAbs else num i.natAbs
def text (l:List Int):List Int:=l.flatMap (λv=>txt v++[32])
def ysh (c:Int):Nat:=if c<58 then (c - 48).toNat else (c - 87).toNat
def val (l:List Int):Nat:=l.foldl (λa c=>a*36+ysh c) 0
theorem yo4 (k:Nat):∀ u,u<36 ^ (k+1) -> (num u).length≤k+1:=by
 induction k with
 | zero=>intro u h; rw [num,dif_pos (by simpa using h)]; simp
 | succ k ih=>
  intro u h;rw [num]
  split
  ·simp
  ·have := ih (u/36) (by rw [Nat.div_lt_iff_lt_mul (by decide)]; rw [Nat.pow_succ] at h; exact h)
   simp; omega
theorem yox (u:Nat):0<(num u).length:=by
 rw [num]; split<;>simp
def bts (l:List Int):List Value:=l.map (.int .u8)
theorem zu8 {l:List Value} {i:Nat} (h:i<l.length) (x:Value):zb3 l i [x]=l.set i x:=by
 rw [zrr (by simp; omega),ztt]
structure fbS (u:Nat) (s:Nat×List Int) (l:List Value):Prop where
 len:l.length=65
 num:num u=A.num s.1++s.2
 tail:l.drop (65 - s.2.length)=bts s.2
 room:u<18446744073709551616
 lt:s.1<18446744073709551616
theorem fbS.short {u:Nat} {s:Nat×List Int} {l:List Value} (h:fbS u s l):s.2.length≤12:=by
 have h1:=yo4 12 u (by have := h.room; omega);have h2:=congrArg List.length h.num;have h3:=yox s.1
 simp at h2; omega
def qbl (F:Nat -> Option (List Value)) (M:Nat -> Option zah) (N B n:Nat) (v:Value) (cs out:List Value) (K:zae):Prop :=
 ∀ v' M' N',own M' B 5 1 v' (n+out.length) (cs++out) -> fr M M' N v v' -> N≤N' -> za6 M' N' -> (Hp.mk F M' N').wf -> K v' ⟨F,M',N'⟩
def i64 (x:Int):Prop:=-9223372036854775808≤x∧x≤9223372036854775807
def yqc (k:List Int):ByteArray:=⟨((text k).map (λn=>UInt8.ofNat (Int.toNat n))).toArray⟩
def zoh (a b:Int):Int:=if a<b then -1 else if a>b then 1 else 0
theorem yn6 {a:Int} {h:Hp} (k:K (.bool false) h):cF 340 #[.int .i64 a] K E h:=by
 obtain ⟨F,M,N⟩:=h;refine za5 mixed Tryz.func340 (by kernel_rfl) (yv8 _ E _) (λhw=>?_);exact zcv rfl λhc=>⟨_,za0 hc,λ_=>k⟩
theorem zyt {a b:Int} {h:Hp} (k:K (.int .i64 (zoh a b)) h):cF 335 #[.int .i64 a,.int .i64 b] K E h:=by
 obtain ⟨F,M,N⟩:=h;refine za5 mixed Tryz.func335 (by kernel_rfl) (ytp _ E _ _) (λhw=>?_);refine yn6 (yn6 (zan (zan ?_)));refine zau (λh1=>zav λhc=>⟨_,za0 hc,λ_=>?_⟩) (λh1=>zan (zby (λh2=>zav λhc=>⟨_,za0 hc,λ_=>?_⟩) (λh2=>zan λhc=>⟨_,za0 hc,λ_=>?_⟩)))
 ·unfold zoh at k; rw [if_pos h1] at k; exact k
 ·unfold zoh at k; rw [if_neg h1,if_pos h2] at k; exact k
 ·unfold zoh at k; rw [if_neg h1,if_neg h2] at k; exact k
theorem yop {a b:List Int} {i:Nat} (ha:i<a.length) (hb:i<b.length):zc7 (a.drop i) (b.drop i)=if zoh a[i] b[i]=0 then zc7 (a.drop (i+1)) (b.drop (i+1)) else zoh a[i] b[i]:=by
 rw [List.drop_eq_getElem_cons ha,List.drop_eq_getElem_cons hb];simp only [zc7,zoh]
 split
 ·rw [if_neg (by decide)]
 ·split
  ·rw [if_neg (by decide)]
  ·rw [if_pos rfl]
theorem ylo {a b:List Int} {i:Nat} (h:i=min a.length b.length):zc7 (a.drop i) (b.drop i)=zoh a.length b.length:=by
 unfold zoh
 rcases Nat.lt_trichotomy a.length b.length with hl | hl | hl
 ·rw [if_pos (by omega),List.drop_eq_nil_of_le (by omega),List.drop_eq_getElem_cons (by omega)]; rfl
 ·rw [if_neg (by omega),if_neg (by omega),List.drop_eq_nil_of_le (by omega),List.drop_eq_nil_of_le (by omega)]; rfl
 ·rw [if_neg (by omega),if_pos (by omega),show b.drop i=[] from List.drop_eq_nil_of_le (by omega),List.drop_eq_getElem_cons (by omega)]; rfl
theorem yol {v:Value} {l:List Int} (hv:sF F 1 v l.length (ic l)) {i:Nat} (hi:i<l.length) :
  ∃ b o c cs,v=.slice (some ⟨b,o,none⟩) l.length c∧F b=some cs∧cs[o+i*1]?=some (.int .i64 l[i]):=by
 obtain ⟨b,o,c,hab,cs,hF,_,hcs⟩:=hv.at (by decide) hi;exact ⟨b,o,c,cs,hab,hF,by rw [Nat.mul_one,hcs i (by omega)]; simp [ic,hi]⟩
theorem zes {v:Value} {l:List Int} (hv:sF F 1 v l.length (ic l)) {i:Nat} {K:Value -> zae} (hi:i<l.length) (k:∀ p,K p (.int .i64 l[i]) ⟨F,M,N⟩) :
  pv (iaV none 1 v (.int .i64 (i:Nat))) (λp=>ld false 1 p (K p)) ⟨F,M,N⟩:=by
 obtain ⟨b,o,c,cs,rfl,hF,hc⟩:=yol hv hi;exact zd0 hi (zg3 (zb6 (zif hF) hc) (k _))
theorem zb1 {v:Value} {sz n:Nat} {cs:List Value} (hv:sF F sz v n cs) {h:Hp} (k:K (.int .i64 n) h):pv (zac v) K h:=by
 obtain ⟨a,c,rfl,_⟩:=hv.form;exact ysf k
theorem ypu {u v:Value} {a b:List Int} (hu:sF F 1 u a.length (ic a)) (hv:sF F 1 v b.length (ic b)) (hla:a.length≤9223372036854775807) (k:K (.int .i64 (zc7 a b)) ⟨F,M,N⟩) :
  cF 323 #[u,v] K E ⟨F,M,N⟩:=by
 refine za5 mixed Tryz.func323 (by kernel_rfl) (yty _ E _ _) (λhw=>?_);refine zb1 hu (zb1 hv ?_)
 have e:mm false (.int .i64 a.length) (.int .i64 b.length)=some (.int .i64 ((min a.length b.length:Nat):Int)):=by
  simp only [mm]
  congr 2
  simp only [Bool.false_eq_true,if_false]
  split<;>omega
 refine zab e ?_
 refine zwt (σ:=Nat) (λi=>.int .i64 (i:Nat)) (λi h=>h=⟨F,M,N⟩∧i≤min a.length b.length∧zc7 a b=zc7 (a.drop i) (b.drop i)) (λi=>min a.length b.length - i) 0 rfl
  (λhw1=>⟨_,za0 hw1,rfl,Nat.zero_le _,rfl⟩) (λk1 i j h1 hI hw1 next=>?_)
 rw [zy1];obtain ⟨rfl,hi,he⟩:=hI;refine zau (λhlt=>?_) (λhge=>?_)
 ·have h1:i<a.length:=by omega
  have h2:i<b.length:=by omega
  refine zav (zes hu h1 λp=>zes hv h2 λp'=>zyt ?_);rw [yop h1 h2] at he;refine zht (λhn=>?_) (λhn=>?_)
  ·refine zav λhc=>⟨_,za0 hc,λ_=>?_⟩;rw [if_neg hn] at he; rw [← he]; exact k
  ·refine zan (zaq (by omega) ?_);rw [if_pos (by omega)] at he;exact next (i+1) _ _ (by omega) (λhw2=>⟨_,za0 hw2,rfl,by omega,he⟩)
 ·refine zan ?_;refine zb1 hu (zb1 hv (zyt λhc=>⟨_,za0 hc,λ_=>?_⟩));rw [ylo (by omega)] at he;rw [← he]; exact k
theorem yt3 {u v:Value} {a b:List Int} (hu:sF F 1 u a.length (ic a)) (hv:sF F 1 v b.length (ic b)) (hla:a.length≤9223372036854775807) (k:K (.int .i64 (zc7 a b)) ⟨F,M,N⟩) :
  cF 312 #[u,v] K E ⟨F,M,N⟩:=by
 refine za5 mixed Tryz.func312 (by kernel_rfl) (yxm _ E _ _) (λhw=>?_);exact ypu hu hv hla λhc=>⟨_,za0 hc,λ_=>k⟩
def zin (F:Nat -> Option (List Value)) (cs:List Value) (r:Rw):Prop:=∃ v,cs=v::r.2.cs∧sF F 1 v r.1.length (ic r.1)∧r.1.length≤140737488351232
theorem zin.mono {cs:List Value} {r:Rw} (h:zin F cs r) (hF:za9 F F'):zin F' cs r:=let ⟨v,h1,h2,h3⟩:=h; ⟨v,h1,h2.mono hF,h3⟩
theorem zin.one {cs:List Value} {r:Rw} (h:zin F cs r):cs.length=5∧∀ c∈cs,c.oneCell'=true:=by
 obtain ⟨v,rfl,hv,_⟩:=h;obtain ⟨a,c,rfl,_⟩:=hv.form;exact ⟨rfl,List.all_eq_true.1 rfl⟩
open Go.MapKept
def zl2 (es:Array MapEntry) (t:List Rw):Prop:=es.toList.length=t.length∧∀ (i:Nat) (x:MapEntry),es.toList[i]?=some x -> ∃ r,t[i]?=some r∧x.key=.string (yqc r.1)∧x.val=.int .i64 (i:Nat)
theorem zl2.keys {es:Array MapEntry} {t:List Rw} (h:zl2 es t):∀ x∈es.toList,IsKey .string x.key:=λx hx=>by
 obtain ⟨i,hi,rfl⟩:=List.mem_iff_getElem.1 hx;obtain ⟨r,_,h2,_⟩:=h.2 i _ (List.getElem?_eq_getElem hi);rw [h2]; trivial
theorem zl2.push {es:Array MapEntry} {t:List Rw} (h:zl2 es t) (r:Rw) (ck:Nat):zl2 (es.push ⟨.string (yqc r.1),.int .i64 (t.length:Nat),ck⟩) (t++[r]):=by
 refine ⟨by simp [← h.1],λi x hx=>?_⟩;rw [Array.toList_push] at hx
 rcases Nat.lt_or_ge i es.toList.length with hi | hi
 ·rw [List.getElem?_append_left hi] at hx;obtain ⟨q,h1,h2⟩:=h.2 i x hx;exact ⟨q,by rw [List.getElem?_append_left (by rw [← h.1]; exact hi)]; exact h1,h2⟩
 ·rw [List.getElem?_append_right hi] at hx
  have h0:i - es.toList.length=0:=by
   have := (List.getElem?_eq_some_iff.1 hx).1
   simp at this; simpa using this
  rw [h0] at hx;simp only [List.getElem?_cons_zero,Option.some.injEq] at hx;have hit:i=t.length:=by rw [← h.1]; omega
  subst hx;exact ⟨r,by rw [hit]; simp,rfl,by rw [hit]⟩
theorem zl2.set {es:Array MapEntry} {t:List Rw} (h:zl2 es t) {i:Nat} {k:List Int} {c c':CE} (ht:t[i]?=some (k,c)):zl2 es (t.set i (k,c')):=by
 refine ⟨by simp [← h.1],λj x hx=>?_⟩;obtain ⟨q,h1,h2,h3⟩:=h.2 j x hx
 by_cases hj:i=j
 ·subst hj;rw [ht] at h1; cases h1;exact ⟨(k,c'),by rw [List.getElem?_set_self (List.getElem?_eq_some_iff.1 ht).1],h2,h3⟩
 ·exact ⟨q,by rw [List.getElem?_set_ne hj]; exact h1,h2,h3⟩
structure zng (F:Nat -> Option (List Value)) (M:Nat -> Option zah) (B g bm:Nat) (v:Value) (rows:List (List Value)) (t:List Rw):Prop where
 gg:M g=some (.cells 364 [v,.map (some bm)] 2)
 gB:B≤g
 bB:B≤bm
 mp:∃ es clock,M bm=some (.obj (.map es clock))∧zl2 es t
 oo:own M B 228 5 v t.length rows.flatten
 rr:zaf (zin F) 5 rows t
 nd:nodup t
theorem zng.vg {B g bm:Nat} {v:Value} {rows:List (List Value)} {t:List Rw} (h:zng F M B g bm v rows t):v.ownBlock≠some g∧v.ownBlock≠some bm:=by
 obtain ⟨es,clock,hm,_⟩:=h.mp
 rcases h.oo.2 with ⟨rfl,_⟩ | ⟨b,c,rest,rfl,_,_,_,h5⟩
 ·simp [Value.ownBlock]
 ·simp only [Value.ownBlock,if_true,ne_eq,Option.some.injEq];refine ⟨λe=>?_,λe=>?_⟩
  ·have e':b=g:=by simpa using e
   subst e'; rw [h.gg] at h5; injection h5 with h5; injection h5 with h5; cases h5
  ·have e':b=bm:=by simpa using e
   subst e'; rw [hm] at h5; cases h5
theorem zng.keep {B g bm:Nat} {v:Value} {rows:List (List Value)} {t:List Rw} (h:zng F M B g bm v rows t) (hF:za9 F F') (hM:∀ q,M q≠none -> M' q=M q):zng F' M' B g bm v rows t:=by
 obtain ⟨es,clock,hm,ho⟩:=h.mp;exact ⟨(hM g (by rw [h.gg]; simp)).trans h.gg,h.gB,h.bB,⟨es,clock,(hM bm (by rw [hm]; simp)).trans hm,ho⟩,h.oo.keep (λq hq=>hM q (h.oo.ge q hq).2) (Nat.le_refl _),h.rr.mono λr x hr=>hr.mono hF,h.nd⟩
open Go.MapKept
open Go.Sort hiding Below
theorem yny {sz:Nat} {rows:List (List Value)} (hl:∀ r∈rows,r.length=sz) {i j:Nat} {r:List Value} (hi:rows[i]?=some r) (hj:j<sz):rows.flatten[i*sz+j]?=r[j]?:=by
 have h:=zlv rows i r hl hi;rw [← h,List.getElem?_take,if_pos hj,List.getElem?_drop]
theorem yg8 {W w':World} (h:Below W.heap.size W w') (hd:W.drawn≤w'.drawn):∃ q os',w'=grow (W.drewN q) os':=by
 refine ⟨w'.drawn - W.drawn,w'.heap.extract W.heap.size w'.heap.size,?_⟩
 have hh:w'.heap=W.heap++w'.heap.extract W.heap.size w'.heap.size:=by
  apply Array.ext_getElem?
  intro k;have hs:=h.size;rw [Array.getElem?_append]
  split
  ·rename_i hk; exact h.block k hk
  ·rename_i hk
   rw [Array.getElem?_extract]
   split
   ·rw [show W.heap.size+(k - W.heap.size)=k by omega]
   ·exact Array.getElem?_eq_none (by omega)
 obtain ⟨hp,tp,dr,os,out⟩:=w';simp only at hh hd;have h1:=h.os; have h2:=h.tape; have h3:=h.output;simp only at h1 h2 h3;unfold grow World.drewN;subst h1 h2 h3;rw [← hh]
 congr 1
 simp only; omega
theorem ykk {W:World} (hF:∀ bk cs,F bk=some cs -> ∃ arr e z,W.heap[bk]?=some (.cells arr e z)∧cs <+: arr.toList) {sz m:Nat} {v:Value} {cells:List Value} (h:sF F sz v m cells):sF (F0 W) sz v m cells:=by
 refine ⟨h.1,h.2.imp id λ⟨b,o,c,cs,h1,h2,h3,h4⟩=>?_⟩;obtain ⟨arr,e,z,h5,h6⟩:=hF b cs h3;refine ⟨b,o,c,arr.toList,h1,h2,by simp [F0,h5],?_⟩;obtain ⟨t,ht⟩:=h6;rw [← ht];have hl:=congrArg List.length h4;rw [List.length_take,List.length_drop,h.1] at hl
 rcases Nat.eq_zero_or_pos (m*sz) with h0 | h0
 ·rw [← h4,h0]; simp
 ·rw [List.drop_append_of_le_length (by omega),List.take_append_of_le_length (by rw [List.length_drop]; omega)]; exact h4
theorem yiy {cs ds:List Value} {r q:Rw} (hr:zin F cs r) (hq:zin F ds q) (k:∀ N',K (.int .i64 (zc7 r.1 q.1)) ⟨F,M,N'⟩) :
  call Tryz.prog 278 #[.agg cs.toArray,.agg ds.toArray] K E ⟨F,M,N⟩:=by
 refine zj4 mixed Tryz.func278 (by kernel_rfl) (yxk _ E _ _) (λhw=>?_);have hm:=hw.m;obtain ⟨v,rfl,hv,hvl⟩:=hr;obtain ⟨u,rfl,hu,_⟩:=hq;refine zar (cs:=v::r.2.cs) (λb1 hb1=>?_);refine zar (cs:=u::q.2.cs) (λb2 hb2=>?_);refine zab rfl (ldM (v:=v) ?_);refine zab rfl (ldM (v:=u) ?_);refine yt3 hv hu (by omega) λhc=>?_;exact ⟨⟨F,M,b2+1⟩,zm0 hc,λhw'=>k _⟩
abbrev zfp (F:Nat -> Option (List Value)):={ x:List Value×Rw // zin F x.1 x.2 }
theorem yiq:∀ (rows:List (List Value)) (t:List Rw),zaf (zin F) 5 rows t -> ∃ d:List (zfp F),d.map (·.1.1)=rows∧d.map (·.1.2)=t
 | [],[],_=>⟨[],rfl,rfl⟩
 | [],_::_,h=>by have := h.all.1; simp at this
 | _::_,[],h=>by have := h.all.1; simp at this
 | r::rows,x::t,h=>by
  obtain ⟨d,h1,h2⟩:=yiq rows t ⟨λr hr=>h.len r (by simp [hr]),λr hr=>h.one r (by simp [hr]),by have := h.all.1; simp at this; exact this,λi r x hr hx=>h.all.2 (i+1) r x (by simpa using hr) (by simpa using hx)⟩;exact ⟨⟨(r,x),h.all.2 0 r x rfl rfl⟩::d,by simp [h1],by simp [h2]⟩
theorem ybc (d:List (zfp F)):zaf (zin F) 5 (d.map (·.1.1)) (d.map (·.1.2)):=by
 refine ⟨λr hr=>?_,λr hr=>?_,by simp,λi r x hr hx=>?_⟩
 ·obtain ⟨x,_,rfl⟩:=List.mem_map.1 hr; exact x.2.one.1
 ·obtain ⟨x,_,rfl⟩:=List.mem_map.1 hr; exact x.2.one.2
 ·rw [List.getElem?_map] at hr hx;cases hd:d[i]? with
  | none=>rw [hd] at hr; simp at hr
  | some y=>rw [hd] at hr hx; simp at hr hx; subst hr; subst hx; exact y.2
theorem ynn:SWO (ltOf λ(x y:zfp F)=>zc7 x.1.2.1 y.1.2.1):=by
 refine ⟨λx=>by simp [ltOf,zhe],λx y z h1 h2=>?_,λx y z h1 h2=>?_⟩
 ·simp only [ltOf,decide_eq_true_eq] at h1 h2 ⊢;exact zky h1 h2
 ·simp only [ltOf,decide_eq_false_iff_not] at h1 h2 ⊢;intro h3;have e1:=zk6 x.1.2.1 y.1.2.1;have e2:=zk6 y.1.2.1 z.1.2.1
  rcases Int.lt_or_eq_of_le (show 0≤zc7 x.1.2.1 y.1.2.1 by omega) with h4 | h4
  ·have h5:zc7 y.1.2.1 x.1.2.1<0:=by omega
   have := zky h5 h3;omega
  ·have := zni h4.symm;rw [this] at h3;omega
open Go.Sort hiding Below
section
variable {α:Type} [Inhabited α] {enc:α -> List Value} {kk n off:Nat} {w:World} {blk q:Nat} {d:Array α} {os:Array Obj}
theorem ya9 (hq:q≠blk) (hl:q<w.heap.size):(sortWorldK enc kk w blk off n d os).heap[q]?=w.heap[q]?:=by
 unfold sortWorldK putRowK putRow mapBlock grow Sort.ahead;simp only;rw [Array.getElem?_append_left (by simpa using hl),Array.getElem?_modify,if_neg (λe=>hq e.symm)]
theorem yt9 {arr:Array Value} {e:TypeId} {z:Nat×Nat} (h:w.heap[blk]?=some (.cells arr e z)):(sortWorldK enc kk w blk off n d os).heap[blk]?=some (.cells (putCells id off (flatK enc kk d) arr) e z):=by
 have hl:blk<w.heap.size:=(Array.getElem?_eq_some_iff.1 h).1;unfold sortWorldK putRowK putRow mapBlock grow Sort.ahead;simp only;rw [Array.getElem?_append_left (by simpa using hl),Array.getElem?_modify,if_pos rfl,h]
 rfl
theorem yef:w.heap.size≤(sortWorldK enc kk w blk off n d os).heap.size:=by
 unfold sortWorldK putRowK putRow mapBlock grow Sort.ahead
 simp
end
theorem zu5 (d:List (zfp F)) [Inhabited (zfp F)] (j:Nat) (hj:j<d.length*5):(flatK (λx:zfp F=>x.1.1) 5 d.toArray)[j]?=(d.map (·.1.1)).flatten[j]?:=by
 have h5:j/5<d.length:=by omega
 have hz:j<d.toArray.size*5:=by simpa using hj
 have e1:(flatK (λx:zfp F=>x.1.1) 5 d.toArray)[j]?=some ((flatK (λx:zfp F=>x.1.1) 5 d.toArray)[j]!):=by
  rw [getElem!_def,Array.getElem?_eq_getElem (by simpa using hj)]
 rw [e1,get_flatK _ _ _ _ hz];have hr:=ybc d;have hg:(d.map (·.1.1))[j/5]?=some (d[j/5].1.1):=by simp [h5]
 have h6:=yny hr.len hg (Nat.mod_lt j (by decide:0<5));rw [show j/5*5+j%5=j by omega] at h6;rw [h6];have e2:d.toArray[j/5]! = d[j/5]:=by rw [getElem!_def]; simp [h5]
 rw [e2];have hl:(d[j/5].1.1).length=5:=d[j/5].2.one.1;rw [List.getElem?_eq_getElem (by omega),getElem!_def,List.getElem?_eq_getElem (by omega)]
theorem ybf (d:List (zfp F)) [Inhabited (zfp F)]:(flatK (λx:zfp F=>x.1.1) 5 d.toArray).toList=(d.map (·.1.1)).flatten:=by
 have hl:=zdm (d.map (·.1.1)) (ybc d).len
 apply List.ext_getElem?
 intro j;rw [Array.getElem?_toList]
 rcases Nat.lt_or_ge j (d.length*5) with h | h
 ·exact zu5 d j h
 ·rw [Array.getElem?_eq_none (by simpa using h),List.getElem?_eq_none (by rw [hl]; simpa using h)]
theorem yg0 {a b rest:List Value} {B arr:Array Value} (hb:B.toList=b) (hab:a.length=b.length) (h:a++rest <+: arr.toList):b++rest <+: (putCells id 0 B arr).toList:=by
 have hsz:B.size=b.length:=by rw [← hb]; simp
 obtain ⟨t,ht⟩:=h;have hlen:=congrArg List.length ht;simp only [List.length_append,Array.length_toList] at hlen;refine ⟨t,?_⟩
 apply List.ext_getElem?
 intro i;refine Eq.trans ?_ (Array.getElem?_toList).symm;unfold putCells;rw [Array.getElem?_mapIdx]
 rcases Nat.lt_or_ge i b.length with hi | hi
 ·rw [List.append_assoc,List.getElem?_append_left hi,Array.getElem?_eq_getElem (by omega)];simp only [Option.map_some];rw [if_pos ⟨Nat.zero_le _,by omega⟩];have:B[i]?=b[i]?:=by rw [← hb,Array.getElem?_toList]
  rw [← this,getElem!_def,Array.getElem?_eq_getElem (by omega)]
  simp [hsz,hi]
 ·have e:arr[i]?=(a++rest++t)[i]?:=by rw [ht,Array.getElem?_toList]
  have e2:(a++rest++t)[i]?=(rest++t)[i - b.length]?:=by rw [List.append_assoc,List.getElem?_append_right (by omega),hab]
  rw [List.append_assoc,List.getElem?_append_right hi,e,e2];cases hx:(rest++t)[i - b.length]? with
  | none=>rfl
  | some v=>simp only [Option.map_some]; rw [if_neg (by omega)]
theorem zw6 {α:Type} {R:List Value -> α -> Prop} {sz:Nat} {v:Value} {l:List α} {rows:List (List Value)} (hv:sF F sz v l.length rows.flatten) (hr:zaf R sz rows l) (hz:0<sz) {i:Nat} (hi:i<l.length) :
  ∃ b o c cs r,v=.slice (some ⟨b,o,none⟩) l.length c∧F b=some cs∧rows[i]?=some r∧R r l[i]∧r.length=sz∧(∀ x∈r,x.oneCell'=true)∧o+i*sz+sz≤cs.length∧(cs.drop (o+i*sz)).take sz=r∧∀ j,j<sz -> cs[o+i*sz+j]?=r[j]?:=by
 obtain ⟨b,o,c,hab,cs,hF,hle,hcs⟩:=hv.at hz hi;obtain ⟨r,h1,h2,h3,h4,h5⟩:=hr.get (List.getElem?_eq_getElem hi);have hfl:=hr.flen
 have hj:∀ j,j<sz -> cs[o+i*sz+j]?=r[j]?:=λj hj=>by
  rw [Nat.add_assoc,hcs (i*sz+j) (by rw [hfl] at h4; omega),← h3,List.getElem?_take,if_pos hj,List.getElem?_drop]
 refine ⟨b,o,c,cs,r,hab,hF,h1,h2,h5,hr.one r (List.mem_of_getElem? h1),by rw [hfl] at h4; omega,?_,hj⟩
 apply List.ext_getElem?
 intro j;rw [List.getElem?_take]
 split
 ·rename_i h; rw [List.getElem?_drop]; exact hj j h
 ·rw [List.getElem?_eq_none (by omega)]
theorem zie {α:Type} {R:List Value -> α -> Prop} {sz:Nat} {v:Value} {l:List α} {rows:List (List Value)} {K:Value -> zae} (hv:sF F sz v l.length rows.flatten) (hr:zaf R sz rows l) (hz:0<sz) {i:Nat} (hi:i<l.length)
  (k:∀ p r,rows[i]?=some r -> R r l[i] -> r.length=sz -> (∀ x∈r,x.oneCell'=true) -> K p (.agg r.toArray) ⟨F,M,N⟩):pv (iaV none sz v (.int .i64 (i:Nat))) (λp=>ld true sz p (K p)) ⟨F,M,N⟩:=by
 obtain ⟨b,o,c,cs,r,rfl,hF,hrr,hR,hl,h1,hle,ht,_⟩:=zw6 hv hr hz hi;exact zd0 hi (zg3 (yf5 (zif hF) hle ht) (k _ r hrr hR hl h1))
theorem zeo {α:Type} {R:List Value -> α -> Prop} {sz:Nat} {v:Value} {l:List α} {rows:List (List Value)} {K:Value -> Value -> zae} (hv:sF F sz v l.length rows.flatten) (hr:zaf R sz rows l) (hz:0<sz) {i:Nat} (hi:i<l.length) {off:Nat} (ho:off<sz)
  (k:∀ p q r x,R r l[i] -> r.length=sz -> r[off]?=some x -> K p q x ⟨F,M,N⟩):pv (iaV none sz v (.int .i64 (i:Nat))) (λp=>pv (faV off p) λq=>ld false 1 q (K p q)) ⟨F,M,N⟩:=by
 obtain ⟨b,o,c,cs,r,rfl,hF,_,hR,hl,h1,hle,ht,hj⟩:=zw6 hv hr hz hi;have hx:r[off]?=some (r[off]'(by omega)):=List.getElem?_eq_getElem _;exact zd0 hi (zab rfl (zg3 (zb6 (zif hF) ((hj off ho).trans hx)) (k _ _ r _ hR hl hx)))
def zpp (F:Nat -> Option (List Value)) (v:Value) (t:List Rw):Prop:=∃ rows,sF F 5 v t.length rows.flatten∧zaf (zin F) 5 rows t
theorem zpp.mono {v:Value} {t:List Rw} (h:zpp F v t) (hF:za9 F F'):zpp F' v t:=let ⟨rows,h1,h2⟩:=h; ⟨rows,h1.mono hF,h2.mono λ_ _ hr=>hr.mono hF⟩
theorem zpp.form {v:Value} {t:List Rw} (h:zpp F v t):∃ a c,v=.slice a t.length c:=let ⟨rows,h1,_⟩:=h; let ⟨a,c,h2,_⟩:=h1.form; ⟨a,c,h2⟩
theorem zpp.nil {c:Nat}:zpp F (.slice none 0 c) []:=⟨[],sF.nil _ _ _,zaf.nil _ _⟩
abbrev Fc:=List Int×Int
def zcr (F:Nat -> Option (List Value)) (cs:List Value) (f:Fc):Prop:=∃ v,cs=[v,.int .i64 f.2]∧sF F 1 v f.1.length (ic f.1)∧f.1.length≤140737488351232
theorem zcr.mono {cs:List Value} {f:Fc} (h:zcr F cs f) (hF:za9 F F'):zcr F' cs f:=let ⟨v,h1,h2,h3⟩:=h; ⟨v,h1,h2.mono hF,h3⟩
theorem zcr.one {cs:List Value} {r:Fc} (h:zcr F cs r):cs.length=2∧∀ c∈cs,c.oneCell'=true:=by
 obtain ⟨v,rfl,hv,_⟩:=h;obtain ⟨a,c,rfl,_⟩:=hv.form;exact ⟨rfl,List.all_eq_true.1 rfl⟩
def zbp (F:Nat -> Option (List Value)) (v:Value) (l:List Fc):Prop:=∃ rows,sF F 2 v l.length rows.flatten∧zaf (zcr F) 2 rows l
theorem zbp.mono {v:Value} {t:List Fc} (h:zbp F v t) (hF:za9 F F'):zbp F' v t:=let ⟨rows,h1,h2⟩:=h; ⟨rows,h1.mono hF,h2.mono λ_ _ hr=>hr.mono hF⟩
def okK (k:List Int):Prop:=k.length≤10000000000∧∀ x∈k,i64 x
def ofC (v:Int):CE:=⟨1,v,v,v⟩
theorem zdw (hm:za6 M N) (hk:∀ q,q<N -> M' q=M q) (hc:(Hp.mk F M' N').wf):(Hp.mk F M' N').wk ⟨zd5 F M' N,M,N'⟩:=yrc hm hk hc
theorem zok {α:Type} {R:List Value -> α -> Prop} {sz:Nat} {r1 r2:List (List Value)} {x1 x2:List α} (h1:zaf R sz r1 x1) (h2:zaf R sz r2 x2):zaf R sz (r1++r2) (x1++x2):=by
 refine ⟨λr hr=>?_,λr hr=>?_,by simp [h1.all.1,h2.all.1],λi r x hr hx=>?_⟩
 ·rcases List.mem_append.1 hr with h | h; exact h1.len r h; exact h2.len r h
 ·rcases List.mem_append.1 hr with h | h; exact h1.one r h; exact h2.one r h
 ·have hl:=h1.all.1
  rcases Nat.lt_or_ge i r1.length with hi | hi
  ·rw [List.getElem?_append_left hi] at hr;rw [List.getElem?_append_left (by omega)] at hx;exact h1.all.2 i r x hr hx
  ·rw [List.getElem?_append_right hi] at hr;rw [List.getElem?_append_right (by omega)] at hx;rw [← hl] at hx;exact h2.all.2 _ r x hr hx
theorem yh1 {α:Type} {R:List Value -> α -> Prop} {sz:Nat} {rows:List (List Value)} {xs:List α} (h:zaf R sz rows xs) (i:Nat):zaf R sz (rows.drop i) (xs.drop i) :=
 ⟨λr hr=>h.len r (List.mem_of_mem_drop hr),λr hr=>h.one r (List.mem_of_mem_drop hr),by simp [h.all.1],λj r x hr hx=>h.all.2 (i+j) r x (by simpa [List.getElem?_drop] using hr) (by simpa [List.getElem?_drop] using hx)⟩
theorem zyq {α:Type} {R:List Value -> α -> Prop} {sz:Nat} {rows:List (List Value)} {xs:List α} (h:zaf R sz rows xs) (i:Nat):zaf R sz (rows.take i) (xs.take i) :=
 ⟨λr hr=>h.len r (List.mem_of_mem_take hr),λr hr=>h.one r (List.mem_of_mem_take hr),by simp [h.all.1],λj r x hr hx=>by
  rw [List.getElem?_take] at hr hx
  split at hr
  ·rename_i hj; rw [if_pos hj] at hx; exact h.all.2 j r x hr hx
  ·cases hr⟩
theorem zpe {sz:Nat}:∀ (rows:List (List Value)) (i:Nat),(∀ r∈rows,r.length=sz) -> rows.flatten.drop (i*sz)=(rows.drop i).flatten
 | [],i,_=>by simp
 | x::rows,0,_=>by simp
 | x::rows,i+1,h=>by
  have hx:=h x (by simp);rw [List.flatten_cons,List.drop_succ_cons,← zpe rows i (λr hr=>h r (by simp [hr])),Nat.succ_mul,show i*sz+sz=x.length+i*sz by omega,List.drop_length_add_append]
end Go.Proofs.YtlhlhpgjnjjhnaaGreatDoor.A
namespace Go.Proofs
open Go.Shelf
def Tryz.sortRow_ren:Go.Shelf.Ren:=⟨fun | 6=>286 | 15=>155 | 14=>317 | 28=>214 | 29=>215 | 20=>326 | 21=>327 | 22=>328 | 23=>329 | 24=>330 | 25=>331 | 26=>332 | 27=>333 | 46=>337 | 47=>267 | 48=>268 | 49=>338 | 50=>339 | 57=>345 | n=>n,fun | 22=>174 | 24=>228 | 25=>358 | 3=>3 | 39=>253 | 0=>0 | 53=>38 | 55=>204 | 4=>4 | 46=>306 | 45=>305 | 50=>263 | 5=>5 | 9=>9 | 66=>347 | 70=>351 | 76=>374 | 77=>375 | n=>n,fun | n=>n⟩
theorem Tryz.sortRow:Go.Proofs.SlLaysF0.n6 Tryz.prog Tryz.sortRow_ren:={
 mixed:=by kernel_rfl
 f6:=⟨Tryz.f286.name,by decide,Tryz.func286.trans (congrArg some (by kernel_rfl))⟩
 f14:=⟨Tryz.f317.name,by decide,Tryz.func317.trans (congrArg some (by kernel_rfl))⟩
 f15:=Tryz.func155.trans (congrArg some (by kernel_rfl))
 f20:=⟨Tryz.f326.name,by decide,Tryz.func326.trans (congrArg some (by kernel_rfl))⟩
 f21:=⟨Tryz.f327.name,by decide,Tryz.func327.trans (congrArg some (by kernel_rfl))⟩
 f22:=⟨Tryz.f328.name,by decide,Tryz.func328.trans (congrArg some (by kernel_rfl))⟩
 f23:=⟨Tryz.f329.name,by decide,Tryz.func329.trans (congrArg some (by kernel_rfl))⟩
 f24:=⟨Tryz.f330.name,by decide,Tryz.func330.trans (congrArg some (by kernel_rfl))⟩
 f25:=⟨Tryz.f331.name,by decide,Tryz.func331.trans (congrArg some (by kernel_rfl))⟩
 f26:=⟨Tryz.f332.name,by decide,Tryz.func332.trans (congrArg some (by kernel_rfl))⟩
 f27:=⟨Tryz.f333.name,by decide,Tryz.func333.trans (congrArg some (by kernel_rfl))⟩
 f28:=Tryz.func214.trans (congrArg some (by kernel_rfl))
 f29:=Tryz.func215.trans (congrArg some (by kernel_rfl))
 f46:=⟨Tryz.f337.name,by decide,Tryz.func337.trans (congrArg some (by kernel_rfl))⟩
 f47:=Tryz.func267.trans (congrArg some (by kernel_rfl))
 f48:=Tryz.func268.trans (congrArg some (by kernel_rfl))
 f49:=⟨Tryz.f338.name,by decide,Tryz.func338.trans (congrArg some (by kernel_rfl))⟩
 f50:=⟨Tryz.f339.name,by decide,Tryz.func339.trans (congrArg some (by kernel_rfl))⟩
 f57:=⟨Tryz.f345.name,by decide,Tryz.func345.trans (congrArg some (by kernel_rfl))⟩
 t0:=Tryz.underlying0
 a0:=Tryz.isAgg0
 z0:=Tryz.sizeOf0
 v0:=Tryz.zeroValue0
 t3:=Tryz.underlying3
 a3:=Tryz.isAgg3
 z3:=Tryz.sizeOf3
 v3:=Tryz.zeroValue3
 t4:=Tryz.underlying4
 a4:=Tryz.isAgg4
 z4:=Tryz.sizeOf4
 v4:=Tryz.zeroValue4
 t5:=Tryz.underlying5
 a5:=Tryz.isAgg5
 z5:=Tryz.sizeOf5
 v5:=Tryz.zeroValue5
 t9:=Tryz.underlying9
 a9:=Tryz.isAgg9
 z9:=Tryz.sizeOf9
 v9:=Tryz.zeroValue9
 t22:=Tryz.underlying174
 a22:=Tryz.isAgg174
 z22:=Tryz.sizeOf174
 v22:=Tryz.zeroValue174
 t25:=Tryz.underlying358
 a25:=Tryz.isAgg358
 z25:=Tryz.sizeOf358
 v25:=Tryz.zeroValue358
 t39:=Tryz.underlying253
 a39:=Tryz.isAgg253
 z39:=Tryz.sizeOf253
 v39:=Tryz.zeroValue253
 t45:=Tryz.underlying305
 a45:=Tryz.isAgg305
 z45:=Tryz.sizeOf305
 v45:=Tryz.zeroValue305
 t46:=Tryz.underlying306
 a46:=Tryz.isAgg306
 z46:=Tryz.sizeOf306
 v46:=Tryz.zeroValue306
 t50:=Tryz.underlying263
 a50:=Tryz.isAgg263
 z50:=Tryz.sizeOf263
 v50:=Tryz.zeroValue263
 t53:=Tryz.underlying38
 a53:=Tryz.isAgg38
 z53:=Tryz.sizeOf38
 v53:=Tryz.zeroValue38
 t55:=Tryz.underlying204
 a55:=Tryz.isAgg204
 z55:=Tryz.sizeOf204
 v55:=Tryz.zeroValue204
 t66:=Tryz.underlying347
 a66:=Tryz.isAgg347
 z66:=Tryz.sizeOf347
 v66:=Tryz.zeroValue347
 t70:=Tryz.underlying351
 a70:=Tryz.isAgg351
 z70:=Tryz.sizeOf351
 v70:=Tryz.zeroValue351
 t76:=Tryz.underlying374
 a76:=Tryz.isAgg374
 z76:=Tryz.sizeOf374
 v76:=Tryz.zeroValue374
 t77:=Tryz.underlying375
 a77:=Tryz.isAgg375
 z77:=Tryz.sizeOf375
 v77:=Tryz.zeroValue375 }
end Go.Proofs
open Go Go.RowKit Go.Proofs.YtlhlhpgjnjjhnaaGreatDoor.K Go.Proofs.YtlhlhpgjnjjhnaaGreatDoor.T
set_option linter.unusedVariables false
set_option linter.unusedSimpArgs false
namespace Go.Proofs.YtlhlhpgjnjjhnaaGreatDoor.A
variable {F F':Nat -> Option (List Value)} {M M':Nat -> Option zah} {N N':Nat} {K:zae} {E:zb2}
open Go.Sort hiding Below
open Go.Shelf
theorem yoy (w:World):(isAgg 228).run Tryz.prog w=.ok true w:=by kernel_rfl
theorem ykf (w:World):(Go.sizeOf 228).run Tryz.prog w=.ok 5 w:=by kernel_rfl
theorem yjn [Inhabited (zfp F)] {w:World} {blk size:Nat} (hF:∀ bk cs,F bk=some cs -> bk≠blk∧bk<w.heap.size∧∃ arr e z,w.heap[bk]?=some (.cells arr e z)∧cs <+: arr.toList) :
  CmpLays Tryz.prog 278 #[] (λx:zfp F=>x.1.1) 5 (λx y=>zc7 x.1.2.1 y.1.2.1) blk 0 size w:=by
 intro m os dk _ x y
 have hW:∀ bk cs,F bk=some cs -> ∃ arr e z,(sortWorldK (λx:zfp F=>x.1.1) 5 w blk 0 m dk os).heap[bk]?=some (.cells arr e z)∧cs <+: arr.toList:=λbk cs h=>by
  obtain ⟨h1,h2,arr,e,z,h3,h4⟩:=hF bk cs h;exact ⟨arr,e,z,(ya9 h1 h2).trans h3,h4⟩
 have up:∀ z:zfp F,zin (F0 (sortWorldK (λx:zfp F=>x.1.1) 5 w blk 0 m dk os)) z.1.1 z.1.2:=λz=>by
  obtain ⟨v,h1,h2,h3⟩:=z.2;exact ⟨v,h1,ykk hW h2,h3⟩
 have h:=yrq (P:=Tryz.prog) (w:=sortWorldK (λx:zfp F=>x.1.1) 5 w blk 0 m dk os) (K:=λv=>v=.int .i64 (zc7 x.1.2.1 y.1.2.1))
  (yiy (K:=λv _=>v=.int .i64 (zc7 x.1.2.1 y.1.2.1)) (E:=λ_ _=>False) (up x) (up y) (λN'=>rfl))
 refine Calls.mono h λe w' ⟨⟨v,he,hv⟩,hb,hd⟩=>?_;exact ⟨by rw [he,hv],yg8 hb hd⟩
theorem yuo {α β:Type} {a b:List α} (f:α -> β) (h:a.Perm b):(a.map f).Perm (b.map f):=h.map f
theorem yyw {b cap tot:Nat} {rows:List (List Value)} {t:List Rw} {rest:List Value} (hM:M b=some (.cells 228 (rows.flatten++rest) tot)) (hr:zaf (zin F) 5 rows t) (hn:nodup t) (h0:0<t.length) (hl:t.length<4611686018427387904)
  (k:∀ N' rows' t',N≤N' -> zaf (zin F) 5 rows' t' -> t.Perm t' -> srt t' -> K (.tuple #[]) ⟨F,upd M b (some (.cells 228 (rows'.flatten++rest) tot)),N'⟩) :
  cF 286 #[.slice (some ⟨b,0,none⟩) t.length cap,.func (.func 278) #[] #[]] K E ⟨F,M,N⟩:=by
 refine .inl ⟨by kernel_rfl,λw0 w _ r=>?_⟩;obtain ⟨d,hd1,hd2⟩:=yiq rows t hr;have hdl:d.length=t.length:=by rw [← hd2]; simp
 have hne:d≠[]:=λe=>by rw [e] at hdl; simp at hdl; omega
 obtain ⟨x0,d0,hd0⟩:=List.exists_cons_of_ne_nil hne
 haveI:Inhabited (zfp F):=⟨x0⟩
 obtain ⟨h1,h2,h3,arr,h4,h5,h6⟩:=r.cl b _ _ _ hM;have hbw:b<w.heap.size:=(Array.getElem?_eq_some_iff.1 h4).1;have hfl:=hr.flen
 have hH:HoldsK (λx:zfp F=>x.1.1) 5 w b 0 d.toArray:=by
  intro j hj;have hj':j<d.length*5:=by simpa using hj
  have e1:=zu5 d j hj';rw [hd1] at e1
  have e2:rows.flatten[j]?=some (id (flatK (λx:zfp F=>x.1.1) 5 d.toArray)[j]!):=by
   rw [← e1,id,getElem!_def,Array.getElem?_eq_getElem (by simpa using hj')]
  refine ⟨?_,by simp [World.frozen?,h4]⟩;rw [Nat.zero_add];refine r.cell (cs:=rows.flatten++rest) (.inr ⟨_,_,hM⟩) ?_;rw [List.getElem?_append_left (by omega)]; exact e2
 have hF:∀ bk cs,F bk=some cs -> bk≠b∧bk<w.heap.size∧∃ arr e z,w.heap[bk]?=some (.cells arr e z)∧cs <+: arr.toList:=λbk cs h=>by
  obtain ⟨a1,arr',e,z,a2,a3⟩:=r.fr bk cs h;exact ⟨λe=>(by subst e; simp only at h3; rw [h] at h3; cases h3),(Array.getElem?_eq_some_iff.1 a2).1,arr',e,z,a2,a3⟩
 have eg:∀ args w,(callFunc 278 args).run Tryz.prog w=.ok (.enter 278 args) w:=enters_of Tryz.func278 (by kernel_rfl) rfl;have hcon:=AnyQ.slices_SortFunc Tryz.sortRow 5 yoy ykf (λx:zfp F=>x.1.1) (λx=>x.2.one.1) (λx v hv=>x.2.one.2 v hv) (λx y=>zc7 x.1.2.1 y.1.2.1) ynn 278 #[] b 0 cap d.toArray w eg (yjn hF) hH hbw (by simpa [hdl] using hl)
 change Calls Tryz.prog 286 _ _ _ at hcon
 have hsz:d.toArray.size=t.length:=by simpa using hdl
 rw [hsz] at hcon;refine Calls.mono hcon λe w' ⟨he,d',n,os,hp,hs,hw⟩=>?_;subst he;have hsz':d'.size=t.length:=by rw [hp.1,hsz]
 have hp2:d'.toList.Perm d:=by
  have h7:=hp.2.2;rw [← hsz,Array.extract_size] at h7;rw [show d'.extract 0 d.toArray.size=d' from by rw [hsz,← hsz',Array.extract_size]] at h7
  simpa using h7
 have hr':=ybc d'.toList;have hperm:t.Perm (d'.toList.map (·.1.2)):=by rw [← hd2]; exact hp2.symm.map _
 have hsrt:srt (d'.toList.map (·.1.2)):=by
  have hnd:=hn.perm hperm;unfold srt;rw [List.pairwise_iff_getElem];intro i j hi hj hij;have hnd':=List.pairwise_iff_getElem.1 hnd i j hi hj hij;simp only [List.length_map,Array.length_toList] at hi hj;have h8:=hs i j (Nat.zero_le _) hij (by omega);simp only [ltOf,decide_eq_false_iff_not] at h8;rw [getElem!_pos d' j (by omega),getElem!_pos d' i (by omega)] at h8;simp only [List.getElem_map,Array.getElem_toList] at hnd' ⊢;have h9:=zk6 d'[i].1.2.1 d'[j].1.2.1;have h10:zc7 d'[i].1.2.1 d'[j].1.2.1≠0:=λe=>hnd' (zni e);omega
 refine ⟨⟨F,upd M b (some (.cells 228 ((d'.toList.map (·.1.1)).flatten++rest) tot)),w'.heap.size⟩,?_,k _ _ _ (Nat.le_trans r.nx (hw ▸ yef)) hr' hperm hsrt⟩;have hat:=yt9 (enc:=λx:zfp F=>x.1.1) (kk:=5) (n:=n) (off:=0) (d:=d') (os:=os) h4;have hsw:w.heap.size≤w'.heap.size:=hw ▸ yef;refine r.turn (w':=w') (b:=b) h2 h3 (by rw [hw]; rfl) (by rw [hw]; rfl) (by rw [hw]; rfl) hsw (by omega) (λq hq hql=>by rw [hw]; exact ya9 hq hql) (some _) w'.heap.size (Nat.le_trans r.nx hsw) (Nat.le_refl _) (by omega) ?_ (by rw [hw]; exact Nat.le_add_right _ _);refine ⟨_,by rw [hw]; exact hat,by simpa [putCells] using h5,?_⟩;have hfl2:=ybf d'.toList;rw [Array.toArray_toList] at hfl2;exact yg0 (a:=rows.flatten) hfl2 (by rw [hfl,hr'.flen]; simp [hsz']) h6
theorem ytc {a:Option Addr} {c:Nat} (k:∀ N',N≤N' -> K (.tuple #[]) ⟨F,M,N'⟩):cF 286 #[.slice a 0 c,.func (.func 278) #[] #[]] K E ⟨F,M,N⟩:=by
 refine .inl ⟨by kernel_rfl,λw0 w _ r=>?_⟩;have hcon:=AnyF.slices_SortFunc_none Tryz.sortRow a c (.func (.func 278) #[] #[]) w
 change Calls Tryz.prog 286 _ _ _ at hcon
 refine Calls.mono hcon λe w' ⟨he,hw⟩=>?_;subst he; subst hw;exact ⟨⟨F,M,N⟩,r,k N (Nat.le_refl _)⟩
end Go.Proofs.YtlhlhpgjnjjhnaaGreatDoor.A
open Go Go.RowKit Go.Proofs.YtlhlhpgjnjjhnaaGreatDoor.K Go.Proofs.YtlhlhpgjnjjhnaaGreatDoor.T
set_option linter.unusedVariables false
set_option linter.unusedSimpArgs false
namespace Go.Proofs.YtlhlhpgjnjjhnaaGreatDoor.A
variable {F F':Nat -> Option (List Value)} {M M':Nat -> Option zah} {N N':Nat} {K:zae} {E:zb2}
def fr1 (f:Fc):Rw:=(f.1,ofC f.2)
theorem ybn (l:List Rw):∀ t:List Rw,(l.foldl (λt r=>layR t r.1 r.2) t).length≤t.length+l.length:=by
 induction l with
 | nil=>intro t; simp
 | cons r l ih=>intro t; have := ih (layR t r.1 r.2); have h2:=yk9 t r.1 r.2; simp at this ⊢; omega
theorem yp9 (l:List Rw):(tab l).length≤l.length:=by have := ybn l []; simpa [tab] using this
def CE.ok (c:CE):Bool:=if c.n≤0 then decide (c=⟨0,0,0,0⟩) else decide (c.lo≤c.hi∧(c.n>1∨(c.s=c.lo∧c.lo=c.hi)))
def ycs (l:List Int):Bool:=l.any λx=>decide (x<0)
def zuh (p:Int) (r:Rw):Bool:=decide ((r.1.length:Int)=p)&&decide (r.2.n>0)&&r.2.ok && !ycs r.1
def zvz (p:Int):Option (List Int) -> List Rw -> Bool
 | _,[]=>true
 | o,r::t=>zuh p r&&(match o with | none=>true | some k=>decide (zc7 k r.1<0))&&zvz p (some r.1) t
def zw0 (p:Int) (t:List Rw):Bool:=zvz p none t
def yz7 (t:List Rw) (i:Nat):Option (List Int):=if i=0 then none else (t[i - 1]?).map (·.1)
theorem ziq {P:Program} {f:FuncId} {first captured args:Array Value} {h:Hp} (H:h.wf -> ∃ h',h.wk h'∧zbq P (.func (.func f) first captured) args K E h'):zbq P (.func (.func f) first captured) args K E h:=by
 by_cases hw:h.wf
 ·obtain ⟨h',hk,hc⟩:=H hw
  rcases hc with ⟨h1,h2⟩ | h2
  ·exact .inl ⟨h1,λw0 w hl r=>h2 w0 w hl (r.wk hk)⟩
  ·exact .inr λw0 w r=>h2 w0 w (r.wk hk)
 ·exact .inr λw0 w r=>absurd r.wf hw
theorem zhl {b:Nat} {e:TypeId} {cs:List Value} {tot:Nat} (hb:N≤b) (hM:M b=some (.cells e cs tot)):zd5 F M N b=some cs:=by simp [zd5,hb,hM]
theorem znd {b m c sz:Nat} {cells:List Value} (hF:F b=some cells) (hl:cells.length=m*sz) (hc:m≤c):sF F sz (.slice (some ⟨b,0,none⟩) m c) m cells :=
 ⟨hl,.inr ⟨b,0,c,cells,rfl,hc,hF,by rw [List.drop_zero,← hl,List.take_length]⟩⟩
def wt (l:List (List Int)):Nat:=(l.map λk=>1+k.length).sum
theorem ywb {kv:Value} {l:List Int} (h:sF F 1 kv l.length (ic l)) (hl:l.length≤1000) (x:Int):zcr F [kv,.int .i64 x] (l,x):=⟨kv,rfl,h,by simp only; omega⟩
theorem yi4 {kv:Value} {l:List Int} {x:Int} {rows:List (List Value)} {fs:List Fc} (h:sF F 1 kv l.length (ic l)) (hl:l.length≤1000) (hr:zaf (zcr F) 2 rows fs):zaf (zcr F) 2 ([kv,.int .i64 x]::rows) ((l,x)::fs):=by
 have h1:=ywb h hl x;have := zok ((zaf.nil (zcr F) 2).snoc h1.one.1 h1.one.2 h1) hr
 simpa using this
def yg6 (F:Nat -> Option (List Value)) (v:Value) (ts:List (List Rw)):Prop:=∃ rows,sF F 1 v ts.length rows.flatten∧zaf (λr t=>∃ u,r=[u]∧zpp F u t∧t.length≤140737488351232) 1 rows ts
theorem yg6.mono {v:Value} {ts:List (List Rw)} (h:yg6 F v ts) (hF:za9 F F'):yg6 F' v ts:=let ⟨rows,h1,h2⟩:=h; ⟨rows,h1.mono hF,h2.mono λ_ _ ⟨u,e,h,l⟩=>⟨u,e,h.mono hF,l⟩⟩
theorem zj8 {B:Nat} {e:TypeId} {sz bytes n:Nat} {v:Value} {cs:List Value} {cells:Option (Array Value)} {new:List Value} {K:Value -> zae} (h:own M B e sz v n cs) (hm:za6 M N) (hB:B≤N) (hc:cells=some new.toArray) (hl:new.length=sz) (h1:∀ c∈new,c.oneCell'=true) (hb:(n+1)*bytes≤140737488355328) (hn:n+1≤maxLen)
  (k:∀ p v' M' N',own M' B e sz v' (n+1) (cs++new) -> fr M M' N v v' -> N≤N' -> za6 M' N' -> K p v' ⟨F,M',N'⟩):nws e 1 cells (λt=>zek e sz bytes v t (K t)) ⟨F,M,N⟩:=by
 refine zd7 (cs:=new) hc (λb hb'=>?_);have hbne:v.ownBlock≠some b:=λe=>by have := h.lt hm b e; omega
 have h2:own (upd M b (some (.cells e new new.length))) B e sz v n cs:=h.keep (λq hq=>za4 _ _ (λe=>hbne (e ▸ hq))) (Nat.le_refl _);refine h2.app (m:=1) (news:=new) (hm.new hb' _) (by omega) ⟨by omega,.inr ⟨b,0,1,_,rfl,Nat.le_refl _,.inr ⟨_,_,za2 _ _ _⟩,by rw [List.drop_zero,List.take_of_length_le (by omega)]⟩⟩ h1 hb hn (λv' M' N' h3 h4 h5 h6=>?_);exact k _ v' M' N' h3 (λq hq hqN=>⟨((h4 q hq (by omega)).1).trans (za4 _ _ (by omega)),(h4 q hq (by omega)).2⟩) (by omega) h6
def yzz (l:List Int):CE:=l.foldl (λc x=>c.rmerge (ofC x)) ⟨0,0,0,0⟩
abbrev Dm:=Int×List Int
def zi0 (F:Nat -> Option (List Value)) (cs:List Value) (d:Dm):Prop:=∃ v,cs=[.int .i64 d.1,v]∧sF F 1 v d.2.length (ic d.2)∧d.2.length≤140737488351232
theorem zi0.mono {cs:List Value} {d:Dm} (h:zi0 F cs d) (hF:za9 F F'):zi0 F' cs d:=let ⟨v,h1,h2,h3⟩:=h; ⟨v,h1,h2.mono hF,h3⟩
theorem zi0.one {cs:List Value} {d:Dm} (h:zi0 F cs d):cs.length=2∧∀ c∈cs,c.oneCell'=true:=by
 obtain ⟨v,rfl,hv,_⟩:=h;obtain ⟨a,c,rfl,_⟩:=hv.form;exact ⟨rfl,List.all_eq_true.1 rfl⟩
def zeb (F:Nat -> Option (List Value)) (v:Value) (l:List Dm):Prop:=∃ rows,sF F 2 v l.length rows.flatten∧zaf (zi0 F) 2 rows l
theorem zeb.mono {v:Value} {t:List Dm} (h:zeb F v t) (hF:za9 F F'):zeb F' v t:=let ⟨rows,h1,h2⟩:=h; ⟨rows,h1.mono hF,h2.mono λ_ _ hr=>hr.mono hF⟩
theorem zeb.form {v:Value} {t:List Dm} (h:zeb F v t):∃ a c,v=.slice a t.length c:=let ⟨rows,h1,_⟩:=h; let ⟨a,c,h2,_⟩:=h1.form; ⟨a,c,h2⟩
def ick (k:IntKind) (l:List Int):List Value:=l.map (.int k)
theorem zzn {k:IntKind} {v:Value} {l:List Int} (hv:sF F 1 v l.length (ick k l)) {i:Nat} {K:Value -> zae} (hi:i<l.length) (kk:∀ p,K p (.int k l[i]) ⟨F,M,N⟩) :
  pv (iaV none 1 v (.int .i64 (i:Nat))) (λp=>ld false 1 p (K p)) ⟨F,M,N⟩:=by
 obtain ⟨b,o,c,rfl,cs,hF,_,hcs⟩:=hv.at (by decide) hi;exact zd0 hi (zg3 (zb6 (zif hF) (by rw [Nat.mul_one,hcs i (by omega)]; simp [ick,hi])) (kk _))
theorem zzj {e:EqK} {k:IntKind} {a b:Nat} {h:Hp} (hb:0<b) (kk:K (.int k ((a%b:Nat):Int)) h):pv (za1 e .rem (.int k (a:Nat)) (.int k (b:Nat))) K h :=
 ⟨_,by rw [inV]; simp only [zfr]; rw [if_neg (by omega)],by rw [show Int.tmod (a:Int) (b:Int)=((a%b:Nat):Int) from rfl]; exact kk⟩
theorem zvs {k:IntKind} {a:Nat} {h:Hp} (h1:a≤9223372036854775807) (kk:K (.int .i64 (a:Nat)) h):pv (cvV .i64 (.int k (a:Nat))) K h :=
 ⟨_,rfl,by rw [zl6 (by omega) (by omega)]; exact kk⟩
theorem ysg {e:EqK} {a b:Nat} {h:Hp} (h2:a*b≤9223372036854775807) (k:K (.int .i64 ((a*b:Nat):Int)) h):pv (za1 e .mul (.int .i64 a) (.int .i64 b)) K h :=
 ⟨_,by rw [inV]; rfl,by rw [← Int.natCast_mul,zl6 (by omega) (by omega)]; exact k⟩
def keyOf (l:List Dm) (c:List Int):List Int:=l.mapIdx λi d=>(c.getD i 0)%d.1
theorem zfw (l:List Dm) (c:List Int):(keyOf l c).length=l.length:=by simp [keyOf]
theorem ygb (l:List Dm) (c:List Int) {i:Nat} (h:i<l.length):keyOf (l.take (i+1)) c=keyOf (l.take i) c++[(c.getD i 0)%l[i].1]:=by
 unfold keyOf;rw [List.take_add_one,List.getElem?_eq_getElem h,Option.toList_some,List.mapIdx_concat,List.length_take,Nat.min_eq_left (by omega)]
theorem yt6 {u v:Value} {l:List Dm} {c:List Int} (hu:zeb F u l) (hv:sF F 1 v c.length (ick .u16 c)) (hl:l.length≤1000000) (hs:∀ d∈l,0<d.1∧d.1≤1000000) (hc:∀ x∈c,0≤x∧x<65536) (hcl:c.length≤140737488351232)
  (k:∀ v' F' N',(Hp.mk F' M N').wf -> za9 F F' -> N≤N' -> sF F' 1 v' (keyOf l c).length (ic (keyOf l c)) -> K v' ⟨F',M,N'⟩) :
  cF 41 #[u,v] K E ⟨F,M,N⟩:=by
 refine za5 mixed Tryz.func41 (by kernel_rfl) (t41 _ E _ _) (λhw=>?_);have hm:za6 M N:=hw.m;obtain ⟨rows,hu1,hu2⟩:=hu;have hlu:zac u=some (.int .i64 (l.length:Nat)):=by obtain ⟨a,c,rfl,_⟩:=hu1.form; rfl
 have hlv:zac v=some (.int .i64 (c.length:Nat)):=by obtain ⟨a,c,rfl,_⟩:=hv.form; rfl
 refine zvk (σ:=Nat×Value) (λs=>s.2) (λs=>.int .i64 (s.1:Nat))
  (λs h=>∃ M' N',h=⟨F,M',N'⟩∧N≤N'∧(∀ q,q<N -> M' q=M q)∧za6 M' N'∧s.1≤l.length∧own M' N 3 1 s.2 s.1 (ic (keyOf (l.take s.1) c))) (λs=>l.length - s.1) (0,.slice none 0 0) rfl rfl
  (λhw2=>⟨_,za0 hw2,M,N,rfl,Nat.le_refl _,λ_ _=>rfl,hm,Nat.zero_le _,own.nil⟩) (λk1 s j h1 hI hw2 next=>?_)
 rw [zvp];obtain ⟨M2,N2,rfl,hN2,hM2,hm2,hi,ho2⟩:=hI;try simp only [hlu,hlv]
 try simp only [sS]
 refine zau (λhlt=>?_) (λhge=>?_)
 ·have h1:s.1<l.length:=by omega
  obtain ⟨d1,d2⟩:=hs l[s.1] (List.getElem_mem _);try simp only [sS]
  have nat:∀ x:Int,0≤x -> x<65536 -> x=c.getD s.1 0 -> ∃ n:Nat,x=n∧n<65536∧(c.getD s.1 0)%l[s.1].1=((n%l[s.1].1.toNat:Nat):Int):=λx h0 h1 e=>⟨x.toNat,by omega,by omega,by
   rw [← e,Int.natCast_emod,Int.toNat_of_nonneg h0,Int.toNat_of_nonneg (by omega)]⟩
  refine zau (λhlt2=>?_) (λhge2=>?_);have h2:s.1<c.length:=by omega
  try simp only [sS]
  refine zzn hv h2 λp=>?_;obtain ⟨x0,x1⟩:=hc c[s.1] (List.getElem_mem _);obtain ⟨n,hn,hn1,hn2⟩:=nat c[s.1] x0 x1 (by simp [List.getD_eq_getElem?_getD,h2]);rw [hn];refine zvs (a:=n) (by omega) ?_
  rotate_left
  try simp only [sS]
  have hg:c.getD s.1 0=0:=by rw [List.getD_eq_getElem?_getD,List.getElem?_eq_none (by omega)]; rfl
  obtain ⟨n,hn0,hn2⟩:∃ n:Nat,(.int .i64 0:Value)=.int .i64 (n:Nat)∧(c.getD s.1 0)%l[s.1].1=((n%l[s.1].1.toNat:Nat):Int):=⟨0,rfl,by rw [hg]; simp⟩;rw [hn0]
  all_goals
   rw [zl0];refine zeo hu1 hu2 (by decide) h1 (off:=0) (by decide) λp q r x hR _ hx=>?_;obtain ⟨kv,rfl,hkv',hkl⟩:=hR
   simp at hx
   subst hx;rw [show l[s.1].1=((l[s.1].1.toNat:Nat):Int) by omega];refine zzj (by omega) ?_;refine zj8 (new:=[.int .i64 ((n%l[s.1].1.toNat:Nat):Int)]) ho2 hm2 hN2 (by kernel_rfl) rfl (List.all_eq_true.1 rfl) (by omega) (by unfold maxLen; omega) (λp v' M3 N3 h4 h5 h6 h7=>?_);refine zaq (by omega) ?_;refine next (s.1+1,v') _ _ (by simp only; omega) (λhw3=>⟨_,za0 hw3,M3,N3,rfl,by omega,λq hq=>?_,h7,h1,?_⟩)
   ·exact ((h5 q (λe=>by have := (ho2.ge q e).1; omega) (by omega)).1).trans (hM2 q hq)
   ·simp only;rw [ygb l c h1,hn2]
    simpa [ic] using h4
 ·try simp only [sS]
  rw [List.take_of_length_le (by omega)] at ho2;refine λhc'=>⟨_,zdw hm hM2 hc',λhw'=>k _ _ _ hw' (zbb hc') hN2 ?_⟩;have := ho2.rd.frz hc' (λb hb=>.inl (ho2.ge b hb).1);rw [zfw];rw [show s.1=l.length by omega] at this;exact this
theorem own.box {B:Nat} {e:TypeId} {sz n:Nat} {v:Value} {cs:List Value} (h:own M B e sz v n cs) (hm:za6 M N) {b:Nat} (hb:N≤b) (x:Option zah):own (upd M b x) B e sz v n cs :=
 h.keep (λq hq=>za4 _ _ (λe=>by have := h.lt hm q hq; omega)) (Nat.le_refl _)
def ztn (k:IntKind) (F:Nat -> Option (List Value)) (v:Value) (ks:List (List Int)):Prop:=∃ rows,sF F 1 v ks.length rows.flatten∧zaf (λr c=>∃ u,r=[u]∧sF F 1 u c.length (ick k c)∧c.length≤140737488351232) 1 rows ks
theorem ztn.mono {k:IntKind} {v:Value} {ks:List (List Int)} (h:ztn k F v ks) (hF:za9 F F'):ztn k F' v ks:=let ⟨rows,h1,h2⟩:=h; ⟨rows,h1.mono hF,h2.mono λ_ _ ⟨u,e,h,l⟩=>⟨u,e,h.mono hF,l⟩⟩
theorem yy9 {k:IntKind} {v:Value} {ts:List (List Int)} {K:Value -> zae} (hv:ztn k F v ts) {i:Nat} (hi:i<ts.length) (kk:∀ p u,sF F 1 u ts[i].length (ick k ts[i]) -> ts[i].length≤140737488351232 -> K p u ⟨F,M,N⟩):pv (iaV none 1 v (.int .i64 (i:Nat))) (λp=>ld false 1 p (K p)) ⟨F,M,N⟩:=by
 obtain ⟨rows,h1,h2⟩:=hv;obtain ⟨b,o,c,cs,r,rfl,hF,_,⟨u,rfl,hu,hul⟩,hl,_,hle,ht,hj⟩:=zw6 h1 h2 (by decide) hi;exact zd0 hi (zg3 (zb6 (zif hF) (hj 0 (by decide))) (kk _ _ hu hul))
def zdr (l:List Dm) (ks:List (List Int)) (v:List Int):List Fc:=(ks.take 200).mapIdx λi c=>(keyOf l c,v.getD (i%v.length) 0)
theorem zkf (l:List Dm) (ks:List (List Int)) (v:List Int):(zdr l ks v).length=min 200 ks.length:=by simp [zdr]
theorem yda {α β:Type} (f:Nat -> α -> β) (l:List α) {i:Nat} (h:i<l.length):(l.take (i+1)).mapIdx f=(l.take i).mapIdx f++[f i l[i]]:=by
 rw [List.take_add_one,List.getElem?_eq_getElem h,Option.toList_some,List.mapIdx_concat,List.length_take,Nat.min_eq_left (by omega)]
theorem zcq {α:Type} {R:List Value -> α -> Prop} {sz:Nat} {rows:List (List Value)} {xs:List α} (h:zaf R sz rows xs) {r:List Value} {x:α} (h1:r.length=sz∧∀ c∈r,c.oneCell'=true) (hr:R r x):zaf R sz (rows++[r]) (xs++[x]):=h.snoc h1.1 h1.2 hr
theorem yp1 {u v w:Value} {l:List Dm} {ks:List (List Int)} {c:List Int} (hu:zeb F u l) (hv:ztn .u16 F v ks) (hw':sF F 1 w c.length (ic c)) (hl:l.length≤1000000) (hs:∀ d∈l,0<d.1∧d.1≤1000000) (hc:∀ k∈ks,∀ x∈k,0≤x∧x<65536) (hkl:ks.length≤140737488351232) (hcl:c.length≤140737488351232)
  (k:∀ v' F' N',(Hp.mk F' M N').wf -> za9 F F' -> N≤N' -> zbp F' v' (zdr l ks c) -> K v' ⟨F',M,N'⟩) :
  cF 15 #[u,v,w] K E ⟨F,M,N⟩:=by
 refine za5 mixed Tryz.func15 (by kernel_rfl) (t15 _ E _ _ _) (λhw=>?_);have hm:za6 M N:=hw.m;have hlv:zac v=some (.int .i64 (ks.length:Nat)):=by obtain ⟨rows,h1,_⟩:=hv; obtain ⟨a,c,rfl,_⟩:=h1.form; rfl
 have hlw:zac w=some (.int .i64 (c.length:Nat)):=by obtain ⟨a,c,rfl,_⟩:=hw'.form; rfl
 refine zul (σ:=Nat×Value) (λs=>s.2) (λs=>.int .i64 (s.1:Nat))
  (λs h=>∃ F' M' N' rows,h=⟨F',M',N'⟩∧za9 F F'∧N≤N'∧(∀ q,q<N -> M' q=M q)∧za6 M' N'∧s.1≤ks.length∧s.1≤200∧own M' N 110 2 s.2 s.1 rows.flatten∧zaf (zcr F') 2 rows ((ks.take s.1).mapIdx λi k=>(keyOf l k,c.getD (i%c.length) 0))) (λs=>200 - s.1) (0,.slice none 0 0) rfl rfl
  (λhw2=>⟨_,za0 hw2,F,M,N,[],rfl,za9.refl _,Nat.le_refl _,λ_ _=>rfl,hm,Nat.zero_le _,Nat.zero_le _,own.nil,zaf.nil _ _⟩) (λk1 s j h1 hI hw2 next=>?_)
 rw [zv3];obtain ⟨F2,M2,N2,rows,rfl,hF2,hN2,hM2,hm2,hi,hi2,ho2,hr2⟩:=hI
 have fin:(¬ s.1<ks.length∨¬ s.1<200) -> ∀ h',h'=(⟨F2,M2,N2⟩:Hp) -> h'.wf -> ∃ h'',h'.wk h''∧(h''.wf -> K s.2 h''):=λhend h' e hc'=>by
  subst e
  have e1:ks.take s.1=ks.take 200:=by
   rcases hend with h | h
   ·rw [List.take_of_length_le (by omega),List.take_of_length_le (by omega)]
   ·rw [show s.1=200 by omega]
  have e2:s.1=(zdr l ks c).length:=by
   rw [zkf]
   rcases hend with h | h<;>omega
  refine ⟨_,zdw hm hM2 hc',λhw'=>k _ _ _ hw' (hF2.trans (zbb hc')) hN2 ⟨rows,?_,?_⟩⟩
  ·have := ho2.rd.frz hc' (λb hb=>.inl (ho2.ge b hb).1);rw [← e2]; exact this
  ·unfold zdr;rw [← e1]; exact hr2.mono λ_ _ h=>h.mono (zbb hc')
 try simp only [hlv]
 try simp only [sS]
 refine zau (λhlt=>?_) (λhge=>?_)
 ·try simp only [sS]
  refine zau (λhlt2=>?_) (λhge2=>?_)
  ·have h1:s.1<ks.length:=by omega
   try simp only [sS]
   refine yy9 (hv.mono hF2) h1 λp kv hkv hkvl=>?_;refine yt6 (hu.mono hF2) hkv hl hs (hc _ (List.getElem_mem _)) hkvl (λkey F3 N3 hw3 hF3 hN3 hkey=>?_);obtain ⟨ka,kc,hkf,_⟩:=hkey.form;refine zab (v:=.agg #[key,.int .i64 0]) (by rw [hkf]; kernel_rfl) ?_;refine zar (λb1 hb1=>?_);refine stM (cs':=[key,.int .i64 0]) ?_ (za2 _ _ _) rfl rfl (by rw [hkf]; exact List.all_eq_true.1 rfl);rw [zas];try simp only [hlw]
   try simp only [sS]
   have hm3:=hm2.up hN3;have hb1:∀ x,own (upd M2 b1 x) N 110 2 s.2 s.1 rows.flatten:=λx=>ho2.box hm3 (by omega) x;refine zby (λh0=>?_) (λh0=>?_);try simp only [sS]
   refine zzj (a:=s.1) (b:=c.length) (by omega) ?_;have hmod:s.1%c.length<c.length:=Nat.mod_lt _ (by omega);refine zes ((hw'.mono hF2).mono hF3) hmod λp=>?_;refine stM (cs':=[key,.int .i64 c[s.1%c.length]]) ?_ (za2 _ _ _) rfl rfl (List.all_eq_true.1 rfl) (by exact Nat.le_of_ble_eq_true rfl);rw [zas];obtain ⟨n,hn,hn2⟩:∃ n,c[s.1%c.length]=n∧n=c.getD (s.1%c.length) 0:=⟨_,rfl,by rw [List.getD_eq_getElem?_getD,List.getElem?_eq_getElem hmod]; rfl⟩;rw [hn]
   rotate_left
   try simp only [sS]
   obtain ⟨n,hn,hn2⟩:∃ n:Int,(0:Int)=n∧n=c.getD (s.1%c.length) 0:=⟨_,rfl,by rw [List.getD_eq_getElem?_getD,List.getElem?_eq_none (by omega)]; rfl⟩;rw [show ([key,.int .i64 0]:List Value)=[key,.int .i64 n] by rw [← hn]]
   all_goals
    rw [zl5];refine zbd (vs:=[key,.int .i64 n]) ?_ (za2 _ _ _);refine zj8 (new:=[key,.int .i64 n]) (hb1 _) (hm3.new (by omega) _) (by omega) (by rw [hkf]; kernel_rfl) rfl (by rw [hkf]; exact List.all_eq_true.1 rfl) (by omega) (by unfold maxLen; omega) (λp v' M4 N4 h4 h5 h6 h7=>?_);refine zaq (by omega) ?_;refine next (s.1+1,v') _ _ (by simp only; omega) (λhw3=>⟨_,za0 hw3,F3,M4,N4,rows++[[key,.int .i64 n]],rfl,hF2.trans hF3,by omega,λq hq=>?_,h7,h1,by simp only; omega,?_,?_⟩)
    ·exact ((h5 q (λe=>by have := (ho2.ge q e).1; omega) (by omega)).1).trans ((za4 _ _ (by omega)).trans (hM2 q hq))
    ·simpa using h4
    ·simp only;rw [yda _ ks h1];have hr1:zcr F3 [key,.int .i64 n] (keyOf l ks[s.1],c.getD (s.1%c.length) 0):=⟨key,by rw [← hn2],hkey,by simp only; rw [zfw]; omega⟩;exact zcq (hr2.mono λ_ _ h=>h.mono hF3) hr1.one hr1
  ·try simp only [sS]
   exact fin (by omega) _ rfl
 ·try simp only [sS]
  exact fin (by omega) _ rfl
noncomputable def frzP (F:Nat -> Option (List Value)) (M:Nat -> Option zah) (p:Nat -> Prop):Nat -> Option (List Value):=λb=>open Classical in if p b then (match M b with | some (.cells _ cs _)=>some cs | _=>F b) else F b
theorem zeh {p:Nat -> Prop} (hc:(Hp.mk F M N).wf):za9 F (frzP F M p):=λb cs hb=>by
 unfold frzP
 split
 ·rw [show M b=none from hc.d b cs hb]; exact hb
 ·exact hb
theorem zxn {p:Nat -> Prop} (hc:(Hp.mk F M N).wf):(Hp.mk F M N).wk ⟨frzP F M p,zh3 M (λq=>¬ p q),N⟩:=by
 refine ⟨rfl,yi2 _ _,λb cs hb=>?_,λb cs hb=>?_⟩
 ·simp only [frzP] at hb
  split at hb
  ·rename_i hp
   split at hb
   ·rename_i e cs' tot he; cases hb; exact .inr ⟨by simp [zh3,hp],e,cs,tot,he,List.prefix_refl _⟩
   ·exact .inl hb
  ·exact .inl hb
 ·simp only [frzP] at hb
  split at hb
  ·rename_i hp; simp [zh3,hp]
  ·have:M b=none:=hc.d b cs hb;simp only [zh3,this]; split<;>rfl
theorem own.frzP {B:Nat} {e:TypeId} {sz n:Nat} {v:Value} {cs:List Value} {p:Nat -> Prop} (h:own M B e sz v n cs) (hp:∀ q,v.ownBlock=some q -> p q):sF (A.frzP F M p) sz v n cs:=by
 refine ⟨h.1,?_⟩
 rcases h.2 with ⟨rfl,rfl⟩ | ⟨b,c,rest,rfl,h2,h3,h4,h5⟩
 ·exact .inl ⟨_,_,rfl,rfl⟩
 ·refine .inr ⟨b,0,c,cs++rest,rfl,h2,?_,by rw [List.drop_zero,← h.1,List.take_left]⟩;have := hp b rfl
  simp [A.frzP,this,h5]
theorem own.far {B:Nat} {e:TypeId} {sz n:Nat} {u v v':Value} {cs:List Value} (h:own M B e sz u n cs) (hf:fr M M' N v v') (hm:za6 M N) (hne:∀ q,u.ownBlock=some q -> v.ownBlock≠some q):own M' B e sz u n cs∧∀ q,u.ownBlock=some q -> v'.ownBlock≠some q :=
 ⟨h.keep (λq hq=>(hf q (hne q hq) (h.lt hm q hq)).1) (Nat.le_refl _),λq hq=>(hf q (hne q hq) (h.lt hm q hq)).2⟩
def zoy:Nat -> List Nat -> Nat
 | a,[]=>a
 | a,b::l=>zoy (a*(2+b%4)) l
def zkp:Nat -> List Nat -> List Nat
 | _,[]=>[]
 | a,b::l=>(a*(2+b%4))::zkp (a*(2+b%4)) l
theorem yhi (l:List Nat) (b:Nat):∀ a,zoy a (l++[b])=zoy a l*(2+b%4):=by
 induction l with
 | nil=>intro a; rfl
 | cons x l ih=>intro a; exact ih _
theorem yi7 (l:List Nat) (b:Nat):∀ a,zkp a (l++[b])=zkp a l++[zoy a l*(2+b%4)]:=by
 induction l with
 | nil=>intro a; rfl
 | cons x l ih=>intro a; simp only [List.cons_append,zkp]; rw [ih]; rfl
theorem yom (l:List Nat):∀ a,zoy a l≤a*5 ^ l.length:=by
 induction l with
 | nil=>intro a; simp [zoy]
 | cons x l ih=>
  intro a;simp only [zoy,List.length_cons];have h1:=ih (a*(2+x%4));have h2:a*(2+x%4)≤a*5:=Nat.mul_le_mul_left _ (by omega);have h3:a*(2+x%4)*5 ^ l.length≤a*5*5 ^ l.length:=Nat.mul_le_mul_right _ h2;rw [Nat.pow_succ,Nat.mul_comm (5 ^ l.length) 5,← Nat.mul_assoc];omega
theorem yci (l:List Nat):∀ a,(zkp a l).length=l.length:=by
 induction l with
 | nil=>intro a; rfl
 | cons x l ih=>intro a; simp [zkp,ih]
def zgq (c:Int×List Int):Dm:=(1+c.1%200,(zkp 1 ((c.2.take 4).map Int.toNat)).map (λn:Nat=>(n:Int)))
def zj7 (m:List (Int×List Int)):List Dm:=if m=[] then [(100,[10])] else (m.take 4).map zgq
def zwi (F:Nat -> Option (List Value)) (cs:List Value) (c:Int×List Int):Prop:=∃ v,cs=[.int .u16 c.1,v]∧sF F 1 v c.2.length (ick .u8 c.2)∧c.2.length≤140737488351232
theorem zwi.mono {cs:List Value} {d:Int×List Int} (h:zwi F cs d) (hF:za9 F F'):zwi F' cs d:=let ⟨v,h1,h2,h3⟩:=h; ⟨v,h1,h2.mono hF,h3⟩
def zr5 (F:Nat -> Option (List Value)) (v:Value) (l:List (Int×List Int)):Prop:=∃ rows,sF F 2 v l.length rows.flatten∧zaf (zwi F) 2 rows l
theorem zr5.mono {v:Value} {t:List (Int×List Int)} (h:zr5 F v t) (hF:za9 F F'):zr5 F' v t:=let ⟨rows,h1,h2⟩:=h; ⟨rows,h1.mono hF,h2.mono λ_ _ hr=>hr.mono hF⟩
theorem ysy {u:Value} {m:List (Int×List Int)} (hu:zr5 F u m) (hml:m.length≤140737488351232) (hc:∀ c∈m,(0≤c.1∧c.1<65536)∧∀ x∈c.2,0≤x∧x<256)
  (k:∀ v' F' N',(Hp.mk F' M N').wf -> za9 F F' -> N≤N' -> zeb F' v' (zj7 m) -> K v' ⟨F',M,N'⟩) :
  cF 10 #[u] K E ⟨F,M,N⟩:=by
 refine za5 mixed Tryz.func10 (by kernel_rfl) (t10 _ E _) (λhw=>?_);have hm:za6 M N:=hw.m;obtain ⟨crows,hu1,hu2⟩:=hu;have hlu:zac u=some (.int .i64 (m.length:Nat)):=by obtain ⟨a,c,rfl,_⟩:=hu1.form; rfl
 refine zu0 (σ:=Nat×Value) (λs=>s.2) (λs=>.int .i64 (s.1:Nat))
  (λs h=>∃ F' M' N' rows,h=⟨F',M',N'⟩∧za9 F F'∧N≤N'∧(∀ q,q<N -> M' q=M q)∧za6 M' N'∧s.1≤m.length∧s.1≤4∧own M' N 108 2 s.2 s.1 rows.flatten∧zaf (zi0 F') 2 rows ((m.take s.1).map zgq)) (λs=>4 - s.1) (0,.slice none 0 0) rfl rfl
  (λhw2=>⟨_,za0 hw2,F,M,N,[],rfl,za9.refl _,Nat.le_refl _,λ_ _=>rfl,hm,Nat.zero_le _,Nat.zero_le _,own.nil,zaf.nil _ _⟩) (λk1 s j h1 hI hw2 next=>?_)
 rw [zu6];obtain ⟨F2,M2,N2,rows,rfl,hF2,hN2,hM2,hm2,hi,hi2,ho2,hr2⟩:=hI;have hu1':=hu1.mono hF2;have hu2':zaf (zwi F2) 2 crows m:=hu2.mono λ_ _ h=>h.mono hF2;try simp only [hlu]
 try simp only [sS]
 by_cases hgo:s.1<m.length∧s.1<4
 ·obtain ⟨h1,h2⟩:=hgo;refine zzy (by omega) ?_;try simp only [sS]
  refine zzy (by omega) ?_;try simp only [sS]
  obtain ⟨⟨c0,c1⟩,cb⟩:=hc m[s.1] (List.getElem_mem _);refine zeo hu1' hu2' (by decide) h1 (off:=0) (by decide) λp q r x hR _ hx=>?_;obtain ⟨bv,rfl,hbv,hbl⟩:=hR
  simp at hx
  subst hx;rw [show m[s.1].1=((m[s.1].1.toNat:Nat):Int) by omega];refine zzj (b:=200) (by decide) (zvs (by omega) (zkc (a:=1) (by omega) ?_));obtain ⟨sz,hsz⟩:∃ sz:Int,((1+m[s.1].1.toNat%200:Nat):Int)=sz:=⟨_,rfl⟩;rw [hsz];refine zab (v:=.agg #[.int .i64 sz,.slice none 0 0]) (by kernel_rfl) ?_;refine zar (λbx hbx=>?_);refine stM (cs':=[.int .i64 sz,.slice none 0 0]) ?_ (za2 _ _ _);rw [zas]
  have hs1:(zgq m[s.1]).1=sz:=by
   rw [← hsz];simp only [zgq];omega
  refine zi3 (σ:=Nat×Nat) (λs=>.int .i64 (s.2:Nat)) (λs=>.int .i64 (s.1:Nat))
   (λt h=>∃ M' N' dv,h=⟨F2,M',N'⟩∧bx<N'∧(∀ q,q<N -> M' q=M q)∧za6 M' N'∧t.1≤m[s.1].2.length∧t.1≤4∧t.2=zoy 1 ((m[s.1].2.take t.1).map Int.toNat)∧M' bx=some (.cells 108 [.int .i64 sz,dv] 2) ∧
    own M' N 3 1 dv t.1 (ic ((zkp 1 ((m[s.1].2.take t.1).map Int.toNat)).map (λn:Nat=>(n:Int))))∧own M' N 108 2 s.2 s.1 rows.flatten∧dv.ownBlock≠some bx∧s.2.ownBlock≠some bx∧(∀ q,s.2.ownBlock=some q -> dv.ownBlock≠some q)) (λt=>4 - t.1) (0,1) rfl rfl
   (λhw3=>⟨_,za0 hw3,_,_,.slice none 0 0,rfl,Nat.lt_succ_self _,λq hq=>(za4 _ _ (by omega)).trans (hM2 q hq),hm2.new hbx _,Nat.zero_le _,Nat.zero_le _,by simp [zoy],by rw [za2]; rfl,by simpa [zkp,ic] using own.nil,ho2.box hm2 hbx _,by simp [Value.ownBlock],λe=>by have := ho2.lt hm2 bx e; omega,λq _=>by simp [Value.ownBlock]⟩) (λk2 t j2 h2' hI2 hw3 next2=>?_)
  rw [zi8];obtain ⟨M3,N3,dv,rfl,hbN,hM3,hm3,ht1,ht2,ht3,hbx3,hdv,hout,hd1,hd2,hd3⟩:=hI2;obtain ⟨da,dc,hdf,_⟩:=hdv.form
  have hbl4:t.1<m[s.1].2.length -> t.1<4 -> ∀ x,x=t.2 -> x≤625:=λ_ _ x e=>by
   rw [e,ht3];have h5:=yom ((m[s.1].2.take t.1).map Int.toNat) 1;rw [List.length_map,List.length_take,Nat.min_eq_left ht1,Nat.one_mul] at h5;exact Nat.le_trans h5 (Nat.le_trans (Nat.pow_le_pow_right (by decide) ht2) (by decide))
  refine zeo hu1' hu2' (by decide) h1 (off:=1) (by decide) λp q r x hR _ hx=>?_;obtain ⟨bv,rfl,hbv,hbl⟩:=hR
  simp at hx
  subst hx;refine zb1 hbv ?_
  by_cases hgo2:t.1<m[s.1].2.length∧t.1<4
  ·obtain ⟨h3,h4⟩:=hgo2;have h625:=hbl4 h3 h4 t.2 rfl;refine zzy (by omega) ?_;try simp only [sS]
   refine zzy (by omega) ?_;try simp only [sS]
   refine zeo hu1' hu2' (by decide) h1 (off:=1) (by decide) λp q r x hR _ hx=>?_;obtain ⟨bv,rfl,hbv,hbl⟩:=hR
   simp at hx
   subst hx;refine zzn hbv h3 λp=>?_;obtain ⟨b0,b1⟩:=cb m[s.1].2[t.1] (List.getElem_mem _);obtain ⟨bn,hbn,hbn2⟩:∃ n:Nat,m[s.1].2[t.1]=(n:Int)∧n<256:=⟨m[s.1].2[t.1].toNat,by omega,by omega⟩;rw [hbn];refine zzj (b:=4) (by decide) (zvs (by omega) (zkc (a:=2) (by omega) ?_));have hmul:t.2*(2+bn%4)≤625*5:=Nat.mul_le_mul h625 (by omega);refine ysg (by omega) ?_;refine ldM (v:=dv) ?_ hbx3
   have hlast:((m[s.1].2.take (t.1+1)).map Int.toNat)=(m[s.1].2.take t.1).map Int.toNat++[bn]:=by
    rw [List.take_add_one,List.getElem?_eq_getElem h3,Option.toList_some,List.map_append,hbn]; simp
   refine zj8 (new:=[.int .i64 ((t.2*(2+bn%4):Nat):Int)]) hdv hm3 (by omega) (by kernel_rfl) rfl (List.all_eq_true.1 rfl) (by omega) (by unfold maxLen; omega) (λp v' M4 N4 h4' h5 h6 h7=>?_);obtain ⟨va,vc,hvf,_⟩:=h4'.form;have hb4:M4 bx=some (.cells 108 [.int .i64 sz,dv] 2):=((h5 bx hd1 hbN).1).trans hbx3;refine stM (cs':=[.int .i64 sz,v']) ?_ hb4 (by rw [hvf]; rfl) (by rw [hvf]; rfl) (by rw [hvf]; exact List.all_eq_true.1 rfl);refine zaq (by omega) ?_;obtain ⟨hout4,hne4⟩:=hout.far h5 hm3 hd3;have hv'b:=(h5 bx hd1 hbN).2;refine next2 (t.1+1,t.2*(2+bn%4)) _ _ (by simp only; omega) (λhw4=>⟨_,za0 hw4,_,N4,v',rfl,by omega,λq hq=>?_,h7.set (by omega) _,h3,by simp only; omega,?_,za2 _ _ _,?_,?_,hv'b,hd2,hne4⟩)
   ·exact (za4 _ _ (by omega)).trans (((h5 q (λe=>by have := (hdv.ge q e).1; omega) (by omega)).1).trans (hM3 q hq))
   ·simp only;rw [hlast,yhi,ht3]
   ·simp only;rw [hlast,yi7,List.map_append,← ht3];have h8:=h4'.keep (M':=upd M4 bx (some (.cells 108 [.int .i64 sz,v'] 2))) (λq hq=>za4 _ _ (λe=>hv'b (e ▸ hq))) (Nat.le_refl _)
    simpa [ic] using h8
   ·exact hout4.keep (λq hq=>za4 _ _ (λe=>hd2 (e ▸ hq))) (Nat.le_refl _)
  ·have hend:t.1=min m[s.1].2.length 4:=by omega
   have e1:m[s.1].2.take t.1=m[s.1].2.take 4:=by
    rcases Nat.lt_or_ge m[s.1].2.length 4 with h | h
    ·rw [List.take_of_length_le (by omega),List.take_of_length_le (by omega)]
    ·rw [show t.1=4 by omega]
   rw [e1] at hdv;have hx5:zgq m[s.1]=(sz,(zkp 1 ((m[s.1].2.take 4).map Int.toNat)).map (λn:Nat=>(n:Int))):=by rw [← hs1]; rfl
   have hdl:t.1=(zgq m[s.1]).2.length:=by rw [hx5,← e1]; simp [yci]; omega
   refine zau (λhl1=>?_) (λhl1=>?_);try simp only [sS]
   refine zkd (by omega) ?_
   all_goals
    try simp only [sS]
    refine zbd (vs:=[.int .i64 sz,dv]) ?_ hbx3;refine zj8 (new:=[.int .i64 sz,dv]) hout hm3 (by omega) (by rw [hdf]; kernel_rfl) rfl (by rw [hdf]; exact List.all_eq_true.1 rfl) (by omega) (by unfold maxLen; omega) (λp v' M4 N4 h4' h5 h6 h7=>?_);refine zaq (by omega) ?_;obtain ⟨hdv4,hne4⟩:=hdv.far h5 hm3 (λq hq e=>hd3 q e hq);refine next (s.1+1,v') _ _ (by simp only; omega) (λhw4=>⟨_,zxn (p:=λq=>N≤q∧v'.ownBlock≠some q) hw4,_,_,N4,rows++[[.int .i64 sz,dv]],rfl,hF2.trans (zeh hw4),by omega,λq hq=>?_,zgx h7,h1,by simp only; omega,?_,?_⟩)
    ·rw [zfi (by omega)];exact ((h5 q (λe=>by have := (hout.ge q e).1; omega) (by omega)).1).trans (hM3 q hq)
    ·have h8:=h4'.keep (M':=zh3 M4 (λq=>¬ (N≤q∧v'.ownBlock≠some q))) (λq hq=>zfi (λh=>h.2 hq)) (Nat.le_refl _)
     simpa using h8
    ·simp only;rw [List.take_add_one,List.getElem?_eq_getElem h1,Option.toList_some,List.map_append,List.map_singleton]
     have hr1:zi0 (frzP F2 M4 (λq=>N≤q∧v'.ownBlock≠some q)) [.int .i64 sz,dv] (zgq m[s.1]):=⟨dv,by rw [hs1],by
      have h9:=hdv4.frzP (F:=F2) (p:=λq=>N≤q∧v'.ownBlock≠some q) (λq hq=>⟨(hdv.ge q hq).1,hne4 q hq⟩);rw [← hdl];rw [hx5]; exact h9,by rw [← hdl]; omega⟩
     exact zcq (hr2.mono λ_ _ h=>h.mono (zeh hw4)) hr1.one hr1
 ·obtain ⟨oa,oc,hof,_⟩:=ho2.form;have hlo:zac s.2=some (.int .i64 (s.1:Nat)):=by rw [hof]; rfl
  have hend:s.1=min m.length 4:=by omega
  have e1:m.take s.1=m.take 4:=by
   rcases Nat.lt_or_ge m.length 4 with h | h
   ·rw [List.take_of_length_le (by omega),List.take_of_length_le (by omega)]
   ·rw [show s.1=4 by omega]
  refine zau (λhl1=>?_) (λhl1=>?_);try simp only [sS]
  refine zkd (by omega) ?_
  all_goals
   try simp only [sS]
   try simp only [hlo]
   try simp only [sS]
   by_cases h0:s.1=0
   ·have hm0:m=[]:=List.eq_nil_of_length_eq_zero (by omega);refine zcj (by omega) ?_;try simp only [sS]
    refine zd7 (cs:=[.int .i64 10]) (by kernel_rfl) (λb1 hb1=>?_);refine zab (v:=.agg #[.int .i64 100,.slice (some ⟨b1,0,none⟩) 1 1]) (by kernel_rfl) ?_;have hb1v:s.2.ownBlock≠some b1:=λe=>by have := ho2.lt hm2 b1 e; omega
    refine zj8 (new:=[.int .i64 100,.slice (some ⟨b1,0,none⟩) 1 1]) (ho2.box hm2 hb1 _) (hm2.new hb1 _) (by omega) (by kernel_rfl) rfl (List.all_eq_true.1 rfl) (by omega) (by unfold maxLen; omega) (λp v' M4 N4 h4' h5 h6 h7=>?_);rw [zrs];have hMM:∀ q,q<N -> M4 q=M q:=λq hq=>((h5 q (λe=>by have := (ho2.ge q e).1; omega) (by omega)).1).trans ((za4 _ _ (by omega)).trans (hM2 q hq));have hb4:M4 b1=some (.cells 3 [.int .i64 10] 1):=((h5 b1 hb1v (by omega)).1).trans (za2 _ _ _);refine λhc'=>⟨_,zdw hm hMM hc',λhw'=>k v' _ N4 hw' (hF2.trans (zbb hc')) (by omega) ⟨rows++[[.int .i64 100,.slice (some ⟨b1,0,none⟩) 1 1]],?_,?_⟩⟩
    ·have := h4'.rd.frz hc' (λb hb=>.inl (h4'.ge b hb).1);rw [hm0] at hr2 ⊢;have hr0:rows=[]:=List.eq_nil_of_length_eq_zero (by have := hr2.all.1; simpa using this);subst hr0;rw [h0] at this
     simpa [zj7] using this
    ·rw [hm0] at hr2 ⊢;have hr1:zi0 (zd5 F2 M4 N) [.int .i64 100,.slice (some ⟨b1,0,none⟩) 1 1] (100,[10]):=⟨_,rfl,znd (zhl (by omega) hb4) rfl (by decide),by decide⟩;have hr0:rows=[]:=List.eq_nil_of_length_eq_zero (by have := hr2.all.1; simpa using this);subst hr0;exact zcq (zaf.nil _ _) hr1.one hr1
   ·refine zbo (by omega) ?_;try simp only [sS]
    rw [zrs];have hne:m≠[]:=λe=>by rw [e] at hend; simp at hend; omega
    refine λhc'=>⟨_,zdw hm hM2 hc',λhw'=>k s.2 _ N2 hw' (hF2.trans (zbb hc')) hN2 ⟨rows,?_,?_⟩⟩
    ·have := ho2.rd.frz hc' (λb hb=>.inl (ho2.ge b hb).1);unfold zj7;rw [if_neg hne,List.length_map,List.length_take,show min 4 m.length=s.1 by omega]; exact this
    ·unfold zj7;rw [if_neg hne,← e1]; exact hr2.mono λ_ _ h=>h.mono (zbb hc')
def chk (last:Int):List Int -> Bool
 | []=>true
 | x::l=>decide (¬ (x≤last∨x>10000∨x%last≠0))&&chk x l
def zdh (d:Dm):Bool:=decide (1≤d.1∧d.1≤10000∧d.2.length≤4)&&chk 1 d.2
theorem ycv {last x:Int} {l:List Int} (h:chk last (x::l)=true):last<x∧x≤10000∧last ∣ x∧chk x l=true:=by
 simp only [chk,Bool.and_eq_true] at h;have := of_decide_eq_true h.1;exact ⟨by omega,by omega,Int.dvd_of_emod_eq_zero (by omega),h.2⟩
theorem znj:∀ {l:List Int} {last:Int},chk last l=true -> ∀ (i:Nat) (h:i<l.length),last<l[i]∧l[i]≤10000∧last ∣ l[i]∧chk l[i] (l.drop (i+1))=true
 | [],_,_,i,h=>by simp at h
 | x::l,last,hc,0,h=>by obtain ⟨a,b,c,d⟩:=ycv hc; exact ⟨a,b,c,by simpa using d⟩
 | x::l,last,hc,i+1,h=>by
  obtain ⟨a,b,c,d⟩:=ycv hc;obtain ⟨e,f,g,k⟩:=znj d i (by simpa using h);simp only [List.getElem_cons_succ,List.drop_succ_cons];exact ⟨by omega,f,Int.dvd_trans c g,k⟩
theorem yq6 {l:List Int} (hc:chk 1 l=true) {i j:Nat} (hij:i<j) (hj:j<l.length):l[i]<l[j]∧l[i] ∣ l[j]∧0<l[i]:=by
 obtain ⟨a,b,c,d⟩:=znj hc i (by omega);have h:=znj d (j - (i+1)) (by rw [List.length_drop]; omega);simp only [List.getElem_drop] at h;have e:i+1+(j - (i+1))=j:=by omega
 simp only [e] at h;exact ⟨h.1,h.2.2.1,by omega⟩
def zjg (l:List Int) (i:Nat):Int:=if h:0<i∧i≤l.length then l[i - 1] else 1
theorem ys6 {l:List Int} {i:Nat} (h:i<l.length):chk (zjg l i) (l.drop i)=(decide (¬ (l[i]≤zjg l i∨l[i]>10000∨l[i]%zjg l i≠0))&&chk (zjg l (i+1)) (l.drop (i+1))):=by
 rw [List.drop_eq_getElem_cons h];simp only [chk]
 congr 2
 unfold zjg;rw [dif_pos ⟨by omega,by omega⟩]
 simp
theorem ysm {e:EqK} {k:IntKind} {a b:Int} {h:Hp} (ha:0≤a) (hb:0<b) (kk:K (.int k (a%b)) h):pv (za1 e .rem (.int k a) (.int k b)) K h :=
 ⟨_,by rw [inV]; simp only [zfr]; rw [if_neg (by omega)],by rw [Int.tmod_eq_emod_of_nonneg ha]; exact kk⟩
theorem yni {e:EqK} {a b:Int} {h:Hp} (ha:0≤a) (ha2:a≤9223372036854775807) (hb:0<b) (kk:K (.int .i64 (a/b)) h):pv (za1 e .quo (.int .i64 a) (.int .i64 b)) K h :=
 ⟨_,by rw [inV]; simp only [zfr]; rw [if_neg (by omega)],by
  rw [Int.tdiv_eq_ediv_of_nonneg ha,zl6 (by have := Int.ediv_nonneg ha (Int.le_of_lt hb); omega) (by have := Int.ediv_le_self b ha; omega)]; exact kk⟩
theorem yla {cs:List Value} {d:Dm} (hd:zi0 F cs d) (k:∀ N',N≤N' -> (Hp.mk F M N').wf -> K (.bool (zdh d)) ⟨F,M,N'⟩) :
  cF 182 #[.agg cs.toArray] K E ⟨F,M,N⟩:=by
 refine za5 mixed Tryz.func182 (by kernel_rfl) (yth _ E _) (λhw=>?_);have hm:=hw.m;obtain ⟨v,rfl,hv,hvl⟩:=hd;refine zar (cs:=[.int .i64 d.1,v]) (λb hb=>?_)
 have fin:∀ v',v'=zdh d -> ∀ h',h'=(⟨F,upd M b (some (.cells 108 [.int .i64 d.1,v] 2)),b+1⟩:Hp) -> h'.wf -> ∃ h'',h'.wk h''∧(h''.wf -> K (.bool v') h''):=λv' e h' e' hc=>by
  subst e; subst e';exact ⟨⟨F,M,b+1⟩,zm0 hc,λhw'=>k _ (by omega) hw'⟩
 unfold zdh at fin;have no:¬ (1≤d.1∧d.1≤10000∧d.2.length≤4) -> false=(decide (1≤d.1∧d.1≤10000∧d.2.length≤4)&&chk 1 d.2):=λh=>by rw [decide_eq_false h]; rfl
 try simp only [sS]
 refine ldM (v:=.int .i64 d.1) ?_;refine zau (λh1=>?_) (λh1=>?_)
 ·try simp only [sS]
  exact fin _ (no (by omega)) _ rfl
 try simp only [sS]
 refine ldM (v:=.int .i64 d.1) ?_;refine zby (λh2=>?_) (λh2=>?_)
 ·try simp only [sS]
  exact fin _ (no (by omega)) _ rfl
 try simp only [sS]
 refine ldM (v:=v) (zb1 hv ?_);refine zby (λh3=>?_) (λh3=>?_)
 ·try simp only [sS]
  exact fin _ (no (by omega)) _ rfl
 try simp only [sS]
 refine ldM (v:=v) (zb1 hv ?_);rw [decide_eq_true ⟨by omega,by omega,by omega⟩,Bool.true_and] at fin
 refine zq0 (σ:=Nat) (λi=>.int .i64 (zjg d.2 i)) (λi=>.int .i64 (i:Nat)) (λi h=>h=⟨F,upd M b (some (.cells 108 [.int .i64 d.1,v] 2)),b+1⟩∧i≤d.2.length∧chk 1 d.2=chk (zjg d.2 i) (d.2.drop i)∧1≤zjg d.2 i) (λi=>d.2.length - i) 0 rfl rfl
  (λhw1=>⟨_,za0 hw1,rfl,Nat.zero_le _,rfl,by simp [zjg]⟩) (λk1 i j h1' hI hw1 next=>?_)
 rw [zqf];obtain ⟨rfl,hi,he,hp⟩:=hI;refine zau (λhlt=>?_) (λhge=>?_)
 ·have h4:i<d.2.length:=by omega
  rw [ys6 h4] at he;try simp only [sS]
  refine zes hv h4 λp=>?_;refine zdv (λh5=>?_) (λh5=>?_)
  ·try simp only [sS]
   exact fin _ (by rw [he,decide_eq_false (by omega)]; rfl) _ rfl
  try simp only [sS]
  refine zby (λh6=>?_) (λh6=>?_)
  ·try simp only [sS]
   exact fin _ (by rw [he,decide_eq_false (by omega)]; rfl) _ rfl
  try simp only [sS]
  refine ysm (by omega) (by omega) ?_;refine zht (λh7=>?_) (λh7=>?_)
  ·try simp only [sS]
   exact fin _ (by rw [he,decide_eq_false (by omega)]; rfl) _ rfl
  try simp only [sS]
  refine zaq (by omega) ?_;have e2:zjg d.2 (i+1)=d.2[i]:=by unfold zjg; rw [dif_pos ⟨by omega,by omega⟩]; simp
  rw [← e2];exact next (i+1) _ _ (by omega) (λhw2=>⟨_,za0 hw2,rfl,h4,by rw [he,decide_eq_true (by omega)]; rfl,by rw [e2]; omega⟩)
 ·try simp only [sS]
  exact fin _ (by rw [he,List.drop_eq_nil_of_le (by omega)]; rfl) _ rfl
theorem ylx {cs:List Value} {d:Dm} (hd:zi0 F cs d) (k:∀ N',N≤N' -> (Hp.mk F M N').wf -> K (.bool (!zdh d)) ⟨F,M,N'⟩) :
  cF 181 #[.agg cs.toArray] K E ⟨F,M,N⟩:=by
 refine za5 mixed Tryz.func181 (by kernel_rfl) (ywe _ E _) (λhw=>?_);have hm:=hw.m;have hd':=hd;obtain ⟨v,rfl,hv,hvl⟩:=hd;refine zar (cs:=[.int .i64 d.1,v]) (λb hb=>?_);refine zbd (vs:=[.int .i64 d.1,v]) ?_;refine yla hd' (λN1 hN1 hw1=>?_);try simp only [sS]
 exact λhc=>⟨⟨F,M,N1⟩,zm0 hc,λhw'=>k _ (by omega) hw'⟩
def zca (l:List Dm):Bool:=decide (0<l.length∧l.length≤4)&&l.all zdh
theorem yjt {v:Value} {l:List Dm} (hv:zeb F v l) (hl:l.length≤140737488351232) (k:∀ (r:Int) N',N≤N' -> (Hp.mk F M N').wf -> (decide (r≥0) = !l.all zdh) -> K (.int .i64 r) ⟨F,M,N'⟩) :
  cF 243 #[v,.func (.func 181) #[] #[]] K E ⟨F,M,N⟩:=by
 refine za5 mixed Tryz.func243 (by kernel_rfl) (yu1 _ E _ _) (λhw=>?_);obtain ⟨rows,hv1,hv2⟩:=hv;refine zb1 hv1 ?_
 refine zxl (σ:=Nat) (λi=>.int .i64 (i:Nat)) (λi h=>∃ N',h=⟨F,M,N'⟩∧N≤N'∧i≤l.length∧l.all zdh=(l.drop i).all zdh) (λi=>l.length - i) 0 rfl
  (λhw1=>⟨_,za0 hw1,N,rfl,Nat.le_refl _,Nat.zero_le _,rfl⟩) (λk1 i j h1 hI hw1 next=>?_)
 rw [zy8];obtain ⟨N1,rfl,hN1,hi,he⟩:=hI;refine zau (λhlt=>?_) (λhge=>?_)
 ·have h1:i<l.length:=by omega
  try simp only [sS]
  refine zie hv1 hv2 (by decide) h1 λp r _ hR _ _=>ylx hR (λN2 hN2 hw2=>?_);rw [List.drop_eq_getElem_cons h1,List.all_cons] at he;cases hn:zdh l[i]
  ·try simp only [sS]
   refine λhc=>⟨_,za0 hc,λhw'=>k _ _ (by omega) hw' ?_⟩;rw [he,hn,decide_eq_true (by omega)]; rfl
  ·try simp only [sS]
   refine zaq (by omega) ?_;refine next (i+1) _ _ (by omega) (λhw3=>⟨_,za0 hw3,N2,rfl,by omega,by omega,?_⟩);rw [he,hn,Bool.true_and]
 ·try simp only [sS]
  refine λhc=>⟨_,za0 hc,λhw'=>k _ _ hN1 hw' ?_⟩;rw [he,List.drop_eq_nil_of_le (by omega)]; rfl
theorem yja {v:Value} {l:List Dm} (hv:zeb F v l) (hl:l.length≤140737488351232) (k:∀ N',N≤N' -> (Hp.mk F M N').wf -> K (.bool (zca l)) ⟨F,M,N'⟩) :
  cF 129 #[v] K E ⟨F,M,N⟩:=by
 refine za5 mixed Tryz.func129 (by kernel_rfl) (yy4 _ E _) (λhw=>?_);have hlv:zac v=some (.int .i64 (l.length:Nat)):=by obtain ⟨a,c,rfl⟩:=hv.form; rfl
 have fin:∀ v',v'=zca l -> ∀ N',N≤N' -> ∀ h',h'=(⟨F,M,N'⟩:Hp) -> h'.wf -> ∃ h'',h'.wk h''∧(h''.wf -> K (.bool v') h''):=λv' e N' hN h' e' hc=>by
  subst e; subst e';exact ⟨_,za0 hc,λhw'=>k _ hN hw'⟩
 unfold zca at fin;try simp only [hlv]
 try simp only [sS]
 refine zby (λh1=>?_) (λh1=>?_)
 ·try simp only [sS]
  try simp only [hlv]
  try simp only [sS]
  refine zdv (λh2=>?_) (λh2=>?_)
  ·rw [decide_eq_true ⟨by omega,by omega⟩,Bool.true_and] at fin;try simp only [sS]
   refine za5 mixed Tryz.func180 (by kernel_rfl) (yx0 _ E _ _) (λhw=>?_);refine yjt hv hl (λr N1 hN1 hw1 hr=>?_);cases ha:l.all zdh
   ·rw [ha] at hr;refine yem (by simpa using hr) λhc=>⟨_,za0 hc,λhw'=>?_⟩;try simp only [sS]
    exact fin _ (by rw [ha]) _ hN1 _ rfl
   ·rw [ha] at hr;refine zrb (by simpa using hr) λhc=>⟨_,za0 hc,λhw'=>?_⟩;try simp only [sS]
    exact fin _ (by rw [ha]) _ hN1 _ rfl
  ·try simp only [sS]
   exact fin _ (by rw [decide_eq_false (by omega)]; rfl) _ (Nat.le_refl _) _ rfl
 ·try simp only [sS]
  exact fin _ (by rw [decide_eq_false (by omega)]; rfl) _ (Nat.le_refl _) _ rfl
def byF (d:Dm) (lv:Int):Int:=if lv=0 then 1 else if lv>d.2.length then 0 else d.2.getD (lv - 1).toNat 0
def upF (d:Dm) (a b v:Int):Int:=if zdh d=false∨a<0∨b<a∨b≥d.2.length+2∨v<0 then -1 else if a=b then v else if byF d b=0 then 0 else v/(byF d b/byF d a)
theorem zwv {d:Dm} (hd:zdh d=true) {a:Int} (h0:0≤a) (h1:a≤d.2.length):0<byF d a∧byF d a≤10000:=by
 unfold zdh at hd;rw [Bool.and_eq_true] at hd;unfold byF
 split
 ·decide
 ·rename_i hne
  rw [if_neg (by omega)];have h3:(a - 1).toNat<d.2.length:=by omega
  rw [List.getD_eq_getElem?_getD,List.getElem?_eq_getElem h3];obtain ⟨x,y,_,_⟩:=znj hd.2 _ h3;simp only [Option.getD_some]; omega
theorem yrf {d:Dm} (hd:zdh d=true) {a b:Int} (h0:0≤a) (h1:a<b) (h2:b≤d.2.length):byF d a<byF d b∧byF d a ∣ byF d b:=by
 have hd':=hd;unfold zdh at hd;rw [Bool.and_eq_true] at hd;have h3:(b - 1).toNat<d.2.length:=by omega
 have eb:byF d b=d.2[(b - 1).toNat]:=by
  unfold byF;rw [if_neg (by omega),if_neg (by omega),List.getD_eq_getElem?_getD,List.getElem?_eq_getElem h3]; rfl
 obtain ⟨x,y,z,_⟩:=znj hd.2 _ h3
 by_cases ha:a=0
 ·have ea:byF d a=1:=by unfold byF; rw [if_pos ha]
  rw [ea,eb];exact ⟨x,z⟩
 ·have h4:(a - 1).toNat<d.2.length:=by omega
  have ea:byF d a=d.2[(a - 1).toNat]:=by
   unfold byF;rw [if_neg ha,if_neg (by omega),List.getD_eq_getElem?_getD,List.getElem?_eq_getElem h4]; rfl
  rw [ea,eb];obtain ⟨p,q,_⟩:=yq6 hd.2 (i:=(a - 1).toNat) (j:=(b - 1).toNat) (by omega) h3;exact ⟨p,q⟩
theorem ynk {d:Dm} (hd:zdh d=true) {a b:Int} (h0:0≤a) (h1:a<b) (h2:b≤d.2.length):0<byF d b/byF d a∧byF d b/byF d a≤10000:=by
 obtain ⟨x,y⟩:=zwv hd (a:=a) h0 (by omega);obtain ⟨z,w⟩:=zwv hd (a:=b) (by omega) h2;obtain ⟨p,q⟩:=yrf hd h0 h1 h2;refine ⟨?_,?_⟩
 ·obtain ⟨c,hc⟩:=q;rw [hc,Int.mul_ediv_cancel_left _ (by omega)];rw [hc] at z;exact Int.pos_of_mul_pos_right z (by omega)
 ·have := Int.ediv_le_self (byF d a) (show 0≤byF d b by omega); omega
def atL (l:List Dm) (a b c:List Int):List Int:=l.mapIdx λi d=>upF d (a.getD i 0) (b.getD i 0) (c.getD i 0)
def yrz (l:List Dm) (a b c:List Int):Bool:=zca l&&decide (a.length=l.length∧b.length=l.length∧c.length=l.length)
def atF (l:List Dm) (a b c:List Int):List Int:=if yrz l a b c=true then atL l a b c else []
theorem zx8 (l:List Dm) (a b c:List Int):(atL l a b c).length=l.length:=by simp [atL]
end Go.Proofs.YtlhlhpgjnjjhnaaGreatDoor.A
