import Derived.Test.YtgcmbkoejjcjlaaGreatDoorProg
import Derived.Test.YtgcmbkoejjcjlaaGreatDoorZ1
set_option maxHeartbeats 4000000
open Go Go.RowKit Go.Proofs.YtgcmbkoejjcjlaaGreatDoor.K
set_option linter.unusedVariables false
set_option maxRecDepth 100000
namespace Go.Proofs.YtgcmbkoejjcjlaaGreatDoor.T
section
variable (K:zae) (E:zat) (k1 k2 k3 k4 k5:Env→Hp→Prop) (x0 x1 x2 x3 x4 x5 x6 x7 x8 x9 x10 x11 x12 x13 x14 x15 x16 x17 x18 x19 x20 x21 x22 x23 x24 x25 x26 x27 x28 x29 x30 x31 x32 x33 x34 x35 x36 x37 x38 x39 x40 x41 x42 x43 x44 x45 x46 x47 x48 x49 x50 x51 x52 x53 x54 x55 x56 x57 x58 x59 x60 x61 x62 x63 x64 x65 x66 x67 x68 x69 x70 x71 x72 x73 x74 x75 x76 x77 x78 x79 x80 x81 x82 x83 x84 x85 x86 x87 x88 x89 x90 x91 x92 x93 x94 x95 x96 x97 x98 x99 x100 x101 x102 x103 x104 x105 x106 x107 x108 x109 x110 x111 x112 x113 x114 x115 x116 x117 x118 x119 x120 x121 x122 x123 x124 x125 x126 x127 x128 x129 x130 x131 x132 x133 x134 x135 x136 x137 x138 x139 x140 x141 x142 x143 x144 x145 x146 x147 v0 v1 v2 v3 v4 v5 v6 v7 v8 v9 v10 v11 v12 v13 v14 v15 v16 v17 v18 v19 v20 v21 v22 v23 v24 v25 v26 v27 v28 v29 v30 v31 v32 v33 v34 v35 v36 v37 v38 v39 v40 v41 v42 v43 v44 v45 v46 v47 v48 v49 v50 v51 v52 v53 v54 v55 v56 v57 v58 v59 v60 v61 v62 v63 v64 v65 v66 v67 v68 v69 v70 v71 v72 v73 v74 v75 v76 v77 v78 v79 v80 v81 v82 v83 v84 v85 v86 v87 v88 v89 v90 v91 v92 v93 v94 v95 v96 v97 v98 v99 v100 v101 v102 v103 v104 v105 v106 v107 v108 v109 v110 v111 v112 v113 v114 v115 v116 v117 v118 v119 v120 v121 v122 v123 v124 v125 v126 v127 v128 v129 v130 v131 v132 v133 v134 v135 v136 v137 v138 v139 v140 v141 v142 v143 v144 v145 v146 v147:Value) (j:Nat→Value)
abbrev q52:QD:=zab Tryz.prog Tryz.f52.results.toList K E
abbrev d52 (p:List Nat):QD→Env→Hp→Prop:=den Tryz.prog (sel (za8 Tryz.f52) p)
abbrev zz2:=za6 k1 (blk 6 (za6 (d52 [1,1,1,1,1,1] (q52 K E)) (q52 K E)))
abbrev znl:=za6 k1 (blk 4 (za6 (d52 [1,1,1,1,1] (q52 K E)) (q52 K E)))
abbrev zn2:=za6 k2 (blk 2 (za6 (d52 [1,1,1,0,1,0,0,1,0,0,1,1] (blk 1 (za6 (d52 [1,1,1,0,1,0,0,1,1] (za6 k1 (blk 0 (za6 (d52 [1,1,1,1] (q52 K E)) (q52 K E))))) (za6 k1 (blk 0 (za6 (d52 [1,1,1,1] (q52 K E)) (q52 K E))))))) (blk 1 (za6 (d52 [1,1,1,0,1,0,0,1,1] (za6 k1 (blk 0 (za6 (d52 [1,1,1,1] (q52 K E)) (q52 K E))))) (za6 k1 (blk 0 (za6 (d52 [1,1,1,1] (q52 K E)) (q52 K E))))))))
abbrev znr:=za6 k1 (blk 0 (za6 (d52 [1,1,1,1] (q52 K E)) (q52 K E)))
def zd9 (j:Nat→Value):Env:=#[x0,x1,x2,x3,x4,x5,x6,x7,x8,v9,v10,(j 11),(j 12),x13,x14,x15,x16,x17,x18,x19,x20,(j 21),(j 22),(j 23),(j 24),(j 25),(j 26),(j 27),(j 28),(j 29),(j 30),(j 31),(j 32),(j 33),(j 34),(j 35),(j 36),(j 37),(j 38),(j 39),(j 40),(j 41),(j 42),(j 43),(j 44),(j 45),(j 46),(j 47),(j 48),(j 49),(j 50),(j 51),(j 52),(j 53),(j 54),(j 55),(j 56),(j 57),(j 58),(j 59),(j 60),(j 61),(j 62),(j 63),(j 64),(j 65),(j 66),(j 67),(j 68),(j 69),(j 70),(j 71),(j 72),(j 73),(j 74),(j 75),(j 76),(j 77),(j 78),(j 79),(j 80),(j 81),(j 82),(j 83),(j 84),(j 85),(j 86),(j 87),(j 88),(j 89),(j 90),(j 91),(j 92),(j 93),(j 94),(j 95),(j 96),(j 97),(j 98),(j 99),(j 100),(j 101),(j 102),x103,x104,x105,x106,x107,x108,x109,x110,x111,x112,x113,x114,x115,x116,x117,x118,x119,x120,x121,x122,x123,x124,x125,x126,x127,x128,x129,x130,x131,x132,x133,x134,x135,x136,x137,x138,x139,x140,x141,x142,x143,x144,x145,x146,x147]
def zb4 (j:Nat→Value):Env:=#[x0,x1,x2,x3,x4,x5,x6,x7,x8,x9,x10,x11,v12,x13,x14,x15,x16,x17,x18,x19,x20,x21,x22,x23,x24,x25,x26,x27,x28,x29,x30,x31,x32,x33,x34,x35,x36,x37,x38,(j 39),(j 40),(j 41),(j 42),(j 43),(j 44),(j 45),(j 46),(j 47),(j 48),(j 49),(j 50),(j 51),(j 52),(j 53),(j 54),(j 55),(j 56),(j 57),(j 58),(j 59),(j 60),(j 61),(j 62),(j 63),(j 64),(j 65),(j 66),(j 67),(j 68),(j 69),(j 70),(j 71),(j 72),(j 73),(j 74),(j 75),(j 76),(j 77),(j 78),(j 79),(j 80),(j 81),(j 82),x83,x84,x85,x86,x87,x88,x89,x90,x91,x92,x93,x94,x95,x96,x97,x98,x99,x100,x101,x102,x103,x104,x105,x106,x107,x108,x109,x110,x111,x112,x113,x114,x115,x116,x117,x118,x119,x120,x121,x122,x123,x124,x125,x126,x127,x128,x129,x130,x131,x132,x133,x134,x135,x136,x137,x138,x139,x140,x141,x142,x143,x144,x145,x146,x147]
def zco (j:Nat→Value):Env:=#[x0,x1,x2,x3,x4,x5,x6,x7,x8,v9,x10,x11,x12,v13,x14,x15,x16,x17,x18,x19,x20,x21,x22,x23,x24,x25,x26,x27,x28,x29,x30,x31,x32,x33,x34,x35,x36,x37,x38,x39,x40,x41,x42,x43,x44,x45,x46,x47,x48,x49,x50,x51,x52,x53,x54,x55,x56,x57,x58,x59,x60,x61,x62,x63,x64,x65,x66,x67,x68,x69,x70,x71,x72,x73,x74,x75,x76,x77,x78,x79,x80,x81,x82,x83,x84,x85,x86,x87,x88,x89,x90,x91,x92,x93,x94,x95,x96,x97,x98,x99,x100,x101,x102,(j 103),(j 104),(j 105),(j 106),(j 107),(j 108),(j 109),(j 110),(j 111),(j 112),(j 113),(j 114),(j 115),(j 116),(j 117),(j 118),(j 119),(j 120),(j 121),(j 122),(j 123),(j 124),(j 125),(j 126),(j 127),x128,x129,x130,x131,x132,x133,x134,x135,x136,x137,x138,x139,x140,x141,x142,x143,x144,x145,x146,x147]
def zce (j:Nat→Value):Env:=#[x0,x1,x2,x3,x4,x5,x6,x7,(j 8),x9,x10,x11,x12,x13,v14,x15,x16,x17,x18,x19,x20,x21,x22,x23,x24,x25,x26,x27,x28,x29,x30,x31,x32,x33,x34,x35,x36,x37,x38,x39,x40,x41,x42,x43,x44,x45,x46,x47,x48,x49,x50,x51,x52,x53,x54,x55,x56,x57,x58,x59,x60,x61,x62,x63,x64,x65,x66,x67,x68,x69,x70,x71,x72,x73,x74,x75,x76,x77,x78,x79,x80,x81,x82,x83,x84,x85,x86,x87,x88,x89,x90,x91,x92,x93,x94,x95,x96,x97,x98,x99,x100,x101,x102,x103,x104,x105,x106,x107,x108,x109,x110,x111,x112,x113,x114,x115,x116,x117,x118,x119,x120,x121,x122,x123,x124,x125,x126,x127,(j 128),(j 129),(j 130),(j 131),(j 132),(j 133),(j 134),(j 135),(j 136),(j 137),(j 138),(j 139),(j 140),x141,x142,x143,x144,x145,x146,x147]
theorem t52:d52 [] (q52 K E) #[x0,x1,x2,x3,U,U,U,U,U,U,U,U,U,U,U,U,U,U,U,U,U,U,U,U,U,U,U,U,U,U,U,U,U,U,U,U,U,U,U,U,U,U,U,U,U,U,U,U,U,U,U,U,U,U,U,U,U,U,U,U,U,U,U,U,U,U,U,U,U,U,U,U,U,U,U,U,U,U,U,U,U,U,U,U,U,U,U,U,U,U,U,U,U,U,U,U,U,U,U,U,U,U,U,U,U,U,U,U,U,U,U,U,U,U,U,U,U,U,U,U,U,U,U,U,U,U,U,U,U,U,U,U,U,U,U,U,U,U,U,U,U,U,U,U,U,U,U,U] =
 za2 Tryz.prog (.func (.func 82) #[] #[]) #[x0,x1,x2,x3] (fun t1=>
 pv (unV .not t1) fun t2=>
 cnd t2 (
  K (.int .i64 1)) (
  lp (fun k1=>d52 [1,1,1,0,1,0,0] (znr K E k1)) (zd9 x0 x1 x2 x3 U U U U (.int .i64 0) U U x0 x1 x2 x3 t1 t2 U U U U U U U U U U U U U U U U U U U U U U U U U U U U U U U U U U U U U U U U U U U U U (.slice none 0 0) (.int .i64 0) (jf #[])))) E:=by kernel_rfl
theorem zqb:d52 [1,1,1,0,1,0,0] (znr K E k1) (zd9 x0 x1 x2 x3 x4 x5 x6 x7 x8 x13 x14 x15 x16 x17 x18 x19 x20 x103 x104 x105 x106 x107 x108 x109 x110 x111 x112 x113 x114 x115 x116 x117 x118 x119 x120 x121 x122 x123 x124 x125 x126 x127 x128 x129 x130 x131 x132 x133 x134 x135 x136 x137 x138 x139 x140 x141 x142 x143 x144 x145 x146 x147 v9 v10 j) =
 pv (zan x0) fun t1=>
 pv (faV 1 t1) fun t2=>
 ld false 1 t2 fun t3=>
 pv (za9 t3) fun t4=>
 pv (za1 .none .lss v10 t4) fun t5=>
 cnd t5 (
  pv (zan x0) fun t6=>
  pv (faV 1 t6) fun t7=>
  ld false 1 t7 fun t8=>
  pv (iaV none 2 t8 v10) fun t9=>
  pv (faV 0 t9) fun t10=>
  ld false 1 t10 fun t11=>
  pv (bdC #[(.int .u32 0),(.slice none 0 0)] [(0,1),(1,1)] #[(0,t11)]) fun t12=>
  nw 74 [(.int .u32 0),(.slice none 0 0)] fun t13=>
  st 2 t13 t12 fun _=>
  lp (fun k2=>d52 [1,1,1,0,1,0,0,1,0,0,1,0,1,0,0] (zn2 K E k1 k2)) (zb4 x0 x1 x2 x3 x4 x5 x6 x7 x8 v9 v10 t13 x13 x14 x15 x16 x17 x18 x19 x20 v10 x0 t1 t2 t3 t4 t5 (j 28) (j 29) x0 t6 t7 t8 v10 t9 t10 t11 t12 (j 83) (j 84) (j 85) (j 86) (j 87) (j 88) (j 89) (j 90) (j 91) (j 92) (j 93) (j 94) (j 95) (j 96) (j 97) (j 98) (j 99) (j 100) (j 101) (j 102) x103 x104 x105 x106 x107 x108 x109 x110 x111 x112 x113 x114 x115 x116 x117 x118 x119 x120 x121 x122 x123 x124 x125 x126 x127 x128 x129 x130 x131 x132 x133 x134 x135 x136 x137 x138 x139 x140 x141 x142 x143 x144 x145 x146 x147 (.int .i64 0) (jf #[U,U,U,U,U,U,U,U,U,U,U,U,U,U,U,U,U,U,U,U,U,U,U,U,U,U,U,U,U,U,U,U,U,U,U,U,U,U,U,(j 39),(j 40),(j 41),(j 42),(j 43),(j 44),(j 45),(j 46),(j 47),(j 48),(j 49),(j 50),(j 51),(j 52),(j 53),(j 54),(j 55),(j 56),(j 57),(j 58),(j 59),(j 60),(j 61),(j 62),(j 63),(j 64),(j 65),(j 66),(j 67),(j 68),(j 69),(j 70),(j 71),(j 72),(j 73),(j 74),(j 75),(j 76),(j 77),(j 78),(j 79),(j 80),(j 81),(j 82)]))) (
  lp (fun k1=>d52 [1,1,1,1,0,1,0,0] (znl K E k1)) (zco x0 x1 x2 x3 x4 x5 x6 x7 x8 v10 (j 11) (j 12) x14 x15 x16 x17 x18 x19 x20 v10 x0 t1 t2 t3 t4 t5 (j 28) (j 29) (j 30) (j 31) (j 32) (j 33) (j 34) (j 35) (j 36) (j 37) (j 38) (j 39) (j 40) (j 41) (j 42) (j 43) (j 44) (j 45) (j 46) (j 47) (j 48) (j 49) (j 50) (j 51) (j 52) (j 53) (j 54) (j 55) (j 56) (j 57) (j 58) (j 59) (j 60) (j 61) (j 62) (j 63) (j 64) (j 65) (j 66) (j 67) (j 68) (j 69) (j 70) (j 71) (j 72) (j 73) (j 74) (j 75) (j 76) (j 77) (j 78) (j 79) (j 80) (j 81) (j 82) (j 83) (j 84) (j 85) (j 86) (j 87) (j 88) (j 89) (j 90) (j 91) (j 92) (j 93) (j 94) (j 95) (j 96) (j 97) (j 98) (j 99) (j 100) (j 101) (j 102) x128 x129 x130 x131 x132 x133 x134 x135 x136 x137 x138 x139 x140 x141 x142 x143 x144 x145 x146 x147 v9 (.int .i64 0) (jf #[U,U,U,U,U,U,U,U,U,U,U,U,U,U,U,U,U,U,U,U,U,U,U,U,U,U,U,U,U,U,U,U,U,U,U,U,U,U,U,U,U,U,U,U,U,U,U,U,U,U,U,U,U,U,U,U,U,U,U,U,U,U,U,U,U,U,U,U,U,U,U,U,U,U,U,U,U,U,U,U,U,U,U,U,U,U,U,U,U,U,U,U,U,U,U,U,U,U,U,U,U,U,U,x103,x104,x105,x106,x107,x108,x109,x110,x111,x112,x113,x114,x115,x116,x117,x118,x119,x120,x121,x122,x123,x124,x125,x126,x127]))):=by kernel_rfl
theorem zhw:d52 [1,1,1,0,1,0,0,1,0,0,1,0,1,0,0] (zn2 K E k1 k2) (zb4 x0 x1 x2 x3 x4 x5 x6 x7 x8 x9 x10 x11 x13 x14 x15 x16 x17 x18 x19 x20 x21 x22 x23 x24 x25 x26 x27 x28 x29 x30 x31 x32 x33 x34 x35 x36 x37 x38 x83 x84 x85 x86 x87 x88 x89 x90 x91 x92 x93 x94 x95 x96 x97 x98 x99 x100 x101 x102 x103 x104 x105 x106 x107 x108 x109 x110 x111 x112 x113 x114 x115 x116 x117 x118 x119 x120 x121 x122 x123 x124 x125 x126 x127 x128 x129 x130 x131 x132 x133 x134 x135 x136 x137 x138 x139 x140 x141 x142 x143 x144 x145 x146 x147 v12 j) =
 pv (zan x0) fun t1=>
 pv (faV 1 t1) fun t2=>
 ld false 1 t2 fun t3=>
 pv (iaV none 2 t3 x10) fun t4=>
 pv (faV 1 t4) fun t5=>
 ld false 1 t5 fun t6=>
 pv (za9 t6) fun t7=>
 pv (za1 .none .lss v12 t7) fun t8=>
 cnd t8 (
  pv (zan x0) fun t9=>
  pv (faV 1 t9) fun t10=>
  ld false 1 t10 fun t11=>
  pv (iaV none 2 t11 x10) fun t12=>
  pv (faV 1 t12) fun t13=>
  ld false 1 t13 fun t14=>
  pv (iaV none 2 t14 v12) fun t15=>
  ld true 2 t15 fun t16=>
  za2 Tryz.prog (.func (.func 83) #[] #[]) #[t16,x1,x2] (fun t17=>
  pv (unV .not t17) fun t18=>
  cnd t18 (
  pv (faV 1 x11) fun t19=>
  ld false 1 t19 fun t20=>
  pv (zan x0) fun t21=>
  pv (faV 1 t21) fun t22=>
  ld false 1 t22 fun t23=>
  pv (iaV none 2 t23 x10) fun t24=>
  pv (faV 1 t24) fun t25=>
  ld false 1 t25 fun t26=>
  pv (iaV none 2 t26 v12) fun t27=>
  ld true 2 t27 fun t28=>
  nws 90 1 (bsC #[(.slice none 0 0),(.int .i64 0)] 2 1 #[(0,t28)]) (fun t29 h30=>(ldV h30 false 1 t19 t20)∧(
   zbf 90 2 32 t20 t29 fun t31=>
   pv (faV 1 x11) fun t32=>
   st 1 t32 t31 fun _=>
   d52 [1,1,1,0,1,0,0,1,0,0,1,0,1,0,0,1,1] (zn2 K E k1 k2) #[x0,x1,x2,x3,x4,x5,x6,x7,x8,x9,x10,x11,v12,x13,x14,x15,x16,x17,x18,x19,x20,x21,x22,x23,x24,x25,x26,x27,x28,x29,x30,x31,x32,x33,x34,x35,x36,x37,x38,v12,x0,t1,t2,t3,x10,t4,t5,t6,t7,t8,(j 50),(j 51),x0,t9,t10,t11,x10,t12,t13,t14,v12,t15,t16,x1,x2,t17,t18,t19,t20,x0,t21,t22,t23,x10,t24,t25,t26,v12,t27,t28,t29,t31,t32,x83,x84,x85,x86,x87,x88,x89,x90,x91,x92,x93,x94,x95,x96,x97,x98,x99,x100,x101,x102,x103,x104,x105,x106,x107,x108,x109,x110,x111,x112,x113,x114,x115,x116,x117,x118,x119,x120,x121,x122,x123,x124,x125,x126,x127,x128,x129,x130,x131,x132,x133,x134,x135,x136,x137,x138,x139,x140,x141,x142,x143,x144,x145,x146,x147]) h30)) (
  d52 [1,1,1,0,1,0,0,1,0,0,1,0,1,0,0,1,1] (zn2 K E k1 k2) #[x0,x1,x2,x3,x4,x5,x6,x7,x8,x9,x10,x11,v12,x13,x14,x15,x16,x17,x18,x19,x20,x21,x22,x23,x24,x25,x26,x27,x28,x29,x30,x31,x32,x33,x34,x35,x36,x37,x38,v12,x0,t1,t2,t3,x10,t4,t5,t6,t7,t8,(j 50),(j 51),x0,t9,t10,t11,x10,t12,t13,t14,v12,t15,t16,x1,x2,t17,t18,(j 67),(j 68),(j 69),(j 70),(j 71),(j 72),(j 73),(j 74),(j 75),(j 76),(j 77),(j 78),(j 79),(j 80),(j 81),(j 82),x83,x84,x85,x86,x87,x88,x89,x90,x91,x92,x93,x94,x95,x96,x97,x98,x99,x100,x101,x102,x103,x104,x105,x106,x107,x108,x109,x110,x111,x112,x113,x114,x115,x116,x117,x118,x119,x120,x121,x122,x123,x124,x125,x126,x127,x128,x129,x130,x131,x132,x133,x134,x135,x136,x137,x138,x139,x140,x141,x142,x143,x144,x145,x146,x147])) E) (
  pv (faV 1 x11) fun t33=>
  ld false 1 t33 fun t34=>
  pv (za9 t34) fun t35=>
  pv (za1 .none .gtr t35 (.int .i64 0)) fun t36=>
  gdK t36 false (fun k=>k x0) fun t37=>
  gdK t36 false (fun k=>pv (zan t37) k) fun t38=>
  gdK t36 false (fun k=>pv (faV 1 t38) k) fun t39=>
  gdK t36 false (fun k=>ld false 1 t39 k) fun t40=>
  gdK t36 false (fun k=>k x10) fun t41=>
  gdK t36 false (fun k=>pv (iaV none 2 t40 t41) k) fun t42=>
  gdK t36 false (fun k=>pv (faV 1 t42) k) fun t43=>
  gdK t36 false (fun k=>ld false 1 t43 k) fun t44=>
  gdK t36 false (fun k=>pv (za9 t44) k) fun t45=>
  gdK t36 false (fun k=>pv (za1 .none .eql t45 (.int .i64 0)) k) fun t46=>
  pv (zah t36 (.bool true) t46) fun t47=>
  cnd t47 (
  ld true 2 x11 fun t48=>
  nws 74 1 (bsC #[(.int .u32 0),(.slice none 0 0)] 2 1 #[(0,t48)]) fun t49=>
  zbf 74 2 32 x9 t49 fun t50=>
  d52 [1,1,1,0,1,0,0,1,1] (znr K E k1) #[x0,x1,x2,x3,x4,x5,x6,x7,x8,t50,x10,x11,v12,x13,x14,x15,x16,x17,x18,x19,x20,x21,x22,x23,x24,x25,x26,x27,x28,x29,x30,x31,x32,x33,x34,x35,x36,x37,x38,v12,x0,t1,t2,t3,x10,t4,t5,t6,t7,t8,(j 50),(j 51),(j 52),(j 53),(j 54),(j 55),(j 56),(j 57),(j 58),(j 59),(j 60),(j 61),(j 62),(j 63),(j 64),(j 65),(j 66),(j 67),(j 68),(j 69),(j 70),(j 71),(j 72),(j 73),(j 74),(j 75),(j 76),(j 77),(j 78),(j 79),(j 80),(j 81),(j 82),t33,t34,t35,t36,t36,t37,t38,t39,t40,t41,t42,t43,t44,t45,t46,t47,x9,t48,t49,t50,x103,x104,x105,x106,x107,x108,x109,x110,x111,x112,x113,x114,x115,x116,x117,x118,x119,x120,x121,x122,x123,x124,x125,x126,x127,x128,x129,x130,x131,x132,x133,x134,x135,x136,x137,x138,x139,x140,x141,x142,x143,x144,x145,x146,x147]) (
  d52 [1,1,1,0,1,0,0,1,1] (znr K E k1) #[x0,x1,x2,x3,x4,x5,x6,x7,x8,x9,x10,x11,v12,x13,x14,x15,x16,x17,x18,x19,x20,x21,x22,x23,x24,x25,x26,x27,x28,x29,x30,x31,x32,x33,x34,x35,x36,x37,x38,v12,x0,t1,t2,t3,x10,t4,t5,t6,t7,t8,(j 50),(j 51),(j 52),(j 53),(j 54),(j 55),(j 56),(j 57),(j 58),(j 59),(j 60),(j 61),(j 62),(j 63),(j 64),(j 65),(j 66),(j 67),(j 68),(j 69),(j 70),(j 71),(j 72),(j 73),(j 74),(j 75),(j 76),(j 77),(j 78),(j 79),(j 80),(j 81),(j 82),t33,t34,t35,t36,t36,t37,t38,t39,t40,t41,t42,t43,t44,t45,t46,t47,x99,x100,x101,x102,x103,x104,x105,x106,x107,x108,x109,x110,x111,x112,x113,x114,x115,x116,x117,x118,x119,x120,x121,x122,x123,x124,x125,x126,x127,x128,x129,x130,x131,x132,x133,x134,x135,x136,x137,x138,x139,x140,x141,x142,x143,x144,x145,x146,x147])):=by kernel_rfl
theorem zo7:d52 [1,1,1,1,0,1,0,0] (znl K E k1) (zco x0 x1 x2 x3 x4 x5 x6 x7 x8 x10 x11 x12 x14 x15 x16 x17 x18 x19 x20 x21 x22 x23 x24 x25 x26 x27 x28 x29 x30 x31 x32 x33 x34 x35 x36 x37 x38 x39 x40 x41 x42 x43 x44 x45 x46 x47 x48 x49 x50 x51 x52 x53 x54 x55 x56 x57 x58 x59 x60 x61 x62 x63 x64 x65 x66 x67 x68 x69 x70 x71 x72 x73 x74 x75 x76 x77 x78 x79 x80 x81 x82 x83 x84 x85 x86 x87 x88 x89 x90 x91 x92 x93 x94 x95 x96 x97 x98 x99 x100 x101 x102 x128 x129 x130 x131 x132 x133 x134 x135 x136 x137 x138 x139 x140 x141 x142 x143 x144 x145 x146 x147 v9 v13 j) =
 pv (za9 x3) fun t1=>
 pv (za1 .none .lss v13 t1) fun t2=>
 cnd t2 (
  pv (iaV none 2 x3 v13) fun t3=>
  pv (faV 1 t3) fun t4=>
  ld false 1 t4 fun t5=>
  pv (za9 t5) fun t6=>
  pv (za1 .none .gtr t6 (.int .i64 0)) fun t7=>
  cnd t7 (
  pv (iaV none 2 x3 v13) fun t8=>
  pv (faV 0 t8) fun t9=>
  ld false 1 t9 fun t10=>
  pv (iaV none 2 x3 v13) fun t11=>
  pv (faV 1 t11) fun t12=>
  ld false 1 t12 fun t13=>
  za2 Tryz.prog (.func (.func 84) #[] #[]) #[v9,t10,t13] (fun t14=>
  d52 [1,1,1,1,0,1,0,0,1,1] (znl K E k1) #[x0,x1,x2,x3,x4,x5,x6,x7,x8,t14,x10,x11,x12,v13,x14,x15,x16,x17,x18,x19,x20,x21,x22,x23,x24,x25,x26,x27,x28,x29,x30,x31,x32,x33,x34,x35,x36,x37,x38,x39,x40,x41,x42,x43,x44,x45,x46,x47,x48,x49,x50,x51,x52,x53,x54,x55,x56,x57,x58,x59,x60,x61,x62,x63,x64,x65,x66,x67,x68,x69,x70,x71,x72,x73,x74,x75,x76,x77,x78,x79,x80,x81,x82,x83,x84,x85,x86,x87,x88,x89,x90,x91,x92,x93,x94,x95,x96,x97,x98,x99,x100,x101,x102,v13,x3,t1,t2,(j 107),(j 108),x3,v13,t3,t4,t5,t6,t7,v9,x3,v13,t8,t9,t10,x3,v13,t11,t12,t13,t14,x128,x129,x130,x131,x132,x133,x134,x135,x136,x137,x138,x139,x140,x141,x142,x143,x144,x145,x146,x147]) E) (
  d52 [1,1,1,1,0,1,0,0,1,1] (znl K E k1) #[x0,x1,x2,x3,x4,x5,x6,x7,x8,v9,x10,x11,x12,v13,x14,x15,x16,x17,x18,x19,x20,x21,x22,x23,x24,x25,x26,x27,x28,x29,x30,x31,x32,x33,x34,x35,x36,x37,x38,x39,x40,x41,x42,x43,x44,x45,x46,x47,x48,x49,x50,x51,x52,x53,x54,x55,x56,x57,x58,x59,x60,x61,x62,x63,x64,x65,x66,x67,x68,x69,x70,x71,x72,x73,x74,x75,x76,x77,x78,x79,x80,x81,x82,x83,x84,x85,x86,x87,x88,x89,x90,x91,x92,x93,x94,x95,x96,x97,x98,x99,x100,x101,x102,v13,x3,t1,t2,(j 107),(j 108),x3,v13,t3,t4,t5,t6,t7,(j 116),(j 117),(j 118),(j 119),(j 120),(j 121),(j 122),(j 123),(j 124),(j 125),(j 126),(j 127),x128,x129,x130,x131,x132,x133,x134,x135,x136,x137,x138,x139,x140,x141,x142,x143,x144,x145,x146,x147])) (
  lp (fun k1=>d52 [1,1,1,1,1,0,1,0,0] (zz2 K E k1)) (zce x0 x1 x2 x3 x4 x5 x6 x7 v9 x10 x11 x12 v13 x15 x16 x17 x18 x19 x20 x21 x22 x23 x24 x25 x26 x27 x28 x29 x30 x31 x32 x33 x34 x35 x36 x37 x38 x39 x40 x41 x42 x43 x44 x45 x46 x47 x48 x49 x50 x51 x52 x53 x54 x55 x56 x57 x58 x59 x60 x61 x62 x63 x64 x65 x66 x67 x68 x69 x70 x71 x72 x73 x74 x75 x76 x77 x78 x79 x80 x81 x82 x83 x84 x85 x86 x87 x88 x89 x90 x91 x92 x93 x94 x95 x96 x97 x98 x99 x100 x101 x102 v13 x3 t1 t2 (j 107) (j 108) (j 109) (j 110) (j 111) (j 112) (j 113) (j 114) (j 115) (j 116) (j 117) (j 118) (j 119) (j 120) (j 121) (j 122) (j 123) (j 124) (j 125) (j 126) (j 127) x141 x142 x143 x144 x145 x146 x147 (.int .i64 0) (jf #[U,U,U,U,U,U,U,U,x8,U,U,U,U,U,U,U,U,U,U,U,U,U,U,U,U,U,U,U,U,U,U,U,U,U,U,U,U,U,U,U,U,U,U,U,U,U,U,U,U,U,U,U,U,U,U,U,U,U,U,U,U,U,U,U,U,U,U,U,U,U,U,U,U,U,U,U,U,U,U,U,U,U,U,U,U,U,U,U,U,U,U,U,U,U,U,U,U,U,U,U,U,U,U,U,U,U,U,U,U,U,U,U,U,U,U,U,U,U,U,U,U,U,U,U,U,U,U,U,x128,x129,x130,x131,x132,x133,x134,x135,x136,x137,x138,x139,x140]))):=by kernel_rfl
theorem zf6:d52 [1,1,1,0,1,0,0,1,0,0,1,0,1,0,0,1,1] (zn2 K E k1 k2) #[x0,x1,x2,x3,x4,x5,x6,x7,x8,x9,x10,x11,x12,x13,x14,x15,x16,x17,x18,x19,x20,x21,x22,x23,x24,x25,x26,x27,x28,x29,x30,x31,x32,x33,x34,x35,x36,x37,x38,x39,x40,x41,x42,x43,x44,x45,x46,x47,x48,x49,x50,x51,x52,x53,x54,x55,x56,x57,x58,x59,x60,x61,x62,x63,x64,x65,x66,x67,x68,x69,x70,x71,x72,x73,x74,x75,x76,x77,x78,x79,x80,x81,x82,x83,x84,x85,x86,x87,x88,x89,x90,x91,x92,x93,x94,x95,x96,x97,x98,x99,x100,x101,x102,x103,x104,x105,x106,x107,x108,x109,x110,x111,x112,x113,x114,x115,x116,x117,x118,x119,x120,x121,x122,x123,x124,x125,x126,x127,x128,x129,x130,x131,x132,x133,x134,x135,x136,x137,x138,x139,x140,x141,x142,x143,x144,x145,x146,x147] =
 pv (za1 .none .add x12 (.int .i64 1)) fun t1=>
 k2 (zb4 x0 x1 x2 x3 x4 x5 x6 x7 x8 x9 x10 x11 x13 x14 x15 x16 x17 x18 x19 x20 x21 x22 x23 x24 x25 x26 x27 x28 x29 x30 x31 x32 x33 x34 x35 x36 x37 x38 x83 x84 x85 x86 x87 x88 x89 x90 x91 x92 x93 x94 x95 x96 x97 x98 x99 x100 x101 x102 x103 x104 x105 x106 x107 x108 x109 x110 x111 x112 x113 x114 x115 x116 x117 x118 x119 x120 x121 x122 x123 x124 x125 x126 x127 x128 x129 x130 x131 x132 x133 x134 x135 x136 x137 x138 x139 x140 x141 x142 x143 x144 x145 x146 x147 t1 (jf #[U,U,U,U,U,U,U,U,U,U,U,U,U,U,U,U,U,U,U,U,U,U,U,U,U,U,U,U,U,U,U,U,U,U,U,U,U,U,U,x39,x40,x41,x42,x43,x44,x45,x46,x47,x48,x49,x12,t1,x52,x53,x54,x55,x56,x57,x58,x59,x60,x61,x62,x63,x64,x65,x66,x67,x68,x69,x70,x71,x72,x73,x74,x75,x76,x77,x78,x79,x80,x81,x82])):=by kernel_rfl
theorem zid:d52 [1,1,1,0,1,0,0,1,1] (znr K E k1) #[x0,x1,x2,x3,x4,x5,x6,x7,x8,x9,x10,x11,x12,x13,x14,x15,x16,x17,x18,x19,x20,x21,x22,x23,x24,x25,x26,x27,x28,x29,x30,x31,x32,x33,x34,x35,x36,x37,x38,x39,x40,x41,x42,x43,x44,x45,x46,x47,x48,x49,x50,x51,x52,x53,x54,x55,x56,x57,x58,x59,x60,x61,x62,x63,x64,x65,x66,x67,x68,x69,x70,x71,x72,x73,x74,x75,x76,x77,x78,x79,x80,x81,x82,x83,x84,x85,x86,x87,x88,x89,x90,x91,x92,x93,x94,x95,x96,x97,x98,x99,x100,x101,x102,x103,x104,x105,x106,x107,x108,x109,x110,x111,x112,x113,x114,x115,x116,x117,x118,x119,x120,x121,x122,x123,x124,x125,x126,x127,x128,x129,x130,x131,x132,x133,x134,x135,x136,x137,x138,x139,x140,x141,x142,x143,x144,x145,x146,x147] =
 pv (za1 .none .add x10 (.int .i64 1)) fun t1=>
 k1 (zd9 x0 x1 x2 x3 x4 x5 x6 x7 x8 x13 x14 x15 x16 x17 x18 x19 x20 x103 x104 x105 x106 x107 x108 x109 x110 x111 x112 x113 x114 x115 x116 x117 x118 x119 x120 x121 x122 x123 x124 x125 x126 x127 x128 x129 x130 x131 x132 x133 x134 x135 x136 x137 x138 x139 x140 x141 x142 x143 x144 x145 x146 x147 x9 t1 (jf #[U,U,U,U,U,U,U,U,U,U,U,x11,x12,U,U,U,U,U,U,U,U,x21,x22,x23,x24,x25,x26,x27,x10,t1,x30,x31,x32,x33,x34,x35,x36,x37,x38,x39,x40,x41,x42,x43,x44,x45,x46,x47,x48,x49,x50,x51,x52,x53,x54,x55,x56,x57,x58,x59,x60,x61,x62,x63,x64,x65,x66,x67,x68,x69,x70,x71,x72,x73,x74,x75,x76,x77,x78,x79,x80,x81,x82,x83,x84,x85,x86,x87,x88,x89,x90,x91,x92,x93,x94,x95,x96,x97,x98,x99,x100,x101,x102])):=by kernel_rfl
theorem zhm:d52 [1,1,1,1,0,1,0,0,1,1] (znl K E k1) #[x0,x1,x2,x3,x4,x5,x6,x7,x8,x9,x10,x11,x12,x13,x14,x15,x16,x17,x18,x19,x20,x21,x22,x23,x24,x25,x26,x27,x28,x29,x30,x31,x32,x33,x34,x35,x36,x37,x38,x39,x40,x41,x42,x43,x44,x45,x46,x47,x48,x49,x50,x51,x52,x53,x54,x55,x56,x57,x58,x59,x60,x61,x62,x63,x64,x65,x66,x67,x68,x69,x70,x71,x72,x73,x74,x75,x76,x77,x78,x79,x80,x81,x82,x83,x84,x85,x86,x87,x88,x89,x90,x91,x92,x93,x94,x95,x96,x97,x98,x99,x100,x101,x102,x103,x104,x105,x106,x107,x108,x109,x110,x111,x112,x113,x114,x115,x116,x117,x118,x119,x120,x121,x122,x123,x124,x125,x126,x127,x128,x129,x130,x131,x132,x133,x134,x135,x136,x137,x138,x139,x140,x141,x142,x143,x144,x145,x146,x147] =
 pv (za1 .none .add x13 (.int .i64 1)) fun t1=>
 k1 (zco x0 x1 x2 x3 x4 x5 x6 x7 x8 x10 x11 x12 x14 x15 x16 x17 x18 x19 x20 x21 x22 x23 x24 x25 x26 x27 x28 x29 x30 x31 x32 x33 x34 x35 x36 x37 x38 x39 x40 x41 x42 x43 x44 x45 x46 x47 x48 x49 x50 x51 x52 x53 x54 x55 x56 x57 x58 x59 x60 x61 x62 x63 x64 x65 x66 x67 x68 x69 x70 x71 x72 x73 x74 x75 x76 x77 x78 x79 x80 x81 x82 x83 x84 x85 x86 x87 x88 x89 x90 x91 x92 x93 x94 x95 x96 x97 x98 x99 x100 x101 x102 x128 x129 x130 x131 x132 x133 x134 x135 x136 x137 x138 x139 x140 x141 x142 x143 x144 x145 x146 x147 x9 t1 (jf #[U,U,U,U,U,U,U,U,U,U,U,U,U,U,U,U,U,U,U,U,U,U,U,U,U,U,U,U,U,U,U,U,U,U,U,U,U,U,U,U,U,U,U,U,U,U,U,U,U,U,U,U,U,U,U,U,U,U,U,U,U,U,U,U,U,U,U,U,U,U,U,U,U,U,U,U,U,U,U,U,U,U,U,U,U,U,U,U,U,U,U,U,U,U,U,U,U,U,U,U,U,U,U,x103,x104,x105,x106,x13,t1,x109,x110,x111,x112,x113,x114,x115,x116,x117,x118,x119,x120,x121,x122,x123,x124,x125,x126,x127])):=by kernel_rfl
theorem zmi:d52 [1,1,1,1,1,0,1,0,0] (zz2 K E k1) (zce x0 x1 x2 x3 x4 x5 x6 x7 x9 x10 x11 x12 x13 x15 x16 x17 x18 x19 x20 x21 x22 x23 x24 x25 x26 x27 x28 x29 x30 x31 x32 x33 x34 x35 x36 x37 x38 x39 x40 x41 x42 x43 x44 x45 x46 x47 x48 x49 x50 x51 x52 x53 x54 x55 x56 x57 x58 x59 x60 x61 x62 x63 x64 x65 x66 x67 x68 x69 x70 x71 x72 x73 x74 x75 x76 x77 x78 x79 x80 x81 x82 x83 x84 x85 x86 x87 x88 x89 x90 x91 x92 x93 x94 x95 x96 x97 x98 x99 x100 x101 x102 x103 x104 x105 x106 x107 x108 x109 x110 x111 x112 x113 x114 x115 x116 x117 x118 x119 x120 x121 x122 x123 x124 x125 x126 x127 x141 x142 x143 x144 x145 x146 x147 v14 j) =
 pv (za9 x9) fun t1=>
 pv (za1 .none .lss v14 t1) fun t2=>
 cnd t2 (
  pv (iaV none 2 x9 v14) fun t3=>
  pv (faV 1 t3) fun t4=>
  ld false 1 t4 fun t5=>
  pv (za9 t5) fun t6=>
  pv (za1 .none .gtr t6 (.int .i64 200)) fun t7=>
  cnd t7 (
  K (.int .i64 3)) (
  pv (za1 .none .add v14 (.int .i64 1)) fun t8=>
  k1 (zce x0 x1 x2 x3 x4 x5 x6 x7 x9 x10 x11 x12 x13 x15 x16 x17 x18 x19 x20 x21 x22 x23 x24 x25 x26 x27 x28 x29 x30 x31 x32 x33 x34 x35 x36 x37 x38 x39 x40 x41 x42 x43 x44 x45 x46 x47 x48 x49 x50 x51 x52 x53 x54 x55 x56 x57 x58 x59 x60 x61 x62 x63 x64 x65 x66 x67 x68 x69 x70 x71 x72 x73 x74 x75 x76 x77 x78 x79 x80 x81 x82 x83 x84 x85 x86 x87 x88 x89 x90 x91 x92 x93 x94 x95 x96 x97 x98 x99 x100 x101 x102 x103 x104 x105 x106 x107 x108 x109 x110 x111 x112 x113 x114 x115 x116 x117 x118 x119 x120 x121 x122 x123 x124 x125 x126 x127 x141 x142 x143 x144 x145 x146 x147 t8 (jf #[U,U,U,U,U,U,U,U,(j 8),U,U,U,U,U,U,U,U,U,U,U,U,U,U,U,U,U,U,U,U,U,U,U,U,U,U,U,U,U,U,U,U,U,U,U,U,U,U,U,U,U,U,U,U,U,U,U,U,U,U,U,U,U,U,U,U,U,U,U,U,U,U,U,U,U,U,U,U,U,U,U,U,U,U,U,U,U,U,U,U,U,U,U,U,U,U,U,U,U,U,U,U,U,U,U,U,U,U,U,U,U,U,U,U,U,U,U,U,U,U,U,U,U,U,U,U,U,U,U,v14,x9,t1,t2,v14,t8,x9,v14,t3,t4,t5,t6,t7])))) (
  pv (za9 x9) fun t9=>
  pv (za1 .none .gtr t9 (.int .i64 5000)) fun t10=>
  cnd t10 (
  K (.int .i64 3)) (
  pv (zan x0) fun t11=>
  pv (faV 1 t11) fun t12=>
  st 1 t12 x9 fun _=>
  K (.int .i64 0))):=by kernel_rfl
abbrev q53:QD:=zab Tryz.prog Tryz.f53.results.toList K E
abbrev d53 (p:List Nat):QD→Env→Hp→Prop:=den Tryz.prog (sel (za8 Tryz.f53) p)
theorem t53:d53 [] (q53 K E) #[x0,x1,U,U,U,U,U,U,U] =
 za2 Tryz.prog (.func (.func 85) #[] #[]) #[x0,x1] (fun t1=>
 pv (za1 .none .geq t1 (.int .i64 0)) fun t2=>
 K t2) E:=by kernel_rfl
abbrev q54:QD:=zab Tryz.prog Tryz.f54.results.toList K E
abbrev d54 (p:List Nat):QD→Env→Hp→Prop:=den Tryz.prog (sel (za8 Tryz.f54) p)
theorem t54:d54 [] (q54 K E) #[x0,x1,U,U,U,U,U,U,U,U,U,U] =
 nw 90 (Value.cells x0).toList fun t1=>
 ld false 1 x1 fun t2=>
 pv (zan t2) fun t3=>
 pv (faV 1 t3) fun t4=>
 ld false 1 t4 fun t5=>
 pv (faV 0 t1) fun t6=>
 ld false 1 t6 fun t7=>
 za2 Tryz.prog (.func (.func 55) #[] #[]) #[t5,t7] (fun t8=>
 pv (unV .not t8) fun t9=>
 K t9) E:=by kernel_rfl
abbrev q55:QD:=zab Tryz.prog Tryz.f55.results.toList K E
abbrev d55 (p:List Nat):QD→Env→Hp→Prop:=den Tryz.prog (sel (za8 Tryz.f55) p)
theorem t55:d55 [] (q55 K E) #[x0,x1,U,U,U,U,U,U] =
 za2 Tryz.prog (.func (.func 86) #[] #[]) #[x0,x1,(.func (.func 87) #[] #[])] (fun t1=>
 K t1) E:=by kernel_rfl
abbrev q56:QD:=zab Tryz.prog Tryz.f56.results.toList K E
abbrev d56 (p:List Nat):QD→Env→Hp→Prop:=den Tryz.prog (sel (za8 Tryz.f56) p)
abbrev zz8:=za6 k1 (blk 0 (za6 (d56 [1,1] (q56 K E)) (q56 K E)))
def zfg (j:Nat→Value):Env:=#[x0,x1,x2,x3,(j 4),v5,(j 6),(j 7),(j 8),(j 9),(j 10),(j 11),(j 12),(j 13),(j 14),(j 15),(j 16),(j 17),(j 18),(j 19),(j 20),(j 21),(j 22),(j 23),(j 24),(j 25),(j 26),(j 27),(j 28),(j 29),(j 30),(j 31),(j 32),(j 33),(j 34),x35,x36,x37,x38,x39]
theorem t56:d56 [] (q56 K E) #[x0,x1,U,U,U,U,U,U,U,U,U,U,U,U,U,U,U,U,U,U,U,U,U,U,U,U,U,U,U,U,U,U,U,U,U,U,U,U,U,U] =
 lp (fun k1=>d56 [1,0,1,0,0] (zz8 K E k1)) (zfg x0 x1 U U U U U U U (.int .i64 0) (jf #[U,U,U,U,(.bool false)])):=by kernel_rfl
theorem zy3:d56 [1,0,1,0,0] (zz8 K E k1) (zfg x0 x1 x2 x3 x35 x36 x37 x38 x39 v5 j) =
 pv (za9 x0) fun t1=>
 pv (za1 .none .lss v5 t1) fun t2=>
 gdK t2 true (fun k=>k v5) fun t3=>
 gdK t2 true (fun k=>k x1) fun t4=>
 gdK t2 true (fun k=>pv (za9 t4) k) fun t5=>
 gdK t2 true (fun k=>pv (za1 .none .lss t3 t5) k) fun t6=>
 pv (zah t2 t6 (.bool false)) fun t7=>
 cnd t7 (
  pv (iaV none 1 x1 v5) fun t8=>
  ld false 1 t8 fun t9=>
  pv (za1 .none .lss t9 (.int .i64 0)) fun t10=>
  gdK t10 false (fun k=>k x1) fun t11=>
  gdK t10 false (fun k=>k v5) fun t12=>
  gdK t10 false (fun k=>pv (iaV none 1 t11 t12) k) fun t13=>
  gdK t10 false (fun k=>ld false 1 t13 k) fun t14=>
  gdK t10 false (fun k=>k x0) fun t15=>
  gdK t10 false (fun k=>k v5) fun t16=>
  gdK t10 false (fun k=>pv (iaV none 2 t15 t16) k) fun t17=>
  gdK t10 false (fun k=>pv (faV 0 t17) k) fun t18=>
  gdK t10 false (fun k=>ld false 1 t18 k) fun t19=>
  gdK t10 false (fun k=>pv (za1 .none .geq t14 t19) k) fun t20=>
  pv (zah t10 (.bool true) t20) fun t21=>
  cnd t21 (
  K (.bool false)) (
  pv (za1 .none .add v5 (.int .i64 1)) fun t22=>
  k1 (zfg x0 x1 x2 x3 x35 x36 x37 x38 x39 t22 (jf #[U,U,U,U,(j 4),U,v5,x0,t1,t2,t2,t3,t4,t5,t6,t7,v5,t22,x1,v5,t8,t9,t10,t10,t11,t12,t13,t14,t15,t16,t17,t18,t19,t20,t21])))) (
  pv (za9 x0) fun t23=>
  pv (za9 x1) fun t24=>
  pv (za1 .none .eql t23 t24) fun t25=>
  K t25):=by kernel_rfl
abbrev q58:QD:=zab Tryz.prog Tryz.f58.results.toList K E
abbrev d58 (p:List Nat):QD→Env→Hp→Prop:=den Tryz.prog (sel (za8 Tryz.f58) p)
theorem t58:d58 [] (q58 K E) #[x0,x1,U,U,U,U,U,U,U,U,U,U] =
 za2 Tryz.prog (.func (.func 88) #[] #[]) #[(.slice none 0 0),x0] (fun t1=>
 bs t1 fun t2=>
 za2 Tryz.prog (.func (.func 88) #[] #[]) #[(.slice none 0 0),x1] (fun t3 h4=>(bsV h4 t1 t2)∧(
  bs t3 fun t5=>
  pv (za1 .none .eql t2 t5) fun t6=>
  K t6) h4) E) E:=by kernel_rfl
abbrev q59:QD:=zab Tryz.prog Tryz.f59.results.toList K E
abbrev d59 (p:List Nat):QD→Env→Hp→Prop:=den Tryz.prog (sel (za8 Tryz.f59) p)
abbrev znt:=za6 k2 (blk 2 (za6 (d59 [1,1,0,1,0,0,1,0,0,1,1] (blk 1 (za6 (d59 [1,1,0,1,0,0,1,1] (za6 k1 (blk 0 (za6 (d59 [1,1,1] (q59 K E)) (q59 K E))))) (za6 k1 (blk 0 (za6 (d59 [1,1,1] (q59 K E)) (q59 K E))))))) (blk 1 (za6 (d59 [1,1,0,1,0,0,1,1] (za6 k1 (blk 0 (za6 (d59 [1,1,1] (q59 K E)) (q59 K E))))) (za6 k1 (blk 0 (za6 (d59 [1,1,1] (q59 K E)) (q59 K E))))))))
abbrev zn8:=za6 k1 (blk 0 (za6 (d59 [1,1,1] (q59 K E)) (q59 K E)))
def zem (j:Nat→Value):Env:=#[x0,x1,x2,x3,x4,x5,x6,v7,v8,(j 9),(j 10),(j 11),(j 12),(j 13),(j 14),(j 15),(j 16),(j 17),(j 18),(j 19),(j 20),(j 21),(j 22),(j 23),(j 24),(j 25),(j 26),(j 27),(j 28),(j 29),(j 30),(j 31),(j 32),(j 33),(j 34),(j 35),(j 36),(j 37),(j 38),(j 39),(j 40),(j 41),(j 42),(j 43),(j 44),(j 45),(j 46),(j 47),(j 48),(j 49),(j 50),(j 51),(j 52),(j 53),(j 54),(j 55),(j 56),(j 57),(j 58),(j 59),(j 60),(j 61),(j 62),(j 63),(j 64),(j 65),(j 66),(j 67),(j 68),(j 69),(j 70),(j 71),(j 72),(j 73),(j 74),(j 75),(j 76),(j 77),x78]
def zbg (j:Nat→Value):Env:=#[x0,x1,x2,x3,x4,x5,x6,x7,x8,v9,v10,x11,x12,x13,x14,x15,x16,x17,x18,x19,(j 20),(j 21),(j 22),(j 23),(j 24),(j 25),(j 26),(j 27),(j 28),(j 29),(j 30),(j 31),(j 32),(j 33),(j 34),(j 35),(j 36),(j 37),(j 38),(j 39),(j 40),(j 41),(j 42),(j 43),(j 44),(j 45),(j 46),(j 47),(j 48),(j 49),(j 50),(j 51),(j 52),(j 53),(j 54),(j 55),(j 56),(j 57),(j 58),(j 59),(j 60),x61,x62,x63,x64,x65,x66,x67,x68,x69,x70,x71,x72,x73,x74,x75,x76,x77,x78]
theorem t59:d59 [] (q59 K E) #[x0,x1,x2,U,U,U,U,U,U,U,U,U,U,U,U,U,U,U,U,U,U,U,U,U,U,U,U,U,U,U,U,U,U,U,U,U,U,U,U,U,U,U,U,U,U,U,U,U,U,U,U,U,U,U,U,U,U,U,U,U,U,U,U,U,U,U,U,U,U,U,U,U,U,U,U,U,U,U,U] =
 lp (fun k1=>d59 [1,1,0,1,0,0] (zn8 K E k1)) (zem x0 x1 x2 U U U (.slice none 0 0) U (.slice none 0 0) (.int .i64 0) (jf #[])):=by kernel_rfl
theorem zu5:d59 [1,1,0,1,0,0] (zn8 K E k1) (zem x0 x1 x2 x3 x4 x5 x6 x78 v7 v8 j) =
 pv (zan x0) fun t1=>
 pv (faV 1 t1) fun t2=>
 ld false 1 t2 fun t3=>
 pv (za9 t3) fun t4=>
 pv (za1 .none .lss v8 t4) fun t5=>
 cnd t5 (
  lp (fun k2=>d59 [1,1,0,1,0,0,1,0,0,1,0,1,0,0] (znt K E k1 k2)) (zbg x0 x1 x2 x3 x4 x5 x6 v7 v8 v8 x0 t1 t2 t3 t4 t5 (j 18) (j 19) (j 61) (j 62) (j 63) (j 64) (j 65) (j 66) (j 67) (j 68) (j 69) (j 70) (j 71) (j 72) (j 73) (j 74) (j 75) (j 76) (j 77) x78 (.slice none 0 0) (.int .i64 0) (jf #[U,U,U,U,U,U,U,U,U,U,U,U,U,U,U,U,U,U,U,U,(j 20),(j 21),(j 22),(j 23),(j 24),(j 25),(j 26),(j 27),(j 28),(j 29),(j 30),(j 31),(j 32),(j 33),(j 34),(j 35),(j 36),(j 37),(j 38),(j 39),(j 40),(j 41),(j 42),(j 43),(j 44),(j 45),(j 46),(j 47),(j 48),(j 49),(j 50),(j 51),(j 52),(j 53),(j 54),(j 55),(j 56),(j 57),(j 58),(j 59),(j 60)]))) (
  K v7):=by kernel_rfl
theorem zil:d59 [1,1,0,1,0,0,1,0,0,1,0,1,0,0] (znt K E k1 k2) (zbg x0 x1 x2 x3 x4 x5 x6 x7 x8 x11 x12 x13 x14 x15 x16 x17 x18 x19 x61 x62 x63 x64 x65 x66 x67 x68 x69 x70 x71 x72 x73 x74 x75 x76 x77 x78 v9 v10 j) =
 pv (zan x0) fun t1=>
 pv (faV 1 t1) fun t2=>
 ld false 1 t2 fun t3=>
 pv (iaV none 2 t3 x8) fun t4=>
 pv (faV 1 t4) fun t5=>
 ld false 1 t5 fun t6=>
 pv (za9 t6) fun t7=>
 pv (za1 .none .lss v10 t7) fun t8=>
 cnd t8 (
  pv (zan x0) fun t9=>
  pv (faV 1 t9) fun t10=>
  ld false 1 t10 fun t11=>
  pv (iaV none 2 t11 x8) fun t12=>
  pv (faV 1 t12) fun t13=>
  ld false 1 t13 fun t14=>
  pv (iaV none 2 t14 v10) fun t15=>
  ld true 2 t15 fun t16=>
  za2 Tryz.prog (.func (.func 83) #[] #[]) #[t16,x1,x2] (fun t17=>
  cnd t17 (
  pv (zan x0) fun t18=>
  pv (faV 1 t18) fun t19=>
  ld false 1 t19 fun t20=>
  pv (iaV none 2 t20 x8) fun t21=>
  pv (faV 1 t21) fun t22=>
  ld false 1 t22 fun t23=>
  pv (iaV none 2 t23 v10) fun t24=>
  ld true 2 t24 fun t25=>
  nws 90 1 (bsC #[(.slice none 0 0),(.int .i64 0)] 2 1 #[(0,t25)]) fun t26=>
  zbf 90 2 32 v9 t26 fun t27=>
  d59 [1,1,0,1,0,0,1,0,0,1,0,1,0,0,1,1] (znt K E k1 k2) #[x0,x1,x2,x3,x4,x5,x6,x7,x8,t27,v10,x11,x12,x13,x14,x15,x16,x17,x18,x19,v10,x0,t1,t2,t3,x8,t4,t5,t6,t7,t8,(j 31),(j 32),x0,t9,t10,t11,x8,t12,t13,t14,v10,t15,t16,x1,x2,t17,v9,x0,t18,t19,t20,x8,t21,t22,t23,v10,t24,t25,t26,t27,x61,x62,x63,x64,x65,x66,x67,x68,x69,x70,x71,x72,x73,x74,x75,x76,x77,x78]) (
  d59 [1,1,0,1,0,0,1,0,0,1,0,1,0,0,1,1] (znt K E k1 k2) #[x0,x1,x2,x3,x4,x5,x6,x7,x8,v9,v10,x11,x12,x13,x14,x15,x16,x17,x18,x19,v10,x0,t1,t2,t3,x8,t4,t5,t6,t7,t8,(j 31),(j 32),x0,t9,t10,t11,x8,t12,t13,t14,v10,t15,t16,x1,x2,t17,(j 47),(j 48),(j 49),(j 50),(j 51),(j 52),(j 53),(j 54),(j 55),(j 56),(j 57),(j 58),(j 59),(j 60),x61,x62,x63,x64,x65,x66,x67,x68,x69,x70,x71,x72,x73,x74,x75,x76,x77,x78])) E) (
  pv (za9 v9) fun t28=>
  pv (za1 .none .gtr t28 (.int .i64 0)) fun t29=>
  cnd t29 (
  pv (zan x0) fun t30=>
  pv (faV 1 t30) fun t31=>
  ld false 1 t31 fun t32=>
  pv (iaV none 2 t32 x8) fun t33=>
  pv (faV 0 t33) fun t34=>
  ld false 1 t34 fun t35=>
  za2 Tryz.prog (.func (.func 50) #[] #[]) #[v9] (fun t36 h37=>(ldV h37 false 1 t34 t35)∧(ldV h37 false 1 t31 t32)∧(
   pv (bdC #[(.int .u32 0),(.slice none 0 0)] [(0,1),(1,1)] #[(0,t35),(1,t36)]) fun t38=>
   nws 74 1 (bsC #[(.int .u32 0),(.slice none 0 0)] 2 1 #[(0,t38)]) fun t39=>
   zbf 74 2 32 x7 t39 fun t40=>
   d59 [1,1,0,1,0,0,1,1] (zn8 K E k1) #[x0,x1,x2,x3,x4,x5,x6,t40,x8,v9,v10,x11,x12,x13,x14,x15,x16,x17,x18,x19,v10,x0,t1,t2,t3,x8,t4,t5,t6,t7,t8,(j 31),(j 32),(j 33),(j 34),(j 35),(j 36),(j 37),(j 38),(j 39),(j 40),(j 41),(j 42),(j 43),(j 44),(j 45),(j 46),(j 47),(j 48),(j 49),(j 50),(j 51),(j 52),(j 53),(j 54),(j 55),(j 56),(j 57),(j 58),(j 59),(j 60),v9,t28,t29,x7,x0,t30,t31,t32,x8,t33,t34,t35,v9,t36,t38,t39,t40,x78]) h37) E) (
  d59 [1,1,0,1,0,0,1,1] (zn8 K E k1) #[x0,x1,x2,x3,x4,x5,x6,x7,x8,v9,v10,x11,x12,x13,x14,x15,x16,x17,x18,x19,v10,x0,t1,t2,t3,x8,t4,t5,t6,t7,t8,(j 31),(j 32),(j 33),(j 34),(j 35),(j 36),(j 37),(j 38),(j 39),(j 40),(j 41),(j 42),(j 43),(j 44),(j 45),(j 46),(j 47),(j 48),(j 49),(j 50),(j 51),(j 52),(j 53),(j 54),(j 55),(j 56),(j 57),(j 58),(j 59),(j 60),v9,t28,t29,x64,x65,x66,x67,x68,x69,x70,x71,x72,x73,x74,x75,x76,x77,x78])):=by kernel_rfl
theorem zfe:d59 [1,1,0,1,0,0,1,0,0,1,0,1,0,0,1,1] (znt K E k1 k2) #[x0,x1,x2,x3,x4,x5,x6,x7,x8,x9,x10,x11,x12,x13,x14,x15,x16,x17,x18,x19,x20,x21,x22,x23,x24,x25,x26,x27,x28,x29,x30,x31,x32,x33,x34,x35,x36,x37,x38,x39,x40,x41,x42,x43,x44,x45,x46,x47,x48,x49,x50,x51,x52,x53,x54,x55,x56,x57,x58,x59,x60,x61,x62,x63,x64,x65,x66,x67,x68,x69,x70,x71,x72,x73,x74,x75,x76,x77,x78] =
 pv (za1 .none .add x10 (.int .i64 1)) fun t1=>
 k2 (zbg x0 x1 x2 x3 x4 x5 x6 x7 x8 x11 x12 x13 x14 x15 x16 x17 x18 x19 x61 x62 x63 x64 x65 x66 x67 x68 x69 x70 x71 x72 x73 x74 x75 x76 x77 x78 x9 t1 (jf #[U,U,U,U,U,U,U,U,U,U,U,U,U,U,U,U,U,U,U,U,x20,x21,x22,x23,x24,x25,x26,x27,x28,x29,x30,x10,t1,x33,x34,x35,x36,x37,x38,x39,x40,x41,x42,x43,x44,x45,x46,x47,x48,x49,x50,x51,x52,x53,x54,x55,x56,x57,x58,x59,x60])):=by kernel_rfl
theorem zjb:d59 [1,1,0,1,0,0,1,1] (zn8 K E k1) #[x0,x1,x2,x3,x4,x5,x6,x7,x8,x9,x10,x11,x12,x13,x14,x15,x16,x17,x18,x19,x20,x21,x22,x23,x24,x25,x26,x27,x28,x29,x30,x31,x32,x33,x34,x35,x36,x37,x38,x39,x40,x41,x42,x43,x44,x45,x46,x47,x48,x49,x50,x51,x52,x53,x54,x55,x56,x57,x58,x59,x60,x61,x62,x63,x64,x65,x66,x67,x68,x69,x70,x71,x72,x73,x74,x75,x76,x77,x78] =
 pv (za1 .none .add x8 (.int .i64 1)) fun t1=>
 k1 (zem x0 x1 x2 x3 x4 x5 x6 x78 x7 t1 (jf #[U,U,U,U,U,U,U,U,U,x9,x10,x11,x12,x13,x14,x15,x16,x17,x8,t1,x20,x21,x22,x23,x24,x25,x26,x27,x28,x29,x30,x31,x32,x33,x34,x35,x36,x37,x38,x39,x40,x41,x42,x43,x44,x45,x46,x47,x48,x49,x50,x51,x52,x53,x54,x55,x56,x57,x58,x59,x60,x61,x62,x63,x64,x65,x66,x67,x68,x69,x70,x71,x72,x73,x74,x75,x76,x77])):=by kernel_rfl
abbrev q64:QD:=zab Tryz.prog Tryz.f64.results.toList K E
abbrev d64 (p:List Nat):QD→Env→Hp→Prop:=den Tryz.prog (sel (za8 Tryz.f64) p)
theorem t64:d64 [] (q64 K E) #[x0,U,U,U,U,U,U,U,U,U,U,U,U,U,U,U] =
 pv (za9 x0) fun t1=>
 pv (za1 .none .gtr t1 (.int .i64 0)) fun t2=>
 gdK t2 true (fun k=>k x0) fun t3=>
 gdK t2 true (fun k=>pv (za9 t3) k) fun t4=>
 gdK t2 true (fun k=>pv (za1 .none .leq t4 (.int .i64 4)) k) fun t5=>
 pv (zah t2 t5 (.bool false)) fun t6=>
 gdK t6 true (fun k=>k x0) fun t7=>
 gdK t6 true (fun k=>za2 Tryz.prog (.func (.func 90) #[] #[]) #[t7,(.func (.func 91) #[] #[])] k E) fun t8=>
 gdK t6 true (fun k=>pv (unV .not t8) k) fun t9=>
 pv (zah t6 t9 (.bool false)) fun t10=>
 K t10:=by kernel_rfl
abbrev q65:QD:=zab Tryz.prog Tryz.f65.results.toList K E
abbrev d65 (p:List Nat):QD→Env→Hp→Prop:=den Tryz.prog (sel (za8 Tryz.f65) p)
theorem t65:d65 [] (q65 K E) #[x0,U,U,U,U,U,U,U] =
 pv (za1 .slc .eql x0 (.slice none 0 0)) fun t1=>
 cnd t1 (
  K (.slice none 0 0)) (
  nws 3 0 (bsC #[(.int .i64 0)] 1 0 #[]) fun t2=>
  zbf 3 1 8 t2 x0 fun t3=>
  K t3):=by kernel_rfl
abbrev q66:QD:=zab Tryz.prog Tryz.f66.results.toList K E
abbrev d66 (p:List Nat):QD→Env→Hp→Prop:=den Tryz.prog (sel (za8 Tryz.f66) p)
theorem t66:d66 [] (q66 K E) #[x0,x1,x2,U,U,U,U,U,U,U,U,U,U,U,U,U,U,U,U,U,U,U,U,U,U,U,U,U,U,U,U,U,U,U,U,U,U,U,U,U,U,U,U,U] =
 pv (zan x0) fun t1=>
 pv (faV 0 t1) fun t2=>
 ld false 1 t2 fun t3=>
 za2 Tryz.prog (.func (.func 72) #[] #[]) #[t3,x1] (fun t4=>
 pv (exV 0 t4) fun t5=>
 pv (exV 1 t4) fun t6=>
 za2 Tryz.prog (.func (.func 27) #[] #[]) #[x0,x2] (fun t7=>
 pv (unV .not t7) fun t8=>
 cnd t8 (
  K (.int .u16 1)) (
  pv (za1 .none .eql x1 (.int .u32 0)) fun t9=>
  cnd t9 (
  d66 [1,1,0,0,1,1,1] (blk 0 (za6 (d66 [1,1,1] (q66 K E)) (q66 K E))) #[x0,x1,x2,U,U,U,(.int .u16 0),t5,t6,t4,x0,t1,t2,t3,x1,t4,t5,t6,t8,x0,x2,t7,t8,t9,x1,t9,U,U,U,U,U,U,U,U,U,U,U,U,U,U,U,U,U,U]) (
  d66 [1,1,0,0,1,1,1] (blk 0 (za6 (d66 [1,1,1] (q66 K E)) (q66 K E))) #[x0,x1,x2,U,U,U,(.int .u16 0),t5,t6,t4,x0,t1,t2,t3,x1,t4,t5,t6,t8,x0,x2,t7,t8,t6,x1,t9,t6,U,U,U,U,U,U,U,U,U,U,U,U,U,U,U,U,U]))) E) E:=by kernel_rfl
theorem zk9:d66 [1,1,0,0,1,1,1] (blk 0 (za6 (d66 [1,1,1] (q66 K E)) (q66 K E))) #[x0,x1,x2,x3,x4,x5,x6,x7,x8,x9,x10,x11,x12,x13,x14,x15,x16,x17,x18,x19,x20,x21,x22,x23,x24,x25,x26,x27,x28,x29,x30,x31,x32,x33,x34,x35,x36,x37,x38,x39,x40,x41,x42,x43] =
 cnd x23 (
  K (.int .u16 130)) (
  pv (zan x0) fun t1=>
  pv (faV 0 t1) fun t2=>
  ld false 1 t2 fun t3=>
  pv (za9 t3) fun t4=>
  pv (za1 .none .geq t4 (.int .i64 5000)) fun t5=>
  cnd t5 (
  K (.int .u16 3)) (
  pv (zan x0) fun t6=>
  pv (faV 0 t6) fun t7=>
  ld false 1 t7 fun t8=>
  za2 Tryz.prog (.func (.func 93) #[] #[]) #[t8,x1,x2] (fun t9=>
  pv (zan x0) fun t10=>
  pv (faV 0 t10) fun t11=>
  st 1 t11 t9 fun _=>
  K (.int .u16 0)) E)):=by kernel_rfl
abbrev q67:QD:=zab Tryz.prog Tryz.f67.results.toList K E
abbrev d67 (p:List Nat):QD→Env→Hp→Prop:=den Tryz.prog (sel (za8 Tryz.f67) p)
abbrev znm:=za6 k1 (blk 2 (za6 (d67 [1,1,1,1,1,1] (q67 K E)) (q67 K E)))
abbrev znh:=za6 k1 (blk 0 (za6 (d67 [1,1,1,1,1] (q67 K E)) (q67 K E)))
def zcp (j:Nat→Value):Env:=#[x0,x1,x2,x3,x4,x5,x6,x7,x8,x9,v10,x11,(j 12),(j 13),x14,x15,x16,x17,x18,x19,x20,x21,x22,x23,x24,x25,x26,x27,x28,x29,v30,(j 31),(j 32),(j 33),(j 34),(j 35),(j 36),(j 37),(j 38),(j 39),(j 40),(j 41),(j 42),(j 43),(j 44),(j 45),(j 46),(j 47),(j 48),(j 49),(j 50),(j 51),(j 52),(j 53),(j 54),x55,x56,x57,x58,x59,x60,x61,x62,x63,x64,x65,x66,x67,x68,x69,x70,x71,x72,x73,x74,x75,x76,x77,x78,x79,x80,x81,x82,x83]
def zcc (j:Nat→Value):Env:=#[x0,x1,x2,x3,x4,x5,x6,x7,x8,x9,v10,x11,x12,x13,x14,(j 15),x16,x17,x18,x19,x20,x21,x22,x23,x24,x25,x26,x27,x28,x29,x30,x31,x32,x33,x34,x35,x36,x37,x38,x39,x40,x41,x42,x43,x44,x45,x46,x47,x48,x49,x50,x51,x52,x53,x54,x55,x56,v57,(j 58),(j 59),(j 60),(j 61),(j 62),(j 63),(j 64),(j 65),(j 66),(j 67),(j 68),(j 69),(j 70),(j 71),x72,x73,x74,x75,x76,x77,x78,x79,x80,x81,x82,x83]
theorem t67:d67 [] (q67 K E) #[x0,x1,x2,x3,U,U,U,U,U,U,U,U,U,U,U,U,U,U,U,U,U,U,U,U,U,U,U,U,U,U,U,U,U,U,U,U,U,U,U,U,U,U,U,U,U,U,U,U,U,U,U,U,U,U,U,U,U,U,U,U,U,U,U,U,U,U,U,U,U,U,U,U,U,U,U,U,U,U,U,U,U,U,U,U] =
 za2 Tryz.prog (.func (.func 46) #[] #[]) #[x1,x2] (fun t1=>
 za2 Tryz.prog (.func (.func 94) #[] #[]) #[x0,t1,x3] (fun t2=>
 pv (unV .not t2) fun t3=>
 cnd t3 (
  K (.int .u16 1)) (
  pv (zan x0) fun t4=>
  pv (faV 0 t4) fun t5=>
  ld false 1 t5 fun t6=>
  pv (za9 t6) fun t7=>
  lp (fun k1=>d67 [1,1,1,1,0,1,0,0] (znh K E k1)) (zcp x0 x1 x2 x3 U U U U (.int .u16 0) t1 U U U U x1 x2 t1 x0 t1 x3 t2 t3 x0 t4 t5 t6 t7 U U U U U U U U U U U U U U U U U U U U U U U U U U U U U (.slice none 0 0) (.int .i64 0) (jf #[])))) E) E:=by kernel_rfl
theorem zo5:d67 [1,1,1,1,0,1,0,0] (znh K E k1) (zcp x0 x1 x2 x3 x4 x5 x6 x7 x8 x9 x11 x14 x15 x16 x17 x18 x19 x20 x21 x22 x23 x24 x25 x26 x27 x28 x29 x55 x56 x57 x58 x59 x60 x61 x62 x63 x64 x65 x66 x67 x68 x69 x70 x71 x72 x73 x74 x75 x76 x77 x78 x79 x80 x81 x82 x83 v10 v30 j) =
 pv (za1 .none .lss v30 x29) fun t1=>
 cnd t1 (
  pv (iaV none 2 x28 v30) fun t2=>
  ld true 2 t2 fun t3=>
  nw 74 [(.int .u32 0),(.slice none 0 0)] fun t4=>
  st 2 t4 t3 fun _=>
  pv (faV 1 t4) fun t5=>
  ld false 1 t5 fun t6=>
  za2 Tryz.prog (.func (.func 45) #[] #[]) #[t6,x9,(.bool false)] (fun t7=>
  pv (za9 t7) fun t8=>
  pv (za1 .none .gtr t8 (.int .i64 0)) fun t9=>
  gdK t9 false (fun k=>pv (faV 1 t4) k) fun t10=>
  gdK t9 false (fun k=>ld false 1 t10 k) fun t11=>
  gdK t9 false (fun k=>pv (za9 t11) k) fun t12=>
  gdK t9 false (fun k=>pv (za1 .none .eql t12 (.int .i64 0)) k) fun t13=>
  pv (zah t9 (.bool true) t13) fun t14=>
  cnd t14 (
  pv (faV 0 t4) fun t15=>
  ld false 1 t15 fun t16=>
  pv (bdC #[(.int .u32 0),(.slice none 0 0)] [(0,1),(1,1)] #[(0,t16),(1,t7)]) fun t17=>
  nws 74 1 (bsC #[(.int .u32 0),(.slice none 0 0)] 2 1 #[(0,t17)]) fun t18=>
  zbf 74 2 32 v10 t18 fun t19=>
  d67 [1,1,1,1,0,1,0,0,1,1,1] (znh K E k1) #[x0,x1,x2,x3,x4,x5,x6,x7,x8,x9,t19,x11,t4,t7,x14,x15,x16,x17,x18,x19,x20,x21,x22,x23,x24,x25,x26,x27,x28,x29,v30,t1,t2,t3,t5,t6,x9,t7,t7,t8,t9,t9,t10,t11,t12,t13,t14,v10,t15,t16,t7,t17,t18,t19,(j 54),x55,x56,x57,x58,x59,x60,x61,x62,x63,x64,x65,x66,x67,x68,x69,x70,x71,x72,x73,x74,x75,x76,x77,x78,x79,x80,x81,x82,x83]) (
  d67 [1,1,1,1,0,1,0,0,1,1,1] (znh K E k1) #[x0,x1,x2,x3,x4,x5,x6,x7,x8,x9,v10,x11,t4,t7,x14,x15,x16,x17,x18,x19,x20,x21,x22,x23,x24,x25,x26,x27,x28,x29,v30,t1,t2,t3,t5,t6,x9,t7,t7,t8,t9,t9,t10,t11,t12,t13,t14,(j 47),(j 48),(j 49),(j 50),(j 51),(j 52),(j 53),(j 54),x55,x56,x57,x58,x59,x60,x61,x62,x63,x64,x65,x66,x67,x68,x69,x70,x71,x72,x73,x74,x75,x76,x77,x78,x79,x80,x81,x82,x83])) E) (
  pv (za9 x3) fun t20=>
  lp (fun k1=>d67 [1,1,1,1,1,0,1,0,0] (znm K E k1)) (zcc x0 x1 x2 x3 x4 x5 x6 x7 x8 x9 x11 (j 12) (j 13) x14 x16 x17 x18 x19 x20 x21 x22 x23 x24 x25 x26 x27 x28 x29 v30 t1 (j 32) (j 33) (j 34) (j 35) (j 36) (j 37) (j 38) (j 39) (j 40) (j 41) (j 42) (j 43) (j 44) (j 45) (j 46) (j 47) (j 48) (j 49) (j 50) (j 51) (j 52) (j 53) (j 54) x3 t20 x72 x73 x74 x75 x76 x77 x78 x79 x80 x81 x82 x83 v10 (.int .i64 0) (jf #[U,U,U,U,U,U,U,U,U,U,U,U,U,U,U,x15,U,U,U,U,U,U,U,U,U,U,U,U,U,U,U,U,U,U,U,U,U,U,U,U,U,U,U,U,U,U,U,U,U,U,U,U,U,U,U,U,U,U,x58,x59,x60,x61,x62,x63,x64,x65,x66,x67,x68,x69,x70,x71]))):=by kernel_rfl
theorem zgz:d67 [1,1,1,1,0,1,0,0,1,1,1] (znh K E k1) #[x0,x1,x2,x3,x4,x5,x6,x7,x8,x9,x10,x11,x12,x13,x14,x15,x16,x17,x18,x19,x20,x21,x22,x23,x24,x25,x26,x27,x28,x29,x30,x31,x32,x33,x34,x35,x36,x37,x38,x39,x40,x41,x42,x43,x44,x45,x46,x47,x48,x49,x50,x51,x52,x53,x54,x55,x56,x57,x58,x59,x60,x61,x62,x63,x64,x65,x66,x67,x68,x69,x70,x71,x72,x73,x74,x75,x76,x77,x78,x79,x80,x81,x82,x83] =
 pv (za1 .none .add x30 (.int .i64 1)) fun t1=>
 k1 (zcp x0 x1 x2 x3 x4 x5 x6 x7 x8 x9 x11 x14 x15 x16 x17 x18 x19 x20 x21 x22 x23 x24 x25 x26 x27 x28 x29 x55 x56 x57 x58 x59 x60 x61 x62 x63 x64 x65 x66 x67 x68 x69 x70 x71 x72 x73 x74 x75 x76 x77 x78 x79 x80 x81 x82 x83 x10 t1 (jf #[U,U,U,U,U,U,U,U,U,U,U,U,x12,x13,U,U,U,U,U,U,U,U,U,U,U,U,U,U,U,U,U,x31,x32,x33,x34,x35,x36,x37,x38,x39,x40,x41,x42,x43,x44,x45,x46,x47,x48,x49,x50,x51,x52,x53,t1])):=by kernel_rfl
theorem zmr:d67 [1,1,1,1,1,0,1,0,0] (znm K E k1) (zcc x0 x1 x2 x3 x4 x5 x6 x7 x8 x9 x11 x12 x13 x14 x16 x17 x18 x19 x20 x21 x22 x23 x24 x25 x26 x27 x28 x29 x30 x31 x32 x33 x34 x35 x36 x37 x38 x39 x40 x41 x42 x43 x44 x45 x46 x47 x48 x49 x50 x51 x52 x53 x54 x55 x56 x72 x73 x74 x75 x76 x77 x78 x79 x80 x81 x82 x83 v10 v57 j) =
 pv (za1 .none .lss v57 x56) fun t1=>
 cnd t1 (
  pv (iaV none 2 x55 v57) fun t2=>
  ld true 2 t2 fun t3=>
  nw 74 [(.int .u32 0),(.slice none 0 0)] fun t4=>
  st 2 t4 t3 fun _=>
  pv (faV 1 t4) fun t5=>
  ld false 1 t5 fun t6=>
  pv (za9 t6) fun t7=>
  pv (za1 .none .gtr t7 (.int .i64 0)) fun t8=>
  cnd t8 (
  pv (faV 0 t4) fun t9=>
  ld false 1 t9 fun t10=>
  pv (faV 1 t4) fun t11=>
  ld false 1 t11 fun t12=>
  za2 Tryz.prog (.func (.func 93) #[] #[]) #[v10,t10,t12] (fun t13=>
  d67 [1,1,1,1,1,0,1,0,0,1,1,1] (znm K E k1) #[x0,x1,x2,x3,x4,x5,x6,x7,x8,x9,t13,x11,x12,x13,x14,t4,x16,x17,x18,x19,x20,x21,x22,x23,x24,x25,x26,x27,x28,x29,x30,x31,x32,x33,x34,x35,x36,x37,x38,x39,x40,x41,x42,x43,x44,x45,x46,x47,x48,x49,x50,x51,x52,x53,x54,x55,x56,v57,t1,t2,t3,t5,t6,t7,t8,v10,t9,t10,t11,t12,t13,(j 71),x72,x73,x74,x75,x76,x77,x78,x79,x80,x81,x82,x83]) E) (
  d67 [1,1,1,1,1,0,1,0,0,1,1,1] (znm K E k1) #[x0,x1,x2,x3,x4,x5,x6,x7,x8,x9,v10,x11,x12,x13,x14,t4,x16,x17,x18,x19,x20,x21,x22,x23,x24,x25,x26,x27,x28,x29,x30,x31,x32,x33,x34,x35,x36,x37,x38,x39,x40,x41,x42,x43,x44,x45,x46,x47,x48,x49,x50,x51,x52,x53,x54,x55,x56,v57,t1,t2,t3,t5,t6,t7,t8,(j 65),(j 66),(j 67),(j 68),(j 69),(j 70),(j 71),x72,x73,x74,x75,x76,x77,x78,x79,x80,x81,x82,x83])) (
  pv (za9 v10) fun t14=>
  pv (za1 .none .gtr t14 (.int .i64 5000)) fun t15=>
  gdK t15 false (fun k=>k v10) fun t16=>
  gdK t15 false (fun k=>k (.func (.func 95) #[] #[])) fun t17=>
  gdK t15 false (fun k=>za2 Tryz.prog (.func (.func 96) #[] #[]) #[t16,t17] k E) fun t18=>
  pv (zah t15 (.bool true) t18) fun t19=>
  cnd t19 (
  K (.int .u16 3)) (
  pv (zan x0) fun t20=>
  pv (faV 0 t20) fun t21=>
  st 1 t21 v10 fun _=>
  K (.int .u16 0))):=by kernel_rfl
theorem zgh:d67 [1,1,1,1,1,0,1,0,0,1,1,1] (znm K E k1) #[x0,x1,x2,x3,x4,x5,x6,x7,x8,x9,x10,x11,x12,x13,x14,x15,x16,x17,x18,x19,x20,x21,x22,x23,x24,x25,x26,x27,x28,x29,x30,x31,x32,x33,x34,x35,x36,x37,x38,x39,x40,x41,x42,x43,x44,x45,x46,x47,x48,x49,x50,x51,x52,x53,x54,x55,x56,x57,x58,x59,x60,x61,x62,x63,x64,x65,x66,x67,x68,x69,x70,x71,x72,x73,x74,x75,x76,x77,x78,x79,x80,x81,x82,x83] =
 pv (za1 .none .add x57 (.int .i64 1)) fun t1=>
 k1 (zcc x0 x1 x2 x3 x4 x5 x6 x7 x8 x9 x11 x12 x13 x14 x16 x17 x18 x19 x20 x21 x22 x23 x24 x25 x26 x27 x28 x29 x30 x31 x32 x33 x34 x35 x36 x37 x38 x39 x40 x41 x42 x43 x44 x45 x46 x47 x48 x49 x50 x51 x52 x53 x54 x55 x56 x72 x73 x74 x75 x76 x77 x78 x79 x80 x81 x82 x83 x10 t1 (jf #[U,U,U,U,U,U,U,U,U,U,U,U,U,U,U,x15,U,U,U,U,U,U,U,U,U,U,U,U,U,U,U,U,U,U,U,U,U,U,U,U,U,U,U,U,U,U,U,U,U,U,U,U,U,U,U,U,U,U,x58,x59,x60,x61,x62,x63,x64,x65,x66,x67,x68,x69,x70,t1])):=by kernel_rfl
abbrev q72:QD:=zab Tryz.prog Tryz.f72.results.toList K E
abbrev d72 (p:List Nat):QD→Env→Hp→Prop:=den Tryz.prog (sel (za8 Tryz.f72) p)
theorem t72:d72 [] (q72 K E) #[x0,x1,U,U,U,U,U,U,U,U,U] =
 za2 Tryz.prog (.func (.func 100) #[] #[]) #[x0,x1,(.func (.func 101) #[] #[])] (fun t1=>
 pv (exV 0 t1) fun t2=>
 pv (exV 1 t1) fun t3=>
 K (.tuple #[t2,t3])) E:=by kernel_rfl
abbrev q73:QD:=zab Tryz.prog Tryz.f73.results.toList K E
abbrev d73 (p:List Nat):QD→Env→Hp→Prop:=den Tryz.prog (sel (za8 Tryz.f73) p)
theorem t73:d73 [] (q73 K E) #[x0,x1,x2,U,U,U,U,U,U,U,U,U,U,U,U,U,U,U,U,U,U,U,U,U,U,U,U,U,U,U,U,U,U,U,U,U,U,U,U,U,U,U,U,U,U] =
 nw 55 (Value.cells x2).toList fun t1=>
 ld true 3 t1 fun t2=>
 za2 Tryz.prog (.func (.func 103) #[] #[]) #[x0,t2] (fun t3=>
 pv (za1 .none .neq t3 (.int .u16 0)) fun t4=>
 cnd t4 (
  K (.tuple #[(.slice none 0 0),t3])) (
  pv (za9 x0) fun t5=>
  za2 Tryz.prog (.func (.func 104) #[] #[]) #[x1,t5] (fun t6=>
  pv (unV .not t6) fun t7=>
  cnd t7 (
  K (.tuple #[(.slice none 0 0),(.int .u16 1)])) (
  pv (faV 1 t1) fun t8=>
  ld false 1 t8 fun t9=>
  pv (faV 2 t1) fun t10=>
  ld false 1 t10 fun t11=>
  pv (za9 x0) fun t12=>
  pv (faV 0 t1) fun t13=>
  ld false 1 t13 fun t14=>
  bth (
   za2 Tryz.prog (.func (.func 106) #[] #[]) #[x1,t9,t11] (fun t15 h16=>(ldV h16 false 1 t13 t14)∧(
   mks 3 [(.int .i64 0)] 1 8 t12 t12 (fun t17 h18=>(ldV h18 false 1 t13 t14)∧(
    za2 Tryz.prog (.func (.func 105) #[] #[]) #[x0,t15,t17,t14] (fun t19=>
    pv (exV 0 t19) fun t20=>
    pv (exV 1 t19) fun t21=>
    pv (za1 .none .neq t21 (.int .u16 0)) fun t22=>
    cnd t22 (
    K (.tuple #[(.slice none 0 0),t21])) (
    za2 Tryz.prog (.func (.func 107) #[] #[]) #[t20] (fun t23=>
    pv (exV 0 t23) fun t24=>
    pv (exV 1 t23) fun t25=>
    K (.tuple #[t24,t25])) E)) E) h18)) h16) E) (
   mks 3 [(.int .i64 0)] 1 8 t12 t12 (fun t26 h27=>(ldV h27 false 1 t13 t14)∧(ldV h27 false 1 t10 t11)∧(ldV h27 false 1 t8 t9)∧(
   za2 Tryz.prog (.func (.func 106) #[] #[]) #[x1,t9,t11] (fun t28 h29=>(ldV h29 false 1 t13 t14)∧(
    za2 Tryz.prog (.func (.func 105) #[] #[]) #[x0,t28,t26,t14] (fun t30=>
    pv (exV 0 t30) fun t31=>
    pv (exV 1 t30) fun t32=>
    pv (za1 .none .neq t32 (.int .u16 0)) fun t33=>
    cnd t33 (
    K (.tuple #[(.slice none 0 0),t32])) (
    za2 Tryz.prog (.func (.func 107) #[] #[]) #[t31] (fun t34=>
    pv (exV 0 t34) fun t35=>
    pv (exV 1 t34) fun t36=>
    K (.tuple #[t35,t36])) E)) E) h29) E) h27)))) E)) E:=by kernel_rfl
abbrev q74:QD:=zab Tryz.prog Tryz.f74.results.toList K E
abbrev d74 (p:List Nat):QD→Env→Hp→Prop:=den Tryz.prog (sel (za8 Tryz.f74) p)
abbrev zz6:=za6 k1 (blk 0 (za6 (d74 [1,1,1] (q74 K E)) (q74 K E)))
def zea (j:Nat→Value):Env:=#[x0,x1,x2,x3,x4,(j 5),x6,x7,x8,v9,(j 10),(j 11),(j 12),(j 13),(j 14),(j 15),(j 16),(j 17),(j 18),(j 19),(j 20),x21,x22]
theorem t74:d74 [] (q74 K E) #[x0,U,U,U,U,U,U,U,U,U,U,U,U,U,U,U,U,U,U,U,U,U,U] =
 za2 Tryz.prog (.func (.func 108) #[] #[]) #[] (fun t1=>
 pv (za9 x0) fun t2=>
 lp (fun k1=>d74 [1,1,0,1,0,0] (zz6 K E k1)) (zea x0 U (.slice none 0 0) t1 U t1 x0 t2 U U (.int .i64 0) (jf #[]))) E:=by kernel_rfl
theorem ztv:d74 [1,1,0,1,0,0] (zz6 K E k1) (zea x0 x1 x2 x3 x4 x6 x7 x8 x21 x22 v9 j) =
 pv (za1 .none .lss v9 x8) fun t1=>
 cnd t1 (
  pv (iaV none 2 x7 v9) fun t2=>
  ld true 2 t2 fun t3=>
  nw 90 [(.slice none 0 0),(.int .i64 0)] fun t4=>
  st 2 t4 t3 fun _=>
  pv (faV 0 t4) fun t5=>
  ld false 1 t5 fun t6=>
  pv (faV 1 t4) fun t7=>
  ld false 1 t7 fun t8=>
  za2 Tryz.prog (.func (.func 110) #[] #[]) #[t8] (fun t9 h10=>(ldV h10 false 1 t5 t6)∧(
  za2 Tryz.prog (.func (.func 109) #[] #[]) #[x3,t6,t9] (fun t11=>
  pv (za1 .none .add v9 (.int .i64 1)) fun t12=>
  k1 (zea x0 x1 x2 x3 x4 x6 x7 x8 x21 x22 t12 (jf #[U,U,U,U,U,t4,U,U,U,U,t1,t2,t3,x3,t5,t6,t7,t8,t9,t11,t12]))) E) h10) E) (
  za2 Tryz.prog (.func (.func 111) #[] #[]) #[x3] (fun t13=>
  K t13) E):=by kernel_rfl
abbrev q75:QD:=zab Tryz.prog Tryz.f75.results.toList K E
abbrev d75 (p:List Nat):QD→Env→Hp→Prop:=den Tryz.prog (sel (za8 Tryz.f75) p)
abbrev zni:=za6 k1 (blk 0 (za6 (d75 [1,1,1,1] (q75 K E)) (q75 K E)))
def zd2 (j:Nat→Value):Env:=#[x0,x1,x2,x3,x4,v5,v6,(j 7),x8,x9,x10,x11,x12,x13,x14,x15,(j 16),(j 17),(j 18),(j 19),(j 20),(j 21),(j 22),(j 23),(j 24),(j 25),(j 26),(j 27),(j 28),(j 29),(j 30),(j 31),(j 32),(j 33),(j 34),(j 35),x36,x37,x38,x39,x40,x41]
theorem t75:d75 [] (q75 K E) #[x0,x1,U,U,U,U,U,U,U,U,U,U,U,U,U,U,U,U,U,U,U,U,U,U,U,U,U,U,U,U,U,U,U,U,U,U,U,U,U,U,U,U] =
 za2 Tryz.prog (.func (.func 85) #[] #[]) #[x0,x1] (fun t1=>
 pv (za1 .none .eql t1 (.int .i64 (-1))) fun t2=>
 cnd t2 (
  K x0) (
  pv (za1 .none .add t1 (.int .i64 1)) fun t3=>
  lp (fun k1=>d75 [1,1,1,0,1,0,0] (zni K E k1)) (zd2 x0 x1 U U (.slice none 0 0) x0 x1 t1 t1 t2 U t1 t3 U U U U U U t1 t3 (jf #[])))) E:=by kernel_rfl
theorem zq5:d75 [1,1,1,0,1,0,0] (zni K E k1) (zd2 x0 x1 x2 x3 x4 x8 x9 x10 x11 x12 x13 x14 x15 x36 x37 x38 x39 x40 x41 v5 v6 j) =
 pv (za9 x0) fun t1=>
 pv (za1 .none .lss v6 t1) fun t2=>
 cnd t2 (
  pv (iaV none 2 x0 v6) fun t3=>
  ld true 2 t3 fun t4=>
  nw 90 [(.slice none 0 0),(.int .i64 0)] fun t5=>
  st 2 t5 t4 fun _=>
  ld true 2 t5 fun t6=>
  za2 Tryz.prog x1 #[t6] (fun t7=>
  pv (unV .not t7) fun t8=>
  cnd t8 (
  ld true 2 t5 fun t9=>
  pv (iaV none 2 x0 v5) fun t10=>
  st 2 t10 t9 fun _=>
  pv (za1 .none .add v5 (.int .i64 1)) fun t11=>
  d75 [1,1,1,0,1,0,0,1,1] (zni K E k1) #[x0,x1,x2,x3,x4,t11,v6,t5,x8,x9,x10,x11,x12,x13,x14,x15,v6,x0,t1,t2,(j 20),(j 21),x0,v6,t3,t4,x1,t6,t7,t8,x0,v5,t9,t10,v5,t11,x36,x37,x38,x39,x40,x41]) (
  d75 [1,1,1,0,1,0,0,1,1] (zni K E k1) #[x0,x1,x2,x3,x4,v5,v6,t5,x8,x9,x10,x11,x12,x13,x14,x15,v6,x0,t1,t2,(j 20),(j 21),x0,v6,t3,t4,x1,t6,t7,t8,(j 30),(j 31),(j 32),(j 33),(j 34),(j 35),x36,x37,x38,x39,x40,x41])) E) (
  pv (slV 2 x0 (some v5) none none) fun t12=>
  clr 90 [(.slice none 0 0),(.int .i64 0)] 2 t12 fun _=>
  pv (slV 2 x0 none (some v5) none) fun t13=>
  K t13):=by kernel_rfl
theorem zic:d75 [1,1,1,0,1,0,0,1,1] (zni K E k1) #[x0,x1,x2,x3,x4,x5,x6,x7,x8,x9,x10,x11,x12,x13,x14,x15,x16,x17,x18,x19,x20,x21,x22,x23,x24,x25,x26,x27,x28,x29,x30,x31,x32,x33,x34,x35,x36,x37,x38,x39,x40,x41] =
 pv (za1 .none .add x6 (.int .i64 1)) fun t1=>
 k1 (zd2 x0 x1 x2 x3 x4 x8 x9 x10 x11 x12 x13 x14 x15 x36 x37 x38 x39 x40 x41 x5 t1 (jf #[U,U,U,U,U,U,U,x7,U,U,U,U,U,U,U,U,x16,x17,x18,x19,x6,t1,x22,x23,x24,x25,x26,x27,x28,x29,x30,x31,x32,x33,x34,x35])):=by kernel_rfl
abbrev q76:QD:=zab Tryz.prog Tryz.f76.results.toList K E
abbrev d76 (p:List Nat):QD→Env→Hp→Prop:=den Tryz.prog (sel (za8 Tryz.f76) p)
abbrev zzd:=za6 k1 (blk 0 (za6 (d76 [1,1,1] (q76 K E)) (q76 K E)))
def ze4 (j:Nat→Value):Env:=#[x0,x1,x2,v3,x4,(j 5),x6,x7,v8,(j 9),(j 10),(j 11),(j 12),(j 13),(j 14),(j 15),(j 16),(j 17),(j 18),(j 19),(j 20),(j 21),x22]
theorem t76:d76 [] (q76 K E) #[x0,U,U,U,U,U,U,U,U,U,U,U,U,U,U,U,U,U,U,U,U,U,U] =
 pv (za9 x0) fun t1=>
 lp (fun k1=>d76 [1,1,0,1,0,0] (zzd K E k1)) (ze4 x0 U (.slice none 0 0) U x0 t1 U (.slice none 0 0) (.int .i64 0) (jf #[])):=by kernel_rfl
theorem zv2:d76 [1,1,0,1,0,0] (zzd K E k1) (ze4 x0 x1 x2 x4 x6 x7 x22 v3 v8 j) =
 pv (za1 .none .lss v8 x7) fun t1=>
 cnd t1 (
  pv (iaV none 2 x6 v8) fun t2=>
  ld true 2 t2 fun t3=>
  nw 90 [(.slice none 0 0),(.int .i64 0)] fun t4=>
  st 2 t4 t3 fun _=>
  pv (faV 0 t4) fun t5=>
  ld false 1 t5 fun t6=>
  pv (faV 1 t4) fun t7=>
  ld false 1 t7 fun t8=>
  za2 Tryz.prog (.func (.func 65) #[] #[]) #[t6] (fun t9 h10=>(ldV h10 false 1 t7 t8)∧(
  pv (bdC #[(.slice none 0 0),(.int .i64 0)] [(0,1),(1,1)] #[(0,t9),(1,t8)]) fun t11=>
  nws 90 1 (bsC #[(.slice none 0 0),(.int .i64 0)] 2 1 #[(0,t11)]) fun t12=>
  zbf 90 2 32 v3 t12 fun t13=>
  pv (za1 .none .add v8 (.int .i64 1)) fun t14=>
  k1 (ze4 x0 x1 x2 x4 x6 x7 x22 t13 t14 (jf #[U,U,U,U,U,t4,U,U,U,t1,t2,t3,v3,t5,t6,t9,t7,t8,t11,t12,t13,t14]))) h10) E) (
  K v3):=by kernel_rfl
end
section
variable {K:zae} {E:zat} {k1 k2 k3 k4 k5:Env→Hp→Prop} {σ:Type} {x0 x1 x2 x3 x4 x5 x6 x7 x8 x9 x10 x11 x12 x13 x14 x15 x16 x17 x18 x19 x20 x21 x22 x23 x24 x25 x26 x27 x28 x29 x30 x31 x32 x33 x34 x35 x36 x37 x38 x39 x40 x41 x42 x43 x44 x45 x46 x47 x48 x49 x50 x51 x52 x53 x54 x55 x56 x57 x58 x59 x60 x61 x62 x63 x64 x65 x66 x67 x68 x69 x70 x71 x72 x73 x74 x75 x76 x77 x78 x79 x80 x81 x82 x83 x84 x85 x86 x87 x88 x89 x90 x91 x92 x93 x94 x95 x96 x97 x98 x99 x100 x101 x102 x103 x104 x105 x106 x107 x108 x109 x110 x111 x112 x113 x114 x115 x116 x117 x118 x119 x120 x121 x122 x123 x124 x125 x126 x127 x128 x129 x130 x131 x132 x133 x134 x135 x136 x137 x138 x139 x140 x141 x142 x143 x144 x145 x146 x147 v0 v1 v2 v3 v4 v5 v6 v7 v8 v9 v10 v11 v12 v13 v14 v15 v16 v17 v18 v19 v20 v21 v22 v23 v24 v25 v26 v27 v28 v29 v30 v31 v32 v33 v34 v35 v36 v37 v38 v39 v40 v41 v42 v43 v44 v45 v46 v47 v48 v49 v50 v51 v52 v53 v54 v55 v56 v57 v58 v59 v60 v61 v62 v63 v64 v65 v66 v67 v68 v69 v70 v71 v72 v73 v74 v75 v76 v77 v78 v79 v80 v81 v82 v83 v84 v85 v86 v87 v88 v89 v90 v91 v92 v93 v94 v95 v96 v97 v98 v99 v100 v101 v102 v103 v104 v105 v106 v107 v108 v109 v110 v111 v112 v113 v114 v115 v116 v117 v118 v119 v120 v121 v122 v123 v124 v125 v126 v127 v128 v129 v130 v131 v132 v133 v134 v135 v136 v137 v138 v139 v140 v141 v142 v143 v144 v145 v146 v147:Value} {h:Hp} {j:Nat→Value}
theorem zpx (f9 f10:σ→Value) (I:σ→Hp→Prop) (μ:σ→Nat) (s0:σ) (e9:v9=f9 s0) (e10:v10=f10 s0) (h0:h.wf→∃ h',h.wk h'∧I s0 h')
 (round:∀ (k1:Env→Hp→Prop) (s:σ) (j:Nat→Value) (h:Hp),I s h→h.wf→(∀ s' j' h',μ s'<μ s→(h'.wf→∃ h'',h'.wk h''∧I s' h'')→k1 (zd9 x0 x1 x2 x3 x4 x5 x6 x7 x8 x13 x14 x15 x16 x17 x18 x19 x20 x103 x104 x105 x106 x107 x108 x109 x110 x111 x112 x113 x114 x115 x116 x117 x118 x119 x120 x121 x122 x123 x124 x125 x126 x127 x128 x129 x130 x131 x132 x133 x134 x135 x136 x137 x138 x139 x140 x141 x142 x143 x144 x145 x146 x147 (f9 s') (f10 s') j') h')→d52 [1,1,1,0,1,0,0] (znr K E k1) (zd9 x0 x1 x2 x3 x4 x5 x6 x7 x8 x13 x14 x15 x16 x17 x18 x19 x20 x103 x104 x105 x106 x107 x108 x109 x110 x111 x112 x113 x114 x115 x116 x117 x118 x119 x120 x121 x122 x123 x124 x125 x126 x127 x128 x129 x130 x131 x132 x133 x134 x135 x136 x137 x138 x139 x140 x141 x142 x143 x144 x145 x146 x147 (f9 s) (f10 s) j) h) :
 lp (fun k1=>d52 [1,1,1,0,1,0,0] (znr K E k1)) (zd9 x0 x1 x2 x3 x4 x5 x6 x7 x8 x13 x14 x15 x16 x17 x18 x19 x20 x103 x104 x105 x106 x107 x108 x109 x110 x111 x112 x113 x114 x115 x116 x117 x118 x119 x120 x121 x122 x123 x124 x125 x126 x127 x128 x129 x130 x131 x132 x133 x134 x135 x136 x137 x138 x139 x140 x141 x142 x143 x144 x145 x146 x147 v9 v10 j) h:=by
 subst e9
 subst e10
 exact zaj (fun s j=>zd9 x0 x1 x2 x3 x4 x5 x6 x7 x8 x13 x14 x15 x16 x17 x18 x19 x20 x103 x104 x105 x106 x107 x108 x109 x110 x111 x112 x113 x114 x115 x116 x117 x118 x119 x120 x121 x122 x123 x124 x125 x126 x127 x128 x129 x130 x131 x132 x133 x134 x135 x136 x137 x138 x139 x140 x141 x142 x143 x144 x145 x146 x147 (f9 s) (f10 s) j) I μ round s0 j h0
theorem zhp (f12:σ→Value) (I:σ→Hp→Prop) (μ:σ→Nat) (s0:σ) (e12:v12=f12 s0) (h0:h.wf→∃ h',h.wk h'∧I s0 h')
 (round:∀ (k2:Env→Hp→Prop) (s:σ) (j:Nat→Value) (h:Hp),I s h→h.wf→(∀ s' j' h',μ s'<μ s→(h'.wf→∃ h'',h'.wk h''∧I s' h'')→k2 (zb4 x0 x1 x2 x3 x4 x5 x6 x7 x8 x9 x10 x11 x13 x14 x15 x16 x17 x18 x19 x20 x21 x22 x23 x24 x25 x26 x27 x28 x29 x30 x31 x32 x33 x34 x35 x36 x37 x38 x83 x84 x85 x86 x87 x88 x89 x90 x91 x92 x93 x94 x95 x96 x97 x98 x99 x100 x101 x102 x103 x104 x105 x106 x107 x108 x109 x110 x111 x112 x113 x114 x115 x116 x117 x118 x119 x120 x121 x122 x123 x124 x125 x126 x127 x128 x129 x130 x131 x132 x133 x134 x135 x136 x137 x138 x139 x140 x141 x142 x143 x144 x145 x146 x147 (f12 s') j') h')→d52 [1,1,1,0,1,0,0,1,0,0,1,0,1,0,0] (zn2 K E k1 k2) (zb4 x0 x1 x2 x3 x4 x5 x6 x7 x8 x9 x10 x11 x13 x14 x15 x16 x17 x18 x19 x20 x21 x22 x23 x24 x25 x26 x27 x28 x29 x30 x31 x32 x33 x34 x35 x36 x37 x38 x83 x84 x85 x86 x87 x88 x89 x90 x91 x92 x93 x94 x95 x96 x97 x98 x99 x100 x101 x102 x103 x104 x105 x106 x107 x108 x109 x110 x111 x112 x113 x114 x115 x116 x117 x118 x119 x120 x121 x122 x123 x124 x125 x126 x127 x128 x129 x130 x131 x132 x133 x134 x135 x136 x137 x138 x139 x140 x141 x142 x143 x144 x145 x146 x147 (f12 s) j) h) :
 lp (fun k2=>d52 [1,1,1,0,1,0,0,1,0,0,1,0,1,0,0] (zn2 K E k1 k2)) (zb4 x0 x1 x2 x3 x4 x5 x6 x7 x8 x9 x10 x11 x13 x14 x15 x16 x17 x18 x19 x20 x21 x22 x23 x24 x25 x26 x27 x28 x29 x30 x31 x32 x33 x34 x35 x36 x37 x38 x83 x84 x85 x86 x87 x88 x89 x90 x91 x92 x93 x94 x95 x96 x97 x98 x99 x100 x101 x102 x103 x104 x105 x106 x107 x108 x109 x110 x111 x112 x113 x114 x115 x116 x117 x118 x119 x120 x121 x122 x123 x124 x125 x126 x127 x128 x129 x130 x131 x132 x133 x134 x135 x136 x137 x138 x139 x140 x141 x142 x143 x144 x145 x146 x147 v12 j) h:=by
 subst e12
 exact zaj (fun s j=>zb4 x0 x1 x2 x3 x4 x5 x6 x7 x8 x9 x10 x11 x13 x14 x15 x16 x17 x18 x19 x20 x21 x22 x23 x24 x25 x26 x27 x28 x29 x30 x31 x32 x33 x34 x35 x36 x37 x38 x83 x84 x85 x86 x87 x88 x89 x90 x91 x92 x93 x94 x95 x96 x97 x98 x99 x100 x101 x102 x103 x104 x105 x106 x107 x108 x109 x110 x111 x112 x113 x114 x115 x116 x117 x118 x119 x120 x121 x122 x123 x124 x125 x126 x127 x128 x129 x130 x131 x132 x133 x134 x135 x136 x137 x138 x139 x140 x141 x142 x143 x144 x145 x146 x147 (f12 s) j) I μ round s0 j h0
theorem zo4 (f9 f13:σ→Value) (I:σ→Hp→Prop) (μ:σ→Nat) (s0:σ) (e9:v9=f9 s0) (e13:v13=f13 s0) (h0:h.wf→∃ h',h.wk h'∧I s0 h')
 (round:∀ (k1:Env→Hp→Prop) (s:σ) (j:Nat→Value) (h:Hp),I s h→h.wf→(∀ s' j' h',μ s'<μ s→(h'.wf→∃ h'',h'.wk h''∧I s' h'')→k1 (zco x0 x1 x2 x3 x4 x5 x6 x7 x8 x10 x11 x12 x14 x15 x16 x17 x18 x19 x20 x21 x22 x23 x24 x25 x26 x27 x28 x29 x30 x31 x32 x33 x34 x35 x36 x37 x38 x39 x40 x41 x42 x43 x44 x45 x46 x47 x48 x49 x50 x51 x52 x53 x54 x55 x56 x57 x58 x59 x60 x61 x62 x63 x64 x65 x66 x67 x68 x69 x70 x71 x72 x73 x74 x75 x76 x77 x78 x79 x80 x81 x82 x83 x84 x85 x86 x87 x88 x89 x90 x91 x92 x93 x94 x95 x96 x97 x98 x99 x100 x101 x102 x128 x129 x130 x131 x132 x133 x134 x135 x136 x137 x138 x139 x140 x141 x142 x143 x144 x145 x146 x147 (f9 s') (f13 s') j') h')→d52 [1,1,1,1,0,1,0,0] (znl K E k1) (zco x0 x1 x2 x3 x4 x5 x6 x7 x8 x10 x11 x12 x14 x15 x16 x17 x18 x19 x20 x21 x22 x23 x24 x25 x26 x27 x28 x29 x30 x31 x32 x33 x34 x35 x36 x37 x38 x39 x40 x41 x42 x43 x44 x45 x46 x47 x48 x49 x50 x51 x52 x53 x54 x55 x56 x57 x58 x59 x60 x61 x62 x63 x64 x65 x66 x67 x68 x69 x70 x71 x72 x73 x74 x75 x76 x77 x78 x79 x80 x81 x82 x83 x84 x85 x86 x87 x88 x89 x90 x91 x92 x93 x94 x95 x96 x97 x98 x99 x100 x101 x102 x128 x129 x130 x131 x132 x133 x134 x135 x136 x137 x138 x139 x140 x141 x142 x143 x144 x145 x146 x147 (f9 s) (f13 s) j) h) :
 lp (fun k1=>d52 [1,1,1,1,0,1,0,0] (znl K E k1)) (zco x0 x1 x2 x3 x4 x5 x6 x7 x8 x10 x11 x12 x14 x15 x16 x17 x18 x19 x20 x21 x22 x23 x24 x25 x26 x27 x28 x29 x30 x31 x32 x33 x34 x35 x36 x37 x38 x39 x40 x41 x42 x43 x44 x45 x46 x47 x48 x49 x50 x51 x52 x53 x54 x55 x56 x57 x58 x59 x60 x61 x62 x63 x64 x65 x66 x67 x68 x69 x70 x71 x72 x73 x74 x75 x76 x77 x78 x79 x80 x81 x82 x83 x84 x85 x86 x87 x88 x89 x90 x91 x92 x93 x94 x95 x96 x97 x98 x99 x100 x101 x102 x128 x129 x130 x131 x132 x133 x134 x135 x136 x137 x138 x139 x140 x141 x142 x143 x144 x145 x146 x147 v9 v13 j) h:=by
 subst e9
 subst e13
 exact zaj (fun s j=>zco x0 x1 x2 x3 x4 x5 x6 x7 x8 x10 x11 x12 x14 x15 x16 x17 x18 x19 x20 x21 x22 x23 x24 x25 x26 x27 x28 x29 x30 x31 x32 x33 x34 x35 x36 x37 x38 x39 x40 x41 x42 x43 x44 x45 x46 x47 x48 x49 x50 x51 x52 x53 x54 x55 x56 x57 x58 x59 x60 x61 x62 x63 x64 x65 x66 x67 x68 x69 x70 x71 x72 x73 x74 x75 x76 x77 x78 x79 x80 x81 x82 x83 x84 x85 x86 x87 x88 x89 x90 x91 x92 x93 x94 x95 x96 x97 x98 x99 x100 x101 x102 x128 x129 x130 x131 x132 x133 x134 x135 x136 x137 x138 x139 x140 x141 x142 x143 x144 x145 x146 x147 (f9 s) (f13 s) j) I μ round s0 j h0
theorem zmu (f14:σ→Value) (I:σ→Hp→Prop) (μ:σ→Nat) (s0:σ) (e14:v14=f14 s0) (h0:h.wf→∃ h',h.wk h'∧I s0 h')
 (round:∀ (k1:Env→Hp→Prop) (s:σ) (j:Nat→Value) (h:Hp),I s h→h.wf→(∀ s' j' h',μ s'<μ s→(h'.wf→∃ h'',h'.wk h''∧I s' h'')→k1 (zce x0 x1 x2 x3 x4 x5 x6 x7 x9 x10 x11 x12 x13 x15 x16 x17 x18 x19 x20 x21 x22 x23 x24 x25 x26 x27 x28 x29 x30 x31 x32 x33 x34 x35 x36 x37 x38 x39 x40 x41 x42 x43 x44 x45 x46 x47 x48 x49 x50 x51 x52 x53 x54 x55 x56 x57 x58 x59 x60 x61 x62 x63 x64 x65 x66 x67 x68 x69 x70 x71 x72 x73 x74 x75 x76 x77 x78 x79 x80 x81 x82 x83 x84 x85 x86 x87 x88 x89 x90 x91 x92 x93 x94 x95 x96 x97 x98 x99 x100 x101 x102 x103 x104 x105 x106 x107 x108 x109 x110 x111 x112 x113 x114 x115 x116 x117 x118 x119 x120 x121 x122 x123 x124 x125 x126 x127 x141 x142 x143 x144 x145 x146 x147 (f14 s') j') h')→d52 [1,1,1,1,1,0,1,0,0] (zz2 K E k1) (zce x0 x1 x2 x3 x4 x5 x6 x7 x9 x10 x11 x12 x13 x15 x16 x17 x18 x19 x20 x21 x22 x23 x24 x25 x26 x27 x28 x29 x30 x31 x32 x33 x34 x35 x36 x37 x38 x39 x40 x41 x42 x43 x44 x45 x46 x47 x48 x49 x50 x51 x52 x53 x54 x55 x56 x57 x58 x59 x60 x61 x62 x63 x64 x65 x66 x67 x68 x69 x70 x71 x72 x73 x74 x75 x76 x77 x78 x79 x80 x81 x82 x83 x84 x85 x86 x87 x88 x89 x90 x91 x92 x93 x94 x95 x96 x97 x98 x99 x100 x101 x102 x103 x104 x105 x106 x107 x108 x109 x110 x111 x112 x113 x114 x115 x116 x117 x118 x119 x120 x121 x122 x123 x124 x125 x126 x127 x141 x142 x143 x144 x145 x146 x147 (f14 s) j) h) :
 lp (fun k1=>d52 [1,1,1,1,1,0,1,0,0] (zz2 K E k1)) (zce x0 x1 x2 x3 x4 x5 x6 x7 x9 x10 x11 x12 x13 x15 x16 x17 x18 x19 x20 x21 x22 x23 x24 x25 x26 x27 x28 x29 x30 x31 x32 x33 x34 x35 x36 x37 x38 x39 x40 x41 x42 x43 x44 x45 x46 x47 x48 x49 x50 x51 x52 x53 x54 x55 x56 x57 x58 x59 x60 x61 x62 x63 x64 x65 x66 x67 x68 x69 x70 x71 x72 x73 x74 x75 x76 x77 x78 x79 x80 x81 x82 x83 x84 x85 x86 x87 x88 x89 x90 x91 x92 x93 x94 x95 x96 x97 x98 x99 x100 x101 x102 x103 x104 x105 x106 x107 x108 x109 x110 x111 x112 x113 x114 x115 x116 x117 x118 x119 x120 x121 x122 x123 x124 x125 x126 x127 x141 x142 x143 x144 x145 x146 x147 v14 j) h:=by
 subst e14
 exact zaj (fun s j=>zce x0 x1 x2 x3 x4 x5 x6 x7 x9 x10 x11 x12 x13 x15 x16 x17 x18 x19 x20 x21 x22 x23 x24 x25 x26 x27 x28 x29 x30 x31 x32 x33 x34 x35 x36 x37 x38 x39 x40 x41 x42 x43 x44 x45 x46 x47 x48 x49 x50 x51 x52 x53 x54 x55 x56 x57 x58 x59 x60 x61 x62 x63 x64 x65 x66 x67 x68 x69 x70 x71 x72 x73 x74 x75 x76 x77 x78 x79 x80 x81 x82 x83 x84 x85 x86 x87 x88 x89 x90 x91 x92 x93 x94 x95 x96 x97 x98 x99 x100 x101 x102 x103 x104 x105 x106 x107 x108 x109 x110 x111 x112 x113 x114 x115 x116 x117 x118 x119 x120 x121 x122 x123 x124 x125 x126 x127 x141 x142 x143 x144 x145 x146 x147 (f14 s) j) I μ round s0 j h0
theorem zy5 (f5:σ→Value) (I:σ→Hp→Prop) (μ:σ→Nat) (s0:σ) (e5:v5=f5 s0) (h0:h.wf→∃ h',h.wk h'∧I s0 h')
 (round:∀ (k1:Env→Hp→Prop) (s:σ) (j:Nat→Value) (h:Hp),I s h→h.wf→(∀ s' j' h',μ s'<μ s→(h'.wf→∃ h'',h'.wk h''∧I s' h'')→k1 (zfg x0 x1 x2 x3 x35 x36 x37 x38 x39 (f5 s') j') h')→d56 [1,0,1,0,0] (zz8 K E k1) (zfg x0 x1 x2 x3 x35 x36 x37 x38 x39 (f5 s) j) h) :
 lp (fun k1=>d56 [1,0,1,0,0] (zz8 K E k1)) (zfg x0 x1 x2 x3 x35 x36 x37 x38 x39 v5 j) h:=by
 subst e5
 exact zaj (fun s j=>zfg x0 x1 x2 x3 x35 x36 x37 x38 x39 (f5 s) j) I μ round s0 j h0
theorem ztw (f7 f8:σ→Value) (I:σ→Hp→Prop) (μ:σ→Nat) (s0:σ) (e7:v7=f7 s0) (e8:v8=f8 s0) (h0:h.wf→∃ h',h.wk h'∧I s0 h')
 (round:∀ (k1:Env→Hp→Prop) (s:σ) (j:Nat→Value) (h:Hp),I s h→h.wf→(∀ s' j' h',μ s'<μ s→(h'.wf→∃ h'',h'.wk h''∧I s' h'')→k1 (zem x0 x1 x2 x3 x4 x5 x6 x78 (f7 s') (f8 s') j') h')→d59 [1,1,0,1,0,0] (zn8 K E k1) (zem x0 x1 x2 x3 x4 x5 x6 x78 (f7 s) (f8 s) j) h) :
 lp (fun k1=>d59 [1,1,0,1,0,0] (zn8 K E k1)) (zem x0 x1 x2 x3 x4 x5 x6 x78 v7 v8 j) h:=by
 subst e7
 subst e8
 exact zaj (fun s j=>zem x0 x1 x2 x3 x4 x5 x6 x78 (f7 s) (f8 s) j) I μ round s0 j h0
theorem zim (f9 f10:σ→Value) (I:σ→Hp→Prop) (μ:σ→Nat) (s0:σ) (e9:v9=f9 s0) (e10:v10=f10 s0) (h0:h.wf→∃ h',h.wk h'∧I s0 h')
 (round:∀ (k2:Env→Hp→Prop) (s:σ) (j:Nat→Value) (h:Hp),I s h→h.wf→(∀ s' j' h',μ s'<μ s→(h'.wf→∃ h'',h'.wk h''∧I s' h'')→k2 (zbg x0 x1 x2 x3 x4 x5 x6 x7 x8 x11 x12 x13 x14 x15 x16 x17 x18 x19 x61 x62 x63 x64 x65 x66 x67 x68 x69 x70 x71 x72 x73 x74 x75 x76 x77 x78 (f9 s') (f10 s') j') h')→d59 [1,1,0,1,0,0,1,0,0,1,0,1,0,0] (znt K E k1 k2) (zbg x0 x1 x2 x3 x4 x5 x6 x7 x8 x11 x12 x13 x14 x15 x16 x17 x18 x19 x61 x62 x63 x64 x65 x66 x67 x68 x69 x70 x71 x72 x73 x74 x75 x76 x77 x78 (f9 s) (f10 s) j) h) :
 lp (fun k2=>d59 [1,1,0,1,0,0,1,0,0,1,0,1,0,0] (znt K E k1 k2)) (zbg x0 x1 x2 x3 x4 x5 x6 x7 x8 x11 x12 x13 x14 x15 x16 x17 x18 x19 x61 x62 x63 x64 x65 x66 x67 x68 x69 x70 x71 x72 x73 x74 x75 x76 x77 x78 v9 v10 j) h:=by
 subst e9
 subst e10
 exact zaj (fun s j=>zbg x0 x1 x2 x3 x4 x5 x6 x7 x8 x11 x12 x13 x14 x15 x16 x17 x18 x19 x61 x62 x63 x64 x65 x66 x67 x68 x69 x70 x71 x72 x73 x74 x75 x76 x77 x78 (f9 s) (f10 s) j) I μ round s0 j h0
theorem zo2 (f10 f30:σ→Value) (I:σ→Hp→Prop) (μ:σ→Nat) (s0:σ) (e10:v10=f10 s0) (e30:v30=f30 s0) (h0:h.wf→∃ h',h.wk h'∧I s0 h')
 (round:∀ (k1:Env→Hp→Prop) (s:σ) (j:Nat→Value) (h:Hp),I s h→h.wf→(∀ s' j' h',μ s'<μ s→(h'.wf→∃ h'',h'.wk h''∧I s' h'')→k1 (zcp x0 x1 x2 x3 x4 x5 x6 x7 x8 x9 x11 x14 x15 x16 x17 x18 x19 x20 x21 x22 x23 x24 x25 x26 x27 x28 x29 x55 x56 x57 x58 x59 x60 x61 x62 x63 x64 x65 x66 x67 x68 x69 x70 x71 x72 x73 x74 x75 x76 x77 x78 x79 x80 x81 x82 x83 (f10 s') (f30 s') j') h')→d67 [1,1,1,1,0,1,0,0] (znh K E k1) (zcp x0 x1 x2 x3 x4 x5 x6 x7 x8 x9 x11 x14 x15 x16 x17 x18 x19 x20 x21 x22 x23 x24 x25 x26 x27 x28 x29 x55 x56 x57 x58 x59 x60 x61 x62 x63 x64 x65 x66 x67 x68 x69 x70 x71 x72 x73 x74 x75 x76 x77 x78 x79 x80 x81 x82 x83 (f10 s) (f30 s) j) h) :
 lp (fun k1=>d67 [1,1,1,1,0,1,0,0] (znh K E k1)) (zcp x0 x1 x2 x3 x4 x5 x6 x7 x8 x9 x11 x14 x15 x16 x17 x18 x19 x20 x21 x22 x23 x24 x25 x26 x27 x28 x29 x55 x56 x57 x58 x59 x60 x61 x62 x63 x64 x65 x66 x67 x68 x69 x70 x71 x72 x73 x74 x75 x76 x77 x78 x79 x80 x81 x82 x83 v10 v30 j) h:=by
 subst e10
 subst e30
 exact zaj (fun s j=>zcp x0 x1 x2 x3 x4 x5 x6 x7 x8 x9 x11 x14 x15 x16 x17 x18 x19 x20 x21 x22 x23 x24 x25 x26 x27 x28 x29 x55 x56 x57 x58 x59 x60 x61 x62 x63 x64 x65 x66 x67 x68 x69 x70 x71 x72 x73 x74 x75 x76 x77 x78 x79 x80 x81 x82 x83 (f10 s) (f30 s) j) I μ round s0 j h0
theorem zmv (f10 f57:σ→Value) (I:σ→Hp→Prop) (μ:σ→Nat) (s0:σ) (e10:v10=f10 s0) (e57:v57=f57 s0) (h0:h.wf→∃ h',h.wk h'∧I s0 h')
 (round:∀ (k1:Env→Hp→Prop) (s:σ) (j:Nat→Value) (h:Hp),I s h→h.wf→(∀ s' j' h',μ s'<μ s→(h'.wf→∃ h'',h'.wk h''∧I s' h'')→k1 (zcc x0 x1 x2 x3 x4 x5 x6 x7 x8 x9 x11 x12 x13 x14 x16 x17 x18 x19 x20 x21 x22 x23 x24 x25 x26 x27 x28 x29 x30 x31 x32 x33 x34 x35 x36 x37 x38 x39 x40 x41 x42 x43 x44 x45 x46 x47 x48 x49 x50 x51 x52 x53 x54 x55 x56 x72 x73 x74 x75 x76 x77 x78 x79 x80 x81 x82 x83 (f10 s') (f57 s') j') h')→d67 [1,1,1,1,1,0,1,0,0] (znm K E k1) (zcc x0 x1 x2 x3 x4 x5 x6 x7 x8 x9 x11 x12 x13 x14 x16 x17 x18 x19 x20 x21 x22 x23 x24 x25 x26 x27 x28 x29 x30 x31 x32 x33 x34 x35 x36 x37 x38 x39 x40 x41 x42 x43 x44 x45 x46 x47 x48 x49 x50 x51 x52 x53 x54 x55 x56 x72 x73 x74 x75 x76 x77 x78 x79 x80 x81 x82 x83 (f10 s) (f57 s) j) h) :
 lp (fun k1=>d67 [1,1,1,1,1,0,1,0,0] (znm K E k1)) (zcc x0 x1 x2 x3 x4 x5 x6 x7 x8 x9 x11 x12 x13 x14 x16 x17 x18 x19 x20 x21 x22 x23 x24 x25 x26 x27 x28 x29 x30 x31 x32 x33 x34 x35 x36 x37 x38 x39 x40 x41 x42 x43 x44 x45 x46 x47 x48 x49 x50 x51 x52 x53 x54 x55 x56 x72 x73 x74 x75 x76 x77 x78 x79 x80 x81 x82 x83 v10 v57 j) h:=by
 subst e10
 subst e57
 exact zaj (fun s j=>zcc x0 x1 x2 x3 x4 x5 x6 x7 x8 x9 x11 x12 x13 x14 x16 x17 x18 x19 x20 x21 x22 x23 x24 x25 x26 x27 x28 x29 x30 x31 x32 x33 x34 x35 x36 x37 x38 x39 x40 x41 x42 x43 x44 x45 x46 x47 x48 x49 x50 x51 x52 x53 x54 x55 x56 x72 x73 x74 x75 x76 x77 x78 x79 x80 x81 x82 x83 (f10 s) (f57 s) j) I μ round s0 j h0
theorem zu7 (f9:σ→Value) (I:σ→Hp→Prop) (μ:σ→Nat) (s0:σ) (e9:v9=f9 s0) (h0:h.wf→∃ h',h.wk h'∧I s0 h')
 (round:∀ (k1:Env→Hp→Prop) (s:σ) (j:Nat→Value) (h:Hp),I s h→h.wf→(∀ s' j' h',μ s'<μ s→(h'.wf→∃ h'',h'.wk h''∧I s' h'')→k1 (zea x0 x1 x2 x3 x4 x6 x7 x8 x21 x22 (f9 s') j') h')→d74 [1,1,0,1,0,0] (zz6 K E k1) (zea x0 x1 x2 x3 x4 x6 x7 x8 x21 x22 (f9 s) j) h) :
 lp (fun k1=>d74 [1,1,0,1,0,0] (zz6 K E k1)) (zea x0 x1 x2 x3 x4 x6 x7 x8 x21 x22 v9 j) h:=by
 subst e9
 exact zaj (fun s j=>zea x0 x1 x2 x3 x4 x6 x7 x8 x21 x22 (f9 s) j) I μ round s0 j h0
theorem zqa (f5 f6:σ→Value) (I:σ→Hp→Prop) (μ:σ→Nat) (s0:σ) (e5:v5=f5 s0) (e6:v6=f6 s0) (h0:h.wf→∃ h',h.wk h'∧I s0 h')
 (round:∀ (k1:Env→Hp→Prop) (s:σ) (j:Nat→Value) (h:Hp),I s h→h.wf→(∀ s' j' h',μ s'<μ s→(h'.wf→∃ h'',h'.wk h''∧I s' h'')→k1 (zd2 x0 x1 x2 x3 x4 x8 x9 x10 x11 x12 x13 x14 x15 x36 x37 x38 x39 x40 x41 (f5 s') (f6 s') j') h')→d75 [1,1,1,0,1,0,0] (zni K E k1) (zd2 x0 x1 x2 x3 x4 x8 x9 x10 x11 x12 x13 x14 x15 x36 x37 x38 x39 x40 x41 (f5 s) (f6 s) j) h) :
 lp (fun k1=>d75 [1,1,1,0,1,0,0] (zni K E k1)) (zd2 x0 x1 x2 x3 x4 x8 x9 x10 x11 x12 x13 x14 x15 x36 x37 x38 x39 x40 x41 v5 v6 j) h:=by
 subst e5
 subst e6
 exact zaj (fun s j=>zd2 x0 x1 x2 x3 x4 x8 x9 x10 x11 x12 x13 x14 x15 x36 x37 x38 x39 x40 x41 (f5 s) (f6 s) j) I μ round s0 j h0
theorem zt4 (f3 f8:σ→Value) (I:σ→Hp→Prop) (μ:σ→Nat) (s0:σ) (e3:v3=f3 s0) (e8:v8=f8 s0) (h0:h.wf→∃ h',h.wk h'∧I s0 h')
 (round:∀ (k1:Env→Hp→Prop) (s:σ) (j:Nat→Value) (h:Hp),I s h→h.wf→(∀ s' j' h',μ s'<μ s→(h'.wf→∃ h'',h'.wk h''∧I s' h'')→k1 (ze4 x0 x1 x2 x4 x6 x7 x22 (f3 s') (f8 s') j') h')→d76 [1,1,0,1,0,0] (zzd K E k1) (ze4 x0 x1 x2 x4 x6 x7 x22 (f3 s) (f8 s) j) h) :
 lp (fun k1=>d76 [1,1,0,1,0,0] (zzd K E k1)) (ze4 x0 x1 x2 x4 x6 x7 x22 v3 v8 j) h:=by
 subst e3
 subst e8
 exact zaj (fun s j=>ze4 x0 x1 x2 x4 x6 x7 x22 (f3 s) (f8 s) j) I μ round s0 j h0
end
section
variable (K:zae) (E:zat) (k1 k2 k3 k4 k5:Env→Hp→Prop) (x0 x1 x2 x3 x4 x5 x6 x7 x8 x9 x10 x11 x12 x13 x14 x15 x16 x17 x18 x19 x20 x21 x22 x23 x24 x25 x26 x27 x28 x29 x30 x31 x32 x33 x34 x35 x36 x37 x38 x39 x40 x41 x42 x43 x44 x45 x46 x47 x48 x49 x50 x51 x52 x53 x54 x55 x56 x57 x58 x59 x60 x61 x62 x63 x64 x65 x66 x67 x68 x69 x70 x71 x72 v0 v1 v2 v3 v4 v5 v6 v7 v8 v9 v10 v11 v12 v13 v14 v15 v16 v17 v18 v19 v20 v21 v22 v23 v24 v25 v26 v27 v28 v29 v30 v31 v32 v33 v34 v35 v36 v37 v38 v39 v40 v41 v42 v43 v44 v45 v46 v47 v48 v49 v50 v51 v52 v53 v54 v55 v56 v57 v58 v59 v60 v61 v62 v63 v64 v65 v66 v67 v68 v69 v70 v71 v72:Value) (j:Nat→Value)
abbrev q77:QD:=zab Tryz.prog Tryz.f77.results.toList K E
abbrev d77 (p:List Nat):QD→Env→Hp→Prop:=den Tryz.prog (sel (za8 Tryz.f77) p)
theorem t77:d77 [] (q77 K E) #[x0,x1,x2,U,U,U,U,U,U,U] =
 nw 90 (Value.cells x0).toList fun t1=>
 ld false 1 x1 fun t2=>
 ld true 2 t1 fun t3=>
 ld false 1 x2 fun t4=>
 za2 Tryz.prog t2 #[t3] (fun t5 h6=>(ldV h6 false 1 x2 t4)∧(
  pv (za1 .bool .neq t5 t4) fun t7=>
  K t7) h6) E:=by kernel_rfl
abbrev q78:QD:=zab Tryz.prog Tryz.f78.results.toList K E
abbrev d78 (p:List Nat):QD→Env→Hp→Prop:=den Tryz.prog (sel (za8 Tryz.f78) p)
theorem t78:d78 [] (q78 K E) #[x0,x1,x2,U,U,U,U,U,U,U,U,U,U,U,U,U,U,U,U,U,U,U,U,U,U] =
 nw 90 (Value.cells x0).toList fun t1=>
 pv (faV 0 t1) fun t2=>
 ld false 1 t2 fun t3=>
 pv (za9 t3) fun t4=>
 pv (za1 .none .gtr t4 (.int .i64 0)) fun t5=>
 gdK t5 true (fun k=>pv (faV 0 t1) k) fun t6=>
 gdK t5 true (fun k=>ld false 1 t6 k) fun t7=>
 gdK t5 true (fun k=>pv (iaV none 1 t7 (.int .i64 0)) k) fun t8=>
 gdK t5 true (fun k=>ld false 1 t8 k) fun t9=>
 gdK t5 true (fun k=>ld false 1 x1 k) fun t10=>
 gdK t5 true (fun k=>pv (za1 .none .geq t9 t10) k) fun t11=>
 pv (zah t5 t11 (.bool false)) fun t12=>
 gdK t12 true (fun k=>pv (faV 0 t1) k) fun t13=>
 gdK t12 true (fun k=>ld false 1 t13 k) fun t14=>
 gdK t12 true (fun k=>pv (iaV none 1 t14 (.int .i64 0)) k) fun t15=>
 gdK t12 true (fun k=>ld false 1 t15 k) fun t16=>
 gdK t12 true (fun k=>ld false 1 x2 k) fun t17=>
 gdK t12 true (fun k=>pv (za1 .none .lss t16 t17) k) fun t18=>
 pv (zah t12 t18 (.bool false)) fun t19=>
 K t19:=by kernel_rfl
abbrev q79:QD:=zab Tryz.prog Tryz.f79.results.toList K E
abbrev d79 (p:List Nat):QD→Env→Hp→Prop:=den Tryz.prog (sel (za8 Tryz.f79) p)
abbrev zym:=za6 k1 (blk 0 (za6 (d79 [1,1] (q79 K E)) (q79 K E)))
def zfm (j:Nat→Value):Env:=#[x0,x1,(j 2),v3,(j 4),(j 5),(j 6),(j 7),(j 8),(j 9),(j 10),(j 11),(j 12),(j 13),(j 14),(j 15),x16,x17,x18,x19,x20,x21,x22,x23]
theorem t79:d79 [] (q79 K E) #[x0,U,U,U,U,U,U,U,U,U,U,U,U,U,U,U,U,U,U,U,U,U,U,U] =
 lp (fun k1=>d79 [1,0,1,0,0] (zym K E k1)) (zfm x0 U U U U U U U U U (.int .i64 0) (jf #[U,U,(.bool false)])):=by kernel_rfl
theorem zyb:d79 [1,0,1,0,0] (zym K E k1) (zfm x0 x1 x16 x17 x18 x19 x20 x21 x22 x23 v3 j) =
 pv (za9 x0) fun t1=>
 pv (za1 .none .lss v3 t1) fun t2=>
 cnd t2 (
  pv (iaV none 2 x0 v3) fun t3=>
  ld true 2 t3 fun t4=>
  za2 Tryz.prog (.func (.func 112) #[] #[]) #[t4] (fun t5=>
  pv (unV .not t5) fun t6=>
  cnd t6 (
  K (.bool false)) (
  pv (za1 .none .add v3 (.int .i64 1)) fun t7=>
  k1 (zfm x0 x1 x16 x17 x18 x19 x20 x21 x22 x23 t7 (jf #[U,U,(j 2),U,v3,x0,t1,t2,v3,t7,x0,v3,t3,t4,t5,t6])))) E) (
  pv (za9 x0) fun t8=>
  pv (za1 .none .geq t8 (.int .i64 1)) fun t9=>
  gdK t9 true (fun k=>k x0) fun t10=>
  gdK t9 true (fun k=>pv (za9 t10) k) fun t11=>
  gdK t9 true (fun k=>pv (za1 .none .leq t11 (.int .i64 4)) k) fun t12=>
  pv (zah t9 t12 (.bool false)) fun t13=>
  K t13):=by kernel_rfl
abbrev q81:QD:=zab Tryz.prog Tryz.f81.results.toList K E
abbrev d81 (p:List Nat):QD→Env→Hp→Prop:=den Tryz.prog (sel (za8 Tryz.f81) p)
abbrev zyo:=za6 k1 (blk 0 (za6 (d81 [1,1,1,1] (q81 K E)) (q81 K E)))
def zd4 (j:Nat→Value):Env:=#[x0,x1,x2,x3,x4,x5,(j 6),v7,x8,x9,x10,x11,x12,x13,(j 14),(j 15),(j 16),(j 17),(j 18),(j 19),(j 20),(j 21),(j 22),(j 23),(j 24),(j 25),(j 26),(j 27),(j 28),(j 29),(j 30),(j 31),(j 32),x33,x34,x35,x36,x37,x38,x39,x40,x41,x42,x43,x44,x45,x46,x47,x48]
theorem t81:d81 [] (q81 K E) #[x0,x1,x2,U,U,U,U,U,U,U,U,U,U,U,U,U,U,U,U,U,U,U,U,U,U,U,U,U,U,U,U,U,U,U,U,U,U,U,U,U,U,U,U,U,U,U,U,U,U] =
 za2 Tryz.prog (.func (.func 28) #[] #[]) #[x0,x2] (fun t1=>
 pv (unV .not t1) fun t2=>
 cnd t2 (
  K (.int .i64 1)) (
  pv (za1 .none .eql x1 (.int .u32 0)) fun t3=>
  cnd t3 (
  K (.int .i64 130)) (
  lp (fun k1=>d81 [1,1,1,0,1,0,0] (zyo K E k1)) (zd4 x0 x1 x2 U U U x0 x2 t1 t2 x1 t3 U U U U U U U U U U U U U U U U (.int .i64 0) (jf #[U,U,U,U,U,U,(.int .i64 0)]))))) E:=by kernel_rfl
theorem zpt:d81 [1,1,1,0,1,0,0] (zyo K E k1) (zd4 x0 x1 x2 x3 x4 x5 x8 x9 x10 x11 x12 x13 x33 x34 x35 x36 x37 x38 x39 x40 x41 x42 x43 x44 x45 x46 x47 x48 v7 j) =
 pv (zan x0) fun t1=>
 pv (faV 1 t1) fun t2=>
 ld false 1 t2 fun t3=>
 pv (za9 t3) fun t4=>
 pv (za1 .none .lss v7 t4) fun t5=>
 cnd t5 (
  pv (zan x0) fun t6=>
  pv (faV 1 t6) fun t7=>
  ld false 1 t7 fun t8=>
  pv (iaV none 2 t8 v7) fun t9=>
  pv (faV 0 t9) fun t10=>
  ld false 1 t10 fun t11=>
  pv (za1 .none .eql t11 x1) fun t12=>
  cnd t12 (
  K (.int .i64 130)) (
  pv (za1 .none .add v7 (.int .i64 1)) fun t13=>
  k1 (zd4 x0 x1 x2 x3 x4 x5 x8 x9 x10 x11 x12 x13 x33 x34 x35 x36 x37 x38 x39 x40 x41 x42 x43 x44 x45 x46 x47 x48 t13 (jf #[U,U,U,U,U,U,(j 6),U,U,U,U,U,U,U,v7,x0,t1,t2,t3,t4,t5,v7,t13,x0,t6,t7,t8,v7,t9,t10,t11,x1,t12])))) (
  pv (zan x0) fun t14=>
  pv (faV 1 t14) fun t15=>
  ld false 1 t15 fun t16=>
  pv (za9 t16) fun t17=>
  pv (za1 .none .geq t17 (.int .i64 5000)) fun t18=>
  cnd t18 (
  K (.int .i64 3)) (
  pv (zan x0) fun t19=>
  pv (faV 1 t19) fun t20=>
  ld false 1 t20 fun t21=>
  za2 Tryz.prog (.func (.func 84) #[] #[]) #[t21,x1,x2] (fun t22=>
  pv (zan x0) fun t23=>
  pv (faV 1 t23) fun t24=>
  st 1 t24 t22 fun _=>
  K (.int .i64 0)) E)):=by kernel_rfl
abbrev q82:QD:=zab Tryz.prog Tryz.f82.results.toList K E
abbrev d82 (p:List Nat):QD→Env→Hp→Prop:=den Tryz.prog (sel (za8 Tryz.f82) p)
abbrev zyz:=za6 k2 (blk 2 (blk 1 (za6 (d82 [1,0,1,0,0,1,1] (za6 k1 (blk 0 (za6 (d82 [1,1] (q82 K E)) (q82 K E))))) (za6 k1 (blk 0 (za6 (d82 [1,1] (q82 K E)) (q82 K E)))))))
abbrev zyv:=za6 k1 (blk 0 (za6 (d82 [1,1] (q82 K E)) (q82 K E)))
def zfk (j:Nat→Value):Env:=#[x0,x1,x2,x3,x4,x5,x6,x7,(j 8),v9,(j 10),(j 11),(j 12),(j 13),(j 14),(j 15),(j 16),(j 17),(j 18),(j 19),(j 20),(j 21),(j 22),(j 23),(j 24),(j 25),(j 26),(j 27),(j 28),(j 29),(j 30),(j 31),(j 32),(j 33),(j 34),(j 35),(j 36),(j 37),(j 38),(j 39),(j 40),(j 41),(j 42),(j 43),(j 44),(j 45),(j 46),(j 47),(j 48),(j 49),(j 50),(j 51),(j 52),(j 53),(j 54),(j 55),(j 56),(j 57),(j 58),(j 59),(j 60),(j 61),(j 62),(j 63),(j 64),(j 65),(j 66),(j 67),(j 68),(j 69),(j 70),(j 71),(j 72)]
def zbv (j:Nat→Value):Env:=#[x0,x1,x2,x3,x4,x5,x6,x7,(j 8),x9,v10,x11,x12,x13,x14,x15,x16,x17,x18,x19,x20,x21,x22,x23,x24,x25,x26,x27,x28,x29,x30,x31,x32,x33,x34,x35,x36,x37,x38,x39,x40,x41,x42,x43,x44,x45,x46,x47,x48,x49,x50,(j 51),(j 52),(j 53),(j 54),(j 55),(j 56),(j 57),(j 58),(j 59),(j 60),(j 61),(j 62),(j 63),(j 64),(j 65),(j 66),(j 67),(j 68),(j 69),(j 70),(j 71),(j 72)]
theorem t82:d82 [] (q82 K E) #[x0,x1,x2,x3,U,U,U,U,U,U,U,U,U,U,U,U,U,U,U,U,U,U,U,U,U,U,U,U,U,U,U,U,U,U,U,U,U,U,U,U,U,U,U,U,U,U,U,U,U,U,U,U,U,U,U,U,U,U,U,U,U,U,U,U,U,U,U,U,U,U,U,U,U] =
 lp (fun k1=>d82 [1,0,1,0,0] (zyv K E k1)) (zfk x0 x1 x2 x3 U U U U (.int .i64 0) (jf #[U,U,U,U,U,U,U,U,(.bool false)])):=by kernel_rfl
theorem zxy:d82 [1,0,1,0,0] (zyv K E k1) (zfk x0 x1 x2 x3 x4 x5 x6 x7 v9 j) =
 pv (za9 x3) fun t1=>
 pv (za1 .none .lss v9 t1) fun t2=>
 cnd t2 (
  pv (iaV none 2 x3 v9) fun t3=>
  pv (faV 0 t3) fun t4=>
  ld false 1 t4 fun t5=>
  pv (za1 .none .eql t5 (.int .u32 0)) fun t6=>
  gdK t6 false (fun k=>k v9) fun t7=>
  gdK t6 false (fun k=>pv (za1 .none .gtr t7 (.int .i64 0)) k) fun t8=>
  gdK t6 false (fun k=>k t8) fun t9=>
  gdK t9 true (fun k=>k x3) fun t10=>
  gdK t9 true (fun k=>k v9) fun t11=>
  gdK t9 true (fun k=>pv (iaV none 2 t10 t11) k) fun t12=>
  gdK t9 true (fun k=>pv (faV 0 t12) k) fun t13=>
  gdK t9 true (fun k=>ld false 1 t13 k) fun t14=>
  gdK t9 true (fun k=>k x3) fun t15=>
  gdK t9 true (fun k=>k v9) fun t16=>
  gdK t9 true (fun k=>pv (za1 .none .sub t16 (.int .i64 1)) k) fun t17=>
  gdK t9 true (fun k=>pv (iaV none 2 t15 t17) k) fun t18=>
  gdK t9 true (fun k=>pv (faV 0 t18) k) fun t19=>
  gdK t9 true (fun k=>ld false 1 t19 k) fun t20=>
  gdK t9 true (fun k=>pv (za1 .none .leq t14 t20) k) fun t21=>
  gdK t6 false (fun k=>pv (zah t9 t21 (.bool false)) k) fun t22=>
  pv (zah t6 (.bool true) t22) fun t23=>
  gdK t23 false (fun k=>k x0) fun t24=>
  gdK t23 false (fun k=>k x3) fun t25=>
  gdK t23 false (fun k=>k v9) fun t26=>
  gdK t23 false (fun k=>pv (iaV none 2 t25 t26) k) fun t27=>
  gdK t23 false (fun k=>pv (faV 1 t27) k) fun t28=>
  gdK t23 false (fun k=>ld false 1 t28 k) fun t29=>
  gdK t23 false (fun k=>za2 Tryz.prog (.func (.func 28) #[] #[]) #[t24,t29] k E) fun t30=>
  gdK t23 false (fun k=>pv (unV .not t30) k) fun t31=>
  pv (zah t23 (.bool true) t31) fun t32=>
  cnd t32 (
  K (.bool false)) (
  lp (fun k2=>d82 [1,0,1,0,0,1,0,0,1,1,0,0] (zyz K E k1 k2)) (zbv x0 x1 x2 x3 x4 x5 x6 x7 v9 v9 x3 t1 t2 (j 15) (j 16) x3 v9 t3 t4 t5 t6 t6 t7 t8 t9 t10 t11 t12 t13 t14 t15 t16 t17 t18 t19 t20 t21 t22 t23 t23 t24 t25 t26 t27 t28 t29 t30 t31 t32 (.int .i64 0) (jf #[U,U,U,U,U,U,U,U,(j 8),U,U,U,U,U,U,U,U,U,U,U,U,U,U,U,U,U,U,U,U,U,U,U,U,U,U,U,U,U,U,U,U,U,U,U,U,U,U,U,U,U,U,(j 51),(j 52),(j 53),(j 54),(j 55),(j 56),(j 57),(j 58),(j 59),(j 60),(j 61),(j 62),(j 63),(j 64),(j 65),(j 66),(j 67),(j 68),(j 69),(j 70),(j 71),(j 72)])))) (
  K (.bool true)):=by kernel_rfl
theorem zk1:d82 [1,0,1,0,0,1,0,0,1,1,0,0] (zyz K E k1 k2) (zbv x0 x1 x2 x3 x4 x5 x6 x7 x9 x11 x12 x13 x14 x15 x16 x17 x18 x19 x20 x21 x22 x23 x24 x25 x26 x27 x28 x29 x30 x31 x32 x33 x34 x35 x36 x37 x38 x39 x40 x41 x42 x43 x44 x45 x46 x47 x48 x49 x50 v10 j) =
 pv (iaV none 2 x3 x9) fun t1=>
 pv (faV 1 t1) fun t2=>
 ld false 1 t2 fun t3=>
 pv (za9 t3) fun t4=>
 pv (za1 .none .lss v10 t4) fun t5=>
 cnd t5 (
  pv (iaV none 2 x3 x9) fun t6=>
  pv (faV 1 t6) fun t7=>
  ld false 1 t7 fun t8=>
  pv (iaV none 2 t8 v10) fun t9=>
  ld true 2 t9 fun t10=>
  za2 Tryz.prog (.func (.func 83) #[] #[]) #[t10,x1,x2] (fun t11=>
  pv (unV .not t11) fun t12=>
  cnd t12 (
  K (.bool false)) (
  pv (za1 .none .add v10 (.int .i64 1)) fun t13=>
  k2 (zbv x0 x1 x2 x3 x4 x5 x6 x7 x9 x11 x12 x13 x14 x15 x16 x17 x18 x19 x20 x21 x22 x23 x24 x25 x26 x27 x28 x29 x30 x31 x32 x33 x34 x35 x36 x37 x38 x39 x40 x41 x42 x43 x44 x45 x46 x47 x48 x49 x50 t13 (jf #[U,U,U,U,U,U,U,U,(j 8),U,U,U,U,U,U,U,U,U,U,U,U,U,U,U,U,U,U,U,U,U,U,U,U,U,U,U,U,U,U,U,U,U,U,U,U,U,U,U,U,U,U,v10,x3,x9,t1,t2,t3,t4,t5,v10,t13,x3,x9,t6,t7,t8,v10,t9,t10,x1,x2,t11,t12])))) E) (
  pv (za1 .none .add x9 (.int .i64 1)) fun t14=>
  k1 (zfk x0 x1 x2 x3 x4 x5 x6 x7 t14 (jf #[U,U,U,U,U,U,U,U,(j 8),U,v10,x11,x12,x13,x14,x9,t14,x17,x18,x19,x20,x21,x22,x23,x24,x25,x26,x27,x28,x29,x30,x31,x32,x33,x34,x35,x36,x37,x38,x39,x40,x41,x42,x43,x44,x45,x46,x47,x48,x49,x50,v10,x3,x9,t1,t2,t3,t4,t5,(j 59),(j 60),(j 61),(j 62),(j 63),(j 64),(j 65),(j 66),(j 67),(j 68),(j 69),(j 70),(j 71),(j 72)]))):=by kernel_rfl
abbrev q83:QD:=zab Tryz.prog Tryz.f83.results.toList K E
abbrev d83 (p:List Nat):QD→Env→Hp→Prop:=den Tryz.prog (sel (za8 Tryz.f83) p)
theorem t83:d83 [] (q83 K E) #[x0,x1,x2,U,U,U,U,U,U,U,U,U,U,U,U,U,U,U,U,U,U,U,U,U,U,U,U] =
 nw 90 (Value.cells x0).toList fun t1=>
 pv (faV 0 t1) fun t2=>
 ld false 1 t2 fun t3=>
 pv (za9 t3) fun t4=>
 pv (za1 .none .gtr t4 (.int .i64 0)) fun t5=>
 gdK t5 true (fun k=>pv (faV 0 t1) k) fun t6=>
 gdK t5 true (fun k=>ld false 1 t6 k) fun t7=>
 gdK t5 true (fun k=>pv (iaV none 1 t7 (.int .i64 0)) k) fun t8=>
 gdK t5 true (fun k=>ld false 1 t8 k) fun t9=>
 gdK t5 true (fun k=>k x1) fun t10=>
 gdK t5 true (fun k=>pv (za1 .none .geq t9 t10) k) fun t11=>
 pv (zah t5 t11 (.bool false)) fun t12=>
 gdK t12 true (fun k=>pv (faV 0 t1) k) fun t13=>
 gdK t12 true (fun k=>ld false 1 t13 k) fun t14=>
 gdK t12 true (fun k=>pv (iaV none 1 t14 (.int .i64 0)) k) fun t15=>
 gdK t12 true (fun k=>ld false 1 t15 k) fun t16=>
 gdK t12 true (fun k=>k x2) fun t17=>
 gdK t12 true (fun k=>pv (za1 .none .lss t16 t17) k) fun t18=>
 pv (zah t12 t18 (.bool false)) fun t19=>
 K t19:=by kernel_rfl
abbrev q84:QD:=zab Tryz.prog Tryz.f84.results.toList K E
abbrev d84 (p:List Nat):QD→Env→Hp→Prop:=den Tryz.prog (sel (za8 Tryz.f84) p)
abbrev zzg:=za6 k1 (blk 0 (za6 (d84 [1,1,1,1] (q84 K E)) (q84 K E)))
def zer (j:Nat→Value):Env:=#[x0,x1,x2,x3,x4,x5,x6,v7,v8,x9,(j 10),(j 11),(j 12),(j 13),(j 14),(j 15),(j 16),(j 17),(j 18),(j 19),(j 20),(j 21),(j 22),(j 23),(j 24),(j 25),(j 26),(j 27),(j 28),(j 29),(j 30),(j 31),x32,x33,x34,x35,x36,x37,x38,x39,x40,x41,x42,x43,x44,x45,x46,x47,x48,x49,x50,x51,x52,x53,x54,x55,x56,x57,x58,x59,x60,x61,x62,x63,x64,x65,x66,x67,x68,x69,x70,x71]
theorem t84:d84 [] (q84 K E) #[x0,x1,x2,U,U,U,U,U,U,U,U,U,U,U,U,U,U,U,U,U,U,U,U,U,U,U,U,U,U,U,U,U,U,U,U,U,U,U,U,U,U,U,U,U,U,U,U,U,U,U,U,U,U,U,U,U,U,U,U,U,U,U,U,U,U,U,U,U,U,U,U,U] =
 lp (fun k1=>d84 [1,1,1,0,0,0] (zzg K E k1)) (zer x0 x1 x2 U U U (.slice none 0 0) U U U U U U U U U U U U U U U U U U U U U U U U U U U U U U U U U U U U U U U U U (.slice none 0 0) (.int .i64 0) (jf #[])):=by kernel_rfl
theorem zsr:d84 [1,1,1,0,0,0] (zzg K E k1) (zer x0 x1 x2 x3 x4 x5 x6 x9 x32 x33 x34 x35 x36 x37 x38 x39 x40 x41 x42 x43 x44 x45 x46 x47 x48 x49 x50 x51 x52 x53 x54 x55 x56 x57 x58 x59 x60 x61 x62 x63 x64 x65 x66 x67 x68 x69 x70 x71 v7 v8 j) =
 pv (za9 x0) fun t1=>
 pv (za1 .none .lss v8 t1) fun t2=>
 gdK t2 true (fun k=>k x0) fun t3=>
 gdK t2 true (fun k=>k v8) fun t4=>
 gdK t2 true (fun k=>pv (iaV none 2 t3 t4) k) fun t5=>
 gdK t2 true (fun k=>pv (faV 0 t5) k) fun t6=>
 gdK t2 true (fun k=>ld false 1 t6 k) fun t7=>
 gdK t2 true (fun k=>k x1) fun t8=>
 gdK t2 true (fun k=>pv (za1 .none .lss t7 t8) k) fun t9=>
 pv (zah t2 t9 (.bool false)) fun t10=>
 cnd t10 (
  pv (iaV none 2 x0 v8) fun t11=>
  ld true 2 t11 fun t12=>
  nws 74 1 (bsC #[(.int .u32 0),(.slice none 0 0)] 2 1 #[(0,t12)]) fun t13=>
  zbf 74 2 32 v7 t13 fun t14=>
  pv (za1 .none .add v8 (.int .i64 1)) fun t15=>
  k1 (zer x0 x1 x2 x3 x4 x5 x6 x9 x32 x33 x34 x35 x36 x37 x38 x39 x40 x41 x42 x43 x44 x45 x46 x47 x48 x49 x50 x51 x52 x53 x54 x55 x56 x57 x58 x59 x60 x61 x62 x63 x64 x65 x66 x67 x68 x69 x70 x71 t14 t15 (jf #[U,U,U,U,U,U,U,U,U,U,v8,x0,t1,t2,t2,t3,t4,t5,t6,t7,t8,t9,t10,v7,x0,v8,t11,t12,t13,t14,v8,t15]))) (
  pv (bdC #[(.int .u32 0),(.slice none 0 0)] [(0,1),(1,1)] #[(0,x1)]) fun t16=>
  nw 74 [(.int .u32 0),(.slice none 0 0)] fun t17=>
  st 2 t17 t16 fun _=>
  pv (za9 x0) fun t18=>
  pv (za1 .none .lss v8 t18) fun t19=>
  gdK t19 true (fun k=>k x0) fun t20=>
  gdK t19 true (fun k=>k v8) fun t21=>
  gdK t19 true (fun k=>pv (iaV none 2 t20 t21) k) fun t22=>
  gdK t19 true (fun k=>pv (faV 0 t22) k) fun t23=>
  gdK t19 true (fun k=>ld false 1 t23 k) fun t24=>
  gdK t19 true (fun k=>k x1) fun t25=>
  gdK t19 true (fun k=>pv (za1 .none .eql t24 t25) k) fun t26=>
  pv (zah t19 t26 (.bool false)) fun t27=>
  cnd t27 (
  pv (iaV none 2 x0 v8) fun t28=>
  pv (faV 1 t28) fun t29=>
  ld false 1 t29 fun t30=>
  za2 Tryz.prog (.func (.func 50) #[] #[]) #[t30] (fun t31=>
  pv (faV 1 t17) fun t32=>
  st 1 t32 t31 fun _=>
  pv (za1 .none .add v8 (.int .i64 1)) fun t33=>
  d84 [1,1,1,1,1,1] (q84 K E) #[x0,x1,x2,x3,x4,x5,x6,v7,t33,t17,v8,x0,t1,t2,t2,t3,t4,t5,t6,t7,t8,t9,t10,(j 23),(j 24),(j 25),(j 26),(j 27),(j 28),(j 29),(j 30),(j 31),x1,t16,v8,x0,t18,t19,t19,t20,t21,t22,t23,t24,t25,t26,t27,x0,v8,t28,t29,t30,t31,t32,v8,t33,x56,x57,x58,x59,x60,x61,x62,x63,x64,x65,x66,x67,x68,x69,x70,x71]) E) (
  d84 [1,1,1,1,1,1] (q84 K E) #[x0,x1,x2,x3,x4,x5,x6,v7,v8,t17,v8,x0,t1,t2,t2,t3,t4,t5,t6,t7,t8,t9,t10,(j 23),(j 24),(j 25),(j 26),(j 27),(j 28),(j 29),(j 30),(j 31),x1,t16,v8,x0,t18,t19,t19,t20,t21,t22,t23,t24,t25,t26,t27,x47,x48,x49,x50,x51,x52,x53,x54,x55,x56,x57,x58,x59,x60,x61,x62,x63,x64,x65,x66,x67,x68,x69,x70,x71])):=by kernel_rfl
theorem zir:d84 [1,1,1,1,1,1] (q84 K E) #[x0,x1,x2,x3,x4,x5,x6,x7,x8,x9,x10,x11,x12,x13,x14,x15,x16,x17,x18,x19,x20,x21,x22,x23,x24,x25,x26,x27,x28,x29,x30,x31,x32,x33,x34,x35,x36,x37,x38,x39,x40,x41,x42,x43,x44,x45,x46,x47,x48,x49,x50,x51,x52,x53,x54,x55,x56,x57,x58,x59,x60,x61,x62,x63,x64,x65,x66,x67,x68,x69,x70,x71] =
 pv (faV 1 x9) fun t1=>
 ld false 1 t1 fun t2=>
 za2 Tryz.prog (.func (.func 50) #[] #[]) #[x2] (fun t3 h4=>(ldV h4 false 1 t1 t2)∧(
  zbf 90 2 32 t2 t3 fun t5=>
  pv (faV 1 x9) fun t6=>
  st 1 t6 t5 fun _=>
  ld true 2 x9 fun t7=>
  nws 74 1 (bsC #[(.int .u32 0),(.slice none 0 0)] 2 1 #[(0,t7)]) fun t8=>
  zbf 74 2 32 x7 t8 fun t9=>
  pv (slV 2 x0 (some x8) none none) fun t10=>
  zbf 74 2 32 t9 t10 fun t11=>
  K t11) h4) E:=by kernel_rfl
abbrev q85:QD:=zab Tryz.prog Tryz.f85.results.toList K E
abbrev d85 (p:List Nat):QD→Env→Hp→Prop:=den Tryz.prog (sel (za8 Tryz.f85) p)
abbrev zz0:=za6 k1 (blk 0 (za6 (d85 [1,1] (q85 K E)) (q85 K E)))
def zfp (j:Nat→Value):Env:=#[x0,x1,x2,x3,(j 4),(j 5),x6,x7,v8,(j 9),(j 10),(j 11),(j 12),(j 13),(j 14),(j 15),(j 16),(j 17),(j 18)]
theorem t85:d85 [] (q85 K E) #[x0,x1,U,U,U,U,U,U,U,U,U,U,U,U,U,U,U,U,U] =
 pv (za9 x0) fun t1=>
 lp (fun k1=>d85 [1,0,1,0,0] (zz0 K E k1)) (zfp x0 x1 U U x0 t1 (.int .i64 0) (jf #[U,U,U,U,(.int .i64 0)])):=by kernel_rfl
theorem znx:d85 [1,0,1,0,0] (zz0 K E k1) (zfp x0 x1 x2 x3 x6 x7 v8 j) =
 pv (za1 .none .lss v8 x7) fun t1=>
 cnd t1 (
  pv (iaV none 2 x0 v8) fun t2=>
  ld true 2 t2 fun t3=>
  za2 Tryz.prog x1 #[t3] (fun t4=>
  cnd t4 (
  K v8) (
  pv (za1 .none .add v8 (.int .i64 1)) fun t5=>
  k1 (zfp x0 x1 x2 x3 x6 x7 t5 (jf #[U,U,U,U,(j 4),v8,U,U,U,t1,v8,x1,x0,v8,t2,t3,t4,(j 17),t5])))) E) (
  K (.int .i64 (-1))):=by kernel_rfl
abbrev q86:QD:=zab Tryz.prog Tryz.f86.results.toList K E
abbrev d86 (p:List Nat):QD→Env→Hp→Prop:=den Tryz.prog (sel (za8 Tryz.f86) p)
abbrev zyr:=za6 k1 (blk 0 (za6 (d86 [1,1,1] (q86 K E)) (q86 K E)))
def ze7 (j:Nat→Value):Env:=#[x0,x1,x2,x3,x4,x5,(j 6),(j 7),(j 8),(j 9),x10,x11,x12,x13,x14,x15,x16,v17,(j 18),(j 19),(j 20),(j 21),(j 22),(j 23),(j 24),(j 25),(j 26),(j 27),(j 28),(j 29),(j 30),(j 31)]
theorem t86:d86 [] (q86 K E) #[x0,x1,x2,U,U,U,U,U,U,U,U,U,U,U,U,U,U,U,U,U,U,U,U,U,U,U,U,U,U,U,U,U] =
 pv (za9 x0) fun t1=>
 pv (za9 x1) fun t2=>
 pv (za1 .none .neq t1 t2) fun t3=>
 cnd t3 (
  K (.bool false)) (
  pv (za9 x0) fun t4=>
  lp (fun k1=>d86 [1,1,0,1,0,0] (zyr K E k1)) (ze7 x0 x1 x2 U U U x0 t1 x1 t2 t3 x0 t4 (.int .i64 0) (jf #[U,U,U,U,U,U,(.bool false)]))):=by kernel_rfl
theorem zlc:d86 [1,1,0,1,0,0] (zyr K E k1) (ze7 x0 x1 x2 x3 x4 x5 x10 x11 x12 x13 x14 x15 x16 v17 j) =
 pv (za1 .none .lss v17 x16) fun t1=>
 cnd t1 (
  pv (iaV none 2 x15 v17) fun t2=>
  ld true 2 t2 fun t3=>
  nw 88 [(.int .i64 0),(.slice none 0 0)] fun t4=>
  st 2 t4 t3 fun _=>
  pv (iaV none 1 x1 v17) fun t5=>
  ld false 1 t5 fun t6=>
  ld true 2 t4 fun t7=>
  za2 Tryz.prog x2 #[t7,t6] (fun t8=>
  pv (unV .not t8) fun t9=>
  cnd t9 (
  K (.bool false)) (
  pv (za1 .none .add v17 (.int .i64 1)) fun t10=>
  k1 (ze7 x0 x1 x2 x3 x4 x5 x10 x11 x12 x13 x14 x15 x16 t10 (jf #[U,U,U,U,U,U,(j 6),v17,t4,t6,U,U,U,U,U,U,U,U,t1,v17,t2,t3,x1,v17,t5,t6,x2,t7,t6,t8,t9,t10])))) E) (
  K (.bool true)):=by kernel_rfl
abbrev q87:QD:=zab Tryz.prog Tryz.f87.results.toList K E
abbrev d87 (p:List Nat):QD→Env→Hp→Prop:=den Tryz.prog (sel (za8 Tryz.f87) p)
theorem t87:d87 [] (q87 K E) #[x0,x1,U,U,U,U,U,U,U,U,U,U,U] =
 nw 88 (Value.cells x0).toList fun t1=>
 pv (za1 .none .geq x1 (.int .i64 0)) fun t2=>
 gdK t2 true (fun k=>k x1) fun t3=>
 gdK t2 true (fun k=>pv (faV 0 t1) k) fun t4=>
 gdK t2 true (fun k=>ld false 1 t4 k) fun t5=>
 gdK t2 true (fun k=>pv (za1 .none .lss t3 t5) k) fun t6=>
 pv (zah t2 t6 (.bool false)) fun t7=>
 K t7:=by kernel_rfl
abbrev q88:QD:=zab Tryz.prog Tryz.f88.results.toList K E
abbrev d88 (p:List Nat):QD→Env→Hp→Prop:=den Tryz.prog (sel (za8 Tryz.f88) p)
abbrev zyu:=za6 k1 (blk 0 (za6 (d88 [1,1,1] (q88 K E)) (q88 K E)))
def zeg (j:Nat→Value):Env:=#[v0,x1,x2,x3,x4,v5,x6,x7,x8,x9,x10,(j 11),(j 12),(j 13),(j 14),(j 15),(j 16),(j 17),(j 18),(j 19),(j 20),(j 21),(j 22),(j 23),(j 24),(j 25),(j 26),(j 27),(j 28),(j 29),(j 30),(j 31),x32]
theorem t88:d88 [] (q88 K E) #[x0,x1,U,U,U,U,U,U,U,U,U,U,U,U,U,U,U,U,U,U,U,U,U,U,U,U,U,U,U,U,U,U,U] =
 pv (za9 x1) fun t1=>
 pv (cvV .u64 t1) fun t2=>
 za2 Tryz.prog (.func (.func 113) #[] #[]) #[x0,t2,(.int .i64 4)] (fun t3=>
 lp (fun k1=>d88 [1,1,0,1,0,0] (zyu K E k1)) (zeg x1 U U (.slice none 0 0) x0 x1 t1 t2 t3 U t3 (.int .i64 0) (jf #[]))) E:=by kernel_rfl
theorem zuf:d88 [1,1,0,1,0,0] (zyu K E k1) (zeg x1 x2 x3 x4 x6 x7 x8 x9 x10 x32 v0 v5 j) =
 pv (za9 x1) fun t1=>
 pv (za1 .none .lss v5 t1) fun t2=>
 cnd t2 (
  pv (iaV none 2 x1 v5) fun t3=>
  pv (faV 0 t3) fun t4=>
  ld false 1 t4 fun t5=>
  pv (cvV .u64 t5) fun t6=>
  za2 Tryz.prog (.func (.func 113) #[] #[]) #[v0,t6,(.int .i64 4)] (fun t7=>
  pv (iaV none 2 x1 v5) fun t8=>
  pv (faV 1 t8) fun t9=>
  ld false 1 t9 fun t10=>
  za2 Tryz.prog (.func (.func 114) #[] #[]) #[t7,t10] (fun t11=>
  pv (za1 .none .add v5 (.int .i64 1)) fun t12=>
  k1 (zeg x1 x2 x3 x4 x6 x7 x8 x9 x10 x32 t11 t12 (jf #[U,U,U,U,U,U,U,U,U,U,U,v5,x1,t1,t2,v5,t12,v0,x1,v5,t3,t4,t5,t6,t7,t7,x1,v5,t8,t9,t10,t11]))) E) E) (
  K v0):=by kernel_rfl
abbrev q89:QD:=zab Tryz.prog Tryz.f89.results.toList K E
abbrev d89 (p:List Nat):QD→Env→Hp→Prop:=den Tryz.prog (sel (za8 Tryz.f89) p)
abbrev zmx:=za6 k1 (blk 0 (za6 (d89 [1,1,1] (q89 K E)) (q89 K E)))
def zeq (j:Nat→Value):Env:=#[x0,x1,x2,x3,x4,x5,x6,x7,v8,v9,(j 10),(j 11),(j 12),(j 13),(j 14),(j 15),(j 16),(j 17),(j 18),(j 19),(j 20),(j 21),(j 22),(j 23),(j 24),(j 25),(j 26),(j 27),(j 28),(j 29),(j 30),(j 31),(j 32),(j 33),(j 34),(j 35),(j 36),(j 37),(j 38),x39,x40,x41,x42,x43,x44,x45,x46,x47,x48]
theorem t89:d89 [] (q89 K E) #[x0,x1,x2,U,U,U,U,U,U,U,U,U,U,U,U,U,U,U,U,U,U,U,U,U,U,U,U,U,U,U,U,U,U,U,U,U,U,U,U,U,U,U,U,U,U,U,U,U,U] =
 nw 55 (Value.cells x1).toList fun t1=>
 lp (fun k1=>d89 [1,1,0,1,0,0] (zmx K E k1)) (zeq x0 x1 x2 U t1 U (.slice none 0 0) (.int .i64 0) U U U U U U U U U U (.slice none 0 0) (.int .i64 0) (jf #[])):=by kernel_rfl
theorem zuk:d89 [1,1,0,1,0,0] (zmx K E k1) (zeq x0 x1 x2 x3 x4 x5 x6 x7 x39 x40 x41 x42 x43 x44 x45 x46 x47 x48 v8 v9 j) =
 pv (zan x0) fun t1=>
 pv (faV 1 t1) fun t2=>
 ld false 1 t2 fun t3=>
 pv (za9 t3) fun t4=>
 pv (za1 .none .lss v9 t4) fun t5=>
 cnd t5 (
  pv (zan x0) fun t6=>
  pv (faV 1 t6) fun t7=>
  ld false 1 t7 fun t8=>
  pv (iaV none 2 t8 v9) fun t9=>
  pv (faV 0 t9) fun t10=>
  ld false 1 t10 fun t11=>
  pv (za1 .none .leq t11 x2) fun t12=>
  cnd t12 (
  pv (zan x0) fun t13=>
  pv (faV 1 t13) fun t14=>
  ld false 1 t14 fun t15=>
  pv (iaV none 2 t15 v9) fun t16=>
  pv (faV 1 t16) fun t17=>
  ld false 1 t17 fun t18=>
  zbf 90 2 32 v8 t18 fun t19=>
  d89 [1,1,0,1,0,0,1,1] (zmx K E k1) #[x0,x1,x2,x3,x4,x5,x6,x7,t19,v9,v9,x0,t1,t2,t3,t4,t5,(j 17),(j 18),x0,t6,t7,t8,v9,t9,t10,t11,x2,t12,v8,x0,t13,t14,t15,v9,t16,t17,t18,t19,x39,x40,x41,x42,x43,x44,x45,x46,x47,x48]) (
  d89 [1,1,0,1,0,0,1,1] (zmx K E k1) #[x0,x1,x2,x3,x4,x5,x6,x7,v8,v9,v9,x0,t1,t2,t3,t4,t5,(j 17),(j 18),x0,t6,t7,t8,v9,t9,t10,t11,x2,t12,(j 29),(j 30),(j 31),(j 32),(j 33),(j 34),(j 35),(j 36),(j 37),(j 38),x39,x40,x41,x42,x43,x44,x45,x46,x47,x48])) (
  pv (zan x0) fun t20=>
  pv (faV 0 t20) fun t21=>
  ld false 1 t21 fun t22=>
  ld true 3 x4 fun t23=>
  za2 Tryz.prog (.func (.func 116) #[] #[]) #[v8] (fun t24 h25=>(ldV h25 true 3 x4 t23)∧(ldV h25 false 1 t21 t22)∧(
  za2 Tryz.prog (.func (.func 115) #[] #[]) #[t22,t24,t23] (fun t26=>
  pv (exV 0 t26) fun t27=>
  pv (exV 1 t26) fun t28=>
  K (.tuple #[t27,t28])) E) h25) E):=by kernel_rfl
theorem zja:d89 [1,1,0,1,0,0,1,1] (zmx K E k1) #[x0,x1,x2,x3,x4,x5,x6,x7,x8,x9,x10,x11,x12,x13,x14,x15,x16,x17,x18,x19,x20,x21,x22,x23,x24,x25,x26,x27,x28,x29,x30,x31,x32,x33,x34,x35,x36,x37,x38,x39,x40,x41,x42,x43,x44,x45,x46,x47,x48] =
 pv (za1 .none .add x9 (.int .i64 1)) fun t1=>
 k1 (zeq x0 x1 x2 x3 x4 x5 x6 x7 x39 x40 x41 x42 x43 x44 x45 x46 x47 x48 x8 t1 (jf #[U,U,U,U,U,U,U,U,U,U,x10,x11,x12,x13,x14,x15,x16,x9,t1,x19,x20,x21,x22,x23,x24,x25,x26,x27,x28,x29,x30,x31,x32,x33,x34,x35,x36,x37,x38])):=by kernel_rfl
abbrev q90:QD:=zab Tryz.prog Tryz.f90.results.toList K E
abbrev d90 (p:List Nat):QD→Env→Hp→Prop:=den Tryz.prog (sel (za8 Tryz.f90) p)
theorem t90:d90 [] (q90 K E) #[x0,x1,U,U,U,U,U,U,U] =
 za2 Tryz.prog (.func (.func 117) #[] #[]) #[x0,x1] (fun t1=>
 pv (za1 .none .geq t1 (.int .i64 0)) fun t2=>
 K t2) E:=by kernel_rfl
abbrev q91:QD:=zab Tryz.prog Tryz.f91.results.toList K E
abbrev d91 (p:List Nat):QD→Env→Hp→Prop:=den Tryz.prog (sel (za8 Tryz.f91) p)
theorem t91:d91 [] (q91 K E) #[x0,U,U,U,U,U] =
 nw 88 (Value.cells x0).toList fun t1=>
 ld true 2 t1 fun t2=>
 za2 Tryz.prog (.func (.func 92) #[] #[]) #[t2] (fun t3=>
 pv (unV .not t3) fun t4=>
 K t4) E:=by kernel_rfl
abbrev q92:QD:=zab Tryz.prog Tryz.f92.results.toList K E
abbrev d92 (p:List Nat):QD→Env→Hp→Prop:=den Tryz.prog (sel (za8 Tryz.f92) p)
abbrev zz9:=za6 k1 (blk 0 (za6 (d92 [1,1,1,1] (q92 K E)) (q92 K E)))
def zda (j:Nat→Value):Env:=#[x0,x1,(j 2),v3,x4,(j 5),x6,x7,x8,x9,x10,x11,x12,x13,x14,x15,x16,x17,x18,x19,x20,x21,x22,v23,(j 24),(j 25),(j 26),(j 27),(j 28),(j 29),(j 30),(j 31),(j 32),(j 33),(j 34),(j 35),(j 36),(j 37),(j 38),(j 39),(j 40),(j 41)]
theorem t92:d92 [] (q92 K E) #[x0,U,U,U,U,U,U,U,U,U,U,U,U,U,U,U,U,U,U,U,U,U,U,U,U,U,U,U,U,U,U,U,U,U,U,U,U,U,U,U,U,U] =
 nw 88 (Value.cells x0).toList fun t1=>
 pv (faV 0 t1) fun t2=>
 ld false 1 t2 fun t3=>
 pv (za1 .none .lss t3 (.int .i64 1)) fun t4=>
 gdK t4 false (fun k=>pv (faV 0 t1) k) fun t5=>
 gdK t4 false (fun k=>ld false 1 t5 k) fun t6=>
 gdK t4 false (fun k=>pv (za1 .none .gtr t6 (.int .i64 10000)) k) fun t7=>
 pv (zah t4 (.bool true) t7) fun t8=>
 gdK t8 false (fun k=>pv (faV 1 t1) k) fun t9=>
 gdK t8 false (fun k=>ld false 1 t9 k) fun t10=>
 gdK t8 false (fun k=>pv (za9 t10) k) fun t11=>
 gdK t8 false (fun k=>pv (za1 .none .gtr t11 (.int .i64 4)) k) fun t12=>
 pv (zah t8 (.bool true) t12) fun t13=>
 cnd t13 (
  K (.bool false)) (
  pv (faV 1 t1) fun t14=>
  ld false 1 t14 fun t15=>
  pv (za9 t15) fun t16=>
  lp (fun k1=>d92 [1,1,1,0,1,0,0] (zz9 K E k1)) (zda x0 t1 U t2 t3 t4 t4 t5 t6 t7 t8 t8 t9 t10 t11 t12 t13 t14 t15 t16 (.int .i64 1) (.int .i64 0) (jf #[U,U,(.bool false)]))):=by kernel_rfl
theorem zq6:d92 [1,1,1,0,1,0,0] (zz9 K E k1) (zda x0 x1 x4 x6 x7 x8 x9 x10 x11 x12 x13 x14 x15 x16 x17 x18 x19 x20 x21 x22 v3 v23 j) =
 pv (za1 .none .lss v23 x22) fun t1=>
 cnd t1 (
  pv (iaV none 1 x21 v23) fun t2=>
  ld false 1 t2 fun t3=>
  pv (za1 .none .leq t3 v3) fun t4=>
  gdK t4 false (fun k=>k t3) fun t5=>
  gdK t4 false (fun k=>pv (za1 .none .gtr t5 (.int .i64 10000)) k) fun t6=>
  pv (zah t4 (.bool true) t6) fun t7=>
  gdK t7 false (fun k=>k t3) fun t8=>
  gdK t7 false (fun k=>k v3) fun t9=>
  gdK t7 false (fun k=>pv (za1 .none .rem t8 t9) k) fun t10=>
  gdK t7 false (fun k=>pv (za1 .none .neq t10 (.int .i64 0)) k) fun t11=>
  pv (zah t7 (.bool true) t11) fun t12=>
  cnd t12 (
  K (.bool false)) (
  pv (za1 .none .add v23 (.int .i64 1)) fun t13=>
  k1 (zda x0 x1 x4 x6 x7 x8 x9 x10 x11 x12 x13 x14 x15 x16 x17 x18 x19 x20 x21 x22 t3 t13 (jf #[U,U,(j 2),U,U,t3,U,U,U,U,U,U,U,U,U,U,U,U,U,U,U,U,U,U,t1,t2,t3,t3,v3,t4,t4,t5,t6,t7,t7,t8,t9,t10,t11,t12,t3,t13])))) (
  K (.bool true)):=by kernel_rfl
abbrev q93:QD:=zab Tryz.prog Tryz.f93.results.toList K E
abbrev d93 (p:List Nat):QD→Env→Hp→Prop:=den Tryz.prog (sel (za8 Tryz.f93) p)
theorem t93:d93 [] (q93 K E) #[x0,x1,x2,U,U,U,U,U,U,U,U,U,U,U,U,U,U,U,U,U,U,U,U,U,U,U,U,U,U,U,U,U,U,U,U,U,U,U] =
 za2 Tryz.prog (.func (.func 72) #[] #[]) #[x0,x1] (fun t1=>
 pv (exV 0 t1) fun t2=>
 pv (exV 1 t1) fun t3=>
 cnd t3 (
  pv (iaV none 2 x0 t2) fun t4=>
  pv (faV 1 t4) fun t5=>
  ld false 1 t5 fun t6=>
  za2 Tryz.prog (.func (.func 76) #[] #[]) #[x2] (fun t7 h8=>(ldV h8 false 1 t5 t6)∧(
  nws 38 2 (bsC #[(.slice none 0 0)] 1 2 #[(0,t6),(1,t7)]) fun t9=>
  za2 Tryz.prog (.func (.func 118) #[] #[]) #[t9] (fun t10=>
  pv (iaV none 2 x0 t2) fun t11=>
  pv (faV 1 t11) fun t12=>
  st 1 t12 t10 fun _=>
  K x0) E) h8) E) (
  za2 Tryz.prog (.func (.func 76) #[] #[]) #[x2] (fun t13=>
  pv (bdC #[(.int .u32 0),(.slice none 0 0)] [(0,1),(1,1)] #[(0,x1),(1,t13)]) fun t14=>
  nws 74 1 (bsC #[(.int .u32 0),(.slice none 0 0)] 2 1 #[(0,t14)]) fun t15=>
  za2 Tryz.prog (.func (.func 119) #[] #[]) #[x0,t2,t15] (fun t16=>
  K t16) E) E)) E:=by kernel_rfl
end
section
variable {K:zae} {E:zat} {k1 k2 k3 k4 k5:Env→Hp→Prop} {σ:Type} {x0 x1 x2 x3 x4 x5 x6 x7 x8 x9 x10 x11 x12 x13 x14 x15 x16 x17 x18 x19 x20 x21 x22 x23 x24 x25 x26 x27 x28 x29 x30 x31 x32 x33 x34 x35 x36 x37 x38 x39 x40 x41 x42 x43 x44 x45 x46 x47 x48 x49 x50 x51 x52 x53 x54 x55 x56 x57 x58 x59 x60 x61 x62 x63 x64 x65 x66 x67 x68 x69 x70 x71 x72 v0 v1 v2 v3 v4 v5 v6 v7 v8 v9 v10 v11 v12 v13 v14 v15 v16 v17 v18 v19 v20 v21 v22 v23 v24 v25 v26 v27 v28 v29 v30 v31 v32 v33 v34 v35 v36 v37 v38 v39 v40 v41 v42 v43 v44 v45 v46 v47 v48 v49 v50 v51 v52 v53 v54 v55 v56 v57 v58 v59 v60 v61 v62 v63 v64 v65 v66 v67 v68 v69 v70 v71 v72:Value} {h:Hp} {j:Nat→Value}
theorem zy9 (f3:σ→Value) (I:σ→Hp→Prop) (μ:σ→Nat) (s0:σ) (e3:v3=f3 s0) (h0:h.wf→∃ h',h.wk h'∧I s0 h')
 (round:∀ (k1:Env→Hp→Prop) (s:σ) (j:Nat→Value) (h:Hp),I s h→h.wf→(∀ s' j' h',μ s'<μ s→(h'.wf→∃ h'',h'.wk h''∧I s' h'')→k1 (zfm x0 x1 x16 x17 x18 x19 x20 x21 x22 x23 (f3 s') j') h')→d79 [1,0,1,0,0] (zym K E k1) (zfm x0 x1 x16 x17 x18 x19 x20 x21 x22 x23 (f3 s) j) h) :
 lp (fun k1=>d79 [1,0,1,0,0] (zym K E k1)) (zfm x0 x1 x16 x17 x18 x19 x20 x21 x22 x23 v3 j) h:=by
 subst e3
 exact zaj (fun s j=>zfm x0 x1 x16 x17 x18 x19 x20 x21 x22 x23 (f3 s) j) I μ round s0 j h0
theorem zq7 (f7:σ→Value) (I:σ→Hp→Prop) (μ:σ→Nat) (s0:σ) (e7:v7=f7 s0) (h0:h.wf→∃ h',h.wk h'∧I s0 h')
 (round:∀ (k1:Env→Hp→Prop) (s:σ) (j:Nat→Value) (h:Hp),I s h→h.wf→(∀ s' j' h',μ s'<μ s→(h'.wf→∃ h'',h'.wk h''∧I s' h'')→k1 (zd4 x0 x1 x2 x3 x4 x5 x8 x9 x10 x11 x12 x13 x33 x34 x35 x36 x37 x38 x39 x40 x41 x42 x43 x44 x45 x46 x47 x48 (f7 s') j') h')→d81 [1,1,1,0,1,0,0] (zyo K E k1) (zd4 x0 x1 x2 x3 x4 x5 x8 x9 x10 x11 x12 x13 x33 x34 x35 x36 x37 x38 x39 x40 x41 x42 x43 x44 x45 x46 x47 x48 (f7 s) j) h) :
 lp (fun k1=>d81 [1,1,1,0,1,0,0] (zyo K E k1)) (zd4 x0 x1 x2 x3 x4 x5 x8 x9 x10 x11 x12 x13 x33 x34 x35 x36 x37 x38 x39 x40 x41 x42 x43 x44 x45 x46 x47 x48 v7 j) h:=by
 subst e7
 exact zaj (fun s j=>zd4 x0 x1 x2 x3 x4 x5 x8 x9 x10 x11 x12 x13 x33 x34 x35 x36 x37 x38 x39 x40 x41 x42 x43 x44 x45 x46 x47 x48 (f7 s) j) I μ round s0 j h0
theorem zy8 (f9:σ→Value) (I:σ→Hp→Prop) (μ:σ→Nat) (s0:σ) (e9:v9=f9 s0) (h0:h.wf→∃ h',h.wk h'∧I s0 h')
 (round:∀ (k1:Env→Hp→Prop) (s:σ) (j:Nat→Value) (h:Hp),I s h→h.wf→(∀ s' j' h',μ s'<μ s→(h'.wf→∃ h'',h'.wk h''∧I s' h'')→k1 (zfk x0 x1 x2 x3 x4 x5 x6 x7 (f9 s') j') h')→d82 [1,0,1,0,0] (zyv K E k1) (zfk x0 x1 x2 x3 x4 x5 x6 x7 (f9 s) j) h) :
 lp (fun k1=>d82 [1,0,1,0,0] (zyv K E k1)) (zfk x0 x1 x2 x3 x4 x5 x6 x7 v9 j) h:=by
 subst e9
 exact zaj (fun s j=>zfk x0 x1 x2 x3 x4 x5 x6 x7 (f9 s) j) I μ round s0 j h0
theorem zk3 (f10:σ→Value) (I:σ→Hp→Prop) (μ:σ→Nat) (s0:σ) (e10:v10=f10 s0) (h0:h.wf→∃ h',h.wk h'∧I s0 h')
 (round:∀ (k2:Env→Hp→Prop) (s:σ) (j:Nat→Value) (h:Hp),I s h→h.wf→(∀ s' j' h',μ s'<μ s→(h'.wf→∃ h'',h'.wk h''∧I s' h'')→k2 (zbv x0 x1 x2 x3 x4 x5 x6 x7 x9 x11 x12 x13 x14 x15 x16 x17 x18 x19 x20 x21 x22 x23 x24 x25 x26 x27 x28 x29 x30 x31 x32 x33 x34 x35 x36 x37 x38 x39 x40 x41 x42 x43 x44 x45 x46 x47 x48 x49 x50 (f10 s') j') h')→d82 [1,0,1,0,0,1,0,0,1,1,0,0] (zyz K E k1 k2) (zbv x0 x1 x2 x3 x4 x5 x6 x7 x9 x11 x12 x13 x14 x15 x16 x17 x18 x19 x20 x21 x22 x23 x24 x25 x26 x27 x28 x29 x30 x31 x32 x33 x34 x35 x36 x37 x38 x39 x40 x41 x42 x43 x44 x45 x46 x47 x48 x49 x50 (f10 s) j) h) :
 lp (fun k2=>d82 [1,0,1,0,0,1,0,0,1,1,0,0] (zyz K E k1 k2)) (zbv x0 x1 x2 x3 x4 x5 x6 x7 x9 x11 x12 x13 x14 x15 x16 x17 x18 x19 x20 x21 x22 x23 x24 x25 x26 x27 x28 x29 x30 x31 x32 x33 x34 x35 x36 x37 x38 x39 x40 x41 x42 x43 x44 x45 x46 x47 x48 x49 x50 v10 j) h:=by
 subst e10
 exact zaj (fun s j=>zbv x0 x1 x2 x3 x4 x5 x6 x7 x9 x11 x12 x13 x14 x15 x16 x17 x18 x19 x20 x21 x22 x23 x24 x25 x26 x27 x28 x29 x30 x31 x32 x33 x34 x35 x36 x37 x38 x39 x40 x41 x42 x43 x44 x45 x46 x47 x48 x49 x50 (f10 s) j) I μ round s0 j h0
theorem zum (f7 f8:σ→Value) (I:σ→Hp→Prop) (μ:σ→Nat) (s0:σ) (e7:v7=f7 s0) (e8:v8=f8 s0) (h0:h.wf→∃ h',h.wk h'∧I s0 h')
 (round:∀ (k1:Env→Hp→Prop) (s:σ) (j:Nat→Value) (h:Hp),I s h→h.wf→(∀ s' j' h',μ s'<μ s→(h'.wf→∃ h'',h'.wk h''∧I s' h'')→k1 (zer x0 x1 x2 x3 x4 x5 x6 x9 x32 x33 x34 x35 x36 x37 x38 x39 x40 x41 x42 x43 x44 x45 x46 x47 x48 x49 x50 x51 x52 x53 x54 x55 x56 x57 x58 x59 x60 x61 x62 x63 x64 x65 x66 x67 x68 x69 x70 x71 (f7 s') (f8 s') j') h')→d84 [1,1,1,0,0,0] (zzg K E k1) (zer x0 x1 x2 x3 x4 x5 x6 x9 x32 x33 x34 x35 x36 x37 x38 x39 x40 x41 x42 x43 x44 x45 x46 x47 x48 x49 x50 x51 x52 x53 x54 x55 x56 x57 x58 x59 x60 x61 x62 x63 x64 x65 x66 x67 x68 x69 x70 x71 (f7 s) (f8 s) j) h) :
 lp (fun k1=>d84 [1,1,1,0,0,0] (zzg K E k1)) (zer x0 x1 x2 x3 x4 x5 x6 x9 x32 x33 x34 x35 x36 x37 x38 x39 x40 x41 x42 x43 x44 x45 x46 x47 x48 x49 x50 x51 x52 x53 x54 x55 x56 x57 x58 x59 x60 x61 x62 x63 x64 x65 x66 x67 x68 x69 x70 x71 v7 v8 j) h:=by
 subst e7
 subst e8
 exact zaj (fun s j=>zer x0 x1 x2 x3 x4 x5 x6 x9 x32 x33 x34 x35 x36 x37 x38 x39 x40 x41 x42 x43 x44 x45 x46 x47 x48 x49 x50 x51 x52 x53 x54 x55 x56 x57 x58 x59 x60 x61 x62 x63 x64 x65 x66 x67 x68 x69 x70 x71 (f7 s) (f8 s) j) I μ round s0 j h0
theorem znw (f8:σ→Value) (I:σ→Hp→Prop) (μ:σ→Nat) (s0:σ) (e8:v8=f8 s0) (h0:h.wf→∃ h',h.wk h'∧I s0 h')
 (round:∀ (k1:Env→Hp→Prop) (s:σ) (j:Nat→Value) (h:Hp),I s h→h.wf→(∀ s' j' h',μ s'<μ s→(h'.wf→∃ h'',h'.wk h''∧I s' h'')→k1 (zfp x0 x1 x2 x3 x6 x7 (f8 s') j') h')→d85 [1,0,1,0,0] (zz0 K E k1) (zfp x0 x1 x2 x3 x6 x7 (f8 s) j) h) :
 lp (fun k1=>d85 [1,0,1,0,0] (zz0 K E k1)) (zfp x0 x1 x2 x3 x6 x7 v8 j) h:=by
 subst e8
 exact zaj (fun s j=>zfp x0 x1 x2 x3 x6 x7 (f8 s) j) I μ round s0 j h0
theorem zls (f17:σ→Value) (I:σ→Hp→Prop) (μ:σ→Nat) (s0:σ) (e17:v17=f17 s0) (h0:h.wf→∃ h',h.wk h'∧I s0 h')
 (round:∀ (k1:Env→Hp→Prop) (s:σ) (j:Nat→Value) (h:Hp),I s h→h.wf→(∀ s' j' h',μ s'<μ s→(h'.wf→∃ h'',h'.wk h''∧I s' h'')→k1 (ze7 x0 x1 x2 x3 x4 x5 x10 x11 x12 x13 x14 x15 x16 (f17 s') j') h')→d86 [1,1,0,1,0,0] (zyr K E k1) (ze7 x0 x1 x2 x3 x4 x5 x10 x11 x12 x13 x14 x15 x16 (f17 s) j) h) :
 lp (fun k1=>d86 [1,1,0,1,0,0] (zyr K E k1)) (ze7 x0 x1 x2 x3 x4 x5 x10 x11 x12 x13 x14 x15 x16 v17 j) h:=by
 subst e17
 exact zaj (fun s j=>ze7 x0 x1 x2 x3 x4 x5 x10 x11 x12 x13 x14 x15 x16 (f17 s) j) I μ round s0 j h0
theorem ztr (f0 f5:σ→Value) (I:σ→Hp→Prop) (μ:σ→Nat) (s0:σ) (e0:v0=f0 s0) (e5:v5=f5 s0) (h0:h.wf→∃ h',h.wk h'∧I s0 h')
 (round:∀ (k1:Env→Hp→Prop) (s:σ) (j:Nat→Value) (h:Hp),I s h→h.wf→(∀ s' j' h',μ s'<μ s→(h'.wf→∃ h'',h'.wk h''∧I s' h'')→k1 (zeg x1 x2 x3 x4 x6 x7 x8 x9 x10 x32 (f0 s') (f5 s') j') h')→d88 [1,1,0,1,0,0] (zyu K E k1) (zeg x1 x2 x3 x4 x6 x7 x8 x9 x10 x32 (f0 s) (f5 s) j) h) :
 lp (fun k1=>d88 [1,1,0,1,0,0] (zyu K E k1)) (zeg x1 x2 x3 x4 x6 x7 x8 x9 x10 x32 v0 v5 j) h:=by
 subst e0
 subst e5
 exact zaj (fun s j=>zeg x1 x2 x3 x4 x6 x7 x8 x9 x10 x32 (f0 s) (f5 s) j) I μ round s0 j h0
theorem zth (f8 f9:σ→Value) (I:σ→Hp→Prop) (μ:σ→Nat) (s0:σ) (e8:v8=f8 s0) (e9:v9=f9 s0) (h0:h.wf→∃ h',h.wk h'∧I s0 h')
 (round:∀ (k1:Env→Hp→Prop) (s:σ) (j:Nat→Value) (h:Hp),I s h→h.wf→(∀ s' j' h',μ s'<μ s→(h'.wf→∃ h'',h'.wk h''∧I s' h'')→k1 (zeq x0 x1 x2 x3 x4 x5 x6 x7 x39 x40 x41 x42 x43 x44 x45 x46 x47 x48 (f8 s') (f9 s') j') h')→d89 [1,1,0,1,0,0] (zmx K E k1) (zeq x0 x1 x2 x3 x4 x5 x6 x7 x39 x40 x41 x42 x43 x44 x45 x46 x47 x48 (f8 s) (f9 s) j) h) :
 lp (fun k1=>d89 [1,1,0,1,0,0] (zmx K E k1)) (zeq x0 x1 x2 x3 x4 x5 x6 x7 x39 x40 x41 x42 x43 x44 x45 x46 x47 x48 v8 v9 j) h:=by
 subst e8
 subst e9
 exact zaj (fun s j=>zeq x0 x1 x2 x3 x4 x5 x6 x7 x39 x40 x41 x42 x43 x44 x45 x46 x47 x48 (f8 s) (f9 s) j) I μ round s0 j h0
theorem zq9 (f3 f23:σ→Value) (I:σ→Hp→Prop) (μ:σ→Nat) (s0:σ) (e3:v3=f3 s0) (e23:v23=f23 s0) (h0:h.wf→∃ h',h.wk h'∧I s0 h')
 (round:∀ (k1:Env→Hp→Prop) (s:σ) (j:Nat→Value) (h:Hp),I s h→h.wf→(∀ s' j' h',μ s'<μ s→(h'.wf→∃ h'',h'.wk h''∧I s' h'')→k1 (zda x0 x1 x4 x6 x7 x8 x9 x10 x11 x12 x13 x14 x15 x16 x17 x18 x19 x20 x21 x22 (f3 s') (f23 s') j') h')→d92 [1,1,1,0,1,0,0] (zz9 K E k1) (zda x0 x1 x4 x6 x7 x8 x9 x10 x11 x12 x13 x14 x15 x16 x17 x18 x19 x20 x21 x22 (f3 s) (f23 s) j) h) :
 lp (fun k1=>d92 [1,1,1,0,1,0,0] (zz9 K E k1)) (zda x0 x1 x4 x6 x7 x8 x9 x10 x11 x12 x13 x14 x15 x16 x17 x18 x19 x20 x21 x22 v3 v23 j) h:=by
 subst e3
 subst e23
 exact zaj (fun s j=>zda x0 x1 x4 x6 x7 x8 x9 x10 x11 x12 x13 x14 x15 x16 x17 x18 x19 x20 x21 x22 (f3 s) (f23 s) j) I μ round s0 j h0
end
section
variable (K:zae) (E:zat) (k1 k2 k3 k4 k5:Env→Hp→Prop) (x0 x1 x2 x3 x4 x5 x6 x7 x8 x9 x10 x11 x12 x13 x14 x15 x16 x17 x18 x19 x20 x21 x22 x23 x24 x25 x26 x27 x28 x29 x30 x31 x32 x33 x34 x35 x36 x37 x38 x39 x40 x41 x42 x43 x44 x45 x46 x47 x48 x49 x50 x51 x52 x53 x54 x55 x56 x57 x58 x59 x60 x61 x62 x63 x64 x65 x66 x67 x68 x69 x70 x71 v0 v1 v2 v3 v4 v5 v6 v7 v8 v9 v10 v11 v12 v13 v14 v15 v16 v17 v18 v19 v20 v21 v22 v23 v24 v25 v26 v27 v28 v29 v30 v31 v32 v33 v34 v35 v36 v37 v38 v39 v40 v41 v42 v43 v44 v45 v46 v47 v48 v49 v50 v51 v52 v53 v54 v55 v56 v57 v58 v59 v60 v61 v62 v63 v64 v65 v66 v67 v68 v69 v70 v71:Value) (j:Nat→Value)
abbrev q94:QD:=zab Tryz.prog Tryz.f94.results.toList K E
abbrev d94 (p:List Nat):QD→Env→Hp→Prop:=den Tryz.prog (sel (za8 Tryz.f94) p)
abbrev zyh:=za6 k1 (blk 0 (za6 (d94 [1,1,1] (q94 K E)) (q94 K E)))
def ze8 (j:Nat→Value):Env:=#[x0,x1,x2,x3,x4,x5,(j 6),v7,x8,(j 9),x10,x11,v12,(j 13),(j 14),(j 15),(j 16),(j 17),(j 18),(j 19),(j 20),(j 21),(j 22),(j 23),(j 24),(j 25),(j 26),(j 27),(j 28),(j 29),(j 30),(j 31),(j 32),(j 33),(j 34),(j 35),(j 36),(j 37)]
theorem t94:d94 [] (q94 K E) #[x0,x1,x2,U,U,U,U,U,U,U,U,U,U,U,U,U,U,U,U,U,U,U,U,U,U,U,U,U,U,U,U,U,U,U,U,U,U,U] =
 pv (za9 x2) fun t1=>
 lp (fun k1=>d94 [1,1,0,1,0,0] (zyh K E k1)) (ze8 x0 x1 x2 U U U U x2 t1 (.int .u32 0) (.int .i64 0) (jf #[U,U,U,U,U,U,(.bool false)])):=by kernel_rfl
theorem zt1:d94 [1,1,0,1,0,0] (zyh K E k1) (ze8 x0 x1 x2 x3 x4 x5 x8 x10 x11 v7 v12 j) =
 pv (za1 .none .lss v12 x11) fun t1=>
 cnd t1 (
  pv (iaV none 2 x10 v12) fun t2=>
  ld true 2 t2 fun t3=>
  nw 74 [(.int .u32 0),(.slice none 0 0)] fun t4=>
  st 2 t4 t3 fun _=>
  pv (faV 0 t4) fun t5=>
  ld false 1 t5 fun t6=>
  pv (za1 .none .leq t6 v7) fun t7=>
  gdK t7 false (fun k=>k x0) fun t8=>
  gdK t7 false (fun k=>pv (faV 1 t4) k) fun t9=>
  gdK t7 false (fun k=>ld false 1 t9 k) fun t10=>
  gdK t7 false (fun k=>za2 Tryz.prog (.func (.func 27) #[] #[]) #[t8,t10] k E) fun t11=>
  gdK t7 false (fun k=>pv (unV .not t11) k) fun t12=>
  pv (zah t7 (.bool true) t12) fun t13=>
  gdK t13 false (fun k=>pv (faV 1 t4) k) fun t14=>
  gdK t13 false (fun k=>ld false 1 t14 k) fun t15=>
  gdK t13 false (fun k=>k x1) fun t16=>
  gdK t13 false (fun k=>za2 Tryz.prog (.func (.func 45) #[] #[]) #[t15,t16,(.bool false)] k E) fun t17=>
  gdK t13 false (fun k=>pv (za9 t17) k) fun t18=>
  gdK t13 false (fun k=>pv (za1 .none .gtr t18 (.int .i64 0)) k) fun t19=>
  pv (zah t13 (.bool true) t19) fun t20=>
  cnd t20 (
  K (.bool false)) (
  pv (faV 0 t4) fun t21=>
  ld false 1 t21 fun t22=>
  pv (za1 .none .add v12 (.int .i64 1)) fun t23=>
  k1 (ze8 x0 x1 x2 x3 x4 x5 x8 x10 x11 t22 t23 (jf #[U,U,U,U,U,U,(j 6),U,U,t4,U,U,U,t1,t2,t3,t5,t6,v7,t7,t7,t8,t9,t10,t11,t12,t13,t13,t14,t15,t16,t17,t18,t19,t20,t21,t22,t23])))) (
  K (.bool true)):=by kernel_rfl
abbrev q95:QD:=zab Tryz.prog Tryz.f95.results.toList K E
abbrev d95 (p:List Nat):QD→Env→Hp→Prop:=den Tryz.prog (sel (za8 Tryz.f95) p)
theorem t95:d95 [] (q95 K E) #[x0,U,U,U,U,U,U] =
 nw 74 (Value.cells x0).toList fun t1=>
 pv (faV 1 t1) fun t2=>
 ld false 1 t2 fun t3=>
 pv (za9 t3) fun t4=>
 pv (za1 .none .gtr t4 (.int .i64 200)) fun t5=>
 K t5:=by kernel_rfl
abbrev q96:QD:=zab Tryz.prog Tryz.f96.results.toList K E
abbrev d96 (p:List Nat):QD→Env→Hp→Prop:=den Tryz.prog (sel (za8 Tryz.f96) p)
theorem t96:d96 [] (q96 K E) #[x0,x1,U,U,U,U,U,U,U] =
 za2 Tryz.prog (.func (.func 120) #[] #[]) #[x0,x1] (fun t1=>
 pv (za1 .none .geq t1 (.int .i64 0)) fun t2=>
 K t2) E:=by kernel_rfl
abbrev yid:QD:=zab Tryz.prog Tryz.f100.results.toList K E
abbrev zwd (p:List Nat):QD→Env→Hp→Prop:=den Tryz.prog (sel (za8 Tryz.f100) p)
abbrev zsu:=za6 k1 (blk 0 (za6 (zwd [1,1,1,1] (yid K E)) (yid K E)))
def zcy (j:Nat→Value):Env:=#[x0,x1,x2,x3,x4,x5,x6,x7,x8,v9,v10,(j 11),x12,x13,x14,(j 15),(j 16),(j 17),(j 18),(j 19),(j 20),(j 21),(j 22),(j 23),(j 24),(j 25),(j 26),(j 27),(j 28),(j 29),(j 30),(j 31),(j 32),(j 33),(j 34),x35,x36,x37,x38,x39,x40,x41,x42,x43,x44,x45,x46,x47,x48]
theorem yp2:zwd [] (yid K E) #[x0,x1,x2,U,U,U,U,U,U,U,U,U,U,U,U,U,U,U,U,U,U,U,U,U,U,U,U,U,U,U,U,U,U,U,U,U,U,U,U,U,U,U,U,U,U,U,U,U,U] =
 pv (za9 x0) fun t1=>
 lp (fun k1=>zwd [1,1,1,0,0,0] (zsu K E k1)) (zcy x0 x1 x2 U U U (.int .i64 0) (.bool false) t1 x0 t1 t1 U U U U U U U U U U U U U U (.int .i64 0) t1 (jf #[])):=by kernel_rfl
theorem zs2:zwd [1,1,1,0,0,0] (zsu K E k1) (zcy x0 x1 x2 x3 x4 x5 x6 x7 x8 x12 x13 x14 x35 x36 x37 x38 x39 x40 x41 x42 x43 x44 x45 x46 x47 x48 v9 v10 j) =
 pv (za1 .none .lss v9 v10) fun t1=>
 cnd t1 (
  pv (za1 .none .add v9 v10) fun t2=>
  pv (cvV .u64 t2) fun t3=>
  pv (za1 .none .shr t3 (.int .u64 1)) fun t4=>
  pv (cvV .i64 t4) fun t5=>
  pv (iaV none 2 x0 t5) fun t6=>
  ld true 2 t6 fun t7=>
  za2 Tryz.prog x2 #[t7,x1] (fun t8=>
  pv (za1 .none .lss t8 (.int .i64 0)) fun t9=>
  cnd t9 (
  pv (za1 .none .add t5 (.int .i64 1)) fun t10=>
  k1 (zcy x0 x1 x2 x3 x4 x5 x6 x7 x8 x12 x13 x14 x35 x36 x37 x38 x39 x40 x41 x42 x43 x44 x45 x46 x47 x48 t10 v10 (jf #[U,U,U,U,U,U,U,U,U,U,U,t5,U,U,U,v9,v10,t1,v9,v10,t2,t3,t4,t5,x2,x0,t5,t6,t7,x1,t8,t9,t5,t10,(j 34)]))) (
  k1 (zcy x0 x1 x2 x3 x4 x5 x6 x7 x8 x12 x13 x14 x35 x36 x37 x38 x39 x40 x41 x42 x43 x44 x45 x46 x47 x48 v9 t5 (jf #[U,U,U,U,U,U,U,U,U,U,U,t5,U,U,U,v9,v10,t1,v9,v10,t2,t3,t4,t5,x2,x0,t5,t6,t7,x1,t8,t9,(j 32),(j 33),t5])))) E) (
  pv (za1 .none .lss v9 x8) fun t11=>
  gdK t11 true (fun k=>k x2) fun t12=>
  gdK t11 true (fun k=>k x0) fun t13=>
  gdK t11 true (fun k=>k v9) fun t14=>
  gdK t11 true (fun k=>pv (iaV none 2 t13 t14) k) fun t15=>
  gdK t11 true (fun k=>ld true 2 t15 k) fun t16=>
  gdK t11 true (fun k=>k x1) fun t17=>
  gdK t11 true (fun k=>za2 Tryz.prog t12 #[t16,t17] k E) fun t18=>
  gdK t11 true (fun k=>pv (za1 .none .eql t18 (.int .i64 0)) k) fun t19=>
  pv (zah t11 t19 (.bool false)) fun t20=>
  K (.tuple #[v9,t20])):=by kernel_rfl
abbrev ysb:QD:=zab Tryz.prog Tryz.f101.results.toList K E
abbrev ysq (p:List Nat):QD→Env→Hp→Prop:=den Tryz.prog (sel (za8 Tryz.f101) p)
theorem yrk:ysq [] (ysb K E) #[x0,x1,U,U,U,U,U,U,U] =
 nw 74 (Value.cells x0).toList fun t1=>
 pv (faV 0 t1) fun t2=>
 ld false 1 t2 fun t3=>
 za2 Tryz.prog (.func (.func 102) #[] #[]) #[t3,x1] (fun t4=>
 K t4) E:=by kernel_rfl
abbrev ys8:QD:=zab Tryz.prog Tryz.f102.results.toList K E
abbrev ypi (p:List Nat):QD→Env→Hp→Prop:=den Tryz.prog (sel (za8 Tryz.f102) p)
theorem yp0:ypi [] (ys8 K E) #[x0,x1,U,U,U,U,U,U,U,U,U,U,U,U,U,U,U,U,U,U] =
 za2 Tryz.prog (.func (.func 132) #[] #[]) #[x0] (fun t1=>
 za2 Tryz.prog (.func (.func 132) #[] #[]) #[x1] (fun t2=>
 cnd t1 (
  cnd t2 (
  K (.int .i64 0)) (
  K (.int .i64 (-1)))) (
  cnd t2 (
  K (.int .i64 1)) (
  pv (za1 .none .lss x0 x1) fun t3=>
  cnd t3 (
   K (.int .i64 (-1))) (
   pv (za1 .none .gtr x0 x1) fun t4=>
   cnd t4 (
   K (.int .i64 1)) (
   K (.int .i64 0)))))) E) E:=by kernel_rfl
abbrev yrh:QD:=zab Tryz.prog Tryz.f103.results.toList K E
abbrev yqs (p:List Nat):QD→Env→Hp→Prop:=den Tryz.prog (sel (za8 Tryz.f103) p)
theorem yre:yqs [] (yrh K E) #[x0,x1,U,U,U,U,U,U,U,U,U,U,U,U,U,U,U,U,U,U,U,U,U,U,U] =
 nw 55 (Value.cells x1).toList fun t1=>
 za2 Tryz.prog (.func (.func 64) #[] #[]) #[x0] (fun t2=>
 pv (unV .not t2) fun t3=>
 cnd t3 (
  K (.int .u16 30)) (
  pv (faV 0 t1) fun t4=>
  ld false 1 t4 fun t5=>
  za2 Tryz.prog (.func (.func 86) #[] #[]) #[x0,t5,(.func (.func 133) #[] #[])] (fun t6=>
  pv (unV .not t6) fun t7=>
  cnd t7 (
  K (.int .u16 40)) (
  pv (faV 1 t1) fun t8=>
  ld false 1 t8 fun t9=>
  pv (faV 2 t1) fun t10=>
  ld false 1 t10 fun t11=>
  za2 Tryz.prog (.func (.func 135) #[] #[]) #[x0,t9,t11] (fun t12=>
  pv (unV .not t12) fun t13=>
  cnd t13 (
   K (.int .u16 60)) (
   K (.int .u16 0))) E)) E)) E:=by kernel_rfl
abbrev yjc:QD:=zab Tryz.prog Tryz.f104.results.toList K E
abbrev zvy (p:List Nat):QD→Env→Hp→Prop:=den Tryz.prog (sel (za8 Tryz.f104) p)
abbrev zta:=za6 k1 (blk 0 (za6 (zvy [1,1] (yjc K E)) (yjc K E)))
def zf0 (j:Nat→Value):Env:=#[x0,x1,x2,x3,(j 4),(j 5),(j 6),x7,x8,v9,(j 10),(j 11),(j 12),(j 13),(j 14),(j 15),(j 16),(j 17),(j 18),(j 19),(j 20),(j 21),(j 22),(j 23),(j 24),(j 25),(j 26),(j 27),(j 28),(j 29),(j 30),(j 31),(j 32)]
theorem yqr:zvy [] (yjc K E) #[x0,x1,U,U,U,U,U,U,U,U,U,U,U,U,U,U,U,U,U,U,U,U,U,U,U,U,U,U,U,U,U,U,U] =
 pv (za9 x0) fun t1=>
 lp (fun k1=>zvy [1,0,1,0,0] (zta K E k1)) (zf0 x0 x1 U U x0 t1 (.int .i64 0) (jf #[U,U,U,U,(.bool false)])):=by kernel_rfl
theorem zwe:zvy [1,0,1,0,0] (zta K E k1) (zf0 x0 x1 x2 x3 x7 x8 v9 j) =
 pv (za1 .none .lss v9 x8) fun t1=>
 cnd t1 (
  pv (iaV none 5 x7 v9) fun t2=>
  ld true 5 t2 fun t3=>
  nw 110 [(.slice none 0 0),(.int .i64 0),(.int .i64 0),(.int .i64 0),(.int .i64 0)] fun t4=>
  st 5 t4 t3 fun _=>
  ld true 5 t4 fun t5=>
  za2 Tryz.prog (.func (.func 136) #[] #[]) #[t5,x1] (fun t6=>
  pv (unV .not t6) fun t7=>
  gdK t7 false (fun k=>k v9) fun t8=>
  gdK t7 false (fun k=>pv (za1 .none .gtr t8 (.int .i64 0)) k) fun t9=>
  gdK t7 false (fun k=>k t9) fun t10=>
  gdK t10 true (fun k=>k x0) fun t11=>
  gdK t10 true (fun k=>k v9) fun t12=>
  gdK t10 true (fun k=>pv (za1 .none .sub t12 (.int .i64 1)) k) fun t13=>
  gdK t10 true (fun k=>pv (iaV none 5 t11 t13) k) fun t14=>
  gdK t10 true (fun k=>ld true 5 t14 k) fun t15=>
  gdK t10 true (fun k=>ld true 5 t4 k) fun t16=>
  gdK t10 true (fun k=>za2 Tryz.prog (.func (.func 137) #[] #[]) #[t15,t16] k E) fun t17=>
  gdK t10 true (fun k=>pv (za1 .none .geq t17 (.int .i64 0)) k) fun t18=>
  gdK t7 false (fun k=>pv (zah t10 t18 (.bool false)) k) fun t19=>
  pv (zah t7 (.bool true) t19) fun t20=>
  cnd t20 (
  K (.bool false)) (
  pv (za1 .none .add v9 (.int .i64 1)) fun t21=>
  k1 (zf0 x0 x1 x2 x3 x7 x8 t21 (jf #[U,U,U,U,(j 4),v9,t4,U,U,U,t1,v9,t2,t3,t5,x1,t6,t7,t7,t8,t9,t10,t11,t12,t13,t14,t15,t16,t17,t18,t19,t20,t21])))) E) (
  K (.bool true)):=by kernel_rfl
abbrev yqv:QD:=zab Tryz.prog Tryz.f105.results.toList K E
abbrev ypa (p:List Nat):QD→Env→Hp→Prop:=den Tryz.prog (sel (za8 Tryz.f105) p)
theorem yrf:ypa [] (yqv K E) #[x0,x1,x2,x3,U,U,U,U,U,U,U,U,U,U,U,U,U,U,U,U,U,U,U,U,U,U,U,U,U] =
 nw 26 (Value.cells x0).toList fun t1=>
 nw 37 (Value.cells x2).toList fun t2=>
 nw 37 (Value.cells x3).toList fun t3=>
 ld false 1 t1 fun t4=>
 za2 Tryz.prog (.func (.func 64) #[] #[]) #[t4] (fun t5=>
 pv (unV .not t5) fun t6=>
 cnd t6 (
  K (.tuple #[(.slice none 0 0),(.int .u16 30)])) (
  ld false 1 t1 fun t7=>
  ld false 1 t2 fun t8=>
  ld false 1 t3 fun t9=>
  za2 Tryz.prog (.func (.func 138) #[] #[]) #[t7,t8,t9] (fun t10=>
  pv (unV .not t10) fun t11=>
  cnd t11 (
  K (.tuple #[(.slice none 0 0),(.int .u16 40)])) (
  ld false 1 t1 fun t12=>
  pv (za9 t12) fun t13=>
  za2 Tryz.prog (.func (.func 104) #[] #[]) #[x1,t13] (fun t14=>
  pv (unV .not t14) fun t15=>
  cnd t15 (
   K (.tuple #[(.slice none 0 0),(.int .u16 1)])) (
   za2 Tryz.prog (.func (.func 139) #[] #[]) #[x1,(.func (.func 140) #[] #[t1,t2,t3])] (fun t16=>
   K (.tuple #[t16,(.int .u16 0)])) E)) E)) E)) E:=by kernel_rfl
abbrev yi5:QD:=zab Tryz.prog Tryz.f106.results.toList K E
abbrev zn3 (p:List Nat):QD→Env→Hp→Prop:=den Tryz.prog (sel (za8 Tryz.f106) p)
abbrev zkn:=za6 k1 (blk 0 (za6 (zn3 [1,1,1] (yi5 K E)) (yi5 K E)))
def zdo (j:Nat→Value):Env:=#[x0,x1,x2,x3,x4,x5,x6,v7,x8,(j 9),x10,x11,v12,(j 13),(j 14),(j 15),(j 16),(j 17),(j 18),(j 19),(j 20),(j 21),(j 22),(j 23),(j 24),(j 25),(j 26),(j 27),(j 28),(j 29),(j 30),x31]
theorem ysl:zn3 [] (yi5 K E) #[x0,x1,x2,U,U,U,U,U,U,U,U,U,U,U,U,U,U,U,U,U,U,U,U,U,U,U,U,U,U,U,U,U] =
 pv (za9 x0) fun t1=>
 lp (fun k1=>zn3 [1,1,0,1,0,0] (zkn K E k1)) (zdo x0 x1 x2 U U U (.slice none 0 0) U x0 t1 U (.slice none 0 0) (.int .i64 0) (jf #[])):=by kernel_rfl
theorem zs9:zn3 [1,1,0,1,0,0] (zkn K E k1) (zdo x0 x1 x2 x3 x4 x5 x6 x8 x10 x11 x31 v7 v12 j) =
 pv (za1 .none .lss v12 x11) fun t1=>
 cnd t1 (
  pv (iaV none 5 x10 v12) fun t2=>
  ld true 5 t2 fun t3=>
  nw 110 [(.slice none 0 0),(.int .i64 0),(.int .i64 0),(.int .i64 0),(.int .i64 0)] fun t4=>
  st 5 t4 t3 fun _=>
  pv (faV 0 t4) fun t5=>
  ld false 1 t5 fun t6=>
  za2 Tryz.prog (.func (.func 142) #[] #[]) #[x1,x2,t6] (fun t7=>
  cnd t7 (
  pv (faV 0 t4) fun t8=>
  ld false 1 t8 fun t9=>
  pv (faV 1 t4) fun t10=>
  ld true 4 t10 fun t11=>
  za2 Tryz.prog (.func (.func 65) #[] #[]) #[t9] (fun t12 h13=>(ldV h13 true 4 t10 t11)∧(
   pv (bdC #[(.slice none 0 0),(.int .i64 0),(.int .i64 0),(.int .i64 0),(.int .i64 0)] [(0,1),(1,4)] #[(0,t12),(1,t11)]) fun t14=>
   nws 110 1 (bsC #[(.slice none 0 0),(.int .i64 0),(.int .i64 0),(.int .i64 0),(.int .i64 0)] 5 1 #[(0,t14)]) fun t15=>
   zbf 110 5 56 v7 t15 fun t16=>
   zn3 [1,1,0,1,0,0,1,1,1] (zkn K E k1) #[x0,x1,x2,x3,x4,x5,x6,t16,x8,t4,x10,x11,v12,t1,t2,t3,x1,x2,t5,t6,t7,v7,t8,t9,t12,t10,t11,t14,t15,t16,(j 30),x31]) h13) E) (
  zn3 [1,1,0,1,0,0,1,1,1] (zkn K E k1) #[x0,x1,x2,x3,x4,x5,x6,v7,x8,t4,x10,x11,v12,t1,t2,t3,x1,x2,t5,t6,t7,(j 21),(j 22),(j 23),(j 24),(j 25),(j 26),(j 27),(j 28),(j 29),(j 30),x31])) E) (
  K v7):=by kernel_rfl
theorem zhz:zn3 [1,1,0,1,0,0,1,1,1] (zkn K E k1) #[x0,x1,x2,x3,x4,x5,x6,x7,x8,x9,x10,x11,x12,x13,x14,x15,x16,x17,x18,x19,x20,x21,x22,x23,x24,x25,x26,x27,x28,x29,x30,x31] =
 pv (za1 .none .add x12 (.int .i64 1)) fun t1=>
 k1 (zdo x0 x1 x2 x3 x4 x5 x6 x8 x10 x11 x31 x7 t1 (jf #[U,U,U,U,U,U,U,U,U,x9,U,U,U,x13,x14,x15,x16,x17,x18,x19,x20,x21,x22,x23,x24,x25,x26,x27,x28,x29,t1])):=by kernel_rfl
abbrev ypn:QD:=zab Tryz.prog Tryz.f107.results.toList K E
abbrev ypz (p:List Nat):QD→Env→Hp→Prop:=den Tryz.prog (sel (za8 Tryz.f107) p)
theorem yq3:ypz [] (ypn K E) #[x0,U,U,U,U,U,U,U] =
 pv (za9 x0) fun t1=>
 pv (za1 .none .gtr t1 (.int .i64 500)) fun t2=>
 cnd t2 (
  K (.tuple #[(.slice none 0 0),(.int .u16 61)])) (
  K (.tuple #[x0,(.int .u16 0)])):=by kernel_rfl
abbrev yq7:QD:=zab Tryz.prog Tryz.f108.results.toList K E
abbrev yqw (p:List Nat):QD→Env→Hp→Prop:=den Tryz.prog (sel (za8 Tryz.f108) p)
theorem yp6:yqw [] (yq7 K E) #[U,U,U,U] =
 mkm fun t1=>
 pv (bdC #[(.slice none 0 0),(.map none)] [(0,1),(1,1)] #[(1,t1)]) fun t2=>
 nw 201 (Value.cells t2).toList fun t3=>
 K t3:=by kernel_rfl
abbrev ys5:QD:=zab Tryz.prog Tryz.f109.results.toList K E
abbrev ysu (p:List Nat):QD→Env→Hp→Prop:=den Tryz.prog (sel (za8 Tryz.f109) p)
theorem yqo:ysu [] (ys5 K E) #[x0,x1,x2,U,U,U,U,U,U,U,U,U,U,U,U,U,U,U,U,U,U,U,U,U,U,U,U,U,U,U,U,U,U,U,U,U,U,U,U,U,U,U,U,U,U,U,U,U,U,U,U,U,U,U,U,U,U,U,U,U,U] =
 nw 108 (Value.cells x2).toList fun t1=>
 za2 Tryz.prog (.func (.func 143) #[] #[]) #[x1] (fun t2=>
 pv (zan x0) fun t3=>
 pv (faV 1 t3) fun t4=>
 ld false 1 t4 fun t5=>
 lkp Tryz.prog 199 t5 t2 true fun t6=>
 pv (exV 0 t6) fun t7=>
 pv (exV 1 t6) fun t8=>
 cnd t8 (
  pv (zan x0) fun t9=>
  pv (faV 0 t9) fun t10=>
  ld false 1 t10 fun t11=>
  pv (zan x0) fun t12=>
  pv (faV 0 t12) fun t13=>
  ld false 1 t13 fun t14=>
  pv (iaV none 5 t14 t7) fun t15=>
  pv (faV 1 t15) fun t16=>
  ld true 4 t16 fun t17=>
  ld true 4 t1 fun t18=>
  za2 Tryz.prog (.func (.func 144) #[] #[]) #[t17,t18] (fun t19 h20=>(ldV h20 false 1 t10 t11)∧(
  pv (iaV none 5 t11 t7) fun t21=>
  pv (faV 1 t21) fun t22=>
  st 4 t22 t19 fun _=>
  K (.tuple #[])) h20) E) (
  pv (zan x0) fun t23=>
  pv (faV 1 t23) fun t24=>
  ld false 1 t24 fun t25=>
  pv (zan x0) fun t26=>
  pv (faV 0 t26) fun t27=>
  ld false 1 t27 fun t28=>
  pv (za9 t28) fun t29=>
  mup Tryz.prog 199 t25 t2 t29 fun _=>
  pv (zan x0) fun t30=>
  pv (faV 0 t30) fun t31=>
  ld false 1 t31 fun t32=>
  ld true 4 t1 fun t33=>
  za2 Tryz.prog (.func (.func 65) #[] #[]) #[x1] (fun t34 h35=>(ldV h35 true 4 t1 t33)∧(ldV h35 false 1 t31 t32)∧(
  pv (bdC #[(.slice none 0 0),(.int .i64 0),(.int .i64 0),(.int .i64 0),(.int .i64 0)] [(0,1),(1,4)] #[(0,t34),(1,t33)]) fun t36=>
  nws 110 1 (bsC #[(.slice none 0 0),(.int .i64 0),(.int .i64 0),(.int .i64 0),(.int .i64 0)] 5 1 #[(0,t36)]) (fun t37 h38=>(ldV h38 false 1 t31 t32)∧(
   zbf 110 5 56 t32 t37 fun t39=>
   pv (zan x0) fun t40=>
   pv (faV 0 t40) fun t41=>
   st 1 t41 t39 fun _=>
   K (.tuple #[])) h38)) h35) E)) E:=by kernel_rfl
abbrev yt1:QD:=zab Tryz.prog Tryz.f110.results.toList K E
abbrev ys3 (p:List Nat):QD→Env→Hp→Prop:=den Tryz.prog (sel (za8 Tryz.f110) p)
theorem yry:ys3 [] (yt1 K E) #[x0,U,U,U,U,U,U] =
 nw 108 [(.int .i64 0),(.int .i64 0),(.int .i64 0),(.int .i64 0)] fun t1=>
 pv (bdC #[(.int .i64 0),(.int .i64 0),(.int .i64 0),(.int .i64 0)] [(0,1),(1,1),(2,1),(3,1)] #[(0,(.int .i64 1)),(1,x0),(2,x0),(3,x0)]) fun t2=>
 st 4 t1 t2 fun _=>
 ld true 4 t1 fun t3=>
 K t3:=by kernel_rfl
abbrev ypw:QD:=zab Tryz.prog Tryz.f111.results.toList K E
abbrev yrs (p:List Nat):QD→Env→Hp→Prop:=den Tryz.prog (sel (za8 Tryz.f111) p)
theorem ypx:yrs [] (ypw K E) #[x0,U,U,U,U,U,U,U,U,U,U,U] =
 pv (zan x0) fun t1=>
 pv (faV 0 t1) fun t2=>
 ld false 1 t2 fun t3=>
 za2 Tryz.prog (.func (.func 145) #[] #[]) #[t3,(.func (.func 137) #[] #[])] (fun t4=>
 pv (zan x0) fun t5=>
 pv (faV 0 t5) fun t6=>
 ld false 1 t6 fun t7=>
 K t7) E:=by kernel_rfl
abbrev ygv:QD:=zab Tryz.prog Tryz.f112.results.toList K E
abbrev zw2 (p:List Nat):QD→Env→Hp→Prop:=den Tryz.prog (sel (za8 Tryz.f112) p)
abbrev zv0:=za6 k1 (blk 0 (za6 (zw2 [1,1] (ygv K E)) (ygv K E)))
def zex (j:Nat→Value):Env:=#[x0,x1,(j 2),v3,(j 4),(j 5),(j 6),(j 7),(j 8),(j 9),(j 10),(j 11),(j 12),(j 13),(j 14),(j 15),(j 16),(j 17),(j 18),(j 19),(j 20),(j 21),(j 22),(j 23),(j 24),(j 25),(j 26),(j 27),(j 28),(j 29),(j 30),(j 31),(j 32),(j 33),(j 34),(j 35),(j 36),(j 37),(j 38),(j 39),(j 40),(j 41),(j 42),(j 43),(j 44),(j 45),(j 46),(j 47),(j 48),(j 49),(j 50),(j 51),(j 52),(j 53),(j 54),(j 55),(j 56),(j 57),x58,x59,x60,x61,x62,x63,x64,x65,x66,x67,x68,x69,x70,x71]
theorem yoc:zw2 [] (ygv K E) #[x0,U,U,U,U,U,U,U,U,U,U,U,U,U,U,U,U,U,U,U,U,U,U,U,U,U,U,U,U,U,U,U,U,U,U,U,U,U,U,U,U,U,U,U,U,U,U,U,U,U,U,U,U,U,U,U,U,U,U,U,U,U,U,U,U,U,U,U,U,U,U,U] =
 nw 88 (Value.cells x0).toList fun t1=>
 lp (fun k1=>zw2 [1,0,1,0,0] (zv0 K E k1)) (zex x0 t1 U U U U U U U U U U U U U U (.int .i64 0) (jf #[U,U,(.bool false)])):=by kernel_rfl
theorem zwu:zw2 [1,0,1,0,0] (zv0 K E k1) (zex x0 x1 x58 x59 x60 x61 x62 x63 x64 x65 x66 x67 x68 x69 x70 x71 v3 j) =
 pv (faV 1 x1) fun t1=>
 ld false 1 t1 fun t2=>
 pv (za9 t2) fun t3=>
 pv (za1 .none .lss v3 t3) fun t4=>
 cnd t4 (
  pv (faV 1 x1) fun t5=>
  ld false 1 t5 fun t6=>
  pv (iaV none 1 t6 v3) fun t7=>
  ld false 1 t7 fun t8=>
  pv (za1 .none .lss t8 (.int .i64 2)) fun t9=>
  gdK t9 false (fun k=>pv (faV 1 x1) k) fun t10=>
  gdK t9 false (fun k=>ld false 1 t10 k) fun t11=>
  gdK t9 false (fun k=>k v3) fun t12=>
  gdK t9 false (fun k=>pv (iaV none 1 t11 t12) k) fun t13=>
  gdK t9 false (fun k=>ld false 1 t13 k) fun t14=>
  gdK t9 false (fun k=>pv (za1 .none .gtr t14 (.int .i64 10000)) k) fun t15=>
  pv (zah t9 (.bool true) t15) fun t16=>
  gdK t16 false (fun k=>k v3) fun t17=>
  gdK t16 false (fun k=>pv (za1 .none .gtr t17 (.int .i64 0)) k) fun t18=>
  gdK t16 false (fun k=>k t18) fun t19=>
  gdK t19 true (fun k=>pv (faV 1 x1) k) fun t20=>
  gdK t19 true (fun k=>ld false 1 t20 k) fun t21=>
  gdK t19 true (fun k=>k v3) fun t22=>
  gdK t19 true (fun k=>pv (iaV none 1 t21 t22) k) fun t23=>
  gdK t19 true (fun k=>ld false 1 t23 k) fun t24=>
  gdK t19 true (fun k=>pv (faV 1 x1) k) fun t25=>
  gdK t19 true (fun k=>ld false 1 t25 k) fun t26=>
  gdK t19 true (fun k=>k v3) fun t27=>
  gdK t19 true (fun k=>pv (za1 .none .sub t27 (.int .i64 1)) k) fun t28=>
  gdK t19 true (fun k=>pv (iaV none 1 t26 t28) k) fun t29=>
  gdK t19 true (fun k=>ld false 1 t29 k) fun t30=>
  gdK t19 true (fun k=>pv (za1 .none .leq t24 t30) k) fun t31=>
  gdK t19 true (fun k=>k t31) fun t32=>
  gdK t32 false (fun k=>pv (faV 1 x1) k) fun t33=>
  gdK t32 false (fun k=>ld false 1 t33 k) fun t34=>
  gdK t32 false (fun k=>k v3) fun t35=>
  gdK t32 false (fun k=>pv (iaV none 1 t34 t35) k) fun t36=>
  gdK t32 false (fun k=>ld false 1 t36 k) fun t37=>
  gdK t32 false (fun k=>pv (faV 1 x1) k) fun t38=>
  gdK t32 false (fun k=>ld false 1 t38 k) fun t39=>
  gdK t32 false (fun k=>k v3) fun t40=>
  gdK t32 false (fun k=>pv (za1 .none .sub t40 (.int .i64 1)) k) fun t41=>
  gdK t32 false (fun k=>pv (iaV none 1 t39 t41) k) fun t42=>
  gdK t32 false (fun k=>ld false 1 t42 k) fun t43=>
  gdK t32 false (fun k=>pv (za1 .none .rem t37 t43) k) fun t44=>
  gdK t32 false (fun k=>pv (za1 .none .neq t44 (.int .i64 0)) k) fun t45=>
  gdK t19 true (fun k=>pv (zah t32 (.bool true) t45) k) fun t46=>
  gdK t16 false (fun k=>pv (zah t19 t46 (.bool false)) k) fun t47=>
  pv (zah t16 (.bool true) t47) fun t48=>
  cnd t48 (
  K (.bool false)) (
  pv (za1 .none .add v3 (.int .i64 1)) fun t49=>
  k1 (zex x0 x1 x58 x59 x60 x61 x62 x63 x64 x65 x66 x67 x68 x69 x70 x71 t49 (jf #[U,U,(j 2),U,v3,t1,t2,t3,t4,v3,t49,t5,t6,v3,t7,t8,t9,t9,t10,t11,t12,t13,t14,t15,t16,t16,t17,t18,t19,t20,t21,t22,t23,t24,t25,t26,t27,t28,t29,t30,t31,t32,t33,t34,t35,t36,t37,t38,t39,t40,t41,t42,t43,t44,t45,t46,t47,t48])))) (
  pv (faV 0 x1) fun t50=>
  ld false 1 t50 fun t51=>
  pv (za1 .none .geq t51 (.int .i64 1)) fun t52=>
  gdK t52 true (fun k=>pv (faV 0 x1) k) fun t53=>
  gdK t52 true (fun k=>ld false 1 t53 k) fun t54=>
  gdK t52 true (fun k=>pv (za1 .none .leq t54 (.int .i64 10000)) k) fun t55=>
  pv (zah t52 t55 (.bool false)) fun t56=>
  gdK t56 true (fun k=>pv (faV 1 x1) k) fun t57=>
  gdK t56 true (fun k=>ld false 1 t57 k) fun t58=>
  gdK t56 true (fun k=>pv (za9 t58) k) fun t59=>
  gdK t56 true (fun k=>pv (za1 .none .leq t59 (.int .i64 4)) k) fun t60=>
  pv (zah t56 t60 (.bool false)) fun t61=>
  K t61):=by kernel_rfl
end
section
variable {K:zae} {E:zat} {k1 k2 k3 k4 k5:Env→Hp→Prop} {σ:Type} {x0 x1 x2 x3 x4 x5 x6 x7 x8 x9 x10 x11 x12 x13 x14 x15 x16 x17 x18 x19 x20 x21 x22 x23 x24 x25 x26 x27 x28 x29 x30 x31 x32 x33 x34 x35 x36 x37 x38 x39 x40 x41 x42 x43 x44 x45 x46 x47 x48 x49 x50 x51 x52 x53 x54 x55 x56 x57 x58 x59 x60 x61 x62 x63 x64 x65 x66 x67 x68 x69 x70 x71 v0 v1 v2 v3 v4 v5 v6 v7 v8 v9 v10 v11 v12 v13 v14 v15 v16 v17 v18 v19 v20 v21 v22 v23 v24 v25 v26 v27 v28 v29 v30 v31 v32 v33 v34 v35 v36 v37 v38 v39 v40 v41 v42 v43 v44 v45 v46 v47 v48 v49 v50 v51 v52 v53 v54 v55 v56 v57 v58 v59 v60 v61 v62 v63 v64 v65 v66 v67 v68 v69 v70 v71:Value} {h:Hp} {j:Nat→Value}
theorem ztx (f7 f12:σ→Value) (I:σ→Hp→Prop) (μ:σ→Nat) (s0:σ) (e7:v7=f7 s0) (e12:v12=f12 s0) (h0:h.wf→∃ h',h.wk h'∧I s0 h')
 (round:∀ (k1:Env→Hp→Prop) (s:σ) (j:Nat→Value) (h:Hp),I s h→h.wf→(∀ s' j' h',μ s'<μ s→(h'.wf→∃ h'',h'.wk h''∧I s' h'')→k1 (ze8 x0 x1 x2 x3 x4 x5 x8 x10 x11 (f7 s') (f12 s') j') h')→d94 [1,1,0,1,0,0] (zyh K E k1) (ze8 x0 x1 x2 x3 x4 x5 x8 x10 x11 (f7 s) (f12 s) j) h) :
 lp (fun k1=>d94 [1,1,0,1,0,0] (zyh K E k1)) (ze8 x0 x1 x2 x3 x4 x5 x8 x10 x11 v7 v12 j) h:=by
 subst e7
 subst e12
 exact zaj (fun s j=>ze8 x0 x1 x2 x3 x4 x5 x8 x10 x11 (f7 s) (f12 s) j) I μ round s0 j h0
theorem zs8 (f9 f10:σ→Value) (I:σ→Hp→Prop) (μ:σ→Nat) (s0:σ) (e9:v9=f9 s0) (e10:v10=f10 s0) (h0:h.wf→∃ h',h.wk h'∧I s0 h')
 (round:∀ (k1:Env→Hp→Prop) (s:σ) (j:Nat→Value) (h:Hp),I s h→h.wf→(∀ s' j' h',μ s'<μ s→(h'.wf→∃ h'',h'.wk h''∧I s' h'')→k1 (zcy x0 x1 x2 x3 x4 x5 x6 x7 x8 x12 x13 x14 x35 x36 x37 x38 x39 x40 x41 x42 x43 x44 x45 x46 x47 x48 (f9 s') (f10 s') j') h')→zwd [1,1,1,0,0,0] (zsu K E k1) (zcy x0 x1 x2 x3 x4 x5 x6 x7 x8 x12 x13 x14 x35 x36 x37 x38 x39 x40 x41 x42 x43 x44 x45 x46 x47 x48 (f9 s) (f10 s) j) h) :
 lp (fun k1=>zwd [1,1,1,0,0,0] (zsu K E k1)) (zcy x0 x1 x2 x3 x4 x5 x6 x7 x8 x12 x13 x14 x35 x36 x37 x38 x39 x40 x41 x42 x43 x44 x45 x46 x47 x48 v9 v10 j) h:=by
 subst e9
 subst e10
 exact zaj (fun s j=>zcy x0 x1 x2 x3 x4 x5 x6 x7 x8 x12 x13 x14 x35 x36 x37 x38 x39 x40 x41 x42 x43 x44 x45 x46 x47 x48 (f9 s) (f10 s) j) I μ round s0 j h0
theorem zvs (f9:σ→Value) (I:σ→Hp→Prop) (μ:σ→Nat) (s0:σ) (e9:v9=f9 s0) (h0:h.wf→∃ h',h.wk h'∧I s0 h')
 (round:∀ (k1:Env→Hp→Prop) (s:σ) (j:Nat→Value) (h:Hp),I s h→h.wf→(∀ s' j' h',μ s'<μ s→(h'.wf→∃ h'',h'.wk h''∧I s' h'')→k1 (zf0 x0 x1 x2 x3 x7 x8 (f9 s') j') h')→zvy [1,0,1,0,0] (zta K E k1) (zf0 x0 x1 x2 x3 x7 x8 (f9 s) j) h) :
 lp (fun k1=>zvy [1,0,1,0,0] (zta K E k1)) (zf0 x0 x1 x2 x3 x7 x8 v9 j) h:=by
 subst e9
 exact zaj (fun s j=>zf0 x0 x1 x2 x3 x7 x8 (f9 s) j) I μ round s0 j h0
theorem zrd (f7 f12:σ→Value) (I:σ→Hp→Prop) (μ:σ→Nat) (s0:σ) (e7:v7=f7 s0) (e12:v12=f12 s0) (h0:h.wf→∃ h',h.wk h'∧I s0 h')
 (round:∀ (k1:Env→Hp→Prop) (s:σ) (j:Nat→Value) (h:Hp),I s h→h.wf→(∀ s' j' h',μ s'<μ s→(h'.wf→∃ h'',h'.wk h''∧I s' h'')→k1 (zdo x0 x1 x2 x3 x4 x5 x6 x8 x10 x11 x31 (f7 s') (f12 s') j') h')→zn3 [1,1,0,1,0,0] (zkn K E k1) (zdo x0 x1 x2 x3 x4 x5 x6 x8 x10 x11 x31 (f7 s) (f12 s) j) h) :
 lp (fun k1=>zn3 [1,1,0,1,0,0] (zkn K E k1)) (zdo x0 x1 x2 x3 x4 x5 x6 x8 x10 x11 x31 v7 v12 j) h:=by
 subst e7
 subst e12
 exact zaj (fun s j=>zdo x0 x1 x2 x3 x4 x5 x6 x8 x10 x11 x31 (f7 s) (f12 s) j) I μ round s0 j h0
theorem zwj (f3:σ→Value) (I:σ→Hp→Prop) (μ:σ→Nat) (s0:σ) (e3:v3=f3 s0) (h0:h.wf→∃ h',h.wk h'∧I s0 h')
 (round:∀ (k1:Env→Hp→Prop) (s:σ) (j:Nat→Value) (h:Hp),I s h→h.wf→(∀ s' j' h',μ s'<μ s→(h'.wf→∃ h'',h'.wk h''∧I s' h'')→k1 (zex x0 x1 x58 x59 x60 x61 x62 x63 x64 x65 x66 x67 x68 x69 x70 x71 (f3 s') j') h')→zw2 [1,0,1,0,0] (zv0 K E k1) (zex x0 x1 x58 x59 x60 x61 x62 x63 x64 x65 x66 x67 x68 x69 x70 x71 (f3 s) j) h) :
 lp (fun k1=>zw2 [1,0,1,0,0] (zv0 K E k1)) (zex x0 x1 x58 x59 x60 x61 x62 x63 x64 x65 x66 x67 x68 x69 x70 x71 v3 j) h:=by
 subst e3
 exact zaj (fun s j=>zex x0 x1 x58 x59 x60 x61 x62 x63 x64 x65 x66 x67 x68 x69 x70 x71 (f3 s) j) I μ round s0 j h0
end
section
variable (K:zae) (E:zat) (k1 k2 k3 k4 k5:Env→Hp→Prop) (x0 x1 x2 x3 x4 x5 x6 x7 x8 x9 x10 x11 x12 x13 x14 x15 x16 x17 x18 x19 x20 x21 x22 x23 x24 x25 x26 x27 x28 x29 x30 x31 x32 x33 x34 x35 x36 x37 x38 x39 x40 x41 x42 x43 x44 x45 x46 x47 x48 x49 x50 x51 x52 x53 x54 x55 x56 x57 x58 x59 x60 x61 x62 x63 x64 x65 x66 x67 x68 x69 x70 x71 x72 x73 x74 x75 x76 x77 x78 x79 x80 x81 x82 x83 x84 x85 x86 x87 x88 x89 x90 x91 x92 x93 x94 v0 v1 v2 v3 v4 v5 v6 v7 v8 v9 v10 v11 v12 v13 v14 v15 v16 v17 v18 v19 v20 v21 v22 v23 v24 v25 v26 v27 v28 v29 v30 v31 v32 v33 v34 v35 v36 v37 v38 v39 v40 v41 v42 v43 v44 v45 v46 v47 v48 v49 v50 v51 v52 v53 v54 v55 v56 v57 v58 v59 v60 v61 v62 v63 v64 v65 v66 v67 v68 v69 v70 v71 v72 v73 v74 v75 v76 v77 v78 v79 v80 v81 v82 v83 v84 v85 v86 v87 v88 v89 v90 v91 v92 v93 v94:Value) (j:Nat→Value)
abbrev yhr:QD:=zab Tryz.prog Tryz.f113.results.toList K E
abbrev zw7 (p:List Nat):QD→Env→Hp→Prop:=den Tryz.prog (sel (za8 Tryz.f113) p)
abbrev zuc:=za6 k1 (blk 0 (za6 (zw7 [1,1] (yhr K E)) (yhr K E)))
def zev (j:Nat→Value):Env:=#[v0,x1,x2,x3,x4,x5,x6,v7,x8,x9,(j 10),(j 11),(j 12),(j 13),(j 14),(j 15),(j 16),(j 17),(j 18),(j 19),(j 20),(j 21),(j 22),x23]
theorem yss:zw7 [] (yhr K E) #[x0,x1,x2,U,U,U,U,U,U,U,U,U,U,U,U,U,U,U,U,U,U,U,U,U] =
 pv (za1 .none .sub x2 (.int .i64 1)) fun t1=>
 lp (fun k1=>zw7 [1,0,1,0,0] (zuc K E k1)) (zev x1 x2 U U U (.slice none 0 0) x2 t1 U x0 t1 (jf #[])):=by kernel_rfl
theorem zwl:zw7 [1,0,1,0,0] (zuc K E k1) (zev x1 x2 x3 x4 x5 x6 x8 x9 x23 v0 v7 j) =
 pv (za1 .none .geq v7 (.int .i64 0)) fun t1=>
 cnd t1 (
  pv (cvV .u64 v7) fun t2=>
  pv (za1 .none .mul (.int .u64 8) t2) fun t3=>
  pv (za1 .none .shr x1 t3) fun t4=>
  pv (cvV .u8 t4) fun t5=>
  nws 5 1 (bsC #[(.int .u8 0)] 1 1 #[(0,t5)]) fun t6=>
  zbf 5 1 1 v0 t6 fun t7=>
  pv (za1 .none .sub v7 (.int .i64 1)) fun t8=>
  k1 (zev x1 x2 x3 x4 x5 x6 x8 x9 x23 t7 t8 (jf #[U,U,U,U,U,U,U,U,U,U,v7,t1,v7,t8,v0,x1,v7,t2,t3,t4,t5,t6,t7]))) (
  K v0):=by kernel_rfl
abbrev zl4:QD:=zab Tryz.prog Tryz.f114.results.toList K E
abbrev zh3 (p:List Nat):QD→Env→Hp→Prop:=den Tryz.prog (sel (za8 Tryz.f114) p)
abbrev zui:=za6 k2 (blk 2 (za6 (zh3 [1,1,0,1,0,0,1,0,0,1,1] (blk 1 (za6 (zh3 [1,1,0,1,0,0,1,1] (za6 k1 (blk 0 (za6 (zh3 [1,1,1] (zl4 K E)) (zl4 K E))))) (za6 k1 (blk 0 (za6 (zh3 [1,1,1] (zl4 K E)) (zl4 K E))))))) (blk 1 (za6 (zh3 [1,1,0,1,0,0,1,1] (za6 k1 (blk 0 (za6 (zh3 [1,1,1] (zl4 K E)) (zl4 K E))))) (za6 k1 (blk 0 (za6 (zh3 [1,1,1] (zl4 K E)) (zl4 K E))))))))
abbrev zue:=za6 k1 (blk 0 (za6 (zh3 [1,1,1] (zl4 K E)) (zl4 K E)))
def zdv (j:Nat→Value):Env:=#[v0,x1,x2,x3,x4,v5,(j 6),x7,x8,x9,x10,x11,(j 12),(j 13),(j 14),(j 15),(j 16),(j 17),(j 18),(j 19),(j 20),(j 21),(j 22),(j 23),(j 24),(j 25),(j 26),(j 27),(j 28),(j 29),(j 30),(j 31),(j 32),(j 33),(j 34),(j 35),(j 36),(j 37),(j 38),(j 39),(j 40),(j 41),(j 42),(j 43),(j 44),(j 45),(j 46),(j 47),(j 48),(j 49),(j 50),(j 51),(j 52),(j 53),(j 54),(j 55),x56]
def zb9 (j:Nat→Value):Env:=#[v0,x1,x2,x3,x4,x5,v6,x7,x8,x9,x10,x11,x12,x13,x14,x15,x16,x17,x18,x19,x20,x21,x22,x23,x24,x25,x26,(j 27),(j 28),(j 29),(j 30),(j 31),(j 32),(j 33),(j 34),(j 35),(j 36),(j 37),(j 38),(j 39),(j 40),(j 41),(j 42),(j 43),(j 44),(j 45),(j 46),(j 47),x48,x49,x50,x51,x52,x53,x54,x55,x56]
theorem ysv:zh3 [] (zl4 K E) #[x0,x1,U,U,U,U,U,U,U,U,U,U,U,U,U,U,U,U,U,U,U,U,U,U,U,U,U,U,U,U,U,U,U,U,U,U,U,U,U,U,U,U,U,U,U,U,U,U,U,U,U,U,U,U,U,U,U] =
 pv (za9 x1) fun t1=>
 pv (cvV .u64 t1) fun t2=>
 za2 Tryz.prog (.func (.func 113) #[] #[]) #[x0,t2,(.int .i64 4)] (fun t3=>
 lp (fun k1=>zh3 [1,1,0,1,0,0] (zue K E k1)) (zdv x1 U U (.slice none 0 0) x0 x1 t1 t2 t3 U t3 (.int .i64 0) (jf #[]))) E:=by kernel_rfl
theorem zrz:zh3 [1,1,0,1,0,0] (zue K E k1) (zdv x1 x2 x3 x4 x7 x8 x9 x10 x11 x56 v0 v5 j) =
 pv (za9 x1) fun t1=>
 pv (za1 .none .lss v5 t1) fun t2=>
 cnd t2 (
  pv (iaV none 2 x1 v5) fun t3=>
  pv (faV 0 t3) fun t4=>
  ld false 1 t4 fun t5=>
  pv (za9 t5) fun t6=>
  pv (cvV .u64 t6) fun t7=>
  za2 Tryz.prog (.func (.func 113) #[] #[]) #[v0,t7,(.int .i64 1)] (fun t8=>
  lp (fun k2=>zh3 [1,1,0,1,0,0,1,0,0,1,0,1,0,0] (zui K E k1 k2)) (zb9 x1 x2 x3 x4 v5 x7 x8 x9 x10 x11 v5 x1 t1 t2 (j 16) (j 17) v0 x1 v5 t3 t4 t5 t6 t7 t8 (j 48) (j 49) (j 50) (j 51) (j 52) (j 53) (j 54) (j 55) x56 t8 (.int .i64 0) (jf #[U,U,U,U,U,U,U,U,U,U,U,U,U,U,U,U,U,U,U,U,U,U,U,U,U,U,U,(j 27),(j 28),(j 29),(j 30),(j 31),(j 32),(j 33),(j 34),(j 35),(j 36),(j 37),(j 38),(j 39),(j 40),(j 41),(j 42),(j 43),(j 44),(j 45),(j 46),(j 47)]))) E) (
  K v0):=by kernel_rfl
theorem zi4:zh3 [1,1,0,1,0,0,1,0,0,1,0,1,0,0] (zui K E k1 k2) (zb9 x1 x2 x3 x4 x5 x7 x8 x9 x10 x11 x12 x13 x14 x15 x16 x17 x18 x19 x20 x21 x22 x23 x24 x25 x26 x48 x49 x50 x51 x52 x53 x54 x55 x56 v0 v6 j) =
 pv (iaV none 2 x1 x5) fun t1=>
 pv (faV 0 t1) fun t2=>
 ld false 1 t2 fun t3=>
 pv (za9 t3) fun t4=>
 pv (za1 .none .lss v6 t4) fun t5=>
 cnd t5 (
  pv (iaV none 2 x1 x5) fun t6=>
  pv (faV 0 t6) fun t7=>
  ld false 1 t7 fun t8=>
  pv (iaV none 1 t8 v6) fun t9=>
  ld false 1 t9 fun t10=>
  pv (cvV .u64 t10) fun t11=>
  za2 Tryz.prog (.func (.func 113) #[] #[]) #[v0,t11,(.int .i64 4)] (fun t12=>
  pv (za1 .none .add v6 (.int .i64 1)) fun t13=>
  k2 (zb9 x1 x2 x3 x4 x5 x7 x8 x9 x10 x11 x12 x13 x14 x15 x16 x17 x18 x19 x20 x21 x22 x23 x24 x25 x26 x48 x49 x50 x51 x52 x53 x54 x55 x56 t12 t13 (jf #[U,U,U,U,U,U,U,U,U,U,U,U,U,U,U,U,U,U,U,U,U,U,U,U,U,U,U,v6,x1,x5,t1,t2,t3,t4,t5,v6,t13,v0,x1,x5,t6,t7,t8,v6,t9,t10,t11,t12]))) E) (
  pv (iaV none 2 x1 x5) fun t14=>
  pv (faV 1 t14) fun t15=>
  ld false 1 t15 fun t16=>
  pv (cvV .u64 t16) fun t17=>
  za2 Tryz.prog (.func (.func 113) #[] #[]) #[v0,t17,(.int .i64 8)] (fun t18=>
  pv (za1 .none .add x5 (.int .i64 1)) fun t19=>
  k1 (zdv x1 x2 x3 x4 x7 x8 x9 x10 x11 x56 t18 t19 (jf #[U,U,U,U,U,U,v6,U,U,U,U,U,x12,x13,x14,x15,x5,t19,x18,x19,x20,x21,x22,x23,x24,x25,x26,v6,x1,x5,t1,t2,t3,t4,t5,(j 35),(j 36),(j 37),(j 38),(j 39),(j 40),(j 41),(j 42),(j 43),(j 44),(j 45),(j 46),(j 47),v0,x1,x5,t14,t15,t16,t17,t18]))) E):=by kernel_rfl
abbrev yic:QD:=zab Tryz.prog Tryz.f115.results.toList K E
abbrev zwg (p:List Nat):QD→Env→Hp→Prop:=den Tryz.prog (sel (za8 Tryz.f115) p)
abbrev zv3:=za6 k1 (blk 0 (za6 (zwg [1,1,1,1,1,1] (yic K E)) (yic K E)))
def zc6 (j:Nat→Value):Env:=#[x0,x1,x2,x3,x4,x5,x6,x7,x8,v9,v10,x11,x12,x13,x14,x15,x16,x17,x18,x19,x20,x21,x22,x23,(j 24),(j 25),(j 26),(j 27),(j 28),(j 29),(j 30),(j 31),(j 32),x33,x34,x35,x36,x37,x38,x39,x40,x41,x42,x43,x44,x45,x46,x47,x48,x49,x50]
theorem yqp:zwg [] (yic K E) #[x0,x1,x2,U,U,U,U,U,U,U,U,U,U,U,U,U,U,U,U,U,U,U,U,U,U,U,U,U,U,U,U,U,U,U,U,U,U,U,U,U,U,U,U,U,U,U,U,U,U,U,U] =
 nw 55 (Value.cells x2).toList fun t1=>
 ld true 3 t1 fun t2=>
 za2 Tryz.prog (.func (.func 146) #[] #[]) #[x0,t2] (fun t3=>
 pv (za1 .none .neq t3 (.int .i64 0)) fun t4=>
 cnd t4 (
  K (.tuple #[(.slice none 0 0),t3])) (
  pv (za9 x0) fun t5=>
  za2 Tryz.prog (.func (.func 147) #[] #[]) #[x1,t5] (fun t6=>
  pv (unV .not t6) fun t7=>
  cnd t7 (
  K (.tuple #[(.slice none 0 0),(.int .i64 1)])) (
  lp (fun k1=>zwg [1,1,1,1,1,0,1,0,0] (zv3 K E k1)) (zc6 x0 x1 x2 U U t1 (.slice none 0 0) (.int .i64 0) t3 U U x0 t2 t3 t3 t4 U x1 x0 t5 t6 t7 U U U U U U U U U U U U U U U U U U (.slice none 0 0) (.int .i64 0) (jf #[])))) E)) E:=by kernel_rfl
theorem zm4:zwg [1,1,1,1,1,0,1,0,0] (zv3 K E k1) (zc6 x0 x1 x2 x3 x4 x5 x6 x7 x8 x11 x12 x13 x14 x15 x16 x17 x18 x19 x20 x21 x22 x23 x33 x34 x35 x36 x37 x38 x39 x40 x41 x42 x43 x44 x45 x46 x47 x48 x49 x50 v9 v10 j) =
 pv (za9 x0) fun t1=>
 pv (za1 .none .lss v10 t1) fun t2=>
 cnd t2 (
  nws 3 1 (bsC #[(.int .i64 0)] 1 1 #[(0,(.int .i64 0))]) fun t3=>
  zbf 3 1 8 v9 t3 fun t4=>
  pv (za1 .none .add v10 (.int .i64 1)) fun t5=>
  k1 (zc6 x0 x1 x2 x3 x4 x5 x6 x7 x8 x11 x12 x13 x14 x15 x16 x17 x18 x19 x20 x21 x22 x23 x33 x34 x35 x36 x37 x38 x39 x40 x41 x42 x43 x44 x45 x46 x47 x48 x49 x50 t4 t5 (jf #[U,U,U,U,U,U,U,U,U,U,U,U,U,U,U,U,U,U,U,U,U,U,U,U,v10,x0,t1,t2,v10,t5,v9,t3,t4]))) (
  pv (faV 1 x5) fun t6=>
  ld false 1 t6 fun t7=>
  pv (faV 2 x5) fun t8=>
  ld false 1 t8 fun t9=>
  pv (faV 0 x5) fun t10=>
  ld false 1 t10 fun t11=>
  za2 Tryz.prog (.func (.func 149) #[] #[]) #[x1,t7,t9] (fun t12 h13=>(ldV h13 false 1 t10 t11)∧(
  za2 Tryz.prog (.func (.func 148) #[] #[]) #[x0,t12,v9,t11] (fun t14=>
  pv (exV 0 t14) fun t15=>
  pv (exV 1 t14) fun t16=>
  pv (za9 t15) fun t17=>
  pv (za1 .none .gtr t17 (.int .i64 500)) fun t18=>
  cnd t18 (
   K (.tuple #[(.slice none 0 0),(.int .i64 61)])) (
   K (.tuple #[t15,(.int .i64 0)]))) E) h13) E):=by kernel_rfl
abbrev yiy:QD:=zab Tryz.prog Tryz.f116.results.toList K E
abbrev zvz (p:List Nat):QD→Env→Hp→Prop:=den Tryz.prog (sel (za8 Tryz.f116) p)
abbrev zu4:=za6 k1 (blk 0 (za6 (zvz [1,1,1] (yiy K E)) (yiy K E)))
def zdn (j:Nat→Value):Env:=#[x0,x1,x2,v3,v4,(j 5),(j 6),(j 7),(j 8),(j 9),(j 10),(j 11),(j 12),(j 13),(j 14),(j 15),(j 16),(j 17),(j 18),(j 19),(j 20),(j 21),(j 22),(j 23),(j 24),x25]
theorem yrq:zvz [] (yiy K E) #[x0,U,U,U,U,U,U,U,U,U,U,U,U,U,U,U,U,U,U,U,U,U,U,U,U,U] =
 lp (fun k1=>zvz [1,1,0,1,0,0] (zu4 K E k1)) (zdn x0 U (.slice none 0 0) U (.slice none 0 0) (.int .i64 0) (jf #[])):=by kernel_rfl
theorem zr2:zvz [1,1,0,1,0,0] (zu4 K E k1) (zdn x0 x1 x2 x25 v3 v4 j) =
 pv (za9 x0) fun t1=>
 pv (za1 .none .lss v4 t1) fun t2=>
 cnd t2 (
  pv (iaV none 2 x0 v4) fun t3=>
  pv (faV 0 t3) fun t4=>
  ld false 1 t4 fun t5=>
  pv (iaV none 2 x0 v4) fun t6=>
  pv (faV 1 t6) fun t7=>
  ld false 1 t7 fun t8=>
  za2 Tryz.prog (.func (.func 151) #[] #[]) #[t8] (fun t9 h10=>(ldV h10 false 1 t4 t5)∧(
  pv (bdC #[(.slice none 0 0),(.int .i64 0),(.int .i64 0),(.int .i64 0),(.int .i64 0)] [(0,1),(1,4)] #[(0,t5),(1,t9)]) fun t11=>
  za2 Tryz.prog (.func (.func 150) #[] #[]) #[v3,t11] (fun t12=>
  pv (za1 .none .add v4 (.int .i64 1)) fun t13=>
  k1 (zdn x0 x1 x2 x25 t12 t13 (jf #[U,U,U,U,U,v4,x0,t1,t2,v4,t13,v3,x0,v4,t3,t4,t5,x0,v4,t6,t7,t8,t9,t11,t12]))) E) h10) E) (
  K v3):=by kernel_rfl
abbrev ygs:QD:=zab Tryz.prog Tryz.f117.results.toList K E
abbrev zw3 (p:List Nat):QD→Env→Hp→Prop:=den Tryz.prog (sel (za8 Tryz.f117) p)
abbrev zsv:=za6 k1 (blk 0 (za6 (zw3 [1,1] (ygs K E)) (ygs K E)))
def zeu (j:Nat→Value):Env:=#[x0,x1,x2,x3,(j 4),(j 5),x6,x7,v8,(j 9),(j 10),(j 11),(j 12),(j 13),(j 14),(j 15),(j 16),(j 17),(j 18)]
theorem yq6:zw3 [] (ygs K E) #[x0,x1,U,U,U,U,U,U,U,U,U,U,U,U,U,U,U,U,U] =
 pv (za9 x0) fun t1=>
 lp (fun k1=>zw3 [1,0,1,0,0] (zsv K E k1)) (zeu x0 x1 U U x0 t1 (.int .i64 0) (jf #[U,U,U,U,(.int .i64 0)])):=by kernel_rfl
theorem zwx:zw3 [1,0,1,0,0] (zsv K E k1) (zeu x0 x1 x2 x3 x6 x7 v8 j) =
 pv (za1 .none .lss v8 x7) fun t1=>
 cnd t1 (
  pv (iaV none 2 x0 v8) fun t2=>
  ld true 2 t2 fun t3=>
  za2 Tryz.prog x1 #[t3] (fun t4=>
  cnd t4 (
  K v8) (
  pv (za1 .none .add v8 (.int .i64 1)) fun t5=>
  k1 (zeu x0 x1 x2 x3 x6 x7 t5 (jf #[U,U,U,U,(j 4),v8,U,U,U,t1,v8,x1,x0,v8,t2,t3,t4,(j 17),t5])))) E) (
  K (.int .i64 (-1))):=by kernel_rfl
abbrev yaq:QD:=zab Tryz.prog Tryz.f118.results.toList K E
abbrev ziz (p:List Nat):QD→Env→Hp→Prop:=den Tryz.prog (sel (za8 Tryz.f118) p)
abbrev ztn:=za6 k1 (blk 2 (za6 (ziz [1,1,1,1,1] (yaq K E)) (yaq K E)))
abbrev zl1:=za6 k1 (blk 0 (za6 (ziz [1,1,1] (yaq K E)) (yaq K E)))
def zdx (j:Nat→Value):Env:=#[x0,x1,x2,v3,x4,(j 5),x6,x7,x8,x9,x10,v11,(j 12),(j 13),(j 14),(j 15),(j 16),(j 17),(j 18),(j 19),(j 20),(j 21),(j 22),x23,x24,x25,x26,x27,x28,x29,x30,x31,x32,x33,x34,x35]
def zcg (j:Nat→Value):Env:=#[x0,x1,x2,x3,x4,x5,v6,x7,(j 8),x9,x10,x11,x12,x13,x14,x15,x16,x17,x18,x19,x20,x21,x22,x23,x24,x25,x26,v27,(j 28),(j 29),(j 30),(j 31),(j 32),(j 33),(j 34),x35]
theorem ypk:ziz [] (yaq K E) #[x0,U,U,U,U,U,U,U,U,U,U,U,U,U,U,U,U,U,U,U,U,U,U,U,U,U,U,U,U,U,U,U,U,U,U,U] =
 pv (za9 x0) fun t1=>
 lp (fun k1=>ziz [1,1,0,1,0,0] (zl1 K E k1)) (zdx x0 U (.slice none 0 0) U U U U x0 t1 U U U U U U U U U U U U U (.int .i64 0) (.int .i64 0) (jf #[])):=by kernel_rfl
theorem zrj:ziz [1,1,0,1,0,0] (zl1 K E k1) (zdx x0 x1 x2 x4 x6 x7 x8 x9 x10 x23 x24 x25 x26 x27 x28 x29 x30 x31 x32 x33 x34 x35 v3 v11 j) =
 pv (za1 .none .lss v11 x10) fun t1=>
 cnd t1 (
  pv (iaV none 1 x9 v11) fun t2=>
  ld false 1 t2 fun t3=>
  pv (za9 t3) fun t4=>
  pv (za1 .none .add v3 t4) fun t5=>
  pv (za1 .none .lss t5 (.int .i64 0)) fun t6=>
  cnd t6 (
  pv (yb6 9 (.string ⟨#[108,101,110,32,111,117,116,32,111,102,32,114,97,110,103,101]⟩)) fun t7=>
  pnc t7 E fun _=>
  ziz [1,1,0,1,0,0,1,1,1] (zl1 K E k1) #[x0,x1,x2,t5,x4,t3,x6,x7,x8,x9,x10,v11,t1,t2,t3,v3,t3,t4,t5,t5,t6,t7,(j 22),x23,x24,x25,x26,x27,x28,x29,x30,x31,x32,x33,x34,x35]) (
  ziz [1,1,0,1,0,0,1,1,1] (zl1 K E k1) #[x0,x1,x2,t5,x4,t3,x6,x7,x8,x9,x10,v11,t1,t2,t3,v3,t3,t4,t5,t5,t6,(j 21),(j 22),x23,x24,x25,x26,x27,x28,x29,x30,x31,x32,x33,x34,x35])) (
  za2 Tryz.prog (.func (.func 152) #[] #[]) #[(.slice none 0 0),v3] (fun t8=>
  pv (za9 x0) fun t9=>
  lp (fun k1=>ziz [1,1,1,1,0,1,0,0] (ztn K E k1)) (zcg x0 x1 x2 v3 x4 (j 5) x7 x9 x10 v11 t1 (j 13) (j 14) (j 15) (j 16) (j 17) (j 18) (j 19) (j 20) (j 21) (j 22) v3 t8 x0 t9 x35 t8 (.int .i64 0) (jf #[U,U,U,U,U,U,U,U,x8,U,U,U,U,U,U,U,U,U,U,U,U,U,U,U,U,U,U,U,x28,x29,x30,x31,x32,x33,x34]))) E):=by kernel_rfl
theorem zm6:ziz [1,1,0,1,0,0,1,1,1] (zl1 K E k1) #[x0,x1,x2,x3,x4,x5,x6,x7,x8,x9,x10,x11,x12,x13,x14,x15,x16,x17,x18,x19,x20,x21,x22,x23,x24,x25,x26,x27,x28,x29,x30,x31,x32,x33,x34,x35] =
 pv (za1 .none .add x11 (.int .i64 1)) fun t1=>
 k1 (zdx x0 x1 x2 x4 x6 x7 x8 x9 x10 x23 x24 x25 x26 x27 x28 x29 x30 x31 x32 x33 x34 x35 x3 t1 (jf #[U,U,U,U,U,x5,U,U,U,U,U,U,x12,x13,x14,x15,x16,x17,x18,x19,x20,x21,t1])):=by kernel_rfl
theorem zn7:ziz [1,1,1,1,0,1,0,0] (ztn K E k1) (zcg x0 x1 x2 x3 x4 x5 x7 x9 x10 x11 x12 x13 x14 x15 x16 x17 x18 x19 x20 x21 x22 x23 x24 x25 x26 x35 v6 v27 j) =
 pv (za1 .none .lss v27 x26) fun t1=>
 cnd t1 (
  pv (iaV none 1 x25 v27) fun t2=>
  ld false 1 t2 fun t3=>
  zbf 90 2 32 v6 t3 fun t4=>
  pv (za1 .none .add v27 (.int .i64 1)) fun t5=>
  k1 (zcg x0 x1 x2 x3 x4 x5 x7 x9 x10 x11 x12 x13 x14 x15 x16 x17 x18 x19 x20 x21 x22 x23 x24 x25 x26 x35 t4 t5 (jf #[U,U,U,U,U,U,U,U,t3,U,U,U,U,U,U,U,U,U,U,U,U,U,U,U,U,U,U,U,t1,t2,t3,v6,t3,t4,t5]))) (
  K v6):=by kernel_rfl
abbrev yr9:QD:=zab Tryz.prog Tryz.f119.results.toList K E
abbrev yt0 (p:List Nat):QD→Env→Hp→Prop:=den Tryz.prog (sel (za8 Tryz.f119) p)
theorem yln:yt0 [] (yr9 K E) #[x0,x1,x2,U,U,U,U,U,U,U,U,U,U,U,U,U,U,U,U,U,U,U,U,U,U,U,U,U,U,U,U,U,U,U,U,U,U,U,U,U,U,U,U,U,U,U,U,U,U,U,U,U,U,U,U,U,U,U,U,U,U,U,U,U,U,U,U,U,U,U,U,U,U,U,U,U,U,U,U,U,U,U,U,U,U,U,U,U,U,U,U,U,U,U,U] =
 pv (slV 2 x0 (some x1) none none) fun t1=>
 pv (za9 x2) fun t2=>
 pv (za1 .none .eql t2 (.int .i64 0)) fun t3=>
 cnd t3 (
  K x0) (
  pv (za9 x0) fun t4=>
  pv (za1 .none .eql x1 t4) fun t5=>
  cnd t5 (
  zbf 74 2 32 x0 x2 fun t6=>
  K t6) (
  pv (za1 .none .add t4 t2) fun t7=>
  pv (zr0 x0) fun t8=>
  pv (za1 .none .gtr t7 t8) fun t9=>
  cnd t9 (
   pv (slV 2 x0 none (some x1) none) fun t10=>
   pv (za1 .none .add t4 t2) fun t11=>
   pv (za1 .none .sub t11 x1) fun t12=>
   yd7 74 [(.int .u32 0),(.slice none 0 0)] 2 32 t10 t12 fun t13=>
   pv (slV 2 t13 (some x1) none none) fun t14=>
   cpy 2 t14 x2 fun t15=>
   pv (za1 .none .add x1 t2) fun t16=>
   pv (slV 2 t13 (some t16) none none) fun t17=>
   pv (slV 2 x0 (some x1) none none) fun t18=>
   cpy 2 t17 t18 fun t19=>
   K t13) (
   pv (za1 .none .add t4 t2) fun t20=>
   pv (slV 2 x0 none (some t20) none) fun t21=>
   pv (za1 .none .add x1 t2) fun t22=>
   pv (slV 2 t21 (some t22) none none) fun t23=>
   za2 Tryz.prog (.func (.func 153) #[] #[]) #[x2,t23] (fun t24=>
   pv (unV .not t24) fun t25=>
   cnd t25 (
   pv (za1 .none .add x1 t2) fun t26=>
   pv (slV 2 t21 (some t26) none none) fun t27=>
   pv (slV 2 t21 (some x1) none none) fun t28=>
   cpy 2 t27 t28 fun t29=>
   pv (slV 2 t21 (some x1) none none) fun t30=>
   cpy 2 t30 x2 fun t31=>
   K t21) (
   pv (slV 2 t21 (some t4) none none) fun t32=>
   cpy 2 t32 x2 fun t33=>
   pv (slV 2 t21 (some x1) none none) fun t34=>
   za2 Tryz.prog (.func (.func 154) #[] #[]) #[t34,t2] (fun t35=>
   K t21) E)) E))):=by kernel_rfl
abbrev yia:QD:=zab Tryz.prog Tryz.f120.results.toList K E
abbrev zwm (p:List Nat):QD→Env→Hp→Prop:=den Tryz.prog (sel (za8 Tryz.f120) p)
abbrev zuw:=za6 k1 (blk 0 (za6 (zwm [1,1] (yia K E)) (yia K E)))
def zf1 (j:Nat→Value):Env:=#[x0,x1,x2,x3,(j 4),(j 5),x6,x7,v8,(j 9),(j 10),(j 11),(j 12),(j 13),(j 14),(j 15),(j 16),(j 17),(j 18)]
theorem yp3:zwm [] (yia K E) #[x0,x1,U,U,U,U,U,U,U,U,U,U,U,U,U,U,U,U,U] =
 pv (za9 x0) fun t1=>
 lp (fun k1=>zwm [1,0,1,0,0] (zuw K E k1)) (zf1 x0 x1 U U x0 t1 (.int .i64 0) (jf #[U,U,U,U,(.int .i64 0)])):=by kernel_rfl
theorem zvp:zwm [1,0,1,0,0] (zuw K E k1) (zf1 x0 x1 x2 x3 x6 x7 v8 j) =
 pv (za1 .none .lss v8 x7) fun t1=>
 cnd t1 (
  pv (iaV none 2 x0 v8) fun t2=>
  ld true 2 t2 fun t3=>
  za2 Tryz.prog x1 #[t3] (fun t4=>
  cnd t4 (
  K v8) (
  pv (za1 .none .add v8 (.int .i64 1)) fun t5=>
  k1 (zf1 x0 x1 x2 x3 x6 x7 t5 (jf #[U,U,U,U,(j 4),v8,U,U,U,t1,v8,x1,x0,v8,t2,t3,t4,(j 17),t5])))) E) (
  K (.int .i64 (-1))):=by kernel_rfl
abbrev ypm:QD:=zab Tryz.prog Tryz.f132.results.toList K E
abbrev ysd (p:List Nat):QD→Env→Hp→Prop:=den Tryz.prog (sel (za8 Tryz.f132) p)
theorem yn1:ysd [] (ypm K E) #[x0,U,U,U,U,U] =
 pv (za1 .none .neq x0 x0) fun t1=>
 K t1:=by kernel_rfl
abbrev ypu:QD:=zab Tryz.prog Tryz.f133.results.toList K E
abbrev yod (p:List Nat):QD→Env→Hp→Prop:=den Tryz.prog (sel (za8 Tryz.f133) p)
theorem ypc:yod [] (ypu K E) #[x0,x1,U,U,U,U,U,U,U,U,U,U,U] =
 nw 88 (Value.cells x0).toList fun t1=>
 pv (za1 .none .geq x1 (.int .i64 0)) fun t2=>
 gdK t2 true (fun k=>k x1) fun t3=>
 gdK t2 true (fun k=>ld true 2 t1 k) fun t4=>
 gdK t2 true (fun k=>za2 Tryz.prog (.func (.func 134) #[] #[]) #[t4] k E) fun t5=>
 gdK t2 true (fun k=>pv (za1 .none .lss t3 t5) k) fun t6=>
 pv (zah t2 t6 (.bool false)) fun t7=>
 K t7:=by kernel_rfl
abbrev yog:QD:=zab Tryz.prog Tryz.f134.results.toList K E
abbrev ysc (p:List Nat):QD→Env→Hp→Prop:=den Tryz.prog (sel (za8 Tryz.f134) p)
theorem yru:ysc [] (yog K E) #[x0,U,U,U,U,U,U] =
 nw 88 (Value.cells x0).toList fun t1=>
 pv (faV 1 t1) fun t2=>
 ld false 1 t2 fun t3=>
 pv (za9 t3) fun t4=>
 pv (za1 .none .add t4 (.int .i64 2)) fun t5=>
 K t5:=by kernel_rfl
abbrev yrd:QD:=zab Tryz.prog Tryz.f135.results.toList K E
abbrev yqu (p:List Nat):QD→Env→Hp→Prop:=den Tryz.prog (sel (za8 Tryz.f135) p)
theorem ys9:yqu [] (yrd K E) #[x0,x1,x2,U,U,U,U,U,U,U,U,U,U,U,U,U,U,U,U] =
 nw 26 (Value.cells x0).toList fun t1=>
 nw 37 (Value.cells x1).toList fun t2=>
 nw 37 (Value.cells x2).toList fun t3=>
 ld false 1 t2 fun t4=>
 pv (za9 t4) fun t5=>
 ld false 1 t1 fun t6=>
 pv (za9 t6) fun t7=>
 pv (za1 .none .eql t5 t7) fun t8=>
 gdK t8 true (fun k=>k (.func (.func 161) #[] #[t2,t3,t1])) fun t9=>
 gdK t8 true (fun k=>ld false 1 t2 k) fun t10=>
 gdK t8 true (fun k=>ld false 1 t3 k) fun t11=>
 gdK t8 true (fun k=>nws 37 2 (bsC #[(.slice none 0 0)] 1 2 #[(0,t10),(1,t11)]) k) fun t12=>
 gdK t8 true (fun k=>za2 Tryz.prog (.func (.func 160) #[] #[]) #[t9,t12] k E) fun t13=>
 pv (zah t8 t13 (.bool false)) fun t14=>
 K t14:=by kernel_rfl
abbrev ypb:QD:=zab Tryz.prog Tryz.f136.results.toList K E
abbrev yr5 (p:List Nat):QD→Env→Hp→Prop:=den Tryz.prog (sel (za8 Tryz.f136) p)
theorem yp7:yr5 [] (ypb K E) #[x0,x1,U,U,U,U,U,U,U,U,U,U,U,U,U,U,U,U,U,U,U,U,U,U,U,U,U] =
 nw 110 (Value.cells x0).toList fun t1=>
 pv (faV 0 t1) fun t2=>
 ld false 1 t2 fun t3=>
 pv (za9 t3) fun t4=>
 pv (za1 .none .eql t4 x1) fun t5=>
 gdK t5 true (fun k=>pv (faV 1 t1) k) fun t6=>
 gdK t5 true (fun k=>pv (faV 0 t6) k) fun t7=>
 gdK t5 true (fun k=>ld false 1 t7 k) fun t8=>
 gdK t5 true (fun k=>pv (za1 .none .gtr t8 (.int .i64 0)) k) fun t9=>
 pv (zah t5 t9 (.bool false)) fun t10=>
 gdK t10 true (fun k=>pv (faV 1 t1) k) fun t11=>
 gdK t10 true (fun k=>ld true 4 t11 k) fun t12=>
 gdK t10 true (fun k=>za2 Tryz.prog (.func (.func 162) #[] #[]) #[t12] k E) fun t13=>
 pv (zah t10 t13 (.bool false)) fun t14=>
 gdK t14 true (fun k=>pv (faV 0 t1) k) fun t15=>
 gdK t14 true (fun k=>ld false 1 t15 k) fun t16=>
 gdK t14 true (fun k=>za2 Tryz.prog (.func (.func 163) #[] #[]) #[t16,(.func (.func 164) #[] #[])] k E) fun t17=>
 gdK t14 true (fun k=>pv (unV .not t17) k) fun t18=>
 pv (zah t14 t18 (.bool false)) fun t19=>
 K t19:=by kernel_rfl
abbrev yps:QD:=zab Tryz.prog Tryz.f137.results.toList K E
abbrev yr0 (p:List Nat):QD→Env→Hp→Prop:=den Tryz.prog (sel (za8 Tryz.f137) p)
theorem ymn:yr0 [] (yps K E) #[x0,x1,U,U,U,U,U,U,U,U] =
 nw 110 (Value.cells x0).toList fun t1=>
 nw 110 (Value.cells x1).toList fun t2=>
 pv (faV 0 t1) fun t3=>
 ld false 1 t3 fun t4=>
 pv (faV 0 t2) fun t5=>
 ld false 1 t5 fun t6=>
 za2 Tryz.prog (.func (.func 165) #[] #[]) #[t4,t6] (fun t7=>
 K t7) E:=by kernel_rfl
abbrev ygn:QD:=zab Tryz.prog Tryz.f138.results.toList K E
abbrev zwa (p:List Nat):QD→Env→Hp→Prop:=den Tryz.prog (sel (za8 Tryz.f138) p)
abbrev zvf:=za6 k1 (blk 0 (za6 (zwa [1,1,1] (ygn K E)) (ygn K E)))
def zdq (j:Nat→Value):Env:=#[x0,x1,x2,x3,x4,x5,(j 6),(j 7),(j 8),x9,x10,x11,x12,x13,x14,x15,x16,x17,x18,x19,x20,x21,x22,v23,(j 24),(j 25),(j 26),(j 27),(j 28),(j 29),(j 30),(j 31),(j 32),(j 33),(j 34),(j 35),(j 36),(j 37),(j 38),(j 39),(j 40),(j 41),(j 42),(j 43),(j 44),(j 45),(j 46),(j 47),(j 48),(j 49),(j 50),(j 51),(j 52),(j 53)]
theorem ypo:zwa [] (ygn K E) #[x0,x1,x2,U,U,U,U,U,U,U,U,U,U,U,U,U,U,U,U,U,U,U,U,U,U,U,U,U,U,U,U,U,U,U,U,U,U,U,U,U,U,U,U,U,U,U,U,U,U,U,U,U,U,U] =
 pv (za9 x1) fun t1=>
 pv (za9 x0) fun t2=>
 pv (za1 .none .neq t1 t2) fun t3=>
 gdK t3 false (fun k=>k x2) fun t4=>
 gdK t3 false (fun k=>pv (za9 t4) k) fun t5=>
 gdK t3 false (fun k=>k x0) fun t6=>
 gdK t3 false (fun k=>pv (za9 t6) k) fun t7=>
 gdK t3 false (fun k=>pv (za1 .none .neq t5 t7) k) fun t8=>
 pv (zah t3 (.bool true) t8) fun t9=>
 cnd t9 (
  K (.bool false)) (
  pv (za9 x0) fun t10=>
  lp (fun k1=>zwa [1,1,0,1,0,0] (zvf K E k1)) (zdq x0 x1 x2 U U U x1 t1 x0 t2 t3 t3 t4 t5 t6 t7 t8 t9 x0 t10 (.int .i64 0) (jf #[U,U,U,U,U,U,(.bool false)]))):=by kernel_rfl
theorem zrk:zwa [1,1,0,1,0,0] (zvf K E k1) (zdq x0 x1 x2 x3 x4 x5 x9 x10 x11 x12 x13 x14 x15 x16 x17 x18 x19 x20 x21 x22 v23 j) =
 pv (za1 .none .lss v23 x22) fun t1=>
 cnd t1 (
  pv (iaV none 2 x21 v23) fun t2=>
  ld true 2 t2 fun t3=>
  nw 88 [(.int .i64 0),(.slice none 0 0)] fun t4=>
  st 2 t4 t3 fun _=>
  pv (iaV none 1 x1 v23) fun t5=>
  ld false 1 t5 fun t6=>
  pv (za1 .none .lss t6 (.int .i64 0)) fun t7=>
  gdK t7 false (fun k=>k x2) fun t8=>
  gdK t7 false (fun k=>k v23) fun t9=>
  gdK t7 false (fun k=>pv (iaV none 1 t8 t9) k) fun t10=>
  gdK t7 false (fun k=>ld false 1 t10 k) fun t11=>
  gdK t7 false (fun k=>k x1) fun t12=>
  gdK t7 false (fun k=>k v23) fun t13=>
  gdK t7 false (fun k=>pv (iaV none 1 t12 t13) k) fun t14=>
  gdK t7 false (fun k=>ld false 1 t14 k) fun t15=>
  gdK t7 false (fun k=>pv (za1 .none .lss t11 t15) k) fun t16=>
  pv (zah t7 (.bool true) t16) fun t17=>
  gdK t17 false (fun k=>k x2) fun t18=>
  gdK t17 false (fun k=>k v23) fun t19=>
  gdK t17 false (fun k=>pv (iaV none 1 t18 t19) k) fun t20=>
  gdK t17 false (fun k=>ld false 1 t20 k) fun t21=>
  gdK t17 false (fun k=>ld true 2 t4 k) fun t22=>
  gdK t17 false (fun k=>za2 Tryz.prog (.func (.func 134) #[] #[]) #[t22] k E) (fun t23 h24=>(isB t17 false=true→ldV h24 false 1 t20 t21)∧(
  gdK t17 false (fun k=>pv (za1 .none .geq t21 t23) k) fun t25=>
  pv (zah t17 (.bool true) t25) fun t26=>
  cnd t26 (
   K (.bool false)) (
   pv (za1 .none .add v23 (.int .i64 1)) fun t27=>
   k1 (zdq x0 x1 x2 x3 x4 x5 x9 x10 x11 x12 x13 x14 x15 x16 x17 x18 x19 x20 x21 x22 t27 (jf #[U,U,U,U,U,U,(j 6),v23,t4,U,U,U,U,U,U,U,U,U,U,U,U,U,U,U,t1,v23,t2,t3,x1,v23,t5,t6,t7,t7,t8,t9,t10,t11,t12,t13,t14,t15,t16,t17,t17,t18,t19,t20,t21,t22,t23,t25,t26,t27])))) h24)) (
  K (.bool true)):=by kernel_rfl
abbrev yit:QD:=zab Tryz.prog Tryz.f139.results.toList K E
abbrev zw8 (p:List Nat):QD→Env→Hp→Prop:=den Tryz.prog (sel (za8 Tryz.f139) p)
abbrev zty:=za6 k1 (blk 0 (za6 (zw8 [1,1,1] (yit K E)) (yit K E)))
def zdk (j:Nat→Value):Env:=#[x0,x1,x2,x3,x4,x5,x6,(j 7),x8,x9,x10,v11,(j 12),(j 13),(j 14),(j 15),(j 16),(j 17),(j 18),(j 19),(j 20),(j 21),(j 22),(j 23),x24,x25]
theorem ysx:zw8 [] (yit K E) #[x0,x1,U,U,U,U,U,U,U,U,U,U,U,U,U,U,U,U,U,U,U,U,U,U,U,U] =
 za2 Tryz.prog (.func (.func 108) #[] #[]) #[] (fun t1=>
 pv (za9 x0) fun t2=>
 lp (fun k1=>zw8 [1,1,0,1,0,0] (zty K E k1)) (zdk x0 x1 U U (.slice none 0 0) t1 U t1 x0 t2 U U (.int .i64 0) (jf #[]))) E:=by kernel_rfl
theorem zsa:zw8 [1,1,0,1,0,0] (zty K E k1) (zdk x0 x1 x2 x3 x4 x5 x6 x8 x9 x10 x24 x25 v11 j) =
 pv (za1 .none .lss v11 x10) fun t1=>
 cnd t1 (
  pv (iaV none 5 x9 v11) fun t2=>
  ld true 5 t2 fun t3=>
  nw 110 [(.slice none 0 0),(.int .i64 0),(.int .i64 0),(.int .i64 0),(.int .i64 0)] fun t4=>
  st 5 t4 t3 fun _=>
  pv (faV 0 t4) fun t5=>
  ld false 1 t5 fun t6=>
  pv (faV 1 t4) fun t7=>
  ld true 4 t7 fun t8=>
  za2 Tryz.prog x1 #[t6] (fun t9 h10=>(ldV h10 true 4 t7 t8)∧(
  za2 Tryz.prog (.func (.func 109) #[] #[]) #[x5,t9,t8] (fun t11=>
  pv (za1 .none .add v11 (.int .i64 1)) fun t12=>
  k1 (zdk x0 x1 x2 x3 x4 x5 x6 x8 x9 x10 x24 x25 t12 (jf #[U,U,U,U,U,U,U,t4,U,U,U,U,t1,t2,t3,x5,x1,t5,t6,t9,t7,t8,t11,t12]))) E) h10) E) (
  za2 Tryz.prog (.func (.func 111) #[] #[]) #[x5] (fun t13=>
  K t13) E):=by kernel_rfl
end
section
variable {K:zae} {E:zat} {k1 k2 k3 k4 k5:Env→Hp→Prop} {σ:Type} {x0 x1 x2 x3 x4 x5 x6 x7 x8 x9 x10 x11 x12 x13 x14 x15 x16 x17 x18 x19 x20 x21 x22 x23 x24 x25 x26 x27 x28 x29 x30 x31 x32 x33 x34 x35 x36 x37 x38 x39 x40 x41 x42 x43 x44 x45 x46 x47 x48 x49 x50 x51 x52 x53 x54 x55 x56 x57 x58 x59 x60 x61 x62 x63 x64 x65 x66 x67 x68 x69 x70 x71 x72 x73 x74 x75 x76 x77 x78 x79 x80 x81 x82 x83 x84 x85 x86 x87 x88 x89 x90 x91 x92 x93 x94 v0 v1 v2 v3 v4 v5 v6 v7 v8 v9 v10 v11 v12 v13 v14 v15 v16 v17 v18 v19 v20 v21 v22 v23 v24 v25 v26 v27 v28 v29 v30 v31 v32 v33 v34 v35 v36 v37 v38 v39 v40 v41 v42 v43 v44 v45 v46 v47 v48 v49 v50 v51 v52 v53 v54 v55 v56 v57 v58 v59 v60 v61 v62 v63 v64 v65 v66 v67 v68 v69 v70 v71 v72 v73 v74 v75 v76 v77 v78 v79 v80 v81 v82 v83 v84 v85 v86 v87 v88 v89 v90 v91 v92 v93 v94:Value} {h:Hp} {j:Nat→Value}
theorem zw0 (f0 f7:σ→Value) (I:σ→Hp→Prop) (μ:σ→Nat) (s0:σ) (e0:v0=f0 s0) (e7:v7=f7 s0) (h0:h.wf→∃ h',h.wk h'∧I s0 h')
 (round:∀ (k1:Env→Hp→Prop) (s:σ) (j:Nat→Value) (h:Hp),I s h→h.wf→(∀ s' j' h',μ s'<μ s→(h'.wf→∃ h'',h'.wk h''∧I s' h'')→k1 (zev x1 x2 x3 x4 x5 x6 x8 x9 x23 (f0 s') (f7 s') j') h')→zw7 [1,0,1,0,0] (zuc K E k1) (zev x1 x2 x3 x4 x5 x6 x8 x9 x23 (f0 s) (f7 s) j) h) :
 lp (fun k1=>zw7 [1,0,1,0,0] (zuc K E k1)) (zev x1 x2 x3 x4 x5 x6 x8 x9 x23 v0 v7 j) h:=by
 subst e0
 subst e7
 exact zaj (fun s j=>zev x1 x2 x3 x4 x5 x6 x8 x9 x23 (f0 s) (f7 s) j) I μ round s0 j h0
theorem zru (f0 f5:σ→Value) (I:σ→Hp→Prop) (μ:σ→Nat) (s0:σ) (e0:v0=f0 s0) (e5:v5=f5 s0) (h0:h.wf→∃ h',h.wk h'∧I s0 h')
 (round:∀ (k1:Env→Hp→Prop) (s:σ) (j:Nat→Value) (h:Hp),I s h→h.wf→(∀ s' j' h',μ s'<μ s→(h'.wf→∃ h'',h'.wk h''∧I s' h'')→k1 (zdv x1 x2 x3 x4 x7 x8 x9 x10 x11 x56 (f0 s') (f5 s') j') h')→zh3 [1,1,0,1,0,0] (zue K E k1) (zdv x1 x2 x3 x4 x7 x8 x9 x10 x11 x56 (f0 s) (f5 s) j) h) :
 lp (fun k1=>zh3 [1,1,0,1,0,0] (zue K E k1)) (zdv x1 x2 x3 x4 x7 x8 x9 x10 x11 x56 v0 v5 j) h:=by
 subst e0
 subst e5
 exact zaj (fun s j=>zdv x1 x2 x3 x4 x7 x8 x9 x10 x11 x56 (f0 s) (f5 s) j) I μ round s0 j h0
theorem zia (f0 f6:σ→Value) (I:σ→Hp→Prop) (μ:σ→Nat) (s0:σ) (e0:v0=f0 s0) (e6:v6=f6 s0) (h0:h.wf→∃ h',h.wk h'∧I s0 h')
 (round:∀ (k2:Env→Hp→Prop) (s:σ) (j:Nat→Value) (h:Hp),I s h→h.wf→(∀ s' j' h',μ s'<μ s→(h'.wf→∃ h'',h'.wk h''∧I s' h'')→k2 (zb9 x1 x2 x3 x4 x5 x7 x8 x9 x10 x11 x12 x13 x14 x15 x16 x17 x18 x19 x20 x21 x22 x23 x24 x25 x26 x48 x49 x50 x51 x52 x53 x54 x55 x56 (f0 s') (f6 s') j') h')→zh3 [1,1,0,1,0,0,1,0,0,1,0,1,0,0] (zui K E k1 k2) (zb9 x1 x2 x3 x4 x5 x7 x8 x9 x10 x11 x12 x13 x14 x15 x16 x17 x18 x19 x20 x21 x22 x23 x24 x25 x26 x48 x49 x50 x51 x52 x53 x54 x55 x56 (f0 s) (f6 s) j) h) :
 lp (fun k2=>zh3 [1,1,0,1,0,0,1,0,0,1,0,1,0,0] (zui K E k1 k2)) (zb9 x1 x2 x3 x4 x5 x7 x8 x9 x10 x11 x12 x13 x14 x15 x16 x17 x18 x19 x20 x21 x22 x23 x24 x25 x26 x48 x49 x50 x51 x52 x53 x54 x55 x56 v0 v6 j) h:=by
 subst e0
 subst e6
 exact zaj (fun s j=>zb9 x1 x2 x3 x4 x5 x7 x8 x9 x10 x11 x12 x13 x14 x15 x16 x17 x18 x19 x20 x21 x22 x23 x24 x25 x26 x48 x49 x50 x51 x52 x53 x54 x55 x56 (f0 s) (f6 s) j) I μ round s0 j h0
theorem zlw (f9 f10:σ→Value) (I:σ→Hp→Prop) (μ:σ→Nat) (s0:σ) (e9:v9=f9 s0) (e10:v10=f10 s0) (h0:h.wf→∃ h',h.wk h'∧I s0 h')
 (round:∀ (k1:Env→Hp→Prop) (s:σ) (j:Nat→Value) (h:Hp),I s h→h.wf→(∀ s' j' h',μ s'<μ s→(h'.wf→∃ h'',h'.wk h''∧I s' h'')→k1 (zc6 x0 x1 x2 x3 x4 x5 x6 x7 x8 x11 x12 x13 x14 x15 x16 x17 x18 x19 x20 x21 x22 x23 x33 x34 x35 x36 x37 x38 x39 x40 x41 x42 x43 x44 x45 x46 x47 x48 x49 x50 (f9 s') (f10 s') j') h')→zwg [1,1,1,1,1,0,1,0,0] (zv3 K E k1) (zc6 x0 x1 x2 x3 x4 x5 x6 x7 x8 x11 x12 x13 x14 x15 x16 x17 x18 x19 x20 x21 x22 x23 x33 x34 x35 x36 x37 x38 x39 x40 x41 x42 x43 x44 x45 x46 x47 x48 x49 x50 (f9 s) (f10 s) j) h) :
 lp (fun k1=>zwg [1,1,1,1,1,0,1,0,0] (zv3 K E k1)) (zc6 x0 x1 x2 x3 x4 x5 x6 x7 x8 x11 x12 x13 x14 x15 x16 x17 x18 x19 x20 x21 x22 x23 x33 x34 x35 x36 x37 x38 x39 x40 x41 x42 x43 x44 x45 x46 x47 x48 x49 x50 v9 v10 j) h:=by
 subst e9
 subst e10
 exact zaj (fun s j=>zc6 x0 x1 x2 x3 x4 x5 x6 x7 x8 x11 x12 x13 x14 x15 x16 x17 x18 x19 x20 x21 x22 x23 x33 x34 x35 x36 x37 x38 x39 x40 x41 x42 x43 x44 x45 x46 x47 x48 x49 x50 (f9 s) (f10 s) j) I μ round s0 j h0
theorem zs4 (f3 f4:σ→Value) (I:σ→Hp→Prop) (μ:σ→Nat) (s0:σ) (e3:v3=f3 s0) (e4:v4=f4 s0) (h0:h.wf→∃ h',h.wk h'∧I s0 h')
 (round:∀ (k1:Env→Hp→Prop) (s:σ) (j:Nat→Value) (h:Hp),I s h→h.wf→(∀ s' j' h',μ s'<μ s→(h'.wf→∃ h'',h'.wk h''∧I s' h'')→k1 (zdn x0 x1 x2 x25 (f3 s') (f4 s') j') h')→zvz [1,1,0,1,0,0] (zu4 K E k1) (zdn x0 x1 x2 x25 (f3 s) (f4 s) j) h) :
 lp (fun k1=>zvz [1,1,0,1,0,0] (zu4 K E k1)) (zdn x0 x1 x2 x25 v3 v4 j) h:=by
 subst e3
 subst e4
 exact zaj (fun s j=>zdn x0 x1 x2 x25 (f3 s) (f4 s) j) I μ round s0 j h0
theorem zvv (f8:σ→Value) (I:σ→Hp→Prop) (μ:σ→Nat) (s0:σ) (e8:v8=f8 s0) (h0:h.wf→∃ h',h.wk h'∧I s0 h')
 (round:∀ (k1:Env→Hp→Prop) (s:σ) (j:Nat→Value) (h:Hp),I s h→h.wf→(∀ s' j' h',μ s'<μ s→(h'.wf→∃ h'',h'.wk h''∧I s' h'')→k1 (zeu x0 x1 x2 x3 x6 x7 (f8 s') j') h')→zw3 [1,0,1,0,0] (zsv K E k1) (zeu x0 x1 x2 x3 x6 x7 (f8 s) j) h) :
 lp (fun k1=>zw3 [1,0,1,0,0] (zsv K E k1)) (zeu x0 x1 x2 x3 x6 x7 v8 j) h:=by
 subst e8
 exact zaj (fun s j=>zeu x0 x1 x2 x3 x6 x7 (f8 s) j) I μ round s0 j h0
theorem zr4 (f3 f11:σ→Value) (I:σ→Hp→Prop) (μ:σ→Nat) (s0:σ) (e3:v3=f3 s0) (e11:v11=f11 s0) (h0:h.wf→∃ h',h.wk h'∧I s0 h')
 (round:∀ (k1:Env→Hp→Prop) (s:σ) (j:Nat→Value) (h:Hp),I s h→h.wf→(∀ s' j' h',μ s'<μ s→(h'.wf→∃ h'',h'.wk h''∧I s' h'')→k1 (zdx x0 x1 x2 x4 x6 x7 x8 x9 x10 x23 x24 x25 x26 x27 x28 x29 x30 x31 x32 x33 x34 x35 (f3 s') (f11 s') j') h')→ziz [1,1,0,1,0,0] (zl1 K E k1) (zdx x0 x1 x2 x4 x6 x7 x8 x9 x10 x23 x24 x25 x26 x27 x28 x29 x30 x31 x32 x33 x34 x35 (f3 s) (f11 s) j) h) :
 lp (fun k1=>ziz [1,1,0,1,0,0] (zl1 K E k1)) (zdx x0 x1 x2 x4 x6 x7 x8 x9 x10 x23 x24 x25 x26 x27 x28 x29 x30 x31 x32 x33 x34 x35 v3 v11 j) h:=by
 subst e3
 subst e11
 exact zaj (fun s j=>zdx x0 x1 x2 x4 x6 x7 x8 x9 x10 x23 x24 x25 x26 x27 x28 x29 x30 x31 x32 x33 x34 x35 (f3 s) (f11 s) j) I μ round s0 j h0
theorem zng (f6 f27:σ→Value) (I:σ→Hp→Prop) (μ:σ→Nat) (s0:σ) (e6:v6=f6 s0) (e27:v27=f27 s0) (h0:h.wf→∃ h',h.wk h'∧I s0 h')
 (round:∀ (k1:Env→Hp→Prop) (s:σ) (j:Nat→Value) (h:Hp),I s h→h.wf→(∀ s' j' h',μ s'<μ s→(h'.wf→∃ h'',h'.wk h''∧I s' h'')→k1 (zcg x0 x1 x2 x3 x4 x5 x7 x9 x10 x11 x12 x13 x14 x15 x16 x17 x18 x19 x20 x21 x22 x23 x24 x25 x26 x35 (f6 s') (f27 s') j') h')→ziz [1,1,1,1,0,1,0,0] (ztn K E k1) (zcg x0 x1 x2 x3 x4 x5 x7 x9 x10 x11 x12 x13 x14 x15 x16 x17 x18 x19 x20 x21 x22 x23 x24 x25 x26 x35 (f6 s) (f27 s) j) h) :
 lp (fun k1=>ziz [1,1,1,1,0,1,0,0] (ztn K E k1)) (zcg x0 x1 x2 x3 x4 x5 x7 x9 x10 x11 x12 x13 x14 x15 x16 x17 x18 x19 x20 x21 x22 x23 x24 x25 x26 x35 v6 v27 j) h:=by
 subst e6
 subst e27
 exact zaj (fun s j=>zcg x0 x1 x2 x3 x4 x5 x7 x9 x10 x11 x12 x13 x14 x15 x16 x17 x18 x19 x20 x21 x22 x23 x24 x25 x26 x35 (f6 s) (f27 s) j) I μ round s0 j h0
theorem zwb (f8:σ→Value) (I:σ→Hp→Prop) (μ:σ→Nat) (s0:σ) (e8:v8=f8 s0) (h0:h.wf→∃ h',h.wk h'∧I s0 h')
 (round:∀ (k1:Env→Hp→Prop) (s:σ) (j:Nat→Value) (h:Hp),I s h→h.wf→(∀ s' j' h',μ s'<μ s→(h'.wf→∃ h'',h'.wk h''∧I s' h'')→k1 (zf1 x0 x1 x2 x3 x6 x7 (f8 s') j') h')→zwm [1,0,1,0,0] (zuw K E k1) (zf1 x0 x1 x2 x3 x6 x7 (f8 s) j) h) :
 lp (fun k1=>zwm [1,0,1,0,0] (zuw K E k1)) (zf1 x0 x1 x2 x3 x6 x7 v8 j) h:=by
 subst e8
 exact zaj (fun s j=>zf1 x0 x1 x2 x3 x6 x7 (f8 s) j) I μ round s0 j h0
theorem zrq (f23:σ→Value) (I:σ→Hp→Prop) (μ:σ→Nat) (s0:σ) (e23:v23=f23 s0) (h0:h.wf→∃ h',h.wk h'∧I s0 h')
 (round:∀ (k1:Env→Hp→Prop) (s:σ) (j:Nat→Value) (h:Hp),I s h→h.wf→(∀ s' j' h',μ s'<μ s→(h'.wf→∃ h'',h'.wk h''∧I s' h'')→k1 (zdq x0 x1 x2 x3 x4 x5 x9 x10 x11 x12 x13 x14 x15 x16 x17 x18 x19 x20 x21 x22 (f23 s') j') h')→zwa [1,1,0,1,0,0] (zvf K E k1) (zdq x0 x1 x2 x3 x4 x5 x9 x10 x11 x12 x13 x14 x15 x16 x17 x18 x19 x20 x21 x22 (f23 s) j) h) :
 lp (fun k1=>zwa [1,1,0,1,0,0] (zvf K E k1)) (zdq x0 x1 x2 x3 x4 x5 x9 x10 x11 x12 x13 x14 x15 x16 x17 x18 x19 x20 x21 x22 v23 j) h:=by
 subst e23
 exact zaj (fun s j=>zdq x0 x1 x2 x3 x4 x5 x9 x10 x11 x12 x13 x14 x15 x16 x17 x18 x19 x20 x21 x22 (f23 s) j) I μ round s0 j h0
theorem zrs (f11:σ→Value) (I:σ→Hp→Prop) (μ:σ→Nat) (s0:σ) (e11:v11=f11 s0) (h0:h.wf→∃ h',h.wk h'∧I s0 h')
 (round:∀ (k1:Env→Hp→Prop) (s:σ) (j:Nat→Value) (h:Hp),I s h→h.wf→(∀ s' j' h',μ s'<μ s→(h'.wf→∃ h'',h'.wk h''∧I s' h'')→k1 (zdk x0 x1 x2 x3 x4 x5 x6 x8 x9 x10 x24 x25 (f11 s') j') h')→zw8 [1,1,0,1,0,0] (zty K E k1) (zdk x0 x1 x2 x3 x4 x5 x6 x8 x9 x10 x24 x25 (f11 s) j) h) :
 lp (fun k1=>zw8 [1,1,0,1,0,0] (zty K E k1)) (zdk x0 x1 x2 x3 x4 x5 x6 x8 x9 x10 x24 x25 v11 j) h:=by
 subst e11
 exact zaj (fun s j=>zdk x0 x1 x2 x3 x4 x5 x6 x8 x9 x10 x24 x25 (f11 s) j) I μ round s0 j h0
end
section
variable (K:zae) (E:zat) (k1 k2 k3 k4 k5:Env→Hp→Prop) (x0 x1 x2 x3 x4 x5 x6 x7 x8 x9 x10 x11 x12 x13 x14 x15 x16 x17 x18 x19 x20 x21 x22 x23 x24 x25 x26 x27 x28 x29 x30 x31 x32 x33 x34 x35 x36 x37 x38 x39 x40 x41 x42 x43 x44 x45 x46 x47 x48 x49 x50 x51 x52 x53 x54 x55 x56 x57 x58 x59 x60 x61 x62 x63 x64 x65 x66 x67 x68 x69 x70 x71 x72 x73 x74 x75 x76 v0 v1 v2 v3 v4 v5 v6 v7 v8 v9 v10 v11 v12 v13 v14 v15 v16 v17 v18 v19 v20 v21 v22 v23 v24 v25 v26 v27 v28 v29 v30 v31 v32 v33 v34 v35 v36 v37 v38 v39 v40 v41 v42 v43 v44 v45 v46 v47 v48 v49 v50 v51 v52 v53 v54 v55 v56 v57 v58 v59 v60 v61 v62 v63 v64 v65 v66 v67 v68 v69 v70 v71 v72 v73 v74 v75 v76:Value) (j:Nat→Value)
abbrev yqn:QD:=zab Tryz.prog Tryz.f140.results.toList K E
abbrev yrp (p:List Nat):QD→Env→Hp→Prop:=den Tryz.prog (sel (za8 Tryz.f140) p)
theorem yr2:yrp [] (yqn K E) #[x0,x1,x2,x3,U,U,U,U,U,U,U] =
 ld false 1 x1 fun t1=>
 ld false 1 x2 fun t2=>
 ld false 1 x3 fun t3=>
 za2 Tryz.prog (.func (.func 141) #[] #[]) #[t1,t2,t3,x0] (fun t4=>
 K t4) E:=by kernel_rfl
abbrev yiz:QD:=zab Tryz.prog Tryz.f141.results.toList K E
abbrev zwi (p:List Nat):QD→Env→Hp→Prop:=den Tryz.prog (sel (za8 Tryz.f141) p)
abbrev zu1:=za6 k1 (blk 0 (za6 (zwi [1,1,1,1] (yiz K E)) (yiz K E)))
def zcx (j:Nat→Value):Env:=#[x0,x1,x2,x3,x4,x5,x6,x7,x8,x9,(j 10),(j 11),x12,x13,x14,x15,x16,x17,x18,x19,x20,x21,x22,x23,x24,x25,x26,x27,x28,x29,x30,x31,x32,x33,x34,x35,x36,x37,x38,x39,x40,v41,(j 42),(j 43),(j 44),(j 45),(j 46),(j 47),(j 48),(j 49),(j 50),(j 51),(j 52),(j 53),(j 54),(j 55),(j 56),(j 57),(j 58),(j 59),(j 60),(j 61),(j 62),(j 63),x64]
theorem yse:zwi [] (yiz K E) #[x0,x1,x2,x3,U,U,U,U,U,U,U,U,U,U,U,U,U,U,U,U,U,U,U,U,U,U,U,U,U,U,U,U,U,U,U,U,U,U,U,U,U,U,U,U,U,U,U,U,U,U,U,U,U,U,U,U,U,U,U,U,U,U,U,U,U] =
 za2 Tryz.prog (.func (.func 64) #[] #[]) #[x0] (fun t1=>
 pv (unV .not t1) fun t2=>
 gdK t2 false (fun k=>k x1) fun t3=>
 gdK t2 false (fun k=>pv (za9 t3) k) fun t4=>
 gdK t2 false (fun k=>k x0) fun t5=>
 gdK t2 false (fun k=>pv (za9 t5) k) fun t6=>
 gdK t2 false (fun k=>pv (za1 .none .neq t4 t6) k) fun t7=>
 pv (zah t2 (.bool true) t7) fun t8=>
 gdK t8 false (fun k=>k x2) fun t9=>
 gdK t8 false (fun k=>pv (za9 t9) k) fun t10=>
 gdK t8 false (fun k=>k x0) fun t11=>
 gdK t8 false (fun k=>pv (za9 t11) k) fun t12=>
 gdK t8 false (fun k=>pv (za1 .none .neq t10 t12) k) fun t13=>
 pv (zah t8 (.bool true) t13) fun t14=>
 gdK t14 false (fun k=>k x3) fun t15=>
 gdK t14 false (fun k=>pv (za9 t15) k) fun t16=>
 gdK t14 false (fun k=>k x0) fun t17=>
 gdK t14 false (fun k=>pv (za9 t17) k) fun t18=>
 gdK t14 false (fun k=>pv (za1 .none .neq t16 t18) k) fun t19=>
 pv (zah t14 (.bool true) t19) fun t20=>
 cnd t20 (
  K (.slice none 0 0)) (
  pv (za9 x0) fun t21=>
  mks 3 [(.int .i64 0)] 1 8 t21 t21 fun t22=>
  pv (za9 x0) fun t23=>
  lp (fun k1=>zwi [1,1,1,0,1,0,0] (zu1 K E k1)) (zcx x0 x1 x2 x3 U U U U (.slice none 0 0) t22 x0 t1 t2 t2 t3 t4 t5 t6 t7 t8 t8 t9 t10 t11 t12 t13 t14 t14 t15 t16 t17 t18 t19 t20 x0 t21 t22 x0 t23 U (.int .i64 0) (jf #[])))) E:=by kernel_rfl
theorem zoy:zwi [1,1,1,0,1,0,0] (zu1 K E k1) (zcx x0 x1 x2 x3 x4 x5 x6 x7 x8 x9 x12 x13 x14 x15 x16 x17 x18 x19 x20 x21 x22 x23 x24 x25 x26 x27 x28 x29 x30 x31 x32 x33 x34 x35 x36 x37 x38 x39 x40 x64 v41 j) =
 pv (za1 .none .lss v41 x40) fun t1=>
 cnd t1 (
  pv (iaV none 2 x39 v41) fun t2=>
  ld true 2 t2 fun t3=>
  nw 88 [(.int .i64 0),(.slice none 0 0)] fun t4=>
  st 2 t4 t3 fun _=>
  ld true 2 t4 fun t5=>
  pv (iaV none 1 x1 v41) fun t6=>
  ld false 1 t6 fun t7=>
  pv (iaV none 1 x2 v41) fun t8=>
  ld false 1 t8 fun t9=>
  pv (iaV none 1 x3 v41) fun t10=>
  ld false 1 t10 fun t11=>
  za2 Tryz.prog (.func (.func 166) #[] #[]) #[t5,t7,t9,t11] (fun t12=>
  pv (iaV none 1 x9 v41) fun t13=>
  st 1 t13 t12 fun _=>
  pv (za1 .none .add v41 (.int .i64 1)) fun t14=>
  k1 (zcx x0 x1 x2 x3 x4 x5 x6 x7 x8 x9 x12 x13 x14 x15 x16 x17 x18 x19 x20 x21 x22 x23 x24 x25 x26 x27 x28 x29 x30 x31 x32 x33 x34 x35 x36 x37 x38 x39 x40 x64 t14 (jf #[U,U,U,U,U,U,U,U,U,U,v41,t4,U,U,U,U,U,U,U,U,U,U,U,U,U,U,U,U,U,U,U,U,U,U,U,U,U,U,U,U,U,U,t1,v41,t2,t3,x9,v41,t5,x1,v41,t6,t7,x2,v41,t8,t9,x3,v41,t10,t11,t12,t13,t14]))) E) (
  K x9):=by kernel_rfl
abbrev yq9:QD:=zab Tryz.prog Tryz.f142.results.toList K E
abbrev yoy (p:List Nat):QD→Env→Hp→Prop:=den Tryz.prog (sel (za8 Tryz.f142) p)
theorem yq1:yoy [] (yq9 K E) #[x0,x1,x2,U,U,U,U,U,U,U,U,U,U] =
 nw 37 (Value.cells x0).toList fun t1=>
 nw 37 (Value.cells x1).toList fun t2=>
 nw 37 (Value.cells x2).toList fun t3=>
 ld false 1 t1 fun t4=>
 ld false 1 t2 fun t5=>
 ld false 1 t3 fun t6=>
 nws 37 3 (bsC #[(.slice none 0 0)] 1 3 #[(0,t4),(1,t5),(2,t6)]) fun t7=>
 za2 Tryz.prog (.func (.func 160) #[] #[]) #[(.func (.func 167) #[] #[t3,t1,t2]),t7] (fun t8=>
 K t8) E:=by kernel_rfl
abbrev yhl:QD:=zab Tryz.prog Tryz.f143.results.toList K E
abbrev zwh (p:List Nat):QD→Env→Hp→Prop:=den Tryz.prog (sel (za8 Tryz.f143) p)
abbrev zv7:=za6 k1 (blk 0 (za6 (zwh [1,1,1] (yhl K E)) (yhl K E)))
def zds (j:Nat→Value):Env:=#[x0,x1,x2,v3,x4,(j 5),x6,x7,v8,(j 9),(j 10),(j 11),(j 12),(j 13),(j 14),(j 15),(j 16),(j 17),(j 18),x19,x20]
theorem yp9:zwh [] (yhl K E) #[x0,U,U,U,U,U,U,U,U,U,U,U,U,U,U,U,U,U,U,U,U] =
 pv (za9 x0) fun t1=>
 lp (fun k1=>zwh [1,1,0,1,0,0] (zv7 K E k1)) (zds x0 U (.string ⟨#[]⟩) U x0 t1 U U (.slice none 0 0) (.int .i64 0) (jf #[])):=by kernel_rfl
theorem zre:zwh [1,1,0,1,0,0] (zv7 K E k1) (zds x0 x1 x2 x4 x6 x7 x19 x20 v3 v8 j) =
 pv (za1 .none .lss v8 x7) fun t1=>
 cnd t1 (
  pv (iaV none 1 x6 v8) fun t2=>
  ld false 1 t2 fun t3=>
  za2 Tryz.prog (.func (.func 168) #[] #[]) #[v3,t3,(.int .i64 36)] (fun t4=>
  nws 5 1 (bsC #[(.int .u8 0)] 1 1 #[(0,(.int .u8 32))]) fun t5=>
  zbf 5 1 1 t4 t5 fun t6=>
  pv (za1 .none .add v8 (.int .i64 1)) fun t7=>
  k1 (zds x0 x1 x2 x4 x6 x7 x19 x20 t6 t7 (jf #[U,U,U,U,U,t3,U,U,U,t1,t2,t3,v3,t3,t4,t4,t5,t6,t7]))) E) (
  bs v3 fun t8=>
  K t8):=by kernel_rfl
abbrev yqq:QD:=zab Tryz.prog Tryz.f144.results.toList K E
abbrev ypp (p:List Nat):QD→Env→Hp→Prop:=den Tryz.prog (sel (za8 Tryz.f144) p)
theorem yqk:ypp [] (yqq K E) #[x0,x1,U,U,U,U,U,U,U,U,U,U,U,U,U,U,U,U,U,U,U,U] =
 nw 108 (Value.cells x0).toList fun t1=>
 nw 108 (Value.cells x1).toList fun t2=>
 nw 108 [(.int .i64 0),(.int .i64 0),(.int .i64 0),(.int .i64 0)] fun t3=>
 pv (faV 0 t1) fun t4=>
 ld false 1 t4 fun t5=>
 pv (za1 .none .eql (.int .i64 0) t5) fun t6=>
 cnd t6 (
  ld true 4 t2 fun t7=>
  st 4 t3 t7 fun _=>
  ld true 4 t3 fun t8=>
  K t8) (
  pv (faV 0 t2) fun t9=>
  ld false 1 t9 fun t10=>
  pv (za1 .none .eql (.int .i64 0) t10) fun t11=>
  cnd t11 (
  ld true 4 t1 fun t12=>
  st 4 t3 t12 fun _=>
  ld true 4 t3 fun t13=>
  K t13) (
  ld true 4 t1 fun t14=>
  pv (bdC #[(.int .i64 0),(.int .i64 0),(.int .i64 0),(.int .i64 0)] [(0,4)] #[(0,t14)]) fun t15=>
  nw 224 [(.int .i64 0),(.int .i64 0),(.int .i64 0),(.int .i64 0)] fun t16=>
  st 4 t16 t15 fun _=>
  ld true 4 t2 fun t17=>
  za2 Tryz.prog (.func (.func 169) #[] #[]) #[t16,t17] (fun t18=>
  pv (faV 0 t16) fun t19=>
  ld true 4 t19 fun t20=>
  st 4 t3 t20 fun _=>
  ld true 4 t3 fun t21=>
  K t21) E)):=by kernel_rfl
abbrev yjj:QD:=zab Tryz.prog Tryz.f146.results.toList K E
abbrev zwp (p:List Nat):QD→Env→Hp→Prop:=den Tryz.prog (sel (za8 Tryz.f146) p)
abbrev zv8:=za6 k1 (blk 0 (za6 (zwp [1,1,1,1] (yjj K E)) (yjj K E)))
def zcu (j:Nat→Value):Env:=#[x0,x1,x2,x3,(j 4),v5,x6,x7,x8,x9,x10,x11,x12,x13,x14,(j 15),(j 16),(j 17),(j 18),(j 19),(j 20),(j 21),(j 22),(j 23),(j 24),(j 25),(j 26),(j 27),(j 28),(j 29),(j 30),(j 31),(j 32),(j 33),(j 34),(j 35),(j 36),(j 37),(j 38),(j 39),x40,x41,x42,x43,x44,x45,x46]
theorem yt2:zwp [] (yjj K E) #[x0,x1,U,U,U,U,U,U,U,U,U,U,U,U,U,U,U,U,U,U,U,U,U,U,U,U,U,U,U,U,U,U,U,U,U,U,U,U,U,U,U,U,U,U,U,U,U] =
 nw 55 (Value.cells x1).toList fun t1=>
 za2 Tryz.prog (.func (.func 79) #[] #[]) #[x0] (fun t2=>
 pv (unV .not t2) fun t3=>
 cnd t3 (
  K (.int .i64 30)) (
  pv (faV 0 t1) fun t4=>
  ld false 1 t4 fun t5=>
  pv (za9 t5) fun t6=>
  pv (za9 x0) fun t7=>
  pv (za1 .none .neq t6 t7) fun t8=>
  cnd t8 (
  K (.int .i64 40)) (
  lp (fun k1=>zwp [1,1,1,0,1,0,0] (zv8 K E k1)) (zcu x0 x1 U t1 x0 t2 t3 t4 t5 t6 x0 t7 t8 U U U U U U U (.int .i64 0) (jf #[U,U,U,U,(.int .i64 0)]))))) E:=by kernel_rfl
theorem zol:zwp [1,1,1,0,1,0,0] (zv8 K E k1) (zcu x0 x1 x2 x3 x6 x7 x8 x9 x10 x11 x12 x13 x14 x40 x41 x42 x43 x44 x45 x46 v5 j) =
 pv (za9 x0) fun t1=>
 pv (za1 .none .lss v5 t1) fun t2=>
 cnd t2 (
  pv (faV 0 x3) fun t3=>
  ld false 1 t3 fun t4=>
  pv (iaV none 1 t4 v5) fun t5=>
  ld false 1 t5 fun t6=>
  pv (za1 .none .lss t6 (.int .i64 0)) fun t7=>
  gdK t7 false (fun k=>pv (faV 0 x3) k) fun t8=>
  gdK t7 false (fun k=>ld false 1 t8 k) fun t9=>
  gdK t7 false (fun k=>k v5) fun t10=>
  gdK t7 false (fun k=>pv (iaV none 1 t9 t10) k) fun t11=>
  gdK t7 false (fun k=>ld false 1 t11 k) fun t12=>
  gdK t7 false (fun k=>k x0) fun t13=>
  gdK t7 false (fun k=>k v5) fun t14=>
  gdK t7 false (fun k=>pv (iaV none 2 t13 t14) k) fun t15=>
  gdK t7 false (fun k=>ld true 2 t15 k) fun t16=>
  gdK t7 false (fun k=>za2 Tryz.prog (.func (.func 171) #[] #[]) #[t16] k E) (fun t17 h18=>(isB t7 false=true→ldV h18 false 1 t11 t12)∧(isB t7 false=true→ldV h18 false 1 t8 t9)∧(
  gdK t7 false (fun k=>pv (za1 .none .geq t12 t17) k) fun t19=>
  pv (zah t7 (.bool true) t19) fun t20=>
  cnd t20 (
   K (.int .i64 40)) (
   pv (za1 .none .add v5 (.int .i64 1)) fun t21=>
   k1 (zcu x0 x1 x2 x3 x6 x7 x8 x9 x10 x11 x12 x13 x14 x40 x41 x42 x43 x44 x45 x46 t21 (jf #[U,U,U,U,(j 4),U,U,U,U,U,U,U,U,U,U,v5,x0,t1,t2,v5,t21,t3,t4,v5,t5,t6,t7,t7,t8,t9,t10,t11,t12,t13,t14,t15,t16,t17,t19,t20])))) h18)) (
  pv (faV 1 x3) fun t22=>
  ld false 1 t22 fun t23=>
  pv (faV 2 x3) fun t24=>
  ld false 1 t24 fun t25=>
  za2 Tryz.prog (.func (.func 172) #[] #[]) #[x0,t23,t25] (fun t26=>
  pv (unV .not t26) fun t27=>
  cnd t27 (
  K (.int .i64 60)) (
  K (.int .i64 0))) E):=by kernel_rfl
abbrev zl0:QD:=zab Tryz.prog Tryz.f147.results.toList K E
abbrev zha (p:List Nat):QD→Env→Hp→Prop:=den Tryz.prog (sel (za8 Tryz.f147) p)
abbrev zv6:=za6 k2 (blk 2 (za6 (zha [1,0,1,0,0,1,0,0,1] (blk 1 (za6 (zha [1,0,1,0,0,1,1] (za6 k1 (blk 0 (za6 (zha [1,1] (zl0 K E)) (zl0 K E))))) (za6 k1 (blk 0 (za6 (zha [1,1] (zl0 K E)) (zl0 K E))))))) (blk 1 (za6 (zha [1,0,1,0,0,1,1] (za6 k1 (blk 0 (za6 (zha [1,1] (zl0 K E)) (zl0 K E))))) (za6 k1 (blk 0 (za6 (zha [1,1] (zl0 K E)) (zl0 K E))))))))
abbrev ztq:=za6 k1 (blk 0 (za6 (zha [1,1] (zl0 K E)) (zl0 K E)))
def zf5 (j:Nat→Value):Env:=#[x0,x1,x2,x3,(j 4),v5,(j 6),(j 7),(j 8),(j 9),(j 10),(j 11),(j 12),(j 13),(j 14),(j 15),(j 16),(j 17),(j 18),(j 19),(j 20),(j 21),(j 22),(j 23),(j 24),(j 25),(j 26),(j 27),(j 28),(j 29),(j 30),(j 31),(j 32),(j 33),(j 34),(j 35),(j 36),(j 37),(j 38),(j 39),(j 40),(j 41),(j 42),(j 43),(j 44),(j 45),(j 46),(j 47),(j 48),(j 49),(j 50),(j 51),(j 52),(j 53),(j 54),(j 55),(j 56),(j 57),(j 58),(j 59),(j 60),(j 61),(j 62),(j 63),(j 64),(j 65),(j 66),(j 67),(j 68),(j 69),(j 70),(j 71),(j 72),(j 73),(j 74),(j 75),(j 76)]
def zbq (j:Nat→Value):Env:=#[x0,x1,x2,x3,(j 4),x5,v6,x7,x8,x9,x10,x11,x12,(j 13),(j 14),(j 15),(j 16),(j 17),(j 18),(j 19),(j 20),(j 21),(j 22),(j 23),(j 24),(j 25),(j 26),(j 27),(j 28),(j 29),(j 30),(j 31),x32,x33,x34,x35,x36,x37,x38,x39,x40,x41,x42,x43,x44,x45,x46,x47,x48,x49,x50,x51,x52,x53,x54,x55,x56,x57,x58,x59,x60,x61,x62,x63,x64,x65,x66,x67,x68,x69,x70,x71,x72,x73,x74,x75,x76]
theorem ypr:zha [] (zl0 K E) #[x0,x1,U,U,U,U,U,U,U,U,U,U,U,U,U,U,U,U,U,U,U,U,U,U,U,U,U,U,U,U,U,U,U,U,U,U,U,U,U,U,U,U,U,U,U,U,U,U,U,U,U,U,U,U,U,U,U,U,U,U,U,U,U,U,U,U,U,U,U,U,U,U,U,U,U,U,U] =
 lp (fun k1=>zha [1,0,1,0,0] (ztq K E k1)) (zf5 x0 x1 U U (.int .i64 0) (jf #[U,U,U,U,(.bool false)])):=by kernel_rfl
theorem zws:zha [1,0,1,0,0] (ztq K E k1) (zf5 x0 x1 x2 x3 v5 j) =
 pv (za9 x0) fun t1=>
 pv (za1 .none .lss v5 t1) fun t2=>
 cnd t2 (
  lp (fun k2=>zha [1,0,1,0,0,1,0,0,0,1,0,0] (zv6 K E k1 k2)) (zbq x0 x1 x2 x3 v5 v5 x0 t1 t2 (j 11) (j 12) (j 32) (j 33) (j 34) (j 35) (j 36) (j 37) (j 38) (j 39) (j 40) (j 41) (j 42) (j 43) (j 44) (j 45) (j 46) (j 47) (j 48) (j 49) (j 50) (j 51) (j 52) (j 53) (j 54) (j 55) (j 56) (j 57) (j 58) (j 59) (j 60) (j 61) (j 62) (j 63) (j 64) (j 65) (j 66) (j 67) (j 68) (j 69) (j 70) (j 71) (j 72) (j 73) (j 74) (j 75) (j 76) (.int .i64 0) (jf #[U,U,U,U,(j 4),U,U,U,U,U,U,U,U,(j 13),(j 14),(j 15),(j 16),(j 17),(j 18),(j 19),(j 20),(j 21),(j 22),(j 23),(j 24),(j 25),(j 26),(j 27),(j 28),(j 29),(j 30),(j 31)]))) (
  K (.bool true)):=by kernel_rfl
theorem zjn:zha [1,0,1,0,0,1,0,0,0,1,0,0] (zv6 K E k1 k2) (zbq x0 x1 x2 x3 x5 x7 x8 x9 x10 x11 x12 x32 x33 x34 x35 x36 x37 x38 x39 x40 x41 x42 x43 x44 x45 x46 x47 x48 x49 x50 x51 x52 x53 x54 x55 x56 x57 x58 x59 x60 x61 x62 x63 x64 x65 x66 x67 x68 x69 x70 x71 x72 x73 x74 x75 x76 v6 j) =
 pv (iaV none 5 x0 x5) fun t1=>
 pv (faV 0 t1) fun t2=>
 ld false 1 t2 fun t3=>
 pv (za9 t3) fun t4=>
 pv (za1 .none .lss v6 t4) fun t5=>
 cnd t5 (
  pv (iaV none 5 x0 x5) fun t6=>
  pv (faV 0 t6) fun t7=>
  ld false 1 t7 fun t8=>
  pv (iaV none 1 t8 v6) fun t9=>
  ld false 1 t9 fun t10=>
  pv (za1 .none .lss t10 (.int .i64 0)) fun t11=>
  cnd t11 (
  K (.bool false)) (
  pv (za1 .none .add v6 (.int .i64 1)) fun t12=>
  k2 (zbq x0 x1 x2 x3 x5 x7 x8 x9 x10 x11 x12 x32 x33 x34 x35 x36 x37 x38 x39 x40 x41 x42 x43 x44 x45 x46 x47 x48 x49 x50 x51 x52 x53 x54 x55 x56 x57 x58 x59 x60 x61 x62 x63 x64 x65 x66 x67 x68 x69 x70 x71 x72 x73 x74 x75 x76 t12 (jf #[U,U,U,U,(j 4),U,U,U,U,U,U,U,U,v6,x0,x5,t1,t2,t3,t4,t5,v6,t12,x0,x5,t6,t7,t8,v6,t9,t10,t11])))) (
  pv (iaV none 5 x0 x5) fun t13=>
  pv (faV 0 t13) fun t14=>
  ld false 1 t14 fun t15=>
  pv (za9 t15) fun t16=>
  pv (za1 .none .neq t16 x1) fun t17=>
  gdK t17 false (fun k=>k x0) fun t18=>
  gdK t17 false (fun k=>k x5) fun t19=>
  gdK t17 false (fun k=>pv (iaV none 5 t18 t19) k) fun t20=>
  gdK t17 false (fun k=>pv (faV 1 t20) k) fun t21=>
  gdK t17 false (fun k=>ld true 4 t21 k) fun t22=>
  gdK t17 false (fun k=>za2 Tryz.prog (.func (.func 173) #[] #[]) #[t22] k E) fun t23=>
  gdK t17 false (fun k=>pv (unV .not t23) k) fun t24=>
  pv (zah t17 (.bool true) t24) fun t25=>
  gdK t25 false (fun k=>k x0) fun t26=>
  gdK t25 false (fun k=>k x5) fun t27=>
  gdK t25 false (fun k=>pv (iaV none 5 t26 t27) k) fun t28=>
  gdK t25 false (fun k=>pv (faV 1 t28) k) fun t29=>
  gdK t25 false (fun k=>pv (faV 0 t29) k) fun t30=>
  gdK t25 false (fun k=>ld false 1 t30 k) fun t31=>
  gdK t25 false (fun k=>pv (za1 .none .eql t31 (.int .i64 0)) k) fun t32=>
  pv (zah t25 (.bool true) t32) fun t33=>
  gdK t33 false (fun k=>k x5) fun t34=>
  gdK t33 false (fun k=>pv (za1 .none .gtr t34 (.int .i64 0)) k) fun t35=>
  gdK t33 false (fun k=>k t35) fun t36=>
  gdK t36 true (fun k=>k x0) fun t37=>
  gdK t36 true (fun k=>k x5) fun t38=>
  gdK t36 true (fun k=>pv (za1 .none .sub t38 (.int .i64 1)) k) fun t39=>
  gdK t36 true (fun k=>pv (iaV none 5 t37 t39) k) fun t40=>
  gdK t36 true (fun k=>pv (faV 0 t40) k) fun t41=>
  gdK t36 true (fun k=>ld false 1 t41 k) fun t42=>
  gdK t36 true (fun k=>k x0) fun t43=>
  gdK t36 true (fun k=>k x5) fun t44=>
  gdK t36 true (fun k=>pv (iaV none 5 t43 t44) k) fun t45=>
  gdK t36 true (fun k=>pv (faV 0 t45) k) fun t46=>
  gdK t36 true (fun k=>ld false 1 t46 k) fun t47=>
  gdK t36 true (fun k=>za2 Tryz.prog (.func (.func 44) #[] #[]) #[t42,t47] k E) fun t48=>
  gdK t36 true (fun k=>pv (za1 .none .geq t48 (.int .i64 0)) k) fun t49=>
  gdK t33 false (fun k=>pv (zah t36 t49 (.bool false)) k) fun t50=>
  pv (zah t33 (.bool true) t50) fun t51=>
  cnd t51 (
  K (.bool false)) (
  pv (za1 .none .add x5 (.int .i64 1)) fun t52=>
  k1 (zf5 x0 x1 x2 x3 t52 (jf #[U,U,U,U,(j 4),U,v6,x7,x8,x9,x10,x5,t52,v6,x0,x5,t1,t2,t3,t4,t5,(j 21),(j 22),(j 23),(j 24),(j 25),(j 26),(j 27),(j 28),(j 29),(j 30),(j 31),x0,x5,t13,t14,t15,t16,x1,t17,t17,t18,t19,t20,t21,t22,t23,t24,t25,t25,t26,t27,t28,t29,t30,t31,t32,t33,t33,t34,t35,t36,t37,t38,t39,t40,t41,t42,t43,t44,t45,t46,t47,t48,t49,t50,t51])))):=by kernel_rfl
abbrev yig:QD:=zab Tryz.prog Tryz.f148.results.toList K E
abbrev zw4 (p:List Nat):QD→Env→Hp→Prop:=den Tryz.prog (sel (za8 Tryz.f148) p)
abbrev zvc:=za6 k1 (blk 0 (za6 (zw4 [1,1,1,1,1,1] (yig K E)) (yig K E)))
def zc7 (j:Nat→Value):Env:=#[x0,x1,x2,x3,x4,x5,x6,x7,x8,x9,v10,v11,x12,x13,x14,x15,x16,x17,x18,x19,x20,x21,x22,x23,x24,(j 25),(j 26),(j 27),(j 28),(j 29),(j 30),(j 31),(j 32),(j 33),(j 34),(j 35),(j 36),(j 37),(j 38),(j 39),(j 40),(j 41),(j 42),(j 43),(j 44),(j 45),(j 46),(j 47),x48]
theorem yqh:zw4 [] (yig K E) #[x0,x1,x2,x3,U,U,U,U,U,U,U,U,U,U,U,U,U,U,U,U,U,U,U,U,U,U,U,U,U,U,U,U,U,U,U,U,U,U,U,U,U,U,U,U,U,U,U,U,U] =
 za2 Tryz.prog (.func (.func 79) #[] #[]) #[x0] (fun t1=>
 pv (unV .not t1) fun t2=>
 cnd t2 (
  K (.tuple #[(.slice none 0 0),(.int .i64 30)])) (
  za2 Tryz.prog (.func (.func 174) #[] #[]) #[x0,x2,x3] (fun t3=>
  pv (unV .not t3) fun t4=>
  cnd t4 (
  K (.tuple #[(.slice none 0 0),(.int .i64 40)])) (
  pv (za9 x0) fun t5=>
  za2 Tryz.prog (.func (.func 147) #[] #[]) #[x1,t5] (fun t6=>
  pv (unV .not t6) fun t7=>
  cnd t7 (
   K (.tuple #[(.slice none 0 0),(.int .i64 1)])) (
   lp (fun k1=>zw4 [1,1,1,1,1,0,1,0,0] (zvc K E k1)) (zc7 x0 x1 x2 x3 U U U U (.slice none 0 0) (.int .i64 0) x0 t1 t2 x0 x2 x3 t3 t4 x1 x0 t5 t6 t7 U (.slice none 0 0) (.int .i64 0) (jf #[])))) E)) E)) E:=by kernel_rfl
theorem zm5:zw4 [1,1,1,1,1,0,1,0,0] (zvc K E k1) (zc7 x0 x1 x2 x3 x4 x5 x6 x7 x8 x9 x12 x13 x14 x15 x16 x17 x18 x19 x20 x21 x22 x23 x24 x48 v10 v11 j) =
 pv (za9 x1) fun t1=>
 pv (za1 .none .lss v11 t1) fun t2=>
 cnd t2 (
  pv (iaV none 5 x1 v11) fun t3=>
  pv (faV 0 t3) fun t4=>
  ld false 1 t4 fun t5=>
  pv (iaV none 5 x1 v11) fun t6=>
  pv (faV 1 t6) fun t7=>
  ld true 4 t7 fun t8=>
  za2 Tryz.prog (.func (.func 175) #[] #[]) #[x0,x2,x3,t5] (fun t9 h10=>(ldV h10 true 4 t7 t8)∧(
  pv (bdC #[(.slice none 0 0),(.int .i64 0),(.int .i64 0),(.int .i64 0),(.int .i64 0)] [(0,1),(1,4)] #[(0,t9),(1,t8)]) fun t11=>
  za2 Tryz.prog (.func (.func 150) #[] #[]) #[v10,t11] (fun t12=>
  pv (za1 .none .add v11 (.int .i64 1)) fun t13=>
  k1 (zc7 x0 x1 x2 x3 x4 x5 x6 x7 x8 x9 x12 x13 x14 x15 x16 x17 x18 x19 x20 x21 x22 x23 x24 x48 t12 t13 (jf #[U,U,U,U,U,U,U,U,U,U,U,U,U,U,U,U,U,U,U,U,U,U,U,U,U,v11,x1,t1,t2,v11,t13,v10,x0,x2,x3,x1,v11,t3,t4,t5,t9,x1,v11,t6,t7,t8,t11,t12]))) E) h10) E) (
  K (.tuple #[v10,(.int .i64 0)])):=by kernel_rfl
abbrev yh3:QD:=zab Tryz.prog Tryz.f149.results.toList K E
abbrev zna (p:List Nat):QD→Env→Hp→Prop:=den Tryz.prog (sel (za8 Tryz.f149) p)
abbrev zl2:=za6 k1 (blk 0 (za6 (zna [1,1,1] (yh3 K E)) (yh3 K E)))
def zdt (j:Nat→Value):Env:=#[x0,x1,x2,x3,x4,x5,x6,v7,v8,(j 9),(j 10),(j 11),(j 12),(j 13),(j 14),(j 15),(j 16),(j 17),(j 18),(j 19),(j 20),(j 21),(j 22),(j 23),(j 24),(j 25),(j 26),(j 27),(j 28),(j 29),(j 30),(j 31),(j 32),(j 33),(j 34),(j 35),(j 36),(j 37),(j 38),(j 39),(j 40),x41]
theorem yrz:zna [] (yh3 K E) #[x0,x1,x2,U,U,U,U,U,U,U,U,U,U,U,U,U,U,U,U,U,U,U,U,U,U,U,U,U,U,U,U,U,U,U,U,U,U,U,U,U,U,U] =
 lp (fun k1=>zna [1,1,0,1,0,0] (zl2 K E k1)) (zdt x0 x1 x2 U U U (.slice none 0 0) U (.slice none 0 0) (.int .i64 0) (jf #[])):=by kernel_rfl
theorem zrv:zna [1,1,0,1,0,0] (zl2 K E k1) (zdt x0 x1 x2 x3 x4 x5 x6 x41 v7 v8 j) =
 pv (za9 x0) fun t1=>
 pv (za1 .none .lss v8 t1) fun t2=>
 cnd t2 (
  pv (iaV none 5 x0 v8) fun t3=>
  pv (faV 0 t3) fun t4=>
  ld false 1 t4 fun t5=>
  za2 Tryz.prog (.func (.func 176) #[] #[]) #[x1,x2,t5] (fun t6=>
  cnd t6 (
  pv (iaV none 5 x0 v8) fun t7=>
  pv (faV 0 t7) fun t8=>
  ld false 1 t8 fun t9=>
  zbf 3 1 8 (.slice none 0 0) t9 fun t10=>
  pv (iaV none 5 x0 v8) fun t11=>
  pv (faV 1 t11) fun t12=>
  ld true 4 t12 fun t13=>
  pv (bdC #[(.slice none 0 0),(.int .i64 0),(.int .i64 0),(.int .i64 0),(.int .i64 0)] [(0,1),(1,4)] #[(0,t10),(1,t13)]) fun t14=>
  nws 110 1 (bsC #[(.slice none 0 0),(.int .i64 0),(.int .i64 0),(.int .i64 0),(.int .i64 0)] 5 1 #[(0,t14)]) fun t15=>
  zbf 110 5 56 v7 t15 fun t16=>
  zna [1,1,0,1,0,0,1,1] (zl2 K E k1) #[x0,x1,x2,x3,x4,x5,x6,t16,v8,t10,v8,x0,t1,t2,(j 14),(j 15),x1,x2,x0,v8,t3,t4,t5,t6,(.slice none 0 0),x0,v8,t7,t8,t9,t10,v7,t10,x0,v8,t11,t12,t13,t14,t15,t16,x41]) (
  zna [1,1,0,1,0,0,1,1] (zl2 K E k1) #[x0,x1,x2,x3,x4,x5,x6,v7,v8,(j 9),v8,x0,t1,t2,(j 14),(j 15),x1,x2,x0,v8,t3,t4,t5,t6,(j 24),(j 25),(j 26),(j 27),(j 28),(j 29),(j 30),(j 31),(j 32),(j 33),(j 34),(j 35),(j 36),(j 37),(j 38),(j 39),(j 40),x41])) E) (
  K v7):=by kernel_rfl
theorem ziu:zna [1,1,0,1,0,0,1,1] (zl2 K E k1) #[x0,x1,x2,x3,x4,x5,x6,x7,x8,x9,x10,x11,x12,x13,x14,x15,x16,x17,x18,x19,x20,x21,x22,x23,x24,x25,x26,x27,x28,x29,x30,x31,x32,x33,x34,x35,x36,x37,x38,x39,x40,x41] =
 pv (za1 .none .add x8 (.int .i64 1)) fun t1=>
 k1 (zdt x0 x1 x2 x3 x4 x5 x6 x41 x7 t1 (jf #[U,U,U,U,U,U,U,U,U,x9,x10,x11,x12,x13,x8,t1,x16,x17,x18,x19,x20,x21,x22,x23,x24,x25,x26,x27,x28,x29,x30,x31,x32,x33,x34,x35,x36,x37,x38,x39,x40])):=by kernel_rfl
abbrev zoj:QD:=zab Tryz.prog Tryz.f150.results.toList K E
abbrev zl6 (p:List Nat):QD→Env→Hp→Prop:=den Tryz.prog (sel (za8 Tryz.f150) p)
abbrev zsw:=za6 k1 (blk 0 (za6 (zl6 [1,1,1,1] (zoj K E)) (zoj K E)))
def zdl (j:Nat→Value):Env:=#[x0,x1,x2,x3,x4,v5,v6,x7,(j 8),(j 9),(j 10),(j 11),(j 12),(j 13),(j 14),(j 15),(j 16),(j 17),(j 18),(j 19),(j 20),(j 21),(j 22),(j 23),(j 24),(j 25),(j 26),(j 27),(j 28),(j 29),(j 30),(j 31),x32,x33,x34,x35,x36,x37,x38,x39,x40,x41,x42,x43,x44,x45,x46,x47,x48,x49,x50,x51,x52,x53,x54,x55,x56,x57,x58,x59,x60,x61,x62,x63,x64,x65,x66,x67,x68,x69,x70,x71,x72,x73]
theorem yqx:zl6 [] (zoj K E) #[x0,x1,U,U,U,U,U,U,U,U,U,U,U,U,U,U,U,U,U,U,U,U,U,U,U,U,U,U,U,U,U,U,U,U,U,U,U,U,U,U,U,U,U,U,U,U,U,U,U,U,U,U,U,U,U,U,U,U,U,U,U,U,U,U,U,U,U,U,U,U,U,U,U,U] =
 nw 110 (Value.cells x1).toList fun t1=>
 lp (fun k1=>zl6 [1,1,1,0,0,0] (zsw K E k1)) (zdl x0 x1 U t1 (.slice none 0 0) U U U U U U U U U U U U U U U U U U U U U U U U U U U U U U U U U U U U U U U U U U U (.slice none 0 0) (.int .i64 0) (jf #[])):=by kernel_rfl
theorem zrw:zl6 [1,1,1,0,0,0] (zsw K E k1) (zdl x0 x1 x2 x3 x4 x7 x32 x33 x34 x35 x36 x37 x38 x39 x40 x41 x42 x43 x44 x45 x46 x47 x48 x49 x50 x51 x52 x53 x54 x55 x56 x57 x58 x59 x60 x61 x62 x63 x64 x65 x66 x67 x68 x69 x70 x71 x72 x73 v5 v6 j) =
 pv (za9 x0) fun t1=>
 pv (za1 .none .lss v6 t1) fun t2=>
 gdK t2 true (fun k=>k x0) fun t3=>
 gdK t2 true (fun k=>k v6) fun t4=>
 gdK t2 true (fun k=>pv (iaV none 5 t3 t4) k) fun t5=>
 gdK t2 true (fun k=>pv (faV 0 t5) k) fun t6=>
 gdK t2 true (fun k=>ld false 1 t6 k) fun t7=>
 gdK t2 true (fun k=>pv (faV 0 x3) k) fun t8=>
 gdK t2 true (fun k=>ld false 1 t8 k) fun t9=>
 gdK t2 true (fun k=>za2 Tryz.prog (.func (.func 44) #[] #[]) #[t7,t9] k E) fun t10=>
 gdK t2 true (fun k=>pv (za1 .none .lss t10 (.int .i64 0)) k) fun t11=>
 pv (zah t2 t11 (.bool false)) fun t12=>
 cnd t12 (
  pv (iaV none 5 x0 v6) fun t13=>
  ld true 5 t13 fun t14=>
  nws 110 1 (bsC #[(.slice none 0 0),(.int .i64 0),(.int .i64 0),(.int .i64 0),(.int .i64 0)] 5 1 #[(0,t14)]) fun t15=>
  zbf 110 5 56 v5 t15 fun t16=>
  pv (za1 .none .add v6 (.int .i64 1)) fun t17=>
  k1 (zdl x0 x1 x2 x3 x4 x7 x32 x33 x34 x35 x36 x37 x38 x39 x40 x41 x42 x43 x44 x45 x46 x47 x48 x49 x50 x51 x52 x53 x54 x55 x56 x57 x58 x59 x60 x61 x62 x63 x64 x65 x66 x67 x68 x69 x70 x71 x72 x73 t16 t17 (jf #[U,U,U,U,U,U,U,U,v6,x0,t1,t2,t2,t3,t4,t5,t6,t7,t8,t9,t10,t11,t12,v5,x0,v6,t13,t14,t15,t16,v6,t17]))) (
  pv (faV 0 x3) fun t18=>
  ld false 1 t18 fun t19=>
  pv (faV 1 x3) fun t20=>
  ld true 4 t20 fun t21=>
  bth (
  za2 Tryz.prog (.func (.func 177) #[] #[]) #[t19] (fun t22 h23=>(ldV h23 true 4 t20 t21)∧(
   pv (bdC #[(.slice none 0 0),(.int .i64 0),(.int .i64 0),(.int .i64 0),(.int .i64 0)] [(0,1),(1,4)] #[(0,t22),(1,t21)]) fun t24=>
   nw 110 [(.slice none 0 0),(.int .i64 0),(.int .i64 0),(.int .i64 0),(.int .i64 0)] (fun t25 h26=>(ldV h26 true 4 t20 t21)∧(
   st 5 t25 t24 fun _=>
   pv (za9 x0) fun t27=>
   pv (za1 .none .lss v6 t27) fun t28=>
   gdK t28 true (fun k=>k x0) fun t29=>
   gdK t28 true (fun k=>k v6) fun t30=>
   gdK t28 true (fun k=>pv (iaV none 5 t29 t30) k) fun t31=>
   gdK t28 true (fun k=>pv (faV 0 t31) k) fun t32=>
   gdK t28 true (fun k=>ld false 1 t32 k) fun t33=>
   gdK t28 true (fun k=>pv (faV 0 x3) k) fun t34=>
   gdK t28 true (fun k=>ld false 1 t34 k) fun t35=>
   gdK t28 true (fun k=>za2 Tryz.prog (.func (.func 44) #[] #[]) #[t33,t35] k E) fun t36=>
   gdK t28 true (fun k=>pv (za1 .none .eql t36 (.int .i64 0)) k) fun t37=>
   pv (zah t28 t37 (.bool false)) fun t38=>
   cnd t38 (
    pv (iaV none 5 x0 v6) fun t39=>
    pv (faV 1 t39) fun t40=>
    ld true 4 t40 fun t41=>
    pv (faV 1 x3) fun t42=>
    ld true 4 t42 fun t43=>
    za2 Tryz.prog (.func (.func 178) #[] #[]) #[t41,t43] (fun t44=>
    pv (faV 1 t25) fun t45=>
    st 4 t45 t44 fun _=>
    pv (za1 .none .add v6 (.int .i64 1)) fun t46=>
    zl6 [1,1,1,1,1,1] (zoj K E) #[x0,x1,x2,x3,x4,v5,t46,t25,v6,x0,t1,t2,t2,t3,t4,t5,t6,t7,t8,t9,t10,t11,t12,(j 23),(j 24),(j 25),(j 26),(j 27),(j 28),(j 29),(j 30),(j 31),t18,t19,t22,t20,t21,t24,v6,x0,t27,t28,t28,t29,t30,t31,t32,t33,t34,t35,t36,t37,t38,x0,v6,t39,t40,t41,t42,t43,t44,t45,v6,t46,x64,x65,x66,x67,x68,x69,x70,x71,x72,x73]) E) (
    zl6 [1,1,1,1,1,1] (zoj K E) #[x0,x1,x2,x3,x4,v5,v6,t25,v6,x0,t1,t2,t2,t3,t4,t5,t6,t7,t8,t9,t10,t11,t12,(j 23),(j 24),(j 25),(j 26),(j 27),(j 28),(j 29),(j 30),(j 31),t18,t19,t22,t20,t21,t24,v6,x0,t27,t28,t28,t29,t30,t31,t32,t33,t34,t35,t36,t37,t38,x53,x54,x55,x56,x57,x58,x59,x60,x61,x62,x63,x64,x65,x66,x67,x68,x69,x70,x71,x72,x73])) h26)) h23) E) (
  nw 110 [(.slice none 0 0),(.int .i64 0),(.int .i64 0),(.int .i64 0),(.int .i64 0)] (fun t47 h48=>(ldV h48 true 4 t20 t21)∧(ldV h48 false 1 t18 t19)∧(
   za2 Tryz.prog (.func (.func 177) #[] #[]) #[t19] (fun t49 h50=>(ldV h50 true 4 t20 t21)∧(
   pv (bdC #[(.slice none 0 0),(.int .i64 0),(.int .i64 0),(.int .i64 0),(.int .i64 0)] [(0,1),(1,4)] #[(0,t49),(1,t21)]) fun t51=>
   st 5 t47 t51 fun _=>
   pv (za9 x0) fun t52=>
   pv (za1 .none .lss v6 t52) fun t53=>
   gdK t53 true (fun k=>k x0) fun t54=>
   gdK t53 true (fun k=>k v6) fun t55=>
   gdK t53 true (fun k=>pv (iaV none 5 t54 t55) k) fun t56=>
   gdK t53 true (fun k=>pv (faV 0 t56) k) fun t57=>
   gdK t53 true (fun k=>ld false 1 t57 k) fun t58=>
   gdK t53 true (fun k=>pv (faV 0 x3) k) fun t59=>
   gdK t53 true (fun k=>ld false 1 t59 k) fun t60=>
   gdK t53 true (fun k=>za2 Tryz.prog (.func (.func 44) #[] #[]) #[t58,t60] k E) fun t61=>
   gdK t53 true (fun k=>pv (za1 .none .eql t61 (.int .i64 0)) k) fun t62=>
   pv (zah t53 t62 (.bool false)) fun t63=>
   cnd t63 (
    pv (iaV none 5 x0 v6) fun t64=>
    pv (faV 1 t64) fun t65=>
    ld true 4 t65 fun t66=>
    pv (faV 1 x3) fun t67=>
    ld true 4 t67 fun t68=>
    za2 Tryz.prog (.func (.func 178) #[] #[]) #[t66,t68] (fun t69=>
    pv (faV 1 t47) fun t70=>
    st 4 t70 t69 fun _=>
    pv (za1 .none .add v6 (.int .i64 1)) fun t71=>
    zl6 [1,1,1,1,1,1] (zoj K E) #[x0,x1,x2,x3,x4,v5,t71,t47,v6,x0,t1,t2,t2,t3,t4,t5,t6,t7,t8,t9,t10,t11,t12,(j 23),(j 24),(j 25),(j 26),(j 27),(j 28),(j 29),(j 30),(j 31),t18,t19,t49,t20,t21,t51,v6,x0,t52,t53,t53,t54,t55,t56,t57,t58,t59,t60,t61,t62,t63,x0,v6,t64,t65,t66,t67,t68,t69,t70,v6,t71,x64,x65,x66,x67,x68,x69,x70,x71,x72,x73]) E) (
    zl6 [1,1,1,1,1,1] (zoj K E) #[x0,x1,x2,x3,x4,v5,v6,t47,v6,x0,t1,t2,t2,t3,t4,t5,t6,t7,t8,t9,t10,t11,t12,(j 23),(j 24),(j 25),(j 26),(j 27),(j 28),(j 29),(j 30),(j 31),t18,t19,t49,t20,t21,t51,v6,x0,t52,t53,t53,t54,t55,t56,t57,t58,t59,t60,t61,t62,t63,x53,x54,x55,x56,x57,x58,x59,x60,x61,x62,x63,x64,x65,x66,x67,x68,x69,x70,x71,x72,x73])) h50) E) h48))):=by kernel_rfl
theorem zi9:zl6 [1,1,1,1,1,1] (zoj K E) #[x0,x1,x2,x3,x4,x5,x6,x7,x8,x9,x10,x11,x12,x13,x14,x15,x16,x17,x18,x19,x20,x21,x22,x23,x24,x25,x26,x27,x28,x29,x30,x31,x32,x33,x34,x35,x36,x37,x38,x39,x40,x41,x42,x43,x44,x45,x46,x47,x48,x49,x50,x51,x52,x53,x54,x55,x56,x57,x58,x59,x60,x61,x62,x63,x64,x65,x66,x67,x68,x69,x70,x71,x72,x73] =
 ld true 5 x7 fun t1=>
 nws 110 1 (bsC #[(.slice none 0 0),(.int .i64 0),(.int .i64 0),(.int .i64 0),(.int .i64 0)] 5 1 #[(0,t1)]) fun t2=>
 zbf 110 5 56 x5 t2 fun t3=>
 pv (slV 5 x0 (some x6) none none) fun t4=>
 zbf 110 5 56 t3 t4 fun t5=>
 K t5:=by kernel_rfl
abbrev yq5:QD:=zab Tryz.prog Tryz.f151.results.toList K E
abbrev ype (p:List Nat):QD→Env→Hp→Prop:=den Tryz.prog (sel (za8 Tryz.f151) p)
theorem yrx:ype [] (yq5 K E) #[x0,U,U,U,U,U,U] =
 nw 108 [(.int .i64 0),(.int .i64 0),(.int .i64 0),(.int .i64 0)] fun t1=>
 pv (bdC #[(.int .i64 0),(.int .i64 0),(.int .i64 0),(.int .i64 0)] [(0,1),(1,1),(2,1),(3,1)] #[(0,(.int .i64 1)),(1,x0),(2,x0),(3,x0)]) fun t2=>
 st 4 t1 t2 fun _=>
 ld true 4 t1 fun t3=>
 K t3:=by kernel_rfl
abbrev zqw:QD:=zab Tryz.prog Tryz.f152.results.toList K E
abbrev zqy (p:List Nat):QD→Env→Hp→Prop:=den Tryz.prog (sel (za8 Tryz.f152) p)
theorem yr7:zqy [] (zqw K E) #[x0,x1,U,U,U,U,U,U,U,U,U,U,U,U,U,U,U,U,U,U,U,U,U,U,U,U,U] =
 pv (za1 .none .lss x1 (.int .i64 0)) fun t1=>
 cnd t1 (
  pv (yb6 9 (.string ⟨#[99,97,110,110,111,116,32,98,101,32,110,101,103,97,116,105,118,101]⟩)) fun t2=>
  pnc t2 E fun _=>
  zqy [1,1] (zqw K E) #[x0,x1,U,U,(.slice none 0 0),x1,t1,t2,U,U,U,U,U,U,U,U,U,U,U,U,U,U,U,U,U,U,U]) (
  zqy [1,1] (zqw K E) #[x0,x1,U,U,(.slice none 0 0),x1,t1,U,U,U,U,U,U,U,U,U,U,U,U,U,U,U,U,U,U,U,U]):=by kernel_rfl
theorem yhw:zqy [1,1] (zqw K E) #[x0,x1,x2,x3,x4,x5,x6,x7,x8,x9,x10,x11,x12,x13,x14,x15,x16,x17,x18,x19,x20,x21,x22,x23,x24,x25,x26] =
 pv (zr0 x0) fun t1=>
 pv (za9 x0) fun t2=>
 pv (za1 .none .sub t1 t2) fun t3=>
 pv (za1 .none .sub x1 t3) fun t4=>
 pv (za1 .none .gtr t4 (.int .i64 0)) fun t5=>
 cnd t5 (
  pv (zr0 x0) fun t6=>
  pv (slV 2 x0 none (some t6) none) fun t7=>
  yd7 90 [(.slice none 0 0),(.int .i64 0)] 2 32 t7 t4 fun t8=>
  pv (za9 x0) fun t9=>
  pv (slV 2 t8 none (some t9) none) fun t10=>
  zqy [1,1,1] (zqw K E) #[t10,t4,x2,x3,x4,x5,x6,x7,x1,x0,t1,x0,t2,t3,t4,t4,t5,x0,x0,t6,t7,t4,t8,x0,t9,t10,x26]) (
  zqy [1,1,1] (zqw K E) #[x0,t4,x2,x3,x4,x5,x6,x7,x1,x0,t1,x0,t2,t3,t4,t4,t5,x17,x18,x19,x20,x21,x22,x23,x24,x25,x26]):=by kernel_rfl
theorem zuz:zqy [1,1,1] (zqw K E) #[x0,x1,x2,x3,x4,x5,x6,x7,x8,x9,x10,x11,x12,x13,x14,x15,x16,x17,x18,x19,x20,x21,x22,x23,x24,x25,x26] =
 K x0:=by kernel_rfl
abbrev ya2:QD:=zab Tryz.prog Tryz.f160.results.toList K E
abbrev zkz (p:List Nat):QD→Env→Hp→Prop:=den Tryz.prog (sel (za8 Tryz.f160) p)
abbrev zsi:=za6 k1 (blk 2 (za6 (zkz [1,1,1] (ya2 K E)) (ya2 K E)))
abbrev zt0:=za6 k1 (blk 0 (za6 (zkz [1,1] (ya2 K E)) (ya2 K E)))
def zet (j:Nat→Value):Env:=#[x0,x1,x2,x3,(j 4),x5,(j 6),x7,x8,x9,v10,(j 11),(j 12),(j 13),(j 14),(j 15),(j 16),(j 17),(j 18),(j 19),(j 20),(j 21),x22,x23,x24,x25,x26,x27,x28,x29,x30,x31,x32,x33]
def zdj (j:Nat→Value):Env:=#[x0,x1,x2,x3,(j 4),x5,x6,(j 7),x8,x9,x10,x11,x12,x13,x14,x15,x16,x17,x18,x19,x20,x21,x22,x23,x24,x25,v26,(j 27),(j 28),(j 29),(j 30),(j 31),(j 32),(j 33)]
theorem yt3:zkz [] (ya2 K E) #[x0,x1,U,U,U,U,U,U,U,U,U,U,U,U,U,U,U,U,U,U,U,U,U,U,U,U,U,U,U,U,U,U,U,U] =
 pv (za9 x1) fun t1=>
 lp (fun k1=>zkz [1,0,1,0,0] (zt0 K E k1)) (zet x0 x1 U U U U x1 t1 U U U U U U U U U U U U (.int .i64 0) (jf #[U,U,U,U,(.bool false)])):=by kernel_rfl
theorem zw1:zkz [1,0,1,0,0] (zt0 K E k1) (zet x0 x1 x2 x3 x5 x7 x8 x9 x22 x23 x24 x25 x26 x27 x28 x29 x30 x31 x32 x33 v10 j) =
 pv (za1 .none .lss v10 x9) fun t1=>
 cnd t1 (
  pv (iaV none 1 x8 v10) fun t2=>
  ld false 1 t2 fun t3=>
  pv (za9 t3) fun t4=>
  pv (iaV none 1 x1 (.int .i64 0)) fun t5=>
  ld false 1 t5 fun t6=>
  pv (za9 t6) fun t7=>
  pv (za1 .none .neq t4 t7) fun t8=>
  cnd t8 (
  K (.bool false)) (
  pv (za1 .none .add v10 (.int .i64 1)) fun t9=>
  k1 (zet x0 x1 x2 x3 x5 x7 x8 x9 x22 x23 x24 x25 x26 x27 x28 x29 x30 x31 x32 x33 t9 (jf #[U,U,U,U,(j 4),U,t3,U,U,U,U,t1,t2,t3,t3,t4,x1,t5,t6,t7,t8,t9])))) (
  pv (iaV none 1 x1 (.int .i64 0)) fun t10=>
  ld false 1 t10 fun t11=>
  pv (za9 t11) fun t12=>
  lp (fun k1=>zkz [1,1,0,1,0,0] (zsi K E k1)) (zdj x0 x1 x2 x3 x5 (j 6) x8 x9 v10 t1 (j 12) (j 13) (j 14) (j 15) (j 16) (j 17) (j 18) (j 19) (j 20) (j 21) x1 t10 t11 t12 (.int .i64 0) (jf #[U,U,U,U,(j 4),U,U,x7,U,U,U,U,U,U,U,U,U,U,U,U,U,U,U,U,U,U,U,x27,x28,x29,x30,x31,x32,x33]))):=by kernel_rfl
theorem zqx:zkz [1,1,0,1,0,0] (zsi K E k1) (zdj x0 x1 x2 x3 x5 x6 x8 x9 x10 x11 x12 x13 x14 x15 x16 x17 x18 x19 x20 x21 x22 x23 x24 x25 v26 j) =
 pv (za1 .none .lss v26 x25) fun t1=>
 cnd t1 (
  za2 Tryz.prog x0 #[v26] (fun t2=>
  pv (unV .not t2) fun t3=>
  cnd t3 (
  K (.bool false)) (
  pv (za1 .none .add v26 (.int .i64 1)) fun t4=>
  k1 (zdj x0 x1 x2 x3 x5 x6 x8 x9 x10 x11 x12 x13 x14 x15 x16 x17 x18 x19 x20 x21 x22 x23 x24 x25 t4 (jf #[U,U,U,U,(j 4),U,U,v26,U,U,U,U,U,U,U,U,U,U,U,U,U,U,U,U,U,U,U,t1,v26,x0,v26,t2,t3,t4])))) E) (
  K (.bool true)):=by kernel_rfl
abbrev ypf:QD:=zab Tryz.prog Tryz.f161.results.toList K E
abbrev yoj (p:List Nat):QD→Env→Hp→Prop:=den Tryz.prog (sel (za8 Tryz.f161) p)
theorem yrr:yoj [] (ypf K E) #[x0,x1,x2,x3,U,U,U,U,U,U,U,U,U,U,U,U,U,U,U,U,U,U,U,U,U,U,U,U,U,U,U,U,U,U] =
 ld false 1 x1 fun t1=>
 pv (iaV none 1 t1 x0) fun t2=>
 ld false 1 t2 fun t3=>
 pv (za1 .none .geq t3 (.int .i64 0)) fun t4=>
 gdK t4 true (fun k=>ld false 1 x1 k) fun t5=>
 gdK t4 true (fun k=>k x0) fun t6=>
 gdK t4 true (fun k=>pv (iaV none 1 t5 t6) k) fun t7=>
 gdK t4 true (fun k=>ld false 1 t7 k) fun t8=>
 gdK t4 true (fun k=>ld false 1 x2 k) fun t9=>
 gdK t4 true (fun k=>k x0) fun t10=>
 gdK t4 true (fun k=>pv (iaV none 1 t9 t10) k) fun t11=>
 gdK t4 true (fun k=>ld false 1 t11 k) fun t12=>
 gdK t4 true (fun k=>pv (za1 .none .leq t8 t12) k) fun t13=>
 pv (zah t4 t13 (.bool false)) fun t14=>
 gdK t14 true (fun k=>ld false 1 x2 k) fun t15=>
 gdK t14 true (fun k=>k x0) fun t16=>
 gdK t14 true (fun k=>pv (iaV none 1 t15 t16) k) fun t17=>
 gdK t14 true (fun k=>ld false 1 t17 k) fun t18=>
 gdK t14 true (fun k=>ld false 1 x3 k) fun t19=>
 gdK t14 true (fun k=>k x0) fun t20=>
 gdK t14 true (fun k=>pv (iaV none 2 t19 t20) k) fun t21=>
 gdK t14 true (fun k=>pv (faV 0 t21) k) fun t22=>
 gdK t14 true (fun k=>ld false 1 t22 k) fun t23=>
 gdK t14 true (fun k=>pv (za1 .none .leq t18 t23) k) fun t24=>
 pv (zah t14 t24 (.bool false)) fun t25=>
 K t25:=by kernel_rfl
abbrev yt4:QD:=zab Tryz.prog Tryz.f162.results.toList K E
abbrev yrv (p:List Nat):QD→Env→Hp→Prop:=den Tryz.prog (sel (za8 Tryz.f162) p)
theorem yqi:yrv [] (yt4 K E) #[x0,U,U,U,U,U,U,U,U,U,U,U,U,U,U,U,U,U,U,U,U,U,U,U] =
 nw 108 (Value.cells x0).toList fun t1=>
 pv (faV 0 t1) fun t2=>
 ld false 1 t2 fun t3=>
 pv (za1 .none .leq t3 (.int .i64 0)) fun t4=>
 cnd t4 (
  ld true 4 t1 fun t5=>
  pv (bdC #[(.int .i64 0),(.int .i64 0),(.int .i64 0),(.int .i64 0)] [(0,1),(1,1),(2,1),(3,1)] #[]) fun t6=>
  pv (ze0 .eql [0,0,0,0] t5 t6) fun t7=>
  K t7) (
  pv (faV 0 t1) fun t8=>
  ld false 1 t8 fun t9=>
  pv (za1 .none .eql t9 (.int .i64 1)) fun t10=>
  cnd t10 (
  ld true 4 t1 fun t11=>
  pv (faV 1 t1) fun t12=>
  ld false 1 t12 fun t13=>
  za2 Tryz.prog (.func (.func 110) #[] #[]) #[t13] (fun t14 h15=>(ldV h15 true 4 t1 t11)∧(
   pv (ze0 .eql [0,0,0,0] t11 t14) fun t16=>
   K t16) h15) E) (
  pv (faV 2 t1) fun t17=>
  ld false 1 t17 fun t18=>
  pv (faV 3 t1) fun t19=>
  ld false 1 t19 fun t20=>
  pv (za1 .none .leq t18 t20) fun t21=>
  K t21)):=by kernel_rfl
abbrev yrn:QD:=zab Tryz.prog Tryz.f163.results.toList K E
abbrev ypy (p:List Nat):QD→Env→Hp→Prop:=den Tryz.prog (sel (za8 Tryz.f163) p)
theorem yrm:ypy [] (yrn K E) #[x0,x1,U,U,U,U,U,U,U] =
 za2 Tryz.prog (.func (.func 181) #[] #[]) #[x0,x1] (fun t1=>
 pv (za1 .none .geq t1 (.int .i64 0)) fun t2=>
 K t2) E:=by kernel_rfl
end
section
variable {K:zae} {E:zat} {k1 k2 k3 k4 k5:Env→Hp→Prop} {σ:Type} {x0 x1 x2 x3 x4 x5 x6 x7 x8 x9 x10 x11 x12 x13 x14 x15 x16 x17 x18 x19 x20 x21 x22 x23 x24 x25 x26 x27 x28 x29 x30 x31 x32 x33 x34 x35 x36 x37 x38 x39 x40 x41 x42 x43 x44 x45 x46 x47 x48 x49 x50 x51 x52 x53 x54 x55 x56 x57 x58 x59 x60 x61 x62 x63 x64 x65 x66 x67 x68 x69 x70 x71 x72 x73 x74 x75 x76 v0 v1 v2 v3 v4 v5 v6 v7 v8 v9 v10 v11 v12 v13 v14 v15 v16 v17 v18 v19 v20 v21 v22 v23 v24 v25 v26 v27 v28 v29 v30 v31 v32 v33 v34 v35 v36 v37 v38 v39 v40 v41 v42 v43 v44 v45 v46 v47 v48 v49 v50 v51 v52 v53 v54 v55 v56 v57 v58 v59 v60 v61 v62 v63 v64 v65 v66 v67 v68 v69 v70 v71 v72 v73 v74 v75 v76:Value} {h:Hp} {j:Nat→Value}
theorem zp2 (f41:σ→Value) (I:σ→Hp→Prop) (μ:σ→Nat) (s0:σ) (e41:v41=f41 s0) (h0:h.wf→∃ h',h.wk h'∧I s0 h')
 (round:∀ (k1:Env→Hp→Prop) (s:σ) (j:Nat→Value) (h:Hp),I s h→h.wf→(∀ s' j' h',μ s'<μ s→(h'.wf→∃ h'',h'.wk h''∧I s' h'')→k1 (zcx x0 x1 x2 x3 x4 x5 x6 x7 x8 x9 x12 x13 x14 x15 x16 x17 x18 x19 x20 x21 x22 x23 x24 x25 x26 x27 x28 x29 x30 x31 x32 x33 x34 x35 x36 x37 x38 x39 x40 x64 (f41 s') j') h')→zwi [1,1,1,0,1,0,0] (zu1 K E k1) (zcx x0 x1 x2 x3 x4 x5 x6 x7 x8 x9 x12 x13 x14 x15 x16 x17 x18 x19 x20 x21 x22 x23 x24 x25 x26 x27 x28 x29 x30 x31 x32 x33 x34 x35 x36 x37 x38 x39 x40 x64 (f41 s) j) h) :
 lp (fun k1=>zwi [1,1,1,0,1,0,0] (zu1 K E k1)) (zcx x0 x1 x2 x3 x4 x5 x6 x7 x8 x9 x12 x13 x14 x15 x16 x17 x18 x19 x20 x21 x22 x23 x24 x25 x26 x27 x28 x29 x30 x31 x32 x33 x34 x35 x36 x37 x38 x39 x40 x64 v41 j) h:=by
 subst e41
 exact zaj (fun s j=>zcx x0 x1 x2 x3 x4 x5 x6 x7 x8 x9 x12 x13 x14 x15 x16 x17 x18 x19 x20 x21 x22 x23 x24 x25 x26 x27 x28 x29 x30 x31 x32 x33 x34 x35 x36 x37 x38 x39 x40 x64 (f41 s) j) I μ round s0 j h0
theorem zqv (f3 f8:σ→Value) (I:σ→Hp→Prop) (μ:σ→Nat) (s0:σ) (e3:v3=f3 s0) (e8:v8=f8 s0) (h0:h.wf→∃ h',h.wk h'∧I s0 h')
 (round:∀ (k1:Env→Hp→Prop) (s:σ) (j:Nat→Value) (h:Hp),I s h→h.wf→(∀ s' j' h',μ s'<μ s→(h'.wf→∃ h'',h'.wk h''∧I s' h'')→k1 (zds x0 x1 x2 x4 x6 x7 x19 x20 (f3 s') (f8 s') j') h')→zwh [1,1,0,1,0,0] (zv7 K E k1) (zds x0 x1 x2 x4 x6 x7 x19 x20 (f3 s) (f8 s) j) h) :
 lp (fun k1=>zwh [1,1,0,1,0,0] (zv7 K E k1)) (zds x0 x1 x2 x4 x6 x7 x19 x20 v3 v8 j) h:=by
 subst e3
 subst e8
 exact zaj (fun s j=>zds x0 x1 x2 x4 x6 x7 x19 x20 (f3 s) (f8 s) j) I μ round s0 j h0
theorem zot (f5:σ→Value) (I:σ→Hp→Prop) (μ:σ→Nat) (s0:σ) (e5:v5=f5 s0) (h0:h.wf→∃ h',h.wk h'∧I s0 h')
 (round:∀ (k1:Env→Hp→Prop) (s:σ) (j:Nat→Value) (h:Hp),I s h→h.wf→(∀ s' j' h',μ s'<μ s→(h'.wf→∃ h'',h'.wk h''∧I s' h'')→k1 (zcu x0 x1 x2 x3 x6 x7 x8 x9 x10 x11 x12 x13 x14 x40 x41 x42 x43 x44 x45 x46 (f5 s') j') h')→zwp [1,1,1,0,1,0,0] (zv8 K E k1) (zcu x0 x1 x2 x3 x6 x7 x8 x9 x10 x11 x12 x13 x14 x40 x41 x42 x43 x44 x45 x46 (f5 s) j) h) :
 lp (fun k1=>zwp [1,1,1,0,1,0,0] (zv8 K E k1)) (zcu x0 x1 x2 x3 x6 x7 x8 x9 x10 x11 x12 x13 x14 x40 x41 x42 x43 x44 x45 x46 v5 j) h:=by
 subst e5
 exact zaj (fun s j=>zcu x0 x1 x2 x3 x6 x7 x8 x9 x10 x11 x12 x13 x14 x40 x41 x42 x43 x44 x45 x46 (f5 s) j) I μ round s0 j h0
theorem zvr (f5:σ→Value) (I:σ→Hp→Prop) (μ:σ→Nat) (s0:σ) (e5:v5=f5 s0) (h0:h.wf→∃ h',h.wk h'∧I s0 h')
 (round:∀ (k1:Env→Hp→Prop) (s:σ) (j:Nat→Value) (h:Hp),I s h→h.wf→(∀ s' j' h',μ s'<μ s→(h'.wf→∃ h'',h'.wk h''∧I s' h'')→k1 (zf5 x0 x1 x2 x3 (f5 s') j') h')→zha [1,0,1,0,0] (ztq K E k1) (zf5 x0 x1 x2 x3 (f5 s) j) h) :
 lp (fun k1=>zha [1,0,1,0,0] (ztq K E k1)) (zf5 x0 x1 x2 x3 v5 j) h:=by
 subst e5
 exact zaj (fun s j=>zf5 x0 x1 x2 x3 (f5 s) j) I μ round s0 j h0
theorem zjk (f6:σ→Value) (I:σ→Hp→Prop) (μ:σ→Nat) (s0:σ) (e6:v6=f6 s0) (h0:h.wf→∃ h',h.wk h'∧I s0 h')
 (round:∀ (k2:Env→Hp→Prop) (s:σ) (j:Nat→Value) (h:Hp),I s h→h.wf→(∀ s' j' h',μ s'<μ s→(h'.wf→∃ h'',h'.wk h''∧I s' h'')→k2 (zbq x0 x1 x2 x3 x5 x7 x8 x9 x10 x11 x12 x32 x33 x34 x35 x36 x37 x38 x39 x40 x41 x42 x43 x44 x45 x46 x47 x48 x49 x50 x51 x52 x53 x54 x55 x56 x57 x58 x59 x60 x61 x62 x63 x64 x65 x66 x67 x68 x69 x70 x71 x72 x73 x74 x75 x76 (f6 s') j') h')→zha [1,0,1,0,0,1,0,0,0,1,0,0] (zv6 K E k1 k2) (zbq x0 x1 x2 x3 x5 x7 x8 x9 x10 x11 x12 x32 x33 x34 x35 x36 x37 x38 x39 x40 x41 x42 x43 x44 x45 x46 x47 x48 x49 x50 x51 x52 x53 x54 x55 x56 x57 x58 x59 x60 x61 x62 x63 x64 x65 x66 x67 x68 x69 x70 x71 x72 x73 x74 x75 x76 (f6 s) j) h) :
 lp (fun k2=>zha [1,0,1,0,0,1,0,0,0,1,0,0] (zv6 K E k1 k2)) (zbq x0 x1 x2 x3 x5 x7 x8 x9 x10 x11 x12 x32 x33 x34 x35 x36 x37 x38 x39 x40 x41 x42 x43 x44 x45 x46 x47 x48 x49 x50 x51 x52 x53 x54 x55 x56 x57 x58 x59 x60 x61 x62 x63 x64 x65 x66 x67 x68 x69 x70 x71 x72 x73 x74 x75 x76 v6 j) h:=by
 subst e6
 exact zaj (fun s j=>zbq x0 x1 x2 x3 x5 x7 x8 x9 x10 x11 x12 x32 x33 x34 x35 x36 x37 x38 x39 x40 x41 x42 x43 x44 x45 x46 x47 x48 x49 x50 x51 x52 x53 x54 x55 x56 x57 x58 x59 x60 x61 x62 x63 x64 x65 x66 x67 x68 x69 x70 x71 x72 x73 x74 x75 x76 (f6 s) j) I μ round s0 j h0
theorem zly (f10 f11:σ→Value) (I:σ→Hp→Prop) (μ:σ→Nat) (s0:σ) (e10:v10=f10 s0) (e11:v11=f11 s0) (h0:h.wf→∃ h',h.wk h'∧I s0 h')
 (round:∀ (k1:Env→Hp→Prop) (s:σ) (j:Nat→Value) (h:Hp),I s h→h.wf→(∀ s' j' h',μ s'<μ s→(h'.wf→∃ h'',h'.wk h''∧I s' h'')→k1 (zc7 x0 x1 x2 x3 x4 x5 x6 x7 x8 x9 x12 x13 x14 x15 x16 x17 x18 x19 x20 x21 x22 x23 x24 x48 (f10 s') (f11 s') j') h')→zw4 [1,1,1,1,1,0,1,0,0] (zvc K E k1) (zc7 x0 x1 x2 x3 x4 x5 x6 x7 x8 x9 x12 x13 x14 x15 x16 x17 x18 x19 x20 x21 x22 x23 x24 x48 (f10 s) (f11 s) j) h) :
 lp (fun k1=>zw4 [1,1,1,1,1,0,1,0,0] (zvc K E k1)) (zc7 x0 x1 x2 x3 x4 x5 x6 x7 x8 x9 x12 x13 x14 x15 x16 x17 x18 x19 x20 x21 x22 x23 x24 x48 v10 v11 j) h:=by
 subst e10
 subst e11
 exact zaj (fun s j=>zc7 x0 x1 x2 x3 x4 x5 x6 x7 x8 x9 x12 x13 x14 x15 x16 x17 x18 x19 x20 x21 x22 x23 x24 x48 (f10 s) (f11 s) j) I μ round s0 j h0
theorem zrc (f7 f8:σ→Value) (I:σ→Hp→Prop) (μ:σ→Nat) (s0:σ) (e7:v7=f7 s0) (e8:v8=f8 s0) (h0:h.wf→∃ h',h.wk h'∧I s0 h')
 (round:∀ (k1:Env→Hp→Prop) (s:σ) (j:Nat→Value) (h:Hp),I s h→h.wf→(∀ s' j' h',μ s'<μ s→(h'.wf→∃ h'',h'.wk h''∧I s' h'')→k1 (zdt x0 x1 x2 x3 x4 x5 x6 x41 (f7 s') (f8 s') j') h')→zna [1,1,0,1,0,0] (zl2 K E k1) (zdt x0 x1 x2 x3 x4 x5 x6 x41 (f7 s) (f8 s) j) h) :
 lp (fun k1=>zna [1,1,0,1,0,0] (zl2 K E k1)) (zdt x0 x1 x2 x3 x4 x5 x6 x41 v7 v8 j) h:=by
 subst e7
 subst e8
 exact zaj (fun s j=>zdt x0 x1 x2 x3 x4 x5 x6 x41 (f7 s) (f8 s) j) I μ round s0 j h0
theorem zr9 (f5 f6:σ→Value) (I:σ→Hp→Prop) (μ:σ→Nat) (s0:σ) (e5:v5=f5 s0) (e6:v6=f6 s0) (h0:h.wf→∃ h',h.wk h'∧I s0 h')
 (round:∀ (k1:Env→Hp→Prop) (s:σ) (j:Nat→Value) (h:Hp),I s h→h.wf→(∀ s' j' h',μ s'<μ s→(h'.wf→∃ h'',h'.wk h''∧I s' h'')→k1 (zdl x0 x1 x2 x3 x4 x7 x32 x33 x34 x35 x36 x37 x38 x39 x40 x41 x42 x43 x44 x45 x46 x47 x48 x49 x50 x51 x52 x53 x54 x55 x56 x57 x58 x59 x60 x61 x62 x63 x64 x65 x66 x67 x68 x69 x70 x71 x72 x73 (f5 s') (f6 s') j') h')→zl6 [1,1,1,0,0,0] (zsw K E k1) (zdl x0 x1 x2 x3 x4 x7 x32 x33 x34 x35 x36 x37 x38 x39 x40 x41 x42 x43 x44 x45 x46 x47 x48 x49 x50 x51 x52 x53 x54 x55 x56 x57 x58 x59 x60 x61 x62 x63 x64 x65 x66 x67 x68 x69 x70 x71 x72 x73 (f5 s) (f6 s) j) h) :
 lp (fun k1=>zl6 [1,1,1,0,0,0] (zsw K E k1)) (zdl x0 x1 x2 x3 x4 x7 x32 x33 x34 x35 x36 x37 x38 x39 x40 x41 x42 x43 x44 x45 x46 x47 x48 x49 x50 x51 x52 x53 x54 x55 x56 x57 x58 x59 x60 x61 x62 x63 x64 x65 x66 x67 x68 x69 x70 x71 x72 x73 v5 v6 j) h:=by
 subst e5
 subst e6
 exact zaj (fun s j=>zdl x0 x1 x2 x3 x4 x7 x32 x33 x34 x35 x36 x37 x38 x39 x40 x41 x42 x43 x44 x45 x46 x47 x48 x49 x50 x51 x52 x53 x54 x55 x56 x57 x58 x59 x60 x61 x62 x63 x64 x65 x66 x67 x68 x69 x70 x71 x72 x73 (f5 s) (f6 s) j) I μ round s0 j h0
theorem zw9 (f10:σ→Value) (I:σ→Hp→Prop) (μ:σ→Nat) (s0:σ) (e10:v10=f10 s0) (h0:h.wf→∃ h',h.wk h'∧I s0 h')
 (round:∀ (k1:Env→Hp→Prop) (s:σ) (j:Nat→Value) (h:Hp),I s h→h.wf→(∀ s' j' h',μ s'<μ s→(h'.wf→∃ h'',h'.wk h''∧I s' h'')→k1 (zet x0 x1 x2 x3 x5 x7 x8 x9 x22 x23 x24 x25 x26 x27 x28 x29 x30 x31 x32 x33 (f10 s') j') h')→zkz [1,0,1,0,0] (zt0 K E k1) (zet x0 x1 x2 x3 x5 x7 x8 x9 x22 x23 x24 x25 x26 x27 x28 x29 x30 x31 x32 x33 (f10 s) j) h) :
 lp (fun k1=>zkz [1,0,1,0,0] (zt0 K E k1)) (zet x0 x1 x2 x3 x5 x7 x8 x9 x22 x23 x24 x25 x26 x27 x28 x29 x30 x31 x32 x33 v10 j) h:=by
 subst e10
 exact zaj (fun s j=>zet x0 x1 x2 x3 x5 x7 x8 x9 x22 x23 x24 x25 x26 x27 x28 x29 x30 x31 x32 x33 (f10 s) j) I μ round s0 j h0
theorem zs1 (f26:σ→Value) (I:σ→Hp→Prop) (μ:σ→Nat) (s0:σ) (e26:v26=f26 s0) (h0:h.wf→∃ h',h.wk h'∧I s0 h')
 (round:∀ (k1:Env→Hp→Prop) (s:σ) (j:Nat→Value) (h:Hp),I s h→h.wf→(∀ s' j' h',μ s'<μ s→(h'.wf→∃ h'',h'.wk h''∧I s' h'')→k1 (zdj x0 x1 x2 x3 x5 x6 x8 x9 x10 x11 x12 x13 x14 x15 x16 x17 x18 x19 x20 x21 x22 x23 x24 x25 (f26 s') j') h')→zkz [1,1,0,1,0,0] (zsi K E k1) (zdj x0 x1 x2 x3 x5 x6 x8 x9 x10 x11 x12 x13 x14 x15 x16 x17 x18 x19 x20 x21 x22 x23 x24 x25 (f26 s) j) h) :
 lp (fun k1=>zkz [1,1,0,1,0,0] (zsi K E k1)) (zdj x0 x1 x2 x3 x5 x6 x8 x9 x10 x11 x12 x13 x14 x15 x16 x17 x18 x19 x20 x21 x22 x23 x24 x25 v26 j) h:=by
 subst e26
 exact zaj (fun s j=>zdj x0 x1 x2 x3 x5 x6 x8 x9 x10 x11 x12 x13 x14 x15 x16 x17 x18 x19 x20 x21 x22 x23 x24 x25 (f26 s) j) I μ round s0 j h0
end
section
variable (K:zae) (E:zat) (k1 k2 k3 k4 k5:Env→Hp→Prop) (x0 x1 x2 x3 x4 x5 x6 x7 x8 x9 x10 x11 x12 x13 x14 x15 x16 x17 x18 x19 x20 x21 x22 x23 x24 x25 x26 x27 x28 x29 x30 x31 x32 x33 x34 x35 x36 x37 x38 x39 x40 x41 x42 x43 x44 x45 x46 x47 x48 x49 x50 x51 x52 x53 x54 x55 x56 x57 x58 x59 x60 x61 x62 x63 x64 x65 x66 v0 v1 v2 v3 v4 v5 v6 v7 v8 v9 v10 v11 v12 v13 v14 v15 v16 v17 v18 v19 v20 v21 v22 v23 v24 v25 v26 v27 v28 v29 v30 v31 v32 v33 v34 v35 v36 v37 v38 v39 v40 v41 v42 v43 v44 v45 v46 v47 v48 v49 v50 v51 v52 v53 v54 v55 v56 v57 v58 v59 v60 v61 v62 v63 v64 v65 v66:Value) (j:Nat→Value)
abbrev yrl:QD:=zab Tryz.prog Tryz.f164.results.toList K E
abbrev ypl (p:List Nat):QD→Env→Hp→Prop:=den Tryz.prog (sel (za8 Tryz.f164) p)
theorem yqc:ypl [] (yrl K E) #[x0,U,U,U,U] =
 pv (za1 .none .lss x0 (.int .i64 0)) fun t1=>
 K t1:=by kernel_rfl
abbrev ypt:QD:=zab Tryz.prog Tryz.f165.results.toList K E
abbrev yoo (p:List Nat):QD→Env→Hp→Prop:=den Tryz.prog (sel (za8 Tryz.f165) p)
theorem yro:yoo [] (ypt K E) #[x0,x1,U,U,U,U,U,U] =
 za2 Tryz.prog (.func (.func 182) #[] #[]) #[x0,x1] (fun t1=>
 K t1) E:=by kernel_rfl
abbrev yq4:QD:=zab Tryz.prog Tryz.f166.results.toList K E
abbrev yqy (p:List Nat):QD→Env→Hp→Prop:=den Tryz.prog (sel (za8 Tryz.f166) p)
theorem yqf:yqy [] (yq4 K E) #[x0,x1,x2,x3,U,U,U,U,U,U,U,U,U,U,U,U,U,U,U,U,U,U,U,U,U,U,U,U,U,U,U,U,U,U,U,U,U,U,U,U,U,U,U,U,U,U,U,U,U,U] =
 nw 88 (Value.cells x0).toList fun t1=>
 ld true 2 t1 fun t2=>
 za2 Tryz.prog (.func (.func 92) #[] #[]) #[t2] (fun t3=>
 pv (unV .not t3) fun t4=>
 gdK t4 false (fun k=>k x1) fun t5=>
 gdK t4 false (fun k=>pv (za1 .none .lss t5 (.int .i64 0)) k) fun t6=>
 pv (zah t4 (.bool true) t6) fun t7=>
 gdK t7 false (fun k=>k x2) fun t8=>
 gdK t7 false (fun k=>k x1) fun t9=>
 gdK t7 false (fun k=>pv (za1 .none .lss t8 t9) k) fun t10=>
 pv (zah t7 (.bool true) t10) fun t11=>
 gdK t11 false (fun k=>k x2) fun t12=>
 gdK t11 false (fun k=>ld true 2 t1 k) fun t13=>
 gdK t11 false (fun k=>za2 Tryz.prog (.func (.func 134) #[] #[]) #[t13] k E) fun t14=>
 gdK t11 false (fun k=>pv (za1 .none .geq t12 t14) k) fun t15=>
 pv (zah t11 (.bool true) t15) fun t16=>
 gdK t16 false (fun k=>k x3) fun t17=>
 gdK t16 false (fun k=>pv (za1 .none .lss t17 (.int .i64 0)) k) fun t18=>
 pv (zah t16 (.bool true) t18) fun t19=>
 cnd t19 (
  K (.int .i64 (-1))) (
  ld true 2 t1 fun t20=>
  za2 Tryz.prog (.func (.func 183) #[] #[]) #[t20,x2] (fun t21=>
  pv (za1 .none .eql x1 x2) fun t22=>
  cnd t22 (
  K x3) (
  pv (za1 .none .eql t21 (.int .i64 0)) fun t23=>
  cnd t23 (
   K (.int .i64 0)) (
   ld true 2 t1 fun t24=>
   za2 Tryz.prog (.func (.func 183) #[] #[]) #[t24,x1] (fun t25=>
   pv (za1 .none .quo t21 t25) fun t26=>
   pv (za1 .none .quo x3 t26) fun t27=>
   K t27) E))) E)) E:=by kernel_rfl
abbrev yt5:QD:=zab Tryz.prog Tryz.f167.results.toList K E
abbrev yq8 (p:List Nat):QD→Env→Hp→Prop:=den Tryz.prog (sel (za8 Tryz.f167) p)
theorem yoe:yq8 [] (yt5 K E) #[x0,x1,x2,x3,U,U,U,U,U,U,U,U,U,U,U,U,U,U,U,U,U,U,U,U,U,U] =
 ld false 1 x1 fun t1=>
 pv (iaV none 1 t1 x0) fun t2=>
 ld false 1 t2 fun t3=>
 ld false 1 x2 fun t4=>
 pv (iaV none 1 t4 x0) fun t5=>
 ld false 1 t5 fun t6=>
 pv (za1 .none .geq t3 t6) fun t7=>
 gdK t7 true (fun k=>ld false 1 x1 k) fun t8=>
 gdK t7 true (fun k=>k x0) fun t9=>
 gdK t7 true (fun k=>pv (iaV none 1 t8 t9) k) fun t10=>
 gdK t7 true (fun k=>ld false 1 t10 k) fun t11=>
 gdK t7 true (fun k=>ld false 1 x3 k) fun t12=>
 gdK t7 true (fun k=>k x0) fun t13=>
 gdK t7 true (fun k=>pv (iaV none 1 t12 t13) k) fun t14=>
 gdK t7 true (fun k=>ld false 1 t14 k) fun t15=>
 gdK t7 true (fun k=>pv (za1 .none .lss t11 t15) k) fun t16=>
 pv (zah t7 t16 (.bool false)) fun t17=>
 K t17:=by kernel_rfl
abbrev yow:QD:=zab Tryz.prog Tryz.f168.results.toList K E
abbrev ys1 (p:List Nat):QD→Env→Hp→Prop:=den Tryz.prog (sel (za8 Tryz.f168) p)
theorem ys7:ys1 [] (yow K E) #[x0,x1,x2,U,U,U,U,U,U,U,U] =
 za2 Tryz.prog (.func (.func 184) #[] #[]) #[x0,x1,x2] (fun t1=>
 K t1) E:=by kernel_rfl
abbrev yob:QD:=zab Tryz.prog Tryz.f169.results.toList K E
abbrev yp8 (p:List Nat):QD→Env→Hp→Prop:=den Tryz.prog (sel (za8 Tryz.f169) p)
theorem yqm:yp8 [] (yob K E) #[x0,x1,U,U,U,U,U,U,U,U,U,U,U,U,U,U,U,U,U,U,U,U,U,U,U,U,U,U,U,U,U,U,U,U,U,U,U,U,U,U,U,U,U,U,U,U,U,U,U,U,U,U,U,U,U,U,U,U,U,U,U,U,U,U,U,U,U] =
 nw 108 (Value.cells x1).toList fun t1=>
 pv (bdC #[(.int .i64 0),(.int .i64 0),(.int .i64 0),(.int .i64 0)] [(0,1),(1,1),(2,1),(3,1)] #[]) fun t2=>
 nw 108 [(.int .i64 0),(.int .i64 0),(.int .i64 0),(.int .i64 0)] fun t3=>
 st 4 t3 t2 fun _=>
 ld true 4 t1 fun t4=>
 ld true 4 t3 fun t5=>
 pv (ze0 .eql [0,0,0,0] t4 t5) fun t6=>
 cnd t6 (
  K (.tuple #[])) (
  pv (zan x0) fun t7=>
  pv (faV 0 t7) fun t8=>
  ld true 4 t8 fun t9=>
  ld true 4 t3 fun t10=>
  pv (ze0 .eql [0,0,0,0] t9 t10) fun t11=>
  cnd t11 (
  ld true 4 t1 fun t12=>
  pv (zan x0) fun t13=>
  pv (faV 0 t13) fun t14=>
  st 4 t14 t12 fun _=>
  K (.tuple #[])) (
  pv (zan x0) fun t15=>
  pv (faV 0 t15) fun t16=>
  pv (faV 0 t16) fun t17=>
  ld false 1 t17 fun t18=>
  pv (faV 0 t1) fun t19=>
  ld false 1 t19 fun t20=>
  pv (za1 .none .add t18 t20) fun t21=>
  pv (zan x0) fun t22=>
  pv (faV 0 t22) fun t23=>
  pv (faV 0 t23) fun t24=>
  st 1 t24 t21 fun _=>
  pv (zan x0) fun t25=>
  pv (faV 0 t25) fun t26=>
  pv (faV 1 t26) fun t27=>
  ld false 1 t27 fun t28=>
  pv (faV 1 t1) fun t29=>
  ld false 1 t29 fun t30=>
  pv (za1 .none .add t28 t30) fun t31=>
  pv (zan x0) fun t32=>
  pv (faV 0 t32) fun t33=>
  pv (faV 1 t33) fun t34=>
  st 1 t34 t31 fun _=>
  pv (zan x0) fun t35=>
  pv (faV 0 t35) fun t36=>
  pv (faV 2 t36) fun t37=>
  ld false 1 t37 fun t38=>
  pv (faV 2 t1) fun t39=>
  ld false 1 t39 fun t40=>
  pv (mm false t38 t40) fun t41=>
  pv (zan x0) fun t42=>
  pv (faV 0 t42) fun t43=>
  pv (faV 2 t43) fun t44=>
  st 1 t44 t41 fun _=>
  pv (zan x0) fun t45=>
  pv (faV 0 t45) fun t46=>
  pv (faV 3 t46) fun t47=>
  ld false 1 t47 fun t48=>
  pv (faV 3 t1) fun t49=>
  ld false 1 t49 fun t50=>
  pv (mm true t48 t50) fun t51=>
  pv (zan x0) fun t52=>
  pv (faV 0 t52) fun t53=>
  pv (faV 3 t53) fun t54=>
  st 1 t54 t51 fun _=>
  K (.tuple #[]))):=by kernel_rfl
abbrev yov:QD:=zab Tryz.prog Tryz.f171.results.toList K E
abbrev yqt (p:List Nat):QD→Env→Hp→Prop:=den Tryz.prog (sel (za8 Tryz.f171) p)
theorem yp1:yqt [] (yov K E) #[x0,U,U,U,U,U,U] =
 nw 88 (Value.cells x0).toList fun t1=>
 pv (faV 1 t1) fun t2=>
 ld false 1 t2 fun t3=>
 pv (za9 t3) fun t4=>
 pv (za1 .none .add t4 (.int .i64 2)) fun t5=>
 K t5:=by kernel_rfl
abbrev ygw:QD:=zab Tryz.prog Tryz.f172.results.toList K E
abbrev zvj (p:List Nat):QD→Env→Hp→Prop:=den Tryz.prog (sel (za8 Tryz.f172) p)
abbrev zsm:=za6 k1 (blk 0 (za6 (zvj [1,1,1] (ygw K E)) (ygw K E)))
def zdp (j:Nat→Value):Env:=#[x0,x1,x2,x3,x4,x5,(j 6),v7,x8,x9,x10,x11,x12,x13,x14,x15,x16,x17,x18,x19,(j 20),(j 21),(j 22),(j 23),(j 24),(j 25),(j 26),(j 27),(j 28),(j 29),(j 30),(j 31),(j 32),(j 33),(j 34),(j 35),(j 36),(j 37),(j 38),(j 39),(j 40),(j 41),(j 42),(j 43),(j 44),(j 45),(j 46),(j 47),(j 48),(j 49),(j 50),(j 51),(j 52),(j 53)]
theorem ypd:zvj [] (ygw K E) #[x0,x1,x2,U,U,U,U,U,U,U,U,U,U,U,U,U,U,U,U,U,U,U,U,U,U,U,U,U,U,U,U,U,U,U,U,U,U,U,U,U,U,U,U,U,U,U,U,U,U,U,U,U,U,U] =
 pv (za9 x1) fun t1=>
 pv (za9 x0) fun t2=>
 pv (za1 .none .neq t1 t2) fun t3=>
 gdK t3 false (fun k=>k x2) fun t4=>
 gdK t3 false (fun k=>pv (za9 t4) k) fun t5=>
 gdK t3 false (fun k=>k x0) fun t6=>
 gdK t3 false (fun k=>pv (za9 t6) k) fun t7=>
 gdK t3 false (fun k=>pv (za1 .none .neq t5 t7) k) fun t8=>
 pv (zah t3 (.bool true) t8) fun t9=>
 cnd t9 (
  K (.bool false)) (
  lp (fun k1=>zvj [1,1,0,1,0,0] (zsm K E k1)) (zdp x0 x1 x2 U U U x1 t1 x0 t2 t3 t3 t4 t5 t6 t7 t8 t9 (.int .i64 0) (jf #[U,U,U,U,U,U,(.bool false)]))):=by kernel_rfl
theorem zr8:zvj [1,1,0,1,0,0] (zsm K E k1) (zdp x0 x1 x2 x3 x4 x5 x8 x9 x10 x11 x12 x13 x14 x15 x16 x17 x18 x19 v7 j) =
 pv (za9 x0) fun t1=>
 pv (za1 .none .lss v7 t1) fun t2=>
 cnd t2 (
  pv (iaV none 1 x1 v7) fun t3=>
  ld false 1 t3 fun t4=>
  pv (za1 .none .lss t4 (.int .i64 0)) fun t5=>
  gdK t5 false (fun k=>k x1) fun t6=>
  gdK t5 false (fun k=>k v7) fun t7=>
  gdK t5 false (fun k=>pv (iaV none 1 t6 t7) k) fun t8=>
  gdK t5 false (fun k=>ld false 1 t8 k) fun t9=>
  gdK t5 false (fun k=>k x2) fun t10=>
  gdK t5 false (fun k=>k v7) fun t11=>
  gdK t5 false (fun k=>pv (iaV none 1 t10 t11) k) fun t12=>
  gdK t5 false (fun k=>ld false 1 t12 k) fun t13=>
  gdK t5 false (fun k=>pv (za1 .none .gtr t9 t13) k) fun t14=>
  pv (zah t5 (.bool true) t14) fun t15=>
  gdK t15 false (fun k=>k x2) fun t16=>
  gdK t15 false (fun k=>k v7) fun t17=>
  gdK t15 false (fun k=>pv (iaV none 1 t16 t17) k) fun t18=>
  gdK t15 false (fun k=>ld false 1 t18 k) fun t19=>
  gdK t15 false (fun k=>k x0) fun t20=>
  gdK t15 false (fun k=>k v7) fun t21=>
  gdK t15 false (fun k=>pv (iaV none 2 t20 t21) k) fun t22=>
  gdK t15 false (fun k=>pv (faV 0 t22) k) fun t23=>
  gdK t15 false (fun k=>ld false 1 t23 k) fun t24=>
  gdK t15 false (fun k=>pv (za1 .none .gtr t19 t24) k) fun t25=>
  pv (zah t15 (.bool true) t25) fun t26=>
  cnd t26 (
  K (.bool false)) (
  pv (za1 .none .add v7 (.int .i64 1)) fun t27=>
  k1 (zdp x0 x1 x2 x3 x4 x5 x8 x9 x10 x11 x12 x13 x14 x15 x16 x17 x18 x19 t27 (jf #[U,U,U,U,U,U,(j 6),U,U,U,U,U,U,U,U,U,U,U,U,U,v7,x0,t1,t2,v7,t27,x1,v7,t3,t4,t5,t5,t6,t7,t8,t9,t10,t11,t12,t13,t14,t15,t15,t16,t17,t18,t19,t20,t21,t22,t23,t24,t25,t26])))) (
  K (.bool true)):=by kernel_rfl
abbrev yox:QD:=zab Tryz.prog Tryz.f173.results.toList K E
abbrev yqj (p:List Nat):QD→Env→Hp→Prop:=den Tryz.prog (sel (za8 Tryz.f173) p)
theorem yoq:yqj [] (yox K E) #[x0,U,U,U,U,U,U,U,U,U,U,U,U,U,U,U,U,U,U,U,U,U,U,U,U,U,U,U,U,U,U,U,U] =
 nw 108 (Value.cells x0).toList fun t1=>
 pv (faV 0 t1) fun t2=>
 ld false 1 t2 fun t3=>
 pv (za1 .none .leq t3 (.int .i64 0)) fun t4=>
 cnd t4 (
  ld true 4 t1 fun t5=>
  pv (bdC #[(.int .i64 0),(.int .i64 0),(.int .i64 0),(.int .i64 0)] [(0,1),(1,1),(2,1),(3,1)] #[]) fun t6=>
  pv (ze0 .eql [0,0,0,0] t5 t6) fun t7=>
  K t7) (
  pv (faV 2 t1) fun t8=>
  ld false 1 t8 fun t9=>
  pv (faV 3 t1) fun t10=>
  ld false 1 t10 fun t11=>
  pv (za1 .none .leq t9 t11) fun t12=>
  gdK t12 true (fun k=>pv (faV 0 t1) k) fun t13=>
  gdK t12 true (fun k=>ld false 1 t13 k) fun t14=>
  gdK t12 true (fun k=>pv (za1 .none .gtr t14 (.int .i64 1)) k) fun t15=>
  gdK t12 true (fun k=>k t15) fun t16=>
  gdK t16 false (fun k=>pv (faV 1 t1) k) fun t17=>
  gdK t16 false (fun k=>ld false 1 t17 k) fun t18=>
  gdK t16 false (fun k=>pv (faV 2 t1) k) fun t19=>
  gdK t16 false (fun k=>ld false 1 t19 k) fun t20=>
  gdK t16 false (fun k=>pv (za1 .none .eql t18 t20) k) fun t21=>
  gdK t16 false (fun k=>k t21) fun t22=>
  gdK t22 true (fun k=>pv (faV 2 t1) k) fun t23=>
  gdK t22 true (fun k=>ld false 1 t23 k) fun t24=>
  gdK t22 true (fun k=>pv (faV 3 t1) k) fun t25=>
  gdK t22 true (fun k=>ld false 1 t25 k) fun t26=>
  gdK t22 true (fun k=>pv (za1 .none .eql t24 t26) k) fun t27=>
  gdK t16 false (fun k=>pv (zah t22 t27 (.bool false)) k) fun t28=>
  gdK t12 true (fun k=>pv (zah t16 (.bool true) t28) k) fun t29=>
  pv (zah t12 t29 (.bool false)) fun t30=>
  K t30):=by kernel_rfl
abbrev yjk:QD:=zab Tryz.prog Tryz.f174.results.toList K E
abbrev zvq (p:List Nat):QD→Env→Hp→Prop:=den Tryz.prog (sel (za8 Tryz.f174) p)
abbrev zsx:=za6 k1 (blk 0 (za6 (zvq [1,1,1] (yjk K E)) (yjk K E)))
def zdm (j:Nat→Value):Env:=#[x0,x1,x2,x3,x4,x5,(j 6),v7,x8,x9,x10,x11,x12,x13,x14,x15,x16,x17,x18,x19,(j 20),(j 21),(j 22),(j 23),(j 24),(j 25),(j 26),(j 27),(j 28),(j 29),(j 30),(j 31),(j 32),(j 33),(j 34),(j 35),(j 36),(j 37),(j 38),(j 39),(j 40),(j 41),(j 42),(j 43),(j 44),(j 45),(j 46),(j 47),(j 48),(j 49),(j 50),(j 51),(j 52),(j 53)]
theorem yoi:zvq [] (yjk K E) #[x0,x1,x2,U,U,U,U,U,U,U,U,U,U,U,U,U,U,U,U,U,U,U,U,U,U,U,U,U,U,U,U,U,U,U,U,U,U,U,U,U,U,U,U,U,U,U,U,U,U,U,U,U,U,U] =
 pv (za9 x1) fun t1=>
 pv (za9 x0) fun t2=>
 pv (za1 .none .neq t1 t2) fun t3=>
 gdK t3 false (fun k=>k x2) fun t4=>
 gdK t3 false (fun k=>pv (za9 t4) k) fun t5=>
 gdK t3 false (fun k=>k x0) fun t6=>
 gdK t3 false (fun k=>pv (za9 t6) k) fun t7=>
 gdK t3 false (fun k=>pv (za1 .none .neq t5 t7) k) fun t8=>
 pv (zah t3 (.bool true) t8) fun t9=>
 cnd t9 (
  K (.bool false)) (
  lp (fun k1=>zvq [1,1,0,1,0,0] (zsx K E k1)) (zdm x0 x1 x2 U U U x1 t1 x0 t2 t3 t3 t4 t5 t6 t7 t8 t9 (.int .i64 0) (jf #[U,U,U,U,U,U,(.bool false)]))):=by kernel_rfl
theorem zri:zvq [1,1,0,1,0,0] (zsx K E k1) (zdm x0 x1 x2 x3 x4 x5 x8 x9 x10 x11 x12 x13 x14 x15 x16 x17 x18 x19 v7 j) =
 pv (za9 x0) fun t1=>
 pv (za1 .none .lss v7 t1) fun t2=>
 cnd t2 (
  pv (iaV none 1 x1 v7) fun t3=>
  ld false 1 t3 fun t4=>
  pv (za1 .none .lss t4 (.int .i64 0)) fun t5=>
  gdK t5 false (fun k=>k x2) fun t6=>
  gdK t5 false (fun k=>k v7) fun t7=>
  gdK t5 false (fun k=>pv (iaV none 1 t6 t7) k) fun t8=>
  gdK t5 false (fun k=>ld false 1 t8 k) fun t9=>
  gdK t5 false (fun k=>k x1) fun t10=>
  gdK t5 false (fun k=>k v7) fun t11=>
  gdK t5 false (fun k=>pv (iaV none 1 t10 t11) k) fun t12=>
  gdK t5 false (fun k=>ld false 1 t12 k) fun t13=>
  gdK t5 false (fun k=>pv (za1 .none .lss t9 t13) k) fun t14=>
  pv (zah t5 (.bool true) t14) fun t15=>
  gdK t15 false (fun k=>k x2) fun t16=>
  gdK t15 false (fun k=>k v7) fun t17=>
  gdK t15 false (fun k=>pv (iaV none 1 t16 t17) k) fun t18=>
  gdK t15 false (fun k=>ld false 1 t18 k) fun t19=>
  gdK t15 false (fun k=>k x0) fun t20=>
  gdK t15 false (fun k=>k v7) fun t21=>
  gdK t15 false (fun k=>pv (iaV none 2 t20 t21) k) fun t22=>
  gdK t15 false (fun k=>ld true 2 t22 k) fun t23=>
  gdK t15 false (fun k=>za2 Tryz.prog (.func (.func 171) #[] #[]) #[t23] k E) (fun t24 h25=>(isB t15 false=true→ldV h25 false 1 t18 t19)∧(
  gdK t15 false (fun k=>pv (za1 .none .geq t19 t24) k) fun t26=>
  pv (zah t15 (.bool true) t26) fun t27=>
  cnd t27 (
   K (.bool false)) (
   pv (za1 .none .add v7 (.int .i64 1)) fun t28=>
   k1 (zdm x0 x1 x2 x3 x4 x5 x8 x9 x10 x11 x12 x13 x14 x15 x16 x17 x18 x19 t28 (jf #[U,U,U,U,U,U,(j 6),U,U,U,U,U,U,U,U,U,U,U,U,U,v7,x0,t1,t2,v7,t28,x1,v7,t3,t4,t5,t5,t6,t7,t8,t9,t10,t11,t12,t13,t14,t15,t15,t16,t17,t18,t19,t20,t21,t22,t23,t24,t26,t27])))) h25)) (
  K (.bool true)):=by kernel_rfl
abbrev yjg:QD:=zab Tryz.prog Tryz.f175.results.toList K E
abbrev zvt (p:List Nat):QD→Env→Hp→Prop:=den Tryz.prog (sel (za8 Tryz.f175) p)
abbrev ztu:=za6 k1 (blk 0 (za6 (zvt [1,1,1,1] (yjg K E)) (yjg K E)))
def zcz (j:Nat→Value):Env:=#[x0,x1,x2,x3,x4,x5,x6,x7,x8,v9,v10,x11,x12,x13,x14,x15,x16,x17,x18,x19,x20,x21,x22,x23,x24,x25,x26,x27,x28,x29,x30,x31,x32,x33,x34,x35,(j 36),(j 37),(j 38),(j 39),(j 40),(j 41),(j 42),(j 43),(j 44),(j 45),(j 46),(j 47),(j 48),(j 49),(j 50),(j 51),(j 52),(j 53),(j 54),(j 55),(j 56),(j 57),(j 58),(j 59),(j 60),(j 61),x62]
theorem yqz:zvt [] (yjg K E) #[x0,x1,x2,x3,U,U,U,U,U,U,U,U,U,U,U,U,U,U,U,U,U,U,U,U,U,U,U,U,U,U,U,U,U,U,U,U,U,U,U,U,U,U,U,U,U,U,U,U,U,U,U,U,U,U,U,U,U,U,U,U,U,U,U] =
 za2 Tryz.prog (.func (.func 79) #[] #[]) #[x0] (fun t1=>
 pv (unV .not t1) fun t2=>
 gdK t2 false (fun k=>k x1) fun t3=>
 gdK t2 false (fun k=>pv (za9 t3) k) fun t4=>
 gdK t2 false (fun k=>k x0) fun t5=>
 gdK t2 false (fun k=>pv (za9 t5) k) fun t6=>
 gdK t2 false (fun k=>pv (za1 .none .neq t4 t6) k) fun t7=>
 pv (zah t2 (.bool true) t7) fun t8=>
 gdK t8 false (fun k=>k x2) fun t9=>
 gdK t8 false (fun k=>pv (za9 t9) k) fun t10=>
 gdK t8 false (fun k=>k x0) fun t11=>
 gdK t8 false (fun k=>pv (za9 t11) k) fun t12=>
 gdK t8 false (fun k=>pv (za1 .none .neq t10 t12) k) fun t13=>
 pv (zah t8 (.bool true) t13) fun t14=>
 gdK t14 false (fun k=>k x3) fun t15=>
 gdK t14 false (fun k=>pv (za9 t15) k) fun t16=>
 gdK t14 false (fun k=>k x0) fun t17=>
 gdK t14 false (fun k=>pv (za9 t17) k) fun t18=>
 gdK t14 false (fun k=>pv (za1 .none .neq t16 t18) k) fun t19=>
 pv (zah t14 (.bool true) t19) fun t20=>
 cnd t20 (
  K (.slice none 0 0)) (
  lp (fun k1=>zvt [1,1,1,0,1,0,0] (ztu K E k1)) (zcz x0 x1 x2 x3 U U U U (.slice none 0 0) x0 t1 t2 t2 t3 t4 t5 t6 t7 t8 t8 t9 t10 t11 t12 t13 t14 t14 t15 t16 t17 t18 t19 t20 U U (.slice none 0 0) (.int .i64 0) (jf #[])))) E:=by kernel_rfl
theorem zp5:zvt [1,1,1,0,1,0,0] (ztu K E k1) (zcz x0 x1 x2 x3 x4 x5 x6 x7 x8 x11 x12 x13 x14 x15 x16 x17 x18 x19 x20 x21 x22 x23 x24 x25 x26 x27 x28 x29 x30 x31 x32 x33 x34 x35 x62 v9 v10 j) =
 pv (za9 x0) fun t1=>
 pv (za1 .none .lss v10 t1) fun t2=>
 cnd t2 (
  pv (iaV none 2 x0 v10) fun t3=>
  ld true 2 t3 fun t4=>
  pv (iaV none 1 x1 v10) fun t5=>
  ld false 1 t5 fun t6=>
  pv (iaV none 1 x2 v10) fun t7=>
  ld false 1 t7 fun t8=>
  pv (iaV none 1 x3 v10) fun t9=>
  ld false 1 t9 fun t10=>
  za2 Tryz.prog (.func (.func 193) #[] #[]) #[t4,t6,t8,t10] (fun t11=>
  nws 3 1 (bsC #[(.int .i64 0)] 1 1 #[(0,t11)]) fun t12=>
  zbf 3 1 8 v9 t12 fun t13=>
  pv (za1 .none .add v10 (.int .i64 1)) fun t14=>
  k1 (zcz x0 x1 x2 x3 x4 x5 x6 x7 x8 x11 x12 x13 x14 x15 x16 x17 x18 x19 x20 x21 x22 x23 x24 x25 x26 x27 x28 x29 x30 x31 x32 x33 x34 x35 x62 t13 t14 (jf #[U,U,U,U,U,U,U,U,U,U,U,U,U,U,U,U,U,U,U,U,U,U,U,U,U,U,U,U,U,U,U,U,U,U,U,U,v10,x0,t1,t2,v10,t14,v9,x0,v10,t3,t4,x1,v10,t5,t6,x2,v10,t7,t8,x3,v10,t9,t10,t11,t12,t13]))) E) (
  K v9):=by kernel_rfl
abbrev yhc:QD:=zab Tryz.prog Tryz.f176.results.toList K E
abbrev zvi (p:List Nat):QD→Env→Hp→Prop:=den Tryz.prog (sel (za8 Tryz.f176) p)
abbrev ztl:=za6 k1 (blk 0 (za6 (zvi [1,1,1] (yhc K E)) (yhc K E)))
def zdr (j:Nat→Value):Env:=#[x0,x1,x2,x3,x4,x5,(j 6),v7,x8,x9,x10,x11,x12,x13,x14,x15,x16,x17,x18,x19,(j 20),(j 21),(j 22),(j 23),(j 24),(j 25),(j 26),(j 27),(j 28),(j 29),(j 30),(j 31),(j 32),(j 33),(j 34),(j 35),(j 36),(j 37),(j 38),(j 39),(j 40),(j 41),(j 42),(j 43),(j 44),(j 45)]
theorem yo8:zvi [] (yhc K E) #[x0,x1,x2,U,U,U,U,U,U,U,U,U,U,U,U,U,U,U,U,U,U,U,U,U,U,U,U,U,U,U,U,U,U,U,U,U,U,U,U,U,U,U,U,U,U,U] =
 pv (za9 x0) fun t1=>
 pv (za9 x1) fun t2=>
 pv (za1 .none .neq t1 t2) fun t3=>
 gdK t3 false (fun k=>k x0) fun t4=>
 gdK t3 false (fun k=>pv (za9 t4) k) fun t5=>
 gdK t3 false (fun k=>k x2) fun t6=>
 gdK t3 false (fun k=>pv (za9 t6) k) fun t7=>
 gdK t3 false (fun k=>pv (za1 .none .neq t5 t7) k) fun t8=>
 pv (zah t3 (.bool true) t8) fun t9=>
 cnd t9 (
  K (.bool false)) (
  lp (fun k1=>zvi [1,1,0,1,0,0] (ztl K E k1)) (zdr x0 x1 x2 U U U x0 t1 x1 t2 t3 t3 t4 t5 t6 t7 t8 t9 (.int .i64 0) (jf #[U,U,U,U,U,U,(.bool false)]))):=by kernel_rfl
theorem zs3:zvi [1,1,0,1,0,0] (ztl K E k1) (zdr x0 x1 x2 x3 x4 x5 x8 x9 x10 x11 x12 x13 x14 x15 x16 x17 x18 x19 v7 j) =
 pv (za9 x0) fun t1=>
 pv (za1 .none .lss v7 t1) fun t2=>
 cnd t2 (
  pv (iaV none 1 x2 v7) fun t3=>
  ld false 1 t3 fun t4=>
  pv (iaV none 1 x0 v7) fun t5=>
  ld false 1 t5 fun t6=>
  pv (za1 .none .lss t4 t6) fun t7=>
  gdK t7 false (fun k=>k x2) fun t8=>
  gdK t7 false (fun k=>k v7) fun t9=>
  gdK t7 false (fun k=>pv (iaV none 1 t8 t9) k) fun t10=>
  gdK t7 false (fun k=>ld false 1 t10 k) fun t11=>
  gdK t7 false (fun k=>k x1) fun t12=>
  gdK t7 false (fun k=>k v7) fun t13=>
  gdK t7 false (fun k=>pv (iaV none 1 t12 t13) k) fun t14=>
  gdK t7 false (fun k=>ld false 1 t14 k) fun t15=>
  gdK t7 false (fun k=>pv (za1 .none .geq t11 t15) k) fun t16=>
  pv (zah t7 (.bool true) t16) fun t17=>
  cnd t17 (
  K (.bool false)) (
  pv (za1 .none .add v7 (.int .i64 1)) fun t18=>
  k1 (zdr x0 x1 x2 x3 x4 x5 x8 x9 x10 x11 x12 x13 x14 x15 x16 x17 x18 x19 t18 (jf #[U,U,U,U,U,U,(j 6),U,U,U,U,U,U,U,U,U,U,U,U,U,v7,x0,t1,t2,v7,t18,x2,v7,t3,t4,x0,v7,t5,t6,t7,t7,t8,t9,t10,t11,t12,t13,t14,t15,t16,t17])))) (
  K (.bool true)):=by kernel_rfl
abbrev ysz:QD:=zab Tryz.prog Tryz.f177.results.toList K E
abbrev yo9 (p:List Nat):QD→Env→Hp→Prop:=den Tryz.prog (sel (za8 Tryz.f177) p)
theorem yri:yo9 [] (ysz K E) #[x0,U,U,U,U,U,U] =
 zbf 3 1 8 (.slice none 0 0) x0 fun t1=>
 K t1:=by kernel_rfl
abbrev ysn:QD:=zab Tryz.prog Tryz.f178.results.toList K E
abbrev yof (p:List Nat):QD→Env→Hp→Prop:=den Tryz.prog (sel (za8 Tryz.f178) p)
theorem yst:yof [] (ysn K E) #[x0,x1,U,U,U,U,U,U,U,U,U,U,U,U,U,U,U,U,U,U,U,U,U,U,U,U,U,U,U,U,U,U,U,U] =
 nw 108 (Value.cells x0).toList fun t1=>
 nw 108 (Value.cells x1).toList fun t2=>
 nw 108 [(.int .i64 0),(.int .i64 0),(.int .i64 0),(.int .i64 0)] fun t3=>
 pv (faV 0 t1) fun t4=>
 ld false 1 t4 fun t5=>
 pv (za1 .none .eql t5 (.int .i64 0)) fun t6=>
 cnd t6 (
  ld true 4 t2 fun t7=>
  st 4 t3 t7 fun _=>
  ld true 4 t3 fun t8=>
  K t8) (
  pv (faV 0 t2) fun t9=>
  ld false 1 t9 fun t10=>
  pv (za1 .none .eql t10 (.int .i64 0)) fun t11=>
  cnd t11 (
  ld true 4 t1 fun t12=>
  st 4 t3 t12 fun _=>
  ld true 4 t3 fun t13=>
  K t13) (
  pv (faV 0 t1) fun t14=>
  ld false 1 t14 fun t15=>
  pv (faV 0 t2) fun t16=>
  ld false 1 t16 fun t17=>
  pv (za1 .none .add t15 t17) fun t18=>
  pv (faV 1 t1) fun t19=>
  ld false 1 t19 fun t20=>
  pv (faV 1 t2) fun t21=>
  ld false 1 t21 fun t22=>
  pv (za1 .none .add t20 t22) fun t23=>
  pv (faV 2 t1) fun t24=>
  ld false 1 t24 fun t25=>
  pv (faV 2 t2) fun t26=>
  ld false 1 t26 fun t27=>
  pv (mm false t25 t27) fun t28=>
  pv (faV 3 t1) fun t29=>
  ld false 1 t29 fun t30=>
  pv (faV 3 t2) fun t31=>
  ld false 1 t31 fun t32=>
  pv (mm true t30 t32) fun t33=>
  pv (bdC #[(.int .i64 0),(.int .i64 0),(.int .i64 0),(.int .i64 0)] [(0,1),(1,1),(2,1),(3,1)] #[(0,t18),(1,t23),(2,t28),(3,t33)]) fun t34=>
  st 4 t3 t34 fun _=>
  ld true 4 t3 fun t35=>
  K t35)):=by kernel_rfl
abbrev yhq:QD:=zab Tryz.prog Tryz.f181.results.toList K E
abbrev zwf (p:List Nat):QD→Env→Hp→Prop:=den Tryz.prog (sel (za8 Tryz.f181) p)
abbrev zsk:=za6 k1 (blk 0 (za6 (zwf [1,1] (yhq K E)) (yhq K E)))
def zez (j:Nat→Value):Env:=#[x0,x1,x2,x3,(j 4),(j 5),x6,x7,v8,(j 9),(j 10),(j 11),(j 12),(j 13),(j 14),(j 15),(j 16),(j 17),(j 18)]
theorem yrc:zwf [] (yhq K E) #[x0,x1,U,U,U,U,U,U,U,U,U,U,U,U,U,U,U,U,U] =
 pv (za9 x0) fun t1=>
 lp (fun k1=>zwf [1,0,1,0,0] (zsk K E k1)) (zez x0 x1 U U x0 t1 (.int .i64 0) (jf #[U,U,U,U,(.int .i64 0)])):=by kernel_rfl
theorem zwv:zwf [1,0,1,0,0] (zsk K E k1) (zez x0 x1 x2 x3 x6 x7 v8 j) =
 pv (za1 .none .lss v8 x7) fun t1=>
 cnd t1 (
  pv (iaV none 1 x0 v8) fun t2=>
  ld false 1 t2 fun t3=>
  za2 Tryz.prog x1 #[t3] (fun t4=>
  cnd t4 (
  K v8) (
  pv (za1 .none .add v8 (.int .i64 1)) fun t5=>
  k1 (zez x0 x1 x2 x3 x6 x7 t5 (jf #[U,U,U,U,(j 4),v8,U,U,U,t1,v8,x1,x0,v8,t2,t3,t4,(j 17),t5])))) E) (
  K (.int .i64 (-1))):=by kernel_rfl
abbrev yhj:QD:=zab Tryz.prog Tryz.f182.results.toList K E
abbrev zvh (p:List Nat):QD→Env→Hp→Prop:=den Tryz.prog (sel (za8 Tryz.f182) p)
abbrev zuu:=za6 k1 (blk 0 (za6 (zvh [1,1] (yhj K E)) (yhj K E)))
def zf3 (j:Nat→Value):Env:=#[x0,x1,x2,x3,(j 4),(j 5),(j 6),x7,x8,x9,x10,x11,v12,(j 13),(j 14),(j 15),(j 16),(j 17),(j 18),(j 19),(j 20),(j 21),(j 22),(j 23),(j 24),(j 25),(j 26),(j 27),x28,x29,x30,x31,x32]
theorem yp4:zvh [] (yhj K E) #[x0,x1,U,U,U,U,U,U,U,U,U,U,U,U,U,U,U,U,U,U,U,U,U,U,U,U,U,U,U,U,U,U,U] =
 pv (za9 x0) fun t1=>
 pv (za9 x1) fun t2=>
 pv (mm false t1 t2) fun t3=>
 lp (fun k1=>zvh [1,0,1,0,0] (zuu K E k1)) (zf3 x0 x1 U U x0 t1 x1 t2 t3 U U U U U (.int .i64 0) (jf #[U,U,U,U,(.int .i64 0)])):=by kernel_rfl
theorem zvg:zvh [1,0,1,0,0] (zuu K E k1) (zf3 x0 x1 x2 x3 x7 x8 x9 x10 x11 x28 x29 x30 x31 x32 v12 j) =
 pv (za1 .none .lss v12 x11) fun t1=>
 cnd t1 (
  pv (iaV none 1 x0 v12) fun t2=>
  ld false 1 t2 fun t3=>
  pv (iaV none 1 x1 v12) fun t4=>
  ld false 1 t4 fun t5=>
  za2 Tryz.prog (.func (.func 195) #[] #[]) #[t3,t5] (fun t6=>
  pv (za1 .none .neq t6 (.int .i64 0)) fun t7=>
  cnd t7 (
  K t6) (
  pv (za1 .none .add v12 (.int .i64 1)) fun t8=>
  k1 (zf3 x0 x1 x2 x3 x7 x8 x9 x10 x11 x28 x29 x30 x31 x32 t8 (jf #[U,U,U,U,(j 4),v12,t6,U,U,U,U,U,U,t1,v12,x0,v12,t2,t3,x1,v12,t4,t5,t6,t6,t7,(j 26),t8])))) E) (
  pv (za9 x0) fun t9=>
  pv (za9 x1) fun t10=>
  za2 Tryz.prog (.func (.func 195) #[] #[]) #[t9,t10] (fun t11=>
  K t11) E):=by kernel_rfl
end
section
variable {K:zae} {E:zat} {k1 k2 k3 k4 k5:Env→Hp→Prop} {σ:Type} {x0 x1 x2 x3 x4 x5 x6 x7 x8 x9 x10 x11 x12 x13 x14 x15 x16 x17 x18 x19 x20 x21 x22 x23 x24 x25 x26 x27 x28 x29 x30 x31 x32 x33 x34 x35 x36 x37 x38 x39 x40 x41 x42 x43 x44 x45 x46 x47 x48 x49 x50 x51 x52 x53 x54 x55 x56 x57 x58 x59 x60 x61 x62 x63 x64 x65 x66 v0 v1 v2 v3 v4 v5 v6 v7 v8 v9 v10 v11 v12 v13 v14 v15 v16 v17 v18 v19 v20 v21 v22 v23 v24 v25 v26 v27 v28 v29 v30 v31 v32 v33 v34 v35 v36 v37 v38 v39 v40 v41 v42 v43 v44 v45 v46 v47 v48 v49 v50 v51 v52 v53 v54 v55 v56 v57 v58 v59 v60 v61 v62 v63 v64 v65 v66:Value} {h:Hp} {j:Nat→Value}
theorem zrf (f7:σ→Value) (I:σ→Hp→Prop) (μ:σ→Nat) (s0:σ) (e7:v7=f7 s0) (h0:h.wf→∃ h',h.wk h'∧I s0 h')
 (round:∀ (k1:Env→Hp→Prop) (s:σ) (j:Nat→Value) (h:Hp),I s h→h.wf→(∀ s' j' h',μ s'<μ s→(h'.wf→∃ h'',h'.wk h''∧I s' h'')→k1 (zdp x0 x1 x2 x3 x4 x5 x8 x9 x10 x11 x12 x13 x14 x15 x16 x17 x18 x19 (f7 s') j') h')→zvj [1,1,0,1,0,0] (zsm K E k1) (zdp x0 x1 x2 x3 x4 x5 x8 x9 x10 x11 x12 x13 x14 x15 x16 x17 x18 x19 (f7 s) j) h) :
 lp (fun k1=>zvj [1,1,0,1,0,0] (zsm K E k1)) (zdp x0 x1 x2 x3 x4 x5 x8 x9 x10 x11 x12 x13 x14 x15 x16 x17 x18 x19 v7 j) h:=by
 subst e7
 exact zaj (fun s j=>zdp x0 x1 x2 x3 x4 x5 x8 x9 x10 x11 x12 x13 x14 x15 x16 x17 x18 x19 (f7 s) j) I μ round s0 j h0
theorem zr7 (f7:σ→Value) (I:σ→Hp→Prop) (μ:σ→Nat) (s0:σ) (e7:v7=f7 s0) (h0:h.wf→∃ h',h.wk h'∧I s0 h')
 (round:∀ (k1:Env→Hp→Prop) (s:σ) (j:Nat→Value) (h:Hp),I s h→h.wf→(∀ s' j' h',μ s'<μ s→(h'.wf→∃ h'',h'.wk h''∧I s' h'')→k1 (zdm x0 x1 x2 x3 x4 x5 x8 x9 x10 x11 x12 x13 x14 x15 x16 x17 x18 x19 (f7 s') j') h')→zvq [1,1,0,1,0,0] (zsx K E k1) (zdm x0 x1 x2 x3 x4 x5 x8 x9 x10 x11 x12 x13 x14 x15 x16 x17 x18 x19 (f7 s) j) h) :
 lp (fun k1=>zvq [1,1,0,1,0,0] (zsx K E k1)) (zdm x0 x1 x2 x3 x4 x5 x8 x9 x10 x11 x12 x13 x14 x15 x16 x17 x18 x19 v7 j) h:=by
 subst e7
 exact zaj (fun s j=>zdm x0 x1 x2 x3 x4 x5 x8 x9 x10 x11 x12 x13 x14 x15 x16 x17 x18 x19 (f7 s) j) I μ round s0 j h0
theorem zoz (f9 f10:σ→Value) (I:σ→Hp→Prop) (μ:σ→Nat) (s0:σ) (e9:v9=f9 s0) (e10:v10=f10 s0) (h0:h.wf→∃ h',h.wk h'∧I s0 h')
 (round:∀ (k1:Env→Hp→Prop) (s:σ) (j:Nat→Value) (h:Hp),I s h→h.wf→(∀ s' j' h',μ s'<μ s→(h'.wf→∃ h'',h'.wk h''∧I s' h'')→k1 (zcz x0 x1 x2 x3 x4 x5 x6 x7 x8 x11 x12 x13 x14 x15 x16 x17 x18 x19 x20 x21 x22 x23 x24 x25 x26 x27 x28 x29 x30 x31 x32 x33 x34 x35 x62 (f9 s') (f10 s') j') h')→zvt [1,1,1,0,1,0,0] (ztu K E k1) (zcz x0 x1 x2 x3 x4 x5 x6 x7 x8 x11 x12 x13 x14 x15 x16 x17 x18 x19 x20 x21 x22 x23 x24 x25 x26 x27 x28 x29 x30 x31 x32 x33 x34 x35 x62 (f9 s) (f10 s) j) h) :
 lp (fun k1=>zvt [1,1,1,0,1,0,0] (ztu K E k1)) (zcz x0 x1 x2 x3 x4 x5 x6 x7 x8 x11 x12 x13 x14 x15 x16 x17 x18 x19 x20 x21 x22 x23 x24 x25 x26 x27 x28 x29 x30 x31 x32 x33 x34 x35 x62 v9 v10 j) h:=by
 subst e9
 subst e10
 exact zaj (fun s j=>zcz x0 x1 x2 x3 x4 x5 x6 x7 x8 x11 x12 x13 x14 x15 x16 x17 x18 x19 x20 x21 x22 x23 x24 x25 x26 x27 x28 x29 x30 x31 x32 x33 x34 x35 x62 (f9 s) (f10 s) j) I μ round s0 j h0
theorem zrh (f7:σ→Value) (I:σ→Hp→Prop) (μ:σ→Nat) (s0:σ) (e7:v7=f7 s0) (h0:h.wf→∃ h',h.wk h'∧I s0 h')
 (round:∀ (k1:Env→Hp→Prop) (s:σ) (j:Nat→Value) (h:Hp),I s h→h.wf→(∀ s' j' h',μ s'<μ s→(h'.wf→∃ h'',h'.wk h''∧I s' h'')→k1 (zdr x0 x1 x2 x3 x4 x5 x8 x9 x10 x11 x12 x13 x14 x15 x16 x17 x18 x19 (f7 s') j') h')→zvi [1,1,0,1,0,0] (ztl K E k1) (zdr x0 x1 x2 x3 x4 x5 x8 x9 x10 x11 x12 x13 x14 x15 x16 x17 x18 x19 (f7 s) j) h) :
 lp (fun k1=>zvi [1,1,0,1,0,0] (ztl K E k1)) (zdr x0 x1 x2 x3 x4 x5 x8 x9 x10 x11 x12 x13 x14 x15 x16 x17 x18 x19 v7 j) h:=by
 subst e7
 exact zaj (fun s j=>zdr x0 x1 x2 x3 x4 x5 x8 x9 x10 x11 x12 x13 x14 x15 x16 x17 x18 x19 (f7 s) j) I μ round s0 j h0
theorem zvl (f8:σ→Value) (I:σ→Hp→Prop) (μ:σ→Nat) (s0:σ) (e8:v8=f8 s0) (h0:h.wf→∃ h',h.wk h'∧I s0 h')
 (round:∀ (k1:Env→Hp→Prop) (s:σ) (j:Nat→Value) (h:Hp),I s h→h.wf→(∀ s' j' h',μ s'<μ s→(h'.wf→∃ h'',h'.wk h''∧I s' h'')→k1 (zez x0 x1 x2 x3 x6 x7 (f8 s') j') h')→zwf [1,0,1,0,0] (zsk K E k1) (zez x0 x1 x2 x3 x6 x7 (f8 s) j) h) :
 lp (fun k1=>zwf [1,0,1,0,0] (zsk K E k1)) (zez x0 x1 x2 x3 x6 x7 v8 j) h:=by
 subst e8
 exact zaj (fun s j=>zez x0 x1 x2 x3 x6 x7 (f8 s) j) I μ round s0 j h0
theorem zwq (f12:σ→Value) (I:σ→Hp→Prop) (μ:σ→Nat) (s0:σ) (e12:v12=f12 s0) (h0:h.wf→∃ h',h.wk h'∧I s0 h')
 (round:∀ (k1:Env→Hp→Prop) (s:σ) (j:Nat→Value) (h:Hp),I s h→h.wf→(∀ s' j' h',μ s'<μ s→(h'.wf→∃ h'',h'.wk h''∧I s' h'')→k1 (zf3 x0 x1 x2 x3 x7 x8 x9 x10 x11 x28 x29 x30 x31 x32 (f12 s') j') h')→zvh [1,0,1,0,0] (zuu K E k1) (zf3 x0 x1 x2 x3 x7 x8 x9 x10 x11 x28 x29 x30 x31 x32 (f12 s) j) h) :
 lp (fun k1=>zvh [1,0,1,0,0] (zuu K E k1)) (zf3 x0 x1 x2 x3 x7 x8 x9 x10 x11 x28 x29 x30 x31 x32 v12 j) h:=by
 subst e12
 exact zaj (fun s j=>zf3 x0 x1 x2 x3 x7 x8 x9 x10 x11 x28 x29 x30 x31 x32 (f12 s) j) I μ round s0 j h0
end
end Go.Proofs.YtgcmbkoejjcjlaaGreatDoor.T
