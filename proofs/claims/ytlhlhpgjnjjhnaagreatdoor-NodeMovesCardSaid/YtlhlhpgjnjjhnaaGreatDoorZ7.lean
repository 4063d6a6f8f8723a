import Derived.Test.YtlhlhpgjnjjhnaaGreatDoorZ6
set_option maxHeartbeats 16000000
set_option maxRecDepth 20000
open Go Go.RowKit Go.Proofs.YtlhlhpgjnjjhnaaGreatDoor.K Go.Proofs.YtlhlhpgjnjjhnaaGreatDoor.T
set_option linter.unusedVariables false
set_option linter.unusedSimpArgs false
namespace Go.Proofs.YtlhlhpgjnjjhnaaGreatDoor.A
variable {F F':Nat -> Option (List Value)} {M M':Nat -> Option zak} {N N':Nat} {K:zae} {E:zb2}
theorem NodeMoves_true (v0 v1 v2 v3:Value) (a4 a5:Int) {y0:List (Int×List Int)} {y1 y2:List (List Int)} {y3:List Int} (W:World) (h0:rS 2 yos (F0 W) [v0] y0) (h1:rS 1 (rS 1 (rI .u16)) (F0 W) [v1] y1) (h2:rS 1 (rS 1 (rI .u16)) (F0 W) [v2] y2) (h3:rS 1 (rI .i64) (F0 W) [v3] y3) (w4:(Lit.int .u16 a4).wf=true) (w5:(Lit.int .u16 a5).wf=true) :
  Calls Tryz.prog 3 #[v0,v1,v2,v3,.int .u16 a4,.int .u16 a5] W λe w'=>e=.returned (.bool true)∧Below W.heap.size W w':=by
 have b:=yna h0;have d:=yb7 h1;have o:=yb7 h2;have v:=ynt h3;obtain ⟨n4,rfl⟩:∃ n:Nat,a4=(n:Nat):=⟨a4.toNat,by have := zlz w4; omega⟩;obtain ⟨n5,rfl⟩:∃ n:Nat,a5=(n:Nat):=⟨a5.toNat,by have := zlz w5; omega⟩;have q4:=zlz w4;have q5:=zlz w5;exact ygc (yc8 rfl b.1 b.2.1 b.2.2 d.1 d.2.1 (λk hk x hx=>zlz (d.2.2 k hk x hx)) o.1 o.2.1 (λk hk x hx=>zlz (o.2.2 k hk x hx)) v.1 v.2.2 (λx hx=>yn2 (v.2.1 x hx)) (by omega) (by omega) λ_=>rfl)
end Go.Proofs.YtlhlhpgjnjjhnaaGreatDoor.A
