/- What sheaveref07.plain and Named compute. What sheaveref07.symbols computes. No condition. -/
import Derived.Test.YthkfapcadhnaeaaGreatDoorForm
import Derived.Test.YthkfapcadhnaeaaGreatDoorSym
import Derived.Deep.QuietTactic
import Derived.BigQuiet
set_option maxHeartbeats 1600000
namespace Go.Proofs.YthkfapcadhnaeaaGreatDoor
open Go.ChangeShapes Go.WideShapes Go.ChangeAt Go.RowKit
def lQ (k:Int):Bool:=decide (k=4∨k=5∨k=6)
set_option maxRecDepth 100000 in
theorem Ig (k:Int) (w:World):Calls Tryz.prog 52 #[.int .i64 k] w fun e w' => e = .returned (.bool (lQ k))∧w=w':=by
 have Hd:Hid (lQ k=((k == 4) || ((k == 5) || (k == 6)))):=by show _=_;unfold lQ;rw [Bool.eq_iff_iff];simp
 go_enter Tryz.func52,Tryz.ntmps52
 go_wp2
 all_goals
  go_ret
  exact ⟨au (by rw [Hd.out];first | rfl | (simp;done) | (rw [Bool.eq_iff_iff];simp;omega) | simp_all),rfl⟩
def gU (x:aC):aC :=
 if x.kind=1 then { fZ with kind:=x.kind }
 else if x.kind=2 then { fZ with kind:=x.kind,low:=x.low,high:=x.high }
 else if x.kind=3 then { fZ with kind:=x.kind,max:=x.max }
 else if x.kind=4 then { fZ with kind:=x.kind,name:=x.name,syms:=x.syms,opn:=x.opn }
 else if x.kind=5 then { fZ with kind:=x.kind,name:=x.name,aj:=x.aj }
 else if x.kind=6 then { fZ with kind:=x.kind,name:=x.name,aj:=x.aj,opn:=x.opn }
 else if x.kind=7 then { fZ with kind:=x.kind,max:=x.max,elem:=x.elem }
 else if x.kind=8 then { fZ with kind:=x.kind,max:=x.max,key:=x.key,elem:=x.elem }
 else { fZ with kind:=x.kind,elem:=x.elem }
def jg (x:aC) (vs:Value):Value:=if x.kind=4 then vs else .slice none 0 0
def jh (x:aC) (vm:Value):Value:=if x.kind=5∨x.kind=6 then vm else .slice none 0 0
set_option maxRecDepth 100000 in
theorem Zo (x:aC) (A1 A2:Option Addr) (c1 c2:Nat) (w:World) (h:x.kind=1) :
  Calls Tryz.prog 120 #[aS x (.slice A1 x.syms.length c1) (.slice A2 x.aj.length c2)] w fun e w' => e = .returned (aS (gU x) (jg x (.slice A1 x.syms.length c1)) (jh x (.slice A2 x.aj.length c2)))∧Below w.heap.size w w':=by
 have hres:aS (gU x) (jg x (.slice A1 x.syms.length c1)) (jh x (.slice A2 x.aj.length c2)) = .agg #[.int .i64 1,.string ⟨#[]⟩,.int .i64 0,.int .i64 0,.int .i64 0,.slice none 0 0,.slice none 0 0,.int .i64 0,.int .i64 0,.bool false]:=by unfold gU jg jh;simp [h,fZ]
 rw [hres]
 simp only [aS,h]
 clear hres
 go_enter Tryz.func120,Tryz.ntmps120
 go_upto_region 1 with fail
 generalize dJ:w.alloc _=wd2
 generalize jD:wd2.alloc _=wd4
 have ⟨hb1,T,R⟩:=dN dJ jD
 clear dJ jD
 have hw6:=hb1
 clear hb1
 obtain ⟨aA,dA,dn,dw,bV,dh,bP,cZ,bU,aJ⟩:=T.out.c10
 go_upto_region 3 with fail
 go_wp2_with (refine sR R.out ?_)
 clear aA dA dn dw bV dh bP cZ bU aJ
 generalize yI:wd4.setRow _ _=oW
 replace T:=f1 T (eR yI)
 replace R:=aK R yI
 replace hw6:=tr hw6 yI
 clear yI
 exact bodyPost_ret (v:=.agg #[.int .i64 1,.string ⟨#[]⟩,.int .i64 0,.int .i64 0,.int .i64 0,.slice none 0 0,.slice none 0 0,.int .i64 0,.int .i64 0,.bool false]) (by simp [results,Tryz.results120,go_sem,R.out.c10]) rfl (⟨rfl,hw6⟩)
set_option maxRecDepth 100000 in
theorem Zp (x:aC) (A1 A2:Option Addr) (c1 c2:Nat) (w:World) (h:x.kind=2) :
  Calls Tryz.prog 120 #[aS x (.slice A1 x.syms.length c1) (.slice A2 x.aj.length c2)] w fun e w' => e = .returned (aS (gU x) (jg x (.slice A1 x.syms.length c1)) (jh x (.slice A2 x.aj.length c2)))∧Below w.heap.size w w':=by
 have hres:aS (gU x) (jg x (.slice A1 x.syms.length c1)) (jh x (.slice A2 x.aj.length c2)) = .agg #[.int .i64 2,.string ⟨#[]⟩,.int .i64 x.low,.int .i64 x.high,.int .i64 0,.slice none 0 0,.slice none 0 0,.int .i64 0,.int .i64 0,.bool false]:=by unfold gU jg jh;simp [h,fZ]
 rw [hres]
 simp only [aS,h]
 clear hres
 go_enter Tryz.func120,Tryz.ntmps120
 go_upto_region 1 with fail
 generalize jZ:w.alloc _=kE
 generalize lU:kE.alloc _=xJ
 have ⟨zB,T,R⟩:=dN jZ lU
 clear jZ lU
 have Wh:=zB
 clear zB
 obtain ⟨aA,dA,dn,dw,bV,dh,bP,cZ,bU,aJ⟩:=T.out.c10
 go_upto_region 5 with fail
 go_wp2_with (refine sR R.out ?_)
 clear aA dA dn dw bV dh bP cZ bU aJ
 generalize qB:xJ.setRow _ _=lD
 replace T:=f1 T (eR qB)
 replace R:=aK R qB
 replace Wh:=tr Wh qB
 clear qB
 exact bodyPost_ret (v:=.agg #[.int .i64 2,.string ⟨#[]⟩,.int .i64 x.low,.int .i64 x.high,.int .i64 0,.slice none 0 0,.slice none 0 0,.int .i64 0,.int .i64 0,.bool false]) (by simp [results,Tryz.results120,go_sem,R.out.c10]) rfl (⟨rfl,Wh⟩)
set_option maxRecDepth 100000 in
theorem Zq (x:aC) (A1 A2:Option Addr) (c1 c2:Nat) (w:World) (h:x.kind=3) :
  Calls Tryz.prog 120 #[aS x (.slice A1 x.syms.length c1) (.slice A2 x.aj.length c2)] w fun e w' => e = .returned (aS (gU x) (jg x (.slice A1 x.syms.length c1)) (jh x (.slice A2 x.aj.length c2)))∧Below w.heap.size w w':=by
 have hres:aS (gU x) (jg x (.slice A1 x.syms.length c1)) (jh x (.slice A2 x.aj.length c2)) = .agg #[.int .i64 3,.string ⟨#[]⟩,.int .i64 0,.int .i64 0,.int .i64 x.max,.slice none 0 0,.slice none 0 0,.int .i64 0,.int .i64 0,.bool false]:=by unfold gU jg jh;simp [h,fZ]
 rw [hres]
 simp only [aS,h]
 clear hres
 go_enter Tryz.func120,Tryz.ntmps120
 go_upto_region 1 with fail
 generalize kV:w.alloc _=qY
 generalize kD:qY.alloc _=nS
 have ⟨kW,T,R⟩:=dN kV kD
 clear kV kD
 have Vp:=kW
 clear kW
 obtain ⟨aA,dA,dn,dw,bV,dh,bP,cZ,bU,aJ⟩:=T.out.c10
 go_upto_region 7 with fail
 go_wp2_with (refine sR R.out ?_)
 clear aA dA dn dw bV dh bP cZ bU aJ
 generalize BG:nS.setRow _ _=ah8
 replace T:=f1 T (eR BG)
 replace R:=aK R BG
 replace Vp:=tr Vp BG
 clear BG
 exact bodyPost_ret (v:=.agg #[.int .i64 3,.string ⟨#[]⟩,.int .i64 0,.int .i64 0,.int .i64 x.max,.slice none 0 0,.slice none 0 0,.int .i64 0,.int .i64 0,.bool false]) (by simp [results,Tryz.results120,go_sem,R.out.c10]) rfl (⟨rfl,Vp⟩)
set_option maxRecDepth 100000 in
theorem Zr (x:aC) (A1 A2:Option Addr) (c1 c2:Nat) (w:World) (h:x.kind=4) :
  Calls Tryz.prog 120 #[aS x (.slice A1 x.syms.length c1) (.slice A2 x.aj.length c2)] w fun e w' => e = .returned (aS (gU x) (jg x (.slice A1 x.syms.length c1)) (jh x (.slice A2 x.aj.length c2)))∧Below w.heap.size w w':=by
 have hres:aS (gU x) (jg x (.slice A1 x.syms.length c1)) (jh x (.slice A2 x.aj.length c2)) = .agg #[.int .i64 4,.string ⟨x.name.toArray⟩,.int .i64 0,.int .i64 0,.int .i64 0,.slice A1 x.syms.length c1,.slice none 0 0,.int .i64 0,.int .i64 0,.bool x.opn]:=by unfold gU jg jh;simp [h,fZ]
 rw [hres]
 simp only [aS,h]
 clear hres
 go_enter Tryz.func120,Tryz.ntmps120
 go_upto_region 1 with fail
 generalize oJ:w.alloc _=qZ
 generalize uU:qZ.alloc _=zQ
 have ⟨pY,T,R⟩:=dN oJ uU
 clear oJ uU
 have Wi:=pY
 clear pY
 obtain ⟨aA,dA,dn,dw,bV,dh,bP,cZ,bU,aJ⟩:=T.out.c10
 go_upto_region 9 with fail
 go_wp2_with (refine sR R.out ?_)
 clear aA dA dn dw bV dh bP cZ bU aJ
 generalize pG:zQ.setRow _ _=wP
 replace T:=f1 T (eR pG)
 replace R:=aK R pG
 replace Wi:=tr Wi pG
 clear pG
 exact bodyPost_ret (v:=.agg #[.int .i64 4,.string ⟨x.name.toArray⟩,.int .i64 0,.int .i64 0,.int .i64 0,.slice A1 x.syms.length c1,.slice none 0 0,.int .i64 0,.int .i64 0,.bool x.opn]) (by simp [results,Tryz.results120,go_sem,R.out.c10]) rfl (⟨rfl,Wi⟩)
set_option maxRecDepth 100000 in
theorem Zt (x:aC) (A1 A2:Option Addr) (c1 c2:Nat) (w:World) (h:x.kind=5) :
  Calls Tryz.prog 120 #[aS x (.slice A1 x.syms.length c1) (.slice A2 x.aj.length c2)] w fun e w' => e = .returned (aS (gU x) (jg x (.slice A1 x.syms.length c1)) (jh x (.slice A2 x.aj.length c2)))∧Below w.heap.size w w':=by
 have hres:aS (gU x) (jg x (.slice A1 x.syms.length c1)) (jh x (.slice A2 x.aj.length c2)) = .agg #[.int .i64 5,.string ⟨x.name.toArray⟩,.int .i64 0,.int .i64 0,.int .i64 0,.slice none 0 0,.slice A2 x.aj.length c2,.int .i64 0,.int .i64 0,.bool false]:=by unfold gU jg jh;simp [h,fZ]
 rw [hres]
 simp only [aS,h]
 clear hres
 go_enter Tryz.func120,Tryz.ntmps120
 go_upto_region 1 with fail
 generalize wR:w.alloc _=tV
 generalize rD:tV.alloc _=o9
 have ⟨qK,T,R⟩:=dN wR rD
 clear wR rD
 have Wj:=qK
 clear qK
 obtain ⟨aA,dA,dn,dw,bV,dh,bP,cZ,bU,aJ⟩:=T.out.c10
 go_upto_region 11 with fail
 go_wp2_with (refine sR R.out ?_)
 clear aA dA dn dw bV dh bP cZ bU aJ
 generalize uY:o9.setRow _ _=MN
 replace T:=f1 T (eR uY)
 replace R:=aK R uY
 replace Wj:=tr Wj uY
 clear uY
 exact bodyPost_ret (v:=.agg #[.int .i64 5,.string ⟨x.name.toArray⟩,.int .i64 0,.int .i64 0,.int .i64 0,.slice none 0 0,.slice A2 x.aj.length c2,.int .i64 0,.int .i64 0,.bool false]) (by simp [results,Tryz.results120,go_sem,R.out.c10]) rfl (⟨rfl,Wj⟩)
set_option maxRecDepth 100000 in
theorem Zu (x:aC) (A1 A2:Option Addr) (c1 c2:Nat) (w:World) (h:x.kind=6) :
  Calls Tryz.prog 120 #[aS x (.slice A1 x.syms.length c1) (.slice A2 x.aj.length c2)] w fun e w' => e = .returned (aS (gU x) (jg x (.slice A1 x.syms.length c1)) (jh x (.slice A2 x.aj.length c2)))∧Below w.heap.size w w':=by
 have hres:aS (gU x) (jg x (.slice A1 x.syms.length c1)) (jh x (.slice A2 x.aj.length c2)) = .agg #[.int .i64 6,.string ⟨x.name.toArray⟩,.int .i64 0,.int .i64 0,.int .i64 0,.slice none 0 0,.slice A2 x.aj.length c2,.int .i64 0,.int .i64 0,.bool x.opn]:=by unfold gU jg jh;simp [h,fZ]
 rw [hres]
 simp only [aS,h]
 clear hres
 go_enter Tryz.func120,Tryz.ntmps120
 go_upto_region 1 with fail
 generalize zS:w.alloc _=P7
 generalize mF:P7.alloc _=wI
 have ⟨G6,T,R⟩:=dN zS mF
 clear zS mF
 have Vq:=G6
 clear G6
 obtain ⟨aA,dA,dn,dw,bV,dh,bP,cZ,bU,aJ⟩:=T.out.c10
 go_upto_region 13 with fail
 go_wp2_with (refine sR R.out ?_)
 clear aA dA dn dw bV dh bP cZ bU aJ
 generalize xM:wI.setRow _ _=E8
 replace T:=f1 T (eR xM)
 replace R:=aK R xM
 replace Vq:=tr Vq xM
 clear xM
 exact bodyPost_ret (v:=.agg #[.int .i64 6,.string ⟨x.name.toArray⟩,.int .i64 0,.int .i64 0,.int .i64 0,.slice none 0 0,.slice A2 x.aj.length c2,.int .i64 0,.int .i64 0,.bool x.opn]) (by simp [results,Tryz.results120,go_sem,R.out.c10]) rfl (⟨rfl,Vq⟩)
set_option maxRecDepth 100000 in
theorem Zv (x:aC) (A1 A2:Option Addr) (c1 c2:Nat) (w:World) (h:x.kind=7) :
  Calls Tryz.prog 120 #[aS x (.slice A1 x.syms.length c1) (.slice A2 x.aj.length c2)] w fun e w' => e = .returned (aS (gU x) (jg x (.slice A1 x.syms.length c1)) (jh x (.slice A2 x.aj.length c2)))∧Below w.heap.size w w':=by
 have hres:aS (gU x) (jg x (.slice A1 x.syms.length c1)) (jh x (.slice A2 x.aj.length c2)) = .agg #[.int .i64 7,.string ⟨#[]⟩,.int .i64 0,.int .i64 0,.int .i64 x.max,.slice none 0 0,.slice none 0 0,.int .i64 0,.int .i64 x.elem,.bool false]:=by unfold gU jg jh;simp [h,fZ]
 rw [hres]
 simp only [aS,h]
 clear hres
 go_enter Tryz.func120,Tryz.ntmps120
 go_upto_region 1 with fail
 generalize qg:w.alloc _=Dp
 generalize qh:Dp.alloc _=xO
 have ⟨vK,T,R⟩:=dN qg qh
 clear qg qh
 have Wn:=vK
 clear vK
 obtain ⟨aA,dA,dn,dw,bV,dh,bP,cZ,bU,aJ⟩:=T.out.c10
 go_upto_region 15 with fail
 go_wp2_with (refine sR R.out ?_)
 clear aA dA dn dw bV dh bP cZ bU aJ
 generalize jk:xO.setRow _ _=qE
 replace T:=f1 T (eR jk)
 replace R:=aK R jk
 replace Wn:=tr Wn jk
 clear jk
 exact bodyPost_ret (v:=.agg #[.int .i64 7,.string ⟨#[]⟩,.int .i64 0,.int .i64 0,.int .i64 x.max,.slice none 0 0,.slice none 0 0,.int .i64 0,.int .i64 x.elem,.bool false]) (by simp [results,Tryz.results120,go_sem,R.out.c10]) rfl (⟨rfl,Wn⟩)
set_option maxRecDepth 100000 in
theorem Zw (x:aC) (A1 A2:Option Addr) (c1 c2:Nat) (w:World) (h:x.kind=8) :
  Calls Tryz.prog 120 #[aS x (.slice A1 x.syms.length c1) (.slice A2 x.aj.length c2)] w fun e w' => e = .returned (aS (gU x) (jg x (.slice A1 x.syms.length c1)) (jh x (.slice A2 x.aj.length c2)))∧Below w.heap.size w w':=by
 have hres:aS (gU x) (jg x (.slice A1 x.syms.length c1)) (jh x (.slice A2 x.aj.length c2)) = .agg #[.int .i64 8,.string ⟨#[]⟩,.int .i64 0,.int .i64 0,.int .i64 x.max,.slice none 0 0,.slice none 0 0,.int .i64 x.key,.int .i64 x.elem,.bool false]:=by unfold gU jg jh;simp [h,fZ]
 rw [hres]
 simp only [aS,h]
 clear hres
 go_enter Tryz.func120,Tryz.ntmps120
 go_upto_region 1 with fail
 generalize kH:w.alloc _=oL
 generalize vg:oL.alloc _=zW
 have ⟨qI,T,R⟩:=dN kH vg
 clear kH vg
 have oN:=qI
 clear qI
 obtain ⟨aA,dA,dn,dw,bV,dh,bP,cZ,bU,aJ⟩:=T.out.c10
 go_upto_region 17 with fail
 go_wp2_with (refine sR R.out ?_)
 clear aA dA dn dw bV dh bP cZ bU aJ
 generalize rQ:zW.setRow _ _=MH
 replace T:=f1 T (eR rQ)
 replace R:=aK R rQ
 replace oN:=tr oN rQ
 clear rQ
 exact bodyPost_ret (v:=.agg #[.int .i64 8,.string ⟨#[]⟩,.int .i64 0,.int .i64 0,.int .i64 x.max,.slice none 0 0,.slice none 0 0,.int .i64 x.key,.int .i64 x.elem,.bool false]) (by simp [results,Tryz.results120,go_sem,R.out.c10]) rfl (⟨rfl,oN⟩)
set_option maxRecDepth 100000 in
theorem Zx (x:aC) (A1 A2:Option Addr) (c1 c2:Nat) (w:World) (h:x.kind=9) :
  Calls Tryz.prog 120 #[aS x (.slice A1 x.syms.length c1) (.slice A2 x.aj.length c2)] w fun e w' => e = .returned (aS (gU x) (jg x (.slice A1 x.syms.length c1)) (jh x (.slice A2 x.aj.length c2)))∧Below w.heap.size w w':=by
 have hres:aS (gU x) (jg x (.slice A1 x.syms.length c1)) (jh x (.slice A2 x.aj.length c2)) = .agg #[.int .i64 9,.string ⟨#[]⟩,.int .i64 0,.int .i64 0,.int .i64 0,.slice none 0 0,.slice none 0 0,.int .i64 0,.int .i64 x.elem,.bool false]:=by unfold gU jg jh;simp [h,fZ]
 rw [hres]
 simp only [aS,h]
 clear hres
 go_enter Tryz.func120,Tryz.ntmps120
 go_upto_region 1 with fail
 generalize Dq:w.alloc _=Gg
 generalize zX:Gg.alloc _=MO
 have ⟨Dt,T,R⟩:=dN Dq zX
 clear Dq zX
 have oz:=Dt
 clear Dt
 obtain ⟨aA,dA,dn,dw,bV,dh,bP,cZ,bU,aJ⟩:=T.out.c10
 go_upto_region 18 with fail
 go_wp2_with (refine sR R.out ?_)
 clear aA dA dn dw bV dh bP cZ bU aJ
 generalize G8:MO.setRow _ _=YH
 replace T:=f1 T (eR G8)
 replace R:=aK R G8
 replace oz:=tr oz G8
 clear G8
 exact bodyPost_ret (v:=.agg #[.int .i64 9,.string ⟨#[]⟩,.int .i64 0,.int .i64 0,.int .i64 0,.slice none 0 0,.slice none 0 0,.int .i64 0,.int .i64 x.elem,.bool false]) (by simp [results,Tryz.results120,go_sem,R.out.c10]) rfl (⟨rfl,oz⟩)
theorem ab2 (x:aC) (vs vm:Value) (w:World) (hk:fJ x.kind) (hs:∃ A1 c1,vs = .slice A1 x.syms.length c1) (hm:∃ A2 c2,vm = .slice A2 x.aj.length c2) :
  Calls Tryz.prog 120 #[aS x vs vm] w fun e w' => e = .returned (aS (gU x) (jg x vs) (jh x vm))∧Below w.heap.size w w':=by
 obtain ⟨A1,c1,rfl⟩:=hs
 obtain ⟨A2,c2,rfl⟩:=hm
 rcases sN hk with h | h | h | h | h | h | h | h | h
 · exact Zo x A1 A2 c1 c2 w h
 · exact Zp x A1 A2 c1 c2 w h
 · exact Zq x A1 A2 c1 c2 w h
 · exact Zr x A1 A2 c1 c2 w h
 · exact Zt x A1 A2 c1 c2 w h
 · exact Zu x A1 A2 c1 c2 w h
 · exact Zv x A1 A2 c1 c2 w h
 · exact Zw x A1 A2 c1 c2 w h
 exact Zx x A1 A2 c1 c2 w h
end Go.Proofs.YthkfapcadhnaeaaGreatDoor
namespace Go.Proofs.YthkfapcadhnaeaaGreatDoor
open Go.ChangeShapes Go.WideShapes Go.ChangeAt Go.RowKit
def FI (b n:Int):Bool:=decide (b < n) && qV n
set_option maxRecDepth 100000 in
theorem Nw (b n:Int) (w:World):Calls Tryz.prog 147 #[.int .i64 b,.int .i64 n] w fun e w' => e = .returned (.bool (FI b n))∧w=w':=by
 have Hd:Hid (FI b n=(decide (b < n) && (decide (1≤n) && decide (n≤1000)))):=by show _=_;unfold FI qV;rw [Bool.eq_iff_iff];simp
 go_enter Tryz.func147,Tryz.ntmps147
 go_wp2
 all_goals
  go_ret
  exact ⟨au (by rw [Hd.out];first | rfl | (simp;done) | (simp;omega) | (rw [Bool.eq_iff_iff];simp;omega)),rfl⟩
def pX (l:List Raw) (k:Nat):Int:=match jU l k with | some a => a | none => 0
theorem Wp (l:List Raw) (k:Nat) (a:Int):(qV a && IU (jU l k) a)=FI (pX l k) a:=by
 unfold FI pX
 cases jU l k with
 | none =>
  simp only [IU,Bool.and_true]
  by_cases h:0 < a
  · rw [decide_eq_true h];rfl
  rw [decide_eq_false h]
  unfold qV
  rw [decide_eq_false (show ¬ (1≤a∧a≤1000) by omega)];rfl
 | some q => simp only [IU];rw [Bool.and_comm]
theorem Ih (l:List Raw) (k:Nat) (h:k < l.length):pX l (k+1)=l[k].1:=by unfold pX;rw [qJ l k h]
theorem wZ (l:List (List UInt8)) (q:Nat) (h:q < l.length) (s:List UInt8):(l.take (q+1)).contains s=((l.take q).contains s || l[q] == s):=by
 rw [List.take_succ_eq_append_getElem h,Bool.eq_iff_iff]
 simp only [List.contains_iff_mem,List.mem_append,List.mem_singleton,Bool.or_eq_true,beq_iff_eq]
 constructor
 ·
  rintro (h | h)
  · exact .inl h
  exact .inr h.symm
 rintro (h | h)
 · exact .inl h
 exact .inr h.symm
theorem F5 (l:List (List UInt8)) (q k:Nat) (h:q < k) (hk:k≤l.length):(l.take k).contains (l[q]'(by omega))=true:=by
 rw [List.contains_iff_mem,List.mem_take_iff_getElem]
 exact ⟨q,by omega,rfl⟩
set_option maxRecDepth 100000 in
theorem Wq (l:List Raw) (va:Value) (w:World) (hl:l.length≤140737488351232) (h1:Rd w w.heap.size 2 va l.length (iV l)) :
  Calls Tryz.prog 122 #[va] w fun e w' => e = .returned (.bool (sH l))∧Below w.heap.size w w':=by
 obtain ⟨A,c,rfl,hca⟩:=h1.form
 have H1:=Lib.hid h1
 clear h1
 go_enter Tryz.func122,Tryz.ntmps122
 go_wp2_with fail
 go_loopw [3,4] (fun b i wr => ∃ k:Nat,k≤l.length∧i = .int .i64 k∧b = .int .i64 (pX l k)∧kL l none []=kL (l.drop k) (jU l k) ((l.take k).map Prod.snd)∧Below w.heap.size w wr) (fun _ i _ => l.length - (intOf i).toNat)
 case atStart => exact ⟨0,by omega,rfl,rfl,by simp [jU],Below.refl _ _⟩
 case round =>
  obtain ⟨k,hk,rfl,rfl,hid,hb⟩:=hrel
  by_cases hlt:k < l.length
  ·
   obtain ⟨ba,o1,rfl,hb1,hc1⟩:=(H1.out.below hb).at_ (by omega)
   obtain ⟨x1,x2⟩:=nP hc1 k hlt
   rw [Qn l k hlt,← Bool.and_assoc,Wp] at hid
   have hi1:(k:Int) < l.length:=by omega
   obtain ⟨a,haq⟩ : ∃ a,l[k].1=a:=⟨_,rfl⟩
   obtain ⟨s,zA⟩ : ∃ s,l[k].2=s:=⟨_,rfl⟩
   rw [haq] at x1 hid
   rw [zA] at x2 hid
   have HZ:Hid (pX l (k+1)=a):=by show _=_;rw [Ih l k hlt,haq]
   have Ws:Hid (jU l (k+1)=some a):=by show _=_;rw [qJ l k hlt,haq]
   have Wu:Hid ((l.take k).map Prod.snd ++ [s]=(l.take (k+1)).map Prod.snd):=by show _=_;rw [← zA];exact sO l k hlt
   have HAQ:=Lib.hid haq
   have HSQ:=Lib.hid zA
   clear haq zA
   have rW:=fun W => Nw (pX l k) a W
   generalize pX l k=z at *
   clear hc1
   cases hia:FI z a with
   | false =>
    rw [hia] at rW hid
    have EN:=Lib.hid rW
    have Hno:Hid (sH l=false):=by show _=_;unfold sH kG;rw [hid];simp
    clear hid rW hia
    go_wp2_with fail
    refine (EN.out _).mono ?_
    rintro e w2 ⟨rfl,rfl⟩
    go_wp2_with fail
    go_ret
    exact ⟨au Hno.out.symm,hb⟩
   | true =>
    rw [hia,Bool.true_and] at hid
    rw [hia] at rW
    have EN:=Lib.hid rW
    clear rW hia
    have hname:=fun W => AL s W
    cases hn:nameB s with
    | false =>
     rw [hn] at hname hid
     have HN:=Lib.hid hname
     have Hno:Hid (sH l=false):=by show _=_;unfold sH kG;rw [hid];simp
     clear hid hname hn
     go_wp2_with fail
     refine (EN.out _).mono ?_
     rintro e w2 ⟨rfl,rfl⟩
     go_wp2_with fail
     refine (HN.out _).mono ?_
     rintro e w2 ⟨rfl,rfl⟩
     go_wp2_with fail
     go_ret
     exact ⟨au Hno.out.symm,hb⟩
    | true =>
     rw [hn,Bool.true_and] at hid
     rw [hn] at hname
     have HN:=Lib.hid hname
     have Jw:=Lib.hid hid
     clear hid hname hn
     go_wp2_with fail
     refine (EN.out _).mono ?_
     rintro e w2 ⟨rfl,rfl⟩
     go_wp2_with fail
     refine (HN.out _).mono ?_
     rintro e w2 ⟨rfl,rfl⟩
     go_wp2_with fail
     have Hb0:=Lib.hid hb
     go_loopw [5] (fun j ws => ∃ q:Nat,q≤k∧j = .int .i64 q∧((l.map Prod.snd).take q).contains s=false∧Below w.heap.size w ws) (fun j _ => k - (intOf j).toNat)
     case atStart => exact ⟨0,by omega,rfl,rfl,Hb0.out⟩
     case round =>
      clear hb Hb0 x1 x2
      obtain ⟨q,hq,rfl,hnc,hb⟩:=hrel
      have hcq:=(H1.out.below hb).at_ (by omega)
      obtain ⟨b2,o2,hbe,hb2,hc2⟩:=hcq
      injection hbe with hbe
      injection hbe with amK amL
      subst amK amL
      have z1:=(nP hc2 k hlt).1
      have z2:=(nP hc2 k hlt).2
      rw [HAQ.out] at z1
      rw [HSQ.out] at z2
      by_cases hqk:q < k
      ·
       have nD:q < l.length:=by omega
       have y2:=(nP hc2 q nD).2
       have hsu:=wZ (l.map Prod.snd) q (by simpa using nD) s
       have hit:=F5 (l.map Prod.snd) q k hqk (by simpa using hk)
       rw [List.getElem_map] at hsu hit
       have Zy:(q:Int) < k:=by omega
       have Zz:(q:Int) < l.length:=by omega
       generalize l[q].2=p at *
       clear hc2
       by_cases hps:p=s
       ·
        have BM:(p == s)=true:=by simp [hps]
        have Hno:Hid (sH l=false):=by
         show _=_
         unfold sH kG;rw [Jw.out,List.map_take,← hps,hit];simp
        clear hps hsu hit hnc
        go_upto_region 10 with fail
        go_quiet (fail)
        go_wp2_with fail
        go_ret
        exact ⟨au Hno.out.symm,below_drewN hb _⟩
       have BM:(p == s)=false:=by simpa using hps
       have JC:Hid (((l.map Prod.snd).take (q+1)).contains s=false):=by show _=_;rw [hsu,hnc,BM];rfl
       clear hps hsu hit hnc
       go_upto_region 10 with fail
       go_quiet (fail)
       go_wp2_with fail
       go_roundw
       case rel => exact ⟨q+1,by omega,by go_num,JC.out,below_drewN hb _⟩
       case measure => simp [intOf];omega
      obtain rfl:q=k:=by omega
      have jo:Hid (kL l none []=kL (l.drop (q+1)) (jU l (q+1)) ((l.take (q+1)).map Prod.snd)):=by
       show _=_
       rw [Jw.out,List.map_take,hnc,Ws.out,← Wu.out,List.map_take];rfl
      clear hc2 hnc
      go_wp2_with fail
      go_roundw
      case rel => exact ⟨q+1,by omega,by go_num,by rw [HZ.out],jo.out,hb⟩
      case measure => simp [intOf];omega
  obtain rfl:k=l.length:=by omega
  rw [List.drop_eq_nil_of_le (Nat.le_refl _),kL] at hid
  have Hs:Hid (sH l=(decide (1≤(l.length:Int)) && decide ((l.length:Int)≤16))):=by
   show _=_
   unfold sH kG;rw [hid,Bool.true_and]
   rw [Bool.eq_iff_iff];simp;omega
  clear hid
  go_wp2_with fail
  all_goals
   go_ret
   exact ⟨au (by rw [Hs.out];first | rfl | (simp;done) | (rw [Bool.eq_iff_iff];simp;omega) | simp_all),hb⟩
end Go.Proofs.YthkfapcadhnaeaaGreatDoor
