/- What schema.form computes. No condition. -/
import Derived.Test.YthkfapcadhnaeaaGreatDoorMembers
import Derived.Test.YthkfapcadhnaeaaGreatDoorHAG
set_option maxHeartbeats 4000000
namespace Go.Proofs.YthkfapcadhnaeaaGreatDoor
open Go.ChangeShapes Go.WideShapes Go.ChangeAt Go.RowKit
def fZ:aC:={ kind:=0,name:=[],low:=0,high:=0,max:=0,syms:=[],aj:=[],key:=0,elem:=0,opn:=false }
def fQ (x:aC):aC :=
 if x.kind=2 then { x with kind:=0,low:=0,high:=0 }
 else if x.kind=3 then { x with kind:=0,max:=0 }
 else if x.kind=4 then { x with kind:=0,name:=[],syms:=[],opn:=false }
 else if x.kind=5 then { x with kind:=0,name:=[],aj:=[] }
 else if x.kind=6 then { x with kind:=0,name:=[],aj:=[],opn:=false }
 else if x.kind=7 then { x with kind:=0,max:=0,elem:=0 }
 else if x.kind=8 then { x with kind:=0,max:=0,elem:=0,key:=0 }
 else if x.kind=9 then { x with kind:=0,elem:=0 }
 else { x with kind:=0 }
def rM (x:aC):Bool :=
 if x.kind=2 then decide (x.low≤x.high)
 else if x.kind=3 then decide (0≤x.max) && decide (x.max≤200)
 else if x.kind=4 then nameB x.name && sH x.syms
 else if x.kind=5∨x.kind=6 then nameB x.name && fU x
 else if x.kind=7∨x.kind=8 then decide (0≤x.max) && decide (x.max≤50)
 else true
def dH (x:aC):Bool:=decide (1≤x.kind∧x.kind≤9) && (rM x && gy (fQ x) fZ)
theorem qw (x:aC) (h:fJ x.kind):dH x=(rM x && gy (fQ x) fZ):=by
 unfold dH fJ at *;rw [decide_eq_true h];rfl
set_option maxRecDepth 100000 in
theorem abm (x:aC) (A1 A2:Option Addr) (c1 c2:Nat) (w:World) (h:x.kind=1) (_:x.syms.length≤6000000000000∧x.aj.length≤6000000000000) (_:eX w w.heap.size x (.slice A1 x.syms.length c1) (.slice A2 x.aj.length c2)) :
  Calls Tryz.prog 89 #[aS x (.slice A1 x.syms.length c1) (.slice A2 x.aj.length c2)] w fun e w' => e = .returned (.bool (dH x))∧Below w.heap.size w w':=by
 have hrt:fQ x = { x with kind:=0 }:=by unfold fQ;simp [h]
 have hf:=qw x (by rw [h];unfold fJ;omega)
 have hc:∀ W,Calls Tryz.prog 129 #[.agg #[.int .i64 0,.string ⟨x.name.toArray⟩,.int .i64 x.low,.int .i64 x.high,.int .i64 x.max,.slice A1 x.syms.length c1,.slice A2 x.aj.length c2,.int .i64 x.key,.int .i64 x.elem,.bool x.opn],.agg #[.int .i64 0,.string ⟨#[]⟩,.int .i64 0,.int .i64 0,.int .i64 0,.slice none 0 0,.slice none 0 0,.int .i64 0,.int .i64 0,.bool false]] W fun e w' => e = .returned (.bool (gy (fQ x) fZ))∧Below W.heap.size W w':=fun W => by
  rw [hrt]
  exact lI ({ x with kind:=0 } : aC) fZ A1 A2 c1 c2 W
 have hok:rM x=true:=by unfold rM;simp [h]
 rw [hok] at hf
 have HC:=Lib.hid hc
 clear hc hok hrt
 simp only [aS,h]
 go_enter Tryz.func89,Tryz.ntmps89
 go_upto_region 1 with fail
 generalize dJ:w.alloc _=wd2
 have ⟨hb1,T⟩:=bH dJ
 clear dJ
 have hw4:=hb1
 clear hb1
 obtain ⟨aA,dA,dn,dw,bV,dh,bP,cZ,bU,aJ⟩:=T.out.c10
 go_upto_region 2 with fail
 clear aA dA dn dw bV dh bP cZ bU aJ
 generalize iT:wd2.alloc _=wV
 have ⟨hb5,R⟩:=bH iT
 clear iT
 have hl9:=T.out.here
 have Ls:=hw4.size
 replace T:=b1 T hb5
 replace hw4:=dT hw4 hb5
 clear hb5
 generalize wd2.heap.size=g8 at *
 have dZ:=R.out.e0
 have pI:=R.out.free 0
 go_upto_region 3 with fail
 clear dZ pI
 generalize GK:wV.setCell _ _=rO
 replace T:=f1 T (eF GK)
 replace R:=IJ R GK
 replace hw4:=tf hw4 GK
 clear GK
 obtain ⟨aA,dA,dn,dw,bV,dh,bP,cZ,bU,aJ⟩:=T.out.c10
 have Hf:Hid (dH x=gy (fQ x) fZ):=by show _=_;rw [hf];rfl
 clear hf h
 go_upto_region 29 with fail
 obtain ⟨dZ,dU,gY,gZ,fA,gG,eu,gJ,fE,dV⟩:=R.out.c10
 go_wp2_with fail
 clear aA dA dn dw bV dh bP cZ bU aJ dZ dU gY gZ fA gG eu gJ fE dV
 ((with_reducible refine (HC.out _).mono ?_);rintro e tN ⟨rfl,o7⟩)
 obtain ⟨T,R⟩:=b2 T R o7
 replace hw4:=dT hw4 o7
 clear o7
 go_wp2_with fail
 go_ret
 exact ⟨au Hf.out.symm,hw4⟩
set_option maxRecDepth 100000 in
theorem abn (x:aC) (A1 A2:Option Addr) (c1 c2:Nat) (w:World) (h:x.kind=2) (_:x.syms.length≤6000000000000∧x.aj.length≤6000000000000) (_:eX w w.heap.size x (.slice A1 x.syms.length c1) (.slice A2 x.aj.length c2)) :
  Calls Tryz.prog 89 #[aS x (.slice A1 x.syms.length c1) (.slice A2 x.aj.length c2)] w fun e w' => e = .returned (.bool (dH x))∧Below w.heap.size w w':=by
 have hrt:fQ x = { x with kind:=0,low:=0,high:=0 }:=by unfold fQ;simp [h]
 have hf:=qw x (by rw [h];unfold fJ;omega)
 have hc:∀ W,Calls Tryz.prog 129 #[.agg #[.int .i64 0,.string ⟨x.name.toArray⟩,.int .i64 0,.int .i64 0,.int .i64 x.max,.slice A1 x.syms.length c1,.slice A2 x.aj.length c2,.int .i64 x.key,.int .i64 x.elem,.bool x.opn],.agg #[.int .i64 0,.string ⟨#[]⟩,.int .i64 0,.int .i64 0,.int .i64 0,.slice none 0 0,.slice none 0 0,.int .i64 0,.int .i64 0,.bool false]] W fun e w' => e = .returned (.bool (gy (fQ x) fZ))∧Below W.heap.size W w':=fun W => by
  rw [hrt]
  exact lI ({ x with kind:=0,low:=0,high:=0 } : aC) fZ A1 A2 c1 c2 W
 have hok:rM x=decide (x.low≤x.high):=by unfold rM;simp [h]
 rw [hok] at hf
 have HC:=Lib.hid hc
 clear hc hok hrt
 simp only [aS,h]
 go_enter Tryz.func89,Tryz.ntmps89
 go_upto_region 1 with fail
 generalize mZ:w.alloc _=qH
 have ⟨uV,T⟩:=bH mZ
 clear mZ
 have sJ:=uV
 clear uV
 obtain ⟨aA,dA,dn,dw,bV,dh,bP,cZ,bU,aJ⟩:=T.out.c10
 go_upto_region 2 with fail
 clear aA dA dn dw bV dh bP cZ bU aJ
 generalize kD:qH.alloc _=nS
 have ⟨pz,R⟩:=bH kD
 clear kD
 have Pv:=T.out.here
 have Gf:=sJ.size
 replace T:=b1 T pz
 replace sJ:=dT sJ pz
 clear pz
 generalize qH.heap.size=g22 at *
 have dZ:=R.out.e0
 have pI:=R.out.free 0
 go_upto_region 3 with fail
 clear dZ pI
 generalize MQ:nS.setCell _ _=Bj
 replace T:=f1 T (eF MQ)
 replace R:=IJ R MQ
 replace sJ:=tf sJ MQ
 clear MQ
 obtain ⟨aA,dA,dn,dw,bV,dh,bP,cZ,bU,aJ⟩:=T.out.c10
 by_cases hlo:x.low≤x.high
 ·
  have hd:decide (x.low≤x.high)=true:=decide_eq_true hlo
  have Hf:Hid (dH x=gy (fQ x) fZ):=by show _=_;rw [hf,hd];rfl
  clear hf h
  have gY:=R.out.e2
  have gZ:=R.out.e3
  have adw:=R.out.free 2
  have adx:=R.out.free 3
  go_upto_region 29 with fail
  clear aA dA dn dw bV dh bP cZ bU aJ gY gZ adw adx
  generalize tY:Bj.setCell _ _=uX
  replace T:=f1 T (eF tY)
  replace R:=dS2 R tY
  replace sJ:=tf sJ tY
  clear tY
  generalize tJ:uX.setCell _ _=Bo
  replace T:=f1 T (eF tJ)
  replace R:=dS3 R tJ
  replace sJ:=tf sJ tJ
  clear tJ
  obtain ⟨dZ,dU,gY,gZ,fA,gG,eu,gJ,fE,dV⟩:=R.out.c10
  go_wp2_with fail
  clear dZ dU gY gZ fA gG eu gJ fE dV
  ((with_reducible refine (HC.out _).mono ?_);rintro e wP ⟨rfl,rJ⟩)
  obtain ⟨T,R⟩:=b2 T R rJ
  replace sJ:=dT sJ rJ
  clear rJ
  go_wp2_with fail
  go_ret
  exact ⟨au Hf.out.symm,sJ⟩
 have hd:decide (x.low≤x.high)=false:=decide_eq_false hlo
 have Hf:Hid (dH x=false):=by show _=_;rw [hf,hd];rfl
 clear hf h
 have gY:=R.out.e2
 have gZ:=R.out.e3
 have adw:=R.out.free 2
 have adx:=R.out.free 3
 go_upto_region 29 with fail
 clear aA dA dn dw bV dh bP cZ bU aJ gY gZ adw adx
 generalize mY:Bj.setCell _ _=mW
 replace T:=f1 T (eF mY)
 replace R:=dS2 R mY
 replace sJ:=tf sJ mY
 clear mY
 generalize yc:mW.setCell _ _=uO
 replace T:=f1 T (eF yc)
 replace R:=dS3 R yc
 replace sJ:=tf sJ yc
 clear yc
 obtain ⟨dZ,dU,gY,gZ,fA,gG,eu,gJ,fE,dV⟩:=R.out.c10
 go_wp2_with fail
 go_ret
 exact ⟨au Hf.out.symm,sJ⟩
set_option maxRecDepth 100000 in
theorem abo (x:aC) (A1 A2:Option Addr) (c1 c2:Nat) (w:World) (h:x.kind=3) (_:x.syms.length≤6000000000000∧x.aj.length≤6000000000000) (_:eX w w.heap.size x (.slice A1 x.syms.length c1) (.slice A2 x.aj.length c2)) :
  Calls Tryz.prog 89 #[aS x (.slice A1 x.syms.length c1) (.slice A2 x.aj.length c2)] w fun e w' => e = .returned (.bool (dH x))∧Below w.heap.size w w':=by
 have hrt:fQ x = { x with kind:=0,max:=0 }:=by unfold fQ;simp [h]
 have hf:=qw x (by rw [h];unfold fJ;omega)
 have hc:∀ W,Calls Tryz.prog 129 #[.agg #[.int .i64 0,.string ⟨x.name.toArray⟩,.int .i64 x.low,.int .i64 x.high,.int .i64 0,.slice A1 x.syms.length c1,.slice A2 x.aj.length c2,.int .i64 x.key,.int .i64 x.elem,.bool x.opn],.agg #[.int .i64 0,.string ⟨#[]⟩,.int .i64 0,.int .i64 0,.int .i64 0,.slice none 0 0,.slice none 0 0,.int .i64 0,.int .i64 0,.bool false]] W fun e w' => e = .returned (.bool (gy (fQ x) fZ))∧Below W.heap.size W w':=fun W => by
  rw [hrt]
  exact lI ({ x with kind:=0,max:=0 } : aC) fZ A1 A2 c1 c2 W
 have hok:rM x=(decide (0≤x.max) && decide (x.max≤200)):=by unfold rM;simp [h]
 rw [hok] at hf
 have HC:=Lib.hid hc
 clear hc hok hrt
 simp only [aS,h]
 go_enter Tryz.func89,Tryz.ntmps89
 go_upto_region 1 with fail
 generalize vC:w.alloc _=sD
 have ⟨Ac,T⟩:=bH vC
 clear vC
 have fV:=Ac
 clear Ac
 obtain ⟨aA,dA,dn,dw,bV,dh,bP,cZ,bU,aJ⟩:=T.out.c10
 go_upto_region 2 with fail
 clear aA dA dn dw bV dh bP cZ bU aJ
 generalize zS:sD.alloc _=P7
 have ⟨G6,R⟩:=bH zS
 clear zS
 have XR:=T.out.here
 have acI:=fV.size
 replace T:=b1 T G6
 replace fV:=dT fV G6
 clear G6
 generalize sD.heap.size=g44 at *
 have dZ:=R.out.e0
 have pI:=R.out.free 0
 go_upto_region 3 with fail
 clear dZ pI
 generalize xM:P7.setCell _ _=E8
 replace T:=f1 T (eF xM)
 replace R:=IJ R xM
 replace fV:=tf fV xM
 clear xM
 obtain ⟨aA,dA,dn,dw,bV,dh,bP,cZ,bU,aJ⟩:=T.out.c10
 by_cases hlo:0≤x.max
 ·
  have hd:decide (0≤x.max)=true:=decide_eq_true hlo
  by_cases hhi:x.max≤200
  ·
   have hd2:decide (x.max≤200)=true:=decide_eq_true hhi
   have Hf:Hid (dH x=gy (fQ x) fZ):=by show _=_;rw [hf,hd,hd2];rfl
   clear hf h
   have fA:=R.out.e4
   have vF:=R.out.free 4
   go_upto_region 29 with fail
   clear aA dA dn dw bV dh bP cZ bU aJ fA vF
   generalize FC:E8.setCell _ _=G7
   replace T:=f1 T (eF FC)
   replace R:=Jk R FC
   replace fV:=tf fV FC
   clear FC
   obtain ⟨dZ,dU,gY,gZ,fA,gG,eu,gJ,fE,dV⟩:=R.out.c10
   go_wp2_with fail
   clear dZ dU gY gZ fA gG eu gJ fE dV
   ((with_reducible refine (HC.out _).mono ?_);rintro e DL ⟨rfl,MR⟩)
   obtain ⟨T,R⟩:=b2 T R MR
   replace fV:=dT fV MR
   clear MR
   go_wp2_with fail
   go_ret
   exact ⟨au Hf.out.symm,fV⟩
  have hd2:decide (x.max≤200)=false:=decide_eq_false hhi
  have Hf:Hid (dH x=false):=by show _=_;rw [hf,hd,hd2];rfl
  clear hf h
  have fA:=R.out.e4
  have vF:=R.out.free 4
  go_upto_region 29 with fail
  clear aA dA dn dw bV dh bP cZ bU aJ fA vF
  generalize GV:E8.setCell _ _=adt
  replace T:=f1 T (eF GV)
  replace R:=Jk R GV
  replace fV:=tf fV GV
  clear GV
  obtain ⟨dZ,dU,gY,gZ,fA,gG,eu,gJ,fE,dV⟩:=R.out.c10
  go_wp2_with fail
  go_ret
  exact ⟨au Hf.out.symm,fV⟩
 have hd:decide (0≤x.max)=false:=decide_eq_false hlo
 have Hf:Hid (dH x=false):=by show _=_;rw [hf,hd];rfl
 clear hf h
 have fA:=R.out.e4
 have vF:=R.out.free 4
 go_upto_region 29 with fail
 clear aA dA dn dw bV dh bP cZ bU aJ fA vF
 generalize jk:E8.setCell _ _=qE
 replace T:=f1 T (eF jk)
 replace R:=Jk R jk
 replace fV:=tf fV jk
 clear jk
 obtain ⟨dZ,dU,gY,gZ,fA,gG,eu,gJ,fE,dV⟩:=R.out.c10
 go_wp2_with fail
 go_ret
 exact ⟨au Hf.out.symm,fV⟩
set_option maxRecDepth 100000 in
theorem abp (x:aC) (A1 A2:Option Addr) (c1 c2:Nat) (w:World) (h:x.kind=4) (hl:x.syms.length≤6000000000000∧x.aj.length≤6000000000000) (ht:eX w w.heap.size x (.slice A1 x.syms.length c1) (.slice A2 x.aj.length c2)) :
  Calls Tryz.prog 89 #[aS x (.slice A1 x.syms.length c1) (.slice A2 x.aj.length c2)] w fun e w' => e = .returned (.bool (dH x))∧Below w.heap.size w w':=by
 have hrt:fQ x = { x with kind:=0,name:=[],syms:=[],opn:=false }:=by unfold fQ;simp [h]
 have hf:=qw x (by rw [h];unfold fJ;omega)
 have hc:∀ W,Calls Tryz.prog 129 #[.agg #[.int .i64 0,.string ⟨#[]⟩,.int .i64 x.low,.int .i64 x.high,.int .i64 x.max,.slice none 0 0,.slice A2 x.aj.length c2,.int .i64 x.key,.int .i64 x.elem,.bool false],.agg #[.int .i64 0,.string ⟨#[]⟩,.int .i64 0,.int .i64 0,.int .i64 0,.slice none 0 0,.slice none 0 0,.int .i64 0,.int .i64 0,.bool false]] W fun e w' => e = .returned (.bool (gy (fQ x) fZ))∧Below W.heap.size W w':=fun W => by
  rw [hrt]
  exact lI ({ x with kind:=0,name:=[],syms:=[],opn:=false } : aC) fZ none A2 0 c2 W
 have hok:rM x=(nameB x.name && sH x.syms):=by unfold rM;simp [h]
 rw [hok] at hf
 have HC:=Lib.hid hc
 have HN:=Lib.hid (fun W => sK x.name W)
 have HS:=Lib.hid (fun W hW => WS x.syms (.slice A1 x.syms.length c1) W hl.1 ht.abq ((ht.syms.below (w':=W) hW).mono hW.size))
 clear hc hok hrt ht
 simp only [aS,h]
 go_enter Tryz.func89,Tryz.ntmps89
 go_upto_region 1 with fail
 generalize kH:w.alloc _=oL
 have ⟨qI,T⟩:=bH kH
 clear kH
 have jc:=qI
 clear qI
 obtain ⟨aA,dA,dn,dw,bV,dh,bP,cZ,bU,aJ⟩:=T.out.c10
 go_upto_region 2 with fail
 clear aA dA dn dw bV dh bP cZ bU aJ
 generalize nV:oL.alloc _=wG
 have ⟨pF,R⟩:=bH nV
 clear nV
 have IW:=T.out.here
 have Gt:=jc.size
 replace T:=b1 T pF
 replace jc:=dT jc pF
 clear pF
 generalize oL.heap.size=g64 at *
 have dZ:=R.out.e0
 have pI:=R.out.free 0
 go_upto_region 3 with fail
 clear dZ pI
 generalize wS:wG.setCell _ _=MI
 replace T:=f1 T (eF wS)
 replace R:=IJ R wS
 replace jc:=tf jc wS
 clear wS
 obtain ⟨aA,dA,dn,dw,bV,dh,bP,cZ,bU,aJ⟩:=T.out.c10
 go_wp2_with fail
 clear aA dA dn dw bV dh bP cZ bU aJ
 ((with_reducible refine (HN.out _).mono ?_);rintro e DU ⟨rfl,rfl⟩)
 cases hn:nameB x.name with
 | false =>
  have Hf:Hid (dH x=false):=by show _=_;rw [hf,hn];rfl
  clear hf h
  obtain ⟨-,dU,-,-,-,gG,-,-,-,dV⟩:=R.out.c10
  have lJ:=R.out.free 1
  have Vs:=R.out.free 5
  have lK:=R.out.free 9
  go_upto_region 29 with fail
  clear dU gG dV lJ Vs lK
  generalize G8:MI.setCell _ _=YH
  replace T:=f1 T (eF G8)
  replace R:=yC R G8
  replace jc:=tf jc G8
  clear G8
  generalize zN:YH.setCell _ _=Jb
  replace T:=f1 T (eF zN)
  replace R:=Xe R zN
  replace jc:=tf jc zN
  clear zN
  generalize MS:Jb.setCell _ _=UR
  replace T:=f1 T (eF MS)
  replace R:=DX R MS
  replace jc:=tf jc MS
  clear MS
  obtain ⟨dZ,dU,gY,gZ,fA,gG,eu,gJ,fE,dV⟩:=R.out.c10
  go_wp2_with fail
  go_ret
  exact ⟨au Hf.out.symm,jc⟩
 | true =>
  obtain ⟨aA,dA,dn,dw,bV,dh,bP,cZ,bU,aJ⟩:=T.out.c10
  go_wp2_with fail
  clear aA dA dn dw bV dh bP cZ bU aJ
  ((with_reducible refine (HS.out _ (jc)).mono ?_);rintro e Jc ⟨rfl,FD⟩)
  obtain ⟨T,R⟩:=b2 T R FD
  replace jc:=dT jc FD
  clear FD
  cases hs:sH x.syms with
  | false =>
   have Hf:Hid (dH x=false):=by show _=_;rw [hf,hn,hs];rfl
   clear hf h
   obtain ⟨-,dU,-,-,-,gG,-,-,-,dV⟩:=R.out.c10
   have lJ:=R.out.free 1
   have Vs:=R.out.free 5
   have lK:=R.out.free 9
   go_upto_region 29 with fail
   clear dU gG dV lJ Vs lK
   generalize BD:Jc.setCell _ _=YI
   replace T:=f1 T (eF BD)
   replace R:=yC R BD
   replace jc:=tf jc BD
   clear BD
   generalize tu:YI.setCell _ _=Gh
   replace T:=f1 T (eF tu)
   replace R:=Xe R tu
   replace jc:=tf jc tu
   clear tu
   generalize zf:Gh.setCell _ _=MW
   replace T:=f1 T (eF zf)
   replace R:=DX R zf
   replace jc:=tf jc zf
   clear zf
   obtain ⟨dZ,dU,gY,gZ,fA,gG,eu,gJ,fE,dV⟩:=R.out.c10
   go_wp2_with fail
   go_ret
   exact ⟨au Hf.out.symm,jc⟩
  | true =>
   have Hf:Hid (dH x=gy (fQ x) fZ):=by show _=_;rw [hf,hn,hs];rfl
   clear hf h
   obtain ⟨-,dU,-,-,-,gG,-,-,-,dV⟩:=R.out.c10
   have lJ:=R.out.free 1
   have Vs:=R.out.free 5
   have lK:=R.out.free 9
   go_upto_region 29 with fail
   clear dU gG dV lJ Vs lK
   generalize tC:Jc.setCell _ _=Gj
   replace T:=f1 T (eF tC)
   replace R:=yC R tC
   replace jc:=tf jc tC
   clear tC
   generalize Fz:Gj.setCell _ _=DJ
   replace T:=f1 T (eF Fz)
   replace R:=Xe R Fz
   replace jc:=tf jc Fz
   clear Fz
   generalize G9:DJ.setCell _ _=al9
   replace T:=f1 T (eF G9)
   replace R:=DX R G9
   replace jc:=tf jc G9
   clear G9
   obtain ⟨dZ,dU,gY,gZ,fA,gG,eu,gJ,fE,dV⟩:=R.out.c10
   go_wp2_with fail
   clear dZ dU gY gZ fA gG eu gJ fE dV
   ((with_reducible refine (HC.out _).mono ?_);rintro e ahA ⟨rfl,DY⟩)
   obtain ⟨T,R⟩:=b2 T R DY
   replace jc:=dT jc DY
   clear DY
   go_wp2_with fail
   go_ret
   exact ⟨au Hf.out.symm,jc⟩
set_option maxRecDepth 100000 in
theorem RJ (x:aC) (A1 A2:Option Addr) (c1 c2:Nat) (w:World) (h:x.kind=5) (hop:x.opn=true) (hl:x.syms.length≤6000000000000∧x.aj.length≤6000000000000) (ht:eX w w.heap.size x (.slice A1 x.syms.length c1) (.slice A2 x.aj.length c2)) :
  Calls Tryz.prog 89 #[aS x (.slice A1 x.syms.length c1) (.slice A2 x.aj.length c2)] w fun e w' => e = .returned (.bool (dH x))∧Below w.heap.size w w':=by
 have hrt:fQ x = { x with kind:=0,name:=[],aj:=[],opn:=true }:=by unfold fQ;simp [h,hop]
 have hf:=qw x (by rw [h];unfold fJ;omega)
 have hc:∀ W,Calls Tryz.prog 129 #[.agg #[.int .i64 0,.string ⟨#[]⟩,.int .i64 x.low,.int .i64 x.high,.int .i64 x.max,.slice A1 x.syms.length c1,.slice none 0 0,.int .i64 x.key,.int .i64 x.elem,.bool true],.agg #[.int .i64 0,.string ⟨#[]⟩,.int .i64 0,.int .i64 0,.int .i64 0,.slice none 0 0,.slice none 0 0,.int .i64 0,.int .i64 0,.bool false]] W fun e w' => e = .returned (.bool (gy (fQ x) fZ))∧Below W.heap.size W w':=fun W => by
  rw [hrt]
  exact lI ({ x with kind:=0,name:=[],aj:=[],opn:=true } : aC) fZ A1 none c1 0 W
 have hok:rM x=(nameB x.name && fU x):=by unfold rM;simp [h]
 rw [hok] at hf
 have HC:=Lib.hid hc
 have HN:=Lib.hid (fun W => sK x.name W)
 have hm:=fun W hW => Aw x (.slice A1 x.syms.length c1) (.slice A2 x.aj.length c2) W hl.2 (ht.on (w':=W) hW)
 simp only [aS,h,hop] at hm
 have HM:=Lib.hid hm
 clear hm
 clear hc hok hrt ht
 simp only [aS,h,hop]
 clear hop
 go_enter Tryz.func89,Tryz.ntmps89
 go_upto_region 1 with fail
 generalize zY:w.alloc _=DV
 have ⟨Vt,T⟩:=bH zY
 clear zY
 have iD:=Vt
 clear Vt
 obtain ⟨aA,dA,dn,dw,bV,dh,bP,cZ,bU,aJ⟩:=T.out.c10
 go_upto_region 2 with fail
 clear aA dA dn dw bV dh bP cZ bU aJ
 generalize zZ:DV.alloc _=Ji
 have ⟨DZ,R⟩:=bH zZ
 clear zZ
 have Yh:=T.out.here
 have YJ:=iD.size
 replace T:=b1 T DZ
 replace iD:=dT iD DZ
 clear DZ
 generalize DV.heap.size=ama at *
 have dZ:=R.out.e0
 have pI:=R.out.free 0
 go_upto_region 3 with fail
 clear dZ pI
 generalize GY:Ji.setCell _ _=RP
 replace T:=f1 T (eF GY)
 replace R:=IJ R GY
 replace iD:=tf iD GY
 clear GY
 obtain ⟨aA,dA,dn,dw,bV,dh,bP,cZ,bU,aJ⟩:=T.out.c10
 go_wp2_with fail
 clear aA dA dn dw bV dh bP cZ bU aJ
 ((with_reducible refine (HN.out _).mono ?_);rintro e Ob ⟨rfl,rfl⟩)
 cases hn:nameB x.name with
 | false =>
  have Hf:Hid (dH x=false):=by show _=_;rw [hf,hn];rfl
  clear hf h
  have aA:=T.out.e0
  have aJ:=T.out.e9
  have dU:=R.out.e1
  have eu:=R.out.e6
  have lJ:=R.out.free 1
  have pJ:=R.out.free 6
  go_upto_region 20 with fail
  clear aA aJ dU eu lJ pJ
  generalize Cj:RP.setCell _ _=YK
  replace T:=f1 T (eF Cj)
  replace R:=yC R Cj
  replace iD:=tf iD Cj
  clear Cj
  generalize Sv:YK.setCell _ _=SA
  replace T:=f1 T (eF Sv)
  replace R:=uf R Sv
  replace iD:=tf iD Sv
  clear Sv
  have aA:=T.out.e0
  have aJ:=T.out.e9
  have dV:=R.out.e9
  have lK:=R.out.free 9
  go_upto_region 29 with fail
  clear aA aJ dV lK
  generalize oM:SA.setCell _ _=EC
  replace T:=f1 T (eF oM)
  replace R:=DX R oM
  replace iD:=tf iD oM
  clear oM
  obtain ⟨dZ,dU,gY,gZ,fA,gG,eu,gJ,fE,dV⟩:=R.out.c10
  go_wp2_with fail
  go_ret
  exact ⟨au Hf.out.symm,iD⟩
 | true =>
  obtain ⟨aA,dA,dn,dw,bV,dh,bP,cZ,bU,aJ⟩:=T.out.c10
  go_wp2_with fail
  clear aA dA dn dw bV dh bP cZ bU aJ
  ((with_reducible refine (HM.out _ (iD)).mono ?_);rintro e Oo ⟨rfl,vU⟩)
  obtain ⟨T,R⟩:=b2 T R vU
  replace iD:=dT iD vU
  clear vU
  cases hs:fU x with
  | false =>
   have Hf:Hid (dH x=false):=by show _=_;rw [hf,hn,hs];rfl
   clear hf h
   have aA:=T.out.e0
   have aJ:=T.out.e9
   have dU:=R.out.e1
   have eu:=R.out.e6
   have lJ:=R.out.free 1
   have pJ:=R.out.free 6
   go_upto_region 20 with fail
   clear aA aJ dU eu lJ pJ
   generalize Cc:Oo.setCell _ _=Si
   replace T:=f1 T (eF Cc)
   replace R:=yC R Cc
   replace iD:=tf iD Cc
   clear Cc
   generalize xG:Si.setCell _ _=Ou
   replace T:=f1 T (eF xG)
   replace R:=uf R xG
   replace iD:=tf iD xG
   clear xG
   have aA:=T.out.e0
   have aJ:=T.out.e9
   have dV:=R.out.e9
   have lK:=R.out.free 9
   go_upto_region 29 with fail
   clear aA aJ dV lK
   generalize Cm:Ou.setCell _ _=YL
   replace T:=f1 T (eF Cm)
   replace R:=DX R Cm
   replace iD:=tf iD Cm
   clear Cm
   obtain ⟨dZ,dU,gY,gZ,fA,gG,eu,gJ,fE,dV⟩:=R.out.c10
   go_wp2_with fail
   go_ret
   exact ⟨au Hf.out.symm,iD⟩
  | true =>
   have Hf:Hid (dH x=gy (fQ x) fZ):=by show _=_;rw [hf,hn,hs];rfl
   clear hf h
   have aA:=T.out.e0
   have aJ:=T.out.e9
   have dU:=R.out.e1
   have eu:=R.out.e6
   have lJ:=R.out.free 1
   have pJ:=R.out.free 6
   go_upto_region 20 with fail
   clear aA aJ dU eu lJ pJ
   generalize SC:Oo.setCell _ _=xE
   replace T:=f1 T (eF SC)
   replace R:=yC R SC
   replace iD:=tf iD SC
   clear SC
   generalize Gw:xE.setCell _ _=ae8
   replace T:=f1 T (eF Gw)
   replace R:=uf R Gw
   replace iD:=tf iD Gw
   clear Gw
   have aA:=T.out.e0
   have aJ:=T.out.e9
   have dV:=R.out.e9
   have lK:=R.out.free 9
   go_upto_region 29 with fail
   clear aA aJ dV lK
   generalize SE:ae8.setCell _ _=Ov
   replace T:=f1 T (eF SE)
   replace R:=DX R SE
   replace iD:=tf iD SE
   clear SE
   obtain ⟨dZ,dU,gY,gZ,fA,gG,eu,gJ,fE,dV⟩:=R.out.c10
   go_wp2_with fail
   clear dZ dU gY gZ fA gG eu gJ fE dV
   ((with_reducible refine (HC.out _).mono ?_);rintro e YM ⟨rfl,YN⟩)
   obtain ⟨T,R⟩:=b2 T R YN
   replace iD:=dT iD YN
   clear YN
   go_wp2_with fail
   go_ret
   exact ⟨au Hf.out.symm,iD⟩
set_option maxRecDepth 100000 in
theorem Qa (x:aC) (A1 A2:Option Addr) (c1 c2:Nat) (w:World) (h:x.kind=5) (hop:x.opn=false) (hl:x.syms.length≤6000000000000∧x.aj.length≤6000000000000) (ht:eX w w.heap.size x (.slice A1 x.syms.length c1) (.slice A2 x.aj.length c2)) :
  Calls Tryz.prog 89 #[aS x (.slice A1 x.syms.length c1) (.slice A2 x.aj.length c2)] w fun e w' => e = .returned (.bool (dH x))∧Below w.heap.size w w':=by
 have hrt:fQ x = { x with kind:=0,name:=[],aj:=[],opn:=false }:=by unfold fQ;simp [h,hop]
 have hf:=qw x (by rw [h];unfold fJ;omega)
 have hc:∀ W,Calls Tryz.prog 129 #[.agg #[.int .i64 0,.string ⟨#[]⟩,.int .i64 x.low,.int .i64 x.high,.int .i64 x.max,.slice A1 x.syms.length c1,.slice none 0 0,.int .i64 x.key,.int .i64 x.elem,.bool false],.agg #[.int .i64 0,.string ⟨#[]⟩,.int .i64 0,.int .i64 0,.int .i64 0,.slice none 0 0,.slice none 0 0,.int .i64 0,.int .i64 0,.bool false]] W fun e w' => e = .returned (.bool (gy (fQ x) fZ))∧Below W.heap.size W w':=fun W => by
  rw [hrt]
  exact lI ({ x with kind:=0,name:=[],aj:=[],opn:=false } : aC) fZ A1 none c1 0 W
 have hok:rM x=(nameB x.name && fU x):=by unfold rM;simp [h]
 rw [hok] at hf
 have HC:=Lib.hid hc
 have HN:=Lib.hid (fun W => sK x.name W)
 have hm:=fun W hW => Aw x (.slice A1 x.syms.length c1) (.slice A2 x.aj.length c2) W hl.2 (ht.on (w':=W) hW)
 simp only [aS,h,hop] at hm
 have HM:=Lib.hid hm
 clear hm
 clear hc hok hrt ht
 simp only [aS,h,hop]
 clear hop
 go_enter Tryz.func89,Tryz.ntmps89
 go_upto_region 1 with fail
 generalize afo:w.alloc _=SG
 have ⟨afp,T⟩:=bH afo
 clear afo
 have jH:=afp
 clear afp
 obtain ⟨aA,dA,dn,dw,bV,dh,bP,cZ,bU,aJ⟩:=T.out.c10
 go_upto_region 2 with fail
 clear aA dA dn dw bV dh bP cZ bU aJ
 generalize Ej:SG.alloc _=NV
 have ⟨xA,R⟩:=bH Ej
 clear Ej
 have aeL:=T.out.here
 have aeM:=jH.size
 replace T:=b1 T xA
 replace jH:=dT jH xA
 clear xA
 generalize SG.heap.size=ag6 at *
 have dZ:=R.out.e0
 have pI:=R.out.free 0
 go_upto_region 3 with fail
 clear dZ pI
 generalize CB:NV.setCell _ _=SH
 replace T:=f1 T (eF CB)
 replace R:=IJ R CB
 replace jH:=tf jH CB
 clear CB
 obtain ⟨aA,dA,dn,dw,bV,dh,bP,cZ,bU,aJ⟩:=T.out.c10
 go_wp2_with fail
 clear aA dA dn dw bV dh bP cZ bU aJ
 ((with_reducible refine (HN.out _).mono ?_);rintro e afq ⟨rfl,rfl⟩)
 cases hn:nameB x.name with
 | false =>
  have Hf:Hid (dH x=false):=by show _=_;rw [hf,hn];rfl
  clear hf h
  have aA:=T.out.e0
  have aJ:=T.out.e9
  have dU:=R.out.e1
  have eu:=R.out.e6
  have lJ:=R.out.free 1
  have pJ:=R.out.free 6
  go_upto_region 20 with fail
  clear aA aJ dU eu lJ pJ
  generalize CG:SH.setCell _ _=YO
  replace T:=f1 T (eF CG)
  replace R:=yC R CG
  replace jH:=tf jH CG
  clear CG
  generalize nM:YO.setCell _ _=NW
  replace T:=f1 T (eF nM)
  replace R:=uf R nM
  replace jH:=tf jH nM
  clear nM
  have aA:=T.out.e0
  have aJ:=T.out.e9
  have dV:=R.out.e9
  have lK:=R.out.free 9
  go_upto_region 29 with fail
  clear aA aJ dV lK
  generalize Ce:NW.setCell _ _=afj
  replace T:=f1 T (eF Ce)
  replace R:=DX R Ce
  replace jH:=tf jH Ce
  clear Ce
  obtain ⟨dZ,dU,gY,gZ,fA,gG,eu,gJ,fE,dV⟩:=R.out.c10
  go_wp2_with fail
  go_ret
  exact ⟨au Hf.out.symm,jH⟩
 | true =>
  obtain ⟨aA,dA,dn,dw,bV,dh,bP,cZ,bU,aJ⟩:=T.out.c10
  go_wp2_with fail
  clear aA dA dn dw bV dh bP cZ bU aJ
  ((with_reducible refine (HM.out _ (jH)).mono ?_);rintro e qN ⟨rfl,Am⟩)
  obtain ⟨T,R⟩:=b2 T R Am
  replace jH:=dT jH Am
  clear Am
  cases hs:fU x with
  | false =>
   have Hf:Hid (dH x=false):=by show _=_;rw [hf,hn,hs];rfl
   clear hf h
   have aA:=T.out.e0
   have aJ:=T.out.e9
   have dU:=R.out.e1
   have eu:=R.out.e6
   have lJ:=R.out.free 1
   have pJ:=R.out.free 6
   go_upto_region 20 with fail
   clear aA aJ dU eu lJ pJ
   generalize Hl:qN.setCell _ _=ED
   replace T:=f1 T (eF Hl)
   replace R:=yC R Hl
   replace jH:=tf jH Hl
   clear Hl
   generalize SI:ED.setCell _ _=YP
   replace T:=f1 T (eF SI)
   replace R:=uf R SI
   replace jH:=tf jH SI
   clear SI
   have aA:=T.out.e0
   have aJ:=T.out.e9
   have dV:=R.out.e9
   have lK:=R.out.free 9
   go_upto_region 29 with fail
   clear aA aJ dV lK
   generalize CJ:YP.setCell _ _=afr
   replace T:=f1 T (eF CJ)
   replace R:=DX R CJ
   replace jH:=tf jH CJ
   clear CJ
   obtain ⟨dZ,dU,gY,gZ,fA,gG,eu,gJ,fE,dV⟩:=R.out.c10
   go_wp2_with fail
   go_ret
   exact ⟨au Hf.out.symm,jH⟩
  | true =>
   have Hf:Hid (dH x=gy (fQ x) fZ):=by show _=_;rw [hf,hn,hs];rfl
   clear hf h
   have aA:=T.out.e0
   have aJ:=T.out.e9
   have dU:=R.out.e1
   have eu:=R.out.e6
   have lJ:=R.out.free 1
   have pJ:=R.out.free 6
   go_upto_region 20 with fail
   clear aA aJ dU eu lJ pJ
   generalize SK:qN.setCell _ _=YQ
   replace T:=f1 T (eF SK)
   replace R:=yC R SK
   replace jH:=tf jH SK
   clear SK
   generalize uw:YQ.setCell _ _=yN
   replace T:=f1 T (eF uw)
   replace R:=uf R uw
   replace jH:=tf jH uw
   clear uw
   have aA:=T.out.e0
   have aJ:=T.out.e9
   have dV:=R.out.e9
   have lK:=R.out.free 9
   go_upto_region 29 with fail
   clear aA aJ dV lK
   generalize Ci:yN.setCell _ _=Sr
   replace T:=f1 T (eF Ci)
   replace R:=DX R Ci
   replace jH:=tf jH Ci
   clear Ci
   obtain ⟨dZ,dU,gY,gZ,fA,gG,eu,gJ,fE,dV⟩:=R.out.c10
   go_wp2_with fail
   clear dZ dU gY gZ fA gG eu gJ fE dV
   ((with_reducible refine (HC.out _).mono ?_);rintro e apq ⟨rfl,EF⟩)
   obtain ⟨T,R⟩:=b2 T R EF
   replace jH:=dT jH EF
   clear EF
   go_wp2_with fail
   go_ret
   exact ⟨au Hf.out.symm,jH⟩
set_option maxRecDepth 100000 in
theorem RN (x:aC) (A1 A2:Option Addr) (c1 c2:Nat) (w:World) (h:x.kind=6) (hop:x.opn=true) (hl:x.syms.length≤6000000000000∧x.aj.length≤6000000000000) (ht:eX w w.heap.size x (.slice A1 x.syms.length c1) (.slice A2 x.aj.length c2)) :
  Calls Tryz.prog 89 #[aS x (.slice A1 x.syms.length c1) (.slice A2 x.aj.length c2)] w fun e w' => e = .returned (.bool (dH x))∧Below w.heap.size w w':=by
 have hrt:fQ x = { x with kind:=0,name:=[],aj:=[],opn:=false }:=by unfold fQ;simp [h]
 have hf:=qw x (by rw [h];unfold fJ;omega)
 have hc:∀ W,Calls Tryz.prog 129 #[.agg #[.int .i64 0,.string ⟨#[]⟩,.int .i64 x.low,.int .i64 x.high,.int .i64 x.max,.slice A1 x.syms.length c1,.slice none 0 0,.int .i64 x.key,.int .i64 x.elem,.bool false],.agg #[.int .i64 0,.string ⟨#[]⟩,.int .i64 0,.int .i64 0,.int .i64 0,.slice none 0 0,.slice none 0 0,.int .i64 0,.int .i64 0,.bool false]] W fun e w' => e = .returned (.bool (gy (fQ x) fZ))∧Below W.heap.size W w':=fun W => by
  rw [hrt]
  exact lI ({ x with kind:=0,name:=[],aj:=[],opn:=false } : aC) fZ A1 none c1 0 W
 have hok:rM x=(nameB x.name && fU x):=by unfold rM;simp [h]
 rw [hok] at hf
 have HC:=Lib.hid hc
 have HN:=Lib.hid (fun W => sK x.name W)
 have hm:=fun W hW => Aw x (.slice A1 x.syms.length c1) (.slice A2 x.aj.length c2) W hl.2 (ht.on (w':=W) hW)
 simp only [aS,h,hop] at hm
 have HM:=Lib.hid hm
 clear hm
 clear hc hok hrt ht
 simp only [aS,h,hop]
 clear hop
 go_enter Tryz.func89,Tryz.ntmps89
 go_upto_region 1 with fail
 generalize afs:w.alloc _=J3
 have ⟨aft,T⟩:=bH afs
 clear afs
 have jI:=aft
 clear aft
 obtain ⟨aA,dA,dn,dw,bV,dh,bP,cZ,bU,aJ⟩:=T.out.c10
 go_upto_region 2 with fail
 clear aA dA dn dw bV dh bP cZ bU aJ
 generalize Ox:J3.alloc _=YR
 have ⟨YS,R⟩:=bH Ox
 clear Ox
 have aeV:=T.out.here
 have ajb:=jI.size
 replace T:=b1 T YS
 replace jI:=dT jI YS
 clear YS
 generalize J3.heap.size=amb at *
 have dZ:=R.out.e0
 have pI:=R.out.free 0
 go_upto_region 3 with fail
 clear dZ pI
 generalize SL:YR.setCell _ _=ajc
 replace T:=f1 T (eF SL)
 replace R:=IJ R SL
 replace jI:=tf jI SL
 clear SL
 obtain ⟨aA,dA,dn,dw,bV,dh,bP,cZ,bU,aJ⟩:=T.out.c10
 go_wp2_with fail
 clear aA dA dn dw bV dh bP cZ bU aJ
 ((with_reducible refine (HN.out _).mono ?_);rintro e NZ ⟨rfl,rfl⟩)
 cases hn:nameB x.name with
 | false =>
  have Hf:Hid (dH x=false):=by show _=_;rw [hf,hn];rfl
  clear hf h
  have aA:=T.out.e0
  have aJ:=T.out.e9
  have dU:=R.out.e1
  have eu:=R.out.e6
  have lJ:=R.out.free 1
  have pJ:=R.out.free 6
  go_upto_region 20 with fail
  clear aA aJ dU eu lJ pJ
  generalize xC:ajc.setCell _ _=J5
  replace T:=f1 T (eF xC)
  replace R:=yC R xC
  replace jI:=tf jI xC
  clear xC
  generalize CO:J5.setCell _ _=afu
  replace T:=f1 T (eF CO)
  replace R:=uf R CO
  replace jI:=tf jI CO
  clear CO
  have aA:=T.out.e0
  have aJ:=T.out.e9
  have dV:=R.out.e9
  have lK:=R.out.free 9
  go_upto_region 29 with fail
  clear aA aJ dV lK
  generalize CP:afu.setCell _ _=ajd
  replace T:=f1 T (eF CP)
  replace R:=DX R CP
  replace jI:=tf jI CP
  clear CP
  obtain ⟨dZ,dU,gY,gZ,fA,gG,eu,gJ,fE,dV⟩:=R.out.c10
  go_wp2_with fail
  go_ret
  exact ⟨au Hf.out.symm,jI⟩
 | true =>
  obtain ⟨aA,dA,dn,dw,bV,dh,bP,cZ,bU,aJ⟩:=T.out.c10
  go_wp2_with fail
  clear aA dA dn dw bV dh bP cZ bU aJ
  ((with_reducible refine (HM.out _ (jI)).mono ?_);rintro e afv ⟨rfl,YT⟩)
  obtain ⟨T,R⟩:=b2 T R YT
  replace jI:=dT jI YT
  clear YT
  cases hs:fU x with
  | false =>
   have Hf:Hid (dH x=false):=by show _=_;rw [hf,hn,hs];rfl
   clear hf h
   have aA:=T.out.e0
   have aJ:=T.out.e9
   have dU:=R.out.e1
   have eu:=R.out.e6
   have lJ:=R.out.free 1
   have pJ:=R.out.free 6
   go_upto_region 20 with fail
   clear aA aJ dU eu lJ pJ
   generalize SN:afv.setCell _ _=aje
   replace T:=f1 T (eF SN)
   replace R:=yC R SN
   replace jI:=tf jI SN
   clear SN
   generalize Ht:aje.setCell _ _=YU
   replace T:=f1 T (eF Ht)
   replace R:=uf R Ht
   replace jI:=tf jI Ht
   clear Ht
   have aA:=T.out.e0
   have aJ:=T.out.e9
   have dV:=R.out.e9
   have lK:=R.out.free 9
   go_upto_region 29 with fail
   clear aA aJ dV lK
   generalize SQ:YU.setCell _ _=apr
   replace T:=f1 T (eF SQ)
   replace R:=DX R SQ
   replace jI:=tf jI SQ
   clear SQ
   obtain ⟨dZ,dU,gY,gZ,fA,gG,eu,gJ,fE,dV⟩:=R.out.c10
   go_wp2_with fail
   go_ret
   exact ⟨au Hf.out.symm,jI⟩
  | true =>
   have Hf:Hid (dH x=gy (fQ x) fZ):=by show _=_;rw [hf,hn,hs];rfl
   clear hf h
   have aA:=T.out.e0
   have aJ:=T.out.e9
   have dU:=R.out.e1
   have eu:=R.out.e6
   have lJ:=R.out.free 1
   have pJ:=R.out.free 6
   go_upto_region 20 with fail
   clear aA aJ dU eu lJ pJ
   generalize SS:afv.setCell _ _=ajf
   replace T:=f1 T (eF SS)
   replace R:=yC R SS
   replace jI:=tf jI SS
   clear SS
   generalize SV:ajf.setCell _ _=ajg
   replace T:=f1 T (eF SV)
   replace R:=uf R SV
   replace jI:=tf jI SV
   clear SV
   have aA:=T.out.e0
   have aJ:=T.out.e9
   have dV:=R.out.e9
   have lK:=R.out.free 9
   go_upto_region 29 with fail
   clear aA aJ dV lK
   generalize CQ:ajg.setCell _ _=ajh
   replace T:=f1 T (eF CQ)
   replace R:=DX R CQ
   replace jI:=tf jI CQ
   clear CQ
   obtain ⟨dZ,dU,gY,gZ,fA,gG,eu,gJ,fE,dV⟩:=R.out.c10
   go_wp2_with fail
   clear dZ dU gY gZ fA gG eu gJ fE dV
   ((with_reducible refine (HC.out _).mono ?_);rintro e J8 ⟨rfl,Hu⟩)
   obtain ⟨T,R⟩:=b2 T R Hu
   replace jI:=dT jI Hu
   clear Hu
   go_wp2_with fail
   go_ret
   exact ⟨au Hf.out.symm,jI⟩
set_option maxRecDepth 100000 in
theorem Qb (x:aC) (A1 A2:Option Addr) (c1 c2:Nat) (w:World) (h:x.kind=6) (hop:x.opn=false) (hl:x.syms.length≤6000000000000∧x.aj.length≤6000000000000) (ht:eX w w.heap.size x (.slice A1 x.syms.length c1) (.slice A2 x.aj.length c2)) :
  Calls Tryz.prog 89 #[aS x (.slice A1 x.syms.length c1) (.slice A2 x.aj.length c2)] w fun e w' => e = .returned (.bool (dH x))∧Below w.heap.size w w':=by
 have hrt:fQ x = { x with kind:=0,name:=[],aj:=[],opn:=false }:=by unfold fQ;simp [h]
 have hf:=qw x (by rw [h];unfold fJ;omega)
 have hc:∀ W,Calls Tryz.prog 129 #[.agg #[.int .i64 0,.string ⟨#[]⟩,.int .i64 x.low,.int .i64 x.high,.int .i64 x.max,.slice A1 x.syms.length c1,.slice none 0 0,.int .i64 x.key,.int .i64 x.elem,.bool false],.agg #[.int .i64 0,.string ⟨#[]⟩,.int .i64 0,.int .i64 0,.int .i64 0,.slice none 0 0,.slice none 0 0,.int .i64 0,.int .i64 0,.bool false]] W fun e w' => e = .returned (.bool (gy (fQ x) fZ))∧Below W.heap.size W w':=fun W => by
  rw [hrt]
  exact lI ({ x with kind:=0,name:=[],aj:=[],opn:=false } : aC) fZ A1 none c1 0 W
 have hok:rM x=(nameB x.name && fU x):=by unfold rM;simp [h]
 rw [hok] at hf
 have HC:=Lib.hid hc
 have HN:=Lib.hid (fun W => sK x.name W)
 have hm:=fun W hW => Aw x (.slice A1 x.syms.length c1) (.slice A2 x.aj.length c2) W hl.2 (ht.on (w':=W) hW)
 simp only [aS,h,hop] at hm
 have HM:=Lib.hid hm
 clear hm
 clear hc hok hrt ht
 simp only [aS,h,hop]
 clear hop
 go_enter Tryz.func89,Tryz.ntmps89
 go_upto_region 1 with fail
 generalize afw:w.alloc _=afx
 have ⟨afy,T⟩:=bH afw
 clear afw
 have jJ:=afy
 clear afy
 obtain ⟨aA,dA,dn,dw,bV,dh,bP,cZ,bU,aJ⟩:=T.out.c10
 go_upto_region 2 with fail
 clear aA dA dn dw bV dh bP cZ bU aJ
 generalize afz:afx.alloc _=aji
 have ⟨YV,R⟩:=bH afz
 clear afz
 have afA:=T.out.here
 have ajj:=jJ.size
 replace T:=b1 T YV
 replace jJ:=dT jJ YV
 clear YV
 generalize afx.heap.size=aq4 at *
 have dZ:=R.out.e0
 have pI:=R.out.free 0
 go_upto_region 3 with fail
 clear dZ pI
 generalize xH:aji.setCell _ _=J9
 replace T:=f1 T (eF xH)
 replace R:=IJ R xH
 replace jJ:=tf jJ xH
 clear xH
 obtain ⟨aA,dA,dn,dw,bV,dh,bP,cZ,bU,aJ⟩:=T.out.c10
 go_wp2_with fail
 clear aA dA dn dw bV dh bP cZ bU aJ
 ((with_reducible refine (HN.out _).mono ?_);rintro e SX ⟨rfl,rfl⟩)
 cases hn:nameB x.name with
 | false =>
  have Hf:Hid (dH x=false):=by show _=_;rw [hf,hn];rfl
  clear hf h
  have aA:=T.out.e0
  have aJ:=T.out.e9
  have dU:=R.out.e1
  have eu:=R.out.e6
  have lJ:=R.out.free 1
  have pJ:=R.out.free 6
  go_upto_region 20 with fail
  clear aA aJ dU eu lJ pJ
  generalize oO:J9.setCell _ _=SY
  replace T:=f1 T (eF oO)
  replace R:=yC R oO
  replace jJ:=tf jJ oO
  clear oO
  generalize S9:SY.setCell _ _=ajk
  replace T:=f1 T (eF S9)
  replace R:=uf R S9
  replace jJ:=tf jJ S9
  clear S9
  have aA:=T.out.e0
  have aJ:=T.out.e9
  have dV:=R.out.e9
  have lK:=R.out.free 9
  go_upto_region 29 with fail
  clear aA aJ dV lK
  generalize Tc:ajk.setCell _ _=aps
  replace T:=f1 T (eF Tc)
  replace R:=DX R Tc
  replace jJ:=tf jJ Tc
  clear Tc
  obtain ⟨dZ,dU,gY,gZ,fA,gG,eu,gJ,fE,dV⟩:=R.out.c10
  go_wp2_with fail
  go_ret
  exact ⟨au Hf.out.symm,jJ⟩
 | true =>
  obtain ⟨aA,dA,dn,dw,bV,dh,bP,cZ,bU,aJ⟩:=T.out.c10
  go_wp2_with fail
  clear aA dA dn dw bV dh bP cZ bU aJ
  ((with_reducible refine (HM.out _ (jJ)).mono ?_);rintro e afB ⟨rfl,YW⟩)
  obtain ⟨T,R⟩:=b2 T R YW
  replace jJ:=dT jJ YW
  clear YW
  cases hs:fU x with
  | false =>
   have Hf:Hid (dH x=false):=by show _=_;rw [hf,hn,hs];rfl
   clear hf h
   have aA:=T.out.e0
   have aJ:=T.out.e9
   have dU:=R.out.e1
   have eu:=R.out.e6
   have lJ:=R.out.free 1
   have pJ:=R.out.free 6
   go_upto_region 20 with fail
   clear aA aJ dU eu lJ pJ
   generalize Td:afB.setCell _ _=ajl
   replace T:=f1 T (eF Td)
   replace R:=yC R Td
   replace jJ:=tf jJ Td
   clear Td
   generalize Tf:ajl.setCell _ _=ajm
   replace T:=f1 T (eF Tf)
   replace R:=uf R Tf
   replace jJ:=tf jJ Tf
   clear Tf
   have aA:=T.out.e0
   have aJ:=T.out.e9
   have dV:=R.out.e9
   have lK:=R.out.free 9
   go_upto_region 29 with fail
   clear aA aJ dV lK
   generalize Ti:ajm.setCell _ _=apt
   replace T:=f1 T (eF Ti)
   replace R:=DX R Ti
   replace jJ:=tf jJ Ti
   clear Ti
   obtain ⟨dZ,dU,gY,gZ,fA,gG,eu,gJ,fE,dV⟩:=R.out.c10
   go_wp2_with fail
   go_ret
   exact ⟨au Hf.out.symm,jJ⟩
  | true =>
   have Hf:Hid (dH x=gy (fQ x) fZ):=by show _=_;rw [hf,hn,hs];rfl
   clear hf h
   have aA:=T.out.e0
   have aJ:=T.out.e9
   have dU:=R.out.e1
   have eu:=R.out.e6
   have lJ:=R.out.free 1
   have pJ:=R.out.free 6
   go_upto_region 20 with fail
   clear aA aJ dU eu lJ pJ
   generalize Tj:afB.setCell _ _=Tm
   replace T:=f1 T (eF Tj)
   replace R:=yC R Tj
   replace jJ:=tf jJ Tj
   clear Tj
   generalize Tn:Tm.setCell _ _=YX
   replace T:=f1 T (eF Tn)
   replace R:=uf R Tn
   replace jJ:=tf jJ Tn
   clear Tn
   have aA:=T.out.e0
   have aJ:=T.out.e9
   have dV:=R.out.e9
   have lK:=R.out.free 9
   go_upto_region 29 with fail
   clear aA aJ dV lK
   generalize Tq:YX.setCell _ _=afC
   replace T:=f1 T (eF Tq)
   replace R:=DX R Tq
   replace jJ:=tf jJ Tq
   clear Tq
   obtain ⟨dZ,dU,gY,gZ,fA,gG,eu,gJ,fE,dV⟩:=R.out.c10
   go_wp2_with fail
   clear dZ dU gY gZ fA gG eu gJ fE dV
   ((with_reducible refine (HC.out _).mono ?_);rintro e ajn ⟨rfl,YZ⟩)
   obtain ⟨T,R⟩:=b2 T R YZ
   replace jJ:=dT jJ YZ
   clear YZ
   go_wp2_with fail
   go_ret
   exact ⟨au Hf.out.symm,jJ⟩
set_option maxRecDepth 100000 in
theorem abr (x:aC) (A1 A2:Option Addr) (c1 c2:Nat) (w:World) (h:x.kind=7) (_:x.syms.length≤6000000000000∧x.aj.length≤6000000000000) (_:eX w w.heap.size x (.slice A1 x.syms.length c1) (.slice A2 x.aj.length c2)) :
  Calls Tryz.prog 89 #[aS x (.slice A1 x.syms.length c1) (.slice A2 x.aj.length c2)] w fun e w' => e = .returned (.bool (dH x))∧Below w.heap.size w w':=by
 have hrt:fQ x = { x with kind:=0,max:=0,elem:=0 }:=by unfold fQ;simp [h]
 have hf:=qw x (by rw [h];unfold fJ;omega)
 have hc:∀ W,Calls Tryz.prog 129 #[.agg #[.int .i64 0,.string ⟨x.name.toArray⟩,.int .i64 x.low,.int .i64 x.high,.int .i64 0,.slice A1 x.syms.length c1,.slice A2 x.aj.length c2,.int .i64 x.key,.int .i64 0,.bool x.opn],.agg #[.int .i64 0,.string ⟨#[]⟩,.int .i64 0,.int .i64 0,.int .i64 0,.slice none 0 0,.slice none 0 0,.int .i64 0,.int .i64 0,.bool false]] W fun e w' => e = .returned (.bool (gy (fQ x) fZ))∧Below W.heap.size W w':=fun W => by
  rw [hrt]
  exact lI ({ x with kind:=0,max:=0,elem:=0 } : aC) fZ A1 A2 c1 c2 W
 have hok:rM x=(decide (0≤x.max) && decide (x.max≤50)):=by unfold rM;simp [h]
 rw [hok] at hf
 have HC:=Lib.hid hc
 clear hc hok hrt
 simp only [aS,h]
 go_enter Tryz.func89,Tryz.ntmps89
 go_upto_region 1 with fail
 generalize afD:w.alloc _=afE
 have ⟨afF,T⟩:=bH afD
 clear afD
 have lY:=afF
 clear afF
 obtain ⟨aA,dA,dn,dw,bV,dh,bP,cZ,bU,aJ⟩:=T.out.c10
 go_upto_region 2 with fail
 clear aA dA dn dw bV dh bP cZ bU aJ
 generalize afG:afE.alloc _=ajo
 have ⟨Y0,R⟩:=bH afG
 clear afG
 have ajp:=T.out.here
 have ajq:=lY.size
 replace T:=b1 T Y0
 replace lY:=dT lY Y0
 clear Y0
 generalize afE.heap.size=aq5 at *
 have dZ:=R.out.e0
 have pI:=R.out.free 0
 go_upto_region 3 with fail
 clear dZ pI
 generalize CS:ajo.setCell _ _=Oy
 replace T:=f1 T (eF CS)
 replace R:=IJ R CS
 replace lY:=tf lY CS
 clear CS
 obtain ⟨aA,dA,dn,dw,bV,dh,bP,cZ,bU,aJ⟩:=T.out.c10
 by_cases hlo:0≤x.max
 ·
  have hd:decide (0≤x.max)=true:=decide_eq_true hlo
  by_cases hhi:x.max≤50
  ·
   have hd2:decide (x.max≤50)=true:=decide_eq_true hhi
   have Hf:Hid (dH x=gy (fQ x) fZ):=by show _=_;rw [hf,hd,hd2];rfl
   clear hf h
   have fA:=R.out.e4
   have fE:=R.out.e8
   have vF:=R.out.free 4
   have Ad:=R.out.free 8
   go_upto_region 29 with fail
   clear aA dA dn dw bV dh bP cZ bU aJ fA fE vF Ad
   generalize CU:Oy.setCell _ _=afH
   replace T:=f1 T (eF CU)
   replace R:=Jk R CU
   replace lY:=tf lY CU
   clear CU
   generalize Tt:afH.setCell _ _=afI
   replace T:=f1 T (eF Tt)
   replace R:=Vu R Tt
   replace lY:=tf lY Tt
   clear Tt
   obtain ⟨dZ,dU,gY,gZ,fA,gG,eu,gJ,fE,dV⟩:=R.out.c10
   go_wp2_with fail
   clear dZ dU gY gZ fA gG eu gJ fE dV
   ((with_reducible refine (HC.out _).mono ?_);rintro e ajr ⟨rfl,Y4⟩)
   obtain ⟨T,R⟩:=b2 T R Y4
   replace lY:=dT lY Y4
   clear Y4
   go_wp2_with fail
   go_ret
   exact ⟨au Hf.out.symm,lY⟩
  have hd2:decide (x.max≤50)=false:=decide_eq_false hhi
  have Hf:Hid (dH x=false):=by show _=_;rw [hf,hd,hd2];rfl
  clear hf h
  have fA:=R.out.e4
  have fE:=R.out.e8
  have vF:=R.out.free 4
  have Ad:=R.out.free 8
  go_upto_region 29 with fail
  clear aA dA dn dw bV dh bP cZ bU aJ fA fE vF Ad
  generalize Tv:Oy.setCell _ _=ajs
  replace T:=f1 T (eF Tv)
  replace R:=Jk R Tv
  replace lY:=tf lY Tv
  clear Tv
  generalize Tz:ajs.setCell _ _=apu
  replace T:=f1 T (eF Tz)
  replace R:=Vu R Tz
  replace lY:=tf lY Tz
  clear Tz
  obtain ⟨dZ,dU,gY,gZ,fA,gG,eu,gJ,fE,dV⟩:=R.out.c10
  go_wp2_with fail
  go_ret
  exact ⟨au Hf.out.symm,lY⟩
 have hd:decide (0≤x.max)=false:=decide_eq_false hlo
 have Hf:Hid (dH x=false):=by show _=_;rw [hf,hd];rfl
 clear hf h
 have fA:=R.out.e4
 have fE:=R.out.e8
 have vF:=R.out.free 4
 have Ad:=R.out.free 8
 go_upto_region 29 with fail
 clear aA dA dn dw bV dh bP cZ bU aJ fA fE vF Ad
 generalize Hw:Oy.setCell _ _=Y5
 replace T:=f1 T (eF Hw)
 replace R:=Jk R Hw
 replace lY:=tf lY Hw
 clear Hw
 generalize Hz:Y5.setCell _ _=Y6
 replace T:=f1 T (eF Hz)
 replace R:=Vu R Hz
 replace lY:=tf lY Hz
 clear Hz
 obtain ⟨dZ,dU,gY,gZ,fA,gG,eu,gJ,fE,dV⟩:=R.out.c10
 go_wp2_with fail
 go_ret
 exact ⟨au Hf.out.symm,lY⟩
set_option maxRecDepth 100000 in
theorem abt (x:aC) (A1 A2:Option Addr) (c1 c2:Nat) (w:World) (h:x.kind=8) (_:x.syms.length≤6000000000000∧x.aj.length≤6000000000000) (_:eX w w.heap.size x (.slice A1 x.syms.length c1) (.slice A2 x.aj.length c2)) :
  Calls Tryz.prog 89 #[aS x (.slice A1 x.syms.length c1) (.slice A2 x.aj.length c2)] w fun e w' => e = .returned (.bool (dH x))∧Below w.heap.size w w':=by
 have hrt:fQ x = { x with kind:=0,max:=0,elem:=0,key:=0 }:=by unfold fQ;simp [h]
 have hf:=qw x (by rw [h];unfold fJ;omega)
 have hc:∀ W,Calls Tryz.prog 129 #[.agg #[.int .i64 0,.string ⟨x.name.toArray⟩,.int .i64 x.low,.int .i64 x.high,.int .i64 0,.slice A1 x.syms.length c1,.slice A2 x.aj.length c2,.int .i64 0,.int .i64 0,.bool x.opn],.agg #[.int .i64 0,.string ⟨#[]⟩,.int .i64 0,.int .i64 0,.int .i64 0,.slice none 0 0,.slice none 0 0,.int .i64 0,.int .i64 0,.bool false]] W fun e w' => e = .returned (.bool (gy (fQ x) fZ))∧Below W.heap.size W w':=fun W => by
  rw [hrt]
  exact lI ({ x with kind:=0,max:=0,elem:=0,key:=0 } : aC) fZ A1 A2 c1 c2 W
 have hok:rM x=(decide (0≤x.max) && decide (x.max≤50)):=by unfold rM;simp [h]
 rw [hok] at hf
 have HC:=Lib.hid hc
 clear hc hok hrt
 simp only [aS,h]
 go_enter Tryz.func89,Tryz.ntmps89
 go_upto_region 1 with fail
 generalize afJ:w.alloc _=afK
 have ⟨afL,T⟩:=bH afJ
 clear afJ
 have jW:=afL
 clear afL
 obtain ⟨aA,dA,dn,dw,bV,dh,bP,cZ,bU,aJ⟩:=T.out.c10
 go_upto_region 2 with fail
 clear aA dA dn dw bV dh bP cZ bU aJ
 generalize afM:afK.alloc _=ajt
 have ⟨Y7,R⟩:=bH afM
 clear afM
 have aju:=T.out.here
 have ajv:=jW.size
 replace T:=b1 T Y7
 replace jW:=dT jW Y7
 clear Y7
 generalize afK.heap.size=aq6 at *
 have dZ:=R.out.e0
 have pI:=R.out.free 0
 go_upto_region 3 with fail
 clear dZ pI
 generalize TA:ajt.setCell _ _=Y8
 replace T:=f1 T (eF TA)
 replace R:=IJ R TA
 replace jW:=tf jW TA
 clear TA
 obtain ⟨aA,dA,dn,dw,bV,dh,bP,cZ,bU,aJ⟩:=T.out.c10
 by_cases hlo:0≤x.max
 ·
  have hd:decide (0≤x.max)=true:=decide_eq_true hlo
  by_cases hhi:x.max≤50
  ·
   have hd2:decide (x.max≤50)=true:=decide_eq_true hhi
   have Hf:Hid (dH x=gy (fQ x) fZ):=by show _=_;rw [hf,hd,hd2];rfl
   clear hf h
   obtain ⟨-,-,-,-,fA,-,-,gJ,fE,-⟩:=R.out.c10
   have vF:=R.out.free 4
   have Ad:=R.out.free 8
   have Vw:=R.out.free 7
   go_upto_region 29 with fail
   clear aA dA dn dw bV dh bP cZ bU aJ fA fE gJ vF Ad Vw
   generalize TB:Y8.setCell _ _=ajw
   replace T:=f1 T (eF TB)
   replace R:=Jk R TB
   replace jW:=tf jW TB
   clear TB
   generalize TD:ajw.setCell _ _=ajx
   replace T:=f1 T (eF TD)
   replace R:=Vu R TD
   replace jW:=tf jW TD
   clear TD
   generalize TF:ajx.setCell _ _=apv
   replace T:=f1 T (eF TF)
   replace R:=U5 R TF
   replace jW:=tf jW TF
   clear TF
   obtain ⟨dZ,dU,gY,gZ,fA,gG,eu,gJ,fE,dV⟩:=R.out.c10
   go_wp2_with fail
   clear dZ dU gY gZ fA gG eu gJ fE dV
   ((with_reducible refine (HC.out _).mono ?_);rintro e apw ⟨rfl,Y9⟩)
   obtain ⟨T,R⟩:=b2 T R Y9
   replace jW:=dT jW Y9
   clear Y9
   go_wp2_with fail
   go_ret
   exact ⟨au Hf.out.symm,jW⟩
  have hd2:decide (x.max≤50)=false:=decide_eq_false hhi
  have Hf:Hid (dH x=false):=by show _=_;rw [hf,hd,hd2];rfl
  clear hf h
  obtain ⟨-,-,-,-,fA,-,-,gJ,fE,-⟩:=R.out.c10
  have vF:=R.out.free 4
  have Ad:=R.out.free 8
  have Vw:=R.out.free 7
  go_upto_region 29 with fail
  clear aA dA dn dw bV dh bP cZ bU aJ fA fE gJ vF Ad Vw
  generalize TG:Y8.setCell _ _=ajy
  replace T:=f1 T (eF TG)
  replace R:=Jk R TG
  replace jW:=tf jW TG
  clear TG
  generalize TI:ajy.setCell _ _=ajz
  replace T:=f1 T (eF TI)
  replace R:=Vu R TI
  replace jW:=tf jW TI
  clear TI
  generalize TJ:ajz.setCell _ _=apx
  replace T:=f1 T (eF TJ)
  replace R:=U5 R TJ
  replace jW:=tf jW TJ
  clear TJ
  obtain ⟨dZ,dU,gY,gZ,fA,gG,eu,gJ,fE,dV⟩:=R.out.c10
  go_wp2_with fail
  go_ret
  exact ⟨au Hf.out.symm,jW⟩
 have hd:decide (0≤x.max)=false:=decide_eq_false hlo
 have Hf:Hid (dH x=false):=by show _=_;rw [hf,hd];rfl
 clear hf h
 obtain ⟨-,-,-,-,fA,-,-,gJ,fE,-⟩:=R.out.c10
 have vF:=R.out.free 4
 have Ad:=R.out.free 8
 have Vw:=R.out.free 7
 go_upto_region 29 with fail
 clear aA dA dn dw bV dh bP cZ bU aJ fA fE gJ vF Ad Vw
 generalize TK:Y8.setCell _ _=ajA
 replace T:=f1 T (eF TK)
 replace R:=Jk R TK
 replace jW:=tf jW TK
 clear TK
 generalize TL:ajA.setCell _ _=ajB
 replace T:=f1 T (eF TL)
 replace R:=Vu R TL
 replace jW:=tf jW TL
 clear TL
 generalize TM:ajB.setCell _ _=apy
 replace T:=f1 T (eF TM)
 replace R:=U5 R TM
 replace jW:=tf jW TM
 clear TM
 obtain ⟨dZ,dU,gY,gZ,fA,gG,eu,gJ,fE,dV⟩:=R.out.c10
 go_wp2_with fail
 go_ret
 exact ⟨au Hf.out.symm,jW⟩
set_option maxRecDepth 100000 in
theorem abu (x:aC) (A1 A2:Option Addr) (c1 c2:Nat) (w:World) (h:x.kind=9) (_:x.syms.length≤6000000000000∧x.aj.length≤6000000000000) (_:eX w w.heap.size x (.slice A1 x.syms.length c1) (.slice A2 x.aj.length c2)) :
  Calls Tryz.prog 89 #[aS x (.slice A1 x.syms.length c1) (.slice A2 x.aj.length c2)] w fun e w' => e = .returned (.bool (dH x))∧Below w.heap.size w w':=by
 have hrt:fQ x = { x with kind:=0,elem:=0 }:=by unfold fQ;simp [h]
 have hf:=qw x (by rw [h];unfold fJ;omega)
 have hc:∀ W,Calls Tryz.prog 129 #[.agg #[.int .i64 0,.string ⟨x.name.toArray⟩,.int .i64 x.low,.int .i64 x.high,.int .i64 x.max,.slice A1 x.syms.length c1,.slice A2 x.aj.length c2,.int .i64 x.key,.int .i64 0,.bool x.opn],.agg #[.int .i64 0,.string ⟨#[]⟩,.int .i64 0,.int .i64 0,.int .i64 0,.slice none 0 0,.slice none 0 0,.int .i64 0,.int .i64 0,.bool false]] W fun e w' => e = .returned (.bool (gy (fQ x) fZ))∧Below W.heap.size W w':=fun W => by
  rw [hrt]
  exact lI ({ x with kind:=0,elem:=0 } : aC) fZ A1 A2 c1 c2 W
 have hok:rM x=true:=by unfold rM;simp [h]
 rw [hok] at hf
 have HC:=Lib.hid hc
 clear hc hok hrt
 simp only [aS,h]
 go_enter Tryz.func89,Tryz.ntmps89
 go_upto_region 1 with fail
 generalize afN:w.alloc _=afO
 have ⟨afP,T⟩:=bH afN
 clear afN
 have Az:=afP
 clear afP
 obtain ⟨aA,dA,dn,dw,bV,dh,bP,cZ,bU,aJ⟩:=T.out.c10
 go_upto_region 2 with fail
 clear aA dA dn dw bV dh bP cZ bU aJ
 generalize afQ:afO.alloc _=ajC
 have ⟨Za,R⟩:=bH afQ
 clear afQ
 have apz:=T.out.here
 have apA:=Az.size
 replace T:=b1 T Za
 replace Az:=dT Az Za
 clear Za
 generalize afO.heap.size=aq7 at *
 have dZ:=R.out.e0
 have pI:=R.out.free 0
 go_upto_region 3 with fail
 clear dZ pI
 generalize TN:ajC.setCell _ _=ajD
 replace T:=f1 T (eF TN)
 replace R:=IJ R TN
 replace Az:=tf Az TN
 clear TN
 obtain ⟨aA,dA,dn,dw,bV,dh,bP,cZ,bU,aJ⟩:=T.out.c10
 have Hf:Hid (dH x=gy (fQ x) fZ):=by show _=_;rw [hf];rfl
 clear hf h
 have fE:=R.out.e8
 have Ad:=R.out.free 8
 go_upto_region 29 with fail
 clear aA dA dn dw bV dh bP cZ bU aJ fE Ad
 generalize TQ:ajD.setCell _ _=apB
 replace T:=f1 T (eF TQ)
 replace R:=Vu R TQ
 replace Az:=tf Az TQ
 clear TQ
 obtain ⟨dZ,dU,gY,gZ,fA,gG,eu,gJ,fE,dV⟩:=R.out.c10
 go_wp2_with fail
 clear dZ dU gY gZ fA gG eu gJ fE dV
 ((with_reducible refine (HC.out _).mono ?_);rintro e apC ⟨rfl,Zb⟩)
 obtain ⟨T,R⟩:=b2 T R Zb
 replace Az:=dT Az Zb
 clear Zb
 go_wp2_with fail
 go_ret
 exact ⟨au Hf.out.symm,Az⟩
theorem abv (x:aC) (A1 A2:Option Addr) (c1 c2:Nat) (w:World) (h:x.kind=5) (hl:x.syms.length≤6000000000000∧x.aj.length≤6000000000000) (ht:eX w w.heap.size x (.slice A1 x.syms.length c1) (.slice A2 x.aj.length c2)) :
  Calls Tryz.prog 89 #[aS x (.slice A1 x.syms.length c1) (.slice A2 x.aj.length c2)] w fun e w' => e = .returned (.bool (dH x))∧Below w.heap.size w w':=by
 cases ho:x.opn with
 | true => exact RJ x A1 A2 c1 c2 w h ho hl ht
 | false => exact Qa x A1 A2 c1 c2 w h ho hl ht
theorem abw (x:aC) (A1 A2:Option Addr) (c1 c2:Nat) (w:World) (h:x.kind=6) (hl:x.syms.length≤6000000000000∧x.aj.length≤6000000000000) (ht:eX w w.heap.size x (.slice A1 x.syms.length c1) (.slice A2 x.aj.length c2)) :
  Calls Tryz.prog 89 #[aS x (.slice A1 x.syms.length c1) (.slice A2 x.aj.length c2)] w fun e w' => e = .returned (.bool (dH x))∧Below w.heap.size w w':=by
 cases ho:x.opn with
 | true => exact RN x A1 A2 c1 c2 w h ho hl ht
 | false => exact Qb x A1 A2 c1 c2 w h ho hl ht
set_option maxRecDepth 100000 in
theorem abx (x:aC) (A1 A2:Option Addr) (c1 c2:Nat) (w:World) (h:¬ fJ x.kind) :
  Calls Tryz.prog 89 #[aS x (.slice A1 x.syms.length c1) (.slice A2 x.aj.length c2)] w fun e w' => e = .returned (.bool (dH x))∧Below w.heap.size w w':=by
 have Hf:Hid (dH x=false):=by show _=_;unfold dH;rw [decide_eq_false (by unfold fJ at h;exact h)];rfl
 have t1:(x.kind == 1)=false:=beq_eq_false_iff_ne.2 (fun e => h (by rw [e];unfold fJ;omega))
 have t2:(x.kind == 2)=false:=beq_eq_false_iff_ne.2 (fun e => h (by rw [e];unfold fJ;omega))
 have t3:(x.kind == 3)=false:=beq_eq_false_iff_ne.2 (fun e => h (by rw [e];unfold fJ;omega))
 have t4:(x.kind == 4)=false:=beq_eq_false_iff_ne.2 (fun e => h (by rw [e];unfold fJ;omega))
 have t5:(x.kind == 5)=false:=beq_eq_false_iff_ne.2 (fun e => h (by rw [e];unfold fJ;omega))
 have t6:(x.kind == 6)=false:=beq_eq_false_iff_ne.2 (fun e => h (by rw [e];unfold fJ;omega))
 have t7:(x.kind == 7)=false:=beq_eq_false_iff_ne.2 (fun e => h (by rw [e];unfold fJ;omega))
 have t8:(x.kind == 8)=false:=beq_eq_false_iff_ne.2 (fun e => h (by rw [e];unfold fJ;omega))
 have t9:(x.kind == 9)=false:=beq_eq_false_iff_ne.2 (fun e => h (by rw [e];unfold fJ;omega))
 clear h
 go_enter Tryz.func89,Tryz.ntmps89
 go_upto_region 1 with fail
 generalize afR:w.alloc _=afS
 have ⟨afT,T⟩:=bH afR
 clear afR
 have Ko:=afT
 clear afT
 obtain ⟨aA,dA,dn,dw,bV,dh,bP,cZ,bU,aJ⟩:=T.out.c10
 go_upto_region 2 with fail
 clear aA dA dn dw bV dh bP cZ bU aJ
 generalize afU:afS.alloc _=ajE
 have ⟨Zc,R⟩:=bH afU
 clear afU
 have apD:=T.out.here
 have apE:=Ko.size
 replace T:=b1 T Zc
 replace Ko:=dT Ko Zc
 clear Zc
 generalize afS.heap.size=aq8 at *
 have dZ:=R.out.e0
 have pI:=R.out.free 0
 go_upto_region 3 with fail
 clear dZ pI
 generalize TR:ajE.setCell _ _=apF
 replace T:=f1 T (eF TR)
 replace R:=IJ R TR
 replace Ko:=tf Ko TR
 clear TR
 obtain ⟨aA,dA,dn,dw,bV,dh,bP,cZ,bU,aJ⟩:=T.out.c10
 go_wp2_with fail
 go_ret
 exact ⟨au Hf.out.symm,Ko⟩
theorem ady (x:aC) (vs vm:Value) (w:World) (hl:x.syms.length≤6000000000000∧x.aj.length≤6000000000000) (ht:eX w w.heap.size x vs vm) :
  Calls Tryz.prog 89 #[aS x vs vm] w fun e w' => e = .returned (.bool (dH x))∧Below w.heap.size w w':=by
 obtain ⟨A1,c1,A2,c2,rfl,rfl,-,-⟩:=ht.forms
 by_cases hk:fJ x.kind
 ·
  rcases sN hk with h | h | h | h | h | h | h | h | h
  · exact abm x A1 A2 c1 c2 w h hl ht
  · exact abn x A1 A2 c1 c2 w h hl ht
  · exact abo x A1 A2 c1 c2 w h hl ht
  · exact abp x A1 A2 c1 c2 w h hl ht
  · exact abv x A1 A2 c1 c2 w h hl ht
  · exact abw x A1 A2 c1 c2 w h hl ht
  · exact abr x A1 A2 c1 c2 w h hl ht
  · exact abt x A1 A2 c1 c2 w h hl ht
  exact abu x A1 A2 c1 c2 w h hl ht
 exact abx x A1 A2 c1 c2 w hk
end Go.Proofs.YthkfapcadhnaeaaGreatDoor
