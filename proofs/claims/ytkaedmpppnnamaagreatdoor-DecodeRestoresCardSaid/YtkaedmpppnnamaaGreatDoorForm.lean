/- What schema.form computes. No condition. -/
import Derived.Test.YtkaedmpppnnamaaGreatDoorFitsE
set_option maxHeartbeats 4000000
set_option maxRecDepth 100000
namespace Go.Proofs.YtkaedmpppnnamaaGreatDoor
open ChangeShapes WideShapes ChangeAt RowKit
def iC:ay:={ kind:=0,name:=[],low:=0,high:=0,max:=0,syms:=[],ah:=[],key:=0,elem:=0,opn:=false }
def gZ (x:ay):ay :=
 if x.kind=2 then { x with kind:=0,low:=0,high:=0 }
 else if x.kind=3 then { x with kind:=0,max:=0 }
 else if x.kind=4 then { x with kind:=0,name:=[],syms:=[],opn:=false }
 else if x.kind=5 then { x with kind:=0,name:=[],ah:=[] }
 else if x.kind=6 then { x with kind:=0,name:=[],ah:=[],opn:=false }
 else if x.kind=7 then { x with kind:=0,max:=0,elem:=0 }
 else if x.kind=8 then { x with kind:=0,max:=0,elem:=0,key:=0 }
 else if x.kind=9 then { x with kind:=0,elem:=0 }
 else { x with kind:=0 }
def rD (x:ay):Bool :=
 if x.kind=2 then decide (x.low<=x.high)
 else if x.kind=3 then decide (0<=x.max) && decide (x.max<=200)
 else if x.kind=4 then nameB x.name && wu x.syms
 else if x.kind=5\/x.kind=6 then nameB x.name && iQ x
 else if x.kind=7\/x.kind=8 then decide (0<=x.max) && decide (x.max<=50)
 else true
def dY (x:ay):Bool:=decide (1<=x.kind/\x.kind<=9) && (rD x && jy (gZ x) iC)
theorem wW (x:ay) (h:iP x.kind):dY x=(rD x && jy (gZ x) iC):=by
 unfold dY iP at *;rw [n_ h];rfl
theorem zCp {p:Prop} (h:p:=by
 go_wp2_with fail;go_ret;exact ⟨au Hf.out.symm,hw3⟩):p:=h
theorem abH (x:ay) (A1 A2:Option Addr) (c1 c2:Nat) (w:World) (h:x.kind=1) (_:x.syms.length<=6000000000000/\x.ah.length<=6000000000000) (_:jc w w.heap.size x (.slice A1 x.syms.length c1) (.slice A2 x.ah.length c2)) :
  Calls Tryz.prog 74 #[dA x (.slice A1 x.syms.length c1) (.slice A2 x.ah.length c2)] w (RT w (.bool (dY x))):=by
 have hrt:gZ x = { x with kind:=0 }:=by unfold gZ;simp [h]
 have hf:=wW x (by rw [h];unfold iP;omega);have hc:∀ W,Calls Tryz.prog 102 #[.agg #[.int .i64 0,.string ⟨x.name.toArray⟩,.int .i64 x.low,.int .i64 x.high,.int .i64 x.max,.slice A1 x.syms.length c1,.slice A2 x.ah.length c2,.int .i64 x.key,.int .i64 x.elem,.bool x.opn],.agg #[.int .i64 0,.string ⟨#[]⟩,.int .i64 0,.int .i64 0,.int .i64 0,.slice none 0 0,.slice none 0 0,.int .i64 0,.int .i64 0,.bool false]] W fun e w' => e = .returned (.bool (jy (gZ x) iC))/\Below W.heap.size W w':=fun W => by
  rw [hrt];exact rO ({ x with kind:=0 } : ay) iC A1 A2 c1 c2 W
 have hok:rD x=true:=by unfold rD;simp [h]
 rw [hok] at hf;have HC:=hiQ hc;clear hc hok hrt;simp only [dA,h];go_enter Tryz.func74,Tryz.ntmps74
 go_upto_region 1 with fail;refine aO (fun wd2 hb1 T => ?_);have hw3:=hb1;clear hb1;obtain ⟨aC,bH,bQ,acX,aW,bP,bf,bF,aV,aJ⟩:=T.out.c10;go_upto_region 2 with fail;clear aC bH bQ acX aW bP bf bF aV aJ;refine aO (fun fG hb4 R => ?_);have nI:=T.out.here;have mO:=hw3.size;replace T:=b1 T hb4;replace hw3:=dT hw3 hb4;clear hb4;generalize wd2.heap.size=g6 at *;have iV:=R.out.e0;have rM:=R.out.free 0;go_upto_region 3 with fail;clear iV rM;generalize jE:fG.setCell _ _=nM;replace T:=f1 T (eF jE);replace R:=xR R jE;replace hw3:=tf hw3 jE;clear jE;obtain ⟨aC,bH,bQ,acX,aW,bP,bf,bF,aV,aJ⟩:=T.out.c10;have Hf:Hid (dY x=jy (gZ x) iC):=by show _=_;rw [hf];rfl
 clear hf h;go_upto_region 29 with fail;obtain ⟨iV,iW,mV,mW,jH,lQ,jr,lS,jW,iY⟩:=R.out.c10;go_wp2_with fail;clear aC bH bQ acX aW bP bf bF aV aJ iV iW mV mW jH lQ jr lS jW iY;((with_reducible refine (HC.out _).mono ?_);rintro e dw ⟨rfl,fV⟩);obtain ⟨T,R⟩:=b2 T R fV;replace hw3:=dT hw3 fV;clear fV;exact zCp
theorem zCk {p:Prop} (h:p:=by
 obtain ⟨iV,iW,mV,mW,jH,lQ,jr,lS,jW,iY⟩:=R.out.c10;go_wp2_with fail;go_ret;exact ⟨au Hf.out.symm,hw3⟩):p:=h
theorem zHz {p:Prop} (h:p:=by
 replace hw3:=tf hw3 aX;clear aX;obtain ⟨iV,iW,mV,mW,jH,lQ,jr,lS,jW,iY⟩:=R.out.c10;go_wp2_with fail;clear iV iW mV mW jH lQ jr lS jW iY;((with_reducible refine (HC.out _).mono ?_);rintro e jA ⟨rfl,hb16⟩);obtain ⟨T,R⟩:=b2 T R hb16;replace hw3:=dT hw3 hb16;clear hb16;exact zCp):p:=h
theorem abI (x:ay) (A1 A2:Option Addr) (c1 c2:Nat) (w:World) (h:x.kind=2) (_:x.syms.length<=6000000000000/\x.ah.length<=6000000000000) (_:jc w w.heap.size x (.slice A1 x.syms.length c1) (.slice A2 x.ah.length c2)) :
  Calls Tryz.prog 74 #[dA x (.slice A1 x.syms.length c1) (.slice A2 x.ah.length c2)] w (RT w (.bool (dY x))):=by
 have hrt:gZ x = { x with kind:=0,low:=0,high:=0 }:=by unfold gZ;simp [h]
 have hf:=wW x (by rw [h];unfold iP;omega);have hc:∀ W,Calls Tryz.prog 102 #[.agg #[.int .i64 0,.string ⟨x.name.toArray⟩,.int .i64 0,.int .i64 0,.int .i64 x.max,.slice A1 x.syms.length c1,.slice A2 x.ah.length c2,.int .i64 x.key,.int .i64 x.elem,.bool x.opn],.agg #[.int .i64 0,.string ⟨#[]⟩,.int .i64 0,.int .i64 0,.int .i64 0,.slice none 0 0,.slice none 0 0,.int .i64 0,.int .i64 0,.bool false]] W fun e w' => e = .returned (.bool (jy (gZ x) iC))/\Below W.heap.size W w':=fun W => by
  rw [hrt];exact rO ({ x with kind:=0,low:=0,high:=0 } : ay) iC A1 A2 c1 c2 W
 have hok:rD x=decide (x.low<=x.high):=by unfold rD;simp [h]
 rw [hok] at hf;have HC:=hiQ hc;clear hc hok hrt;simp only [dA,h];go_enter Tryz.func74,Tryz.ntmps74
 go_upto_region 1 with fail;refine aO (fun wd2 hb1 T => ?_);have hw3:=hb1;clear hb1;obtain ⟨aC,bH,bQ,acX,aW,bP,bf,bF,aV,aJ⟩:=T.out.c10;go_upto_region 2 with fail;clear aC bH bQ acX aW bP bf bF aV aJ;refine aO (fun fG hb4 R => ?_);have nI:=T.out.here;have mO:=hw3.size;replace T:=b1 T hb4;replace hw3:=dT hw3 hb4;clear hb4;generalize wd2.heap.size=g6 at *;have iV:=R.out.e0;have rM:=R.out.free 0;go_upto_region 3 with fail;clear iV rM;generalize jE:fG.setCell _ _=nM;replace T:=f1 T (eF jE);replace R:=xR R jE;replace hw3:=tf hw3 jE;clear jE;obtain ⟨aC,bH,bQ,acX,aW,bP,bf,bF,aV,aJ⟩:=T.out.c10;by_cases hlo:x.low<=x.high
 .
  have hd:decide (x.low<=x.high)=true:=n_ hlo;have Hf:Hid (dY x=jy (gZ x) iC):=by show _=_;rw [hf,hd];rfl
  clear hf h;have mV:=R.out.e2;have mW:=R.out.e3;have adZ:=R.out.free 2;have ad1:=R.out.free 3;go_upto_region 29 with fail;clear aC bH bQ acX aW bP bf bF aV aJ mV mW adZ ad1;generalize fP:nM.setCell _ _=dw;replace T:=f1 T (eF fP);replace R:=Yx R fP;replace hw3:=tf hw3 fP;clear fP;generalize aX:dw.setCell _ _=dQ;replace T:=f1 T (eF aX);replace R:=Vx R aX;exact zHz
 have hd:decide (x.low<=x.high)=false:=f_ hlo;have Hf:Hid (dY x=false):=by show _=_;rw [hf,hd];rfl
 clear hf h;have mV:=R.out.e2;have mW:=R.out.e3;have adZ:=R.out.free 2;have ad1:=R.out.free 3;go_upto_region 29 with fail;clear aC bH bQ acX aW bP bf bF aV aJ mV mW adZ ad1;generalize fP:nM.setCell _ _=dw;replace T:=f1 T (eF fP);replace R:=Yx R fP;replace hw3:=tf hw3 fP;clear fP;generalize aX:dw.setCell _ _=dQ;replace T:=f1 T (eF aX);replace R:=Vx R aX;replace hw3:=tf hw3 aX;clear aX;exact zCk
theorem zIa {p:Prop} (h:p:=by
 replace hw3:=tf hw3 fP;clear fP;obtain ⟨iV,iW,mV,mW,jH,lQ,jr,lS,jW,iY⟩:=R.out.c10;go_wp2_with fail;clear iV iW mV mW jH lQ jr lS jW iY;((with_reducible refine (HC.out _).mono ?_);rintro e dQ ⟨rfl,jh⟩);obtain ⟨T,R⟩:=b2 T R jh;replace hw3:=dT hw3 jh;clear jh;exact zCp):p:=h
theorem zIc {p:Prop} (h:p:=by
 clear hf h;have jH:=R.out.e4;have zI:=R.out.free 4;go_upto_region 29 with fail;clear aC bH bQ acX aW bP bf bF aV aJ jH zI;generalize fP:nM.setCell _ _=dw;replace T:=f1 T (eF fP);replace R:=zB R fP;replace hw3:=tf hw3 fP;clear fP;exact zCk):p:=h
theorem abJ (x:ay) (A1 A2:Option Addr) (c1 c2:Nat) (w:World) (h:x.kind=3) (_:x.syms.length<=6000000000000/\x.ah.length<=6000000000000) (_:jc w w.heap.size x (.slice A1 x.syms.length c1) (.slice A2 x.ah.length c2)) :
  Calls Tryz.prog 74 #[dA x (.slice A1 x.syms.length c1) (.slice A2 x.ah.length c2)] w (RT w (.bool (dY x))):=by
 have hrt:gZ x = { x with kind:=0,max:=0 }:=by unfold gZ;simp [h]
 have hf:=wW x (by rw [h];unfold iP;omega);have hc:∀ W,Calls Tryz.prog 102 #[.agg #[.int .i64 0,.string ⟨x.name.toArray⟩,.int .i64 x.low,.int .i64 x.high,.int .i64 0,.slice A1 x.syms.length c1,.slice A2 x.ah.length c2,.int .i64 x.key,.int .i64 x.elem,.bool x.opn],.agg #[.int .i64 0,.string ⟨#[]⟩,.int .i64 0,.int .i64 0,.int .i64 0,.slice none 0 0,.slice none 0 0,.int .i64 0,.int .i64 0,.bool false]] W fun e w' => e = .returned (.bool (jy (gZ x) iC))/\Below W.heap.size W w':=fun W => by
  rw [hrt];exact rO ({ x with kind:=0,max:=0 } : ay) iC A1 A2 c1 c2 W
 have hok:rD x=(decide (0<=x.max) && decide (x.max<=200)):=by unfold rD;simp [h]
 rw [hok] at hf;have HC:=hiQ hc;clear hc hok hrt;simp only [dA,h];go_enter Tryz.func74,Tryz.ntmps74
 go_upto_region 1 with fail;refine aO (fun wd2 hb1 T => ?_);have hw3:=hb1;clear hb1;obtain ⟨aC,bH,bQ,acX,aW,bP,bf,bF,aV,aJ⟩:=T.out.c10;go_upto_region 2 with fail;clear aC bH bQ acX aW bP bf bF aV aJ;refine aO (fun fG hb4 R => ?_);have nI:=T.out.here;have mO:=hw3.size;replace T:=b1 T hb4;replace hw3:=dT hw3 hb4;clear hb4;generalize wd2.heap.size=g6 at *;have iV:=R.out.e0;have rM:=R.out.free 0;go_upto_region 3 with fail;clear iV rM;generalize jE:fG.setCell _ _=nM;replace T:=f1 T (eF jE);replace R:=xR R jE;replace hw3:=tf hw3 jE;clear jE;obtain ⟨aC,bH,bQ,acX,aW,bP,bf,bF,aV,aJ⟩:=T.out.c10;by_cases hlo:0<=x.max
 .
  have hd:decide (0<=x.max)=true:=n_ hlo;by_cases hhi:x.max<=200
  .
   have hd2:decide (x.max<=200)=true:=n_ hhi;have Hf:Hid (dY x=jy (gZ x) iC):=by show _=_;rw [hf,hd,hd2];rfl
   clear hf h;have jH:=R.out.e4;have zI:=R.out.free 4;go_upto_region 29 with fail;clear aC bH bQ acX aW bP bf bF aV aJ jH zI;generalize fP:nM.setCell _ _=dw;replace T:=f1 T (eF fP);replace R:=zB R fP;exact zIa
  have hd2:decide (x.max<=200)=false:=f_ hhi;have Hf:Hid (dY x=false):=by show _=_;rw [hf,hd,hd2];rfl
  exact zIc
 have hd:decide (0<=x.max)=false:=f_ hlo;have Hf:Hid (dY x=false):=by show _=_;rw [hf,hd];rfl
 exact zIc
theorem abK (x:ay) (A1 A2:Option Addr) (c1 c2:Nat) (w:World) (h:x.kind=4) (hl:x.syms.length<=6000000000000/\x.ah.length<=6000000000000) (ht:jc w w.heap.size x (.slice A1 x.syms.length c1) (.slice A2 x.ah.length c2)) :
  Calls Tryz.prog 74 #[dA x (.slice A1 x.syms.length c1) (.slice A2 x.ah.length c2)] w (RT w (.bool (dY x))):=by
 have hrt:gZ x = { x with kind:=0,name:=[],syms:=[],opn:=false }:=by unfold gZ;simp [h]
 have hf:=wW x (by rw [h];unfold iP;omega);have hc:∀ W,Calls Tryz.prog 102 #[.agg #[.int .i64 0,.string ⟨#[]⟩,.int .i64 x.low,.int .i64 x.high,.int .i64 x.max,.slice none 0 0,.slice A2 x.ah.length c2,.int .i64 x.key,.int .i64 x.elem,.bool false],.agg #[.int .i64 0,.string ⟨#[]⟩,.int .i64 0,.int .i64 0,.int .i64 0,.slice none 0 0,.slice none 0 0,.int .i64 0,.int .i64 0,.bool false]] W fun e w' => e = .returned (.bool (jy (gZ x) iC))/\Below W.heap.size W w':=fun W => by
  rw [hrt];exact rO ({ x with kind:=0,name:=[],syms:=[],opn:=false } : ay) iC none A2 0 c2 W
 have hok:rD x=(nameB x.name && wu x.syms):=by unfold rD;simp [h]
 rw [hok] at hf;have HC:=hiQ hc;have HN:=hiQ (fun W => yj x.name W);have HS:=hiQ (fun W hW => XY x.syms (.slice A1 x.syms.length c1) W hl.1 ht.QL ((ht.syms.below (w':=W) hW).mono hW.size));clear hc hok hrt ht;simp only [dA,h];go_enter Tryz.func74,Tryz.ntmps74
 go_upto_region 1 with fail;refine aO (fun wd2 hb1 T => ?_);have hw3:=hb1;clear hb1;obtain ⟨aC,bH,bQ,acX,aW,bP,bf,bF,aV,aJ⟩:=T.out.c10;go_upto_region 2 with fail;clear aC bH bQ acX aW bP bf bF aV aJ;refine aO (fun fG hb4 R => ?_);have nI:=T.out.here;have mO:=hw3.size;replace T:=b1 T hb4;replace hw3:=dT hw3 hb4;clear hb4;generalize wd2.heap.size=g6 at *;have iV:=R.out.e0;have rM:=R.out.free 0;go_upto_region 3 with fail;clear iV rM;generalize jE:fG.setCell _ _=nM;replace T:=f1 T (eF jE);replace R:=xR R jE;replace hw3:=tf hw3 jE;clear jE;obtain ⟨aC,bH,bQ,acX,aW,bP,bf,bF,aV,aJ⟩:=T.out.c10;go_wp2_with fail;clear aC bH bQ acX aW bP bf bF aV aJ;((with_reducible refine (HN.out _).mono ?_);rintro e dw ⟨rfl,rfl⟩);cases hn:nameB x.name with
 | false =>
  have Hf:Hid (dY x=false):=by show _=_;rw [hf,hn];rfl
  clear hf h;obtain ⟨-,iW,-,-,-,lQ,-,-,-,iY⟩:=R.out.c10;have rP:=R.out.free 1;have VF:=R.out.free 5;have rQ:=R.out.free 9;go_upto_region 29 with fail;clear iW lQ iY rP VF rQ;generalize aX:nM.setCell _ _=dQ;replace T:=f1 T (eF aX);replace R:=yT R aX;replace hw3:=tf hw3 aX;clear aX;generalize adq:dQ.setCell _ _=jA;replace T:=f1 T (eF adq);replace R:=Ea R adq;replace hw3:=tf hw3 adq;clear adq;generalize fQ:jA.setCell _ _=ji;replace T:=f1 T (eF fQ);replace R:=Cc R fQ;replace hw3:=tf hw3 fQ;clear fQ;exact zCk
 | true =>
  obtain ⟨aC,bH,bQ,acX,aW,bP,bf,bF,aV,aJ⟩:=T.out.c10;go_wp2_with fail;clear aC bH bQ acX aW bP bf bF aV aJ;((with_reducible refine (HS.out _ (hw3)).mono ?_);rintro e dQ ⟨rfl,jh⟩);obtain ⟨T,R⟩:=b2 T R jh;replace hw3:=dT hw3 jh;clear jh;cases hs:wu x.syms with
  | false =>
   have Hf:Hid (dY x=false):=by show _=_;rw [hf,hn,hs];rfl
   clear hf h;obtain ⟨-,iW,-,-,-,lQ,-,-,-,iY⟩:=R.out.c10;have rP:=R.out.free 1;have VF:=R.out.free 5;have rQ:=R.out.free 9;go_upto_region 29 with fail;clear iW lQ iY rP VF rQ;generalize adq:dQ.setCell _ _=jA;replace T:=f1 T (eF adq);replace R:=yT R adq;replace hw3:=tf hw3 adq;clear adq;generalize fQ:jA.setCell _ _=ji;replace T:=f1 T (eF fQ);replace R:=Ea R fQ;replace hw3:=tf hw3 fQ;clear fQ;generalize hE20:ji.setCell _ _=fZ;replace T:=f1 T (eF hE20);replace R:=Cc R hE20;replace hw3:=tf hw3 hE20;clear hE20;exact zCk
  | true =>
   have Hf:Hid (dY x=jy (gZ x) iC):=by show _=_;rw [hf,hn,hs];rfl
   clear hf h;obtain ⟨-,iW,-,-,-,lQ,-,-,-,iY⟩:=R.out.c10;have rP:=R.out.free 1;have VF:=R.out.free 5;have rQ:=R.out.free 9;go_upto_region 29 with fail;clear iW lQ iY rP VF rQ;generalize adq:dQ.setCell _ _=jA;replace T:=f1 T (eF adq);replace R:=yT R adq;replace hw3:=tf hw3 adq;clear adq;generalize fQ:jA.setCell _ _=ji;replace T:=f1 T (eF fQ);replace R:=Ea R fQ;replace hw3:=tf hw3 fQ;clear fQ;generalize hE20:ji.setCell _ _=fZ;replace T:=f1 T (eF hE20);replace R:=Cc R hE20;replace hw3:=tf hw3 hE20;clear hE20;obtain ⟨iV,iW,mV,mW,jH,lQ,jr,lS,jW,iY⟩:=R.out.c10;go_wp2_with fail;clear iV iW mV mW jH lQ jr lS jW iY;((with_reducible refine (HC.out _).mono ?_);rintro e jU ⟨rfl,ng⟩);obtain ⟨T,R⟩:=b2 T R ng;replace hw3:=dT hw3 ng;clear ng;exact zCp
theorem zJa {p:Prop} (h:p:=by
 obtain ⟨iV,iW,mV,mW,jH,lQ,jr,lS,jW,iY⟩:=R.out.c10;go_wp2_with fail;go_ret;exact ⟨au Hf.out.symm,hw3⟩):p:=h
theorem zBm {p:Prop} (h:p:=by
 have hok:rD x=(nameB x.name && iQ x):=by unfold rD;simp [h]
 rw [hok] at hf;have HC:=hiQ hc;have HN:=hiQ (fun W => yj x.name W);have hm:=fun W hW => DZ x (.slice A1 x.syms.length c1) (.slice A2 x.ah.length c2) W hl.2 (ht.on (w':=W) hW);simp only [dA,h,hop] at hm;have HM:=hiQ hm;clear hm hc hok hrt ht;simp only [dA,h,hop];clear hop;go_enter Tryz.func74,Tryz.ntmps74
 go_upto_region 1 with fail;refine aO (fun wd2 hb1 T => ?_);have hw3:=hb1;clear hb1;obtain ⟨aC,bH,bQ,acX,aW,bP,bf,bF,aV,aJ⟩:=T.out.c10;go_upto_region 2 with fail;clear aC bH bQ acX aW bP bf bF aV aJ;refine aO (fun fG hb4 R => ?_);have nI:=T.out.here;have mO:=hw3.size;replace T:=b1 T hb4;replace hw3:=dT hw3 hb4;clear hb4;generalize wd2.heap.size=g6 at *;have iV:=R.out.e0;have rM:=R.out.free 0;go_upto_region 3 with fail;clear iV rM;generalize jE:fG.setCell _ _=nM;replace T:=f1 T (eF jE);replace R:=xR R jE;replace hw3:=tf hw3 jE;clear jE;obtain ⟨aC,bH,bQ,acX,aW,bP,bf,bF,aV,aJ⟩:=T.out.c10;go_wp2_with fail;clear aC bH bQ acX aW bP bf bF aV aJ;((with_reducible refine (HN.out _).mono ?_);rintro e dw ⟨rfl,rfl⟩);cases hn:nameB x.name with
 | false =>
  have Hf:Hid (dY x=false):=by show _=_;rw [hf,hn];rfl
  clear hf h;have aC:=T.out.e0;have aJ:=T.out.e9;have iW:=R.out.e1;have jr:=R.out.e6;have rP:=R.out.free 1;have wz:=R.out.free 6;go_upto_region 20 with fail;clear aC aJ iW jr rP wz;generalize aX:nM.setCell _ _=dQ;replace T:=f1 T (eF aX);replace R:=yT R aX;replace hw3:=tf hw3 aX;clear aX;generalize adq:dQ.setCell _ _=jA;replace T:=f1 T (eF adq);replace R:=qM R adq;replace hw3:=tf hw3 adq;clear adq;have aC:=T.out.e0;have aJ:=T.out.e9;have iY:=R.out.e9;have rQ:=R.out.free 9;go_upto_region 29 with fail;clear aC aJ iY rQ;generalize fQ:jA.setCell _ _=ji;replace T:=f1 T (eF fQ);replace R:=Cc R fQ;replace hw3:=tf hw3 fQ;clear fQ;exact zJa
 | true =>
  obtain ⟨aC,bH,bQ,acX,aW,bP,bf,bF,aV,aJ⟩:=T.out.c10;go_wp2_with fail;clear aC bH bQ acX aW bP bf bF aV aJ;((with_reducible refine (HM.out _ (hw3)).mono ?_);rintro e dQ ⟨rfl,jh⟩);obtain ⟨T,R⟩:=b2 T R jh;replace hw3:=dT hw3 jh;clear jh;cases hs:iQ x with
  | false =>
   have Hf:Hid (dY x=false):=by show _=_;rw [hf,hn,hs];rfl
   clear hf h;have aC:=T.out.e0;have aJ:=T.out.e9;have iW:=R.out.e1;have jr:=R.out.e6;have rP:=R.out.free 1;have wz:=R.out.free 6;go_upto_region 20 with fail;clear aC aJ iW jr rP wz;generalize adq:dQ.setCell _ _=jA;replace T:=f1 T (eF adq);replace R:=yT R adq;replace hw3:=tf hw3 adq;clear adq;generalize fQ:jA.setCell _ _=ji;replace T:=f1 T (eF fQ);replace R:=qM R fQ;replace hw3:=tf hw3 fQ;clear fQ;have aC:=T.out.e0;have aJ:=T.out.e9;have iY:=R.out.e9;have rQ:=R.out.free 9;go_upto_region 29 with fail;clear aC aJ iY rQ;generalize hE20:ji.setCell _ _=fZ;replace T:=f1 T (eF hE20);replace R:=Cc R hE20;replace hw3:=tf hw3 hE20;clear hE20;exact zJa
  | true =>
   have Hf:Hid (dY x=jy (gZ x) iC):=by show _=_;rw [hf,hn,hs];rfl
   clear hf h;have aC:=T.out.e0;have aJ:=T.out.e9;have iW:=R.out.e1;have jr:=R.out.e6;have rP:=R.out.free 1;have wz:=R.out.free 6;go_upto_region 20 with fail;clear aC aJ iW jr rP wz;generalize adq:dQ.setCell _ _=jA;replace T:=f1 T (eF adq);replace R:=yT R adq;replace hw3:=tf hw3 adq;clear adq;generalize fQ:jA.setCell _ _=ji;replace T:=f1 T (eF fQ);replace R:=qM R fQ;replace hw3:=tf hw3 fQ;clear fQ;have aC:=T.out.e0;have aJ:=T.out.e9;have iY:=R.out.e9;have rQ:=R.out.free 9;go_upto_region 29 with fail;clear aC aJ iY rQ;generalize hE20:ji.setCell _ _=fZ;replace T:=f1 T (eF hE20);replace R:=Cc R hE20;replace hw3:=tf hw3 hE20;clear hE20;obtain ⟨iV,iW,mV,mW,jH,lQ,jr,lS,jW,iY⟩:=R.out.c10;go_wp2_with fail;clear iV iW mV mW jH lQ jr lS jW iY;((with_reducible refine (HC.out _).mono ?_);rintro e jU ⟨rfl,ng⟩);obtain ⟨T,R⟩:=b2 T R ng;replace hw3:=dT hw3 ng;clear ng;go_wp2_with fail;go_ret;exact ⟨au Hf.out.symm,hw3⟩):p:=h
theorem UL (x:ay) (A1 A2:Option Addr) (c1 c2:Nat) (w:World) (h:x.kind=5) (hop:x.opn=true) (hl:x.syms.length<=6000000000000/\x.ah.length<=6000000000000) (ht:jc w w.heap.size x (.slice A1 x.syms.length c1) (.slice A2 x.ah.length c2)) :
  Calls Tryz.prog 74 #[dA x (.slice A1 x.syms.length c1) (.slice A2 x.ah.length c2)] w (RT w (.bool (dY x))):=by
 have hrt:gZ x = { x with kind:=0,name:=[],ah:=[],opn:=true }:=by unfold gZ;simp [h,hop]
 have hf:=wW x (by rw [h];unfold iP;omega);have hc:∀ W,Calls Tryz.prog 102 #[.agg #[.int .i64 0,.string ⟨#[]⟩,.int .i64 x.low,.int .i64 x.high,.int .i64 x.max,.slice A1 x.syms.length c1,.slice none 0 0,.int .i64 x.key,.int .i64 x.elem,.bool true],.agg #[.int .i64 0,.string ⟨#[]⟩,.int .i64 0,.int .i64 0,.int .i64 0,.slice none 0 0,.slice none 0 0,.int .i64 0,.int .i64 0,.bool false]] W fun e w' => e = .returned (.bool (jy (gZ x) iC))/\Below W.heap.size W w':=fun W => by
  rw [hrt];exact rO ({ x with kind:=0,name:=[],ah:=[],opn:=true } : ay) iC A1 none c1 0 W
 exact zBm
theorem zFs {p:Prop} (h:p:=by
 rw [hrt];exact rO ({ x with kind:=0,name:=[],ah:=[],opn:=false } : ay) iC A1 none c1 0 W):p:=h
theorem Sv (x:ay) (A1 A2:Option Addr) (c1 c2:Nat) (w:World) (h:x.kind=5) (hop:x.opn=false) (hl:x.syms.length<=6000000000000/\x.ah.length<=6000000000000) (ht:jc w w.heap.size x (.slice A1 x.syms.length c1) (.slice A2 x.ah.length c2)) :
  Calls Tryz.prog 74 #[dA x (.slice A1 x.syms.length c1) (.slice A2 x.ah.length c2)] w (RT w (.bool (dY x))):=by
 have hrt:gZ x = { x with kind:=0,name:=[],ah:=[],opn:=false }:=by unfold gZ;simp [h,hop]
 have hf:=wW x (by rw [h];unfold iP;omega);have hc:∀ W,Calls Tryz.prog 102 #[.agg #[.int .i64 0,.string ⟨#[]⟩,.int .i64 x.low,.int .i64 x.high,.int .i64 x.max,.slice A1 x.syms.length c1,.slice none 0 0,.int .i64 x.key,.int .i64 x.elem,.bool false],.agg #[.int .i64 0,.string ⟨#[]⟩,.int .i64 0,.int .i64 0,.int .i64 0,.slice none 0 0,.slice none 0 0,.int .i64 0,.int .i64 0,.bool false]] W fun e w' => e = .returned (.bool (jy (gZ x) iC))/\Below W.heap.size W w':=fun W => by
  exact zFs
 exact zBm
theorem UM (x:ay) (A1 A2:Option Addr) (c1 c2:Nat) (w:World) (h:x.kind=6) (hop:x.opn=true) (hl:x.syms.length<=6000000000000/\x.ah.length<=6000000000000) (ht:jc w w.heap.size x (.slice A1 x.syms.length c1) (.slice A2 x.ah.length c2)) :
  Calls Tryz.prog 74 #[dA x (.slice A1 x.syms.length c1) (.slice A2 x.ah.length c2)] w (RT w (.bool (dY x))):=by
 have hrt:gZ x = { x with kind:=0,name:=[],ah:=[],opn:=false }:=by unfold gZ;simp [h]
 have hf:=wW x (by rw [h];unfold iP;omega);have hc:∀ W,Calls Tryz.prog 102 #[.agg #[.int .i64 0,.string ⟨#[]⟩,.int .i64 x.low,.int .i64 x.high,.int .i64 x.max,.slice A1 x.syms.length c1,.slice none 0 0,.int .i64 x.key,.int .i64 x.elem,.bool false],.agg #[.int .i64 0,.string ⟨#[]⟩,.int .i64 0,.int .i64 0,.int .i64 0,.slice none 0 0,.slice none 0 0,.int .i64 0,.int .i64 0,.bool false]] W fun e w' => e = .returned (.bool (jy (gZ x) iC))/\Below W.heap.size W w':=fun W => by
  exact zFs
 exact zBm
theorem avS (x:ay) (A1 A2:Option Addr) (c1 c2:Nat) (w:World) (h:x.kind=6) (hop:x.opn=false) (hl:x.syms.length<=6000000000000/\x.ah.length<=6000000000000) (ht:jc w w.heap.size x (.slice A1 x.syms.length c1) (.slice A2 x.ah.length c2)) :
  Calls Tryz.prog 74 #[dA x (.slice A1 x.syms.length c1) (.slice A2 x.ah.length c2)] w (RT w (.bool (dY x))):=by
 have hrt:gZ x = { x with kind:=0,name:=[],ah:=[],opn:=false }:=by unfold gZ;simp [h]
 have hf:=wW x (by rw [h];unfold iP;omega);have hc:∀ W,Calls Tryz.prog 102 #[.agg #[.int .i64 0,.string ⟨#[]⟩,.int .i64 x.low,.int .i64 x.high,.int .i64 x.max,.slice A1 x.syms.length c1,.slice none 0 0,.int .i64 x.key,.int .i64 x.elem,.bool false],.agg #[.int .i64 0,.string ⟨#[]⟩,.int .i64 0,.int .i64 0,.int .i64 0,.slice none 0 0,.slice none 0 0,.int .i64 0,.int .i64 0,.bool false]] W fun e w' => e = .returned (.bool (jy (gZ x) iC))/\Below W.heap.size W w':=fun W => by
  exact zFs
 exact zBm
theorem zHu {p:Prop} (h:p:=by
 clear hf h;have jH:=R.out.e4;have jW:=R.out.e8;have zI:=R.out.free 4;have DF:=R.out.free 8;go_upto_region 29 with fail;clear aC bH bQ acX aW bP bf bF aV aJ jH jW zI DF;generalize fP:nM.setCell _ _=dw;replace T:=f1 T (eF fP);replace R:=zB R fP;replace hw3:=tf hw3 fP;clear fP;generalize aX:dw.setCell _ _=dQ;replace T:=f1 T (eF aX);replace R:=JZ R aX;replace hw3:=tf hw3 aX;clear aX;exact zCk):p:=h
theorem abL (x:ay) (A1 A2:Option Addr) (c1 c2:Nat) (w:World) (h:x.kind=7) (_:x.syms.length<=6000000000000/\x.ah.length<=6000000000000) (_:jc w w.heap.size x (.slice A1 x.syms.length c1) (.slice A2 x.ah.length c2)) :
  Calls Tryz.prog 74 #[dA x (.slice A1 x.syms.length c1) (.slice A2 x.ah.length c2)] w (RT w (.bool (dY x))):=by
 have hrt:gZ x = { x with kind:=0,max:=0,elem:=0 }:=by unfold gZ;simp [h]
 have hf:=wW x (by rw [h];unfold iP;omega);have hc:∀ W,Calls Tryz.prog 102 #[.agg #[.int .i64 0,.string ⟨x.name.toArray⟩,.int .i64 x.low,.int .i64 x.high,.int .i64 0,.slice A1 x.syms.length c1,.slice A2 x.ah.length c2,.int .i64 x.key,.int .i64 0,.bool x.opn],.agg #[.int .i64 0,.string ⟨#[]⟩,.int .i64 0,.int .i64 0,.int .i64 0,.slice none 0 0,.slice none 0 0,.int .i64 0,.int .i64 0,.bool false]] W fun e w' => e = .returned (.bool (jy (gZ x) iC))/\Below W.heap.size W w':=fun W => by
  rw [hrt];exact rO ({ x with kind:=0,max:=0,elem:=0 } : ay) iC A1 A2 c1 c2 W
 have hok:rD x=(decide (0<=x.max) && decide (x.max<=50)):=by unfold rD;simp [h]
 rw [hok] at hf;have HC:=hiQ hc;clear hc hok hrt;simp only [dA,h];go_enter Tryz.func74,Tryz.ntmps74
 go_upto_region 1 with fail;refine aO (fun wd2 hb1 T => ?_);have hw3:=hb1;clear hb1;obtain ⟨aC,bH,bQ,acX,aW,bP,bf,bF,aV,aJ⟩:=T.out.c10;go_upto_region 2 with fail;clear aC bH bQ acX aW bP bf bF aV aJ;refine aO (fun fG hb4 R => ?_);have nI:=T.out.here;have mO:=hw3.size;replace T:=b1 T hb4;replace hw3:=dT hw3 hb4;clear hb4;generalize wd2.heap.size=g6 at *;have iV:=R.out.e0;have rM:=R.out.free 0;go_upto_region 3 with fail;clear iV rM;generalize jE:fG.setCell _ _=nM;replace T:=f1 T (eF jE);replace R:=xR R jE;replace hw3:=tf hw3 jE;clear jE;obtain ⟨aC,bH,bQ,acX,aW,bP,bf,bF,aV,aJ⟩:=T.out.c10;by_cases hlo:0<=x.max
 .
  have hd:decide (0<=x.max)=true:=n_ hlo;by_cases hhi:x.max<=50
  .
   have hd2:decide (x.max<=50)=true:=n_ hhi;have Hf:Hid (dY x=jy (gZ x) iC):=by show _=_;rw [hf,hd,hd2];rfl
   clear hf h;have jH:=R.out.e4;have jW:=R.out.e8;have zI:=R.out.free 4;have DF:=R.out.free 8;go_upto_region 29 with fail;clear aC bH bQ acX aW bP bf bF aV aJ jH jW zI DF;generalize fP:nM.setCell _ _=dw;replace T:=f1 T (eF fP);replace R:=zB R fP;replace hw3:=tf hw3 fP;clear fP;generalize aX:dw.setCell _ _=dQ;replace T:=f1 T (eF aX);replace R:=JZ R aX;exact zHz
  have hd2:decide (x.max<=50)=false:=f_ hhi;have Hf:Hid (dY x=false):=by show _=_;rw [hf,hd,hd2];rfl
  exact zHu
 have hd:decide (0<=x.max)=false:=f_ hlo;have Hf:Hid (dY x=false):=by show _=_;rw [hf,hd];rfl
 exact zHu
theorem zHp {p:Prop} (h:p:=by
 clear hf h;obtain ⟨-,-,-,-,jH,-,-,lS,jW,-⟩:=R.out.c10;have zI:=R.out.free 4;have DF:=R.out.free 8;have VG:=R.out.free 7;go_upto_region 29 with fail;clear aC bH bQ acX aW bP bf bF aV aJ jH jW lS zI DF VG;generalize fP:nM.setCell _ _=dw;replace T:=f1 T (eF fP);replace R:=zB R fP;replace hw3:=tf hw3 fP;clear fP;generalize aX:dw.setCell _ _=dQ;replace T:=f1 T (eF aX);replace R:=JZ R aX;replace hw3:=tf hw3 aX;clear aX;generalize adq:dQ.setCell _ _=jA;replace T:=f1 T (eF adq);replace R:=Ky R adq;replace hw3:=tf hw3 adq;clear adq;exact zCk):p:=h
theorem abM (x:ay) (A1 A2:Option Addr) (c1 c2:Nat) (w:World) (h:x.kind=8) (_:x.syms.length<=6000000000000/\x.ah.length<=6000000000000) (_:jc w w.heap.size x (.slice A1 x.syms.length c1) (.slice A2 x.ah.length c2)) :
  Calls Tryz.prog 74 #[dA x (.slice A1 x.syms.length c1) (.slice A2 x.ah.length c2)] w (RT w (.bool (dY x))):=by
 have hrt:gZ x = { x with kind:=0,max:=0,elem:=0,key:=0 }:=by unfold gZ;simp [h]
 have hf:=wW x (by rw [h];unfold iP;omega);have hc:∀ W,Calls Tryz.prog 102 #[.agg #[.int .i64 0,.string ⟨x.name.toArray⟩,.int .i64 x.low,.int .i64 x.high,.int .i64 0,.slice A1 x.syms.length c1,.slice A2 x.ah.length c2,.int .i64 0,.int .i64 0,.bool x.opn],.agg #[.int .i64 0,.string ⟨#[]⟩,.int .i64 0,.int .i64 0,.int .i64 0,.slice none 0 0,.slice none 0 0,.int .i64 0,.int .i64 0,.bool false]] W fun e w' => e = .returned (.bool (jy (gZ x) iC))/\Below W.heap.size W w':=fun W => by
  rw [hrt];exact rO ({ x with kind:=0,max:=0,elem:=0,key:=0 } : ay) iC A1 A2 c1 c2 W
 have hok:rD x=(decide (0<=x.max) && decide (x.max<=50)):=by unfold rD;simp [h]
 rw [hok] at hf;have HC:=hiQ hc;clear hc hok hrt;simp only [dA,h];go_enter Tryz.func74,Tryz.ntmps74
 go_upto_region 1 with fail;refine aO (fun wd2 hb1 T => ?_);have hw3:=hb1;clear hb1;obtain ⟨aC,bH,bQ,acX,aW,bP,bf,bF,aV,aJ⟩:=T.out.c10;go_upto_region 2 with fail;clear aC bH bQ acX aW bP bf bF aV aJ;refine aO (fun fG hb4 R => ?_);have nI:=T.out.here;have mO:=hw3.size;replace T:=b1 T hb4;replace hw3:=dT hw3 hb4;clear hb4;generalize wd2.heap.size=g6 at *;have iV:=R.out.e0;have rM:=R.out.free 0;go_upto_region 3 with fail;clear iV rM;generalize jE:fG.setCell _ _=nM;replace T:=f1 T (eF jE);replace R:=xR R jE;replace hw3:=tf hw3 jE;clear jE;obtain ⟨aC,bH,bQ,acX,aW,bP,bf,bF,aV,aJ⟩:=T.out.c10;by_cases hlo:0<=x.max
 .
  have hd:decide (0<=x.max)=true:=n_ hlo;by_cases hhi:x.max<=50
  .
   have hd2:decide (x.max<=50)=true:=n_ hhi;have Hf:Hid (dY x=jy (gZ x) iC):=by show _=_;rw [hf,hd,hd2];rfl
   clear hf h;obtain ⟨-,-,-,-,jH,-,-,lS,jW,-⟩:=R.out.c10;have zI:=R.out.free 4;have DF:=R.out.free 8;have VG:=R.out.free 7;go_upto_region 29 with fail;clear aC bH bQ acX aW bP bf bF aV aJ jH jW lS zI DF VG;generalize fP:nM.setCell _ _=dw;replace T:=f1 T (eF fP);replace R:=zB R fP;replace hw3:=tf hw3 fP;clear fP;generalize aX:dw.setCell _ _=dQ;replace T:=f1 T (eF aX);replace R:=JZ R aX;replace hw3:=tf hw3 aX;clear aX;generalize adq:dQ.setCell _ _=jA;replace T:=f1 T (eF adq);replace R:=Ky R adq;replace hw3:=tf hw3 adq;clear adq;obtain ⟨iV,iW,mV,mW,jH,lQ,jr,lS,jW,iY⟩:=R.out.c10;go_wp2_with fail;clear iV iW mV mW jH lQ jr lS jW iY;((with_reducible refine (HC.out _).mono ?_);rintro e ji ⟨rfl,nU⟩);obtain ⟨T,R⟩:=b2 T R nU;replace hw3:=dT hw3 nU;clear nU;exact zCp
  have hd2:decide (x.max<=50)=false:=f_ hhi;have Hf:Hid (dY x=false):=by show _=_;rw [hf,hd,hd2];rfl
  exact zHp
 have hd:decide (0<=x.max)=false:=f_ hlo;have Hf:Hid (dY x=false):=by show _=_;rw [hf,hd];rfl
 exact zHp
theorem abN (x:ay) (A1 A2:Option Addr) (c1 c2:Nat) (w:World) (h:x.kind=9) (_:x.syms.length<=6000000000000/\x.ah.length<=6000000000000) (_:jc w w.heap.size x (.slice A1 x.syms.length c1) (.slice A2 x.ah.length c2)) :
  Calls Tryz.prog 74 #[dA x (.slice A1 x.syms.length c1) (.slice A2 x.ah.length c2)] w (RT w (.bool (dY x))):=by
 have hrt:gZ x = { x with kind:=0,elem:=0 }:=by unfold gZ;simp [h]
 have hf:=wW x (by rw [h];unfold iP;omega);have hc:∀ W,Calls Tryz.prog 102 #[.agg #[.int .i64 0,.string ⟨x.name.toArray⟩,.int .i64 x.low,.int .i64 x.high,.int .i64 x.max,.slice A1 x.syms.length c1,.slice A2 x.ah.length c2,.int .i64 x.key,.int .i64 0,.bool x.opn],.agg #[.int .i64 0,.string ⟨#[]⟩,.int .i64 0,.int .i64 0,.int .i64 0,.slice none 0 0,.slice none 0 0,.int .i64 0,.int .i64 0,.bool false]] W fun e w' => e = .returned (.bool (jy (gZ x) iC))/\Below W.heap.size W w':=fun W => by
  rw [hrt];exact rO ({ x with kind:=0,elem:=0 } : ay) iC A1 A2 c1 c2 W
 have hok:rD x=true:=by unfold rD;simp [h]
 rw [hok] at hf;have HC:=hiQ hc;clear hc hok hrt;simp only [dA,h];go_enter Tryz.func74,Tryz.ntmps74
 go_upto_region 1 with fail;refine aO (fun wd2 hb1 T => ?_);have hw3:=hb1;clear hb1;obtain ⟨aC,bH,bQ,acX,aW,bP,bf,bF,aV,aJ⟩:=T.out.c10;go_upto_region 2 with fail;clear aC bH bQ acX aW bP bf bF aV aJ;refine aO (fun fG hb4 R => ?_);have nI:=T.out.here;have mO:=hw3.size;replace T:=b1 T hb4;replace hw3:=dT hw3 hb4;clear hb4;generalize wd2.heap.size=g6 at *;have iV:=R.out.e0;have rM:=R.out.free 0;go_upto_region 3 with fail;clear iV rM;generalize jE:fG.setCell _ _=nM;replace T:=f1 T (eF jE);replace R:=xR R jE;replace hw3:=tf hw3 jE;clear jE;obtain ⟨aC,bH,bQ,acX,aW,bP,bf,bF,aV,aJ⟩:=T.out.c10;have Hf:Hid (dY x=jy (gZ x) iC):=by show _=_;rw [hf];rfl
 clear hf h;have jW:=R.out.e8;have DF:=R.out.free 8;go_upto_region 29 with fail;clear aC bH bQ acX aW bP bf bF aV aJ jW DF;generalize fP:nM.setCell _ _=dw;replace T:=f1 T (eF fP);replace R:=JZ R fP;exact zIa
theorem abO (x:ay) (A1 A2:Option Addr) (c1 c2:Nat) (w:World) (h:x.kind=5) (hl:x.syms.length<=6000000000000/\x.ah.length<=6000000000000) (ht:jc w w.heap.size x (.slice A1 x.syms.length c1) (.slice A2 x.ah.length c2)) :
  Calls Tryz.prog 74 #[dA x (.slice A1 x.syms.length c1) (.slice A2 x.ah.length c2)] w (RT w (.bool (dY x))):=by
 cases ho:x.opn with
 | true => exact UL x A1 A2 c1 c2 w h ho hl ht
 | false => exact Sv x A1 A2 c1 c2 w h ho hl ht
theorem abP (x:ay) (A1 A2:Option Addr) (c1 c2:Nat) (w:World) (h:x.kind=6) (hl:x.syms.length<=6000000000000/\x.ah.length<=6000000000000) (ht:jc w w.heap.size x (.slice A1 x.syms.length c1) (.slice A2 x.ah.length c2)) :
  Calls Tryz.prog 74 #[dA x (.slice A1 x.syms.length c1) (.slice A2 x.ah.length c2)] w (RT w (.bool (dY x))):=by
 cases ho:x.opn with
 | true => exact UM x A1 A2 c1 c2 w h ho hl ht
 | false => exact avS x A1 A2 c1 c2 w h ho hl ht
theorem abQ (x:ay) (A1 A2:Option Addr) (c1 c2:Nat) (w:World) (h:¬ iP x.kind) :
  Calls Tryz.prog 74 #[dA x (.slice A1 x.syms.length c1) (.slice A2 x.ah.length c2)] w (RT w (.bool (dY x))):=by
 have Hf:Hid (dY x=false):=by show _=_;unfold dY;rw [f_ (by unfold iP at h;exact h)];rfl
 have t1:(x.kind == 1)=false:=r_.2 (fun e => h (by rw [e];unfold iP;omega));have t2:(x.kind == 2)=false:=r_.2 (fun e => h (by rw [e];unfold iP;omega));have t3:(x.kind == 3)=false:=r_.2 (fun e => h (by rw [e];unfold iP;omega));have t4:(x.kind == 4)=false:=r_.2 (fun e => h (by rw [e];unfold iP;omega));have t5:(x.kind == 5)=false:=r_.2 (fun e => h (by rw [e];unfold iP;omega));have t6:(x.kind == 6)=false:=r_.2 (fun e => h (by rw [e];unfold iP;omega));have t7:(x.kind == 7)=false:=r_.2 (fun e => h (by rw [e];unfold iP;omega));have t8:(x.kind == 8)=false:=r_.2 (fun e => h (by rw [e];unfold iP;omega));have t9:(x.kind == 9)=false:=r_.2 (fun e => h (by rw [e];unfold iP;omega));clear h;go_enter Tryz.func74,Tryz.ntmps74
 go_upto_region 1 with fail;refine aO (fun wd2 hb1 T => ?_);have hw3:=hb1;clear hb1;obtain ⟨aC,bH,bQ,acX,aW,bP,bf,bF,aV,aJ⟩:=T.out.c10;go_upto_region 2 with fail;clear aC bH bQ acX aW bP bf bF aV aJ;refine aO (fun fG hb4 R => ?_);have nI:=T.out.here;have mO:=hw3.size;replace T:=b1 T hb4;replace hw3:=dT hw3 hb4;clear hb4;generalize wd2.heap.size=g6 at *;have iV:=R.out.e0;have rM:=R.out.free 0;go_upto_region 3 with fail;clear iV rM;generalize jE:fG.setCell _ _=nM;replace T:=f1 T (eF jE);replace R:=xR R jE;replace hw3:=tf hw3 jE;clear jE;obtain ⟨aC,bH,bQ,acX,aW,bP,bf,bF,aV,aJ⟩:=T.out.c10;exact zCp
theorem ad2 (x:ay) (vs vm:Value) (w:World) (hl:x.syms.length<=6000000000000/\x.ah.length<=6000000000000) (ht:jc w w.heap.size x vs vm) :
  Calls Tryz.prog 74 #[dA x vs vm] w (RT w (.bool (dY x))):=by
 obtain ⟨A1,c1,A2,c2,rfl,rfl,-,-⟩:=ht.forms;by_cases hk:iP x.kind
 .
  rcases vF hk with h | h | h | h | h | h | h | h | h
  . exact abH x A1 A2 c1 c2 w h hl ht
  . exact abI x A1 A2 c1 c2 w h hl ht
  . exact abJ x A1 A2 c1 c2 w h hl ht
  . exact abK x A1 A2 c1 c2 w h hl ht
  . exact abO x A1 A2 c1 c2 w h hl ht
  . exact abP x A1 A2 c1 c2 w h hl ht
  . exact abL x A1 A2 c1 c2 w h hl ht
  . exact abM x A1 A2 c1 c2 w h hl ht
  exact abN x A1 A2 c1 c2 w h hl ht
 exact abQ x A1 A2 c1 c2 w hk
