/- What the writer of canonical bytes computes for a default without parts: full. What sheaveref07.plain and Named compute. What sheaveref07.symbols computes. What sheaveref07.members computes. What sheaveref07.sameMember computes. What sheaveref07.SameType computes. Plain: what sheaveref07.own says is what schema.form says. What memory reads as a type reads as that type's plain form too. What sheaveref07.own computes. What sheaveref07.uses computes. What sheaveref07.Valid computes. No condition. -/
import Derived.Test.YtlamhkffnlgofaaGreatDoorHAO
import Derived.Deep.QuietTactic
import Derived.BigQuiet
import Derived.StillTailTactics
set_option maxHeartbeats 8000000
set_option maxRecDepth 100000
namespace Go.Proofs.YtlamhkffnlgofaaGreatDoor
open Go.ChangeShapes Go.WideShapes Go.ChangeAt Go.RowKit
theorem ajT {w:World} {b o:Nat} {x:ay} {vs vm:Value} (h:NI w b o x vs vm) (hb:b < w.heap.size):Kept (fun w => NI w b o x vs vm) w b (b+1) :=
 ⟨h,fun w' hk => by
  obtain ⟨h0,h1,h2,h3,h4,h5,h6,h7,h8,h9⟩:=h;have e:∀ o',w'.cell? ⟨b,o',none⟩=w.cell? ⟨b,o',none⟩:=fun o' => World.cell?_of_block (hk b (Nat.le_refl _) (by omega));exact ⟨(e _).trans h0,(e _).trans h1,(e _).trans h2,(e _).trans h3,(e _).trans h4,(e _).trans h5,(e _).trans h6,(e _).trans h7,(e _).trans h8,(e _).trans h9⟩,hb⟩
theorem zEn {p:Prop} (h:p:=by
 replace S:=wH S aqT (by omega) (by decide);replace V:=wH V aqT (by omega) (by decide);replace X:=wH X aqT (by omega) (by decide);replace R:=hiQ awi;replace KG:=KG.trans aqT;clear awi aqT;go_wp2_with fail;go_end0
 exact ⟨rfl,R.out,KG⟩):p:=h
theorem aDg (q:List UInt8) (hl:q.length≤10000000000000) (bb:Bool) (x:ay) (hk:x.kind=1) (b o m c t:Nat) (C1:Option Addr) (n1 l1:Nat) (C2:Option Addr) (n2 l2:Nat) (D1:Option Addr) (d1:Nat) (D2:Option Addr) (d2:Nat) (D3:Option Addr) (d3:Nat) (htm:t < m) (gw:Nat) (w:World) (hbg:b < gw) (hx:NI w b (o+t*10) x (.slice C1 n1 l1) (.slice C2 n2 l2)) (hw:Am w gw q) :
  Calls Tryz.prog 48 #[.pointer (some ⟨gw,0,none⟩),.agg #[.slice (some ⟨b,o,none⟩) m c],.int .i64 (t:Nat),.agg #[.int .i64 1,.bool bb,.int .i64 0,.string ⟨#[]⟩,.int .i64 0,.slice D1 0 d1,.slice D2 0 d2,.slice D3 0 d3]] w (abX gw (q ++ F6 bb) w):=by
 have alv:=hw.here;have R:=hw;have KG:=fK.refl gw w;have hd0:decide ((t:Int) < 0)=false:=by simp
 have hd1:decide (m≤t)=false:=by simpa using htm
 have aoo:(t:Int) < m:=by omega
 have hpl:=bg 0;clear hw;replace R:=hiQ R;have XC:=hiQ (ajT hx (by omega));clear hx;go_enter Tryz.func48,Tryz.ntmps48
 go_upto_region 1 with fail;refine jg (fun wd2 hb1 S V => ?_);replace XC:=b1 XC hb1;replace R:=wB R hb1;replace KG:=oq KG hb1 (by have:=KG.size;omega);clear hb1;have aH:=S.out.e0;obtain ⟨x0,x1,x2,x3,x4,x5,x6,x7,x8,x9⟩:=XC.out.now;rw [hk] at x0;go_upto_region 2 with fail;clear aH;refine aO (fun wd4 hb3 X => ?_);have Ox:=S.out.here;have nI:=V.out.here;have mO:=XC.out.le;have kH:=KG.size;obtain ⟨S,V,XC⟩:=b3 S V XC hb3;replace R:=wB R hb3;replace KG:=oq KG hb3 (by have:=KG.size;omega);clear hb3;generalize wd2.heap.size=g5 at *;clear x0 x1 x2 x3 x4 x5 x6 x7 x8 x9 XC;have aK:=X.out.e0;have dh:=V.out.e1;go_wp2_with fail;clear aK dh;((with_reducible refine (ar2 q bb (by omega) gw _ R.out).mono ?_);rintro e kL ⟨rfl,awi,aqT⟩);exact zEn
theorem aDh (q:List UInt8) (hl:q.length≤10000000000000) (n:Int) (hn:I64 n) (x:ay) (hk:x.kind=2) (b o m c t:Nat) (C1:Option Addr) (n1 l1:Nat) (C2:Option Addr) (n2 l2:Nat) (D1:Option Addr) (d1:Nat) (D2:Option Addr) (d2:Nat) (D3:Option Addr) (d3:Nat) (htm:t < m) (gw:Nat) (w:World) (hbg:b < gw) (hx:NI w b (o+t*10) x (.slice C1 n1 l1) (.slice C2 n2 l2)) (hw:Am w gw q) :
  Calls Tryz.prog 48 #[.pointer (some ⟨gw,0,none⟩),.agg #[.slice (some ⟨b,o,none⟩) m c],.int .i64 (t:Nat),.agg #[.int .i64 2,.bool false,.int .i64 n,.string ⟨#[]⟩,.int .i64 0,.slice D1 0 d1,.slice D2 0 d2,.slice D3 0 d3]] w (abX gw (q ++ akT n) w):=by
 have alv:=hw.here;have R:=hw;have KG:=fK.refl gw w;have hd0:decide ((t:Int) < 0)=false:=by simp
 have hd1:decide (m≤t)=false:=by simpa using htm
 have aoo:(t:Int) < m:=by omega
 have hpl:=bg 0;clear hw;replace R:=hiQ R;have XC:=hiQ (ajT hx (by omega));clear hx;go_enter Tryz.func48,Tryz.ntmps48
 go_upto_region 1 with fail;refine jg (fun wd2 hb1 S V => ?_);replace XC:=b1 XC hb1;replace R:=wB R hb1;replace KG:=oq KG hb1 (by have:=KG.size;omega);clear hb1;have aH:=S.out.e0;obtain ⟨x0,x1,x2,x3,x4,x5,x6,x7,x8,x9⟩:=XC.out.now;rw [hk] at x0;go_upto_region 2 with fail;clear aH;refine aO (fun wd4 hb3 X => ?_);have Ox:=S.out.here;have nI:=V.out.here;have mO:=XC.out.le;have kH:=KG.size;obtain ⟨S,V,XC⟩:=b3 S V XC hb3;replace R:=wB R hb3;replace KG:=oq KG hb3 (by have:=KG.size;omega);clear hb3;generalize wd2.heap.size=g5 at *;clear x0 x1 x2 x3 x4 x5 x6 x7 x8 x9 XC;have aK:=X.out.e0;have dn:=V.out.e2;go_wp2_with fail;clear aK dn;((with_reducible refine (aqE q n hn (by omega) gw _ R.out).mono ?_);rintro e kL ⟨rfl,awi,aqT⟩);exact zEn
theorem aDi (q:List UInt8) (hl:q.length≤10000000000000) (n:Nat) (hn:n≤1000) (x:ay) (hk:x.kind=4) (b o m c t:Nat) (C1:Option Addr) (n1 l1:Nat) (C2:Option Addr) (n2 l2:Nat) (D1:Option Addr) (d1:Nat) (D2:Option Addr) (d2:Nat) (D3:Option Addr) (d3:Nat) (htm:t < m) (gw:Nat) (w:World) (hbg:b < gw) (hx:NI w b (o+t*10) x (.slice C1 n1 l1) (.slice C2 n2 l2)) (hw:Am w gw q) :
  Calls Tryz.prog 48 #[.pointer (some ⟨gw,0,none⟩),.agg #[.slice (some ⟨b,o,none⟩) m c],.int .i64 (t:Nat),.agg #[.int .i64 4,.bool false,.int .i64 0,.string ⟨#[]⟩,.int .i64 (n:Nat),.slice D1 0 d1,.slice D2 0 d2,.slice D3 0 d3]] w (abX gw (q ++ pJ 9 n) w):=by
 have alv:=hw.here;have R:=hw;have KG:=fK.refl gw w;have hd0:decide ((t:Int) < 0)=false:=by simp
 have hd1:decide (m≤t)=false:=by simpa using htm
 have aoo:(t:Int) < m:=by omega
 have hpl:=bg 0;clear hw;replace R:=hiQ R;have XC:=hiQ (ajT hx (by omega));clear hx;go_enter Tryz.func48,Tryz.ntmps48
 go_upto_region 1 with fail;refine jg (fun wd2 hb1 S V => ?_);replace XC:=b1 XC hb1;replace R:=wB R hb1;replace KG:=oq KG hb1 (by have:=KG.size;omega);clear hb1;have aH:=S.out.e0;obtain ⟨x0,x1,x2,x3,x4,x5,x6,x7,x8,x9⟩:=XC.out.now;rw [hk] at x0;go_upto_region 2 with fail;clear aH;refine aO (fun wd4 hb3 X => ?_);have Ox:=S.out.here;have nI:=V.out.here;have mO:=XC.out.le;have kH:=KG.size;obtain ⟨S,V,XC⟩:=b3 S V XC hb3;replace R:=wB R hb3;replace KG:=oq KG hb3 (by have:=KG.size;omega);clear hb3;generalize wd2.heap.size=g5 at *;clear x0 x1 x2 x3 x4 x5 x6 x7 x8 x9 XC;have aK:=X.out.e0;have bG:=V.out.e4;go_wp2_with fail;clear aK bG;refine an3 (fun dw aY G => ?_);have alh:=S.out.here;have akV:=V.out.here;have qA:=X.out.here;have alj:=KG.size;obtain ⟨S,V,X⟩:=b3 S V X aY;replace R:=wB R aY;replace KG:=oq KG aY (by have:=KG.size;omega);clear aY;generalize wd4.heap.size=g12 at *;((with_reducible refine (af4 q n (by omega) (by omega) gw g12 1 (by omega) _ R.out G.out).mono ?_);rintro e ji ⟨rfl,adA,kS⟩);replace S:=wH S kS (by omega) (by decide);replace V:=wH V kS (by omega) (by decide);replace X:=wH X kS (by omega) (by decide);replace G:=wH G kS (by omega) (by decide);replace R:=hiQ adA;replace KG:=KG.trans kS;clear adA kS;go_wp2_with fail;go_end0
 exact ⟨rfl,R.out,KG⟩
theorem aDj (q:List UInt8) (hl:q.length≤10000000000000) (s:List UInt8) (hn:s.length≤1000) (x:ay) (hk:x.kind=3) (b o m c t:Nat) (C1:Option Addr) (n1 l1:Nat) (C2:Option Addr) (n2 l2:Nat) (D1:Option Addr) (d1:Nat) (D2:Option Addr) (d2:Nat) (D3:Option Addr) (d3:Nat) (htm:t < m) (gw:Nat) (w:World) (hbg:b < gw) (hx:NI w b (o+t*10) x (.slice C1 n1 l1) (.slice C2 n2 l2)) (hw:Am w gw q) :
  Calls Tryz.prog 48 #[.pointer (some ⟨gw,0,none⟩),.agg #[.slice (some ⟨b,o,none⟩) m c],.int .i64 (t:Nat),.agg #[.int .i64 3,.bool false,.int .i64 0,.string ⟨s.toArray⟩,.int .i64 0,.slice D1 0 d1,.slice D2 0 d2,.slice D3 0 d3]] w (abX gw (q ++ (pJ 9 s.length ++ s)) w):=by
 have alv:=hw.here;have R:=hw;have KG:=fK.refl gw w;have hd0:decide ((t:Int) < 0)=false:=by simp
 have hd1:decide (m≤t)=false:=by simpa using htm
 have aoo:(t:Int) < m:=by omega
 have hpl:=bg 0;clear hw;replace R:=hiQ R;have XC:=hiQ (ajT hx (by omega));clear hx;go_enter Tryz.func48,Tryz.ntmps48
 go_upto_region 1 with fail;refine jg (fun wd2 hb1 S V => ?_);replace XC:=b1 XC hb1;replace R:=wB R hb1;replace KG:=oq KG hb1 (by have:=KG.size;omega);clear hb1;have aH:=S.out.e0;obtain ⟨x0,x1,x2,x3,x4,x5,x6,x7,x8,x9⟩:=XC.out.now;rw [hk] at x0;go_upto_region 2 with fail;clear aH;refine aO (fun wd4 hb3 X => ?_);have Ox:=S.out.here;have nI:=V.out.here;have mO:=XC.out.le;have kH:=KG.size;obtain ⟨S,V,XC⟩:=b3 S V XC hb3;replace R:=wB R hb3;replace KG:=oq KG hb3 (by have:=KG.size;omega);clear hb3;generalize wd2.heap.size=g5 at *;clear x0 x1 x2 x3 x4 x5 x6 x7 x8 x9 XC;have aK:=X.out.e0;have dI:=V.out.e3;go_wp2_with fail;clear aK dI;refine an3 (fun dw aY G => ?_);have alh:=S.out.here;have akV:=V.out.here;have qA:=X.out.here;have alj:=KG.size;obtain ⟨S,V,X⟩:=b3 S V X aY;replace R:=wB R aY;replace KG:=oq KG aY (by have:=KG.size;omega);clear aY;generalize wd4.heap.size=g12 at *;((with_reducible refine (af4 q s.length (by omega) (by omega) gw g12 1 (by omega) _ R.out G.out).mono ?_);rintro e ji ⟨rfl,adA,kS⟩);replace S:=wH S kS (by omega) (by decide);replace V:=wH V kS (by omega) (by decide);replace X:=wH X kS (by omega) (by decide);replace G:=wH G kS (by omega) (by decide);replace R:=hiQ adA;replace KG:=KG.trans kS;clear adA kS;have hpl2:=bg s.length;obtain ⟨q1,hq1⟩ : ∃ q1,q1=q ++ pJ 9 s.length:=⟨_,rfl⟩
 have tV:q1.length≤10000000001000:=by rw [hq1];simp only [List.length_append];omega
 rw [← hq1] at R;have HQ1:=hiQ hq1;clear hq1 G S X;go_upto_region 17 with fail;obtain ⟨oW,hWS⟩ : ∃ x,x=ji:=⟨_,rfl⟩
 subst hWS;obtain ⟨A,c0,W1,hown⟩:=R.out;have hV0:=V.out;have hR0:=R.out;have hgw1:=hR0.here;clear V R;have V:=hV0;have Y:=W1;replace V:=hiQ V;replace Y:=hiQ Y;have O:=hiQ (Kept.own hown);clear hV0 W1 hR0 hown;have kT:=Y.out.e0;have dI:=V.out.e3;refine l9 (S:=(fun w' => w'.cell? ⟨gw,0,none⟩=some (.slice A q1.length c0)∧w'.cell? ⟨w.heap.size+1,3,none⟩=some (.string ⟨s.toArray⟩))) (fun j => j == 10) (by kernel_rfl) ⟨kT,dI⟩ (fun hHeld => ?_);clear kT dI;have axT:Below oW.heap.size oW (oW.drew):=(Below.refl _ _).drew;obtain ⟨V,Y,O⟩:=b3 V Y O axT;have aDJ:=axT;clear axT;generalize oW.drew=aBg at *;refine eH 0 ?_;refine eH 1 ?_;refine eH 2 ?_;refine eH 3 ?_;refine eH 4 ?_;refine eH 5 ?_;refine eH 6 ?_;refine gJ 7 fun K hK => ?_;have hXh:=Y.out.here;have hk1:=fK.of aDJ (gw:=gw) (by omega);refine aof (P:=Tryz.prog) rfl _ _ _ _ (by rfl) (gw+1) 5 Tryz.underlying87 Tryz.underlying9 as6 (.slice A q1.length c0) q1.length q1 rfl O.out.now s rfl (by omega) hXh ?_;intro v' w9 hown1 hgr;obtain ⟨A1,c1,rfl⟩:=jF hown1;have hk0:=fK.grow O.out.now hgr hXh;have hk2:=hk1.trans hk0;have hV9:=hk0.has (w.heap.size+1) _ _ (by omega) (by decide) V.out;have hb4:Below (gw+1) aBg w9:=(Below.refl (gw+1) aBg).grown hgr hXh (fun k hk => (O.out.now.lt k hk).1);clear O V;replace Y:=hiQ (Y.out.below hb4 (show gw < gw+1 by omega));have O:=hiQ (Kept.own hown1);have V:=hV9;replace V:=hiQ V;clear hk1 hown1 hgr hb4 hk0 hV9;(try clear hHeld);refine hK.out _ _ (⟨Y.out.cell 0,V.out.cell 3⟩) (fun hHeld => ?_);clear hK K;refine gJ 8 fun K hK => ?_
 go_simp;(try clear hHeld);refine hK.out _ _ (⟨Y.out.cell 0,V.out.cell 3⟩) (fun hHeld => ?_);clear hK K;refine eH 9 ?_;refine pG 10 fun K hK => ?_;have kT:=Y.out.e0;have aFa:=Y.out.free 0;go_simp;clear kT aFa;have HX:=Y;clear Y;generalize HEX:w9.setCell ⟨gw,0,none⟩ (.slice A1 (q1.length+s.length) c1)=aDK;obtain ⟨V,O⟩:=f2 V O (eF HEX);have Ua:=xR HX HEX;have hk3:=hk2.trans (fK.set HEX);clear HX HEX hk2;have hwr:Am aDK gw (q1 ++ s):=⟨A1,c1,by rw [List.length_append];exact Ua.out,by rw [List.length_append];exact O.out.now⟩
 rw [HQ1.out,List.append_assoc] at hwr;have HWR:=hiQ hwr;clear O V Ua hwr;(try clear hHeld);refine hK.out _ _ ?_;clear hK K;refine akJ (by kernel_rfl) ?_ _;(try clear hHeld);go_wp2_with fail;go_end0
 exact ⟨rfl,HWR.out,KG.trans hk3⟩
theorem zBi {p:Prop} (h:p:=by
 have alv:=hw.here;have R:=hw;have KG:=fK.refl gw w;have hd0:decide ((t:Int) < 0)=false:=by simp
 have hd1:decide (m≤t)=false:=by simpa using htm
 have aoo:(t:Int) < m:=by omega
 have hpl:=bg 0;clear hw;replace R:=hiQ R;have XC:=hiQ (ajT hx (by omega));clear hx;go_enter Tryz.func48,Tryz.ntmps48
 go_upto_region 1 with fail;refine jg (fun wd2 hb1 S V => ?_);replace XC:=b1 XC hb1;replace R:=wB R hb1;replace KG:=oq KG hb1 (by have:=KG.size;omega);clear hb1;have aH:=S.out.e0;obtain ⟨x0,x1,x2,x3,x4,x5,x6,x7,x8,x9⟩:=XC.out.now;rw [hk] at x0;go_upto_region 2 with fail;clear aH;refine aO (fun wd4 hb3 X => ?_);have Ox:=S.out.here;have nI:=V.out.here;have mO:=XC.out.le;have kH:=KG.size;obtain ⟨S,V,XC⟩:=b3 S V XC hb3;replace R:=wB R hb3;replace KG:=oq KG hb3 (by have:=KG.size;omega);clear hb3;generalize wd2.heap.size=g5 at *;clear x0 x1 x2 x3 x4 x5 x6 x7 x8 x9 XC;have aK:=X.out.e0;have aP:=V.out.e6;go_wp2_with fail;clear aK aP;refine an3 (fun dw aY G => ?_);have alh:=S.out.here;have akV:=V.out.here;have qA:=X.out.here;have alj:=KG.size;obtain ⟨S,V,X⟩:=b3 S V X aY;replace R:=wB R aY;replace KG:=oq KG aY (by have:=KG.size;omega);clear aY;generalize wd4.heap.size=g12 at *;have hG:Has dw g12 3 #[.int .i64 ((0:Nat):Int)]:=G.out;((with_reducible refine (af4 q 0 (by decide) (by omega) gw g12 1 (by omega) _ R.out hG).mono ?_);rintro e ji ⟨rfl,adA,kS⟩);replace S:=wH S kS (by omega) (by decide);replace V:=wH V kS (by omega) (by decide);replace X:=wH X kS (by omega) (by decide);replace G:=wH G kS (by omega) (by decide);replace R:=hiQ adA;replace KG:=KG.trans kS;clear adA kS hG G;have aP:=V.out.e6;go_upto_region 5 with fail;clear aP;have hR0:=R.out;go_loopw [31] (fun s31 wr => s31 = .int .i64 0∧Am wr gw (q ++ pJ 9 0)∧fK gw w wr) (fun _ _ => 0)
 case atStart => exact ⟨rfl,hR0,KG⟩
 case round =>
  clear V X S R KG hR0;obtain ⟨rfl,R,KG⟩:=hrel;go_wp2_with fail;go_end0
  exact ⟨rfl,R,KG⟩):p:=h
theorem aDk (q:List UInt8) (hl:q.length≤10000000000000) (x:ay) (hk:x.kind=7) (b o m c t:Nat) (C1:Option Addr) (n1 l1:Nat) (C2:Option Addr) (n2 l2:Nat) (D1:Option Addr) (d1:Nat) (D2:Option Addr) (d2:Nat) (D3:Option Addr) (d3:Nat) (htm:t < m) (gw:Nat) (w:World) (hbg:b < gw) (hx:NI w b (o+t*10) x (.slice C1 n1 l1) (.slice C2 n2 l2)) (hw:Am w gw q) :
  Calls Tryz.prog 48 #[.pointer (some ⟨gw,0,none⟩),.agg #[.slice (some ⟨b,o,none⟩) m c],.int .i64 (t:Nat),.agg #[.int .i64 7,.bool false,.int .i64 0,.string ⟨#[]⟩,.int .i64 0,.slice D1 0 d1,.slice D2 0 d2,.slice D3 0 d3]] w (abX gw (q ++ pJ 9 0) w):=by
 exact zBi
theorem aDl (q:List UInt8) (hl:q.length≤10000000000000) (x:ay) (hk:x.kind=8) (b o m c t:Nat) (C1:Option Addr) (n1 l1:Nat) (C2:Option Addr) (n2 l2:Nat) (D1:Option Addr) (d1:Nat) (D2:Option Addr) (d2:Nat) (D3:Option Addr) (d3:Nat) (htm:t < m) (gw:Nat) (w:World) (hbg:b < gw) (hx:NI w b (o+t*10) x (.slice C1 n1 l1) (.slice C2 n2 l2)) (hw:Am w gw q) :
  Calls Tryz.prog 48 #[.pointer (some ⟨gw,0,none⟩),.agg #[.slice (some ⟨b,o,none⟩) m c],.int .i64 (t:Nat),.agg #[.int .i64 8,.bool false,.int .i64 0,.string ⟨#[]⟩,.int .i64 0,.slice D1 0 d1,.slice D2 0 d2,.slice D3 0 d3]] w (abX gw (q ++ pJ 9 0) w):=by
 exact zBi
theorem aDm (q:List UInt8) (hl:q.length≤10000000000000) (x:ay) (hk:x.kind=9) (b o m c t:Nat) (C1:Option Addr) (n1 l1:Nat) (C2:Option Addr) (n2 l2:Nat) (D1:Option Addr) (d1:Nat) (D2:Option Addr) (d2:Nat) (D3:Option Addr) (d3:Nat) (htm:t < m) (gw:Nat) (w:World) (hbg:b < gw) (hx:NI w b (o+t*10) x (.slice C1 n1 l1) (.slice C2 n2 l2)) (hw:Am w gw q) :
  Calls Tryz.prog 48 #[.pointer (some ⟨gw,0,none⟩),.agg #[.slice (some ⟨b,o,none⟩) m c],.int .i64 (t:Nat),.agg #[.int .i64 9,.bool false,.int .i64 0,.string ⟨#[]⟩,.int .i64 0,.slice D1 0 d1,.slice D2 0 d2,.slice D3 0 d3]] w (abX gw (q ++ pJ 9 0) w):=by
 exact zBi
def ayC (ts:List ay) (gw b o c:Nat) (w0:World) (m:Mem) (vk vi vr:Value):Prop :=
 ∀ (W:World) (q:List UInt8),Below gw w0 W→q.length+(gI ts m.dflt m.ty).length≤10000000000000→Am W gw q →
  Calls Tryz.prog 48 #[.pointer (some ⟨gw,0,none⟩),.agg #[.slice (some ⟨b,o,none⟩) ts.length c],.int .i64 m.ty,aS m.dflt vk vi vr] W (abX gw (q ++ gI ts m.dflt m.ty) W)
theorem awC {ts:List ay} (hv:fF ts=0) (hI:akg ts) {gw b o c:Nat} {w0:World} (hb:b < gw) {m:Mem} {vk vi vr:Value} {x:ay} (hx:bM ts m.ty=some x) (hf:cO ts true m.dflt m.ty=true) (h0:atV m.dflt)
  (hc:∃ vs vm,NI w0 b (o+m.ty.toNat*10) x vs vm∧(∃ C1 n1 l1,vs = .slice C1 n1 l1)∧∃ C2 n2 l2,vm = .slice C2 n2 l2)
  (h1:∃ D1 d1,vk = .slice D1 m.dflt.keys.length d1) (h2:∃ D2 d2,vi = .slice D2 m.dflt.items.length d2) (h3:∃ D3 d3,vr = .slice D3 m.dflt.rest.length d3):ayC ts gw b o c w0 m vk vi vr:=by
 intro W q hW hl hw;have hform:=arz hv hx hf h0;obtain ⟨k1,k2,k3,-⟩:=h0;obtain ⟨D1,d1,rfl⟩:=h1;obtain ⟨D2,d2,rfl⟩:=h2;obtain ⟨D3,d3,rfl⟩:=h3;obtain ⟨vs,vm,hcell,⟨C1,n1,l1,rfl⟩,C2,n2,l2,rfl⟩:=hc;have hxm:=hI x (aoa hx);have htl:0≤m.ty∧m.ty.toNat < ts.length:=by
  unfold bM at hx;split at hx
  · next h => exact ⟨h,(List.getElem?_eq_some_iff.1 hx).1⟩
  cases hx
 obtain ⟨t,ht⟩ : ∃ t:Nat,m.ty=(t:Int):=⟨m.ty.toNat,by omega⟩
 rw [ht] at hform hcell htl hl ⊢;rw [Int.toNat_natCast] at hcell htl;have hcW:=hcell.below hW hb;rw [k1,k2,k3];cases hform with
 | bool bb hk hd he => rw [hd] at he hl ⊢; rw [he] at hl ⊢; exact aDg q (by omega) bb x hk b o ts.length c t C1 n1 l1 C2 n2 l2 D1 d1 D2 d2 D3 d3 htl.2 gw W hb hcW hw
 | int n hk hd he hn => rw [hd] at he hl ⊢; rw [he] at hl ⊢; exact aDh q (by omega) n (by unfold I64 at *;omega) x hk b o ts.length c t C1 n1 l1 C2 n2 l2 D1 d1 D2 d2 D3 d3 htl.2 gw W hb hcW hw
 | str s hk hd he hn => rw [hd] at he hl ⊢; rw [he] at hl ⊢; exact aDj q (by omega) s (by omega) x hk b o ts.length c t C1 n1 l1 C2 n2 l2 D1 d1 D2 d2 D3 d3 htl.2 gw W hb hcW hw
 | enum n hk hd he hn =>
  rw [hd] at he hl ⊢; rw [he] at hl ⊢;obtain ⟨u,rfl⟩ : ∃ u:Nat,n=(u:Int):=⟨n.toNat,by omega⟩
  exact aDi q (by omega) u (by omega) x hk b o ts.length c t C1 n1 l1 C2 n2 l2 D1 d1 D2 d2 D3 d3 htl.2 gw W hb hcW hw
 | list k hk h7 hd he =>
  rw [hd] at he hl ⊢; rw [he] at hl ⊢;have hcs:k=7∨k=8∨k=9:=by omega
  rcases hcs with rfl | rfl | rfl
  · exact aDk q (by omega) x hk b o ts.length c t C1 n1 l1 C2 n2 l2 D1 d1 D2 d2 D3 d3 htl.2 gw W hb hcW hw
  · exact aDl q (by omega) x hk b o ts.length c t C1 n1 l1 C2 n2 l2 D1 d1 D2 d2 D3 d3 htl.2 gw W hb hcW hw
  exact aDm q (by omega) x hk b o ts.length c t C1 n1 l1 C2 n2 l2 D1 d1 D2 d2 D3 d3 htl.2 gw W hb hcW hw
def rY (k:Int):Bool:=decide (k=4∨k=5∨k=6)
theorem JF (k:Int) (w:World):Calls Tryz.prog 55 #[.int .i64 k] w fun e w' => e = .returned (.bool (rY k))∧w=w':=by
 have Hd:Hid (rY k=((k == 4) || ((k == 5) || (k == 6)))):=by show _=_;unfold rY;rw [Bool.eq_iff_iff];simp
 go_enter Tryz.func55,Tryz.ntmps55
 go_wp2
 all_goals
  go_ret;exact ⟨au (by rw [Hd.out];first | rfl | (simp;done) | (rw [Bool.eq_iff_iff];simp;omega) | simp_all),rfl⟩
def jM (x:ay):ay :=
 if x.kind=1 then { iC with kind:=x.kind }
 else if x.kind=2 then { iC with kind:=x.kind,low:=x.low,high:=x.high }
 else if x.kind=3 then { iC with kind:=x.kind,max:=x.max }
 else if x.kind=4 then { iC with kind:=x.kind,name:=x.name,syms:=x.syms,opn:=x.opn }
 else if x.kind=5 then { iC with kind:=x.kind,name:=x.name,ah:=x.ah }
 else if x.kind=6 then { iC with kind:=x.kind,name:=x.name,ah:=x.ah,opn:=x.opn }
 else if x.kind=7 then { iC with kind:=x.kind,max:=x.max,elem:=x.elem }
 else if x.kind=8 then { iC with kind:=x.kind,max:=x.max,key:=x.key,elem:=x.elem }
 else { iC with kind:=x.kind,elem:=x.elem }
def lF (x:ay) (vs:Value):Value:=if x.kind=4 then vs else .slice none 0 0
def lG (x:ay) (vm:Value):Value:=if x.kind=5∨x.kind=6 then vm else .slice none 0 0
theorem aai (x:ay) (A1 A2:Option Addr) (c1 c2:Nat) (w:World) (h:x.kind=1) :
  Calls Tryz.prog 134 #[dA x (.slice A1 x.syms.length c1) (.slice A2 x.ah.length c2)] w (RTq w (dA (jM x) (lF x (.slice A1 x.syms.length c1)) (lG x (.slice A2 x.ah.length c2)))):=by
 have hres:dA (jM x) (lF x (.slice A1 x.syms.length c1)) (lG x (.slice A2 x.ah.length c2)) = .agg #[.int .i64 1,.string ⟨#[]⟩,.int .i64 0,.int .i64 0,.int .i64 0,.slice none 0 0,.slice none 0 0,.int .i64 0,.int .i64 0,.bool false]:=by unfold jM lF lG;simp [h,iC]
 rw [hres];simp only [dA,h];clear hres;go_enter Tryz.func134,Tryz.ntmps134
 go_upto_region 1 with fail;refine jg (fun wd2 hb1 T R => ?_);have hw3:=hb1;clear hb1;obtain ⟨aC,bH,bQ,acX,aW,bP,bf,bF,aV,aJ⟩:=T.out.c10;go_upto_region 3 with fail;go_wp2_with (refine sR R.out ?_)
 clear aC bH bQ acX aW bP bf bF aV aJ;generalize nH:wd2.setRow _ _=wd4;replace T:=f1 T (eR nH);replace R:=dV R nH;replace hw3:=tr hw3 nH;clear nH;exact bodyPost_ret (v:=.agg #[.int .i64 1,.string ⟨#[]⟩,.int .i64 0,.int .i64 0,.int .i64 0,.slice none 0 0,.slice none 0 0,.int .i64 0,.int .i64 0,.bool false]) (by simp [results,Tryz.results134,go_sem,R.out.c10]) rfl (⟨rfl,hw3⟩)
theorem aaj (x:ay) (A1 A2:Option Addr) (c1 c2:Nat) (w:World) (h:x.kind=2) :
  Calls Tryz.prog 134 #[dA x (.slice A1 x.syms.length c1) (.slice A2 x.ah.length c2)] w (RTq w (dA (jM x) (lF x (.slice A1 x.syms.length c1)) (lG x (.slice A2 x.ah.length c2)))):=by
 have hres:dA (jM x) (lF x (.slice A1 x.syms.length c1)) (lG x (.slice A2 x.ah.length c2)) = .agg #[.int .i64 2,.string ⟨#[]⟩,.int .i64 x.low,.int .i64 x.high,.int .i64 0,.slice none 0 0,.slice none 0 0,.int .i64 0,.int .i64 0,.bool false]:=by unfold jM lF lG;simp [h,iC]
 rw [hres];simp only [dA,h];clear hres;go_enter Tryz.func134,Tryz.ntmps134
 go_upto_region 1 with fail;refine jg (fun wd2 hb1 T R => ?_);have hw3:=hb1;clear hb1;obtain ⟨aC,bH,bQ,acX,aW,bP,bf,bF,aV,aJ⟩:=T.out.c10;go_upto_region 5 with fail;go_wp2_with (refine sR R.out ?_)
 clear aC bH bQ acX aW bP bf bF aV aJ;generalize nH:wd2.setRow _ _=wd4;replace T:=f1 T (eR nH);replace R:=dV R nH;replace hw3:=tr hw3 nH;clear nH;exact bodyPost_ret (v:=.agg #[.int .i64 2,.string ⟨#[]⟩,.int .i64 x.low,.int .i64 x.high,.int .i64 0,.slice none 0 0,.slice none 0 0,.int .i64 0,.int .i64 0,.bool false]) (by simp [results,Tryz.results134,go_sem,R.out.c10]) rfl (⟨rfl,hw3⟩)
theorem aak (x:ay) (A1 A2:Option Addr) (c1 c2:Nat) (w:World) (h:x.kind=3) :
  Calls Tryz.prog 134 #[dA x (.slice A1 x.syms.length c1) (.slice A2 x.ah.length c2)] w (RTq w (dA (jM x) (lF x (.slice A1 x.syms.length c1)) (lG x (.slice A2 x.ah.length c2)))):=by
 have hres:dA (jM x) (lF x (.slice A1 x.syms.length c1)) (lG x (.slice A2 x.ah.length c2)) = .agg #[.int .i64 3,.string ⟨#[]⟩,.int .i64 0,.int .i64 0,.int .i64 x.max,.slice none 0 0,.slice none 0 0,.int .i64 0,.int .i64 0,.bool false]:=by unfold jM lF lG;simp [h,iC]
 rw [hres];simp only [dA,h];clear hres;go_enter Tryz.func134,Tryz.ntmps134
 go_upto_region 1 with fail;refine jg (fun wd2 hb1 T R => ?_);have hw3:=hb1;clear hb1;obtain ⟨aC,bH,bQ,acX,aW,bP,bf,bF,aV,aJ⟩:=T.out.c10;go_upto_region 7 with fail;go_wp2_with (refine sR R.out ?_)
 clear aC bH bQ acX aW bP bf bF aV aJ;generalize nH:wd2.setRow _ _=wd4;replace T:=f1 T (eR nH);replace R:=dV R nH;replace hw3:=tr hw3 nH;clear nH;exact bodyPost_ret (v:=.agg #[.int .i64 3,.string ⟨#[]⟩,.int .i64 0,.int .i64 0,.int .i64 x.max,.slice none 0 0,.slice none 0 0,.int .i64 0,.int .i64 0,.bool false]) (by simp [results,Tryz.results134,go_sem,R.out.c10]) rfl (⟨rfl,hw3⟩)
theorem aal (x:ay) (A1 A2:Option Addr) (c1 c2:Nat) (w:World) (h:x.kind=4) :
  Calls Tryz.prog 134 #[dA x (.slice A1 x.syms.length c1) (.slice A2 x.ah.length c2)] w (RTq w (dA (jM x) (lF x (.slice A1 x.syms.length c1)) (lG x (.slice A2 x.ah.length c2)))):=by
 have hres:dA (jM x) (lF x (.slice A1 x.syms.length c1)) (lG x (.slice A2 x.ah.length c2)) = .agg #[.int .i64 4,.string ⟨x.name.toArray⟩,.int .i64 0,.int .i64 0,.int .i64 0,.slice A1 x.syms.length c1,.slice none 0 0,.int .i64 0,.int .i64 0,.bool x.opn]:=by unfold jM lF lG;simp [h,iC]
 rw [hres];simp only [dA,h];clear hres;go_enter Tryz.func134,Tryz.ntmps134
 go_upto_region 1 with fail;refine jg (fun wd2 hb1 T R => ?_);have hw3:=hb1;clear hb1;obtain ⟨aC,bH,bQ,acX,aW,bP,bf,bF,aV,aJ⟩:=T.out.c10;go_upto_region 9 with fail;go_wp2_with (refine sR R.out ?_)
 clear aC bH bQ acX aW bP bf bF aV aJ;generalize nH:wd2.setRow _ _=wd4;replace T:=f1 T (eR nH);replace R:=dV R nH;replace hw3:=tr hw3 nH;clear nH;exact bodyPost_ret (v:=.agg #[.int .i64 4,.string ⟨x.name.toArray⟩,.int .i64 0,.int .i64 0,.int .i64 0,.slice A1 x.syms.length c1,.slice none 0 0,.int .i64 0,.int .i64 0,.bool x.opn]) (by simp [results,Tryz.results134,go_sem,R.out.c10]) rfl (⟨rfl,hw3⟩)
theorem aam (x:ay) (A1 A2:Option Addr) (c1 c2:Nat) (w:World) (h:x.kind=5) :
  Calls Tryz.prog 134 #[dA x (.slice A1 x.syms.length c1) (.slice A2 x.ah.length c2)] w (RTq w (dA (jM x) (lF x (.slice A1 x.syms.length c1)) (lG x (.slice A2 x.ah.length c2)))):=by
 have hres:dA (jM x) (lF x (.slice A1 x.syms.length c1)) (lG x (.slice A2 x.ah.length c2)) = .agg #[.int .i64 5,.string ⟨x.name.toArray⟩,.int .i64 0,.int .i64 0,.int .i64 0,.slice none 0 0,.slice A2 x.ah.length c2,.int .i64 0,.int .i64 0,.bool false]:=by unfold jM lF lG;simp [h,iC]
 rw [hres];simp only [dA,h];clear hres;go_enter Tryz.func134,Tryz.ntmps134
 go_upto_region 1 with fail;refine jg (fun wd2 hb1 T R => ?_);have hw3:=hb1;clear hb1;obtain ⟨aC,bH,bQ,acX,aW,bP,bf,bF,aV,aJ⟩:=T.out.c10;go_upto_region 11 with fail;go_wp2_with (refine sR R.out ?_)
 clear aC bH bQ acX aW bP bf bF aV aJ;generalize nH:wd2.setRow _ _=wd4;replace T:=f1 T (eR nH);replace R:=dV R nH;replace hw3:=tr hw3 nH;clear nH;exact bodyPost_ret (v:=.agg #[.int .i64 5,.string ⟨x.name.toArray⟩,.int .i64 0,.int .i64 0,.int .i64 0,.slice none 0 0,.slice A2 x.ah.length c2,.int .i64 0,.int .i64 0,.bool false]) (by simp [results,Tryz.results134,go_sem,R.out.c10]) rfl (⟨rfl,hw3⟩)
theorem aan (x:ay) (A1 A2:Option Addr) (c1 c2:Nat) (w:World) (h:x.kind=6) :
  Calls Tryz.prog 134 #[dA x (.slice A1 x.syms.length c1) (.slice A2 x.ah.length c2)] w (RTq w (dA (jM x) (lF x (.slice A1 x.syms.length c1)) (lG x (.slice A2 x.ah.length c2)))):=by
 have hres:dA (jM x) (lF x (.slice A1 x.syms.length c1)) (lG x (.slice A2 x.ah.length c2)) = .agg #[.int .i64 6,.string ⟨x.name.toArray⟩,.int .i64 0,.int .i64 0,.int .i64 0,.slice none 0 0,.slice A2 x.ah.length c2,.int .i64 0,.int .i64 0,.bool x.opn]:=by unfold jM lF lG;simp [h,iC]
 rw [hres];simp only [dA,h];clear hres;go_enter Tryz.func134,Tryz.ntmps134
 go_upto_region 1 with fail;refine jg (fun wd2 hb1 T R => ?_);have hw3:=hb1;clear hb1;obtain ⟨aC,bH,bQ,acX,aW,bP,bf,bF,aV,aJ⟩:=T.out.c10;go_upto_region 13 with fail;go_wp2_with (refine sR R.out ?_)
 clear aC bH bQ acX aW bP bf bF aV aJ;generalize nH:wd2.setRow _ _=wd4;replace T:=f1 T (eR nH);replace R:=dV R nH;replace hw3:=tr hw3 nH;clear nH;exact bodyPost_ret (v:=.agg #[.int .i64 6,.string ⟨x.name.toArray⟩,.int .i64 0,.int .i64 0,.int .i64 0,.slice none 0 0,.slice A2 x.ah.length c2,.int .i64 0,.int .i64 0,.bool x.opn]) (by simp [results,Tryz.results134,go_sem,R.out.c10]) rfl (⟨rfl,hw3⟩)
theorem aao (x:ay) (A1 A2:Option Addr) (c1 c2:Nat) (w:World) (h:x.kind=7) :
  Calls Tryz.prog 134 #[dA x (.slice A1 x.syms.length c1) (.slice A2 x.ah.length c2)] w (RTq w (dA (jM x) (lF x (.slice A1 x.syms.length c1)) (lG x (.slice A2 x.ah.length c2)))):=by
 have hres:dA (jM x) (lF x (.slice A1 x.syms.length c1)) (lG x (.slice A2 x.ah.length c2)) = .agg #[.int .i64 7,.string ⟨#[]⟩,.int .i64 0,.int .i64 0,.int .i64 x.max,.slice none 0 0,.slice none 0 0,.int .i64 0,.int .i64 x.elem,.bool false]:=by unfold jM lF lG;simp [h,iC]
 rw [hres];simp only [dA,h];clear hres;go_enter Tryz.func134,Tryz.ntmps134
 go_upto_region 1 with fail;refine jg (fun wd2 hb1 T R => ?_);have hw3:=hb1;clear hb1;obtain ⟨aC,bH,bQ,acX,aW,bP,bf,bF,aV,aJ⟩:=T.out.c10;go_upto_region 15 with fail;go_wp2_with (refine sR R.out ?_)
 clear aC bH bQ acX aW bP bf bF aV aJ;generalize nH:wd2.setRow _ _=wd4;replace T:=f1 T (eR nH);replace R:=dV R nH;replace hw3:=tr hw3 nH;clear nH;exact bodyPost_ret (v:=.agg #[.int .i64 7,.string ⟨#[]⟩,.int .i64 0,.int .i64 0,.int .i64 x.max,.slice none 0 0,.slice none 0 0,.int .i64 0,.int .i64 x.elem,.bool false]) (by simp [results,Tryz.results134,go_sem,R.out.c10]) rfl (⟨rfl,hw3⟩)
theorem aap (x:ay) (A1 A2:Option Addr) (c1 c2:Nat) (w:World) (h:x.kind=8) :
  Calls Tryz.prog 134 #[dA x (.slice A1 x.syms.length c1) (.slice A2 x.ah.length c2)] w (RTq w (dA (jM x) (lF x (.slice A1 x.syms.length c1)) (lG x (.slice A2 x.ah.length c2)))):=by
 have hres:dA (jM x) (lF x (.slice A1 x.syms.length c1)) (lG x (.slice A2 x.ah.length c2)) = .agg #[.int .i64 8,.string ⟨#[]⟩,.int .i64 0,.int .i64 0,.int .i64 x.max,.slice none 0 0,.slice none 0 0,.int .i64 x.key,.int .i64 x.elem,.bool false]:=by unfold jM lF lG;simp [h,iC]
 rw [hres];simp only [dA,h];clear hres;go_enter Tryz.func134,Tryz.ntmps134
 go_upto_region 1 with fail;refine jg (fun wd2 hb1 T R => ?_);have hw3:=hb1;clear hb1;obtain ⟨aC,bH,bQ,acX,aW,bP,bf,bF,aV,aJ⟩:=T.out.c10;go_upto_region 17 with fail;go_wp2_with (refine sR R.out ?_)
 clear aC bH bQ acX aW bP bf bF aV aJ;generalize nH:wd2.setRow _ _=wd4;replace T:=f1 T (eR nH);replace R:=dV R nH;replace hw3:=tr hw3 nH;clear nH;exact bodyPost_ret (v:=.agg #[.int .i64 8,.string ⟨#[]⟩,.int .i64 0,.int .i64 0,.int .i64 x.max,.slice none 0 0,.slice none 0 0,.int .i64 x.key,.int .i64 x.elem,.bool false]) (by simp [results,Tryz.results134,go_sem,R.out.c10]) rfl (⟨rfl,hw3⟩)
theorem aaq (x:ay) (A1 A2:Option Addr) (c1 c2:Nat) (w:World) (h:x.kind=9) :
  Calls Tryz.prog 134 #[dA x (.slice A1 x.syms.length c1) (.slice A2 x.ah.length c2)] w (RTq w (dA (jM x) (lF x (.slice A1 x.syms.length c1)) (lG x (.slice A2 x.ah.length c2)))):=by
 have hres:dA (jM x) (lF x (.slice A1 x.syms.length c1)) (lG x (.slice A2 x.ah.length c2)) = .agg #[.int .i64 9,.string ⟨#[]⟩,.int .i64 0,.int .i64 0,.int .i64 0,.slice none 0 0,.slice none 0 0,.int .i64 0,.int .i64 x.elem,.bool false]:=by unfold jM lF lG;simp [h,iC]
 rw [hres];simp only [dA,h];clear hres;go_enter Tryz.func134,Tryz.ntmps134
 go_upto_region 1 with fail;refine jg (fun wd2 hb1 T R => ?_);have hw3:=hb1;clear hb1;obtain ⟨aC,bH,bQ,acX,aW,bP,bf,bF,aV,aJ⟩:=T.out.c10;go_upto_region 18 with fail;go_wp2_with (refine sR R.out ?_)
 clear aC bH bQ acX aW bP bf bF aV aJ;generalize nH:wd2.setRow _ _=wd4;replace T:=f1 T (eR nH);replace R:=dV R nH;replace hw3:=tr hw3 nH;clear nH;exact bodyPost_ret (v:=.agg #[.int .i64 9,.string ⟨#[]⟩,.int .i64 0,.int .i64 0,.int .i64 0,.slice none 0 0,.slice none 0 0,.int .i64 0,.int .i64 x.elem,.bool false]) (by simp [results,Tryz.results134,go_sem,R.out.c10]) rfl (⟨rfl,hw3⟩)
theorem acP (x:ay) (vs vm:Value) (w:World) (hk:iP x.kind) (hs:∃ A1 c1,vs = .slice A1 x.syms.length c1) (hm:∃ A2 c2,vm = .slice A2 x.ah.length c2) :
  Calls Tryz.prog 134 #[dA x vs vm] w (RTq w (dA (jM x) (lF x vs) (lG x vm))):=by
 obtain ⟨A1,c1,rfl⟩:=hs;obtain ⟨A2,c2,rfl⟩:=hm;rcases vF hk with h | h | h | h | h | h | h | h | h
 · exact aai x A1 A2 c1 c2 w h
 · exact aaj x A1 A2 c1 c2 w h
 · exact aak x A1 A2 c1 c2 w h
 · exact aal x A1 A2 c1 c2 w h
 · exact aam x A1 A2 c1 c2 w h
 · exact aan x A1 A2 c1 c2 w h
 · exact aao x A1 A2 c1 c2 w h
 · exact aap x A1 A2 c1 c2 w h
 exact aaq x A1 A2 c1 c2 w h
def Il (b n:Int):Bool:=decide (b < n) && mM n
theorem PW (b n:Int) (w:World):Calls Tryz.prog 173 #[.int .i64 b,.int .i64 n] w fun e w' => e = .returned (.bool (Il b n))∧w=w':=by
 have Hd:Hid (Il b n=(decide (b < n) && (decide (1≤n) && decide (n≤1000)))):=by show _=_;unfold Il mM;rw [Bool.eq_iff_iff];simp
 go_enter Tryz.func173,Tryz.ntmps173
 go_wp2
 all_goals
  go_ret;exact ⟨au (by rw [Hd.out];first | rfl | (simp;done) | (simp;omega) | (rw [Bool.eq_iff_iff];simp;omega)),rfl⟩
def wK (l:List Raw) (k:Nat):Int:=match nD l k with | some a => a | none => 0
theorem W9 (l:List Raw) (k:Nat) (a:Int):(mM a && xH (nD l k) a)=Il (wK l k) a:=by
 unfold Il wK;cases nD l k with
 | none =>
  simp only [xH,Bool.and_true];by_cases h:0 < a
  · rw [decide_eq_true h];rfl
  rw [decide_eq_false h];unfold mM;rw [decide_eq_false (show ¬ (1≤a∧a≤1000) by omega)];rfl
 | some q => simp only [xH];rw [Bool.and_comm]
theorem JG (l:List Raw) (k:Nat) (h:k < l.length):wK l (k+1)=l[k].1:=by unfold wK;rw [tZ l k h]
theorem AY (l:List (List UInt8)) (q:Nat) (h:q < l.length) (s:List UInt8):(l.take (q+1)).contains s=((l.take q).contains s || l[q] == s):=by
 rw [List.take_succ_eq_append_getElem h,Bool.eq_iff_iff];simp only [List.contains_iff_mem,List.mem_append,List.mem_singleton,Bool.or_eq_true,beq_iff_eq]
 constructor
 ·
  rintro (h | h)
  · exact .inl h
  exact .inr h.symm
 rintro (h | h)
 · exact .inl h
 exact .inr h.symm
theorem I5 (l:List (List UInt8)) (q k:Nat) (h:q < k) (hk:k≤l.length):(l.take k).contains (l[q]'(by omega))=true:=by
 rw [List.contains_iff_mem,List.mem_take_iff_getElem];exact ⟨q,by omega,rfl⟩
theorem zDk {p:Prop} (h:p:=by
 go_wp2_with fail;go_roundw
 case rel => exact ⟨q+1,by omega,by go_num,by rw [HZ.out],jB.out,hb⟩
 case measure => simp [intOf];omega):p:=h
theorem zIo {p:Prop} (h:p:=by
 go_quiet (fail)
 go_wp2_with fail;go_ret;exact ⟨au Hno.out.symm,below_drewN hb _⟩):p:=h
theorem Xa (l:List Raw) (va:Value) (w:World) (hl:l.length≤140737488351232) (h1:Rd w w.heap.size 2 va l.length (jO l)) :
  Calls Tryz.prog 136 #[va] w (RTq w (.bool (wu l))):=by
 obtain ⟨A,c,rfl,hca⟩:=h1.form;have H1:=hiQ h1;clear h1;go_enter Tryz.func136,Tryz.ntmps136
 go_wp2_with fail;go_loopw [3,4] (fun b i wr => ∃ k:Nat,k≤l.length∧i = .int .i64 k∧b = .int .i64 (wK l k)∧nO l none []=nO (l.drop k) (nD l k) ((l.take k).map Prod.snd)∧Below w.heap.size w wr) (fun _ i _ => l.length - (intOf i).toNat)
 case atStart => exact ⟨0,by omega,rfl,rfl,by simp [nD],Below.refl _ _⟩
 case round =>
  obtain ⟨k,hk,rfl,rfl,hid,hb⟩:=hrel;by_cases hlt:k < l.length
  ·
   obtain ⟨ba,o1,rfl,hb1,hc1⟩:=(H1.out.below hb).at_ (by omega);obtain ⟨x1,x2⟩:=qy hc1 k hlt;rw [SK l k hlt,← Bool.and_assoc,W9] at hid;have hi1:(k:Int) < l.length:=by omega
   obtain ⟨a,haq⟩ : ∃ a,l[k].1=a:=⟨_,rfl⟩
   obtain ⟨s,Fe⟩ : ∃ s,l[k].2=s:=⟨_,rfl⟩
   rw [haq] at x1 hid;rw [Fe] at x2 hid;have HZ:Hid (wK l (k+1)=a):=by show _=_;rw [JG l k hlt,haq]
   have Xb:Hid (nD l (k+1)=some a):=by show _=_;rw [tZ l k hlt,haq]
   have Xc:Hid ((l.take k).map Prod.snd ++ [s]=(l.take (k+1)).map Prod.snd):=by show _=_;rw [← Fe];exact ao5 l k hlt
   have HAQ:=hiQ haq;have HSQ:=hiQ Fe;clear haq Fe;have xX:=fun W => PW (wK l k) a W;generalize wK l k=z at *;clear hc1;cases hia:Il z a with
   | false =>
    rw [hia] at xX hid;have HID:=hiQ xX;have Hno:Hid (wu l=false):=by show _=_;unfold wu nP;rw [hid];simp
    clear hid xX hia;go_wp2_with fail;refine (HID.out _).mono ?_;rintro e w2 ⟨rfl,rfl⟩;exact zCc
   | true =>
    rw [hia,Bool.true_and] at hid;rw [hia] at xX;have HID:=hiQ xX;clear xX hia;have hname:=fun W => D5 s W;cases hn:nameB s with
    | false =>
     rw [hn] at hname hid;have HN:=hiQ hname;have Hno:Hid (wu l=false):=by show _=_;unfold wu nP;rw [hid];simp
     clear hid hname hn;go_wp2_with fail;refine (HID.out _).mono ?_;rintro e w2 ⟨rfl,rfl⟩;go_wp2_with fail;refine (HN.out _).mono ?_;rintro e w2 ⟨rfl,rfl⟩;exact zCc
    | true =>
     rw [hn,Bool.true_and] at hid;rw [hn] at hname;have HN:=hiQ hname;have avp:=hiQ hid;clear hid hname hn;go_wp2_with fail;refine (HID.out _).mono ?_;rintro e w2 ⟨rfl,rfl⟩;go_wp2_with fail;refine (HN.out _).mono ?_;rintro e w2 ⟨rfl,rfl⟩;go_wp2_with fail;have Hb0:=hiQ hb;go_loopw [5] (fun j ws => ∃ q:Nat,q≤k∧j = .int .i64 q∧((l.map Prod.snd).take q).contains s=false∧Below w.heap.size w ws) (fun j _ => k - (intOf j).toNat)
     case atStart => exact ⟨0,by omega,rfl,rfl,Hb0.out⟩
     case round =>
      clear hb Hb0 x1 x2;obtain ⟨q,hq,rfl,hnc,hb⟩:=hrel;have hcq:=(H1.out.below hb).at_ (by omega);obtain ⟨b2,o2,hbe,hb2,hc2⟩:=hcq;injection hbe with hbe;injection hbe with am8 am9;subst am8 am9;have z1:=(qy hc2 k hlt).1;have z2:=(qy hc2 k hlt).2;rw [HAQ.out] at z1;rw [HSQ.out] at z2;by_cases hqk:q < k
      ·
       have tV:q < l.length:=by omega
       have y2:=(qy hc2 q tV).2;have hsu:=AY (l.map Prod.snd) q (by simpa using tV) s;have hit:=I5 (l.map Prod.snd) q k hqk (by simpa using hk);rw [List.getElem_map] at hsu hit;have aar:(q:Int) < k:=by omega
       have aas:(q:Int) < l.length:=by omega
       generalize l[q].2=p at *;clear hc2;by_cases hps:p=s
       ·
        have ED:(p == s)=true:=by simp [hps]
        have Hno:Hid (wu l=false):=by
         show _=_;unfold wu nP;rw [avp.out,List.map_take,← hps,hit];simp
        clear hps hsu hit hnc;go_upto_region 10 with fail;exact zIo
       have ED:(p == s)=false:=by simpa using hps
       have Me:Hid (((l.map Prod.snd).take (q+1)).contains s=false):=by show _=_;rw [hsu,hnc,ED];rfl
       clear hps hsu hit hnc;go_upto_region 10 with fail;go_quiet (fail)
       go_wp2_with fail;go_roundw
       case rel => exact ⟨q+1,by omega,by go_num,Me.out,below_drewN hb _⟩
       case measure => simp [intOf];omega
      obtain rfl:q=k:=by omega
      have jB:Hid (nO l none []=nO (l.drop (q+1)) (nD l (q+1)) ((l.take (q+1)).map Prod.snd)):=by
       show _=_;rw [avp.out,List.map_take,hnc,Xb.out,← Xc.out,List.map_take];rfl
      clear hc2 hnc;exact zDk
  obtain rfl:k=l.length:=by omega
  rw [List.drop_eq_nil_of_le (Nat.le_refl _),nO] at hid;have Hs:Hid (wu l=(decide (1≤(l.length:Int)) && decide ((l.length:Int)≤16))):=by
   show _=_;unfold wu nP;rw [hid,Bool.true_and];rw [Bool.eq_iff_iff];simp;omega
  clear hid;go_wp2_with fail
  all_goals
   go_ret;exact ⟨au (by rw [Hs.out];first | rfl | (simp;done) | (rw [Bool.eq_iff_iff];simp;omega) | simp_all),hb⟩
def jL (rc:Bool) (l:List Mem):Bool:=(l.all (jf (!rc)) && nO (l.map bW) none []) && (decide (l.length≤16) && (rc || decide (1≤l.length)))
theorem YZ (l:List Mem) (k:Nat) (h:k < l.length) (f:Mem→Bool) (S:List (List UInt8)) :
  ((l.drop k).all f && nO ((l.map bW).drop k) (nD (l.map bW) k) S)=(Il (wK (l.map bW) k) l[k].id && (nameB l[k].name && (f l[k] && (!S.contains l[k].name && ((l.drop (k+1)).all f && nO ((l.map bW).drop (k+1)) (some l[k].id) (S ++ [l[k].name])))))):=by
 have hk:k < (l.map bW).length:=by simpa using h
 have hg:(l.map bW)[k]=(l[k].id,l[k].name):=by rw [List.getElem_map];rfl
 rw [SK (l.map bW) k hk,hg,← Bool.and_assoc (mM _),W9,List.drop_eq_getElem_cons h,List.all_cons];simp only;cases Il (wK (l.map bW) k) l[k].id <;> cases nameB l[k].name <;> cases f l[k] <;> cases S.contains l[k].name <;> simp
theorem zHp {p:Prop} (h:p:=by
 have ED:(p == m.name)=false:=by simpa using hps
 have Me:Hid ((((l.map bW).map Prod.snd).take (q+1)).contains m.name=false):=by show _=_;rw [hsu,hnc,ED];rfl
 clear hps hsu hit hnc;have iD:=M.out.e1;go_upto_region 13 with fail;go_quiet (fail)
 go_wp2_with fail;go_roundw
 case rel => exact ⟨q+1,by omega,by go_num,Me.out,M.out.drewN _,below_drewN hb _⟩
 case measure => simp [intOf];omega):p:=h
theorem zIq {p:Prop} (h:p:=by
 show _=_;unfold jL;rw [yY.out,MB.out,List.map_take];have:(((l.map bW).map Prod.snd).take k).contains m.name=true:=by rw [← hps];exact hit
 rw [this];simp):p:=h
theorem zBh {p:Prop} (h:p:=by
 obtain ⟨gM,hgM⟩ : ∃ g,g=g3:=⟨_,rfl⟩
 subst hgM;go_wp2_with fail;go_loopw [8] (fun j ws => ∃ q:Nat,q≤k∧j = .int .i64 q∧(((l.map bW).map Prod.snd).take q).contains m.name=false∧Has ws gM 83 #[.int .i64 m.id,.string ⟨m.name.toArray⟩,.int .i64 m.ty,.bool m.akb,.bool m.eG,.int .i64 m.dflt.kind,.bool m.dflt.bool,.int .i64 m.dflt.num,.string ⟨m.dflt.str.toArray⟩,.int .i64 m.dflt.id,.slice D1 m.dflt.keys.length d1,.slice D2 m.dflt.items.length d2,.slice D3 m.dflt.rest.length d3]∧Below w.heap.size w ws) (fun j _ => k - (intOf j).toNat)
 case atStart => exact ⟨0,by omega,rfl,rfl,EF.out,HB0.out⟩
 case round =>
  clear M EF HB0;obtain ⟨q,hq,rfl,hnc,M,hb⟩:=hrel;replace M:=hiQ M;by_cases hqk:q < k
  ·
   have tV:q < l.length:=by omega
   obtain ⟨ek,ei,er,MC,-⟩:=Ez.out q tV;have y2:=((hb).cell (p:=⟨ba,_,none⟩) hb1).trans MC.2.1;have hsu:=AY ((l.map bW).map Prod.snd) q (by simpa using tV) m.name;have hit:=I5 ((l.map bW).map Prod.snd) q k hqk (by simpa using hk);rw [List.getElem_map,List.getElem_map] at hsu hit;have aar:(q:Int) < k:=by omega
   have aas:(q:Int) < l.length:=by omega
   simp only [bW] at hsu hit;generalize l[q].name=p at *;clear MC;by_cases hps:p=m.name
   ·
    have ED:(p == m.name)=true:=by simp [hps]
    have Hno:Hid (jL true l=false):=by
     exact zIq
    clear hps hsu hit hnc;have iD:=M.out.e1;go_upto_region 13 with fail;exact zIo
   exact zHp
  obtain rfl:q=k:=by omega
  have jB:Hid ((l.all (jf (!true)) && nO (l.map bW) none [])=((l.drop (q+1)).all (jf (!true)) && nO ((l.map bW).drop (q+1)) (nD (l.map bW) (q+1)) (((l.map bW).take (q+1)).map Prod.snd))):=by
   show _=_;rw [yY.out,MB.out,List.map_take,hnc,Xb.out,← Xc.out,List.map_take];simp
  clear hnc;have iU:=M.out.e0;go_wp2_with fail;go_roundw
  case rel => exact ⟨q+1,by omega,by go_num,by rw [HZ.out],jB.out,hb⟩
  case measure => simp [intOf];omega):p:=h
theorem zFc {p:Prop} (h:p:=by
 have hnil:=List.eq_nil_of_length_eq_zero hz0;subst hnil;clear h1;go_enter Tryz.func137,Tryz.ntmps137
 go_wp2
 refine wp_loop_rounds 1 ?_;rw [rounds_succ];go_wp2
 go_ret;exact ⟨rfl,Below.refl _ _⟩):p:=h
theorem zFi {p:Prop} (h:p:=by
 clear hid;go_wp2_with fail
 all_goals
  go_ret;exact ⟨au (by rw [Hs.out];first | rfl | (simp;done) | (rw [Bool.eq_iff_iff];simp;omega) | (simp_all;done) | (simp_all;omega)),hb⟩):p:=h
theorem zHd {p:Prop} (h:p:=by
 obtain ⟨-,-,-,mQ,kK,qU,qV,qW,qX,qY,oK,oL,oM⟩:=M.out.c13;go_wp2_with fail;clear mQ kK qU qV qW qX qY oK oL oM;((with_reducible refine (HSV.out _ (Oo.out.on hb)).mono ?_);rintro e nM ⟨rfl,aY⟩);replace M:=b1 M aY;replace hb:=dT hb aY;clear aY;cases hbl:iK m.dflt jm with
 | true =>
  have MB:Hid (jf (!true) m=true):=by show _=_;unfold jf;rw [hcr,hhd,hbl];rfl
  clear hbl;have EF:=hiQ M.out;have HB0:=hiQ hb;exact zBh
 | false =>
  have Hm:jf (!true) m=false:=by unfold jf;rw [hcr,hhd,hbl];rfl
  have Hno:Hid (jL true l=false):=by show _=_;unfold jL;rw [yY.out,Hm];simp
  clear hbl Hm;exact zCc):p:=h
theorem PX (l:List Mem) (va:Value) (w:World) (hl:l.length≤140737488351232) (h1:rW w w.heap.size va l) :
  Calls Tryz.prog 137 #[va,.bool true] w (RTq w (.bool (jL true l))):=by
 obtain ⟨A,c,rfl,hca⟩:=h1.form;by_cases hz0:l.length=0
 · exact zFc
 obtain ⟨ba,o1,rfl,hb1,hel⟩:=h1.elem (by omega);have Ez:=hiQ hel;clear h1 hel;go_enter Tryz.func137,Tryz.ntmps137
 go_wp2_with fail;go_loopw [5,6] (fun b i wr => ∃ k:Nat,k≤l.length∧i = .int .i64 k∧b = .int .i64 (wK (l.map bW) k)∧(l.all (jf (!true)) && nO (l.map bW) none [])=((l.drop k).all (jf (!true)) && nO ((l.map bW).drop k) (nD (l.map bW) k) (((l.map bW).take k).map Prod.snd))∧Below w.heap.size w wr) (fun _ i _ => l.length - (intOf i).toNat)
 case atStart => exact ⟨0,by omega,rfl,rfl,by simp [nD],Below.refl _ _⟩
 case round =>
  obtain ⟨k,hk,rfl,rfl,hid,hb⟩:=hrel;by_cases hlt:k < l.length
  ·
   obtain ⟨dk,di,dr,hcells,hma⟩:=Ez.out k hlt;have hlk:k < (l.map bW).length:=by simpa using hlt
   have hgk:(l.map bW)[k]=(l[k].id,l[k].name):=by rw [List.getElem_map];rfl
   rw [YZ l k hlt] at hid;have HZ:Hid (wK (l.map bW) (k+1)=l[k].id):=by show _=_;rw [JG _ k hlk,hgk]
   have Xb:Hid (nD (l.map bW) (k+1)=some l[k].id):=by show _=_;rw [tZ _ k hlk,hgk]
   have Xc:Hid (((l.map bW).take k).map Prod.snd ++ [l[k].name]=((l.map bW).take (k+1)).map Prod.snd):=by have h:=ao5 (l.map bW) k hlk;rw [hgk] at h;exact h
   clear hgk hlk;generalize l[k]=m at *;obtain ⟨D1,d1,D2,d2,D3,d3,rfl,rfl,rfl,-,-,-⟩:=hma.dflt.forms;have Oo:=hiQ hma.dflt;have hsv:∀ W,ValAt W W.heap.size m.dflt (.slice D1 m.dflt.keys.length d1) (.slice D2 m.dflt.items.length d2) (.slice D3 m.dflt.rest.length d3)→Calls Tryz.prog 126 #[aS m.dflt (.slice D1 m.dflt.keys.length d1) (.slice D2 m.dflt.items.length d2) (.slice D3 m.dflt.rest.length d3),.agg #[.int .i64 0,.bool false,.int .i64 0,.string ⟨#[]⟩,.int .i64 0,.slice none 0 0,.slice none 0 0,.slice none 0 0]] W fun e w' => e = .returned (.bool (iK m.dflt jm))∧Below W.heap.size W w' :=
    fun W h => BI (nodes m.dflt+1) m.dflt jm _ _ _ (.slice none 0 0) (.slice none 0 0) (.slice none 0 0) W (by omega) h (Py _ _)
   have HSV:=hiQ hsv;obtain ⟨y0,y1,y2,y3,y4,y5,y6,y7,y8,y9,GN,GR,GU⟩:=hcells;have x0:=(hb.cell (p:=⟨ba,_,none⟩) hb1).trans y0;have x1:=(hb.cell (p:=⟨ba,_,none⟩) hb1).trans y1;have x2:=(hb.cell (p:=⟨ba,_,none⟩) hb1).trans y2;have x3:=(hb.cell (p:=⟨ba,_,none⟩) hb1).trans y3;have x4:=(hb.cell (p:=⟨ba,_,none⟩) hb1).trans y4;have x5:=(hb.cell (p:=⟨ba,_,none⟩) hb1).trans y5;have x6:=(hb.cell (p:=⟨ba,_,none⟩) hb1).trans y6;have x7:=(hb.cell (p:=⟨ba,_,none⟩) hb1).trans y7;have x8:=(hb.cell (p:=⟨ba,_,none⟩) hb1).trans y8;have x9:=(hb.cell (p:=⟨ba,_,none⟩) hb1).trans y9;have x10:=(hb.cell (p:=⟨ba,_,none⟩) hb1).trans GN;have x11:=(hb.cell (p:=⟨ba,_,none⟩) hb1).trans GR;have x12:=(hb.cell (p:=⟨ba,_,none⟩) hb1).trans GU;clear y0 y1 y2 y3 y4 y5 y6 y7 y8 y9 GN GR GU hma hsv;have hi1:(k:Int) < l.length:=by omega
   have xX:=fun W => PW (wK (l.map bW) k) m.id W;have hname:=fun W => D5 m.name W;generalize wK (l.map bW) k=z at *;go_upto_region 6 with fail;refine aO (fun wd2 hb1 M => ?_);have hl4:=hb.size;replace hb:=dT hb hb1;clear hb1;generalize wr.heap.size=g3 at *;clear x0 x1 x2 x3 x4 x5 x6 x7 x8 x9 x10 x11 x12;have iU:=M.out.e0;have iD:=M.out.e1;cases hia:Il z m.id with
   | false =>
    rw [hia] at xX hid;have HID:=hiQ xX;have yY:=hiQ hid;clear hid xX hia hname;go_wp2_with fail;clear iU iD;((with_reducible refine (HID.out _).mono ?_);rintro e fG ⟨rfl,rfl⟩);have Hno:Hid (jL true l=false):=by show _=_;unfold jL;rw [yY.out];simp
    exact zCc
   | true =>
    rw [hia,Bool.true_and] at hid;rw [hia] at xX;have HID:=hiQ xX;clear xX hia;cases hn:nameB m.name with
    | false =>
     rw [hn] at hname hid;have HN:=hiQ hname;have yY:=hiQ hid;clear hid hname hn;go_wp2_with fail;clear iU iD;((with_reducible refine (HID.out _).mono ?_);rintro e fG ⟨rfl,rfl⟩);have iD:=M.out.e1;go_wp2_with fail;clear iD;((with_reducible refine (HN.out _).mono ?_);rintro e jC ⟨rfl,rfl⟩);have Hno:Hid (jL true l=false):=by show _=_;unfold jL;rw [yY.out];simp
     exact zCc
    | true =>
     rw [hn,Bool.true_and] at hid;rw [hn] at hname;have HN:=hiQ hname;have yY:=hiQ hid;clear hid hname hn;go_wp2_with fail;clear iU iD;((with_reducible refine (HID.out _).mono ?_);rintro e fG ⟨rfl,rfl⟩);have iD:=M.out.e1;go_wp2_with fail;clear iD;((with_reducible refine (HN.out _).mono ?_);rintro e jC ⟨rfl,rfl⟩);have hcr:m.akb=true∨m.akb=false:=by cases m.akb <;> simp
     have hhd:m.eG=true∨m.eG=false:=by cases m.eG <;> simp
     rcases hcr with hcr | hcr
     ·
      rcases hhd with hhd | hhd
      ·
       skip
       have Hm:jf (!true) m=false:=by unfold jf;rw [hcr,hhd];rfl
       have PY:Hid ((l.all (jf (!true)) && nO (l.map bW) none [])=false):=by show _=_;rw [yY.out,Hm];rfl
       have Hno:Hid (jL true l=false):=by show _=_;unfold jL;rw [PY.out];rfl
       clear Hm;have mQ:=M.out.e3;have kK:=M.out.e4;exact zCc
      skip
      exact zHd
     rcases hhd with hhd | hhd
     ·
      skip
      have MB:Hid (jf (!true) m=true):=by show _=_;unfold jf;rw [hcr,hhd];rfl
      have mQ:=M.out.e3;have kK:=M.out.e4;go_upto_region 10 with fail;have EF:=hiQ M.out;have HB0:=hiQ hb;clear mQ kK;exact zBh
     skip
     exact zHd
  obtain rfl:k=l.length:=by omega
  rw [List.drop_eq_nil_of_le (Nat.le_refl _),List.drop_eq_nil_of_le (by simp),nO] at hid;have Hs:Hid (jL true l=(decide (l.length≤16) && (true || decide (1≤l.length)))):=by
   show _=_;unfold jL;rw [hid];rfl
  exact zFi
theorem zHg {p:Prop} (h:p:=by
 have Hm:jf (!false) m=false:=by unfold jf;rw [hcr,hhd];rfl
 have PY:Hid ((l.all (jf (!false)) && nO (l.map bW) none [])=false):=by show _=_;rw [yY.out,Hm];rfl
 have Hno:Hid (jL false l=false):=by show _=_;unfold jL;rw [PY.out];rfl
 clear Hm;have mQ:=M.out.e3;have kK:=M.out.e4;exact zCc):p:=h
theorem NZ (l:List Mem) (va:Value) (w:World) (hl:l.length≤140737488351232) (h1:rW w w.heap.size va l) :
  Calls Tryz.prog 137 #[va,.bool false] w (RTq w (.bool (jL false l))):=by
 obtain ⟨A,c,rfl,hca⟩:=h1.form;by_cases hz0:l.length=0
 · exact zFc
 obtain ⟨ba,o1,rfl,hb1,hel⟩:=h1.elem (by omega);have Ez:=hiQ hel;clear h1 hel;go_enter Tryz.func137,Tryz.ntmps137
 go_wp2_with fail;go_loopw [5,6] (fun b i wr => ∃ k:Nat,k≤l.length∧i = .int .i64 k∧b = .int .i64 (wK (l.map bW) k)∧(l.all (jf (!false)) && nO (l.map bW) none [])=((l.drop k).all (jf (!false)) && nO ((l.map bW).drop k) (nD (l.map bW) k) (((l.map bW).take k).map Prod.snd))∧Below w.heap.size w wr) (fun _ i _ => l.length - (intOf i).toNat)
 case atStart => exact ⟨0,by omega,rfl,rfl,by simp [nD],Below.refl _ _⟩
 case round =>
  obtain ⟨k,hk,rfl,rfl,hid,hb⟩:=hrel;by_cases hlt:k < l.length
  ·
   obtain ⟨dk,di,dr,hcells,hma⟩:=Ez.out k hlt;have hlk:k < (l.map bW).length:=by simpa using hlt
   have hgk:(l.map bW)[k]=(l[k].id,l[k].name):=by rw [List.getElem_map];rfl
   rw [YZ l k hlt] at hid;have HZ:Hid (wK (l.map bW) (k+1)=l[k].id):=by show _=_;rw [JG _ k hlk,hgk]
   have Xb:Hid (nD (l.map bW) (k+1)=some l[k].id):=by show _=_;rw [tZ _ k hlk,hgk]
   have Xc:Hid (((l.map bW).take k).map Prod.snd ++ [l[k].name]=((l.map bW).take (k+1)).map Prod.snd):=by have h:=ao5 (l.map bW) k hlk;rw [hgk] at h;exact h
   clear hgk hlk;generalize l[k]=m at *;obtain ⟨D1,d1,D2,d2,D3,d3,rfl,rfl,rfl,-,-,-⟩:=hma.dflt.forms;have Oo:=hiQ hma.dflt;have hsv:∀ W,ValAt W W.heap.size m.dflt (.slice D1 m.dflt.keys.length d1) (.slice D2 m.dflt.items.length d2) (.slice D3 m.dflt.rest.length d3)→Calls Tryz.prog 126 #[aS m.dflt (.slice D1 m.dflt.keys.length d1) (.slice D2 m.dflt.items.length d2) (.slice D3 m.dflt.rest.length d3),.agg #[.int .i64 0,.bool false,.int .i64 0,.string ⟨#[]⟩,.int .i64 0,.slice none 0 0,.slice none 0 0,.slice none 0 0]] W fun e w' => e = .returned (.bool (iK m.dflt jm))∧Below W.heap.size W w' :=
    fun W h => BI (nodes m.dflt+1) m.dflt jm _ _ _ (.slice none 0 0) (.slice none 0 0) (.slice none 0 0) W (by omega) h (Py _ _)
   have HSV:=hiQ hsv;obtain ⟨y0,y1,y2,y3,y4,y5,y6,y7,y8,y9,GN,GR,GU⟩:=hcells;have x0:=(hb.cell (p:=⟨ba,_,none⟩) hb1).trans y0;have x1:=(hb.cell (p:=⟨ba,_,none⟩) hb1).trans y1;have x2:=(hb.cell (p:=⟨ba,_,none⟩) hb1).trans y2;have x3:=(hb.cell (p:=⟨ba,_,none⟩) hb1).trans y3;have x4:=(hb.cell (p:=⟨ba,_,none⟩) hb1).trans y4;have x5:=(hb.cell (p:=⟨ba,_,none⟩) hb1).trans y5;have x6:=(hb.cell (p:=⟨ba,_,none⟩) hb1).trans y6;have x7:=(hb.cell (p:=⟨ba,_,none⟩) hb1).trans y7;have x8:=(hb.cell (p:=⟨ba,_,none⟩) hb1).trans y8;have x9:=(hb.cell (p:=⟨ba,_,none⟩) hb1).trans y9;have x10:=(hb.cell (p:=⟨ba,_,none⟩) hb1).trans GN;have x11:=(hb.cell (p:=⟨ba,_,none⟩) hb1).trans GR;have x12:=(hb.cell (p:=⟨ba,_,none⟩) hb1).trans GU;clear y0 y1 y2 y3 y4 y5 y6 y7 y8 y9 GN GR GU hma hsv;have hi1:(k:Int) < l.length:=by omega
   have xX:=fun W => PW (wK (l.map bW) k) m.id W;have hname:=fun W => D5 m.name W;generalize wK (l.map bW) k=z at *;go_upto_region 6 with fail;refine aO (fun wd2 hb1 M => ?_);have hl4:=hb.size;replace hb:=dT hb hb1;clear hb1;generalize wr.heap.size=g3 at *;clear x0 x1 x2 x3 x4 x5 x6 x7 x8 x9 x10 x11 x12;have iU:=M.out.e0;have iD:=M.out.e1;cases hia:Il z m.id with
   | false =>
    rw [hia] at xX hid;have HID:=hiQ xX;have yY:=hiQ hid;clear hid xX hia hname;go_wp2_with fail;clear iU iD;((with_reducible refine (HID.out _).mono ?_);rintro e fG ⟨rfl,rfl⟩);have Hno:Hid (jL false l=false):=by show _=_;unfold jL;rw [yY.out];simp
    exact zCc
   | true =>
    rw [hia,Bool.true_and] at hid;rw [hia] at xX;have HID:=hiQ xX;clear xX hia;cases hn:nameB m.name with
    | false =>
     rw [hn] at hname hid;have HN:=hiQ hname;have yY:=hiQ hid;clear hid hname hn;go_wp2_with fail;clear iU iD;((with_reducible refine (HID.out _).mono ?_);rintro e fG ⟨rfl,rfl⟩);have iD:=M.out.e1;go_wp2_with fail;clear iD;((with_reducible refine (HN.out _).mono ?_);rintro e jC ⟨rfl,rfl⟩);have Hno:Hid (jL false l=false):=by show _=_;unfold jL;rw [yY.out];simp
     exact zCc
    | true =>
     rw [hn,Bool.true_and] at hid;rw [hn] at hname;have HN:=hiQ hname;have yY:=hiQ hid;clear hid hname hn;go_wp2_with fail;clear iU iD;((with_reducible refine (HID.out _).mono ?_);rintro e fG ⟨rfl,rfl⟩);have iD:=M.out.e1;go_wp2_with fail;clear iD;((with_reducible refine (HN.out _).mono ?_);rintro e jC ⟨rfl,rfl⟩);have hcr:m.akb=true∨m.akb=false:=by cases m.akb <;> simp
     have hhd:m.eG=true∨m.eG=false:=by cases m.eG <;> simp
     rcases hcr with hcr | hcr
     ·
      rcases hhd with hhd | hhd
      ·
       skip
       exact zHg
      skip
      exact zHg
     rcases hhd with hhd | hhd
     ·
      skip
      exact zHg
     skip
     obtain ⟨-,-,-,mQ,kK,qU,qV,qW,qX,qY,oK,oL,oM⟩:=M.out.c13;go_wp2_with fail;clear mQ kK qU qV qW qX qY oK oL oM;((with_reducible refine (HSV.out _ (Oo.out.on hb)).mono ?_);rintro e nM ⟨rfl,aY⟩);replace M:=b1 M aY;replace hb:=dT hb aY;clear aY;cases hbl:iK m.dflt jm with
     | true =>
      have MB:Hid (jf (!false) m=true):=by show _=_;unfold jf;rw [hcr,hhd,hbl];rfl
      clear hbl;have EF:=hiQ M.out;have HB0:=hiQ hb;obtain ⟨gM,hgM⟩ : ∃ g,g=g3:=⟨_,rfl⟩
      subst hgM;go_wp2_with fail;go_loopw [8] (fun j ws => ∃ q:Nat,q≤k∧j = .int .i64 q∧(((l.map bW).map Prod.snd).take q).contains m.name=false∧Has ws gM 83 #[.int .i64 m.id,.string ⟨m.name.toArray⟩,.int .i64 m.ty,.bool m.akb,.bool m.eG,.int .i64 m.dflt.kind,.bool m.dflt.bool,.int .i64 m.dflt.num,.string ⟨m.dflt.str.toArray⟩,.int .i64 m.dflt.id,.slice D1 m.dflt.keys.length d1,.slice D2 m.dflt.items.length d2,.slice D3 m.dflt.rest.length d3]∧Below w.heap.size w ws) (fun j _ => k - (intOf j).toNat)
      case atStart => exact ⟨0,by omega,rfl,rfl,EF.out,HB0.out⟩
      case round =>
       clear M EF HB0;obtain ⟨q,hq,rfl,hnc,M,hb⟩:=hrel;replace M:=hiQ M;by_cases hqk:q < k
       ·
        have tV:q < l.length:=by omega
        obtain ⟨ek,ei,er,MC,-⟩:=Ez.out q tV;have y2:=((hb).cell (p:=⟨ba,_,none⟩) hb1).trans MC.2.1;have hsu:=AY ((l.map bW).map Prod.snd) q (by simpa using tV) m.name;have hit:=I5 ((l.map bW).map Prod.snd) q k hqk (by simpa using hk);rw [List.getElem_map,List.getElem_map] at hsu hit;have aar:(q:Int) < k:=by omega
        have aas:(q:Int) < l.length:=by omega
        simp only [bW] at hsu hit;generalize l[q].name=p at *;clear MC;by_cases hps:p=m.name
        ·
         have ED:(p == m.name)=true:=by simp [hps]
         have Hno:Hid (jL false l=false):=by
          exact zIq
         clear hps hsu hit hnc;have iD:=M.out.e1;go_upto_region 13 with fail;exact zIo
        exact zHp
       obtain rfl:q=k:=by omega
       have jB:Hid ((l.all (jf (!false)) && nO (l.map bW) none [])=((l.drop (q+1)).all (jf (!false)) && nO ((l.map bW).drop (q+1)) (nD (l.map bW) (q+1)) (((l.map bW).take (q+1)).map Prod.snd))):=by
        show _=_;rw [yY.out,MB.out,List.map_take,hnc,Xb.out,← Xc.out,List.map_take];simp
       clear hnc;have iU:=M.out.e0;exact zDk
     | false =>
      have Hm:jf (!false) m=false:=by unfold jf;rw [hcr,hhd,hbl];rfl
      have Hno:Hid (jL false l=false):=by show _=_;unfold jL;rw [yY.out,Hm];simp
      clear hbl Hm;exact zCc
  obtain rfl:k=l.length:=by omega
  rw [List.drop_eq_nil_of_le (Nat.le_refl _),List.drop_eq_nil_of_le (by simp),nO] at hid;have Hs:Hid (jL false l=(decide (l.length≤16) && (false || decide (1≤l.length)))):=by
   show _=_;unfold jL;rw [hid];rfl
  exact zFi
abbrev ajl (m:Mem) (vk vi vr:Value):Value:=.agg #[.int .i64 m.id,.string ⟨m.name.toArray⟩,.int .i64 m.ty,.bool m.akb,.bool m.eG,.int .i64 m.dflt.kind,.bool m.dflt.bool,.int .i64 m.dflt.num,.string ⟨m.dflt.str.toArray⟩,.int .i64 m.dflt.id,vk,vi,vr]
def xq (x y:Mem):Bool:=decide (x.id=y.id∧x.name=y.name∧x.ty=y.ty∧x.akb=y.akb∧x.eG=y.eG) && iK x.dflt y.dflt
theorem MG (x y:Mem):xq x y=true↔x=y:=by
 unfold xq;rw [Bool.and_eq_true,decide_eq_true_eq,vM];cases x;cases y;simp [and_assoc]
theorem zCi {p:Prop} (h:p:=by
 go_enter Tryz.func156,Tryz.ntmps156
 go_upto_region 1 with fail;refine jg (fun wd2 hb1 X Y => ?_);have hw3:=hb1;clear hb1;obtain ⟨aK,bJ,bY,bZ,dL,-,-,-,-,-,-,-,-⟩:=X.out.c13;obtain ⟨kT,kU,kV,kW,kX,-,-,-,-,-,-,-,-⟩:=Y.out.c13;go_wp2_with fail;go_ret;exact ⟨au ny.out.symm,hw3⟩):p:=h
theorem acQ (x y:Mem) (vk vi vr uk ui ur:Value) (w:World) (hx:ValAt w w.heap.size x.dflt vk vi vr) (hy:ValAt w w.heap.size y.dflt uk ui ur) :
  Calls Tryz.prog 156 #[ajl x vk vi vr,ajl y uk ui ur] w (RTq w (.bool (xq x y))):=by
 obtain ⟨D1,dx1,D2,dx2,D3,dx3,rfl,rfl,rfl,-,-,-⟩:=hx.forms;obtain ⟨E1,ex1,E2,ex2,E3,ex3,rfl,rfl,rfl,-,-,-⟩:=hy.forms;have HX:=hiQ hx;have HY:=hiQ hy;clear hx hy;by_cases e0:x.id=y.id
 ·
  have t0:(x.id == y.id)=true:=by simp [e0]
  by_cases e1:x.name=y.name
  ·
   have t1:(x.name == y.name)=true:=by simp [e1]
   by_cases e2:x.ty=y.ty
   ·
    have t2:(x.ty == y.ty)=true:=by simp [e2]
    by_cases e3:x.akb=y.akb
    ·
     have t3:(x.akb == y.akb)=true:=by simp [e3]
     by_cases e4:x.eG=y.eG
     ·
      have t4:(x.eG == y.eG)=true:=by simp [e4]
      have ny:Hid (xq x y=iK x.dflt y.dflt):=by show _=_;unfold xq;rw [decide_eq_true ⟨e0,e1,e2,e3,e4⟩];rfl
      clear e0 e1 e2 e3 e4;go_enter Tryz.func156,Tryz.ntmps156
      go_upto_region 1 with fail;refine jg (fun wd2 hb1 X Y => ?_);have hw3:=hb1;clear hb1;obtain ⟨aK,bJ,bY,bZ,dL,eX,bU,dD,dM,dU,akp,akq,akr⟩:=X.out.c13;obtain ⟨kT,kU,kV,kW,kX,mD,lJ,mF,wS,wU,aks,akt,aku⟩:=Y.out.c13;go_wp2_with fail;clear aK bJ bY bZ dL eX bU dD dM dU akp akq akr kT kU kV kW kX mD lJ mF wS wU aks akt aku;((with_reducible refine (BI (nodes x.dflt+1) x.dflt y.dflt _ _ _ _ _ _ _ (by omega) (HX.out.on hw3) (HY.out.on hw3)).mono ?_);rintro e wd4 ⟨rfl,hb5⟩);obtain ⟨X,Y⟩:=b2 X Y hb5;replace hw3:=dT hw3 hb5;clear hb5;exact zCs
     have t4:(x.eG == y.eG)=false:=by simpa using e4
     have ny:Hid (xq x y=false):=by show _=_;unfold xq;rw [decide_eq_false (fun h => e4 (by simp [h]))];rfl
     clear e0 e1 e2 e3 e4;exact zCi
    have t3:(x.akb == y.akb)=false:=by simpa using e3
    have ny:Hid (xq x y=false):=by show _=_;unfold xq;rw [decide_eq_false (fun h => e3 (by simp [h]))];rfl
    clear e0 e1 e2 e3;exact zCi
   have t2:(x.ty == y.ty)=false:=by simpa using e2
   have ny:Hid (xq x y=false):=by show _=_;unfold xq;rw [decide_eq_false (fun h => e2 (by simp [h]))];rfl
   clear e0 e1 e2;exact zCi
  have t1:(x.name == y.name)=false:=by simpa using e1
  have ny:Hid (xq x y=false):=by show _=_;unfold xq;rw [decide_eq_false (fun h => e1 (by simp [h]))];rfl
  clear e0 e1;exact zCi
 have t0:(x.id == y.id)=false:=by simpa using e0
 have ny:Hid (xq x y=false):=by show _=_;unfold xq;rw [decide_eq_false (fun h => e0 (by simp [h]))];rfl
 clear e0;exact zCi
instance aoI:DecidableEq Mem:=fun x y => decidable_of_iff (xq x y=true) (MG x y)
theorem ajm (x y:Raw) (w:World):(Op.equalIn 10000 105 (rU x) (rU y)).run Tryz.prog w = .ok (decide (x=y)) w:=by
 obtain ⟨x0,x3⟩:=x;obtain ⟨y0,y3⟩:=y;have u0:=Tryz.underlying3;have u2:=Tryz.underlying9;have hS:Tryz.prog.underlying 105=some (.struct (Tryz.prog.fieldsOf 105)):=by kernel_rfl
 have hp:Tryz.prog.stoodInHeld 105=false:=by kernel_rfl
 rw [show (10000:Nat)=9999+1 from rfl,rU,rU,run_equalIn_agg w 9999 105 _ _ hS hp];simp only [Program.fieldsOf,Tryz.underlying105];exact zGy
theorem ahf (x y:Raw):∀ W,(binOp .neq 105 (rU x) (rU y)).run Tryz.prog W = .ok (.bool (!decide (x=y))) W:=fun W => by
 rw [rU,rU,run_neq_struct,← rU,← rU,ajm];rfl
def oN (x y:ay):Bool:=decide (x.kind=y.kind∧x.name=y.name∧x.low=y.low∧x.high=y.high∧x.max=y.max∧x.key=y.key∧x.elem=y.elem∧x.opn=y.opn) && (decide (x.syms=y.syms) && decide (x.ah=y.ah))
theorem zBj {p:Prop} (h:p:=by
 go_upto_region 1 with fail;refine jg (fun wd2 hb1 X Y => ?_);have hw3:=hb1;clear hb1;obtain ⟨aK,bJ,bY,bZ,dL,eX,bU,dD,dM,dU⟩:=X.out.c10;obtain ⟨kT,kU,kV,kW,kX,mD,lJ,mF,wS,wU⟩:=Y.out.c10;go_wp2_with fail;go_ret;exact ⟨au Hno.out.symm,hw3⟩):p:=h
theorem zHs {p:Prop} (h:p:=by
 go_enter Tryz.func122,Tryz.ntmps122
 exact zBj):p:=h
theorem acR (x y:ay) (vs vm us um:Value) (w:World) (hx:jc w w.heap.size x vs vm) (hy:jc w w.heap.size y us um) :
  Calls Tryz.prog 122 #[dA x vs vm,dA y us um] w (RTq w (.bool (oN x y))):=by
 obtain ⟨A1,m1,A2,m2,rfl,rfl,-,-⟩:=hx.forms;obtain ⟨B1,k1,B2,k2,rfl,rfl,-,-⟩:=hy.forms;have HX:=hiQ hx;have HY:=hiQ hy;have hxl:=hx.lens;have hyl:=hy.lens;clear hx hy;by_cases e0:x.kind=y.kind
 ·
  skip
  by_cases e1:x.name=y.name
  ·
   skip
   by_cases e2:x.low=y.low
   ·
    skip
    by_cases e3:x.high=y.high
    ·
     skip
     by_cases e4:x.max=y.max
     ·
      skip
      by_cases e5:x.key=y.key
      ·
       skip
       by_cases e6:x.elem=y.elem
       ·
        skip
        by_cases e7:x.opn=y.opn
        ·
         skip
         have ny:Hid (oN x y=(decide (x.syms=y.syms) && decide (x.ah=y.ah))):=by show _=_;unfold oN;rw [decide_eq_true ⟨e0,e1,e2,e3,e4,e5,e6,e7⟩];rfl
         simp only [dA,← e0,← e1,← e2,← e3,← e4,← e5,← e6,← e7];clear e0 e1 e2 e3 e4 e5 e6 e7;by_cases ls:x.syms.length=y.syms.length
         ·
          have ts:((x.syms.length:Int) != (y.syms.length:Int))=false:=by simp [ls]
          have hsl2:(x.syms.length:Int)≤y.syms.length:=by omega
          have LS:=hiQ ls;clear ls;by_cases lm:x.ah.length=y.ah.length
          ·
           have tm:((x.ah.length:Int) != (y.ah.length:Int))=false:=by simp [lm]
           have ap7:(x.ah.length:Int)≤y.ah.length:=by omega
           have LM:=hiQ lm;clear lm;go_enter Tryz.func122,Tryz.ntmps122
           go_upto_region 1 with fail;refine jg (fun wd2 hb1 X Y => ?_);have hw3:=hb1;clear hb1;obtain ⟨aK,bJ,bY,bZ,dL,eX,bU,dD,dM,dU⟩:=X.out.c10;obtain ⟨kT,kU,kV,kW,kX,mD,lJ,mF,wS,wU⟩:=Y.out.c10;have HX0:=hiQ X.out;have Gz:=hiQ Y.out;have HB0:=hiQ hw3;go_wp2_with fail;clear X Y;go_loopw [5] (fun i wr => ∃ k:Nat,k≤x.syms.length∧i = .int .i64 k∧x.syms.take k=y.syms.take k∧Has wr w.heap.size 71 #[.int .i64 x.kind,.string ⟨x.name.toArray⟩,.int .i64 x.low,.int .i64 x.high,.int .i64 x.max,.slice A1 x.syms.length m1,.slice A2 x.ah.length m2,.int .i64 x.key,.int .i64 x.elem,.bool x.opn]∧Has wr (w.heap.size+1) 71 #[.int .i64 x.kind,.string ⟨x.name.toArray⟩,.int .i64 x.low,.int .i64 x.high,.int .i64 x.max,.slice B1 y.syms.length k1,.slice B2 y.ah.length k2,.int .i64 x.key,.int .i64 x.elem,.bool x.opn]∧Below w.heap.size w wr) (fun i _ => x.syms.length - (intOf i).toNat)
           case atStart => exact ⟨0,by omega,rfl,rfl,HX0.out,Gz.out,HB0.out⟩
           case round =>
            clear HX0 Gz HB0;obtain ⟨k,hk,rfl,hp,X,Y,hb⟩:=hrel;have Hp:=hiQ hp;have cx5:=X.cell 5;have cy5:=Y.cell 5;have cx6:=X.cell 6;have cy6:=Y.cell 6;simp only [qI] at cx5 cy5 cx6 cy6;have Dt:=hiQ X;have J4:=hiQ Y;clear hp X Y;by_cases hlt:k < x.syms.length
            ·
             obtain ⟨b,o,rfl,hbb,hcell⟩:=(HX.out.on hb).syms.at_ (by omega);have hlt':k < y.syms.length:=by have:=LS.out;omega
             obtain ⟨b',o',rfl,SE,hcell'⟩:=(HY.out.on hb).syms.at_ (by omega);obtain ⟨hc0,hc1⟩:=qy hcell k hlt;obtain ⟨hd0,hd1⟩:=qy hcell' k hlt';clear hcell hcell';have hi1:(k:Int) < x.syms.length:=by omega
             have hi2:(k:Int) < y.syms.length:=by omega
             have Hx:Hid (x.syms.take (k+1)=x.syms.take k ++ [x.syms[k]]):=List.take_succ_eq_append_getElem hlt;have Hy:Hid (y.syms.take (k+1)=y.syms.take k ++ [y.syms[k]]):=List.take_succ_eq_append_getElem hlt';have Hne:Hid (x.syms[k]≠y.syms[k]→oN x y=false):=fun h => by
              rw [ny.out,decide_eq_false (p:=x.syms=y.syms) (fun e => h (by simp [e]))];rfl
             generalize x.syms[k]=r at *;generalize y.syms[k]=s at *;have hq:=ahf r s;have hg:Tryz.prog.eqGuardType Tryz.prog.depth 105=false:=by kernel_rfl
             by_cases he:r=s
             ·
              rw [decide_eq_true he] at hq;have He:=hiQ he;clear he;simp only [rU,Bool.not_true] at hq;go_wp2_with fail;go_quiet (fail)
              go_wp2_with fail;go_roundw
              case rel => exact ⟨k+1,by omega,by go_num,by rw [Hx.out,Hy.out,Hp.out,He.out],Dt.out.drewN _,J4.out.drewN _,below_drewN hb _⟩
              case measure => simp [intOf];omega
             rw [decide_eq_false he] at hq;have He:=hiQ he;clear he;simp only [rU,Bool.not_false] at hq;go_wp2_with fail;go_quiet (fail)
             go_wp2_with fail;go_ret;exact ⟨au (Hne.out He.out).symm,below_drewN hb _⟩
            have e1:=Hp.out;rw [List.take_of_length_le (by omega),List.take_of_length_le (by have:=LS.out;omega)] at e1;have ajn:Hid (oN x y=decide (x.ah=y.ah)):=by show _=_;rw [ny.out,decide_eq_true e1,Bool.true_and]
            have HB1:=hiQ hb;clear e1 Hp ny hb;go_wp2_with fail;clear cx5 cy5 cx6 cy6;go_loopw [6] (fun i wr => ∃ k:Nat,k≤x.ah.length∧i = .int .i64 k∧x.ah.take k=y.ah.take k∧Has wr w.heap.size 71 #[.int .i64 x.kind,.string ⟨x.name.toArray⟩,.int .i64 x.low,.int .i64 x.high,.int .i64 x.max,.slice A1 x.syms.length m1,.slice A2 x.ah.length m2,.int .i64 x.key,.int .i64 x.elem,.bool x.opn]∧Has wr (w.heap.size+1) 71 #[.int .i64 x.kind,.string ⟨x.name.toArray⟩,.int .i64 x.low,.int .i64 x.high,.int .i64 x.max,.slice B1 y.syms.length k1,.slice B2 y.ah.length k2,.int .i64 x.key,.int .i64 x.elem,.bool x.opn]∧Below w.heap.size w wr) (fun i _ => x.ah.length - (intOf i).toNat)
            case atStart => exact ⟨0,by omega,rfl,rfl,Dt.out,J4.out,HB1.out⟩
            case round =>
             clear Dt J4 HB1;obtain ⟨k,hk,rfl,hp,X,Y,hb⟩:=hrel;have Hp:=hiQ hp;have cx6:=X.cell 6;have cy6:=Y.cell 6;simp only [qI] at cx6 cy6;have Dt:=hiQ X;have J4:=hiQ Y;clear hp X Y;by_cases hlt:k < x.ah.length
             ·
              obtain ⟨b,o,rfl,hbb,hel⟩:=(HX.out.on hb).ah.elem (by omega);have hlt':k < y.ah.length:=by have:=LM.out;omega
              obtain ⟨b',o',rfl,SE,KO⟩:=(HY.out.on hb).ah.elem (by omega);obtain ⟨vk,vi,vr,hcm,hma⟩:=hel k hlt;obtain ⟨uk,ui,ur,hdm,hmb⟩:=KO k hlt';have hi1:(k:Int) < x.ah.length:=by omega
              have hi2:(k:Int) < y.ah.length:=by omega
              have Hx:Hid (x.ah.take (k+1)=x.ah.take k ++ [x.ah[k]]):=List.take_succ_eq_append_getElem hlt;have Hy:Hid (y.ah.take (k+1)=y.ah.take k ++ [y.ah[k]]):=List.take_succ_eq_append_getElem hlt';have Hne:Hid (x.ah[k]≠y.ah[k]→oN x y=false):=fun h => by
               rw [ajn.out,decide_eq_false (fun e => h (by simp [e]))]
              generalize x.ah[k]=r at *;generalize y.ah[k]=s at *;have HR:=hiQ hma.dflt;have HS:=hiQ hmb.dflt;obtain ⟨V1,v1,V2,v2,V3,v3,rfl,rfl,rfl,-,-,-⟩:=hma.dflt.forms;obtain ⟨U1,u1,U2,u2,U3,u3,rfl,rfl,rfl,-,-,-⟩:=hmb.dflt.forms;obtain ⟨c0,c1,c2,c3,c4,c5,c6,c7,c8,c9,c10,c11,c12⟩:=hcm;obtain ⟨d0,d1,d2,d3,d4,d5,d6,d7,d8,d9,d10,d11,d12⟩:=hdm;clear hel KO hma hmb;go_wp2_with fail;go_still_tail 10,(by kernel_rfl)
              change wpList _ _ _ _ _ wr.drew
              have HRD:=hiQ (HR.out.on (w':=wr.drew) (Below.refl _ _).drew);have HSD:=hiQ (HS.out.on (w':=wr.drew) (Below.refl _ _).drew);have hbd:=hb.drew;have HXd:=hiQ Dt.out.drew;have HYd:=hiQ J4.out.drew;clear hb c0 c1 c2 c3 c4 c5 c6 c7 c8 c9 c10 c11 c12 d0 d1 d2 d3 d4 d5 d6 d7 d8 d9 d10 d11 d12 HR HS Dt J4 cx6 cy6;generalize wr.drew=w1 at *;go_wp2_with fail;refine (acQ r s _ _ _ _ _ _ _ HRD.out HSD.out).mono ?_;rintro e w2 ⟨rfl,hb2⟩;have Cm:=hbd.trans (hb2.mono hbd.size);have Ua:=hiQ (HXd.out.below hb2 HXd.out.here);have Oi:=hiQ (HYd.out.below hb2 HYd.out.here);clear hb2 hbd HXd HYd HRD HSD;cases hsm:xq r s with
              | true =>
               have He:=hiQ ((MG r s).1 hsm);clear hsm;go_wp2_with fail;go_roundw
               case rel => exact ⟨k+1,by omega,by go_num,by rw [Hx.out,Hy.out,Hp.out,He.out],Ua.out,Oi.out,Cm⟩
               case measure => simp [intOf];omega
              | false =>
               have Hn:=hiQ (Hne.out (fun e => by rw [(MG r s).2 e] at hsm;cases hsm));clear hsm;go_wp2_with fail;go_ret;exact ⟨au Hn.out.symm,Cm⟩
             have e2:=Hp.out;rw [List.take_of_length_le (by omega),List.take_of_length_le (by have:=LM.out;omega)] at e2;have ana:Hid (oN x y=true):=by show _=_;rw [ajn.out,decide_eq_true e2]
             clear e2 Hp;go_wp2_with fail;go_ret;exact ⟨au ana.out.symm,hb⟩
          have tm:((x.ah.length:Int) != (y.ah.length:Int))=true:=bne_iff_ne.2 (by omega);have Hno:Hid (oN x y=false):=by show _=_;rw [ny.out,decide_eq_false (p:=x.ah=y.ah) (fun h => lm (by rw [h])),Bool.and_false]
          exact zHs
         have ts:((x.syms.length:Int) != (y.syms.length:Int))=true:=bne_iff_ne.2 (by omega);have Hno:Hid (oN x y=false):=by show _=_;rw [ny.out,decide_eq_false (p:=x.syms=y.syms) (fun h => ls (by rw [h])),Bool.false_and]
         exact zHs
        have t7:(x.opn != y.opn)=true:=by simpa using e7
        have t7':(!(x.opn == y.opn))=true:=by simpa using e7
        have Hno:Hid (oN x y=false):=by show _=_;unfold oN;rw [decide_eq_false (fun h => e7 (by simp [h]))];rfl
        simp only [dA,← e0,← e1,← e2,← e3,← e4,← e5,← e6];clear e0 e1 e2 e3 e4 e5 e6;exact zHs
       have t6:(x.elem != y.elem)=true:=by simpa using e6
       have Hno:Hid (oN x y=false):=by show _=_;unfold oN;rw [decide_eq_false (fun h => e6 (by simp [h]))];rfl
       simp only [dA,← e0,← e1,← e2,← e3,← e4,← e5];clear e0 e1 e2 e3 e4 e5;exact zHs
      have t5:(x.key != y.key)=true:=by simpa using e5
      have Hno:Hid (oN x y=false):=by show _=_;unfold oN;rw [decide_eq_false (fun h => e5 (by simp [h]))];rfl
      simp only [dA,← e0,← e1,← e2,← e3,← e4];clear e0 e1 e2 e3 e4;exact zHs
     have t4:(x.max != y.max)=true:=by simpa using e4
     have Hno:Hid (oN x y=false):=by show _=_;unfold oN;rw [decide_eq_false (fun h => e4 (by simp [h]))];rfl
     simp only [dA,← e0,← e1,← e2,← e3];clear e0 e1 e2 e3;exact zHs
    have t3:(x.high != y.high)=true:=by simpa using e3
    have Hno:Hid (oN x y=false):=by show _=_;unfold oN;rw [decide_eq_false (fun h => e3 (by simp [h]))];rfl
    simp only [dA,← e0,← e1,← e2];clear e0 e1 e2;exact zHs
   have t2:(x.low != y.low)=true:=by simpa using e2
   have Hno:Hid (oN x y=false):=by show _=_;unfold oN;rw [decide_eq_false (fun h => e2 (by simp [h]))];rfl
   simp only [dA,← e0,← e1];clear e0 e1;exact zHs
  have t1:(x.name != y.name)=true:=by simpa using e1
  have t1':(!(x.name == y.name))=true:=by simpa using e1
  have Hno:Hid (oN x y=false):=by show _=_;unfold oN;rw [decide_eq_false (fun h => e1 (by simp [h]))];rfl
  simp only [dA,← e0];clear e0;exact zHs
 have t0:(x.kind != y.kind)=true:=by simpa using e0
 have Hno:Hid (oN x y=false):=by show _=_;unfold oN;rw [decide_eq_false (fun h => e0 (by simp [h]))];rfl
 exact zHs
def wG (x:ay):Bool :=
 if x.kind=2 then decide (x.low≤x.high)
 else if x.kind=3 then decide (0≤x.max) && decide (x.max≤200)
 else if x.kind=4 then wu x.syms
 else if x.kind=5 then jL true x.ah
 else if x.kind=6 then jL false x.ah
 else if x.kind=7∨x.kind=8 then decide (0≤x.max) && decide (x.max≤50)
 else true
def ownB (x:ay):Bool:=decide (1≤x.kind∧x.kind≤9) && (oN x (jM x) && ((!rY x.kind || nameB x.name) && wG x))
theorem aat (x:ay) (h:iP x.kind):oN x (jM x)=jy (gZ x) iC:=by
 rw [Bool.eq_iff_iff];unfold oN jy;rcases vF h with k | k | k | k | k | k | k | k | k <;>
  simp [jM,gZ,iC,k,List.length_eq_zero_iff] <;> (try constructor) <;> (try (intro hh;simp_all;done)) <;> (try (intro hh;grind))
theorem aeY (x:ay) (k:x.kind=5):jL true x.ah=iQ x:=by
 unfold jL iQ nP;rw [decide_eq_true k,decide_eq_false (show ¬ x.kind=6 by omega)];rw [Bool.eq_iff_iff];simp [and_assoc]
theorem aeZ (x:ay) (k:x.kind=6):jL false x.ah=iQ x:=by
 unfold jL iQ nP;rw [decide_eq_false (show ¬ x.kind=5 by omega),decide_eq_true k];rw [Bool.eq_iff_iff];simp [and_assoc];intro _
 constructor
 · rintro ⟨h1,h2,h3⟩;exact ⟨by omega,h1,h2⟩
 rintro ⟨h1,h2,h3⟩;exact ⟨h2,h3,by omega⟩
theorem X6 (x:ay):ownB x=dY x:=by
 unfold ownB dY;by_cases h:1≤x.kind∧x.kind≤9
 ·
  rw [decide_eq_true h,Bool.true_and,Bool.true_and,aat x h,Bool.and_comm]
  congr 1
  unfold wG rD rY;rcases vF h with k | k | k | k | k | k | k | k | k <;> simp [k]
  · rw [aeY x k]
  rw [aeZ x k]
 rw [decide_eq_false h];rfl
theorem X7 (w:World) (B:Nat):rW w B (.slice none 0 0) []:=⟨fun _ => [],⟨none,0,rfl,Nat.le_refl _,.inl rfl⟩,fun i h => by simp at h⟩
theorem akv:I64 0:=by simp [I64]
theorem X8 {w:World} {B:Nat} {x:ay} {vs vm:Value} (h:jc w B x vs vm) (hk:iP x.kind):jc w B (jM x) (lF x vs) (lG x vm):=by
 obtain ⟨⟨h1,h2,h3,h4,h5,h6⟩,hn,⟨hl1,hl2⟩,hsi,hs,hm⟩:=h;have n2:=Rd.nil_ w B 2;have nm:=X7 w B;have z:=akv;unfold jM lF lG;rcases vF hk with k | k | k | k | k | k | k | k | k <;> simp only [k] <;> rw [k] at h1 <;>
  exact ⟨⟨by first | assumption | exact h1,by first | exact h2 | exact z,by first | exact h3 | exact z,by first | exact h4 | exact z,by first | exact h5 | exact z,by first | exact h6 | exact z⟩,
   by first | exact hn | simp [iC],⟨by first | exact hl1 | simp [iC],by first | exact hl2 | simp [iC]⟩,by first | exact hsi | simp [iC],by first | exact hs | exact n2,by first | exact hm | exact nm⟩
theorem Rq (x:ay) (b:Bool) (h:ownB x=b):dY x=b:=by rw [← X6];exact h
theorem zAh {p:Prop} (h:p:=by exact ⟨T.out.cell 0,⟨T.out.cell 1,⟨T.out.cell 2,⟨T.out.cell 3,⟨T.out.cell 4,⟨T.out.cell 5,⟨T.out.cell 6,⟨T.out.cell 7,⟨T.out.cell 8,T.out.cell 9⟩⟩⟩⟩⟩⟩⟩⟩⟩):p:=h
theorem zCl {p:Prop} (h:p:=by
 refine tk 14 ?_;refine tk 15 ?_;refine tks 16 ?_;simp only [aF];refine tks 17 ?_;simp only [aF];refine tks 18 ?_;simp only [aF];refine tks 19 ?_;simp only [aF];refine tks 20 ?_;simp only [aF];refine tks 21 ?_;simp only [aF];refine tks 22 ?_;simp only [aF];refine tks 23 ?_;simp only [aF];refine tks 24 ?_;simp only [aF];refine tk 25 ?_;refine wpAnyH_done (by kernel_rfl) ?_ _;(try clear hHeld);go_wp2_with fail;go_ret;exact ⟨au Ho.out.symm,hw3⟩):p:=h
theorem zCp {p:Prop} (h:p:=by
 go_wp2_with fail;go_ret;exact ⟨au (EG.out.trans vO.out).symm,hw3⟩):p:=h
theorem zJo {p:Prop} (h:p:=by
 rw [d0,d1] at vO;have aC:=T.out.e0;have aW:=T.out.e4;exact zCp):p:=h
theorem zHe {p:Prop} (h:p:=by
 have vO:Hid (wG x=(decide (0≤x.max) && decide (x.max≤50))):=by show _=_;unfold wG;simp [h]
 by_cases h0:0≤x.max
 ·
  have d0:decide (0≤x.max)=true:=decide_eq_true h0;by_cases h1:x.max≤50
  ·
   have d1:decide (x.max≤50)=true:=decide_eq_true h1;exact zJo
  have d1:decide (x.max≤50)=false:=decide_eq_false h1;exact zJo
 have d0:decide (0≤x.max)=false:=decide_eq_false h0;rw [d0] at vO;have aC:=T.out.e0;have aW:=T.out.e4;exact zCp):p:=h
theorem zJd {p:Prop} (h:p:=by
 replace T:=b1 T o7;replace hw3:=dT hw3 o7;clear o7;exact zCp):p:=h
theorem ae0 (x:ay) (A1 A2:Option Addr) (c1 c2:Nat) (w:World) (MH:iP x.kind) (ht:jc w w.heap.size x (.slice A1 x.syms.length c1) (.slice A2 x.ah.length c2)) :
  Calls Tryz.prog 111 #[dA x (.slice A1 x.syms.length c1) (.slice A2 x.ah.length c2)] w (RTq w (.bool (dY x))):=by
 have HP:=hiQ fun W => acP x (.slice A1 x.syms.length c1) (.slice A2 x.ah.length c2) W MH ⟨_,_,rfl⟩ ⟨_,_,rfl⟩;have hs:=fun W hW => acR x (jM x) _ _ _ _ W (ht.on (w':=W) hW) (X8 (ht.on (w':=W) hW) MH);have hn:=fun W => JF x.kind W;have HNM:=hiQ fun W => D5 x.name W;have hob:ownB x=(oN x (jM x) && ((!rY x.kind || nameB x.name) && wG x)):=by unfold ownB;rw [decide_eq_true (by unfold iP at MH;exact MH)];rfl
 have d1:decide (x.kind < 1)=false:=decide_eq_false (by unfold iP at MH;omega);have d9:decide (9 < x.kind)=false:=decide_eq_false (by unfold iP at MH;omega);have HT:=hiQ ht;have HKI:=hiQ (vF MH);clear ht MH;obtain ⟨nk,hnk⟩ : ∃ nk,rY x.kind=nk:=⟨_,rfl⟩
 simp only [hnk] at hn hob;generalize oN x (jM x)=st at *;have HS:=hiQ hs;have HN:=hiQ hn;have II:=hiQ hnk;clear hs hn hnk;cases st with
 | false =>
  have Ho:Hid (dY x=false):=by show _=_;exact Rq x _ (by rw [hob];rfl)
  clear hob;go_enter Tryz.func111,Tryz.ntmps111
  go_upto_region 1 with fail;refine aO (fun wd2 hb1 T => ?_);have hw3:=hb1;clear hb1;obtain ⟨aC,bH,bQ,acX,aW,bP,bf,bF,aV,aJ⟩:=T.out.c10;refine wp_region_held_drew (S:=(fun w' => w'.cell? ⟨w.heap.size,0,none⟩=some (.int .i64 x.kind)∧w'.cell? ⟨w.heap.size,1,none⟩=some (.string ⟨x.name.toArray⟩)∧w'.cell? ⟨w.heap.size,2,none⟩=some (.int .i64 x.low)∧w'.cell? ⟨w.heap.size,3,none⟩=some (.int .i64 x.high)∧w'.cell? ⟨w.heap.size,4,none⟩=some (.int .i64 x.max)∧w'.cell? ⟨w.heap.size,5,none⟩=some (.slice A1 x.syms.length c1)∧w'.cell? ⟨w.heap.size,6,none⟩=some (.slice A2 x.ah.length c2)∧w'.cell? ⟨w.heap.size,7,none⟩=some (.int .i64 x.key)∧w'.cell? ⟨w.heap.size,8,none⟩=some (.int .i64 x.elem)∧w'.cell? ⟨w.heap.size,9,none⟩=some (.bool x.opn))) (by kernel_rfl) ⟨aC,bH,bQ,acX,aW,bP,bf,bF,aV,aJ⟩ (fun hHeld => ?_);clear aC bH bQ acX aW bP bf bF aV aJ;have hb4:Below wd2.heap.size wd2 (wd2.drew):=(Below.refl _ _).drew;replace T:=b1 T hb4;replace hw3:=dT hw3 hb4;clear hb4;generalize wd2.drew=fG at *;refine tk 0 ?_;refine tk 1 ?_;refine tk 2 ?_;refine tk 3 ?_;refine tk 4 ?_;refine tk 5 ?_;refine tk 6 ?_;refine tk 7 ?_;refine tk 8 ?_;refine tk 9 ?_;refine tk 10 ?_;refine iE 11 fun K hK => ?_;go_simp;((with_reducible refine (HP.out _).mono ?_);rintro e wL ⟨rfl,hb7⟩);replace T:=b1 T hb7;replace hw3:=dT hw3 hb7;clear hb7;(try clear hHeld);refine hK.out _ _ zAh (fun hHeld => ?_);clear hK K;refine iE 12 fun K hK => ?_;go_simp;((with_reducible refine (HS.out _ hw3).mono ?_);rintro e qP ⟨rfl,zU⟩);replace T:=b1 T zU
  replace hw3:=dT hw3 zU;clear zU;(try clear hHeld);refine hK.out _ _ zAh (fun hHeld => ?_);clear hK K;refine tk 13 ?_;exact zCl
 | true =>
  rw [Bool.true_and] at hob;cases nk with
  | false =>
   have EG:Hid (dY x=wG x):=by show _=_;exact Rq x _ (by rw [hob];rfl)
   clear hob;go_enter Tryz.func111,Tryz.ntmps111
   go_upto_region 1 with fail;refine aO (fun wd2 hb1 T => ?_);have hw3:=hb1;clear hb1;obtain ⟨aC,bH,bQ,acX,aW,bP,bf,bF,aV,aJ⟩:=T.out.c10;refine wp_region_held_drew (S:=(fun w' => w'.cell? ⟨w.heap.size,0,none⟩=some (.int .i64 x.kind)∧w'.cell? ⟨w.heap.size,1,none⟩=some (.string ⟨x.name.toArray⟩)∧w'.cell? ⟨w.heap.size,2,none⟩=some (.int .i64 x.low)∧w'.cell? ⟨w.heap.size,3,none⟩=some (.int .i64 x.high)∧w'.cell? ⟨w.heap.size,4,none⟩=some (.int .i64 x.max)∧w'.cell? ⟨w.heap.size,5,none⟩=some (.slice A1 x.syms.length c1)∧w'.cell? ⟨w.heap.size,6,none⟩=some (.slice A2 x.ah.length c2)∧w'.cell? ⟨w.heap.size,7,none⟩=some (.int .i64 x.key)∧w'.cell? ⟨w.heap.size,8,none⟩=some (.int .i64 x.elem)∧w'.cell? ⟨w.heap.size,9,none⟩=some (.bool x.opn))) (by kernel_rfl) ⟨aC,bH,bQ,acX,aW,bP,bf,bF,aV,aJ⟩ (fun hHeld => ?_);clear aC bH bQ acX aW bP bf bF aV aJ;have hb4:Below wd2.heap.size wd2 (wd2.drew):=(Below.refl _ _).drew;replace T:=b1 T hb4;replace hw3:=dT hw3 hb4;clear hb4;generalize wd2.drew=fG at *;refine tk 0 ?_;refine tk 1 ?_;refine tk 2 ?_;refine tk 3 ?_;refine tk 4 ?_;refine tk 5 ?_;refine tk 6 ?_;refine tk 7 ?_;refine tk 8 ?_;refine tk 9 ?_;refine tk 10 ?_;refine iE 11 fun K hK => ?_;go_simp;((with_reducible refine (HP.out _).mono ?_);rintro e wL ⟨rfl,hb7⟩);replace T:=b1 T hb7;replace hw3:=dT hw3 hb7;clear hb7;(try clear hHeld);refine hK.out _ _ zAh (fun hHeld => ?_);clear hK K;refine iE 12 fun K hK => ?_;go_simp;((with_reducible refine (HS.out _ hw3).mono ?_);rintro e qP ⟨rfl,zU⟩);replace T:=b1 T zU
   replace hw3:=dT hw3 zU;clear zU;(try clear hHeld);refine hK.out _ _ zAh (fun hHeld => ?_);clear hK K;refine tk 13 ?_;refine tk 14 ?_;refine tk 15 ?_;refine tk 16 ?_;refine tk 17 ?_;refine iE 18 fun K hK => ?_;go_simp;((with_reducible refine (HN.out _).mono ?_);rintro e kL ⟨rfl,rfl⟩);(try clear hHeld);refine hK.out _ _ zAh (fun hHeld => ?_);clear hK K;refine tk 19 ?_;refine tks 20 ?_;simp only [aF];refine tks 21 ?_;simp only [aF];refine tks 22 ?_;simp only [aF];refine tks 23 ?_;simp only [aF];refine tk 24 ?_;refine tk 25 ?_;refine wpAnyH_done (by kernel_rfl) ?_ _;(try clear hHeld);have hkc:=HKI.out;rcases hkc with h | h | h | h | h | h | h | h | h
   ·
    have vO:Hid (wG x=true):=by show _=_;unfold wG;simp [h]
    have aC:=T.out.e0;exact zCp
   ·
    have vO:Hid (wG x=decide (x.low≤x.high)):=by show _=_;unfold wG;simp [h]
    obtain ⟨aC,-,bQ,acX,-,-,-,-,-,-⟩:=T.out.c10;exact zCp
   ·
    skip
    have vO:Hid (wG x=(decide (0≤x.max) && decide (x.max≤200))):=by show _=_;unfold wG;simp [h]
    by_cases h0:0≤x.max
    ·
     have d0:decide (0≤x.max)=true:=decide_eq_true h0;by_cases h1:x.max≤200
     ·
      have d1:decide (x.max≤200)=true:=decide_eq_true h1;exact zJo
     have d1:decide (x.max≤200)=false:=decide_eq_false h1;exact zJo
    have d0:decide (0≤x.max)=false:=decide_eq_false h0;rw [d0] at vO;have aC:=T.out.e0;have aW:=T.out.e4;exact zCp
   · have:=II.out;simp [rY,h] at this
   · have:=II.out;simp [rY,h] at this
   · have:=II.out;simp [rY,h] at this
   ·
    skip
    exact zHe
   ·
    skip
    exact zHe
   have vO:Hid (wG x=true):=by show _=_;unfold wG;simp [h]
   have aC:=T.out.e0;exact zCp
  | true =>
   obtain ⟨nb,hnb⟩ : ∃ nb,nameB x.name=nb:=⟨_,rfl⟩
   rw [hnb] at hob HNM;clear hnb;cases nb with
   | false =>
    have Ho:Hid (dY x=false):=by show _=_;exact Rq x _ (by rw [hob];rfl)
    clear hob;go_enter Tryz.func111,Tryz.ntmps111
    go_upto_region 1 with fail;refine aO (fun wd2 hb1 T => ?_);have hw3:=hb1;clear hb1;obtain ⟨aC,bH,bQ,acX,aW,bP,bf,bF,aV,aJ⟩:=T.out.c10;refine wp_region_held_drew (S:=(fun w' => w'.cell? ⟨w.heap.size,0,none⟩=some (.int .i64 x.kind)∧w'.cell? ⟨w.heap.size,1,none⟩=some (.string ⟨x.name.toArray⟩)∧w'.cell? ⟨w.heap.size,2,none⟩=some (.int .i64 x.low)∧w'.cell? ⟨w.heap.size,3,none⟩=some (.int .i64 x.high)∧w'.cell? ⟨w.heap.size,4,none⟩=some (.int .i64 x.max)∧w'.cell? ⟨w.heap.size,5,none⟩=some (.slice A1 x.syms.length c1)∧w'.cell? ⟨w.heap.size,6,none⟩=some (.slice A2 x.ah.length c2)∧w'.cell? ⟨w.heap.size,7,none⟩=some (.int .i64 x.key)∧w'.cell? ⟨w.heap.size,8,none⟩=some (.int .i64 x.elem)∧w'.cell? ⟨w.heap.size,9,none⟩=some (.bool x.opn))) (by kernel_rfl) ⟨aC,bH,bQ,acX,aW,bP,bf,bF,aV,aJ⟩ (fun hHeld => ?_);clear aC bH bQ acX aW bP bf bF aV aJ;have hb4:Below wd2.heap.size wd2 (wd2.drew):=(Below.refl _ _).drew;replace T:=b1 T hb4;replace hw3:=dT hw3 hb4;clear hb4;generalize wd2.drew=fG at *;refine tk 0 ?_;refine tk 1 ?_;refine tk 2 ?_;refine tk 3 ?_;refine tk 4 ?_;refine tk 5 ?_;refine tk 6 ?_;refine tk 7 ?_;refine tk 8 ?_;refine tk 9 ?_;refine tk 10 ?_;refine iE 11 fun K hK => ?_;go_simp;((with_reducible refine (HP.out _).mono ?_);rintro e wL ⟨rfl,hb7⟩);replace T:=b1 T hb7;replace hw3:=dT hw3 hb7;clear hb7;(try clear hHeld);refine hK.out _ _ zAh (fun hHeld => ?_);clear hK K;refine iE 12 fun K hK => ?_;go_simp;((with_reducible refine (HS.out _ hw3).mono ?_);rintro e qP ⟨rfl,zU⟩);replace T:=b1 T zU
    replace hw3:=dT hw3 zU;clear zU;(try clear hHeld);refine hK.out _ _ zAh (fun hHeld => ?_);clear hK K;refine tk 13 ?_;refine tk 14 ?_;refine tk 15 ?_;refine tk 16 ?_;refine tk 17 ?_;refine iE 18 fun K hK => ?_;go_simp;((with_reducible refine (HN.out _).mono ?_);rintro e kL ⟨rfl,rfl⟩);(try clear hHeld);refine hK.out _ _ zAh (fun hHeld => ?_);clear hK K;refine tk 19 ?_;refine tk 20 ?_;refine tk 21 ?_;refine iE 22 fun K hK => ?_;go_simp;((with_reducible refine (HNM.out _).mono ?_);rintro e lZ ⟨rfl,rfl⟩);(try clear hHeld);refine hK.out _ _ zAh (fun hHeld => ?_);clear hK K;refine tk 23 ?_;refine tk 24 ?_;refine tk 25 ?_;refine wpAnyH_done (by kernel_rfl) ?_ _;(try clear hHeld);go_wp2_with fail;go_ret;exact ⟨au Ho.out.symm,hw3⟩
   | true =>
    have EG:Hid (dY x=wG x):=by show _=_;exact Rq x _ (by rw [hob];rfl)
    clear hob;go_enter Tryz.func111,Tryz.ntmps111
    go_upto_region 1 with fail;refine aO (fun wd2 hb1 T => ?_);have hw3:=hb1;clear hb1;obtain ⟨aC,bH,bQ,acX,aW,bP,bf,bF,aV,aJ⟩:=T.out.c10;refine wp_region_held_drew (S:=(fun w' => w'.cell? ⟨w.heap.size,0,none⟩=some (.int .i64 x.kind)∧w'.cell? ⟨w.heap.size,1,none⟩=some (.string ⟨x.name.toArray⟩)∧w'.cell? ⟨w.heap.size,2,none⟩=some (.int .i64 x.low)∧w'.cell? ⟨w.heap.size,3,none⟩=some (.int .i64 x.high)∧w'.cell? ⟨w.heap.size,4,none⟩=some (.int .i64 x.max)∧w'.cell? ⟨w.heap.size,5,none⟩=some (.slice A1 x.syms.length c1)∧w'.cell? ⟨w.heap.size,6,none⟩=some (.slice A2 x.ah.length c2)∧w'.cell? ⟨w.heap.size,7,none⟩=some (.int .i64 x.key)∧w'.cell? ⟨w.heap.size,8,none⟩=some (.int .i64 x.elem)∧w'.cell? ⟨w.heap.size,9,none⟩=some (.bool x.opn))) (by kernel_rfl) ⟨aC,bH,bQ,acX,aW,bP,bf,bF,aV,aJ⟩ (fun hHeld => ?_);clear aC bH bQ acX aW bP bf bF aV aJ;have hb4:Below wd2.heap.size wd2 (wd2.drew):=(Below.refl _ _).drew;replace T:=b1 T hb4;replace hw3:=dT hw3 hb4;clear hb4;generalize wd2.drew=fG at *;refine tk 0 ?_;refine tk 1 ?_;refine tk 2 ?_;refine tk 3 ?_;refine tk 4 ?_;refine tk 5 ?_;refine tk 6 ?_;refine tk 7 ?_;refine tk 8 ?_;refine tk 9 ?_;refine tk 10 ?_;refine iE 11 fun K hK => ?_;go_simp;((with_reducible refine (HP.out _).mono ?_);rintro e wL ⟨rfl,hb7⟩);replace T:=b1 T hb7;replace hw3:=dT hw3 hb7;clear hb7;(try clear hHeld);refine hK.out _ _ zAh (fun hHeld => ?_);clear hK K;refine iE 12 fun K hK => ?_;go_simp;((with_reducible refine (HS.out _ hw3).mono ?_);rintro e qP ⟨rfl,zU⟩);replace T:=b1 T zU
    replace hw3:=dT hw3 zU;clear zU;(try clear hHeld);refine hK.out _ _ zAh (fun hHeld => ?_);clear hK K;refine tk 13 ?_;refine tk 14 ?_;refine tk 15 ?_;refine tk 16 ?_;refine tk 17 ?_;refine iE 18 fun K hK => ?_;go_simp;((with_reducible refine (HN.out _).mono ?_);rintro e kL ⟨rfl,rfl⟩);(try clear hHeld);refine hK.out _ _ zAh (fun hHeld => ?_);clear hK K;refine tk 19 ?_;refine tk 20 ?_;refine tk 21 ?_;refine iE 22 fun K hK => ?_;go_simp;((with_reducible refine (HNM.out _).mono ?_);rintro e lZ ⟨rfl,rfl⟩);(try clear hHeld);refine hK.out _ _ zAh (fun hHeld => ?_);clear hK K;refine tk 23 ?_;refine tk 24 ?_;refine tk 25 ?_;refine wpAnyH_done (by kernel_rfl) ?_ _;(try clear hHeld);have hkc:=HKI.out;rcases hkc with h | h | h | h | h | h | h | h | h
    · have:=II.out;simp [rY,h] at this
    · have:=II.out;simp [rY,h] at this
    · have:=II.out;simp [rY,h] at this
    ·
     have vO:Hid (wG x=wu x.syms):=by show _=_;unfold wG;simp [h]
     have aC:=T.out.e0;have bP:=T.out.e5;go_wp2_with fail;clear aC bP;((with_reducible refine (Xa x.syms _ _ HT.out.lens.1 ((HT.out.syms.below hw3).mono (hw3).size)).mono ?_);rintro e oZ ⟨rfl,o7⟩);exact zJd
    ·
     have vO:Hid (wG x=jL true x.ah):=by show _=_;unfold wG;simp [h]
     have aC:=T.out.e0;have bf:=T.out.e6;go_wp2_with fail;clear aC bf;((with_reducible refine (PX x.ah _ _ HT.out.lens.2 (HT.out.ah.on hw3)).mono ?_);rintro e oZ ⟨rfl,o7⟩);exact zJd
    ·
     have vO:Hid (wG x=jL false x.ah):=by show _=_;unfold wG;simp [h]
     have aC:=T.out.e0;have bf:=T.out.e6;go_wp2_with fail;clear aC bf;((with_reducible refine (NZ x.ah _ _ HT.out.lens.2 (HT.out.ah.on hw3)).mono ?_);rintro e oZ ⟨rfl,o7⟩);exact zJd
    · have:=II.out;simp [rY,h] at this
    · have:=II.out;simp [rY,h] at this
    have:=II.out;simp [rY,h] at this
theorem zId {p:Prop} (h:p:=by
 refine tk 7 ?_;refine tk 8 ?_;refine tks 9 ?_;simp only [aF];refine tks 10 ?_;simp only [aF];refine tks 11 ?_;simp only [aF];refine tks 12 ?_;simp only [aF];refine tks 13 ?_;simp only [aF];exact zCl):p:=h
theorem ae1 (x:ay) (A1 A2:Option Addr) (c1 c2:Nat) (w:World) (h:¬ iP x.kind) :
  Calls Tryz.prog 111 #[dA x (.slice A1 x.syms.length c1) (.slice A2 x.ah.length c2)] w (RTq w (.bool (dY x))):=by
 have Ho:Hid (dY x=false):=by show _=_;unfold dY;rw [decide_eq_false (by unfold iP at h;exact h)];rfl
 by_cases h1:x.kind < 1
 ·
  have d1:decide (x.kind < 1)=true:=decide_eq_true h1;clear h h1;go_enter Tryz.func111,Tryz.ntmps111
  go_upto_region 1 with fail;refine aO (fun wd2 hb1 T => ?_);have hw3:=hb1;clear hb1;obtain ⟨aC,bH,bQ,acX,aW,bP,bf,bF,aV,aJ⟩:=T.out.c10;refine wp_region_held_drew (S:=(fun w' => w'.cell? ⟨w.heap.size,0,none⟩=some (.int .i64 x.kind)∧w'.cell? ⟨w.heap.size,1,none⟩=some (.string ⟨x.name.toArray⟩)∧w'.cell? ⟨w.heap.size,2,none⟩=some (.int .i64 x.low)∧w'.cell? ⟨w.heap.size,3,none⟩=some (.int .i64 x.high)∧w'.cell? ⟨w.heap.size,4,none⟩=some (.int .i64 x.max)∧w'.cell? ⟨w.heap.size,5,none⟩=some (.slice A1 x.syms.length c1)∧w'.cell? ⟨w.heap.size,6,none⟩=some (.slice A2 x.ah.length c2)∧w'.cell? ⟨w.heap.size,7,none⟩=some (.int .i64 x.key)∧w'.cell? ⟨w.heap.size,8,none⟩=some (.int .i64 x.elem)∧w'.cell? ⟨w.heap.size,9,none⟩=some (.bool x.opn))) (by kernel_rfl) ⟨aC,bH,bQ,acX,aW,bP,bf,bF,aV,aJ⟩ (fun hHeld => ?_);clear aC bH bQ acX aW bP bf bF aV aJ;have hb4:Below wd2.heap.size wd2 (wd2.drew):=(Below.refl _ _).drew;replace T:=b1 T hb4;replace hw3:=dT hw3 hb4;clear hb4;generalize wd2.drew=fG at *;refine tk 0 ?_;refine tk 1 ?_;refine tk 2 ?_;refine tk 3 ?_;refine tks 4 ?_;simp only [aF];refine tks 5 ?_;simp only [aF];refine tks 6 ?_;simp only [aF];exact zId
 have d1:decide (x.kind < 1)=false:=decide_eq_false h1;have d9:decide (9 < x.kind)=true:=decide_eq_true (by unfold iP at h;omega);clear h h1;go_enter Tryz.func111,Tryz.ntmps111
 go_upto_region 1 with fail;refine aO (fun wd2 hb1 T => ?_);have hw3:=hb1;clear hb1;obtain ⟨aC,bH,bQ,acX,aW,bP,bf,bF,aV,aJ⟩:=T.out.c10;refine wp_region_held_drew (S:=(fun w' => w'.cell? ⟨w.heap.size,0,none⟩=some (.int .i64 x.kind)∧w'.cell? ⟨w.heap.size,1,none⟩=some (.string ⟨x.name.toArray⟩)∧w'.cell? ⟨w.heap.size,2,none⟩=some (.int .i64 x.low)∧w'.cell? ⟨w.heap.size,3,none⟩=some (.int .i64 x.high)∧w'.cell? ⟨w.heap.size,4,none⟩=some (.int .i64 x.max)∧w'.cell? ⟨w.heap.size,5,none⟩=some (.slice A1 x.syms.length c1)∧w'.cell? ⟨w.heap.size,6,none⟩=some (.slice A2 x.ah.length c2)∧w'.cell? ⟨w.heap.size,7,none⟩=some (.int .i64 x.key)∧w'.cell? ⟨w.heap.size,8,none⟩=some (.int .i64 x.elem)∧w'.cell? ⟨w.heap.size,9,none⟩=some (.bool x.opn))) (by kernel_rfl) ⟨aC,bH,bQ,acX,aW,bP,bf,bF,aV,aJ⟩ (fun hHeld => ?_);clear aC bH bQ acX aW bP bf bF aV aJ;have hb4:Below wd2.heap.size wd2 (wd2.drew):=(Below.refl _ _).drew;replace T:=b1 T hb4;replace hw3:=dT hw3 hb4;clear hb4;generalize wd2.drew=fG at *;refine tk 0 ?_;refine tk 1 ?_;refine tk 2 ?_;refine tk 3 ?_;refine tk 4 ?_;refine tk 5 ?_;refine tk 6 ?_;exact zId
theorem ahg (x:ay) (vs vm:Value) (w:World) (ht:jc w w.heap.size x vs vm) :
  Calls Tryz.prog 111 #[dA x vs vm] w (RTq w (.bool (dY x))):=by
 obtain ⟨A1,c1,A2,c2,rfl,rfl,-,-⟩:=ht.forms;by_cases hk:iP x.kind
 · exact ae0 x A1 A2 c1 c2 w hk ht
 exact ae1 x A1 A2 c1 c2 w hk
theorem zHq {p:Prop} (h:p:=by
 clear Ur;have aC:=T.out.e0;have aV:=T.out.e8;have hbase:w.heap.size+1≤wr.heap.size:=T.out.here;go_upto_region 10 with (at_builtin;refine fA rfl _ _ _ rfl (w.heap.size+1) 3 _ 1 8 Tryz.underlying39 oP rfl (by decide) _ (x.ah.length) _ rfl O.out.now [.int .i64 x.elem] _ 1 _ rfl rfl rfl (by simp [Value.oneCell']) (by omega) (by omega) hbase ?_;intro g cap w3 hown3 hg3 hgat hb3)
 exact zCa):p:=h
theorem Uo (x:ay) (vs vm:Value) (w:World) (hk:iP x.kind) (hl:x.ah.length≤6000000000000) (ht:jc w w.heap.size x vs vm) :
  Calls Tryz.prog 112 #[dA x vs vm] w (V9 (lg x) w):=by
 obtain ⟨C1,m1,C2,m2,rfl,rfl,-,-⟩:=ht.forms;have HT:=hiQ ht;have hk0:=hk;clear ht hk;go_enter Tryz.func112,Tryz.ntmps112
 go_upto_region 1 with fail;refine aO (fun wd2 hb1 T => ?_);have hw3:=hb1;clear hb1;generalize dA x (.slice C1 x.syms.length m1) (.slice C2 x.ah.length m2)=s0;have bf:=T.out.e6;have HT0:=hiQ T.out;have hB0:=hw3;go_wp2_with fail;go_loopw [3,4] (fun s3 i wr => ∃ k:Nat,k≤x.ah.length∧i = .int .i64 k∧wr.ownsRow (w.heap.size+1) 3 1 s3 k ((x.ah.take k).map FK)∧Has wr w.heap.size 71 #[.int .i64 x.kind,.string ⟨x.name.toArray⟩,.int .i64 x.low,.int .i64 x.high,.int .i64 x.max,.slice C1 x.syms.length m1,.slice C2 x.ah.length m2,.int .i64 x.key,.int .i64 x.elem,.bool x.opn]∧Below w.heap.size w wr) (fun _ i _ => x.ah.length - (intOf i).toNat)
 case atStart => exact ⟨0,by omega,rfl,World.ownsRow_nil _ _ _ _,HT0.out,hB0⟩
 case round =>
  clear T hB0 HT0;obtain ⟨k,hk,rfl,hown,T,hb⟩:=hrel;obtain ⟨A0,c0,rfl⟩:=jF hown;replace T:=hiQ T;have O:=hiQ (Kept.own hown);clear hown;by_cases hlt:k < x.ah.length
  ·
   obtain ⟨b,o,hC2,hb1,hel⟩:=HT.out.ah.elem (by omega);obtain ⟨dk,di,dr,hcells,hma⟩:=hel k hlt;have wO:Hid ((x.ah.take (k+1)).map FK=(x.ah.take k).map FK ++ [.int .i64 x.ah[k].ty]):=Bj FK x.ah k hlt;generalize x.ah[k]=m at *;obtain ⟨D1,d1,D2,d2,D3,d3,rfl,rfl,rfl,-,-,-⟩:=hma.dflt.forms;obtain ⟨y0,y1,y2,y3,y4,y5,y6,y7,y8,y9,GN,GR,GU⟩:=hcells;have x0:=(hb.cell (p:=⟨b,_,none⟩) hb1).trans y0;have x1:=(hb.cell (p:=⟨b,_,none⟩) hb1).trans y1;have x2:=(hb.cell (p:=⟨b,_,none⟩) hb1).trans y2;have x3:=(hb.cell (p:=⟨b,_,none⟩) hb1).trans y3;have x4:=(hb.cell (p:=⟨b,_,none⟩) hb1).trans y4;have x5:=(hb.cell (p:=⟨b,_,none⟩) hb1).trans y5;have x6:=(hb.cell (p:=⟨b,_,none⟩) hb1).trans y6;have x7:=(hb.cell (p:=⟨b,_,none⟩) hb1).trans y7;have x8:=(hb.cell (p:=⟨b,_,none⟩) hb1).trans y8;have x9:=(hb.cell (p:=⟨b,_,none⟩) hb1).trans y9;have x10:=(hb.cell (p:=⟨b,_,none⟩) hb1).trans GN;have x11:=(hb.cell (p:=⟨b,_,none⟩) hb1).trans GR;have x12:=(hb.cell (p:=⟨b,_,none⟩) hb1).trans GU;clear y0 y1 y2 y3 y4 y5 y6 y7 y8 y9 GN GR GU;have hi1:(k:Int) < x.ah.length:=by omega
   clear hel hma x0 x1 x3 x4 x5 x6 x7 x8 x9 x10 x11 x12;have bf:=T.out.e6;go_upto_region 5 with fail;have hbase:w.heap.size+1≤wr.heap.size:=T.out.here;go_upto_region 4 with (at_builtin;refine fA rfl _ _ _ rfl (w.heap.size+1) 3 _ 1 8 Tryz.underlying39 oP rfl (by decide) _ (k) _ rfl O.out.now [.int .i64 m.ty] _ 1 _ rfl rfl rfl (by simp [Value.oneCell']) (by omega) (by omega) hbase ?_;intro g cap w3 hown3 hg3 hgat hb3)
   clear hg3 hgat hbase bf O;replace T:=hiQ (T.out.below hb3 (show w.heap.size < w.heap.size+1 by omega));replace hb:=hb.trans (hb3.mono (show w.heap.size≤w.heap.size+1 by omega));have O:=hiQ (Kept.own hown3);clear hown3 hC2 x2;exact zDp
  obtain rfl:k=x.ah.length:=by omega
  rw [List.take_of_length_le (Nat.le_refl _)] at O;have bf:=T.out.e6;go_upto_region 6 with fail;clear bf;by_cases h8:x.kind=8
  ·
   have t8:(x.kind == 8)=true:=by simp [h8]
   have t7:(7:Int)≤x.kind:=by omega
   have u7:(x.kind == 7)=false:=beq_eq_false_iff_ne.2 (by omega);have CG:Hid (lg x=x.ah.map Mem.ty ++ [x.key,x.elem]):=by show _=_;unfold lg;rw [if_pos h8,if_pos t7];rfl
   clear h8;have aC:=T.out.e0;have bF:=T.out.e7;have hbase:w.heap.size+1≤wr.heap.size:=T.out.here;go_upto_region 8 with (at_builtin;refine fA rfl _ _ _ rfl (w.heap.size+1) 3 _ 1 8 Tryz.underlying39 oP rfl (by decide) _ (x.ah.length) _ rfl O.out.now [.int .i64 x.key] _ 1 _ rfl rfl rfl (by simp [Value.oneCell']) (by omega) (by omega) hbase ?_;intro g cap w3 hown3 hg3 hgat hb3)
   clear hg3 hgat hbase aC bF O;replace T:=hiQ (T.out.below hb3 (show w.heap.size < w.heap.size+1 by omega));replace hb:=hb.trans (hb3.mono (show w.heap.size≤w.heap.size+1 by omega));have O:=hiQ (Kept.own hown3);clear hown3;have aC:=T.out.e0;have aV:=T.out.e8;have hbase:w.heap.size+1≤w3.heap.size:=T.out.here;go_upto_region 10 with (at_builtin;refine fA rfl _ _ _ rfl (w.heap.size+1) 3 _ 1 8 Tryz.underlying39 oP rfl (by decide) _ (x.ah.length+1) _ rfl O.out.now [.int .i64 x.elem] _ 1 _ rfl rfl rfl (by simp [Value.oneCell']) (by omega) (by omega) hbase ?_;intro g cap w3 hown3 hg3 hgat hb3)
   exact zCa
  have t8:(x.kind == 8)=false:=by simpa using h8
  by_cases h7:7≤x.kind
  ·
   have Ur:x.kind=7∨x.kind=9:=by unfold iP at hk0;omega
   have CG:Hid (lg x=x.ah.map Mem.ty ++ [x.elem]):=by show _=_;unfold lg;rw [if_neg h8,if_pos h7];rfl
   clear h8 h7;rcases Ur with Ur | Ur
   ·
    have u7:(x.kind == 7)=true:=by simp [Ur]
    exact zHq
   have u7:(x.kind == 7)=false:=by simp [Ur]
   have u9:(x.kind == 9)=true:=by simp [Ur]
   exact zHq
  have CG:Hid (lg x=x.ah.map Mem.ty):=by show _=_;unfold lg;rw [if_neg h8,if_neg h7];simp
  have u7:(x.kind == 7)=false:=beq_eq_false_iff_ne.2 (by omega);have u9:(x.kind == 9)=false:=beq_eq_false_iff_ne.2 (by omega);clear h8 h7;have aC:=T.out.e0;exact zDa
theorem arq {x:ay} (h:dY x=true):iP x.kind:=by
 unfold dY at h;unfold iP;simp only [Bool.and_eq_true,decide_eq_true_eq] at h;exact h.1
theorem ahj {l:List UInt8} (h:nameB l=true):l≠[]:=by
 rintro rfl;rw [SC [] (.inl rfl)] at h;cases h
theorem acW {x:ay} (h:dY x=true):rY x.kind=true↔x.name≠[]:=by
 have hk:=arq h;rw [wW x hk] at h;simp only [Bool.and_eq_true] at h;obtain ⟨h1,h2⟩:=h;unfold rD at h1;unfold jy gZ at h2;unfold rY;rcases vF hk with k | k | k | k | k | k | k | k | k <;> simp [k] at h1 h2 ⊢ <;> first | exact ahj h1.1 | (simp [iC] at h2;simp [h2])
theorem Xe (L:List (List UInt8)) (q:Nat) (h:q < L.length) (n:List UInt8) (h1:(L.take q).contains n=false) (h2:¬ L[q]=n):(L.take (q+1)).contains n=false:=by
 rw [List.take_succ_eq_append_getElem h,List.contains_eq_mem] at *;simp only [List.mem_append,List.mem_singleton,decide_eq_false_iff_not] at *;rintro (h3 | h3)
 · exact h1 h3
 exact h2 h3.symm
theorem ae4 (L:List (List UInt8)) (q k:Nat) (h:q < L.length) (hk:q < k) (n:List UInt8) (h2:L[q]=n):(L.take k).contains n=true:=by
 rw [List.contains_eq_mem,decide_eq_true_eq,← h2];rw [List.mem_take_iff_getElem];exact ⟨q,by omega,rfl⟩
theorem zAi {p:Prop} (h:p:=by exact ⟨S.out.cell 0,⟨X.out.cell 0,⟨X.out.cell 1,(fun b o hlt => hb.cell (p:=⟨b,o,none⟩) hlt)⟩⟩⟩):p:=h
theorem zJa {p:Prop} (h:p:=by
 have aH:=S.out.e0;go_upto_region 18 with fail;go_quiet (fail)
 go_wp2_with fail;go_ret;exact ⟨bC Hr.out.symm,below_drewN hb _⟩):p:=h
theorem zBf {p:Prop} (h:p:=by
 clear hnc;obtain ⟨aK,bJ,bY,bZ,dL,eX,bU,dD,dM,dU⟩:=X.out.c10;go_wp2_with fail;clear aK bJ bY bZ dL eX bU dD dM dU;((with_reducible refine (Uo x _ _ _ HKI.out hsz.2 (Wj.out.on hb)).mono ?_);rintro e dw ⟨vu,rfl,Z7,fV⟩);obtain ⟨S,X⟩:=b2 S X fV;replace hb:=dT hb fV;clear fV;have Wn:=Jt x hsz.2;have FI:=hiQ (Ll x);obtain ⟨l,hlq⟩ : ∃ l,lg x=l:=⟨_,rfl⟩
 rw [hlq] at Z7 Wn FI;have Lm:=hiQ hlq;obtain ⟨Au,cu,rfl,_⟩:=Z7.form;clear hlq;have HX0:=hiQ X.out;have Eh:=hiQ S.out;have hB0:=hb;have HU0:=hiQ Z7;clear Z7;go_wp2_with fail;go_loopw [7] (fun j ws => ∃ q:Nat,q≤l.length∧j = .int .i64 q∧(l.take q).all (inB ts.length)=true∧Has ws w.heap.size 25 #[.slice (some ⟨b,o,none⟩) ts.length c]∧Has ws gX 71 #[.int .i64 x.kind,.string ⟨x.name.toArray⟩,.int .i64 x.low,.int .i64 x.high,.int .i64 x.max,.slice C1 x.syms.length m1,.slice C2 x.ah.length m2,.int .i64 x.key,.int .i64 x.elem,.bool x.opn]∧Rd ws ws.heap.size 1 (.slice Au l.length cu) l.length (l.map (Value.int .i64))∧Below w.heap.size w ws) (fun j _ => l.length - (intOf j).toNat)
 case atStart => exact ⟨0,by omega,rfl,rfl,Eh.out,HX0.out,HU0.out,hB0⟩
 case round =>
  clear X S HX0 Eh HU0 hB0;obtain ⟨q,hq,rfl,hall,S,X,Z7,hb⟩:=hrel;replace S:=hiQ S;replace X:=hiQ X;by_cases tV:q < l.length
  ·
   obtain ⟨bu,ou,rfl,hbu,Lr⟩:=Z7.at_ (by omega);have cu0:=ints_at Lr q tV;have hmem:=List.getElem_mem tV;have htk:(l.take (q+1)).all (inB ts.length)=((l.take q).all (inB ts.length) && inB ts.length l[q]):=by rw [List.take_succ_eq_append_getElem tV,List.all_append];simp
   have hq1:(q:Int) < l.length:=by omega
   have hq0:(0:Int)≤(q:Int):=by omega
   generalize l[q]=u at *;clear Lr;cases hin:inB ts.length u with
   | true =>
    obtain ⟨un,rfl,hun⟩:=Ad hin;have yP:Hid ((l.take (q+1)).all (inB ts.length)=true):=by show _=_;rw [htk,hall,hin];rfl
    have hu0:decide ((un:Int) < 0)=false:=decide_eq_false (by omega);have hu1:decide (ts.length≤un)=false:=decide_eq_false (by omega);have hu2:decide ((ts.length:Int)≤(un:Int))=false:=decide_eq_false (by omega);have HRU:=hiQ Z7;clear hall htk hin hmem Z7;have aH:=S.out.e0;go_upto_region 18 with fail;go_quiet (fail)
    go_wp2_with fail;go_roundw
    case rel => exact ⟨q+1,by omega,by go_num,yP.out,S.out.drewN _,X.out.drewN _,HRU.out.keep (fun _ _ => rfl),below_drewN hb _⟩
    case measure => simp [intOf];omega
   | false =>
    have Hr:Hid (fF ts=4):=by show _=_;rw [Hv.out,zQ.out,YO ts _ x _ AU.out (by rw [Lm.out];exact NJ l _ u hmem hin)]
    by_cases hu0:u < 0
    ·
     have hu1:decide (u < 0)=true:=decide_eq_true hu0;clear hall htk hin hmem Z7;exact zJa
    obtain ⟨un,rfl⟩ : ∃ un:Nat,u=un:=⟨u.toNat,by omega⟩
    have hu2:ts.length≤un:=by
     exact zJk
    have hu1:decide ((un:Int) < 0)=false:=decide_eq_false (by omega);have hu3:decide (ts.length≤un)=true:=decide_eq_true hu2;have hu4:decide ((ts.length:Int)≤(un:Int))=true:=decide_eq_true (by omega);clear hall htk hin hmem hu0 Z7;exact zJa
  obtain rfl:q=l.length:=by omega
  rw [List.take_of_length_le (Nat.le_refl _)] at hall;have arP:Hid ((lg x).all (inB ts.length)=true):=by show _=_;rw [Lm.out];exact hall
  clear Z7;by_cases h8:x.kind=8
  ·
   have t8:(x.kind == 8)=true:=by simp [h8]
   obtain ⟨kn,hkn,hkl⟩:=Ad (List.all_eq_true.1 hall x.key (FI.out h8));have hko:=Ju ts x kn hkl hkn;obtain ⟨ys,ym,GX,-⟩:=Ez.out kn hkl;have d0:=((hb).cell (p:=⟨b,_,none⟩) hbb).trans GX.1;have aeo:(kn:Int) < ts.length:=by omega
   have anb:(0:Int)≤(kn:Int):=by omega
   have H8:=hiQ h8;have aH:=S.out.e0;have aK:=X.out.e0;have dD:=X.out.e7;rw [hkn] at dD;have HK:=fun W => D8 ts[kn].kind W;generalize ts[kn].kind=yk at *;have HK:=hiQ HK;clear hall h8 GX hkn;cases hy:(decide (1≤yk) && decide (yk≤4)) with
   | false =>
    have Hr:Hid (fF ts=1):=by show _=_;rw [Hv.out,zQ.out,Lh ts _ x _ AU.out arP.out ⟨H8.out,by rw [hko,hy]⟩]
    rw [hy] at HK;clear hko hy;go_wp2_with fail;clear aH aK dD;((with_reducible refine (HK.out _).mono ?_);rintro e dQ ⟨rfl,rfl⟩);go_wp2_with fail;go_ret;exact ⟨bC Hr.out.symm,hb⟩
   | true =>
    have FN:Hid (¬ (x.kind=8∧akK ts x=false)):=fun h => by
     have h2:=h.2;rw [hko,hy] at h2;cases h2
    rw [hy] at HK;clear hko hy;go_wp2_with fail;clear aH aK dD;((with_reducible refine (HK.out _).mono ?_);rintro e dQ ⟨rfl,rfl⟩);go_wp2_with fail;go_roundw
    case rel => exact ⟨k+1,by omega,by go_num,S.out,by rw [zQ.out,Lj ts _ x _ AU.out arP.out FN.out,GV.out],hb⟩
    case measure => simp [intOf];omega
  have t8:(x.kind == 8)=false:=by simpa using h8
  have FN:Hid (¬ (x.kind=8∧akK ts x=false)):=fun h => h8 h.1;clear hall h8;have aK:=X.out.e0;go_wp2_with fail;go_roundw
  case rel => exact ⟨k+1,by omega,by go_num,S.out,by rw [zQ.out,Lj ts _ x _ AU.out arP.out FN.out,GV.out],hb⟩
  case measure => simp [intOf];omega):p:=h
theorem aaw (ts:List ay) (A:Option Addr) (c:Nat) (w:World) (hs:Sizes ts) (ht:aU w w.heap.size (.slice A ts.length c) ts) :
  Calls Tryz.prog 84 #[.agg #[.slice A ts.length c]] w (RTq w (.int .i64 (fF ts))):=by
 have HT:=hiQ ht;have HS:=hiQ hs;by_cases h32:32 < ts.length
 ·
  have Hv:Hid (fF ts=3):=by show _=_;unfold fF;rw [if_pos h32]
  have hd:(32:Int) < ts.length:=by omega
  have hd2:decide ((32:Int) < ts.length)=true:=decide_eq_true hd;clear ht hs;go_enter Tryz.func84,Tryz.ntmps84
  go_upto_region 1 with fail;refine aO (fun wd2 hb1 S => ?_);have hw3:=hb1;clear hb1;have aH:=S.out.e0;go_wp2_with fail;go_ret;exact ⟨bC (Hv.out.symm),hw3⟩
 have Hv:Hid (fF ts=lU ts ts []):=by show _=_;unfold fF;rw [if_neg h32]
 have hd:(ts.length:Int)≤32:=by omega
 have hd2:decide ((32:Int) < ts.length)=false:=decide_eq_false (by omega);clear hs h32;by_cases hz:ts.length=0
 ·
  have Uf:Hid (fF ts=0):=by show _=_;rw [Hv.out,List.eq_nil_of_length_eq_zero hz,lU]
  rw [hz];clear ht hd hd2;go_enter Tryz.func84,Tryz.ntmps84
  go_upto_region 1 with fail;refine aO (fun wd2 hb1 S => ?_);have hw3:=hb1;clear hb1;have aH:=S.out.e0;go_wp2_with fail;refine wp_loop_rounds 1 ?_;rw [rounds_succ];go_wp2_with fail;go_ret;exact ⟨bC Uf.out.symm,hw3⟩
 obtain ⟨b,o,rfl,hbb,hel⟩:=ht.elem (by omega);have Ez:=hiQ hel;clear ht hel;go_enter Tryz.func84,Tryz.ntmps84
 go_upto_region 1 with fail;refine aO (fun wd2 hb1 S => ?_);have hw3:=hb1;clear hb1;have aH:=S.out.e0;have Eh:=hiQ S.out;have hB0:=hw3;go_wp2_with fail;clear aH;go_loopw [3] (fun i wr => ∃ k:Nat,k≤ts.length∧i = .int .i64 k∧Has wr w.heap.size 25 #[.slice (some ⟨b,o,none⟩) ts.length c]∧lU ts ts []=lU ts (ts.drop k) ((ts.take k).map ay.name)∧Below w.heap.size w wr) (fun i _ => ts.length - (intOf i).toNat)
 case atStart => exact ⟨0,by omega,rfl,Eh.out,rfl,hB0⟩
 case round =>
  clear S hB0 Eh;obtain ⟨k,hk,rfl,S,hvk,hw⟩:=hrel;replace S:=hiQ S;by_cases hlt:k < ts.length
  ·
   obtain ⟨vs,vm,hcells,hxa⟩:=Ez.out k hlt;have hsz:=HS.out _ (List.getElem_mem hlt);have GV:=hiQ (Oq ts k hlt);rw [List.drop_eq_getElem_cons hlt] at hvk;obtain ⟨x,hxq⟩ : ∃ x,ts[k]=x:=⟨_,rfl⟩
   rw [hxq] at hcells hxa hsz GV hvk;clear hxq;obtain ⟨C1,m1,C2,m2,rfl,rfl,-,-⟩:=hxa.forms;obtain ⟨c0,c1,c2,c3,c4,c5,c6,c7,c8,c9⟩:=hcells.below hw hbb;have Wj:=hiQ hxa;have zQ:=hiQ hvk;have hi1:(k:Int) < ts.length:=by omega
   have hi0:(0:Int)≤(k:Int):=by omega
   have hnl:=hxa.GI;clear hxa hvk hcells;have aH:=S.out.e0;go_upto_region 7 with fail;clear aH;refine aO (fun fG hb4 X => ?_);have nI:=S.out.here;have mO:=hw.size;replace S:=b1 S hb4;replace hw:=dT hw hb4;clear hb4;generalize wr.heap.size=g6 at *;clear c0 c1 c2 c3 c4 c5 c6 c7 c8 c9;obtain ⟨aK,bJ,bY,bZ,dL,eX,bU,dD,dM,dU⟩:=X.out.c10;go_wp2_with fail;clear aK bJ bY bZ dL eX bU dD dM dU;((with_reducible refine (ahg x _ _ _ (Wj.out.on hw)).mono ?_);rintro e nM ⟨rfl,aY⟩);obtain ⟨S,X⟩:=b2 S X aY;replace hw:=dT hw aY;clear aY;cases hf:dY x with
   | false =>
    have Hr:Hid (fF ts=1):=by show _=_;rw [Hv.out,zQ.out,JW ts _ x _ (.inl hf)]
    clear hf;go_wp2_with fail;go_ret;exact ⟨bC (Hr.out.symm),hw⟩
   | true =>
    have hfn:=acW hf;have HKI:=hiQ (arq hf);have Hf:=hiQ hf;clear hf;cases hnm:rY x.kind with
    | false =>
     have hnn:x.name = []:=by
      rcases Classical.em (x.name = []) with h | h
      · exact h
      rw [hfn.2 h] at hnm;cases hnm
     have AU:Hid (¬ (dY x=false∨(x.name≠[]∧((ts.take k).map ay.name).contains x.name=true))):=fun h => by
      rcases h with h | h
      · rw [Hf.out] at h;cases h
      exact h.1 hnn
     clear hnn hfn;have HN:=hiQ (fun W => JF x.kind W);rw [hnm] at HN;have HX0:=hiQ X.out;have Eh:=hiQ S.out;have hB0:=hw;obtain ⟨gX,zD⟩ : ∃ g,g=g6:=⟨_,rfl⟩
     subst zD;go_wp2_with fail;go_loopw [5] (fun j ws => ∃ q:Nat,q≤k∧j = .int .i64 q∧True∧Has ws w.heap.size 25 #[.slice (some ⟨b,o,none⟩) ts.length c]∧Has ws gX 71 #[.int .i64 x.kind,.string ⟨x.name.toArray⟩,.int .i64 x.low,.int .i64 x.high,.int .i64 x.max,.slice C1 x.syms.length m1,.slice C2 x.ah.length m2,.int .i64 x.key,.int .i64 x.elem,.bool x.opn]∧Below w.heap.size w ws) (fun j _ => k - (intOf j).toNat)
     case atStart => exact ⟨0,by omega,rfl,trivial,Eh.out,HX0.out,hB0⟩
     case round =>
      clear X S HX0 Eh hB0;obtain ⟨q,hq,rfl,hnc,S,X,hb⟩:=hrel;replace S:=hiQ S;replace X:=hiQ X;by_cases hqk:q < k
      ·
       have tV:q < ts.length:=by omega
       have hq1:(q:Int) < k:=by omega
       have hq2:(q:Int) < ts.length:=by omega
       have hq0:(0:Int)≤(q:Int):=by omega
       have aK:=X.out.e0;go_upto_region 12 with fail;refine wp_region_held_drew (S:=(fun w' => w'.cell? ⟨gX,0,none⟩=some (.int .i64 x.kind)∧(∀ (b o:Nat),b < w.heap.size→w'.cell? ⟨b,o,none⟩=w.cell? ⟨b,o,none⟩))) (by kernel_rfl) ⟨aK,(fun b o hlt => hb.cell (p:=⟨b,o,none⟩) hlt)⟩ (fun hHeld => ?_);clear aK;have iR:Below wr.heap.size wr (wr.drew):=(Below.refl _ _).drew;obtain ⟨S,X⟩:=b2 S X iR;replace hb:=dT hb iR;clear iR;generalize wr.drew=lZ at *;refine tk 0 ?_;refine tk 1 ?_;refine iE 2 fun K hK => ?_;go_simp;((with_reducible refine (HN.out _).mono ?_);rintro e dQ ⟨rfl,rfl⟩);(try clear hHeld);refine hK.out _ _ (⟨X.out.cell 0,(fun b o hlt => hb.cell (p:=⟨b,o,none⟩) hlt)⟩) (fun hHeld => ?_);clear hK K;refine tk 3 ?_;refine tks 4 ?_;simp only [aF];refine tks 5 ?_;simp only [aF];refine tks 6 ?_;simp only [aF];refine tks 7 ?_;simp only [aF];refine tks 8 ?_;simp only [aF];refine tks 9 ?_;simp only [aF];refine tks 10 ?_;simp only [aF];refine tks 11 ?_;simp only [aF];refine tks 12 ?_;simp only [aF];refine tk 13 ?_;refine wpAnyH_done (by kernel_rfl) ?_ _;(try clear hHeld);go_wp2_with fail;go_roundw
       case rel => exact ⟨q+1,by omega,by go_num,trivial,S.out,X.out,hb⟩
       case measure => simp [intOf];omega
      obtain rfl:k=q:=by omega
      exact zBf
    | true =>
     have hne:=hfn.1 hnm;clear hfn;have HN:=hiQ (fun W => JF x.kind W);rw [hnm] at HN;have HX0:=hiQ X.out;have Eh:=hiQ S.out;have hB0:=hw;obtain ⟨gX,zD⟩ : ∃ g,g=g6:=⟨_,rfl⟩
     subst zD;go_wp2_with fail;go_loopw [5] (fun j ws => ∃ q:Nat,q≤k∧j = .int .i64 q∧((ts.map ay.name).take q).contains x.name=false∧Has ws w.heap.size 25 #[.slice (some ⟨b,o,none⟩) ts.length c]∧Has ws gX 71 #[.int .i64 x.kind,.string ⟨x.name.toArray⟩,.int .i64 x.low,.int .i64 x.high,.int .i64 x.max,.slice C1 x.syms.length m1,.slice C2 x.ah.length m2,.int .i64 x.key,.int .i64 x.elem,.bool x.opn]∧Below w.heap.size w ws) (fun j _ => k - (intOf j).toNat)
     case atStart => exact ⟨0,by omega,rfl,rfl,Eh.out,HX0.out,hB0⟩
     case round =>
      clear X S HX0 Eh hB0;obtain ⟨q,hq,rfl,hnc,S,X,hb⟩:=hrel;replace S:=hiQ S;replace X:=hiQ X;by_cases hqk:q < k
      ·
       have tV:q < ts.length:=by omega
       have hq1:(q:Int) < k:=by omega
       have hq2:(q:Int) < ts.length:=by omega
       have hq0:(0:Int)≤(q:Int):=by omega
       obtain ⟨ys,ym,GX,-⟩:=Ez.out q tV;have y1:=GX.2.1;obtain ⟨p,hp⟩ : ∃ p,ts[q].name=p:=⟨_,rfl⟩
       rw [hp] at y1;clear GX;by_cases hps:p=x.name
       ·
        have ED:(p == x.name)=true:=by simp [hps]
        have hin:=ae4 (ts.map ay.name) q k (by simpa using tV) hqk x.name (by simpa [hp] using hps);rw [← List.map_take] at hin;have Hr:Hid (fF ts=1):=by show _=_;rw [Hv.out,zQ.out,JW ts _ x _ (.inr ⟨hne,hin⟩)]
        have Hp:=hiQ hp;clear hin hps hnc hp;have aH:=S.out.e0;have aK:=X.out.e0;have bJ:=X.out.e1;go_upto_region 12 with fail;refine wp_region_held_drew (S:=(fun w' => w'.cell? ⟨w.heap.size,0,none⟩=some (.slice (some ⟨b,o,none⟩) ts.length c)∧w'.cell? ⟨gX,0,none⟩=some (.int .i64 x.kind)∧w'.cell? ⟨gX,1,none⟩=some (.string ⟨x.name.toArray⟩)∧(∀ (b o:Nat),b < w.heap.size→w'.cell? ⟨b,o,none⟩=w.cell? ⟨b,o,none⟩))) (by kernel_rfl) ⟨aH,aK,bJ,(fun b o hlt => hb.cell (p:=⟨b,o,none⟩) hlt)⟩ (fun hHeld => ?_);clear aH aK bJ;have iR:Below wr.heap.size wr (wr.drew):=(Below.refl _ _).drew;obtain ⟨S,X⟩:=b2 S X iR;replace hb:=dT hb iR;clear iR;generalize wr.drew=lZ at *;refine tk 0 ?_;refine tk 1 ?_;refine iE 2 fun K hK => ?_;go_simp;((with_reducible refine (HN.out _).mono ?_);rintro e dQ ⟨rfl,rfl⟩);(try clear hHeld);refine hK.out _ _ zAi (fun hHeld => ?_);clear hK K;refine tk 3 ?_;refine tk 4 ?_;refine tk 5 ?_;refine tk 6 ?_;refine tk 7 ?_;refine tk 8 ?_;refine tk 9 ?_;refine tk 10 ?_;refine tk 11 ?_;refine tk 12 ?_;refine tk 13 ?_;refine wpAnyH_done (by kernel_rfl) ?_ _;(try clear hHeld);clear y1;go_wp2_with fail;go_ret;exact ⟨bC Hr.out.symm,hb⟩
       have ED:(p == x.name)=false:=by simpa using hps
       have Me:Hid (((ts.map ay.name).take (q+1)).contains x.name=false):=Xe (ts.map ay.name) q (by simpa using tV) x.name hnc (by simpa [hp] using hps);have Hp:=hiQ hp;clear hps hnc hp;have aH:=S.out.e0;have aK:=X.out.e0;have bJ:=X.out.e1;go_upto_region 12 with fail;refine wp_region_held_drew (S:=(fun w' => w'.cell? ⟨w.heap.size,0,none⟩=some (.slice (some ⟨b,o,none⟩) ts.length c)∧w'.cell? ⟨gX,0,none⟩=some (.int .i64 x.kind)∧w'.cell? ⟨gX,1,none⟩=some (.string ⟨x.name.toArray⟩)∧(∀ (b o:Nat),b < w.heap.size→w'.cell? ⟨b,o,none⟩=w.cell? ⟨b,o,none⟩))) (by kernel_rfl) ⟨aH,aK,bJ,(fun b o hlt => hb.cell (p:=⟨b,o,none⟩) hlt)⟩ (fun hHeld => ?_);clear aH aK bJ;have iR:Below wr.heap.size wr (wr.drew):=(Below.refl _ _).drew;obtain ⟨S,X⟩:=b2 S X iR;replace hb:=dT hb iR;clear iR;generalize wr.drew=lZ at *;refine tk 0 ?_;refine tk 1 ?_;refine iE 2 fun K hK => ?_;go_simp;((with_reducible refine (HN.out _).mono ?_);rintro e dQ ⟨rfl,rfl⟩);(try clear hHeld);refine hK.out _ _ zAi (fun hHeld => ?_);clear hK K;refine tk 3 ?_;refine tk 4 ?_;refine tk 5 ?_;refine tk 6 ?_;refine tk 7 ?_;refine tk 8 ?_;refine tk 9 ?_;refine tk 10 ?_;refine tk 11 ?_;refine tk 12 ?_;refine tk 13 ?_;refine wpAnyH_done (by kernel_rfl) ?_ _;(try clear hHeld);clear y1;go_wp2_with fail;go_roundw
       case rel => exact ⟨q+1,by omega,by go_num,Me.out,S.out,X.out,hb⟩
       case measure => simp [intOf];omega
      obtain rfl:k=q:=by omega
      have AU:Hid (¬ (dY x=false∨(x.name≠[]∧((ts.take k).map ay.name).contains x.name=true))):=fun h => by
       rcases h with h | h
       · rw [Hf.out] at h;cases h
       rw [List.map_take,hnc] at h;cases h.2
      exact zBf
  obtain rfl:k=ts.length:=by omega
  have Hr:Hid (fF ts=0):=by show _=_;rw [Hv.out,hvk,List.drop_eq_nil_of_le (Nat.le_refl _),lU]
  clear hvk;have aH:=S.out.e0;exact zDm
end Go.Proofs.YtlamhkffnlgofaaGreatDoor
