/- What initial computes for a draft, and what else is used with it. No condition. -/
import Derived.Test.YtkaedmpppnnamaaGreatDoorJAI
set_option maxHeartbeats 2000000
set_option maxRecDepth 100000
namespace Go.Proofs.YtkaedmpppnnamaaGreatDoor
open ChangeShapes WideShapes ChangeAt RowKit
abbrev BU (x:Val):Value:=.agg #[.int .i64 x.kind,.bool x.bool,.int .i64 x.num,.string ⟨x.str.toArray⟩,.int .i64 x.id,.slice none 0 0,.slice none 0 0,.slice none 0 0]
theorem zEq {p:Prop} (h:p:=by
 unfold aT;rw [m_ ht];simp [hk]):p:=h
theorem afD (xs:List fJ) (vn:Value) (t code:Nat) (w:World) (h5:0 < xs.length/\xs.length<=5) (ht:t < xs.length) (hk:ai5 xs[t]=1) (hr:jR w w.heap.size vn xs) :
  Calls Tryz.prog 60 #[.agg #[vn],.int .i64 t,.int .u8 code] w (RT w (.tuple #[BU (aT xs t code).1,.bool (aT xs t code).2])):=by
 have hin:aT xs t code=(.mk 1 (decide (code % 2=1)) 0 [] 0 [] [] [],true):=by
  exact zEq
 obtain ⟨A,c,rfl,hcap⟩:=hr.form;have HR:=hiQ hr;have hki:=fun W h => qp xs (.slice A xs.length c) t W ht h;rw [hk] at hki;have HI:=hiQ hki;have HN:=hiQ hin;obtain ⟨b,o,rfl,hb,hel⟩:=hr.elem h5.1;obtain ⟨vp,hcs,hn⟩:=hel t ht;obtain ⟨P,cp,rfl,hcp⟩:=hn.parts.form;obtain ⟨n0,n1,n2,n3,n4⟩:=hcs;have ht1:(t:Int) < xs.length:=by omega
 clear hel hr hki hin hk;generalize xs[t]=x at *;go_enter Tryz.func60,Tryz.ntmps60
 go_upto_region 2 with fail;refine Fj (fun wd2 hb1 D R N => ?_);have hw3:=hb1;clear hb1 n0 n1 n2 n3 n4;have dW:=D.out.e0;go_wp2_with fail;clear dW;((with_reducible refine (HI.out _ (HR.out.on hw3)).mono ?_);rintro e wd4 ⟨rfl,hb5⟩);obtain ⟨D,R,N⟩:=b3 D R N hb5;replace hw3:=dT hw3 hb5;clear hb5;go_upto_region 3 with fail;refine aO (fun jC hb6 V => ?_);have kH:=D.out.here;have oC:=R.out.here;have sH:=N.out.here;have hl12:=hw3.size;obtain ⟨D,R,N⟩:=b3 D R N hb6;replace hw3:=dT hw3 hb6;clear hb6;generalize wd4.heap.size=g8 at *;have tc:(((code:Int) % 2) == 1)=decide (code % 2=1):=by rw [Bool.eq_iff_iff];simp;omega
 have bK:=V.out.e0;have dh:=V.out.e1;have JA:=V.out.free 1;go_upto_region 18 with fail;clear bK dh JA;generalize aX:jC.setCell _ _=dQ;obtain ⟨D,R,N⟩:=f3 D R N (eF aX);replace V:=yT V aX;replace hw3:=tf hw3 aX;clear aX;obtain ⟨bK,dh,dn,dI,bG,aQ,aP,dJ⟩:=V.out.c8;go_upto_region 18 with fail;go_wp2_with (refine sR R.out ?_)
 clear bK dh dn dI bG aQ aP dJ;generalize adq:dQ.setRow _ _=jA;obtain ⟨D,N,V⟩:=f3 D N V (eR adq);replace R:=dV R adq;replace hw3:=tr hw3 adq;clear adq;exact vJ (v:=.tuple #[.agg #[.int .i64 1,.bool (decide (code % 2=1)),.int .i64 0,.string ⟨#[]⟩,.int .i64 0,.slice none 0 0,.slice none 0 0,.slice none 0 0],.bool true]) (by simp [results,Tryz.results60,go_sem,R.out.c8]) rfl (⟨by rw [HN.out];rfl,hw3⟩)
theorem afE (xs:List fJ) (vn:Value) (t code:Nat) (w:World) (h5:0 < xs.length/\xs.length<=5) (ht:t < xs.length) (hk:ai5 xs[t]=7) (hr:jR w w.heap.size vn xs) :
  Calls Tryz.prog 60 #[.agg #[vn],.int .i64 t,.int .u8 code] w (RT w (.tuple #[BU (aT xs t code).1,.bool (aT xs t code).2])):=by
 have hin:aT xs t code=(.mk 7 false 0 [] 0 [] [] [],true):=by
  exact zEq
 obtain ⟨A,c,rfl,hcap⟩:=hr.form;have HR:=hiQ hr;have hki:=fun W h => qp xs (.slice A xs.length c) t W ht h;rw [hk] at hki;have HI:=hiQ hki;have HN:=hiQ hin;obtain ⟨b,o,rfl,hb,hel⟩:=hr.elem h5.1;obtain ⟨vp,hcs,hn⟩:=hel t ht;obtain ⟨P,cp,rfl,hcp⟩:=hn.parts.form;obtain ⟨n0,n1,n2,n3,n4⟩:=hcs;have ht1:(t:Int) < xs.length:=by omega
 clear hel hr hki hin hk;generalize xs[t]=x at *;go_enter Tryz.func60,Tryz.ntmps60
 go_upto_region 2 with fail;refine Fj (fun wd2 hb1 D R N => ?_);have hw3:=hb1;clear hb1 n0 n1 n2 n3 n4;have dW:=D.out.e0;go_wp2_with fail;clear dW;((with_reducible refine (HI.out _ (HR.out.on hw3)).mono ?_);rintro e wd4 ⟨rfl,hb5⟩);obtain ⟨D,R,N⟩:=b3 D R N hb5;replace hw3:=dT hw3 hb5;clear hb5;go_upto_region 3 with fail;refine aO (fun jC hb6 V => ?_);have kH:=D.out.here;have oC:=R.out.here;have sH:=N.out.here;have hl12:=hw3.size;obtain ⟨D,R,N⟩:=b3 D R N hb6;replace hw3:=dT hw3 hb6;clear hb6;generalize wd4.heap.size=g8 at *;obtain ⟨bK,dh,dn,dI,bG,aQ,aP,dJ⟩:=V.out.c8;go_upto_region 18 with fail;go_wp2_with (refine sR R.out ?_)
 clear bK dh dn dI bG aQ aP dJ;generalize aX:jC.setRow _ _=dQ;obtain ⟨D,N,V⟩:=f3 D N V (eR aX);replace R:=dV R aX;replace hw3:=tr hw3 aX;clear aX;exact vJ (v:=.tuple #[.agg #[.int .i64 7,.bool false,.int .i64 0,.string ⟨#[]⟩,.int .i64 0,.slice none 0 0,.slice none 0 0,.slice none 0 0],.bool true]) (by simp [results,Tryz.results60,go_sem,R.out.c8]) rfl (⟨by rw [HN.out];rfl,hw3⟩)
theorem afF (xs:List fJ) (vn:Value) (t code:Nat) (w:World) (h5:0 < xs.length/\xs.length<=5) (ht:t < xs.length) (hk:ai5 xs[t]=9) (hr:jR w w.heap.size vn xs) :
  Calls Tryz.prog 60 #[.agg #[vn],.int .i64 t,.int .u8 code] w (RT w (.tuple #[BU (aT xs t code).1,.bool (aT xs t code).2])):=by
 have hin:aT xs t code=(.mk 9 false 0 [] 0 [] [] [],true):=by
  exact zEq
 obtain ⟨A,c,rfl,hcap⟩:=hr.form;have HR:=hiQ hr;have hki:=fun W h => qp xs (.slice A xs.length c) t W ht h;rw [hk] at hki;have HI:=hiQ hki;have HN:=hiQ hin;obtain ⟨b,o,rfl,hb,hel⟩:=hr.elem h5.1;obtain ⟨vp,hcs,hn⟩:=hel t ht;obtain ⟨P,cp,rfl,hcp⟩:=hn.parts.form;obtain ⟨n0,n1,n2,n3,n4⟩:=hcs;have ht1:(t:Int) < xs.length:=by omega
 clear hel hr hki hin hk;generalize xs[t]=x at *;go_enter Tryz.func60,Tryz.ntmps60
 go_upto_region 2 with fail;refine Fj (fun wd2 hb1 D R N => ?_);have hw3:=hb1;clear hb1 n0 n1 n2 n3 n4;have dW:=D.out.e0;go_wp2_with fail;clear dW;((with_reducible refine (HI.out _ (HR.out.on hw3)).mono ?_);rintro e wd4 ⟨rfl,hb5⟩);obtain ⟨D,R,N⟩:=b3 D R N hb5;replace hw3:=dT hw3 hb5;clear hb5;go_upto_region 3 with fail;refine aO (fun jC hb6 V => ?_);have kH:=D.out.here;have oC:=R.out.here;have sH:=N.out.here;have hl12:=hw3.size;obtain ⟨D,R,N⟩:=b3 D R N hb6;replace hw3:=dT hw3 hb6;clear hb6;generalize wd4.heap.size=g8 at *;obtain ⟨bK,dh,dn,dI,bG,aQ,aP,dJ⟩:=V.out.c8;go_upto_region 18 with fail;go_wp2_with (refine sR R.out ?_)
 clear bK dh dn dI bG aQ aP dJ;generalize aX:jC.setRow _ _=dQ;obtain ⟨D,N,V⟩:=f3 D N V (eR aX);replace R:=dV R aX;replace hw3:=tr hw3 aX;clear aX;exact vJ (v:=.tuple #[.agg #[.int .i64 9,.bool false,.int .i64 0,.string ⟨#[]⟩,.int .i64 0,.slice none 0 0,.slice none 0 0,.slice none 0 0],.bool true]) (by simp [results,Tryz.results60,go_sem,R.out.c8]) rfl (⟨by rw [HN.out];rfl,hw3⟩)
theorem zCm {p:Prop} (h:p:=by
 have hin:aT xs t code=(jm,false):=by
  unfold aT;rw [m_ ht];simp [hk]
 obtain ⟨A,c,rfl,hcap⟩:=hr.form;have HR:=hiQ hr;have hki:=fun W h => qp xs (.slice A xs.length c) t W ht h;rw [hk] at hki;have HI:=hiQ hki;have HN:=hiQ hin;obtain ⟨b,o,rfl,hb,hel⟩:=hr.elem h5.1;obtain ⟨vp,hcs,hn⟩:=hel t ht;obtain ⟨P,cp,rfl,hcp⟩:=hn.parts.form;obtain ⟨n0,n1,n2,n3,n4⟩:=hcs;have ht1:(t:Int) < xs.length:=by omega
 clear hel hr hki hin hk;generalize xs[t]=x at *;go_enter Tryz.func60,Tryz.ntmps60
 go_upto_region 2 with fail;refine Fj (fun wd2 hb1 D R N => ?_);have hw3:=hb1;clear hb1 n0 n1 n2 n3 n4;have dW:=D.out.e0;go_wp2_with fail;clear dW;((with_reducible refine (HI.out _ (HR.out.on hw3)).mono ?_);rintro e wd4 ⟨rfl,hb5⟩);obtain ⟨D,R,N⟩:=b3 D R N hb5;replace hw3:=dT hw3 hb5;clear hb5;go_upto_region 3 with fail;refine aO (fun jC hb6 V => ?_);have kH:=D.out.here;have oC:=R.out.here;have sH:=N.out.here;have hl12:=hw3.size;obtain ⟨D,R,N⟩:=b3 D R N hb6;replace hw3:=dT hw3 hb6;clear hb6;generalize wd4.heap.size=g8 at *;have bK:=V.out.e0;go_upto_region 17 with fail;go_wp2_with (refine sR R.out ?_)
 clear bK;generalize aX:jC.setRow _ _=dQ;obtain ⟨D,N,V⟩:=f3 D N V (eR aX);replace R:=dV R aX;replace hw3:=tr hw3 aX;clear aX;exact vJ (v:=.tuple #[.agg #[.int .i64 0,.bool false,.int .i64 0,.string ⟨#[]⟩,.int .i64 0,.slice none 0 0,.slice none 0 0,.slice none 0 0],.bool false]) (by simp [results,Tryz.results60,go_sem,R.out.c8]) rfl (⟨by rw [HN.out];rfl,hw3⟩)):p:=h
theorem afG (xs:List fJ) (vn:Value) (t code:Nat) (w:World) (h5:0 < xs.length/\xs.length<=5) (ht:t < xs.length) (hk:ai5 xs[t]=5) (hr:jR w w.heap.size vn xs) :
  Calls Tryz.prog 60 #[.agg #[vn],.int .i64 t,.int .u8 code] w (RT w (.tuple #[BU (aT xs t code).1,.bool (aT xs t code).2])):=by
 exact zCm
theorem afH (xs:List fJ) (vn:Value) (t code:Nat) (w:World) (h5:0 < xs.length/\xs.length<=5) (ht:t < xs.length) (hk:ai5 xs[t]=6) (hr:jR w w.heap.size vn xs) :
  Calls Tryz.prog 60 #[.agg #[vn],.int .i64 t,.int .u8 code] w (RT w (.tuple #[BU (aT xs t code).1,.bool (aT xs t code).2])):=by
 exact zCm
theorem afI (xs:List fJ) (vn:Value) (t code:Nat) (w:World) (h5:0 < xs.length/\xs.length<=5) (ht:t < xs.length) (hk:ai5 xs[t]=8) (j:Nat) (hj:vw xs 0=some j) (hr:jR w w.heap.size vn xs) :
  Calls Tryz.prog 60 #[.agg #[vn],.int .i64 t,.int .u8 code] w (RT w (.tuple #[BU (aT xs t code).1,.bool (aT xs t code).2])):=by
 have hin:aT xs t code=(.mk 8 false 0 [] 0 [] [] [],true):=by
  unfold aT;rw [m_ ht];simp [hk,hj]
 obtain ⟨A,c,rfl,hcap⟩:=hr.form;have HR:=hiQ hr;have hki:=fun W h => qp xs (.slice A xs.length c) t W ht h;rw [hk] at hki;have HI:=hiQ hki;have HN:=hiQ hin;obtain ⟨b,o,rfl,hb,hel⟩:=hr.elem h5.1;obtain ⟨vp,hcs,hn⟩:=hel t ht;obtain ⟨P,cp,rfl,hcp⟩:=hn.parts.form;obtain ⟨n0,n1,n2,n3,n4⟩:=hcs;have ht1:(t:Int) < xs.length:=by omega
 clear hel hr hki hin hk;have hkey:=fun W h => Sr xs (.slice (some ⟨b,o,none⟩) xs.length c) 0 W (by omega) h5 h;simp only [show ((0:Nat):Int)=0 from rfl] at hkey;rw [hj] at hkey;have HK:=hiQ hkey;have tj:decide ((j:Int) < 0)=false:=f_ (by omega);clear hkey hj;generalize xs[t]=x at *;go_enter Tryz.func60,Tryz.ntmps60
 go_upto_region 2 with fail;refine Fj (fun wd2 hb1 D R N => ?_);have hw3:=hb1;clear hb1 n0 n1 n2 n3 n4;have dW:=D.out.e0;go_wp2_with fail;clear dW;((with_reducible refine (HI.out _ (HR.out.on hw3)).mono ?_);rintro e wd4 ⟨rfl,hb5⟩);obtain ⟨D,R,N⟩:=b3 D R N hb5;replace hw3:=dT hw3 hb5;clear hb5;go_upto_region 3 with fail;refine aO (fun jC hb6 V => ?_);have kH:=D.out.here;have oC:=R.out.here;have sH:=N.out.here;have hl12:=hw3.size;obtain ⟨D,R,N⟩:=b3 D R N hb6;replace hw3:=dT hw3 hb6;clear hb6;generalize wd4.heap.size=g8 at *;have bK:=V.out.e0;have dW:=D.out.e0;go_wp2_with fail;clear bK dW;((with_reducible refine (HK.out _ (HR.out.on hw3)).mono ?_);rintro e dQ ⟨rfl,jh⟩);obtain ⟨D,R,N,V⟩:=b4 D R N V jh;replace hw3:=dT hw3 jh;clear jh;obtain ⟨bK,dh,dn,dI,bG,aQ,aP,dJ⟩:=V.out.c8;go_upto_region 18 with fail;go_wp2_with (refine sR R.out ?_)
 clear bK dh dn dI bG aQ aP dJ;generalize adq:dQ.setRow _ _=jA;obtain ⟨D,N,V⟩:=f3 D N V (eR adq);replace R:=dV R adq;replace hw3:=tr hw3 adq;clear adq;exact vJ (v:=.tuple #[.agg #[.int .i64 8,.bool false,.int .i64 0,.string ⟨#[]⟩,.int .i64 0,.slice none 0 0,.slice none 0 0,.slice none 0 0],.bool true]) (by simp [results,Tryz.results60,go_sem,R.out.c8]) rfl (⟨by rw [HN.out];rfl,hw3⟩)
theorem adi (xs:List fJ) (vn:Value) (t code:Nat) (w:World) (h5:0 < xs.length/\xs.length<=5) (ht:t < xs.length) (hk:ai5 xs[t]=8) (hj:vw xs 0=none) (hr:jR w w.heap.size vn xs) :
  Calls Tryz.prog 60 #[.agg #[vn],.int .i64 t,.int .u8 code] w (RT w (.tuple #[BU (aT xs t code).1,.bool (aT xs t code).2])):=by
 have hin:aT xs t code=(.mk 7 false 0 [] 0 [] [] [],true):=by
  unfold aT;rw [m_ ht];simp [hk,hj]
 obtain ⟨A,c,rfl,hcap⟩:=hr.form;have HR:=hiQ hr;have hki:=fun W h => qp xs (.slice A xs.length c) t W ht h;rw [hk] at hki;have HI:=hiQ hki;have HN:=hiQ hin;obtain ⟨b,o,rfl,hb,hel⟩:=hr.elem h5.1;obtain ⟨vp,hcs,hn⟩:=hel t ht;obtain ⟨P,cp,rfl,hcp⟩:=hn.parts.form;obtain ⟨n0,n1,n2,n3,n4⟩:=hcs;have ht1:(t:Int) < xs.length:=by omega
 clear hel hr hki hin hk;have hkey:=fun W h => Sr xs (.slice (some ⟨b,o,none⟩) xs.length c) 0 W (by omega) h5 h;simp only [show ((0:Nat):Int)=0 from rfl] at hkey;rw [hj] at hkey;have HK:=hiQ hkey;clear hkey hj;generalize xs[t]=x at *;go_enter Tryz.func60,Tryz.ntmps60
 go_upto_region 2 with fail;refine Fj (fun wd2 hb1 D R N => ?_);have hw3:=hb1;clear hb1 n0 n1 n2 n3 n4;have dW:=D.out.e0;go_wp2_with fail;clear dW;((with_reducible refine (HI.out _ (HR.out.on hw3)).mono ?_);rintro e wd4 ⟨rfl,hb5⟩);obtain ⟨D,R,N⟩:=b3 D R N hb5;replace hw3:=dT hw3 hb5;clear hb5;go_upto_region 3 with fail;refine aO (fun jC hb6 V => ?_);have kH:=D.out.here;have oC:=R.out.here;have sH:=N.out.here;have hl12:=hw3.size;obtain ⟨D,R,N⟩:=b3 D R N hb6;replace hw3:=dT hw3 hb6;clear hb6;generalize wd4.heap.size=g8 at *;have bK:=V.out.e0;have dW:=D.out.e0;go_wp2_with fail;clear bK dW;((with_reducible refine (HK.out _ (HR.out.on hw3)).mono ?_);rintro e dQ ⟨rfl,jh⟩);obtain ⟨D,R,N,V⟩:=b4 D R N V jh;replace hw3:=dT hw3 jh;clear jh;have bK:=V.out.e0;have anq:=V.out.free 0;go_upto_region 5 with fail;clear bK anq;generalize adq:dQ.setCell _ _=jA;obtain ⟨D,R,N⟩:=f3 D R N (eF adq);replace V:=xR V adq;replace hw3:=tf hw3 adq;clear adq;obtain ⟨bK,dh,dn,dI,bG,aQ,aP,dJ⟩:=V.out.c8;go_upto_region 18 with fail;go_wp2_with (refine sR R.out ?_)
 clear bK dh dn dI bG aQ aP dJ;generalize fQ:jA.setRow _ _=ji;obtain ⟨D,N,V⟩:=f3 D N V (eR fQ);replace R:=dV R fQ;replace hw3:=tr hw3 fQ;clear fQ;exact vJ (v:=.tuple #[.agg #[.int .i64 7,.bool false,.int .i64 0,.string ⟨#[]⟩,.int .i64 0,.slice none 0 0,.slice none 0 0,.slice none 0 0],.bool true]) (by simp [results,Tryz.results60,go_sem,R.out.c8]) rfl (⟨by rw [HN.out];rfl,hw3⟩)
theorem adk (xs:List fJ) (vn:Value) (t code:Nat) (w:World) (h5:0 < xs.length/\xs.length<=5) (ht:t < xs.length) (hk:ai5 xs[t]=3) (hy:0 < xs[t].a % 4/\code % 2=1) (hr:jR w w.heap.size vn xs) :
  Calls Tryz.prog 60 #[.agg #[vn],.int .i64 t,.int .u8 code] w (RT w (.tuple #[BU (aT xs t code).1,.bool (aT xs t code).2])):=by
 have hin:aT xs t code=(.mk 3 false 0 [97] 0 [] [] [],true):=by
  unfold aT;rw [m_ ht];simp [hk,hy]
 obtain ⟨A,c,rfl,hcap⟩:=hr.form;have HR:=hiQ hr;have hki:=fun W h => qp xs (.slice A xs.length c) t W ht h;rw [hk] at hki;have HI:=hiQ hki;have HN:=hiQ hin;obtain ⟨b,o,rfl,hb,hel⟩:=hr.elem h5.1;obtain ⟨vp,hcs,hn⟩:=hel t ht;obtain ⟨P,cp,rfl,hcp⟩:=hn.parts.form;obtain ⟨n0,n1,n2,n3,n4⟩:=hcs;have ht1:(t:Int) < xs.length:=by omega
 clear hel hr hki hin hk;generalize xs[t]=x at *;have ta:decide (0 < (x.a:Int) % 4)=true:=n_ (by omega);have tc:((code:Int) % 2 == 1)=true:=by have:=hy.2;simp;omega
 clear hy;go_enter Tryz.func60,Tryz.ntmps60
 go_upto_region 2 with fail;refine Fj (fun wd2 hb1 D R N => ?_);have hw3:=hb1;clear hb1 n0 n1 n2 n3 n4;have dW:=D.out.e0;go_wp2_with fail;clear dW;((with_reducible refine (HI.out _ (HR.out.on hw3)).mono ?_);rintro e wd4 ⟨rfl,hb5⟩);obtain ⟨D,R,N⟩:=b3 D R N hb5;replace hw3:=dT hw3 hb5;clear hb5;go_upto_region 3 with fail;refine aO (fun jC hb6 V => ?_);have kH:=D.out.here;have oC:=R.out.here;have sH:=N.out.here;have hl12:=hw3.size;obtain ⟨D,R,N⟩:=b3 D R N hb6;replace hw3:=dT hw3 hb6;clear hb6;generalize wd4.heap.size=g8 at *;have bK:=V.out.e0;have dI:=V.out.e3;have DW:=N.out.e1;have WA:=V.out.free 3;go_upto_region 18 with fail;clear bK dI DW WA;generalize aX:jC.setCell _ _=dQ;obtain ⟨D,R,N⟩:=f3 D R N (eF aX);replace V:=Vx V aX;replace hw3:=tf hw3 aX;clear aX;obtain ⟨bK,dh,dn,dI,bG,aQ,aP,dJ⟩:=V.out.c8;go_upto_region 18 with fail;go_wp2_with (refine sR R.out ?_)
 clear bK dh dn dI bG aQ aP dJ;generalize adq:dQ.setRow _ _=jA;obtain ⟨D,N,V⟩:=f3 D N V (eR adq);replace R:=dV R adq;replace hw3:=tr hw3 adq;clear adq;exact vJ (v:=.tuple #[.agg #[.int .i64 3,.bool false,.int .i64 0,.string ⟨#[97]⟩,.int .i64 0,.slice none 0 0,.slice none 0 0,.slice none 0 0],.bool true]) (by simp [results,Tryz.results60,go_sem,R.out.c8]) rfl (⟨by rw [HN.out];rfl,hw3⟩)
theorem zCu {p:Prop} (h:p:=by
 go_enter Tryz.func60,Tryz.ntmps60
 go_upto_region 2 with fail;refine Fj (fun wd2 hb1 D R N => ?_);have hw3:=hb1;clear hb1 n0 n1 n2 n3 n4;have dW:=D.out.e0;go_wp2_with fail;clear dW;((with_reducible refine (HI.out _ (HR.out.on hw3)).mono ?_);rintro e wd4 ⟨rfl,hb5⟩);obtain ⟨D,R,N⟩:=b3 D R N hb5;replace hw3:=dT hw3 hb5;clear hb5;go_upto_region 3 with fail;refine aO (fun jC hb6 V => ?_);have kH:=D.out.here;have oC:=R.out.here;have sH:=N.out.here;have hl12:=hw3.size;obtain ⟨D,R,N⟩:=b3 D R N hb6;replace hw3:=dT hw3 hb6;clear hb6;generalize wd4.heap.size=g8 at *;have bK:=V.out.e0;have DW:=N.out.e1;obtain ⟨-,dh,dn,dI,bG,aQ,aP,dJ⟩:=V.out.c8;go_upto_region 18 with fail;go_wp2_with (refine sR R.out ?_)
 clear bK DW dh dn dI bG aQ aP dJ;generalize aX:jC.setRow _ _=dQ;obtain ⟨D,N,V⟩:=f3 D N V (eR aX);replace R:=dV R aX;replace hw3:=tr hw3 aX;clear aX;exact vJ (v:=.tuple #[.agg #[.int .i64 3,.bool false,.int .i64 0,.string ⟨#[]⟩,.int .i64 0,.slice none 0 0,.slice none 0 0,.slice none 0 0],.bool true]) (by simp [results,Tryz.results60,go_sem,R.out.c8]) rfl (⟨by rw [HN.out];rfl,hw3⟩)):p:=h
theorem adl (xs:List fJ) (vn:Value) (t code:Nat) (w:World) (h5:0 < xs.length/\xs.length<=5) (ht:t < xs.length) (hk:ai5 xs[t]=3) (hy:xs[t].a % 4=0) (hr:jR w w.heap.size vn xs) :
  Calls Tryz.prog 60 #[.agg #[vn],.int .i64 t,.int .u8 code] w (RT w (.tuple #[BU (aT xs t code).1,.bool (aT xs t code).2])):=by
 have hin:aT xs t code=(.mk 3 false 0 [] 0 [] [] [],true):=by
  unfold aT;rw [m_ ht];simp [hk,hy]
 obtain ⟨A,c,rfl,hcap⟩:=hr.form;have HR:=hiQ hr;have hki:=fun W h => qp xs (.slice A xs.length c) t W ht h;rw [hk] at hki;have HI:=hiQ hki;have HN:=hiQ hin;obtain ⟨b,o,rfl,hb,hel⟩:=hr.elem h5.1;obtain ⟨vp,hcs,hn⟩:=hel t ht;obtain ⟨P,cp,rfl,hcp⟩:=hn.parts.form;obtain ⟨n0,n1,n2,n3,n4⟩:=hcs;have ht1:(t:Int) < xs.length:=by omega
 clear hel hr hki hin hk;generalize xs[t]=x at *;have ta:decide (0 < (x.a:Int) % 4)=false:=f_ (by omega);clear hy;exact zCu
theorem adn (xs:List fJ) (vn:Value) (t code:Nat) (w:World) (h5:0 < xs.length/\xs.length<=5) (ht:t < xs.length) (hk:ai5 xs[t]=3) (hy:0 < xs[t].a % 4) (hz:code % 2=0) (hr:jR w w.heap.size vn xs) :
  Calls Tryz.prog 60 #[.agg #[vn],.int .i64 t,.int .u8 code] w (RT w (.tuple #[BU (aT xs t code).1,.bool (aT xs t code).2])):=by
 have hin:aT xs t code=(.mk 3 false 0 [] 0 [] [] [],true):=by
  unfold aT;rw [m_ ht];simp [hk,hz]
 obtain ⟨A,c,rfl,hcap⟩:=hr.form;have HR:=hiQ hr;have hki:=fun W h => qp xs (.slice A xs.length c) t W ht h;rw [hk] at hki;have HI:=hiQ hki;have HN:=hiQ hin;obtain ⟨b,o,rfl,hb,hel⟩:=hr.elem h5.1;obtain ⟨vp,hcs,hn⟩:=hel t ht;obtain ⟨P,cp,rfl,hcp⟩:=hn.parts.form;obtain ⟨n0,n1,n2,n3,n4⟩:=hcs;have ht1:(t:Int) < xs.length:=by omega
 clear hel hr hki hin hk;generalize xs[t]=x at *;have ta:decide (0 < (x.a:Int) % 4)=true:=n_ (by omega);have tc:((code:Int) % 2 == 1)=false:=r_.2 (by omega);clear hy hz;exact zCu
theorem afJ (xs:List fJ) (vn:Value) (t code:Nat) (w:World) (hc:code < 256) (h5:0 < xs.length/\xs.length<=5) (ht:t < xs.length) (hk:ai5 xs[t]=2) (hr:jR w w.heap.size vn xs) :
  Calls Tryz.prog 60 #[.agg #[vn],.int .i64 t,.int .u8 code] w (RT w (.tuple #[BU (aT xs t code).1,.bool (aT xs t code).2])):=by
 have hin:aT xs t code=(.mk 2 false (vY xs[t]+(code:Int) % (tX xs[t] - vY xs[t]+1)) [] 0 [] [] [],true):=by
  exact zEq
 obtain ⟨A,c,rfl,hcap⟩:=hr.form;have HR:=hiQ hr;have hki:=fun W h => qp xs (.slice A xs.length c) t W ht h;rw [hk] at hki;have HI:=hiQ hki;have HN:=hiQ hin;obtain ⟨b,o,rfl,hb,hel⟩:=hr.elem h5.1;obtain ⟨vp,hcs,hn⟩:=hel t ht;obtain ⟨P,cp,rfl,hcp⟩:=hn.parts.form;obtain ⟨n0,n1,n2,n3,n4⟩:=hcs;have ht1:(t:Int) < xs.length:=by omega
 clear hel hr hki hin hk;have hlo:=fun W => Sl xs[t] (.slice P xs[t].parts.length cp) W hn.ints.2.1;have hhi:=fun W => Vw xs[t] (.slice P xs[t].parts.length cp) W hn.ints.2.1 hn.ints.2.2.1;have hr1:=I7 xs[t];have hr2:vY xs[t]<=tX xs[t]/\tX xs[t]<=vY xs[t]+5:=by unfold tX;omega
 generalize vY xs[t]=lo at *;generalize tX xs[t]=hi at *;have TP:=hiQ hlo;have HHI:=hiQ hhi;have hcc:(code:Int) < 256:=by omega
 have hmr:0<=(code:Int) % (hi - lo+1)/\(code:Int) % (hi - lo+1) < hi - lo+1:=⟨Int.emod_nonneg _ (by omega),Int.emod_lt_of_pos _ (by omega)⟩
 clear hlo hhi;generalize xs[t]=x at *;go_enter Tryz.func60,Tryz.ntmps60
 go_upto_region 2 with fail;refine Fj (fun wd2 hb1 D R N => ?_);have hw3:=hb1;clear hb1 n0 n1 n2 n3 n4;have dW:=D.out.e0;go_wp2_with fail;clear dW;((with_reducible refine (HI.out _ (HR.out.on hw3)).mono ?_);rintro e wd4 ⟨rfl,hb5⟩);obtain ⟨D,R,N⟩:=b3 D R N hb5;replace hw3:=dT hw3 hb5;clear hb5;go_upto_region 3 with fail;refine aO (fun jC hb6 V => ?_);have kH:=D.out.here;have oC:=R.out.here;have sH:=N.out.here;have hl12:=hw3.size;obtain ⟨D,R,N⟩:=b3 D R N hb6;replace hw3:=dT hw3 hb6;clear hb6;generalize wd4.heap.size=g8 at *;have bK:=V.out.e0;go_upto_region 9 with fail;have dn:=V.out.e2;have PK:=V.out.free 2;have e1:IntKind.i64.wrap (code:Int)=code:=E_ _ (by omega);have e2:IntKind.i64.wrap (hi - lo)=hi - lo:=E_ _ (by omega);have e3:IntKind.i64.wrap (hi - lo+1)=hi - lo+1:=E_ _ (by omega);have e4:¬ (hi - lo+1=0):=by omega
 have e5:(code:Int).tmod (hi - lo+1)=(code:Int) % (hi - lo+1):=O_ (by omega);have e6:IntKind.i64.wrap ((code:Int) % (hi - lo+1))=(code:Int) % (hi - lo+1):=E_ _ (by omega);have e7:IntKind.i64.wrap (lo+(code:Int) % (hi - lo+1))=lo+(code:Int) % (hi - lo+1):=E_ _ (by omega);have P9:=N.out.e0;have DW:=N.out.e1;have Qa:=N.out.e2;have Qb:=N.out.e3;have FZ:=N.out.e4;go_region_held3 (fun w' => w'.cell? ⟨w.heap.size+1+1,0,none⟩=some (.int .u8 x.kind)/\w'.cell? ⟨w.heap.size+1+1,1,none⟩=some (.int .u8 x.a)/\w'.cell? ⟨w.heap.size+1+1,2,none⟩=some (.int .u8 x.b)/\w'.cell? ⟨w.heap.size+1+1,3,none⟩=some (.int .u8 x.c)/\w'.cell? ⟨w.heap.size+1+1,4,none⟩=some (.slice P x.parts.length cp)) (first | (go_keep;done) | exact ⟨P9,DW,Qa,Qb,FZ⟩ | (((repeat' apply And.intro) <;> ((repeat (with_reducible (first | refine Eq.trans (Ec _ _) ?_ | refine Eq.trans (cell_far _ _ _ _ _ (by dsimp only;omega)) ?_)));assumption));done))
  (first
   | (go_at_call 35;(first | (with_reducible refine (TP.out _).mono ?_));rintro e wn ⟨rfl,hbn⟩;have D:Hid (Has wn (w.heap.size) 24 #[.slice (some ⟨b,o,none⟩) xs.length c]):=hiQ (by first | exact D.out.below hbn D.out.here | exact D.out.drew.below hbn D.out.here);have R:Hid (Has wn (w.heap.size+1) 34 #[.int .i64 0,.bool false,.int .i64 0,.string ⟨#[]⟩,.int .i64 0,.slice none 0 0,.slice none 0 0,.slice none 0 0]):=hiQ (by first | exact R.out.below hbn R.out.here | exact R.out.drew.below hbn R.out.here);have N:Hid (Has wn (w.heap.size+1+1) 80 #[.int .u8 x.kind,.int .u8 x.a,.int .u8 x.b,.int .u8 x.c,.slice P x.parts.length cp]):=hiQ (by first | exact N.out.below hbn N.out.here | exact N.out.drew.below hbn N.out.here);have V:Hid (Has wn (g8) 34 #[.int .i64 2,.bool false,.int .i64 0,.string ⟨#[]⟩,.int .i64 0,.slice none 0 0,.slice none 0 0,.slice none 0 0]):=hiQ (by first | exact V.out.below hbn V.out.here | exact V.out.drew.below hbn V.out.here);have hw3:Below w.heap.size w wn:=(by first | exact hw3.trans (hbn.mono hw3.size) | exact (hw3.drew).trans (hbn.mono hw3.size));have bK:wn.cell? ⟨g8,0,none⟩=some (.int .i64 2):=V.out.cell 0;have dn:wn.cell? ⟨g8,2,none⟩=some (.int .i64 0):=V.out.cell 2;have PK:wn.frozen? ⟨g8,2,none⟩=false:=V.out.free 2;have P9:wn.cell? ⟨w.heap.size+1+1,0,none⟩=some (.int .u8 x.kind):=N.out.cell 0;have DW:wn.cell? ⟨w.heap.size+1+1,1,none⟩=some (.int .u8 x.a):=N.out.cell 1;have Qa:wn.cell? ⟨w.heap.size+1+1,2,none⟩=some (.int .u8 x.b):=N.out.cell 2;have Qb:wn.cell? ⟨w.heap.size+1+1,3,none⟩=some (.int .u8 x.c):=N.out.cell 3;have FZ:wn.cell? ⟨w.heap.size+1+1,4,none⟩=some (.slice P x.parts.length cp):=N.out.cell 4)
   | (go_at_call 36;(first | (with_reducible refine (HHI.out _).mono ?_));rintro e wn ⟨rfl,hbn⟩;have D:Hid (Has wn (w.heap.size) 24 #[.slice (some ⟨b,o,none⟩) xs.length c]):=hiQ (by first | exact D.out.below hbn D.out.here | exact D.out.drew.below hbn D.out.here);have R:Hid (Has wn (w.heap.size+1) 34 #[.int .i64 0,.bool false,.int .i64 0,.string ⟨#[]⟩,.int .i64 0,.slice none 0 0,.slice none 0 0,.slice none 0 0]):=hiQ (by first | exact R.out.below hbn R.out.here | exact R.out.drew.below hbn R.out.here);have N:Hid (Has wn (w.heap.size+1+1) 80 #[.int .u8 x.kind,.int .u8 x.a,.int .u8 x.b,.int .u8 x.c,.slice P x.parts.length cp]):=hiQ (by first | exact N.out.below hbn N.out.here | exact N.out.drew.below hbn N.out.here);have V:Hid (Has wn (g8) 34 #[.int .i64 2,.bool false,.int .i64 0,.string ⟨#[]⟩,.int .i64 0,.slice none 0 0,.slice none 0 0,.slice none 0 0]):=hiQ (by first | exact V.out.below hbn V.out.here | exact V.out.drew.below hbn V.out.here);have hw3:Below w.heap.size w wn:=(by first | exact hw3.trans (hbn.mono hw3.size) | exact (hw3.drew).trans (hbn.mono hw3.size));have bK:wn.cell? ⟨g8,0,none⟩=some (.int .i64 2):=V.out.cell 0;have dn:wn.cell? ⟨g8,2,none⟩=some (.int .i64 0):=V.out.cell 2;have PK:wn.frozen? ⟨g8,2,none⟩=false:=V.out.free 2;have P9:wn.cell? ⟨w.heap.size+1+1,0,none⟩=some (.int .u8 x.kind):=N.out.cell 0;have DW:wn.cell? ⟨w.heap.size+1+1,1,none⟩=some (.int .u8 x.a):=N.out.cell 1;have Qa:wn.cell? ⟨w.heap.size+1+1,2,none⟩=some (.int .u8 x.b):=N.out.cell 2;have Qb:wn.cell? ⟨w.heap.size+1+1,3,none⟩=some (.int .u8 x.c):=N.out.cell 3;have FZ:wn.cell? ⟨w.heap.size+1+1,4,none⟩=some (.slice P x.parts.length cp):=N.out.cell 4))
 clear e1 e2 e3 e4 e5 e6 e7
 all_goals
  clear bK dn PK P9 DW Qa Qb FZ;generalize aX:wn.setCell _ _=dQ;obtain ⟨D,R,N⟩:=f3 D R N (eF aX);replace V:=Yx V aX;replace hw3:=tf hw3 aX;clear aX;obtain ⟨bK,dh,dn,dI,bG,aQ,aP,dJ⟩:=V.out.c8;go_upto_region 18 with fail;go_wp2_with (refine sR R.out ?_)
  clear bK dh dn dI bG aQ aP dJ;generalize adq:dQ.setRow _ _=jA;obtain ⟨D,N,V⟩:=f3 D N V (eR adq);replace R:=dV R adq;replace hw3:=tr hw3 adq;clear adq;exact vJ (v:=.tuple #[.agg #[.int .i64 2,.bool false,.int .i64 (lo+(code:Int) % (hi - lo+1)),.string ⟨#[]⟩,.int .i64 0,.slice none 0 0,.slice none 0 0,.slice none 0 0],.bool true]) (by simp [results,Tryz.results60,go_sem,R.out.c8]) rfl (⟨by rw [HN.out];rfl,hw3⟩)
theorem afK (xs:List fJ) (vn:Value) (t code:Nat) (w:World) (hc:code < 256) (h5:0 < xs.length/\xs.length<=5) (ht:t < xs.length) (hk:ai5 xs[t]=4) (hr:jR w w.heap.size vn xs) :
  Calls Tryz.prog 60 #[.agg #[vn],.int .i64 t,.int .u8 code] w (RT w (.tuple #[BU (aT xs t code).1,.bool (aT xs t code).2])):=by
 have hin:aT xs t code=(.mk 4 false 0 [] ((qK xs[t]).getD (code % (qK xs[t]).length) 0) [] [] [],true):=by
  exact zEq
 obtain ⟨A,c,rfl,hcap⟩:=hr.form;have HR:=hiQ hr;have hki:=fun W h => qp xs (.slice A xs.length c) t W ht h;rw [hk] at hki;have HI:=hiQ hki;have HN:=hiQ hin;obtain ⟨b,o,rfl,hb,hel⟩:=hr.elem h5.1;obtain ⟨vp,hcs,hn⟩:=hel t ht;obtain ⟨P,cp,rfl,hcp⟩:=hn.parts.form;obtain ⟨n0,n1,n2,n3,n4⟩:=hcs;have ht1:(t:Int) < xs.length:=by omega
 clear hel hr hki hin hk;have Ib:=fun W => Yy xs[t] (.slice P xs[t].parts.length cp) W;have hil:=zC xs[t];have hcc:(code:Int) < 256:=by omega
 unfold Sm at Ib;generalize qK xs[t]=l at *;have hmr:code % l.length < l.length:=Qo _ (by omega);have adV:=hiQ Ib;clear Ib;generalize xs[t]=x at *;go_enter Tryz.func60,Tryz.ntmps60
 go_upto_region 2 with fail;refine Fj (fun wd2 hb1 D R N => ?_);have hw3:=hb1;clear hb1 n0 n1 n2 n3 n4;have dW:=D.out.e0;go_wp2_with fail;clear dW;((with_reducible refine (HI.out _ (HR.out.on hw3)).mono ?_);rintro e wd4 ⟨rfl,hb5⟩);obtain ⟨D,R,N⟩:=b3 D R N hb5;replace hw3:=dT hw3 hb5;clear hb5;go_upto_region 3 with fail;refine aO (fun jC hb6 V => ?_);have kH:=D.out.here;have oC:=R.out.here;have sH:=N.out.here;have hl12:=hw3.size;obtain ⟨D,R,N⟩:=b3 D R N hb6;replace hw3:=dT hw3 hb6;clear hb6;generalize wd4.heap.size=g8 at *;have bK:=V.out.e0;have bG:=V.out.e4;have yQ:=V.out.free 4;go_upto_region 14 with fail;have e1:IntKind.i64.wrap (code:Int)=code:=E_ _ (by omega);have e4:¬ l = []:=by intro h;rw [h] at hil;simp at hil
 obtain ⟨y,hy⟩ : ∃ y,l[code % l.length]?=some y:=⟨l[code % l.length],m_ hmr⟩
 have HY:Hid ((l.map (Value.int .i64))[((code:Int) % l.length).toNat]?=some (.int .i64 y)):=by show _=_;rw [show ((code:Int) % l.length).toNat=code % l.length by omega,UQ,hy];rfl
 have Oi:Hid (l.getD (code % l.length) 0=y):=by show _=_;rw [Oa,hy];rfl
 clear hy;have e5:(code:Int).tmod l.length=(code:Int) % l.length:=O_ (by omega);have e6:0<=(code:Int) % l.length:=Int.emod_nonneg _ (by omega);have e7:(code:Int) % l.length < l.length:=Int.emod_lt_of_pos _ (by omega);have P9:=N.out.e0;have DW:=N.out.e1;have Qa:=N.out.e2;have Qb:=N.out.e3;have FZ:=N.out.e4;go_region_with
  (first
   | (go_at_call 37;(first | (with_reducible refine (adV.out _).mono ?_));rintro e wn ⟨vi,rfl,hown,hbn⟩;obtain ⟨gi,ci,rfl,hgb,hgl,hgc,hcell⟩:=Du hown (by omega);(try (have hfirst:=(hbn.cell (p:=⟨_,((code:Int) % l.length).toNat,none⟩) hgA).trans hcA));have hgA:=hgl;have hcA:=hcell _ _ HY.out;clear hcell hgl hgb hown;have D:Hid (Has wn (w.heap.size) 24 #[.slice (some ⟨b,o,none⟩) xs.length c]):=hiQ (by first | exact D.out.below hbn D.out.here | exact D.out.drew.below hbn D.out.here);have R:Hid (Has wn (w.heap.size+1) 34 #[.int .i64 0,.bool false,.int .i64 0,.string ⟨#[]⟩,.int .i64 0,.slice none 0 0,.slice none 0 0,.slice none 0 0]):=hiQ (by first | exact R.out.below hbn R.out.here | exact R.out.drew.below hbn R.out.here);have N:Hid (Has wn (w.heap.size+1+1) 80 #[.int .u8 x.kind,.int .u8 x.a,.int .u8 x.b,.int .u8 x.c,.slice P x.parts.length cp]):=hiQ (by first | exact N.out.below hbn N.out.here | exact N.out.drew.below hbn N.out.here);have V:Hid (Has wn (g8) 34 #[.int .i64 4,.bool false,.int .i64 0,.string ⟨#[]⟩,.int .i64 0,.slice none 0 0,.slice none 0 0,.slice none 0 0]):=hiQ (by first | exact V.out.below hbn V.out.here | exact V.out.drew.below hbn V.out.here);have hw3:Below w.heap.size w wn:=(by first | exact hw3.trans (hbn.mono hw3.size) | exact (hw3.drew).trans (hbn.mono hw3.size));have bK:wn.cell? ⟨g8,0,none⟩=some (.int .i64 4):=V.out.cell 0;have bG:wn.cell? ⟨g8,4,none⟩=some (.int .i64 0):=V.out.cell 4;have yQ:wn.frozen? ⟨g8,4,none⟩=false:=V.out.free 4;have P9:wn.cell? ⟨w.heap.size+1+1,0,none⟩=some (.int .u8 x.kind):=N.out.cell 0;have DW:wn.cell? ⟨w.heap.size+1+1,1,none⟩=some (.int .u8 x.a):=N.out.cell 1;have Qa:wn.cell? ⟨w.heap.size+1+1,2,none⟩=some (.int .u8 x.b):=N.out.cell 2;have Qb:wn.cell? ⟨w.heap.size+1+1,3,none⟩=some (.int .u8 x.c):=N.out.cell 3;have FZ:wn.cell? ⟨w.heap.size+1+1,4,none⟩=some (.slice P x.parts.length cp):=N.out.cell 4))
 clear e1 e4 e5 e6 e7
 all_goals
  clear bK bG yQ P9 DW Qa Qb FZ;generalize aX:wn.setCell _ _=dQ;obtain ⟨D,R,N⟩:=f3 D R N (eF aX);replace V:=zB V aX;replace hw3:=tf hw3 aX;clear aX;rw [Oi.out] at HN;obtain ⟨bK,dh,dn,dI,bG,aQ,aP,dJ⟩:=V.out.c8;go_upto_region 18 with fail;go_wp2_with (refine sR R.out ?_)
  clear bK dh dn dI bG aQ aP dJ;generalize adq:dQ.setRow _ _=jA;obtain ⟨D,N,V⟩:=f3 D N V (eR adq);replace R:=dV R adq;replace hw3:=tr hw3 adq;clear adq;exact vJ (v:=.tuple #[.agg #[.int .i64 4,.bool false,.int .i64 0,.string ⟨#[]⟩,.int .i64 y,.slice none 0 0,.slice none 0 0,.slice none 0 0],.bool true]) (by simp [results,Tryz.results60,go_sem,R.out.c8]) rfl (⟨by rw [HN.out];rfl,hw3⟩)
theorem Yl (xs:List fJ) (vn:Value) (t code:Nat) (w:World) (hc:code < 256) (h5:0 < xs.length/\xs.length<=5) (ht:t < xs.length) (hr:jR w w.heap.size vn xs) :
  Calls Tryz.prog 60 #[.agg #[vn],.int .i64 t,.int .u8 code] w (RT w (.tuple #[BU (aT xs t code).1,.bool (aT xs t code).2])):=by
 have hk:ai5 xs[t]=1\/ai5 xs[t]=2\/ai5 xs[t]=3\/ai5 xs[t]=4\/ai5 xs[t]=5\/ai5 xs[t]=6\/ai5 xs[t]=7\/ai5 xs[t]=8\/ai5 xs[t]=9:=by
  have:=vX xs[t];omega
 rcases hk with hk | hk | hk | hk | hk | hk | hk | hk | hk
 . exact afD xs vn t code w h5 ht hk hr
 . exact afJ xs vn t code w hc h5 ht hk hr
 .
  by_cases ha:xs[t].a % 4=0
  . exact adl xs vn t code w h5 ht hk ha hr
  by_cases hb:code % 2=1
  . exact adk xs vn t code w h5 ht hk ⟨by omega,hb⟩ hr
  exact adn xs vn t code w h5 ht hk (by omega) (by omega) hr
 . exact afK xs vn t code w hc h5 ht hk hr
 . exact afG xs vn t code w h5 ht hk hr
 . exact afH xs vn t code w h5 ht hk hr
 . exact afE xs vn t code w h5 ht hk hr
 .
  cases hj:vw xs 0 with
  | none => exact adi xs vn t code w h5 ht hk hj hr
  | some j => exact afI xs vn t code w h5 ht hk j hj hr
 exact afF xs vn t code w h5 ht hk hr
def Qc (m:Mem):List Value:=[.int .i64 m.id,.string ⟨m.name.toArray⟩,.int .i64 m.ty,.bool m.akb,.bool m.eG,.int .i64 m.dflt.kind,.bool m.dflt.bool,.int .i64 m.dflt.num,.string ⟨m.dflt.str.toArray⟩,.int .i64 m.dflt.id,.slice none 0 0,.slice none 0 0,.slice none 0 0]
theorem ayA (m:Mem):(Qc m).length=13:=rfl
def ado (ms:List Mem) (w:World) (e:Ending) (w':World):Prop := ∃ v,e = .returned v/\w'.ownsRow w.heap.size 76 13 v ms.length (ms.flatMap Qc)/\Below w.heap.size w w'
theorem EI (c:Nat) (h:c < 128):Utf8.encode (c:Int) = { data:=[UInt8.ofNat c].toArray }:=by
 have:∀ i:Fin 128,Utf8.encode ((i.val:Nat):Int) = { data:=[UInt8.ofNat i.val].toArray }:=by decide +kernel
 exact this ⟨c,h⟩
theorem Zh {α β:Type} (f:α->Option β):∀ (l:List α) (j:Nat) (h:j < l.length),(∀ q ∈ l.take j,f q=none)->∀ m,f l[j]=some m->l.findSome? f=some m
 | [],j,h,_,_,_ => by simp at h
 | a :: r,0,h,_,m,hm => by
  rw [List.findSome?_cons];have:f a=some m:=hm;rw [this]
 | a :: r,j+1,h,hq,m,hm => by
  rw [List.findSome?_cons,hq a (by simp)];exact Zh f r j (by simpa using h) (fun q h2 => hq q (by simp [h2])) m hm
theorem RG (xs:List fJ) (i code:Nat) (hi:i < xs.length) (t:Nat) (h:uN xs i code=some t):t < xs.length:=by
 unfold uN at h;split at h
 . injection h with h;subst h;exact Qo _ (by omega)
 split at h
 .
  injection h with h;subst h;have:=Qo (code % xs.length) (show 0 < i by omega);omega
 have:=Ip _ _ _ h;omega
theorem aj6 (k:Nat):tN 109 ((k+1:Nat):Int) = [109,UInt8.ofNat (98+k)]:=by
 unfold tN;rw [show (97+((k+1:Nat):Int)).toNat=98+k by omega]
 rfl
theorem acj (xs:List fJ) (i:Nat) (rc:Bool) (ps:List Aw) (k:Nat):(lH xs i rc ps k).length<=k:=by
 induction k with
 | zero => simp [lH]
 | succ k ih =>
  rw [lH,h_];have:(tK xs i rc ps (k+1)).length<=1:=by unfold tK;cases List.findSome? (partOf xs i rc (k+1)) ps <;> simp
  omega
theorem JM:(Tryz.prog.info? 76).map (fun i => (i.zero,i.size,i.bytes))=some (some (.agg #[.int .i64 0,.string ByteArray.empty,.int .i64 0,.bool false,.bool false,.int .i64 0,.bool false,.int .i64 0,.string ByteArray.empty,.int .i64 0,.slice none 0 0,.slice none 0 0,.slice none 0 0]),13,160):=by kernel_rfl
theorem zCt {p:Prop} (h:p:=by
 replace D:=hiQ (D.out.below hb3 (show w.heap.size < w.heap.size+1+1 by omega));replace N:=hiQ (N.out.below hb3 (show w.heap.size+1 < w.heap.size+1+1 by omega));replace hw:=hw.trans (hb3.mono (show w.heap.size<=w.heap.size+1+1 by omega));go_roundw
 case rel => exact ⟨k+1,by omega,by go_num,by rw [HM.out,h_,QG];exact hown3,hw,D.out,N.out⟩
 case measure => simp [intOf];omega):p:=h
theorem zDf {p:Prop} (h:p:=by
 go_upto_region 10 with fail;clear FZ;refine aO (fun fG hb4 P => ?_);have nI:=D.out.here;have mO:=N.out.here;have kH:=O.out.le;have oC:=hw.size;obtain ⟨D,N,O⟩:=b3 D N O hb4;replace hw:=dT hw hb4;clear hb4;generalize wr.heap.size=g6 at *;clear p0 p1 p2;have dW:=D.out.e0;have XD:=P.out.e1;go_wp2_with fail;clear dW XD;((with_reducible refine (HTG.out _ (HR.out.on hw)).mono ?_);rintro e dw ⟨rfl,fV⟩);obtain ⟨D,N,P,O⟩:=b4 D N P O fV;replace hw:=dT hw fV;clear fV;have afM:=P.out.e0;go_wp2_with fail;go_roundw
 case rel => exact ⟨j+1,by omega,by go_num,afL.out,O.out.now,hw,D.out,N.out⟩
 case measure => simp [intOf];omega):p:=h
theorem zIz {p:Prop} (h:p:=by
 clear iU iD je mQ kK qU qV qW qX qY oK oL oM P M O;exact zCt):p:=h
theorem abC (xs:List fJ) (vn:Value) (i:Nat) (rc:Bool) (w:World) (h5:0 < xs.length/\xs.length<=5) (hi:i < xs.length) (hr:jR w w.heap.size vn xs) :
  Calls Tryz.prog 38 #[.agg #[vn],.int .i64 i,.bool rc] w (ado (oH xs i rc xs[i].parts) w):=by
 obtain ⟨A,c,rfl,hcap⟩:=hr.form;have HR:=hiQ hr;obtain ⟨b,o,rfl,hb,hel⟩:=hr.elem h5.1;obtain ⟨vp,hcs,hn⟩:=hel i hi;obtain ⟨P0,cp,rfl,hcp⟩:=hn.parts.form;obtain ⟨n0,n1,n2,n3,n4⟩:=hcs;have ht1:(i:Int) < xs.length:=by omega
 have hpl:=hn.len;have HNP:=hiQ hn;clear hel hr hn;generalize xs[i]=x at *;go_enter Tryz.func38,Tryz.ntmps38
 go_upto_region 4 with fail;refine jg (fun wd2 hb1 D N => ?_);have hw3:=hb1;clear hb1 n0 n1 n2 n3 n4;go_loopw [8,9,10,11,12,13] (fun v id _ _ _ _ wr => ∃ k:Nat,k<=12/\id = .int .i64 ((k:Int)+1)/\wr.ownsRow (w.heap.size+1+1) 76 13 v (lH xs i rc x.parts k).length ((lH xs i rc x.parts k).flatMap Qc)/\Below w.heap.size w wr/\Has wr (w.heap.size) 24 #[.slice (some ⟨b,o,none⟩) xs.length c]/\Has wr (w.heap.size+1) 80 #[.int .u8 x.kind,.int .u8 x.a,.int .u8 x.b,.int .u8 x.c,.slice P0 x.parts.length cp])
  (fun _ id _ _ _ _ _ => 14 - (intOf id).toNat)
 case atStart => exact ⟨0,by omega,rfl,K_ _ _ _ _,hw3,D.out,N.out⟩
 case round =>
  obtain ⟨k,hk,rfl,hown,hw,D,N⟩:=hrel;have hkl:=acj xs i rc x.parts k;by_cases hlt:k < 12
  .
   clear hk;have tk:decide ((k:Int)+1<=12)=true:=n_ (by omega);go_wp2_with fail;obtain ⟨wo,rfl⟩ : ∃ wo:World,wo=wr:=⟨_,rfl⟩
   go_loopw [8,10,11,12,13] (fun v jj _ _ _ wi => ∃ j:Nat,j<=x.parts.length/\jj = .int .i64 j/\Hid (∀ q ∈ x.parts.take j,partOf xs i rc (k+1) q=none)/\wi.ownsRow (w.heap.size+1+1) 76 13 v (lH xs i rc x.parts k).length ((lH xs i rc x.parts k).flatMap Qc)/\Below w.heap.size w wi/\Has wi (w.heap.size) 24 #[.slice (some ⟨b,o,none⟩) xs.length c]/\Has wi (w.heap.size+1) 80 #[.int .u8 x.kind,.int .u8 x.a,.int .u8 x.b,.int .u8 x.c,.slice P0 x.parts.length cp])
    (fun _ jj _ _ _ _ => x.parts.length - (intOf jj).toNat)
   case atStart => exact ⟨0,by omega,rfl,(fun q hq => by simp at hq:∀ q ∈ x.parts.take 0,_),hown,hw,D,N⟩
   case round =>
    clear hown hw D N wo;obtain ⟨j,hj,rfl,HQ,hown,hw,D,N⟩:=hrel;replace D:=hiQ D;replace N:=hiQ N;have O:=hiQ (Kept.own hown);have FZ:=N.out.e4;by_cases hjl:j < x.parts.length
    .
     obtain ⟨xb2,o2,rfl,hb2,hpc⟩:=HNP.out.parts.at_ (by omega);obtain ⟨hp0,hp1,hp2⟩:=HNP.out.ins x.parts[j] (jl hjl);have aj7:=hpc (j*3) (.int .u8 x.parts[j].1) (by rw [show j*3=j*3+0 from rfl,flat_get G7 x.parts j 0 hjl (by omega)];rfl);have aj8:=hpc (j*3+1) (.int .u8 x.parts[j].2.1) (by rw [flat_get G7 x.parts j 1 hjl (by omega)];rfl);have aj9:=hpc (j*3+2) (.int .u8 x.parts[j].2.2) (by rw [flat_get G7 x.parts j 2 hjl (by omega)];rfl);have p0:=(hw.cell (p:=⟨xb2,_,none⟩) hb2).trans aj7;have p1:wr.cell? ⟨xb2,o2+j*3+1,none⟩=some (.int .u8 x.parts[j].2.1):=by rw [Us];exact (hw.cell (p:=⟨xb2,_,none⟩) hb2).trans aj8
     have p2:wr.cell? ⟨xb2,o2+j*3+2,none⟩=some (.int .u8 x.parts[j].2.2):=by rw [Us];exact (hw.cell (p:=⟨xb2,_,none⟩) hb2).trans aj9
     have htk:x.parts.take (j+1)=x.parts.take j ++ [x.parts[j]]:=vK hjl;have wO:Hid (∀ m,partOf xs i rc (k+1) x.parts[j]=some m->lH xs i rc x.parts (k+1)=lH xs i rc x.parts k ++ [m]):=by
      intro m hm;have:tK xs i rc x.parts (k+1) = [m]:=by
       unfold tK;rw [Zh (partOf xs i rc (k+1)) x.parts j hjl HQ.out m hm]
       rfl
      rw [lH,this]
     have HTN:Hid (partOf xs i rc (k+1) x.parts[j]=none->∀ q ∈ x.parts.take (j+1),partOf xs i rc (k+1) q=none):=by
      intro hm q hq;rw [htk] at hq;rcases Dp.1 hq with h | h
      . exact HQ.out q h
      rw [Qp.1 h];exact hm
     have htg:=fun W h => aaQ xs (.slice (some ⟨b,o,none⟩) xs.length c) i x.parts[j].2.1 W hp1 h5 h;have hpo:partOf xs i rc (k+1) x.parts[j]=match uN xs i x.parts[j].2.1 with
      | none => none
      | some t => if 1+x.parts[j].1 % 12=k+1 then
        some { id:=((k+1:Nat):Int),name:=tN 109 ((k+1:Nat):Int),ty:=t,akb:=rc && decide (x.parts[j].2.2 % 4=1),eG:=(if rc && decide (2<=x.parts[j].2.2 % 4) then aT xs t (x.parts[j].2.2 / 4) else (jm,false)).2,dflt:=(if rc && decide (2<=x.parts[j].2.2 % 4) then aT xs t (x.parts[j].2.2 / 4) else (jm,false)).1 }
       else none:=rfl
     have htl:=fun tt => RG xs i x.parts[j].2.1 hi tt;generalize uN xs i x.parts[j].2.1=tg at *;generalize x.parts[j]=pq at *;obtain ⟨q0,q1,q2⟩:=pq;simp only at *;have HTG:=hiQ htg;clear htk htg hpc aj7 aj8 aj9;have hq0:(q0:Int) < 256:=by omega
     have hq2:(q2:Int) < 256:=by omega
     have hm0:0<=(q0:Int) % 12/\(q0:Int) % 12<=11:=by omega
     by_cases hid:1+q0 % 12=k+1
     .
      have tid:(1+(q0:Int) % 12 != (k:Int)+1)=false:=by rw [bne_eq_false_iff_eq];omega
      cases tg with
      | none =>
       have afL:=hiQ (HTN.out hpo);clear HTN wO hpo HQ htl hid;exact zDf
      | some t =>
       simp only [hid,if_true] at hpo;have anr:=htl t rfl;have HM:=hiQ (wO.out _ hpo);clear HTN wO hpo HQ htl hid;have tlt:decide ((t:Int) < 0)=false:=f_ (by omega);replace HTG:Hid (∀ W,_->Calls _ _ _ W (fun e w' => e = .returned (.int .i64 (t:Int))/\Below W.heap.size W w')):=HTG;have hkk:(k:Int)+1<=12:=by omega
       go_upto_region 10 with fail;clear FZ;refine aO (fun fG hb4 P => ?_);have nI:=D.out.here;have mO:=N.out.here;have kH:=O.out.le;have oC:=hw.size;obtain ⟨D,N,O⟩:=b3 D N O hb4;replace hw:=dT hw hb4;clear hb4;generalize wr.heap.size=g6 at *;clear p0 p1 p2;have dW:=D.out.e0;have XD:=P.out.e1;go_wp2_with fail;clear dW XD;((with_reducible refine (HTG.out _ (HR.out.on hw)).mono ?_);rintro e dw ⟨rfl,fV⟩);obtain ⟨D,N,P,O⟩:=b4 D N P O fV;replace hw:=dT hw fV;clear fV;have afM:=P.out.e0;go_upto_region 12 with fail;obtain ⟨q,hq,Hq⟩ : ∃ q:Nat,97+((k:Int)+1)=(q:Int)/\Hid (q=98+k):=⟨98+k,by omega,rfl⟩
       have JY:(q:Int) < 128:=by have:=Hq.out;omega
       have hs:(Utf8.encode (q:Int)).size=1:=by rw [EI q (by omega)];rfl
       go_upto_region 13 with fail;have hstr:({ data:=#[109] } : ByteArray) ++ Utf8.encode (q:Int) = { data:=(tN 109 ((k+1:Nat):Int)).toArray }:=by
        rw [EI q (by omega),Hq.out];rw [aj6 k];exact qO [109] [UInt8.ofNat (98+k)]
       generalize tN 109 ((k+1:Nat):Int)=nm at *;rw [hstr];clear hstr hs JY Hq hq afM;refine aO (fun oZ kR M => ?_);have alj:=D.out.here;have sO:=N.out.here;have sW:=P.out.here;have Az:=O.out.le;have BQ:=hw.size;obtain ⟨D,N,P,O⟩:=b4 D N P O kR;replace hw:=dT hw kR;clear kR;generalize dw.heap.size=g15 at *;cases rc with
       | false =>
        obtain ⟨iU,iD,je,mQ,kK,qU,qV,qW,qX,qY,oK,oL,oM⟩:=M.out.c13;go_upto_region 17 with fail;have hbase:w.heap.size+1+1<=oZ.heap.size:=N.out.here;go_wp2_with (at_builtin;refine tC rfl _ _ _ rfl (w.heap.size+1+1) 76 _ 13 160 Tryz.underlying70 JM rfl (by decide) _ _ _ rfl O.out.now [.int .i64 ((k:Int)+1),.string ⟨nm.toArray⟩,.int .i64 (t:Int),.bool false,.bool false,.int .i64 0,.bool false,.int .i64 0,.string ⟨#[]⟩,.int .i64 0,.slice none 0 0,.slice none 0 0,.slice none 0 0] _ 1 _ rfl rfl rfl (by simp [Value.oneCell']) (by omega) (by omega) hbase ?_;intro v3 w3 hown3 hb3)
        exact zIz
       | true =>
        have afN:=P.out.e2;have hm2:0<=(q2:Int) % 4:=by omega
        by_cases h1:q2 % 4=1
        .
         have t1:((q2:Int) % 4 == 1)=true:=TL.2 (by omega);have t2:decide (2<=(q2:Int) % 4)=false:=f_ (by omega);have EC:=HM.out;rw [show decide (q2 % 4=1)=true from n_ h1,show decide (2<=q2 % 4)=false from f_ (by omega)] at EC;replace HM:=hiQ EC;clear EC h1;have mQ:=M.out.e3;have afO:=M.out.free 3;go_upto_region 17 with fail;clear afN mQ afO;generalize qj:oZ.setCell _ _=jU;obtain ⟨D,N,P,O⟩:=f4 D N P O (eF qj);replace M:=Vx M qj;replace hw:=tf hw qj;clear qj;obtain ⟨iU,iD,je,mQ,kK,qU,qV,qW,qX,qY,oK,oL,oM⟩:=M.out.c13;go_upto_region 17 with fail;have hbase:w.heap.size+1+1<=jU.heap.size:=N.out.here;go_wp2_with (at_builtin;refine tC rfl _ _ _ rfl (w.heap.size+1+1) 76 _ 13 160 Tryz.underlying70 JM rfl (by decide) _ _ _ rfl O.out.now [.int .i64 ((k:Int)+1),.string ⟨nm.toArray⟩,.int .i64 (t:Int),.bool true,.bool false,.int .i64 0,.bool false,.int .i64 0,.string ⟨#[]⟩,.int .i64 0,.slice none 0 0,.slice none 0 0,.slice none 0 0] _ 1 _ rfl rfl rfl (by simp [Value.oneCell']) (by omega) (by omega) hbase ?_;intro v3 w3 hown3 hb3)
         exact zIz
        by_cases h2:2<=q2 % 4
        .
         have t1:((q2:Int) % 4 == 1)=false:=r_.2 (by omega);have t2:decide (2<=(q2:Int) % 4)=true:=n_ (by omega);have EC:=HM.out;rw [show decide (q2 % 4=1)=false from f_ h1,show decide (2<=q2 % 4)=true from n_ h2] at EC;have EC:_=_ ++ [Mem.mk _ _ _ false (aT xs t (q2 / 4)).2 (aT xs t (q2 / 4)).1]:=EC;have hin:=fun W h => Yl xs (.slice (some ⟨b,o,none⟩) xs.length c) t (q2 / 4) W (by omega) h5 anr h;have hqq:(q2:Int) / 4=((q2 / 4:Nat):Int):=by push_cast;rfl
         generalize aT xs t (q2 / 4)=iv at *;obtain ⟨iv,ib⟩:=iv;simp only at hin EC;generalize q2 / 4=qd at *;replace HM:=hiQ EC;have FI:=hiQ hin;clear EC h1 h2 hin;have dW:=D.out.e0;go_upto_region 16 with fail;go_wp2_with fail;clear afN dW;((with_reducible refine (FI.out _ (HR.out.on hw)).mono ?_);rintro e jU ⟨rfl,ng⟩);obtain ⟨D,N,P,M,O⟩:=b5 D N P M O ng;replace hw:=dT hw ng;clear ng;obtain ⟨iU,iD,je,mQ,kK,qU,qV,qW,qX,qY,oK,oL,oM⟩:=M.out.c13;have afO:=M.out.free 3;have ant:=M.out.free 4;have anu:=M.out.free 5;have anv:=M.out.free 6;have anw:=M.out.free 7;have anx:=M.out.free 8;have anz:=M.out.free 9;have akD:=M.out.free 10;have akE:=M.out.free 11;have akF:=M.out.free 12;go_upto_region 17 with fail;clear iU iD je mQ kK qU qV qW qX qY oK oL oM afO ant anu anv anw anx anz akD akE akF;generalize o8:jU.setCell _ _=o9;obtain ⟨D,N,P,O⟩:=f4 D N P O (eF o8);replace M:=Ea M o8;replace hw:=tf hw o8;clear o8;generalize CZ:o9.setCell _ _=pF;obtain ⟨D,N,P,O⟩:=f4 D N P O (eF CZ);replace M:=qM M CZ;replace hw:=tf hw CZ;clear CZ;generalize rX:pF.setCell _ _=Bd;obtain ⟨D,N,P,O⟩:=f4 D N P O (eF rX);replace M:=Ky M rX;replace hw:=tf hw rX;clear rX;generalize ku:Bd.setCell _ _=BR;obtain ⟨D,N,P,O⟩:=f4 D N P O (eF ku);replace M:=JZ M ku;replace hw:=tf hw ku;clear ku;generalize CY:BR.setCell _ _=vV;obtain ⟨D,N,P,O⟩:=f4 D N P O (eF CY);replace M:=Cc M CY;replace hw:=tf hw CY;clear CY;generalize jD:vV.setCell _ _=wR;obtain ⟨D,N,P,O⟩:=f4 D N P O (eF jD);replace M:=amu M jD;replace hw:=tf hw jD;clear jD
         generalize lI:wR.setCell _ _=vT;obtain ⟨D,N,P,O⟩:=f4 D N P O (eF lI);replace M:=amv M lI;replace hw:=tf hw lI;clear lI;generalize akW:vT.setCell _ _=zl;obtain ⟨D,N,P,O⟩:=f4 D N P O (eF akW);replace M:=amw M akW;replace hw:=tf hw akW;clear akW;generalize mZ:zl.setCell _ _=E5;obtain ⟨D,N,P,O⟩:=f4 D N P O (eF mZ);replace M:=zB M mZ;replace hw:=tf hw mZ;clear mZ;obtain ⟨iU,iD,je,mQ,kK,qU,qV,qW,qX,qY,oK,oL,oM⟩:=M.out.c13;go_upto_region 17 with fail;have hbase:w.heap.size+1+1<=E5.heap.size:=N.out.here;go_wp2_with (at_builtin;refine tC rfl _ _ _ rfl (w.heap.size+1+1) 76 _ 13 160 Tryz.underlying70 JM rfl (by decide) _ _ _ rfl O.out.now [.int .i64 ((k:Int)+1),.string ⟨nm.toArray⟩,.int .i64 (t:Int),.bool false,.bool ib,.int .i64 iv.kind,.bool iv.bool,.int .i64 iv.num,.string ⟨iv.str.toArray⟩,.int .i64 iv.id,.slice none 0 0,.slice none 0 0,.slice none 0 0] _ 1 _ rfl rfl rfl (by simp [Value.oneCell']) (by omega) (by omega) hbase ?_;intro v3 w3 hown3 hb3)
         exact zIz
        have t1:((q2:Int) % 4 == 1)=false:=r_.2 (by omega);have t2:decide (2<=(q2:Int) % 4)=false:=f_ (by omega);have EC:=HM.out;rw [show decide (q2 % 4=1)=false from f_ h1,show decide (2<=q2 % 4)=false from f_ h2] at EC;replace HM:=hiQ EC;clear EC h1 h2;obtain ⟨iU,iD,je,mQ,kK,qU,qV,qW,qX,qY,oK,oL,oM⟩:=M.out.c13;go_upto_region 17 with fail;have hbase:w.heap.size+1+1<=oZ.heap.size:=N.out.here;go_wp2_with (at_builtin;refine tC rfl _ _ _ rfl (w.heap.size+1+1) 76 _ 13 160 Tryz.underlying70 JM rfl (by decide) _ _ _ rfl O.out.now [.int .i64 ((k:Int)+1),.string ⟨nm.toArray⟩,.int .i64 (t:Int),.bool false,.bool false,.int .i64 0,.bool false,.int .i64 0,.string ⟨#[]⟩,.int .i64 0,.slice none 0 0,.slice none 0 0,.slice none 0 0] _ 1 _ rfl rfl rfl (by simp [Value.oneCell']) (by omega) (by omega) hbase ?_;intro v3 w3 hown3 hb3)
        clear afN iU iD je mQ kK qU qV qW qX qY oK oL oM P M O;exact zCt
     have tid:(1+(q0:Int) % 12 != (k:Int)+1)=true:=by rw [TM];omega
     have hno:partOf xs i rc (k+1) (q0,q1,q2)=none:=by
      rw [hpo];cases tg with
      | none => rfl
      | some t => simp only [hid,if_false]
     have afL:=hiQ (HTN.out hno);clear HTN wO hpo hno HQ htl hid;exact zDf
    obtain rfl:j=x.parts.length:=by omega
    have hk1:lH xs i rc x.parts (k+1)=lH xs i rc x.parts k:=by
     have:tK xs i rc x.parts (k+1) = []:=by
      unfold tK;rw [List.findSome?_eq_none_iff.2 (fun q hq => HQ.out q (by rwa [List.take_length]))]
      rfl
     rw [lH,this,Vs]
    have F5:=hiQ hk1;clear hk1;go_wp2_with fail;go_roundw
    case rel => exact ⟨k+1,by omega,by go_num,by rw [F5.out];exact O.out.now,hw,D.out,N.out⟩
    case measure => simp [intOf];omega
  obtain rfl:k=12:=by omega
  go_wp2_with fail;obtain ⟨A1,c1,rfl⟩:=jF hown;go_ret;exact ⟨_,rfl,own_base hown (by omega),hw⟩
