/- What the reader of canonical bytes takes for a type without defaults: form. What the reader of canonical bytes takes for a default without parts: full. No condition. -/
import Derived.Test.YtlamhkffnlgofaaGreatDoorHAM
import Derived.Test.YtlamhkffnlgofaaGreatDoorShelf
import Derived.Lib.AppendIntMem
import Derived.Lib.SmallJoins
set_option maxHeartbeats 800000
set_option maxRecDepth 100000
namespace Go.Proofs.YtlamhkffnlgofaaGreatDoor
open Go.ChangeShapes Go.WideShapes Go.ChangeAt Go.RowKit
theorem arA {w w':World} {gr:Nat} (K:w.grownBy w' (some gr)) (hg:gr≤w.heap.size):Below gr w w' :=
 ⟨K.os,K.tape,K.output,K.size,fun k hk => K.block k (by omega) (fun e => by injection e;omega)⟩
abbrev ar5 (w:World):Prop:=Lib.TabIs Tryz.prog w "internal/strconv.uint64pow10" .u64 Lib.pow10Tab
theorem an6 (n:Nat) (hn:n≤1000) (w:World) (h:ar5 w):Calls Tryz.prog 69 #[.int .i64 (n:Nat)] w (RTq w (.string ⟨(Lib.itoa n).toArray⟩)) :=
 (Tryz.strconv_Itoa n (by omega) (by omega) w h).mono fun _ _ ⟨h1,k,os,h2⟩ => ⟨h1,h2 ▸ Lib.below_grow _ _ (Nat.le_refl _) k os⟩
def ail (m:Mem):List Value:=ZK m (.slice none 0 0) (.slice none 0 0) (.slice none 0 0)
structure air (w:World) (lo hi:Nat) (x:ay) (vs vm:Value):Prop where
 syms:w.ownsRow lo 105 2 vs x.syms.length (jO x.syms)
 atI:∀ k,vs.ownBlock=some k→k < hi
 ah:w.ownsRow lo 83 13 vm x.ah.length (x.ah.flatMap ail)
 arC:∀ k,vm.ownBlock=some k→k < hi
theorem air.nil {w:World} {lo hi:Nat} {x:ay} (h1:x.syms = []) (h2:x.ah = []):air w lo hi x (.slice none 0 0) (.slice none 0 0):=by
 refine ⟨by rw [h1];exact World.ownsRow_nil _ _ _ _,fun k h => (by cases h),by rw [h2];exact World.ownsRow_nil _ _ _ _,fun k h => (by cases h)⟩
def akU (gr:Nat) (r:List UInt8) (x:ay) (w:World) (e:Ending) (w':World):Prop :=
 ∃ vs vm,e = .returned (dA x vs vm)∧air w' w.heap.size w'.heap.size x vs vm∧Y6 w' gr r 0∧w.grownBy w' (some gr)
theorem aCI (n:Nat) (r:List UInt8) (k gr:Nat) (w:World) (hr:Y6 w gr (pJ 9 1 ++ r) k) :
  Calls Tryz.prog 62 #[.pointer (some ⟨gr,0,none⟩),.int .i64 (n:Nat)] w (akU gr r ⟨1,[],0,0,0,[],[],0,0,false⟩ w):=by
 have R:=hr;have hgr:=hr.here;have KG:=qR0 w (some gr);clear hr;replace R:=hiQ R;go_enter Tryz.func62,Tryz.ntmps62
 go_upto_region 1 with fail;refine aO (fun wd2 hb1 Z => ?_);replace R:=qB R hb1;replace KG:=qkB KG hb1;clear hb1;go_wp2_with fail;((with_reducible refine (an1 9 (by decide) 1 1 rfl (by decide) _ k gr _ R.out).mono ?_);rintro e wd3 ⟨rfl,hR4,hK5⟩);replace Z:=qH Z hK5 (by omega);replace R:=hiQ hR4;replace KG:=qT KG hK5;clear hR4 hK5;go_upto_region 2 with fail;refine aO (fun jC hb6 X => ?_);have kH:=Z.out.here;have oC:=KG.size;replace Z:=b1 Z hb6;replace R:=qB R hb6;replace KG:=qkB KG hb6;clear hb6;generalize wd3.heap.size=g8 at *;have aK:=X.out.e0;obtain ⟨-,bJ,bY,bZ,dL,eX,bU,dD,dM,dU⟩:=X.out.c10;go_wp2_with (refine sR Z.out ?_)
 clear aK bJ bY bZ dL eX bU dD dM dU;generalize fP:jC.setRow _ _=dw;replace X:=f1 X (eR fP);replace R:=qR R fP (by omega);replace KG:=qkR KG fP (by omega);replace Z:=dV Z fP;clear fP;exact bodyPost_ret (v:=.agg #[.int .i64 1,.string ⟨#[]⟩,.int .i64 0,.int .i64 0,.int .i64 0,.slice none 0 0,.slice none 0 0,.int .i64 0,.int .i64 0,.bool false]) (by simp [results,Tryz.results62,go_sem,Z.out.c10]) rfl (⟨_,_,rfl,air.nil rfl rfl,R.out,KG⟩)
def alF (p:Nat × Nat × Nat):Mem:={ id:=p.1,name:=rF 102 (p.1:Int),ty:=(p.2.2:Nat),akb:=((p.2.1:Int) == 1),eG:=((p.2.1:Int) == 2),dflt:=jm }
def asZ (p:Nat × Nat × Nat):List UInt8:=pJ 9 p.1 ++ (pJ 9 p.2.1 ++ pJ 9 p.2.2)
def axE (p:Nat × Nat × Nat):Prop:=p.1≤1000∧p.2.1≤2∧p.2.2≤32
theorem aCQ (n:Nat) (hn:n≤1000) (l:List (Nat × Nat × Nat)) (hl:l.length≤16) (hb:∀ p ∈ l,axE p) (r:List UInt8) (k gr:Nat) (w:World) (hp:∀ W,Below gr w W→ar5 W) (hr:Y6 w gr (pJ 9 5 ++ (pJ 9 l.length ++ (l.flatMap asZ ++ r))) k) :
  Calls Tryz.prog 62 #[.pointer (some ⟨gr,0,none⟩),.int .i64 (n:Nat)] w (akU gr r ⟨5,rF 84 n,0,0,0,[],l.map alF,0,0,false⟩ w):=by
 have HB1:=hiQ hb;clear hb;have HP:=hiQ hp;clear hp;have R:=hr;have hgr:=hr.here;have KG:=qR0 w (some gr);clear hr;replace R:=hiQ R;go_enter Tryz.func62,Tryz.ntmps62
 go_upto_region 1 with fail;refine aO (fun wd2 hb1 Z => ?_);replace R:=qB R hb1;replace KG:=qkB KG hb1;clear hb1;go_wp2_with fail;((with_reducible refine (an1 9 (by decide) 5 5 rfl (by decide) _ k gr _ R.out).mono ?_);rintro e wd3 ⟨rfl,hR4,hK5⟩);replace Z:=qH Z hK5 (by omega);replace R:=hiQ hR4;replace KG:=qT KG hK5;clear hR4 hK5;go_upto_region 2 with fail;refine aO (fun jC hb6 X => ?_);have kH:=Z.out.here;have oC:=KG.size;replace Z:=b1 Z hb6;replace R:=qB R hb6;replace KG:=qkB KG hb6;clear hb6;generalize wd3.heap.size=g8 at *;have hnl:=af5 84 n (by unfold I64;omega);have hil:(Lib.itoa n).length≤30:=by unfold rF at hnl;rw [List.length_cons] at hnl;omega
 obtain ⟨nm,hnm⟩ : ∃ nm,rF 84 n=nm:=⟨_,rfl⟩
 rw [hnm];have HNM:=hiQ hnm;clear hnm hnl;have aK:=X.out.e0;go_upto_region 3 with fail;clear aK;go_wp2_with fail;((with_reducible refine (an6 n hn _ (HP.out _ (arA KG (by omega)))).mono ?_);rintro e dw ⟨rfl,fV⟩);obtain ⟨Z,X⟩:=b2 Z X fV;replace R:=qB R fV;replace KG:=qkB KG fV;clear fV;obtain ⟨q,hq⟩ : ∃ q,Lib.itoa (n:Int)=q:=⟨_,rfl⟩
 have hstr:Hid (84 :: q=nm):=by show _=_;rw [← hq];exact HNM.out
 rw [hq] at hil ⊢;clear hq;have bJ:=X.out.e1;have avJ:=X.out.free 1;go_upto_region 4 with fail;rw [qO [84] q,show ([84] ++ q:List UInt8)=nm from hstr.out];clear hstr hil bJ avJ;generalize aX:dw.setCell _ _=dQ;replace Z:=f1 Z (eF aX);replace R:=qS R aX (by omega);replace KG:=qkS KG aX (by omega);replace X:=yT X aX;clear aX;obtain ⟨gX,rfl⟩ : ∃ g,g=g8:=⟨_,rfl⟩
 have aK:=X.out.e0;go_wp2_with fail;clear aK;((with_reducible refine (an1 16 (by decide) (l.length:Nat) l.length rfl (by omega) _ 0 gr _ R.out).mono ?_);rintro e jA ⟨rfl,alI,AA⟩);replace Z:=qH Z AA (by omega);replace X:=qH X AA (by omega);replace R:=hiQ alI;replace KG:=qT KG AA;clear alI AA;go_upto_region 22 with fail;have zD:=KG.size;have Yu:=Z.out;have hX0:=X.out;have hR0:=R.out;have hN0:jA.ownsRow (gX+1) 83 13 (.slice none 0 0) 0 []:=World.ownsRow_nil _ _ _ _;go_loopw [74] (fun s74 wr => ∃ (k:Nat) (A:Option Addr) (c:Nat),k≤l.length∧s74 = .int .i64 k∧Has wr w.heap.size 71 #[.int .i64 0,.string ⟨#[]⟩,.int .i64 0,.int .i64 0,.int .i64 0,.slice none 0 0,.slice none 0 0,.int .i64 0,.int .i64 0,.bool false]∧Has wr gX 71 #[.int .i64 5,.string ⟨nm.toArray⟩,.int .i64 0,.int .i64 0,.int .i64 0,.slice none 0 0,.slice A k c,.int .i64 0,.int .i64 0,.bool false]∧wr.ownsRow (gX+1) 83 13 (.slice A k c) k (((l.take k).map alF).flatMap ail)∧Y6 wr gr ((l.drop k).flatMap asZ ++ r) 0∧w.grownBy wr (some gr)) (fun s74 _ => l.length - (intOf s74).toNat)
 case atStart => exact ⟨0,none,0,Nat.zero_le _,rfl,Yu,hX0,hN0,hR0,KG⟩
 case round =>
  clear Z X R KG Yu hX0 hR0 hN0 zD;obtain ⟨k,A,c,hkl,rfl,Z,X,hown,R,KG⟩:=hrel;by_cases hlt:k < l.length
  ·
   obtain ⟨hi1,hi2,hi3⟩:=HB1.out _ (List.getElem_mem hlt);have htk:((l.take (k+1)).map alF).flatMap ail=((l.take k).map alF).flatMap ail ++ ail (alF l[k]):=by
    rw [List.take_add_one,List.map_append,List.getElem?_eq_getElem hlt,List.flatMap_append];simp
   rw [List.drop_eq_getElem_cons hlt,List.flatMap_cons,List.append_assoc] at R;generalize l[k]=u at *;obtain ⟨ui,uf,ut⟩:=u;simp only at hi1 hi2 hi3;rw [show asZ (ui,uf,ut)=pJ 9 ui ++ (pJ 9 uf ++ pJ 9 ut) from rfl,List.append_assoc,List.append_assoc] at R;have wO:=hiQ htk;have hd1:decide (l.length≤k)=false:=by simpa using hlt
   have hsl:(rF 102 (ui:Int)).length≤30:=af5 102 ui (by unfold I64;omega);have hil:(Lib.itoa (ui:Int)).length≤30:=by unfold rF at hsl;rw [List.length_cons] at hsl;omega
   clear htk;replace R:=hiQ R;replace Z:=hiQ Z;replace X:=hiQ X;have O:=hiQ (Kept.own hown);clear hown;have hlt':(k:Int) < l.length:=by omega
   go_wp2_with fail;((with_reducible refine (an1 1000 (by decide) (ui:Nat) ui rfl (by omega) _ 0 gr _ R.out).mono ?_);rintro e yx ⟨rfl,aCR,SX⟩);replace Z:=qH Z SX (by omega);replace X:=qH X SX (by omega);replace O:=qN O SX (by omega);replace R:=hiQ aCR;replace KG:=qT KG SX;clear aCR SX;go_upto_region 24 with fail;refine aO (fun lq gq M => ?_);have sJ:=Z.out.here;have uP:=X.out.here;have sN:=O.out.le;have uQ:=KG.size;obtain ⟨Z,X,O⟩:=b3 Z X O gq;replace R:=qB R gq;replace KG:=qkB KG gq;clear gq;generalize yx.heap.size=g23 at *;have iU:=M.out.e0;go_wp2_with fail;clear iU;((with_reducible refine (an6 ui hi1 _ (HP.out _ (arA KG (by omega)))).mono ?_);rintro e Eu ⟨rfl,afk⟩);obtain ⟨Z,X,M,O⟩:=b4 Z X M O afk;replace R:=qB R afk;replace KG:=qkB KG afk;clear afk;obtain ⟨q1,hq⟩ : ∃ q,Lib.itoa (ui:Int)=q:=⟨_,rfl⟩
   have hstr:Hid (rF 102 (ui:Int)=102 :: q1):=by show _=_;rw [← hq];rfl
   rw [hq] at hil ⊢;have Ic:¬ 9223372036854775807 < 1+q1.length:=by omega
   clear hq;have iD:=M.out.e1;have ap8:=M.out.free 1;go_upto_region 25 with fail;rw [qO [102] q1];clear iD ap8;generalize aaP:Eu.setCell _ _=ank;obtain ⟨Z,X,O⟩:=f3 Z X O (eF aaP);replace R:=qS R aaP (by omega);replace KG:=qkS KG aaP (by omega);replace M:=yT M aaP;clear aaP;go_wp2_with fail;((with_reducible refine (an1 2 (by decide) (uf:Nat) uf rfl (by omega) _ 0 gr _ R.out).mono ?_);rintro e zy ⟨rfl,aCS,auc⟩);replace Z:=qH Z auc (by omega);replace X:=qH X auc (by omega);replace M:=qH M auc (by omega);replace O:=qN O auc (by omega);replace R:=hiQ aCS;replace KG:=qT KG auc;clear aCS auc;have mQ:=M.out.e3;have kK:=M.out.e4;have afO:=M.out.free 3;have ant:=M.out.free 4;go_upto_region 27 with fail;clear mQ kK afO ant;generalize lI:zy.setCell _ _=vT;obtain ⟨Z,X,O⟩:=f3 Z X O (eF lI);replace R:=qS R lI (by omega);replace KG:=qkS KG lI (by omega);replace M:=Vx M lI;clear lI;generalize akW:vT.setCell _ _=zl;obtain ⟨Z,X,O⟩:=f3 Z X O (eF akW);replace R:=qS R akW (by omega);replace KG:=qkS KG akW (by omega);replace M:=zB M akW;clear akW;go_wp2_with fail;((with_reducible refine (an1 32 (by decide) (ut:Nat) ut rfl (by omega) _ 0 gr _ R.out).mono ?_);rintro e E5 ⟨rfl,aCT,aud⟩);replace Z:=qH Z aud (by omega);replace X:=qH X aud (by omega);replace M:=qH M aud (by omega);replace O:=qN O aud (by omega);replace R:=hiQ aCT;replace KG:=qT KG aud;clear aCT aud;have je:=M.out.e2;have aAd:=M.out.free 2;go_upto_region 28 with fail;clear je aAd;generalize aqJ:E5.setCell _ _=aE6;obtain ⟨Z,X,O⟩:=f3 Z X O (eF aqJ)
   replace R:=qS R aqJ (by omega);replace KG:=qkS KG aqJ (by omega);replace M:=Yx M aqJ;clear aqJ;have bU:=X.out.e6;obtain ⟨iU,iD,je,mQ,kK,qU,qV,qW,qX,qY,oK,oL,oM⟩:=M.out.c13;have hOn:=O.out.now;have hXh:=X.out.here;go_upto_region 29 with (at_builtin;refine fA rfl _ _ _ rfl (gX+1) 83 _ 13 160 Tryz.underlying69 ar8 rfl (by decide) (.slice A k c) k _ rfl hOn [_,_,_,_,_,_,_,_,_,_,_,_,_] _ 1 _ rfl rfl rfl (by simp [Value.oneCell']) (by omega) (by omega) (by omega) ?_;intro g2 cap2 w3 hown3 hg3 RQ hb3;have X3:=X.out.below hb3 (by omega);have x36:w3.cell? ⟨gX,6,none⟩=some (.slice A k c):=X3.cell 6;have f36:=X3.free 6)
   have hme:w3.ownsRow (gX+1) 83 13 (.slice (some ⟨g2,0,none⟩) (k+1) cap2) (k+1) (((l.take (k+1)).map alF).flatMap ail):=by
    rw [wO.out];have e:ail (alF (ui,uf,ut)) = [.int .i64 (ui:Nat),.string ⟨([102] ++ q1).toArray⟩,.int .i64 (ut:Nat),.bool ((uf:Int) == 1),.bool ((uf:Int) == 2),.int .i64 0,.bool false,.int .i64 0,.string ⟨#[]⟩,.int .i64 0,.slice none 0 0,.slice none 0 0,.slice none 0 0]:=by
     show ([.int .i64 (ui:Int),.string ⟨(rF 102 (ui:Int)).toArray⟩,.int .i64 (ut:Nat),.bool ((uf:Int) == 1),.bool ((uf:Int) == 2),.int .i64 0,.bool false,.int .i64 0,.string ⟨#[]⟩,.int .i64 0,.slice none 0 0,.slice none 0 0,.slice none 0 0] : List Value)=_;rw [hstr.out];rfl
    rw [e];exact hown3
   clear hown3 hg3 RQ X3 x36 f36 hOn hXh O M bU iU iD je mQ kK qU qV qW qX qY oK oL oM;replace Z:=hiQ (Z.out.below hb3 (show w.heap.size < gX+1 by omega));replace X:=hiQ (X.out.below hb3 (show gX < gX+1 by omega));replace R:=qBL R hb3 (show gr < gX+1 by omega);replace KG:=avE KG hb3 (show w.heap.size≤gX+1 by omega);have O:=hiQ (Kept.own hme);clear hme hb3;generalize Zu:w3.setCell _ _=Vq;obtain ⟨Z,O⟩:=f2 Z O (eF Zu);replace R:=qS R Zu (by omega);replace KG:=qkS KG Zu (by omega);replace X:=qM X Zu;clear Zu;go_wp2_with fail;go_roundw
   case rel => exact ⟨k+1,some ⟨g2,0,none⟩,cap2,by omega,by go_num,Z.out,X.out,O.out.now,R.out,KG⟩
   case measure => simp [intOf];omega
  obtain rfl:k=l.length:=by omega
  rw [List.drop_eq_nil_of_le (Nat.le_refl _),List.flatMap_nil,List.nil_append] at R;rw [List.take_of_length_le (Nat.le_refl _)] at hown;replace R:=hiQ R;replace Z:=hiQ Z;replace X:=hiQ X;have O:=hiQ (Kept.own hown);clear hown;obtain ⟨aK,bJ,bY,bZ,dL,eX,bU,dD,dM,dU⟩:=X.out.c10;go_wp2_with (refine sR Z.out ?_)
  clear aK bJ bY bZ dL eX bU dD dM dU;generalize Bl:wr.setRow _ _=yx;obtain ⟨X,O⟩:=f2 X O (eR Bl);replace R:=qR R Bl (by omega);replace KG:=qkR KG Bl (by omega);replace Z:=dV Z Bl;clear Bl;have hO:=O.out.now;exact bodyPost_ret (v:=.agg #[.int .i64 5,.string ⟨nm.toArray⟩,.int .i64 0,.int .i64 0,.int .i64 0,.slice none 0 0,.slice A l.length c,.int .i64 0,.int .i64 0,.bool false]) (by simp [results,Tryz.results62,go_sem,Z.out.c10]) rfl (⟨.slice none 0 0,.slice A l.length c,by rw [← HNM.out],⟨World.ownsRow_nil _ _ _ _,fun k h => (by cases h),by rw [List.length_map];exact own_base hO (by omega),fun q hq => O.out.le |> fun h => (by have:=hO.lt q hq;omega)⟩,R.out,KG⟩)
structure aAZ (n:Nat) (x:ay):Prop where
 form:dY x=true
 ints:I64 x.low∧I64 x.high
 aG6:x.kind=3→0≤x.max∧x.max≤200
 aG7:x.kind=7∨x.kind=8→0≤x.max∧x.max≤50
 syms:x.syms.length≤16∧∀ q ∈ x.syms,0≤q.1∧q.1≤1000
 ah:x.ah.length≤16∧∀ q ∈ x.ah,aqZ q∧q.ty≤32
 key:0≤x.key∧x.key≤32
 elem:0≤x.elem∧x.elem≤32
 name:x.name=(if x.kind=4∨x.kind=5∨x.kind=6 then rF 84 n else [])
 aGU:∀ s ∈ x.syms,s.2=rF 115 s.1
 mname:∀ m ∈ x.ah,m.name=rF 102 m.id
def memT (m:Mem):Nat × Nat × Nat:=(m.id.toNat,MF m,m.ty.toNat)
theorem aCX {m:Mem} (h:aqZ m) (hn:m.name=rF 102 m.id):alF (memT m)=unM m:=by
 obtain ⟨h1,h2,h3⟩:=h;obtain ⟨mi,mn,mt,mc,mh,md⟩:=m;simp only at *;have e1:((mi.toNat:Nat):Int)=mi:=by omega
 have e2:((mt.toNat:Nat):Int)=mt:=by omega
 unfold alF memT unM;simp only [e1,e2,hn];cases mc <;> cases mh <;> simp_all [MF]
theorem aw5 {l:List Mem} (h:∀ q ∈ l,aqZ q∧q.ty≤32) (hn:∀ m ∈ l,m.name=rF 102 m.id):(l.map memT).map alF=l.map unM:=by
 rw [List.map_map];exact List.map_congr_left fun m hm => aCX (h m hm).1 (hn m hm)
theorem aw6 {l:List Mem} (h:∀ q ∈ l,aqZ q∧q.ty≤32):∀ p ∈ l.map memT,axE p:=by
 intro p hp;obtain ⟨m,hm,rfl⟩:=List.mem_map.1 hp;obtain ⟨⟨h1,h2,h3⟩,h4⟩:=h m hm;refine ⟨by show m.id.toNat≤1000;omega,?_,by show m.ty.toNat≤32;omega⟩;show MF m≤2;unfold MF;split <;> (try split) <;> omega
theorem atJ (l:List Mem):(l.map memT).flatMap asZ=l.flatMap BN:=by rw [List.flatMap_map];rfl
theorem Y6.c0 {w:World} {gr k:Nat} {l:List UInt8} (h:Y6 w gr l k):w.cell? ⟨gr,0,none⟩=some (.string ⟨l.toArray⟩):=Has.cell h 0
theorem Y6.c1 {w:World} {gr k:Nat} {l:List UInt8} (h:Y6 w gr l k):w.cell? ⟨gr,1,none⟩=some (.bool false):=Has.cell h 1
theorem Y6.f0 {w:World} {gr k:Nat} {l:List UInt8} (h:Y6 w gr l k):w.frozen? ⟨gr,0,none⟩=false:=Has.free h 0
theorem ajO {w:World} {b o:Nat} {x:ay} {vs vm:Value} (h:NI w b o x vs vm) (hb:b < w.heap.size):Kept (fun w => NI w b o x vs vm) w b (b+1) :=
 ⟨h,fun w' hk => by
  obtain ⟨h0,h1,h2,h3,h4,h5,h6,h7,h8,h9⟩:=h;have e:∀ o',w'.cell? ⟨b,o',none⟩=w.cell? ⟨b,o',none⟩:=fun o' => World.cell?_of_block (hk b (Nat.le_refl _) (by omega));exact ⟨(e _).trans h0,(e _).trans h1,(e _).trans h2,(e _).trans h3,(e _).trans h4,(e _).trans h5,(e _).trans h6,(e _).trans h7,(e _).trans h8,(e _).trans h9⟩,hb⟩
theorem aCs (bb:Bool) (x:ay) (hk:x.kind=1) (b o m c t:Nat) (C1:Option Addr) (n1 l1:Nat) (C2:Option Addr) (n2 l2:Nat) (htm:t < m) (r:List UInt8) (k gr:Nat) (w:World) (hbw:b < w.heap.size) (hx:NI w b (o+t*10) x (.slice C1 n1 l1) (.slice C2 n2 l2)) (hr:Y6 w gr (F6 bb ++ r) k) :
  Calls Tryz.prog 64 #[.pointer (some ⟨gr,0,none⟩),.agg #[.slice (some ⟨b,o,none⟩) m c],.int .i64 (t:Nat)] w (anM gr (.agg #[.int .i64 1,.bool bb,.int .i64 0,.string ⟨#[]⟩,.int .i64 0,.slice none 0 0,.slice none 0 0,.slice none 0 0]) r 0 w):=by
 obtain ⟨fv,hfv,hfb,hf1⟩ : ∃ v:Nat,F6 bb=pJ 9 v∧((v:Int) == 1)=bb∧v≤1:=by
  cases bb
  · exact ⟨0,rfl,rfl,by omega⟩
  exact ⟨1,rfl,rfl,by omega⟩
 rw [hfv] at hr;clear hfv;have R:=hr;have hgr:=hr.here;have KG:=qR0 w (some gr);have hd0:decide ((t:Int) < 0)=false:=by simp
 have hd1:decide (m≤t)=false:=by simpa using htm
 have aoo:(t:Int) < m:=by omega
 clear hr;replace R:=hiQ R;have XC:=hiQ (ajO hx hbw);clear hx;go_enter Tryz.func64,Tryz.ntmps64
 go_upto_region 1 with fail;refine jg (fun wd2 hb1 S Z => ?_);replace XC:=b1 XC hb1;replace R:=qB R hb1;replace KG:=qkB KG hb1;clear hb1;have aH:=S.out.e0;obtain ⟨x0,x1,x2,x3,x4,x5,x6,x7,x8,x9⟩:=XC.out.now;rw [hk] at x0;go_upto_region 2 with fail;clear aH;refine aO (fun wd4 hb3 X => ?_);have Ox:=S.out.here;have nI:=Z.out.here;have mO:=XC.out.le;have kH:=KG.size;obtain ⟨S,Z,XC⟩:=b3 S Z XC hb3;replace R:=qB R hb3;replace KG:=qkB KG hb3;clear hb3;generalize wd2.heap.size=g5 at *;clear x0 x1 x2 x3 x4 x5 x6 x7 x8 x9 XC;have aK:=X.out.e0;go_upto_region 3 with fail;clear aK;refine aO (fun dw aY V => ?_);have alh:=S.out.here;have akV:=Z.out.here;have qA:=X.out.here;have alj:=KG.size;obtain ⟨S,Z,X⟩:=b3 S Z X aY;replace R:=qB R aY;replace KG:=qkB KG aY;clear aY;generalize wd4.heap.size=g12 at *;have cR1:=Y6.c1 R.out;have aK:=X.out.e0;go_upto_region 14 with fail;clear cR1;go_wp2_with fail;clear aK;((with_reducible refine (an1 1 (by decide) (fv:Nat) fv rfl (by omega) _ k gr _ R.out).mono ?_);rintro e ji ⟨rfl,adA,kS⟩);replace S:=qH S kS (by omega);replace Z:=qH Z kS (by omega);replace X:=qH X kS (by omega);replace V:=qH V kS (by omega);replace R:=hiQ adA;replace KG:=qT KG kS;clear adA kS;have dh:=V.out.e1;have JA:=V.out.free 1;go_upto_region 43 with fail;clear dh JA;generalize WJ:ji.setCell _ _=yO;obtain ⟨S,Z,X⟩:=f3 S Z X (eF WJ);replace R:=qS R WJ (by omega);replace KG:=qkS KG WJ (by omega);replace V:=yT V WJ;clear WJ;obtain ⟨bK,dh,dn,dI,bG,aQ,aP,dJ⟩:=V.out.c8;go_wp2_with (refine sR Z.out ?_)
 clear bK dh dn dI bG aQ aP dJ;generalize Ij:yO.setRow _ _=lq;obtain ⟨S,X,V⟩:=f3 S X V (eR Ij);replace R:=qR R Ij (by omega);replace KG:=qkR KG Ij (by omega);replace Z:=dV Z Ij;clear Ij;exact bodyPost_ret (v:=.agg #[.int .i64 1,.bool bb,.int .i64 0,.string ⟨#[]⟩,.int .i64 0,.slice none 0 0,.slice none 0 0,.slice none 0 0]) (by simp [results,Tryz.results64,go_sem,Z.out.c8]) rfl (⟨rfl,R.out,KG⟩)
end Go.Proofs.YtlamhkffnlgofaaGreatDoor
