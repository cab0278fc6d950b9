/- What sheaveref18.Copied computes: a schema with two copies of each type. Condition: the schema is valid and has at most five types. -/
import Derived.Test.YtlamhkffnlgofaaGreatDoorCopdP
import Derived.Test.YtlamhkffnlgofaaGreatDoorHAT
import Derived.Test.YtlamhkffnlgofaaGreatDoorCanon
set_option maxHeartbeats 40000000
set_option maxRecDepth 100000
namespace Go.Proofs.YtlamhkffnlgofaaGreatDoor
open Go.ChangeShapes Go.WideShapes Go.ChangeAt Go.RowKit
def aD8 (ts:List ay) (w:World) (e:Ending) (w':World):Prop := ∃ us A c,e = .returned (.agg #[.slice A us.length c])∧ayk ts us∧aU w' w'.heap.size (.slice A us.length c) us∧Below w.heap.size w w'
abbrev aFv (w:World) (b o:Nat) (t:ay) (vs vm:Value):Prop :=
 w.cell? ⟨b,o,none⟩=some (.int .i64 t.kind)∧w.cell? ⟨b,o+1,none⟩=some (.string ⟨t.name.toArray⟩)∧w.cell? ⟨b,o+2,none⟩=some (.int .i64 t.low)∧w.cell? ⟨b,o+3,none⟩=some (.int .i64 t.high)∧w.cell? ⟨b,o+4,none⟩=some (.int .i64 t.max) ∧
 w.cell? ⟨b,o+5,none⟩=some vs∧w.cell? ⟨b,o+6,none⟩=some vm∧w.cell? ⟨b,o+7,none⟩=some (.int .i64 t.key)∧w.cell? ⟨b,o+8,none⟩=some (.int .i64 t.elem)∧w.cell? ⟨b,o+9,none⟩=some (.bool t.opn)
theorem NI.onC {w w':World} {b o B:Nat} {x:ay} {vs vm:Value} (h:NI w b o x vs vm) (hb:b < B) (hk:∀ p:Addr,p.block < B→w'.cell? p=w.cell? p):NI w' b o x vs vm:=by
 obtain ⟨y0,y1,y2,y3,y4,y5,y6,y7,y8,y9⟩:=h;exact ⟨(hk ⟨b,_,none⟩ hb).trans y0,(hk ⟨b,_,none⟩ hb).trans y1,(hk ⟨b,_,none⟩ hb).trans y2,(hk ⟨b,_,none⟩ hb).trans y3,(hk ⟨b,_,none⟩ hb).trans y4,(hk ⟨b,_,none⟩ hb).trans y5,(hk ⟨b,_,none⟩ hb).trans y6,(hk ⟨b,_,none⟩ hb).trans y7,(hk ⟨b,_,none⟩ hb).trans y8,(hk ⟨b,_,none⟩ hb).trans y9⟩
theorem aFr {x:ay} (h:dY x=true):x.syms.length≤16:=by
 by_cases hk:x.kind=4
 · exact (av5 h hk).1
 rw [(V4 h).2.2.2.2 hk];simp
theorem awh {W w1:World} {o:Obj} {r:Option Nat} (h:(W.alloc o).grownBy w1 r):W.grownBy w1 r :=
 ⟨h.os,h.tape,h.output,by have:=h.size;simp only [tH] at this;omega,fun k hk hn => (h.block k (by rw [tH];omega) hn).trans (Below.heap_alloc W o k hk)⟩
theorem ar1 (sx:Bool) (l:List UInt8):(aq6 sx l).length≤l.length+1:=by unfold aq6;split <;> simp
theorem aAO {n d:Nat} {a:Int} (h:d=0∨d=n):Moved n a (a+d):=by
 rcases h with rfl | rfl
 · exact .inl (by simp)
 exact .inr rfl
structure CpH (w wr:World) (A:Option Addr) (n c gO:Nat) (va:Value):Prop where
 b:Below w.heap.size w wr
 s:Has wr w.heap.size 25 #[.slice A n c]
 z:Has wr (w.heap.size+1) 25 #[.slice none 0 0]
 out:Has wr gO 25 #[va]
structure CpR (w wr:World) (A:Option Addr) (n c gO gX gY zT:Nat) (va:Value) (us:List ay) (xc yc:Array Value):Prop where
 h:CpH w wr A n c gO va
 ot:Kept (fun W => Below w.heap.size w W→alf W w.heap.size (gO+1) zT va us) wr (gO+1) zT
 x:Has wr gX 71 xc
 y:Has wr gY 71 yc
theorem zLj {p:Prop} (h:p:=by
 subst hWS;have gK:=hb0;clear hb0;have hsl:=SY.out.le;have ap7:=MIm.out.le;obtain ⟨y,hy⟩ : ∃ y:ay,y=⟨x.kind,nm,x.low,x.high,x.max,x.syms.map fun s => (s.1,aq6 sx s.2),ms,ky,el,x.opn⟩:=⟨_,rfl⟩
 have hts:alC nJ (fun b => b < w.heap.size∨(gY+1≤b∧b < nJ.heap.size)) y (.slice (some ⟨g5,0,none⟩) x.syms.length c5) (.slice (some ⟨g6,0,none⟩) x.ah.length c6):=by
  have h2:=HSN.out;have h3:=IB.aAE SY.out.now;rw [hy];refine ⟨⟨hxI.1,hxI.2.1,hxI.2.2.1,hxI.2.2.2.1,hI1,hI2⟩,?_,⟨by simpa using Wj.out.lens.1,by show ms.length≤_;omega⟩,fun r hr => ?_,by simpa using h3.keep (fun _ _ => rfl) (fun b h => .inr h),(MIm.out.now.all gK).keep (fun _ _ => rfl) (fun b h => by
   rcases h with h | h
   · exact .inl h
   exact .inr ⟨by omega,h.2⟩)⟩
  ·
   show nm.length≤_;have h4:=ar1 sx x.name;have h5:=h2.name;rw [HNM.out];split
   · simp
   omega
  obtain ⟨s,hs,rfl⟩:=List.mem_map.1 hr;have h4:=ar1 sx s.2;have h5:=h2.syms s hs;exact ⟨(Wj.out.QL s hs).1,by show (aq6 sx s.2).length≤_;omega⟩
 have hyv:Pq y (.slice (some ⟨g5,0,none⟩) x.syms.length c5) (.slice (some ⟨g6,0,none⟩) x.ah.length c6) = [.int .i64 x.kind,.string ⟨nm.toArray⟩,.int .i64 x.low,.int .i64 x.high,.int .i64 x.max,.slice (some ⟨g5,0,none⟩) x.syms.length c5,.slice (some ⟨g6,0,none⟩) x.ah.length c6,.int .i64 ky,.int .i64 el,.bool x.opn]:=by rw [hy];rfl
 have hct:awQ ts.length (decide (ts.length≤k)) x y:=by
  rw [← HSX.out,hy];exact ⟨rfl,HNM.out,rfl,rfl,rfl,rfl,hml,fun j m m' h1 h2 => by
   have h:=HCM.out.2 j m m' h1 h2;rwa [if_pos (List.getElem?_eq_some_iff.1 h1).1] at h,HKY.out,hel,rfl⟩
 have hc2:∀ (i:Nat) (x' y':ay),ts[i % ts.length]?=some x'→(us ++ [y])[i]?=some y'→awQ ts.length (decide (ts.length≤i)) x' y':=fun i x' y' h1 h2 => by
  rcases Nat.lt_or_ge i us.length with h3 | h3
  ·
   rw [List.getElem?_append_left h3] at h2;exact HCP.out i x' y' h1 h2
  rw [List.getElem?_append_right h3] at h2;have h4:i=k:=by
   have:=(List.getElem?_eq_some_iff.1 h2).1;simp only [List.length_cons,List.length_nil] at this;omega
  subst h4;rw [HAE.out,HAT.out] at h1;rw [hus,Nat.sub_self,List.getElem?_cons_zero] at h2;obtain rfl:=Option.some.inj h1;obtain rfl:=Option.some.inj h2;exact hct
 have HC2:=hiQ hc2;obtain ⟨cs,hown,hvb,happ⟩:=(OT.out.now gK).row (by omega);rw [hus] at hown happ;have aC4:=OT.out.le;clear hy hel hct hc2 hxI hI1 hI2;have ara:=OUT.out.e0;obtain ⟨kT,kU,kV,kW,kX,mD,lJ,mF,wS,wU⟩:=Y.out.c10;go_upto_region 6 with (at_builtin;refine fA rfl _ _ _ rfl (gO+1) 71 _ 10 120 Tryz.underlying23 auu rfl (by decide) (.slice Ak k ck) k _ rfl hown [_,_,_,_,_,_,_,_,_,_] _ 1 _ rfl rfl rfl (by simp [Value.oneCell']) (by omega) (by omega) (by omega) ?_;intro g2 cap2 w3 hown3 hg3 ak6 hb3;have OU3:=OUT.out.below hb3 (by omega);have o36:w3.cell? ⟨gO,0,none⟩=some (.slice Ak k ck):=OU3.cell 0;have f36:=OU3.free 0)
 clear ara kT kU kV kW kX mD lJ mF wS wU;have hgr:=awh hg3;have hy1:alC nJ (fun b => b < w.heap.size∨(gO+1≤b∧b < w3.heap.size∧b < nJ.heap.size∧(Value.slice Ak k ck).ownBlock≠some b∧(Value.slice (some ⟨g2,0,none⟩) (k+1) cap2).ownBlock≠some b)) y (.slice (some ⟨g5,0,none⟩) x.syms.length c5) (.slice (some ⟨g6,0,none⟩) x.ah.length c6):=hts.keep (fun _ _ => rfl) fun b hb => by
  rcases hb with hb | hb
  · exact .inl hb
  have h1:=hgr.size;refine .inr ⟨by omega,by omega,by omega,fun e => ?_,fun e => ?_⟩
  · have:=hvb b e;omega
  simp only [Value.ownBlock,Option.some.injEq] at e;rcases ak6 with h4 | h4
  · have:=hvb g2 h4;omega
  omega
 have hT1:=happ w3 (.slice (some ⟨g2,0,none⟩) (k+1) cap2) y _ _ w3.heap.size hgr (by rw [hyv];exact hown3) (fun b hb => by
  simp only [Value.ownBlock,Option.some.injEq] at hb;rcases ak6 with h4 | h4
  · exact .inl (hb ▸ h4)
  · exact .inr (by omega)) aC4 (fun b hb => by
  have h4:=hown3.lt g2 rfl;simp only [Value.ownBlock,Option.some.injEq] at hb;omega) (Nat.le_trans aC4 hgr.size) hy1 gK.size
 clear hy1 hown happ hown3 hg3 hgr ak6 hvb hts hyv OU3 o36 f36 aC4 hsl ap7 OT X Y SY MIm;replace S:=hiQ (S.out.below hb3 (show w.heap.size < gO+1 by omega));replace Z:=hiQ (Z.out.below hb3 (show w.heap.size+1 < gO+1 by omega));replace OUT:=hiQ (OUT.out.below hb3 (show gO < gO+1 by omega));replace gK:=gK.trans (hb3.mono (show w.heap.size≤gO+1 by omega));have OT:=hiQ (hT1.kept (Nat.le_refl _) gK);clear hT1 hb3;generalize iZ:w3.setCell _ _=DY;obtain ⟨S,Z,OT⟩:=f3 S Z OT (eF iZ);replace OUT:=xR OUT iZ;replace gK:=tf gK iZ;clear iZ;go_wp2_with fail;go_roundw
 case rel => exact ⟨k+1,u,some ⟨g2,0,none⟩,cap2,us ++ [y],rfl,by go_num,by omega,by omega,by rw [List.length_append,hus];rfl,HC2.out,(OT.out.now gK).mono OT.out.le,⟨gK,S.out,Z.out,OUT.out⟩⟩
 case measure => simp [intOf];omega):p:=h
theorem zLk {p:Prop} (h:p:=by
 rcases (by omega:bq=0∨bq=1) with rfl | rfl
 · exact ⟨0,by simp,.inl rfl⟩
 exact ⟨ts.length,by simp,.inr rfl⟩):p:=h
theorem zLm {p:Prop} (h:p:=by
 obtain ⟨nJ,hWS⟩ : ∃ x,x=ahL:=⟨_,rfl⟩
 exact zLj):p:=h
theorem aDW (ts:List ay) (A:Option Addr) (c bits:Nat) (w:World) (hv:fF ts=0) (h0:0 < ts.length) (h5:ts.length≤5) (ht:aU w w.heap.size (.slice A ts.length c) ts) (hsh:∀ x ∈ ts,ayj x) :
  Calls Tryz.prog 27 #[.agg #[.slice A ts.length c],.int .u64 (bits:Nat)] w (aD8 ts w):=by
 have HT:=hiQ ht;have HGM:=hiQ (akN hv).ah;have HGS:=hiQ (fun x (hx:x ∈ ts) => aFr ((nG hv).2 x hx).1);have HGI:=hiQ (akN hv).inu;have hpost:∀ w' us A' c',us.length=2*ts.length→(∀ (i:Nat) (x y:ay),ts[i % ts.length]?=some x→us[i]?=some y→awQ ts.length (decide (ts.length≤i)) x y)→Below w.heap.size w w'→aU w' w'.heap.size (.slice A' us.length c') us→aD8 ts w (.returned (.agg #[.slice A' us.length c'])) w':=fun w' us A' c' h1 h2 h3 h4 => ⟨us,A',c',rfl,⟨h1,h2⟩,h4,h3⟩
 have Xb:=hiQ hpost;have HSH:=hiQ hsh;clear ht hv hpost hsh;go_enter Tryz.func27,Tryz.ntmps27
 go_upto_region 1 with fail;refine jg (fun wd2 hb1 S Z => ?_);have hw3:=hb1;clear hb1;have aH:=S.out.e0;go_upto_region 3 with fail;clear aH;refine aO (fun fG hb4 OUT => ?_);have nI:=S.out.here;have mO:=Z.out.here;have kH:=hw3.size;obtain ⟨S,Z⟩:=b2 S Z hb4;replace hw3:=dT hw3 hb4;clear hb4;generalize wd2.heap.size=g6 at *;obtain ⟨gO,rfl⟩ : ∃ g,g=g6:=⟨_,rfl⟩
 have hgO:w.heap.size+2≤gO:=by omega
 have hOT:=alf.nil fG w.heap.size (gO+1) fG.heap.size;have hH:CpH w fG A ts.length c gO (.slice none 0 0):=⟨hw3,S.out,Z.out,OUT.out⟩
 go_upto_region 5 with fail;go_loopw [7,8] (fun s7 s8 wr => ∃ (k u:Nat) (Ak:Option Addr) (ck:Nat) (us:List ay),s7 = .int .i64 u∧s8 = .int .i64 k∧k≤2*ts.length∧u≤1010*k∧us.length=k∧(∀ (i:Nat) (x y:ay),ts[i % ts.length]?=some x→us[i]?=some y→awQ ts.length (decide (ts.length≤i)) x y)∧alf wr w.heap.size (gO+1) wr.heap.size (.slice Ak k ck) us∧CpH w wr A ts.length c gO (.slice Ak k ck)) (fun _ s8 _ => 2*ts.length - (intOf s8).toNat)
 case atStart => exact ⟨0,0,none,0,[],rfl,rfl,Nat.zero_le _,Nat.zero_le _,rfl,fun i x y _ h => by simp at h,hOT,hH⟩
 case round =>
  clear S Z OUT hOT hH;obtain ⟨k,u,Ak,ck,us,rfl,rfl,hkl,Wn,hus,hcp,hOT,hH⟩:=hrel;have HCP:=hiQ hcp;clear hcp;have hb0:=hH.b;have S:=hH.s;have Z:=hH.z;have OUT:=hH.out;replace S:=hiQ S;replace Z:=hiQ Z;replace OUT:=hiQ OUT;clear hH;by_cases hlt:k < 2*ts.length
  ·
   obtain ⟨zT,hzT⟩ : ∃ z,z=wr.heap.size:=⟨_,rfl⟩
   rw [← hzT] at hOT;have OT:=hiQ (hOT.kept (by omega) hb0);have hgz:gO+1≤zT:=by have:=OUT.out.here;omega
   clear hOT hzT;have hal:k % ts.length < ts.length:=Nat.mod_lt _ h0;have hrm:((k:Nat):Int).tmod (ts.length:Nat)=((k % ts.length:Nat):Int):=by rw [Int.tmod_eq_emod_of_nonneg (by omega)];rfl
   have HAT:=hiQ (List.getElem?_eq_getElem hal);obtain ⟨bT,oT,hAe,hbT,hel⟩:=HT.out.elem (by omega);obtain ⟨vs,vm,hcells,hxa⟩:=hel _ hal;have hxm:ts[k % ts.length] ∈ ts:=List.getElem_mem hal;have hmx:=HGM.out _ hxm;have HSN:=hiQ (HSH.out _ hxm);have hsx:=HGS.out _ hxm;have hux:=HGI.out _ hxm;have Wj:=hiQ hxa;replace hcells:=hcells.below hb0 hbT;replace hxa:=hxa.keep (w':=wr) (fun p hp => (hb0).cell hp) (Nat.le_refl _);generalize ts[k % ts.length]=x at *;generalize hae:k % ts.length=a at *;have HAE:=hiQ hae;clear hae;obtain ⟨C1,l1,C2,l2,rfl,rfl,-,-⟩:=hxa.forms;have KX:=hiQ (Kept.rd (P:=fun w B => jc w B x (.slice C1 x.syms.length l1) (.slice C2 x.ah.length l2)∧NI w bT (oT+a*10) x (.slice C1 x.syms.length l1) (.slice C2 x.ah.length l2)) ⟨hxa,hcells⟩ (hb0).size (fun _ hk => ⟨hxa.keep hk (Nat.le_refl _),hcells.onC hbT hk⟩));have HUX:=hiQ hux;have hi1:(k:Int) < 2*(ts.length:Int):=by omega
   have hne:¬ (ts.length:Int)=0:=by omega
   have hne2:¬ ts = []:=fun e => by rw [e] at h0;simp at h0
   have hd2:decide ((a:Int) < 0)=false:=by simp
   have hd3:decide (ts.length≤a)=false:=by simpa using hal
   clear hcells hxa hux hxm hel;subst hAe;go_upto_region 7 with fail;have aH:=S.out.e0;refine wp_region_held_drew (S:=(fun w' => w'.cell? ⟨w.heap.size,0,none⟩=some (.slice (some ⟨bT,oT,none⟩) ts.length c)∧(aFv w' bT (oT+a*10) x (.slice C1 x.syms.length l1) (.slice C2 x.ah.length l2)))) (by kernel_rfl) ⟨aH,(KX.out.now.2)⟩ (fun hHeld => ?_);clear aH;have aY:Below wr.heap.size wr (wr.drew):=(Below.refl _ _).drew;obtain ⟨S,Z,OUT,OT,KX⟩:=b5 S Z OUT OT KX aY;replace hb0:=dT hb0 aY;clear aY;generalize wr.drew=dw at *;refine tk 0 ?_;refine tk 1 ?_;refine tk 2 ?_;refine tk 3 ?_;refine tk 4 ?_;refine tk 5 ?_;refine tk 6 ?_;refine iE 7 fun K hK => ?_;go_simp;refine aO (fun dQ fV X => ?_);have qA:=S.out.here;have alj:=Z.out.here;have sO:=OUT.out.here;have sW:=OT.out.le;have Az:=KX.out.le;have BQ:=hb0.size;obtain ⟨S,Z,OUT,OT,KX⟩:=b5 S Z OUT OT KX fV;replace hb0:=dT hb0 fV;clear fV;generalize dw.heap.size=g14 at *;(try clear hHeld);refine hK.out _ _ (⟨S.out.cell 0,(KX.out.now.2)⟩) (fun hHeld => ?_);clear hK K;refine iE 8 fun K hK => ?_;refine eY (by rfl) 71 _ _ (by rfl) (g14) #[.int .i64 x.kind,.string ⟨x.name.toArray⟩,.int .i64 x.low,.int .i64 x.high,.int .i64 x.max,.slice C1 x.syms.length l1,.slice C2 x.ah.length l2,.int .i64 x.key,.int .i64 x.elem,.bool x.opn] (by rfl) (by rfl) 71 _ X.out (by kernel_rfl) rfl (by first | assumption | simp [Value.oneCell']) ?_;generalize qj:dQ.setRow _ _=jU;obtain ⟨S,Z,OUT,OT,KX⟩:=f5 S Z OUT OT KX (eR qj);replace X:=dV X qj;replace hb0:=tr hb0 qj;clear qj
   (try clear hHeld);refine hK.out _ _ (⟨S.out.cell 0,(KX.out.now.2)⟩) (fun hHeld => ?_);clear hK K;refine wpAnyH_done (by kernel_rfl) ?_ _;(try clear hHeld);clear KX;obtain ⟨gX,rfl⟩ : ∃ g,g=g14:=⟨_,rfl⟩
   obtain ⟨aK,bJ,bY,bZ,dL,eX,bU,dD,dM,dU⟩:=X.out.c10;go_upto_region 9 with fail;clear aK bJ bY bZ dL eX bU dD dM dU;refine aO (fun xP oG Y => ?_);have sN:=S.out.here;have uQ:=Z.out.here;have sK:=OUT.out.here;have uO:=X.out.here;have uh:=OT.out.le;have Bc:=hb0.size;obtain ⟨S,Z,OUT,X,OT⟩:=b5 S Z OUT X OT oG;replace hb0:=dT hb0 oG;clear oG;generalize jU.heap.size=OL at *;obtain ⟨gY,rfl⟩ : ∃ g,g=OL:=⟨_,rfl⟩
   obtain ⟨cm,hrow,hcm⟩:=Wj.out.ah;have alh:∀ i,i < x.ah.length→(cm i).length=13:=fun i hi => by obtain ⟨_,_,_,h,_⟩:=hcm i hi;rw [h];rfl
   have hone:∀ v ∈ nN cm x.ah.length,v.oneCell'=true:=by
    intro v hv;obtain ⟨q,hq⟩:=List.mem_iff_getElem?.1 hv;obtain ⟨h4,h5⟩:=Ub cm 13 _ (by omega) alh q v hq;obtain ⟨a1,a2,a3,h6,h7⟩:=hcm _ h4;obtain ⟨_,_,_,_,_,_,rfl,rfl,rfl,-,-,-⟩:=h7.dflt.forms;rw [h6] at h5;have hm:=List.mem_of_getElem? h5;simp only [ZK,oD,List.cons_append,List.nil_append,List.mem_cons,List.not_mem_nil,or_false] at hm;rcases hm with rfl | rfl | rfl | rfl | rfl | rfl | rfl | rfl | rfl | rfl | rfl | rfl | rfl <;> rfl
   have HSR:=hiQ Wj.out.syms;have HMR:=hiQ (hrow.aIo (by decide) alh);have aGC:=hiQ hone;have HCM:=hiQ hcm;clear hrow hcm alh hone;have hYh:=Y.out.here;have eXx:(xP.alloc (.cells #[] 105)).cell? ⟨gX,5,none⟩=some (.slice C1 x.syms.length l1):=(X.out.below (jY (Below.refl xP.heap.size xP) (Nat.le_refl _) _) X.out.here).cell 5;go_upto_region 10 with (at_builtin;refine ac3 rfl _ _ _ rfl xP.heap.size 105 _ 2 24 Tryz.underlying68 auF rfl (by decide) rfl (World.ownsRow_made xP #[] 0 (Nat.le_refl _) (by decide) rfl) rfl ((((HSR.out.below hb0).mono (hb0).size).alloc (Nat.le_refl _) _).mono (by simp)) (aem _) (by simp only [maxLen];omega) (by omega) (by simp) ?_;intro g5 c5 w3 hown3 hg3 ak6;rw [Nat.zero_add,List.nil_append] at hown3;rw [Nat.zero_add];have hb3:Below xP.heap.size xP w3:=((Below.refl _ xP).alloc (Nat.le_refl _) _).grown hg3 (by simp) (fun k hk => by injection hk with hk;omega);have Y3:=Y.out.below hb3 hYh;have y35:w3.cell? ⟨gY,5,none⟩=some (.slice C1 x.syms.length l1):=Y3.cell 5;have f35:=Y3.free 5)
   clear eXx Y3 y35 f35 hg3 ak6;have hown5:=own_base hown3 (show gY+1≤_ by omega);clear hown3;obtain ⟨S,Z,OUT,X,Y,OT⟩:=b6 S Z OUT X Y OT hb3;replace hb0:=dT hb0 hb3;have SY:=hiQ (Kept.own hown5);clear hown5 hb3;generalize xU:w3.setCell _ _=zy;obtain ⟨S,Z,OUT,X,OT,SY⟩:=f6 S Z OUT X OT SY (eF xU);replace Y:=Ea Y xU;replace hb0:=tf hb0 xU;clear xU;obtain ⟨zS,hzS⟩ : ∃ z,z=zy.heap.size:=⟨_,rfl⟩
   have hown5:=SY.out.now;have hg5:gY+1≤g5∧g5 < zS:=by have:=hown5.lt g5 rfl;omega
   clear SY;have SY:=hiQ ((by rw [hzS];exact Kept.own hown5:Kept (fun W => W.ownsRow (gY+1) 105 2 (.slice (some ⟨g5,0,none⟩) x.syms.length c5) x.syms.length (jO x.syms)) zy (gY+1) zS));have hYz:gY+1≤zS:=by omega
   clear hown5 hYh;have hYh:=Y.out.here;have eXx:(zy.alloc (.cells #[] 83)).cell? ⟨gX,6,none⟩=some (.slice C2 x.ah.length l2):=(X.out.below (jY (Below.refl zy.heap.size zy) (Nat.le_refl _) _) X.out.here).cell 6;go_upto_region 11 with (at_builtin;refine ac3 rfl _ _ _ rfl zy.heap.size 83 _ 13 160 Tryz.underlying69 ar8 rfl (by decide) rfl (World.ownsRow_made zy #[] 0 (Nat.le_refl _) (by decide) rfl) rfl ((((HMR.out.below hb0).mono (hb0).size).alloc (Nat.le_refl _) _).mono (by simp)) aGC.out (by simp only [maxLen];omega) (by omega) (by simp) ?_;intro g6 c6 w4 hown4 hg4 aIp;rw [Nat.zero_add,List.nil_append] at hown4;rw [Nat.zero_add];have hb4:Below zy.heap.size zy w4:=((Below.refl _ zy).alloc (Nat.le_refl _) _).grown hg4 (by simp) (fun k hk => by injection hk with hk;omega);have Yq4:=Y.out.below hb4 hYh;have y46:w4.cell? ⟨gY,6,none⟩=some (.slice C2 x.ah.length l2):=Yq4.cell 6;have f46:=Yq4.free 6)
   clear eXx Yq4 y46 f46 hg4 aIp hYh;rw [← hzS] at hown4;have hMI:anJ w w4 zS (.slice (some ⟨g6,0,none⟩) x.ah.length c6) x.ah:=⟨cm,_,hown4,EM.YM _ _ _ (fun i hi => by obtain ⟨_,_,_,h,_⟩:=HCM.out i hi;rw [h];rfl),HCM.out⟩
   have hz4:zS≤w4.heap.size:=by have:=hb4.size;omega
   clear hown4 HSR HMR aGC HCM hzS;obtain ⟨S,Z,OUT,X,Y,OT,SY⟩:=b7 S Z OUT X Y OT SY hb4;replace hb0:=dT hb0 hb4;have MIm:=hiQ (hMI.kept);clear hMI hb4;generalize abf:w4.setCell _ _=Jg;obtain ⟨S,Z,OUT,X,OT,SY,MIm⟩:=f7 S Z OUT X OT SY MIm (eF abf);replace Y:=qM Y abf;replace hb0:=tf hb0 abf;clear abf;have aIq:zS≤Jg.heap.size:=Nat.le_trans hz4 MIm.out.le;obtain ⟨zMm,hzM⟩ : ∃ z,z=Jg.heap.size:=⟨_,rfl⟩
   have hMI:=MIm.out.now;clear MIm;have MIm:=hiQ ((by rw [hzM];exact hMI.kept:Kept (fun W => anJ w W zS (.slice (some ⟨g6,0,none⟩) x.ah.length c6) x.ah) Jg zS zMm));have hzz:zS≤zMm:=by omega
   have hg6:zS≤g6∧g6 < zMm:=by
    obtain ⟨_,_,h1,_⟩:=hMI.ex;have:=h1.lt g6 rfl;omega
   clear hzM hMI aIq hz4;have hzo:gO+1≤zT∧zT≤gX∧gX < gY:=by omega
   obtain ⟨sx,hsx⟩ : ∃ b,b=decide (ts.length≤k):=⟨_,rfl⟩
   have HSX:=hiQ hsx;obtain ⟨nm,hnm⟩ : ∃ nm:List UInt8,nm=if x.name = [] then [] else aq6 sx x.name:=⟨_,rfl⟩
   have HNM:=hiQ hnm;clear hsx hnm;have hRR:CpR w Jg (some ⟨bT,oT,none⟩) ts.length c gO gX gY zT (.slice Ak k ck) us #[.int .i64 x.kind,.string ⟨x.name.toArray⟩,.int .i64 x.low,.int .i64 x.high,.int .i64 x.max,.slice C1 x.syms.length l1,.slice C2 x.ah.length l2,.int .i64 x.key,.int .i64 x.elem,.bool x.opn] #[.int .i64 x.kind,.string ⟨x.name.toArray⟩,.int .i64 x.low,.int .i64 x.high,.int .i64 x.max,.slice (some ⟨g5,0,none⟩) x.syms.length c5,.slice (some ⟨g6,0,none⟩) x.ah.length c6,.int .i64 x.key,.int .i64 x.elem,.bool x.opn]:=⟨⟨hb0,S.out,Z.out,OUT.out⟩,OT.out,X.out,Y.out⟩
   have hSY:=SY.out;have hMI:=MIm.out;go_upto_if 42 with fail
   go_cut [11] from 42 to 68 (fun s11 wx => CpR w wx (some ⟨bT,oT,none⟩) ts.length c gO gX gY zT (.slice Ak k ck) us #[.int .i64 x.kind,.string ⟨x.name.toArray⟩,.int .i64 x.low,.int .i64 x.high,.int .i64 x.max,.slice C1 x.syms.length l1,.slice C2 x.ah.length l2,.int .i64 x.key,.int .i64 x.elem,.bool x.opn] #[.int .i64 x.kind,.string ⟨nm.toArray⟩,.int .i64 x.low,.int .i64 x.high,.int .i64 x.max,.slice (some ⟨g5,0,none⟩) x.syms.length c5,.slice (some ⟨g6,0,none⟩) x.ah.length c6,.int .i64 x.key,.int .i64 x.elem,.bool x.opn]∧Kept (fun W => W.ownsRow (gY+1) 105 2 (.slice (some ⟨g5,0,none⟩) x.syms.length c5) x.syms.length (jO (x.syms.map fun s => (s.1,aq6 sx s.2)))) wx (gY+1) zS∧Kept (fun W => anJ w W zS (.slice (some ⟨g6,0,none⟩) x.ah.length c6) x.ah) wx zS zMm)
   case first =>
    by_cases hge:ts.length≤k
    ·
     have atN:sx=true:=by rw [HSX.out];simpa using hge
     have hgi:(ts.length:Int)≤(k:Int):=by omega
     rw [atN] at HNM;have Ql:=hiQ atN;clear atN;have hnl:x.name.length≤20:=HSN.out.name;have kU:=Y.out.e1;go_upto_if 45 with fail
     clear kU;obtain ⟨bnm,hbn⟩ : ∃ b,b = !x.name.isEmpty:=⟨_,rfl⟩
     rw [← hbn];have HB1:=hiQ (show bnm=false→x.name = [] from fun h => by rw [h] at hbn;simpa using hbn);have HB2:=hiQ (show bnm=true→x.name≠[] from fun h => by rw [h] at hbn;simpa using hbn);clear hbn;go_cut [] from 42 to 49 (fun wx => CpR w wx (some ⟨bT,oT,none⟩) ts.length c gO gX gY zT (.slice Ak k ck) us #[.int .i64 x.kind,.string ⟨x.name.toArray⟩,.int .i64 x.low,.int .i64 x.high,.int .i64 x.max,.slice C1 x.syms.length l1,.slice C2 x.ah.length l2,.int .i64 x.key,.int .i64 x.elem,.bool x.opn] #[.int .i64 x.kind,.string ⟨nm.toArray⟩,.int .i64 x.low,.int .i64 x.high,.int .i64 x.max,.slice (some ⟨g5,0,none⟩) x.syms.length c5,.slice (some ⟨g6,0,none⟩) x.ah.length c6,.int .i64 x.key,.int .i64 x.elem,.bool x.opn]∧Kept (fun W => W.ownsRow (gY+1) 105 2 (.slice (some ⟨g5,0,none⟩) x.syms.length c5) x.syms.length (jO x.syms)) wx (gY+1) zS∧Kept (fun W => anJ w W zS (.slice (some ⟨g6,0,none⟩) x.ah.length c6) x.ah) wx zS zMm)
     case first =>
      cases bnm with
      | false =>
       have hq:nm=x.name:=by rw [HNM.out,HB1.out rfl];rfl
       have HQ:=hiQ hq;clear hq;go_wp2_with fail;go_meet
       case rel => rw [HQ.out];exact ⟨hRR,hSY,hMI⟩
      | true =>
       have hq:nm=x.name ++ [120]:=by rw [HNM.out,if_neg (HB2.out rfl)];rfl
       have HQ:=hiQ hq;have Ic:¬ 9223372036854775807 < x.name.length+1:=by omega
       clear hq hRR hSY hMI;have kU:=Y.out.e1;have aHE:=Y.out.free 1;go_wp2_with fail;rw [qO x.name [120]];clear kU aHE;generalize aaM:Jg.setCell _ _=aqg;obtain ⟨S,Z,OUT,X,OT,SY,MIm⟩:=f7 S Z OUT X OT SY MIm (eF aaM);replace Y:=yT Y aaM;replace hb0:=tf hb0 aaM;clear aaM;go_meet
       case rel => rw [HQ.out];exact ⟨⟨⟨hb0,S.out,Z.out,OUT.out⟩,OT.out,X.out,Y.out⟩,SY.out,MIm.out⟩
     case rest =>
      obtain ⟨hRR,hSY,hMI⟩:=hcut;clear S Z OUT OT X Y SY MIm hb0 HB1 HB2;go_upto_region 15 with fail;go_loopw [11] (fun s11 wr => ∃ j:Nat,s11 = .int .i64 j∧j≤x.syms.length∧wr.ownsRow (gY+1) 105 2 (.slice (some ⟨g5,0,none⟩) x.syms.length c5) x.syms.length (auo x.syms j)∧Kept (fun W => anJ w W zS (.slice (some ⟨g6,0,none⟩) x.ah.length c6) x.ah) wr zS zMm∧CpR w wr (some ⟨bT,oT,none⟩) ts.length c gO gX gY zT (.slice Ak k ck) us #[.int .i64 x.kind,.string ⟨x.name.toArray⟩,.int .i64 x.low,.int .i64 x.high,.int .i64 x.max,.slice C1 x.syms.length l1,.slice C2 x.ah.length l2,.int .i64 x.key,.int .i64 x.elem,.bool x.opn] #[.int .i64 x.kind,.string ⟨nm.toArray⟩,.int .i64 x.low,.int .i64 x.high,.int .i64 x.max,.slice (some ⟨g5,0,none⟩) x.syms.length c5,.slice (some ⟨g6,0,none⟩) x.ah.length c6,.int .i64 x.key,.int .i64 x.elem,.bool x.opn]) (fun s11 _ => x.syms.length - (intOf s11).toNat)
      case atStart => exact ⟨0,rfl,Nat.zero_le _,by rw [aEc];exact hSY.now,hMI,hRR⟩
      case round =>
       clear hRR hSY hMI;obtain ⟨j,rfl,hjl,hown,hMI,hRR⟩:=hrel;have hH:=hRR.h;have hb0:=hH.b;have S:=hH.s;have Z:=hH.z;have OUT:=hH.out;replace S:=hiQ S;replace Z:=hiQ Z;replace OUT:=hiQ OUT;clear hH;have X:=hRR.x;have Y:=hRR.y;replace X:=hiQ X;replace Y:=hiQ Y;have OT:=hiQ (hRR.ot);clear hRR;have MIm:=hiQ (hMI);clear hMI;by_cases aCh:j < x.syms.length
       ·
        have hnx:=aEd x.syms j aCh;have hs1:=aFu x.syms j aCh;have hyl:(x.syms[j].2).length≤20:=HSN.out.syms _ (List.getElem_mem aCh);generalize x.syms[j].2=yn at *;have HNX:=hiQ hnx;have aIr:=hiQ hs1;have SY:=hiQ (Kept.own hown);have KC:=hiQ (RX ((hown.cellAt (j*2+1) (by omega)).trans hs1));have Ic:¬ 9223372036854775807 < yn.length+1:=by omega
        have hi1:(j:Int) < x.syms.length:=by omega
        have hd0:decide ((j:Int) < 0)=false:=by simp
        have hd1:decide (x.syms.length≤j)=false:=by simpa using aCh
        clear hown hnx hs1;have mD:=Y.out.e5;go_upto_region 17 with fail;clear mD;have mD:=Y.out.e5;refine l9 (S:=(fun w' => w'.cell? ⟨gY,5,none⟩=some (.slice (some ⟨g5,0,none⟩) x.syms.length c5)∧(w'.cell? ⟨g5,j*2+1,none⟩=some (.string ⟨yn.toArray⟩)))) (fun j => j == 12) (by kernel_rfl) ⟨mD,(KC.out.now)⟩ (fun hHeld => ?_);clear mD;have adX:Below wr.heap.size wr (wr.drew):=(Below.refl _ _).drew;obtain ⟨S,Z,OUT,X,Y,OT,MIm,SY,KC⟩:=b9 S Z OUT X Y OT MIm SY KC adX;replace hb0:=dT hb0 adX;clear adX;generalize wr.drew=zl at *;refine eH 0 ?_;refine eH 1 ?_;refine eH 2 ?_;refine eH 3 ?_;refine eH 4 ?_;refine eH 5 ?_;refine eH 6 ?_;refine eH 7 ?_;refine eH 8 ?_;refine eH 9 ?_;refine gJ 10 fun K hK => ?_;go_simp;(try clear hHeld);refine hK.out _ _ (⟨Y.out.cell 5,(KC.out.now)⟩) (fun hHeld => ?_);clear hK K;refine eH 11 ?_;refine pG 12 fun K hK => ?_;have hown:=SY.out.now;have cN:=(hown.cellAt (j*2+1) (by omega)).trans aIr.out;have fN:=hown.frozenAt (j*2+1);go_simp;rw [qO yn [120]];have hset:=(hown.stored (j*2+1) (.string ⟨(yn ++ [120]).toArray⟩)).1;rw [HNX.out] at hset;clear cN fN hown Ic SY KC;generalize HEX:zl.setCell ⟨g5,j*2+1,none⟩ (.string ⟨(yn ++ [120]).toArray⟩)=ahL;obtain ⟨S,Z,OUT,X,Y,OT,MIm⟩:=f7 S Z OUT X Y OT MIm (eF HEX);replace hb0:=tf hb0 HEX;rw [HEX] at hset;clear HEX;have asW:=hiQ hset;clear hset;(try clear hHeld);refine hK.out _ _ ?_;clear hK K;refine akJ (by kernel_rfl) ?_ _;(try clear hHeld);go_wp2_with fail;go_roundw
        case rel => exact ⟨j+1,by go_num,by omega,asW.out,MIm.out,⟨⟨hb0,S.out,Z.out,OUT.out⟩,OT.out,X.out,Y.out⟩⟩
        case measure => simp [intOf];omega
       obtain rfl:j=x.syms.length:=by omega
       rw [aFp] at hown;have hSY:Kept (fun W => W.ownsRow (gY+1) 105 2 (.slice (some ⟨g5,0,none⟩) x.syms.length c5) x.syms.length (jO (x.syms.map fun s => (s.1,aq6 true s.2)))) wr (gY+1) zS:=⟨hown,fun w' hk => qo hown fun b hb => by
        simp only [Value.ownBlock,Option.some.injEq] at hb;subst hb;exact hk _ hg5.1 hg5.2,Nat.le_trans hzz MIm.out.le⟩
       clear hown;have mD:=Y.out.e5;go_wp2_with fail;clear mD;go_meet
       case rel => rw [Ql.out];exact ⟨⟨⟨hb0,S.out,Z.out,OUT.out⟩,OT.out,X.out,Y.out⟩,hSY,MIm.out⟩
    have atN:sx=false:=by rw [HSX.out];simpa using hge
    have hgi:¬ (ts.length:Int)≤(k:Int):=by omega
    have hq:nm=x.name:=by
     rw [HNM.out,atN];split
     · rename_i h;exact h.symm
     rfl
    have hS2:(x.syms.map fun s => (s.1,aq6 sx s.2))=x.syms:=by
     rw [atN];exact List.map_id _
    have HQ:=hiQ hq;have HS2:=hiQ hS2;clear hq hS2 atN;go_wp2_with fail;go_meet
    case rel => rw [HQ.out,HS2.out];exact ⟨hRR,hSY,hMI⟩
   case rest =>
    obtain ⟨hRR,hSY,hMI⟩:=hcut;clear S Z OUT OT X Y SY MIm hb0;go_upto_region 19 with fail;go_loopw [7,12] (fun s7 s12 wr => ∃ (j u:Nat) (ms:List Mem),s7 = .int .i64 u∧s12 = .int .i64 j∧j≤x.ah.length∧u≤1010*k+j∧ayd ts.length sx j x.ah ms∧anJ w wr zS (.slice (some ⟨g6,0,none⟩) x.ah.length c6) ms∧Kept (fun W => W.ownsRow (gY+1) 105 2 (.slice (some ⟨g5,0,none⟩) x.syms.length c5) x.syms.length (jO (x.syms.map fun s => (s.1,aq6 sx s.2)))) wr (gY+1) zS∧CpR w wr (some ⟨bT,oT,none⟩) ts.length c gO gX gY zT (.slice Ak k ck) us #[.int .i64 x.kind,.string ⟨x.name.toArray⟩,.int .i64 x.low,.int .i64 x.high,.int .i64 x.max,.slice C1 x.syms.length l1,.slice C2 x.ah.length l2,.int .i64 x.key,.int .i64 x.elem,.bool x.opn] #[.int .i64 x.kind,.string ⟨nm.toArray⟩,.int .i64 x.low,.int .i64 x.high,.int .i64 x.max,.slice (some ⟨g5,0,none⟩) x.syms.length c5,.slice (some ⟨g6,0,none⟩) x.ah.length c6,.int .i64 x.key,.int .i64 x.elem,.bool x.opn]) (fun _ s12 _ => x.ah.length - (intOf s12).toNat)
    case atStart => exact ⟨0,u,x.ah,rfl,rfl,Nat.zero_le _,by omega,ayd.zero _ _ _,hMI.now,hSY,hRR⟩
    case round =>
     clear hRR hSY hMI Wn;obtain ⟨j,u,ms,rfl,rfl,hjl,Wn,aFw,hMI,hSY,hRR⟩:=hrel;have HCM:=hiQ aFw;have hml:=aFw.1;have hH:=hRR.h;have hb0:=hH.b;have S:=hH.s;have Z:=hH.z;have OUT:=hH.out;replace S:=hiQ S;replace Z:=hiQ Z;replace OUT:=hiQ OUT;clear hH;have X:=hRR.x;have Y:=hRR.y;replace X:=hiQ X;replace Y:=hiQ Y;have OT:=hiQ (hRR.ot);clear hRR;have SY:=hiQ (hSY);rw [← hml] at hMI;clear hSY aFw;by_cases aBP:j < x.ah.length
     ·
      have MIm:=hiQ (hMI.kept);clear hMI;have hm0:x.ah[j]?=some x.ah[j]:=List.getElem?_eq_getElem aBP;have hm1:=HCM.out.at_ aBP;have hmu:=HUX.out _ (List.mem_append_left _ (List.mem_map_of_mem (f:=fun m => (m.id,m.ty)) (List.getElem_mem aBP)));have hmn:=HSN.out.ah _ (List.getElem_mem aBP);have aJU:j < ms.length:=by omega
      generalize x.ah[j]=m at *;simp only at hmu;have EF:=hiQ hm0;have HM1:=hiQ hm1;have hi1:(j:Int) < x.ah.length:=by omega
      have hd0:decide ((j:Int) < 0)=false:=by simp
      have hd1:decide (x.ah.length≤j)=false:=by simpa using aBP
      clear hm0 hm1;have lJ:=Y.out.e6;go_upto_if 78 with fail
      clear lJ;have hRR:CpR w wr (some ⟨bT,oT,none⟩) ts.length c gO gX gY zT (.slice Ak k ck) us #[.int .i64 x.kind,.string ⟨x.name.toArray⟩,.int .i64 x.low,.int .i64 x.high,.int .i64 x.max,.slice C1 x.syms.length l1,.slice C2 x.ah.length l2,.int .i64 x.key,.int .i64 x.elem,.bool x.opn] #[.int .i64 x.kind,.string ⟨nm.toArray⟩,.int .i64 x.low,.int .i64 x.high,.int .i64 x.max,.slice (some ⟨g5,0,none⟩) x.syms.length c5,.slice (some ⟨g6,0,none⟩) x.ah.length c6,.int .i64 x.key,.int .i64 x.elem,.bool x.opn]:=⟨⟨hb0,S.out,Z.out,OUT.out⟩,OT.out,X.out,Y.out⟩
      have hSY:=SY.out;have hMI:=MIm.out.now;go_cut [] from 78 to 90 (fun wx => CpR w wx (some ⟨bT,oT,none⟩) ts.length c gO gX gY zT (.slice Ak k ck) us #[.int .i64 x.kind,.string ⟨x.name.toArray⟩,.int .i64 x.low,.int .i64 x.high,.int .i64 x.max,.slice C1 x.syms.length l1,.slice C2 x.ah.length l2,.int .i64 x.key,.int .i64 x.elem,.bool x.opn] #[.int .i64 x.kind,.string ⟨nm.toArray⟩,.int .i64 x.low,.int .i64 x.high,.int .i64 x.max,.slice (some ⟨g5,0,none⟩) x.syms.length c5,.slice (some ⟨g6,0,none⟩) x.ah.length c6,.int .i64 x.key,.int .i64 x.elem,.bool x.opn]∧Kept (fun W => W.ownsRow (gY+1) 105 2 (.slice (some ⟨g5,0,none⟩) x.syms.length c5) x.syms.length (jO (x.syms.map fun s => (s.1,aq6 sx s.2)))) wx (gY+1) zS∧anJ w wx zS (.slice (some ⟨g6,0,none⟩) ms.length c6) (ms.set j { m with name:=aq6 sx m.name }))
      case first =>
       by_cases hge:ts.length≤k
       ·
        have atN:sx=true:=by rw [HSX.out];simpa using hge
        have hgi:(ts.length:Int)≤(k:Int):=by omega
        have hq:aq6 sx m.name=m.name ++ [120]:=by rw [atN];rfl
        have HQ:=hiQ hq;obtain ⟨-,-,c1,-,-⟩:=hMI.at_ HM1.out;have Ic:¬ 9223372036854775807 < m.name.length+1:=by omega
        have KC:=hiQ (RX c1);clear hq atN c1 hRR hSY hMI;have lJ:=Y.out.e6;go_upto_region 22 with fail;clear lJ;have lJ:=Y.out.e6;refine l9 (S:=(fun w' => w'.cell? ⟨gY,6,none⟩=some (.slice (some ⟨g6,0,none⟩) x.ah.length c6)∧(w'.cell? ⟨g6,j*13+1,none⟩=some (.string ⟨m.name.toArray⟩)))) (fun j => j == 12) (by kernel_rfl) ⟨lJ,(KC.out.now)⟩ (fun hHeld => ?_);clear lJ;have adX:Below wr.heap.size wr (wr.drew):=(Below.refl _ _).drew;obtain ⟨S,Z,OUT,X,Y,OT,SY,MIm,KC⟩:=b9 S Z OUT X Y OT SY MIm KC adX;replace hb0:=dT hb0 adX;clear adX;generalize wr.drew=zl at *;refine eH 0 ?_;refine eH 1 ?_;refine eH 2 ?_;refine eH 3 ?_;refine eH 4 ?_;refine eH 5 ?_;refine eH 6 ?_;refine eH 7 ?_;refine eH 8 ?_;refine eH 9 ?_;refine gJ 10 fun K hK => ?_;go_simp;(try clear hHeld);refine hK.out _ _ (⟨Y.out.cell 6,(KC.out.now)⟩) (fun hHeld => ?_);clear hK K;refine eH 11 ?_;refine pG 12 fun K hK => ?_;have lY:=MIm.out.now;obtain ⟨-,-,cN,-,fz⟩:=lY.at_ HM1.out;have fN:=fz (j*13+1);go_simp;rw [qO m.name [120]];have hset:=lY.name HM1.out (m.name ++ [120]) (by rw [List.length_append];simp only [List.length_cons,List.length_nil];omega);rw [show ms.length=(ms.set j { m with name:=m.name ++ [120] }).length by rw [List.length_set]] at hset;clear cN fz fN lY Ic MIm KC;generalize HEX:zl.setCell ⟨g6,j*13+1,none⟩ (.string ⟨(m.name ++ [120]).toArray⟩)=ahL;obtain ⟨S,Z,OUT,X,Y,OT,SY⟩:=f7 S Z OUT X Y OT SY (eF HEX);replace hb0:=tf hb0 HEX;rw [HEX,List.length_set] at hset;clear HEX;have asW:=hiQ hset;clear hset;(try clear hHeld)
        refine hK.out _ _ ?_;clear hK K;refine akJ (by kernel_rfl) ?_ _;(try clear hHeld);go_wp2_with fail;go_meet
        case rel => rw [HQ.out];exact ⟨⟨⟨hb0,S.out,Z.out,OUT.out⟩,OT.out,X.out,Y.out⟩,SY.out,asW.out⟩
       have atN:sx=false:=by rw [HSX.out];simpa using hge
       have hgi:¬ (ts.length:Int)≤(k:Int):=by omega
       have hq:ms.set j { m with name:=aq6 sx m.name }=ms:=by
        rw [atN];exact aFq HM1.out
       have HQ:=hiQ hq;clear hq atN;go_wp2_with fail;go_meet
       case rel => rw [HQ.out];exact ⟨hRR,hSY,hMI⟩
      case rest =>
       obtain ⟨hRR,hSY,hMI⟩:=hcut;clear S Z OUT OT X Y SY MIm hb0;have hH:=hRR.h;have hb0:=hH.b;have S:=hH.s;have Z:=hH.z;have OUT:=hH.out;replace S:=hiQ S;replace Z:=hiQ Z;replace OUT:=hiQ OUT;clear hH;have X:=hRR.x;have Y:=hRR.y;replace X:=hiQ X;replace Y:=hiQ Y;have OT:=hiQ (hRR.ot);clear hRR;have SY:=hiQ (hSY);have hm2:(ms.set j { m with name:=aq6 sx m.name })[j]?=some { m with name:=aq6 sx m.name }:=List.getElem?_set_self (by omega);have EC:=hiQ hm2;rw [show ms.length=(ms.set j { m with name:=aq6 sx m.name }).length by rw [List.length_set]] at hMI;have MIm:=hiQ (hMI.kept);obtain ⟨-,-,-,c2,-⟩:=hMI.at_ hm2;have KC:=hiQ (RX c2);clear hSY hMI hm2 c2;obtain ⟨bq,hbq,hbt⟩:=ayK bits (u % 64);have hrm:=ayJ u;have azt:u % 64 < 64:=Nat.mod_lt _ (by decide);generalize u % 64=ur at *;obtain ⟨bd,hmu,hbd⟩ : ∃ d:Nat,(ts.length:Int)*(bq:Int)=(d:Int)∧(d=0∨d=ts.length):=by
        exact zLk
       have hw1:IntKind.i64.wrap (bq:Int)=bq:=IntWalk.i64_in _ (by omega);have hw2:IntKind.i64.wrap (bd:Int)=bd:=IntWalk.i64_in _ (by omega);have hw3:IntKind.i64.wrap (m.ty+(bd:Int))=m.ty+(bd:Int):=IntWalk.i64_in _ (by omega);have lJ:=Y.out.e6;go_upto_region 23 with fail;clear lJ;have lJ:=Y.out.e6;refine l9 (S:=(fun w' => w'.cell? ⟨gY,6,none⟩=some (.slice (some ⟨g6,0,none⟩) x.ah.length c6)∧(w'.cell? ⟨g6,j*13+2,none⟩=some (.int .i64 m.ty)))) (fun j => j == 20) (by kernel_rfl) ⟨lJ,(KC.out.now)⟩ (fun hHeld => ?_);clear lJ;have adX:Below wc.heap.size wc (wc.drew):=(Below.refl _ _).drew;obtain ⟨S,Z,OUT,X,Y,OT,SY,MIm,KC⟩:=b9 S Z OUT X Y OT SY MIm KC adX;replace hb0:=dT hb0 adX;clear adX;generalize wc.drew=zl at *;refine eH 0 ?_;refine eH 1 ?_;refine eH 2 ?_;refine eH 3 ?_;refine eH 4 ?_;refine eH 5 ?_;refine eH 6 ?_;refine eH 7 ?_;refine eH 8 ?_;refine eH 9 ?_;refine eH 10 ?_;refine eH 11 ?_;refine eH 12 ?_;refine eH 13 ?_;refine eH 14 ?_;refine eH 15 ?_;refine eH 16 ?_;refine eH 17 ?_;refine gJ 18 fun K hK => ?_;go_simp;(try clear hHeld);refine hK.out _ _ (⟨Y.out.cell 6,(KC.out.now)⟩) (fun hHeld => ?_);clear hK K;refine eH 19 ?_;refine pG 20 fun K hK => ?_;have lY:=MIm.out.now;obtain ⟨-,-,-,cN,fz⟩:=lY.at_ EC.out;have fN:=fz (j*13+2);go_simp;try simp only [hw2,hw3]
       have hset:=lY.ty EC.out (m.ty+bd) (by unfold I64;omega);rw [List.set_set] at hset;clear cN fz fN lY MIm KC;generalize HEX:zl.setCell ⟨g6,j*13+2,none⟩ (.int .i64 (m.ty+bd))=ahL;obtain ⟨S,Z,OUT,X,Y,OT,SY⟩:=f7 S Z OUT X Y OT SY (eF HEX);replace hb0:=tf hb0 HEX;rw [HEX,List.length_set,hml] at hset;clear HEX;have asW:=hiQ hset;have HC2:=hiQ (HCM.out.next EF.out (m1:={ m with name:=aq6 sx m.name,ty:=m.ty+bd }) ⟨rfl,rfl,aAO hbd,rfl,rfl,rfl⟩);clear hset;(try clear hHeld);refine hK.out _ _ ?_;clear hK K;refine akJ (by kernel_rfl) ?_ _;(try clear hHeld);go_wp2_with fail;go_roundw
       case rel => exact ⟨j+1,u+1,_,by go_num,by go_num,by omega,by omega,HC2.out,asW.out,SY.out,⟨⟨hb0,S.out,Z.out,OUT.out⟩,OT.out,X.out,Y.out⟩⟩
       case measure => simp [intOf];omega
     obtain rfl:j=x.ah.length:=by omega
     obtain ⟨zNm,hzN⟩ : ∃ z,z=wr.heap.size:=⟨_,rfl⟩
     rw [hml] at hMI;have MIm:=hiQ ((by rw [hzN];exact hMI.kept:Kept (fun W => anJ w W zS (.slice (some ⟨g6,0,none⟩) x.ah.length c6) ms) wr zS zNm));clear hMI hzN;have lJ:=Y.out.e6;go_upto_region 25 with fail;clear lJ;have hRR:CpR w wr (some ⟨bT,oT,none⟩) ts.length c gO gX gY zT (.slice Ak k ck) us #[.int .i64 x.kind,.string ⟨x.name.toArray⟩,.int .i64 x.low,.int .i64 x.high,.int .i64 x.max,.slice C1 x.syms.length l1,.slice C2 x.ah.length l2,.int .i64 x.key,.int .i64 x.elem,.bool x.opn] #[.int .i64 x.kind,.string ⟨nm.toArray⟩,.int .i64 x.low,.int .i64 x.high,.int .i64 x.max,.slice (some ⟨g5,0,none⟩) x.syms.length c5,.slice (some ⟨g6,0,none⟩) x.ah.length c6,.int .i64 x.key,.int .i64 x.elem,.bool x.opn]:=⟨⟨hb0,S.out,Z.out,OUT.out⟩,OT.out,X.out,Y.out⟩
     have hSY:=SY.out;have hMI:=MIm.out;have hxI:=Wj.out.ints;have aK:=X.out.e0;go_upto_if 115 with fail
     clear aK;go_cut [7] from 113 to 129 (fun s7 wx => ∃ (u:Nat) (ky:Int),s7 = .int .i64 u∧u≤1010*k+1001∧(if x.kind=8 then Moved ts.length x.key ky else ky=x.key)∧I64 ky∧CpR w wx (some ⟨bT,oT,none⟩) ts.length c gO gX gY zT (.slice Ak k ck) us #[.int .i64 x.kind,.string ⟨x.name.toArray⟩,.int .i64 x.low,.int .i64 x.high,.int .i64 x.max,.slice C1 x.syms.length l1,.slice C2 x.ah.length l2,.int .i64 x.key,.int .i64 x.elem,.bool x.opn] #[.int .i64 x.kind,.string ⟨nm.toArray⟩,.int .i64 x.low,.int .i64 x.high,.int .i64 x.max,.slice (some ⟨g5,0,none⟩) x.syms.length c5,.slice (some ⟨g6,0,none⟩) x.ah.length c6,.int .i64 ky,.int .i64 x.elem,.bool x.opn]∧Kept (fun W => W.ownsRow (gY+1) 105 2 (.slice (some ⟨g5,0,none⟩) x.syms.length c5) x.syms.length (jO (x.syms.map fun s => (s.1,aq6 sx s.2)))) wx (gY+1) zS∧Kept (fun W => anJ w W zS (.slice (some ⟨g6,0,none⟩) x.ah.length c6) ms) wx zS zNm)
     case first =>
      by_cases h8:x.kind=8
      ·
       have hk8:=HUX.out (0,x.key) (by rw [asr h8];simp);simp only at hk8;have H8:=hiQ h8;have t8:(x.kind == 8)=true:=by simp [h8]
       clear h8 hRR hSY hMI;obtain ⟨bq,hbq,hbt⟩:=ayK bits (u % 64);have hrm:=ayJ u;have azt:u % 64 < 64:=Nat.mod_lt _ (by decide);generalize u % 64=ur at *;obtain ⟨bd,hmu,hbd⟩ : ∃ d:Nat,(ts.length:Int)*(bq:Int)=(d:Int)∧(d=0∨d=ts.length):=by
        exact zLk
       have hw1:IntKind.i64.wrap (bq:Int)=bq:=IntWalk.i64_in _ (by omega);have hw2:IntKind.i64.wrap (bd:Int)=bd:=IntWalk.i64_in _ (by omega);have hw3:IntKind.i64.wrap (x.key+(bd:Int))=x.key+(bd:Int):=IntWalk.i64_in _ (by omega);go_upto_region 26 with fail;have mF:=Y.out.e7;refine l9 (S:=(fun w' => w'.cell? ⟨gY,7,none⟩=some (.int .i64 x.key))) (fun j => j == 12) (by kernel_rfl) mF (fun hHeld => ?_);clear mF;have adX:Below wr.heap.size wr (wr.drew):=(Below.refl _ _).drew;obtain ⟨S,Z,OUT,X,Y,OT,SY,MIm⟩:=b8 S Z OUT X Y OT SY MIm adX;replace hb0:=dT hb0 adX;clear adX;generalize wr.drew=zl at *;refine eH 0 ?_;refine eH 1 ?_;refine eH 2 ?_;refine eH 3 ?_;refine eH 4 ?_;refine eH 5 ?_;refine eH 6 ?_;refine eH 7 ?_;refine eH 8 ?_;refine eH 9 ?_;refine eH 10 ?_;refine eH 11 ?_;refine pG 12 fun K hK => ?_;have mF:=Y.out.e7;have aHR:=Y.out.free 7;go_simp;try simp only [hw2,hw3]
       clear mF aHR;generalize Vg:zl.setCell _ _=ahL;obtain ⟨S,Z,OUT,X,OT,SY,MIm⟩:=f7 S Z OUT X OT SY MIm (eF Vg);replace Y:=Ky Y Vg;replace hb0:=tf hb0 Vg;clear Vg;(try clear hHeld);refine hK.out _ _ ?_;clear hK K;refine akJ (by kernel_rfl) ?_ _;(try clear hHeld);go_wp2_with fail;go_meet
       case rel => exact ⟨u+1,x.key+bd,by go_num,by omega,by rw [if_pos H8.out];exact aAO hbd,by unfold I64;omega,⟨⟨hb0,S.out,Z.out,OUT.out⟩,OT.out,X.out,Y.out⟩,SY.out,MIm.out⟩
      have t8:(x.kind == 8)=false:=by simpa using h8
      have H8:=hiQ h8;clear h8;go_wp2_with fail;go_meet
      case rel => exact ⟨u,x.key,rfl,by omega,by rw [if_neg H8.out],hxI.2.2.2.2.1,hRR,hSY,hMI⟩
     case rest =>
      obtain ⟨u,ky,rfl,aFx,hky,hI1,hRR,hSY,hMI⟩:=hcut;clear S Z OUT OT X Y SY MIm hb0 Wn;have hH:=hRR.h;have hb0:=hH.b;have S:=hH.s;have Z:=hH.z;have OUT:=hH.out;replace S:=hiQ S;replace Z:=hiQ Z;replace OUT:=hiQ OUT;clear hH;have X:=hRR.x;have Y:=hRR.y;replace X:=hiQ X;replace Y:=hiQ Y;have OT:=hiQ (hRR.ot);clear hRR;have SY:=hiQ (hSY);have MIm:=hiQ (hMI);clear hSY hMI;have HKY:=hiQ hky;clear hky;by_cases h8:x.kind=8
      ·
       have he8:=HUX.out (-1,x.elem) (by rw [asr h8];simp);simp only at he8;have H79:=hiQ (show x.kind=7∨x.kind=8∨x.kind=9 by omega);have t8:(x.kind == 8)=true:=by simp [h8]
       clear h8;obtain ⟨bq,hbq,hbt⟩:=ayK bits (u % 64);have hrm:=ayJ u;have azt:u % 64 < 64:=Nat.mod_lt _ (by decide);generalize u % 64=ur at *;obtain ⟨bd,hmu,hbd⟩ : ∃ d:Nat,(ts.length:Int)*(bq:Int)=(d:Int)∧(d=0∨d=ts.length):=by
        exact zLk
       have hw1:IntKind.i64.wrap (bq:Int)=bq:=IntWalk.i64_in _ (by omega);have hw2:IntKind.i64.wrap (bd:Int)=bd:=IntWalk.i64_in _ (by omega);have hw3:IntKind.i64.wrap (x.elem+(bd:Int))=x.elem+(bd:Int):=IntWalk.i64_in _ (by omega);have aK:=X.out.e0;go_upto_region 29 with fail;clear aK;have wS:=Y.out.e8;refine l9 (S:=(fun w' => w'.cell? ⟨gY,8,none⟩=some (.int .i64 x.elem))) (fun j => j == 12) (by kernel_rfl) wS (fun hHeld => ?_);clear wS;have adX:Below wc.heap.size wc (wc.drew):=(Below.refl _ _).drew;obtain ⟨S,Z,OUT,X,Y,OT,SY,MIm⟩:=b8 S Z OUT X Y OT SY MIm adX;replace hb0:=dT hb0 adX;clear adX;generalize wc.drew=zl at *;refine eH 0 ?_;refine eH 1 ?_;refine eH 2 ?_;refine eH 3 ?_;refine eH 4 ?_;refine eH 5 ?_;refine eH 6 ?_;refine eH 7 ?_;refine eH 8 ?_;refine eH 9 ?_;refine eH 10 ?_;refine eH 11 ?_;refine pG 12 fun K hK => ?_;have wS:=Y.out.e8;have aBY:=Y.out.free 8;go_simp;try simp only [hw2,hw3]
       clear wS aBY;generalize Vg:zl.setCell _ _=ahL;obtain ⟨S,Z,OUT,X,OT,SY,MIm⟩:=f7 S Z OUT X OT SY MIm (eF Vg);replace Y:=JZ Y Vg;replace hb0:=tf hb0 Vg;clear Vg;(try clear hHeld);refine hK.out _ _ ?_;clear hK K;refine akJ (by kernel_rfl) ?_ _;(try clear hHeld);have zx:(if x.kind=7∨x.kind=8∨x.kind=9 then Moved ts.length x.elem (x.elem+bd) else (x.elem+bd)=x.elem):=by rw [if_pos H79.out];exact aAO hbd
       obtain ⟨el,hee,hel,hI2⟩ : ∃ el:Int,el=x.elem+bd∧(if x.kind=7∨x.kind=8∨x.kind=9 then Moved ts.length x.elem el else el=x.elem)∧I64 el:=⟨_,rfl,zx,by unfold I64;omega⟩
       replace Y:=Y.out;rw [← hee] at Y;clear hee zx hbd hbq hbt hrm azt hmu he8 H79 hw1 hw2 hw3;replace Y:=hiQ Y;go_upto_region 31 with fail;rw [show ((u:Nat):Int)+1=((u+1:Nat):Int) by omega];generalize hv:u+1=u;have aHe:u≤1010*(k+1):=by omega
       clear aFx hv t8;exact zLm
      have t8:(x.kind == 8)=false:=by simpa using h8
      by_cases Ur:x.kind=7∨x.kind=9
      ·
       have he8:=HUX.out (-1,x.elem) (by rw [asX Ur];simp);simp only at he8;have H79:=hiQ (show x.kind=7∨x.kind=8∨x.kind=9 by omega);obtain ⟨p7,p9,hp,h7,h9⟩ : ∃ p7 p9:Bool,(p7 || p9)=true∧(x.kind == 7)=p7∧(x.kind == 9)=p9:=⟨_,_,by simpa using Ur,rfl,rfl⟩
       clear h8 Ur;cases p7 with
       | true =>
        clear h9;obtain ⟨bq,hbq,hbt⟩:=ayK bits (u % 64);have hrm:=ayJ u;have azt:u % 64 < 64:=Nat.mod_lt _ (by decide);generalize u % 64=ur at *;obtain ⟨bd,hmu,hbd⟩ : ∃ d:Nat,(ts.length:Int)*(bq:Int)=(d:Int)∧(d=0∨d=ts.length):=by
         exact zLk
        have hw1:IntKind.i64.wrap (bq:Int)=bq:=IntWalk.i64_in _ (by omega);have hw2:IntKind.i64.wrap (bd:Int)=bd:=IntWalk.i64_in _ (by omega);have hw3:IntKind.i64.wrap (x.elem+(bd:Int))=x.elem+(bd:Int):=IntWalk.i64_in _ (by omega);have aK:=X.out.e0;go_upto_region 29 with fail;clear aK;have wS:=Y.out.e8;refine l9 (S:=(fun w' => w'.cell? ⟨gY,8,none⟩=some (.int .i64 x.elem))) (fun j => j == 12) (by kernel_rfl) wS (fun hHeld => ?_);clear wS;have adX:Below wc.heap.size wc (wc.drew):=(Below.refl _ _).drew;obtain ⟨S,Z,OUT,X,Y,OT,SY,MIm⟩:=b8 S Z OUT X Y OT SY MIm adX;replace hb0:=dT hb0 adX;clear adX;generalize wc.drew=zl at *;refine eH 0 ?_;refine eH 1 ?_;refine eH 2 ?_;refine eH 3 ?_;refine eH 4 ?_;refine eH 5 ?_;refine eH 6 ?_;refine eH 7 ?_;refine eH 8 ?_;refine eH 9 ?_;refine eH 10 ?_;refine eH 11 ?_;refine pG 12 fun K hK => ?_;have wS:=Y.out.e8;have aBY:=Y.out.free 8;go_simp;try simp only [hw2,hw3]
        clear wS aBY;generalize Vg:zl.setCell _ _=ahL;obtain ⟨S,Z,OUT,X,OT,SY,MIm⟩:=f7 S Z OUT X OT SY MIm (eF Vg);replace Y:=JZ Y Vg;replace hb0:=tf hb0 Vg;clear Vg;(try clear hHeld);refine hK.out _ _ ?_;clear hK K;refine akJ (by kernel_rfl) ?_ _;(try clear hHeld);have zx:(if x.kind=7∨x.kind=8∨x.kind=9 then Moved ts.length x.elem (x.elem+bd) else (x.elem+bd)=x.elem):=by rw [if_pos H79.out];exact aAO hbd
        obtain ⟨el,hee,hel,hI2⟩ : ∃ el:Int,el=x.elem+bd∧(if x.kind=7∨x.kind=8∨x.kind=9 then Moved ts.length x.elem el else el=x.elem)∧I64 el:=⟨_,rfl,zx,by unfold I64;omega⟩
        replace Y:=Y.out;rw [← hee] at Y;clear hee zx hbd hbq hbt hrm azt hmu he8 H79 hw1 hw2 hw3;replace Y:=hiQ Y;go_upto_region 31 with fail;rw [show ((u:Nat):Int)+1=((u+1:Nat):Int) by omega];generalize hv:u+1=u;have aHe:u≤1010*(k+1):=by omega
        clear aFx hv t8 h7 hp;exact zLm
       | false =>
        obtain rfl:p9=true:=by simpa using hp
        obtain ⟨bq,hbq,hbt⟩:=ayK bits (u % 64);have hrm:=ayJ u;have azt:u % 64 < 64:=Nat.mod_lt _ (by decide);generalize u % 64=ur at *;obtain ⟨bd,hmu,hbd⟩ : ∃ d:Nat,(ts.length:Int)*(bq:Int)=(d:Int)∧(d=0∨d=ts.length):=by
         exact zLk
        have hw1:IntKind.i64.wrap (bq:Int)=bq:=IntWalk.i64_in _ (by omega);have hw2:IntKind.i64.wrap (bd:Int)=bd:=IntWalk.i64_in _ (by omega);have hw3:IntKind.i64.wrap (x.elem+(bd:Int))=x.elem+(bd:Int):=IntWalk.i64_in _ (by omega);have aK:=X.out.e0;go_upto_region 29 with fail;clear aK;have wS:=Y.out.e8;refine l9 (S:=(fun w' => w'.cell? ⟨gY,8,none⟩=some (.int .i64 x.elem))) (fun j => j == 12) (by kernel_rfl) wS (fun hHeld => ?_);clear wS;have adX:Below wc.heap.size wc (wc.drew):=(Below.refl _ _).drew;obtain ⟨S,Z,OUT,X,Y,OT,SY,MIm⟩:=b8 S Z OUT X Y OT SY MIm adX;replace hb0:=dT hb0 adX;clear adX;generalize wc.drew=zl at *;refine eH 0 ?_;refine eH 1 ?_;refine eH 2 ?_;refine eH 3 ?_;refine eH 4 ?_;refine eH 5 ?_;refine eH 6 ?_;refine eH 7 ?_;refine eH 8 ?_;refine eH 9 ?_;refine eH 10 ?_;refine eH 11 ?_;refine pG 12 fun K hK => ?_;have wS:=Y.out.e8;have aBY:=Y.out.free 8;go_simp;try simp only [hw2,hw3]
        clear wS aBY;generalize Vg:zl.setCell _ _=ahL;obtain ⟨S,Z,OUT,X,OT,SY,MIm⟩:=f7 S Z OUT X OT SY MIm (eF Vg);replace Y:=JZ Y Vg;replace hb0:=tf hb0 Vg;clear Vg;(try clear hHeld);refine hK.out _ _ ?_;clear hK K;refine akJ (by kernel_rfl) ?_ _;(try clear hHeld);have zx:(if x.kind=7∨x.kind=8∨x.kind=9 then Moved ts.length x.elem (x.elem+bd) else (x.elem+bd)=x.elem):=by rw [if_pos H79.out];exact aAO hbd
        obtain ⟨el,hee,hel,hI2⟩ : ∃ el:Int,el=x.elem+bd∧(if x.kind=7∨x.kind=8∨x.kind=9 then Moved ts.length x.elem el else el=x.elem)∧I64 el:=⟨_,rfl,zx,by unfold I64;omega⟩
        replace Y:=Y.out;rw [← hee] at Y;clear hee zx hbd hbq hbt hrm azt hmu he8 H79 hw1 hw2 hw3;replace Y:=hiQ Y;go_upto_region 31 with fail;rw [show ((u:Nat):Int)+1=((u+1:Nat):Int) by omega];generalize hv:u+1=u;have aHe:u≤1010*(k+1):=by omega
        clear aFx hv t8 h7 h9 hp;exact zLm
      have t7:(x.kind == 7)=false:=by simpa using fun h => Ur (.inl h)
      have t9:(x.kind == 9)=false:=by simpa using fun h => Ur (.inr h)
      obtain ⟨el,hel,hI2,hee⟩ : ∃ el:Int,(if x.kind=7∨x.kind=8∨x.kind=9 then Moved ts.length x.elem el else el=x.elem)∧I64 el∧x.elem=el:=⟨x.elem,by rw [if_neg (by omega)],hxI.2.2.2.2.2,rfl⟩
      have HEE:=hiQ hee;clear h8 Ur hee;have aK:=X.out.e0;go_upto_region 31 with fail;clear aK;have Y:Has wc gY 71 #[.int .i64 x.kind,.string ⟨nm.toArray⟩,.int .i64 x.low,.int .i64 x.high,.int .i64 x.max,.slice (some ⟨g5,0,none⟩) x.syms.length c5,.slice (some ⟨g6,0,none⟩) x.ah.length c6,.int .i64 ky,.int .i64 el,.bool x.opn]:=by rw [← HEE.out];exact Y.out
      replace Y:=hiQ Y;clear t8 t7 t9 HEE;obtain ⟨nJ,hWS⟩ : ∃ x,x=wc:=⟨_,rfl⟩
      exact zLj
  obtain rfl:k=2*ts.length:=by omega
  clear hlt hkl Wn;have OT:=hiQ (hOT.kept (Nat.le_refl _) hb0);have hx1:¬ (((2*ts.length:Nat):Int) < 2*(ts.length:Int)):=by omega
  clear hOT;have ara:=OUT.out.e0;go_wp2_with (refine sR Z.out ?_)
  clear ara;generalize kQ:wr.setRow _ _=kL;obtain ⟨S,OUT,OT⟩:=f3 S OUT OT (eR kQ);replace Z:=dV Z kQ;replace hb0:=tr hb0 kQ;clear kQ;have hT2:=(OT.out.now hb0).rd OT.out.le hb0.size;have hfin:=Xb.out _ us Ak ck hus HCP.out hb0 (by rw [hus];exact hT2);rw [hus] at hfin;exact bodyPost_ret (v:=.agg #[.slice Ak (2*ts.length) ck]) (by simp [results,Tryz.results27,go_sem,Z.out.e0]) rfl (hfin)
end Go.Proofs.YtlamhkffnlgofaaGreatDoor
