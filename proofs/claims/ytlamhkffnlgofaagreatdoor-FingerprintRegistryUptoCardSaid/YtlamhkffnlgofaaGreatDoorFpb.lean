/- What fingerprint.Bytes computes: the canonical bytes, or an error. No condition. -/
import Derived.Test.YtlamhkffnlgofaaGreatDoorFpf
import Derived.Test.YtlamhkffnlgofaaGreatDoorDefs
import Derived.Test.YtlamhkffnlgofaaGreatDoorCanon
set_option maxHeartbeats 1600000
set_option maxRecDepth 100000
namespace Go.Proofs.YtlamhkffnlgofaaGreatDoor
open Go.ChangeShapes Go.WideShapes Go.ChangeAt Go.RowKit
theorem ayB {x:ay} (h:aru x):aow x:=by
 obtain ⟨hf,hi,hm,hs,hms,hk,he⟩:=h;exact ⟨by omega,by omega,by omega,⟨by omega,fun s hs1 => by have:=hs.2 s hs1;omega⟩,by omega,fun m hm1 => by obtain ⟨h1,h2,h3⟩:=hms.2 m hm1;omega⟩
theorem aBu (q:List UInt8) (x:ay) (vs vm:Value) (hx:aru x) (hl:q.length≤10000000000000) (gw:Nat) (w:World) (hw:Am w gw q) (ht:jc w gw x vs vm) :
  Calls Tryz.prog 47 #[.pointer (some ⟨gw,0,none⟩),dA x vs vm] w (abX gw (q ++ dF x) w):=by
 have hk:=Us hx.form;have ho:=ayB hx;have hcs:x.kind=1∨x.kind=2∨x.kind=3∨x.kind=4∨x.kind=5∨x.kind=6∨x.kind=7∨x.kind=8∨x.kind=9:=by omega
 rcases hcs with h | h | h | h | h | h | h | h | h
 · exact azU q x vs vm h hl gw w hw ht
 · exact azV q x vs vm h hl gw w hw ht
 · exact azW q x vs vm h ho hl gw w hw ht
 · exact azX q x vs vm h ho hl gw w hw ht
 · exact azY q x vs vm h ho hl gw w hw ht
 · exact azZ q x vs vm h ho hl gw w hw ht
 · exact az0 q x vs vm h ho hl gw w hw ht
 · exact az1 q x vs vm h ho hl gw w hw ht
 exact az2 q x vs vm h ho hl gw w hw ht
def awY (us:List ay):Prop := ∀ (W:World) (gw b o c:Nat),aU W gw (.slice (some ⟨b,o,none⟩) us.length c) us→∀ x ∈ us,∀ m ∈ x.ah,m.eG=true→∀ vk vi vr,ValAt W gw m.dflt vk vi vr→ayC us gw b o c W m vk vi vr
theorem atl {ts:List ay} {t:Int} {x:ay} (h:bM ts t=some x):0≤t∧t.toNat < ts.length∧ts[t.toNat]?=some x:=by
 unfold bM at h;split at h
 · next h0 => exact ⟨h0,(List.getElem?_eq_some_iff.1 h).1,h⟩
 cases h
theorem avs {us:List ay} (hv:fF us=0) (hI:akg us) (hD:acM us) (h0:aqB us):awY us:=by
 intro W gw b o c hr x hx m hm hd vk vi vr hval;have hf:=hD x hx m hm hd;cases hty:bM us m.ty with
 | none => rw [kG,hty] at hf;cases hf
 | some y =>
  obtain ⟨h1,h2,h3⟩:=atl hty;obtain ⟨b',o',e,hb,hel⟩:=hr.elem (by omega);injection e with e;injection e with e1 e2 _;subst e1 e2;obtain ⟨vs,vm,hcell,hat⟩:=hel _ h2;have ey:us[m.ty.toNat]=y:=by rw [List.getElem?_eq_getElem h2] at h3;exact Option.some.inj h3
  rw [ey] at hcell hat;obtain ⟨C1,l1,C2,l2,e1,e2,-,-⟩:=hat.forms;obtain ⟨D1,d1,D2,d2,D3,d3,f1,f2,f3,-,-,-⟩:=hval.forms;exact awC hv hI hb hty hf (h0 x hx m hm hd) ⟨vs,vm,hcell,⟨C1,_,l1,e1⟩,C2,_,l2,e2⟩ ⟨D1,d1,f1⟩ ⟨D2,d2,f2⟩ ⟨D3,d3,f3⟩
noncomputable def aj2 (ts:List ay) (t:Int):List UInt8 × Int :=
 if gV ts t≠0 then ([],gV ts t)
 else if (alu (jk ts t.toNat)).2.2≠0 then ([],(alu (jk ts t.toNat)).2.2)
 else (Lp (jk ts t.toNat),0)
theorem awZ {ts:List ay} : ∀ {l:List Mem},(∀ m ∈ l,m.eG=true→cO ts true m.dflt m.ty=true)↔alg ts l=none
 | [] => by simp [alg]
 | m :: r => by
  have ih:=awZ (ts:=ts) (l:=r);rw [alg];by_cases h:m.eG=true∧cO ts true m.dflt m.ty=false
  ·
   rw [if_pos h];refine ⟨fun h2 => ?_,fun h2 => by cases h2⟩;have:=h2 m (by simp) h.1;rw [h.2] at this;cases this
  rw [if_neg h,← ih];refine ⟨fun h2 m' hm => h2 m' (by simp [hm]),fun h2 m' hm hd => ?_⟩;rcases List.mem_cons.1 hm with rfl | hm
  ·
   cases hf:cO ts true m'.dflt m'.ty with
   | true => rfl
   | false => exact absurd ⟨hd,hf⟩ h
  exact h2 m' hm hd
theorem aw0 {ts:List ay} : ∀ {l:List ay} {i:Nat},(∀ x ∈ l,∀ m ∈ x.ah,m.eG=true→cO ts true m.dflt m.ty=true)↔(anW ts l i).2.2=0
 | [],i => by simp [anW]
 | x :: r,i => by
  have ih:=aw0 (ts:=ts) (l:=r) (i:=i+1);have hm:=awZ (ts:=ts) (l:=x.ah);cases hd:alg ts x.ah with
  | some id =>
   rw [auz ts r x i id hd];refine ⟨fun h => ?_,fun h => by cases h⟩;have:=hm.1 (h x (by simp));rw [hd] at this;cases this
  | none =>
   rw [auA ts r x i hd,← ih];refine ⟨fun h y hy => h y (by simp [hy]),fun h y hy => ?_⟩;rcases List.mem_cons.1 hy with rfl | hy
   · exact hm.2 hd
   exact h y hy
theorem aw1 {ts:List ay} (hv:fF ts=0):acM ts↔(alu ts).2.2=0:=by
 unfold alu acM;rw [if_pos hv];exact aw0
theorem arh {ts:List ay} (hv:fF ts=0) {t:Nat} (ht:t < ts.length) (hD:acM ts):aj2 ts t=(Lp (jk ts t),0):=by
 have hr:gV ts t=0:=by unfold gV;rw [if_neg (by simpa using hv),if_neg (by omega)]
 unfold aj2;rw [if_neg (by simpa using hr),Int.toNat_natCast,if_neg (by simpa using (aw1 (akP hv ht)).1 (aoU hv ht hD))]
theorem ali {α:Type} (f:α→List UInt8):∀ (l:List α) (k:Nat),((l.take k).flatMap f).length≤(l.flatMap f).length
 | [],k => by simp
 | x :: r,0 => by simp
 | x :: r,k+1 => by
  have:=ali f r k;rw [List.take_succ_cons,List.flatMap_cons,List.flatMap_cons,List.length_append,List.length_append];omega
theorem aoG {α:Type} (f:α→List UInt8) (l:List α) (k:Nat) (h:k < l.length):(l.take (k+1)).flatMap f=(l.take k).flatMap f ++ f l[k]:=by
 rw [List.take_add_one,List.flatMap_append,List.getElem?_eq_getElem h];simp
theorem ayD (ts:List ay) (A:Option Addr) (c:Nat) (t:Int) (w:World) (hs:Sizes ts) (ht:aU w w.heap.size (.slice A ts.length c) ts) (hp:aj0 w) (hI:akg ts)
  (hlen:gV ts t=0→acM (jk ts t.toNat)→(Lp (jk ts t.toNat)).length≤1000000000000) (hfull:gV ts t=0→acM (jk ts t.toNat)→awY (jk ts t.toNat)) :
  Calls Tryz.prog 22 #[.agg #[.slice A ts.length c,.int .i64 t]] w (RTq w (.tuple #[.string ⟨(aj2 ts t).1.toArray⟩,.int .i64 (aj2 ts t).2])):=by
 have HT:=hiQ ht;have HP:=hiQ hp;have HS:=hiQ hs;have HL:=hiQ hlen;have HF:=hiQ hfull;have HI:=hiQ hI;clear ht hp hs hlen hfull hI;go_enter Tryz.func22,Tryz.ntmps22
 go_upto_region 1 with fail;refine aO (fun wd2 hb1 P => ?_);have hw3:=hb1;clear hb1;obtain ⟨afM,XD⟩:=P.out.c2;go_wp2_with fail;clear afM XD;((with_reducible refine (ayg ts A c t _ HS.out (HT.out.on hw3) (HP.out.on hw3)).mono ?_);rintro e wd4 ⟨hb5,hpost⟩);replace P:=b1 P hb5;replace hw3:=dT hw3 hb5;clear hb5 P;rcases hpost with ⟨hr,rfl⟩ | ⟨hr,A2,c2,rfl,hus⟩
 ·
  have hb:Hid (aj2 ts t=([],gV ts t)):=by show _=_;unfold aj2;rw [if_pos hr]
  have t1:(gV ts t == 0)=false:=by simpa using hr
  clear hr;generalize gV ts t=re at *;go_upto_region 2 with fail;refine aO (fun jC hb6 Q => ?_);have kH:=hw3.size;replace hw3:=dT hw3 hb6;clear hb6;generalize wd4.heap.size=g8 at *;go_wp2_with fail;exact bodyPost_ret (v:=.tuple #[.string ⟨#[]⟩,.int .i64 re]) (by simp [results,Tryz.results22,go_sem]) rfl (⟨by rw [hb.out],hw3⟩)
 obtain ⟨hv,ht0,htl⟩:=aro hr;have anr:t.toNat < ts.length:=by omega
 have hvu:=akP hv anr;have hIu:=ari hv anr HI.out;have hpos:=(aqC (FP hv) anr).lt.2;have hlen:=HL.out hr;have hfull:=HF.out hr;have hb0:(alu (jk ts t.toNat)).2.2≠0→aj2 ts t=([],(alu (jk ts t.toNat)).2.2):=fun h => by unfold aj2;rw [if_neg (by simpa using hr),if_pos h]
 have hb1:(alu (jk ts t.toNat)).2.2=0→aj2 ts t=(Lp (jk ts t.toNat),0):=fun h => by unfold aj2;rw [if_neg (by simpa using hr),if_neg (by simpa using h)]
 generalize jk ts t.toNat=us at *;have hD:=aw1 hvu;have hin:=anY hvu hIu;have h32:=(ni hvu).1;have hsz:Sizes us:=fun x hx => by have h:=hin x hx;have:=h.syms.1;have:=h.ah.1;exact ⟨by omega,by omega⟩
 have FI:=hiQ hin;have HLEN:=hiQ hlen;have aAT:=hiQ hfull;have HB0:=hiQ hb0;have HB1:=hiQ hb1;have HSZ:=hiQ hsz;have HD:=hiQ hD;obtain ⟨z,hz⟩ : ∃ z,z=wd4.heap.size:=⟨_,rfl⟩
 rw [← hz] at hus;have T:=hiQ (Kept.rd (P:=fun w B => aU w B (.slice A2 us.length c2) us) hus (Nat.le_of_eq hz) (fun w' hk => hus.keep hk (Nat.le_refl _)));clear hin hlen hfull hb0 hb1 hsz hD hvu hIu hv ht0 htl anr hr hus hz;go_upto_region 2 with fail;refine aO (fun jC hb6 Q => ?_);have kH:=T.out.le;have oC:=hw3.size;replace T:=b1 T hb6;replace hw3:=dT hw3 hb6;clear hb6;generalize wd4.heap.size=g8 at *;obtain ⟨gQ,rfl⟩ : ∃ g,g=g8:=⟨_,rfl⟩
 have arv:=Q.out.e0;go_wp2_with fail;clear arv;((with_reducible refine (ayp us A2 c2 _ HSZ.out (T.out.now.keep (fun _ _ => rfl) T.out.le)).mono ?_);rintro e dw ⟨rfl,fV⟩);obtain ⟨Q,T⟩:=b2 Q T fV;replace hw3:=dT hw3 fV;clear fV;generalize alu us=dq at *;obtain ⟨d1,d2,d3⟩:=dq;simp only at HB0 HB1 HD;by_cases h3:d3=0
 ·
  subst h3;have hbe:=HB1.out rfl;have hd0:=HD.out.2 rfl;have hlen:=HLEN.out hd0;have hfull:=aAT.out hd0;have HBE:=hiQ hbe;have HLE:=hiQ hlen;have HFU:=hiQ hfull;clear hbe hd0 hlen hfull HB0 HB1 HD HLEN aAT;go_upto_region 8 with fail;refine aO (fun oZ kR Wr => ?_);have alj:=Q.out.here;have sO:=T.out.le;have sW:=hw3.size;obtain ⟨Q,T⟩:=b2 Q T kR;replace hw3:=dT hw3 kR;clear kR;generalize dw.heap.size=g15 at *;obtain ⟨gw,rfl⟩ : ∃ g,g=g15:=⟨_,rfl⟩
  obtain ⟨Di,hWS⟩ : ∃ x,x=oZ:=⟨_,rfl⟩
  subst hWS;have aDx:=hw3;clear hw3;have hW0:=aDx;have hQ0:=Q.out;have hT0:=T.out.now;have hR0:Am Di gw []:=⟨none,0,Wr.out,World.ownsRow_nil _ _ _ _⟩
  have aEU:=Wr.out.here;clear Wr Q;obtain ⟨b,o,hA2,hbz,hel⟩:=hT0.elem hpos;subst hA2;have hT1:aU Di gw (.slice (some ⟨b,o,none⟩) us.length c2) us:=hT0.keep (fun _ _ => rfl) (by omega);have HTW:Hid (∀ W,fK gw Di W→aU W gw (.slice (some ⟨b,o,none⟩) us.length c2) us):=fun W h => hT1.keep (fun p hp => h.low.cell hp) (Nat.le_refl _);have Ez:Hid (∀ W,fK gw Di W→∀ (k:Nat) (hk:k < us.length),∃ vs vm,NI W b (o+k*10) us[k] vs vm∧jc W gw us[k] vs vm):=fun W h k hk => by
   obtain ⟨vs,vm,h1,h2⟩:=hel k hk;exact ⟨vs,vm,h1.below h.low (by omega),h2.keep (fun p hp => h.low.cell (by omega)) (by omega)⟩
  clear hel hT0 hT1 T;have Q:=hQ0;have R:=hR0;have KG:=fK.refl gw Di;replace R:=hiQ R;replace Q:=hiQ Q;clear hQ0 hR0;have arv:=Q.out.e0;go_wp2_with fail;clear arv;refine an3 (fun aGG auX G => ?_);replace Q:=b1 Q auX;replace R:=wB R auX;replace KG:=oq KG auX (by have:=KG.size;omega);clear auX;((with_reducible refine (af4 [] us.length (by omega) (by simp) gw Di.heap.size 1 (by omega) _ R.out G.out).mono ?_);rintro e JV ⟨rfl,aAV,auY⟩);replace Q:=wH Q auY (by omega) (by decide);replace G:=wH G auY (by omega) (by decide);replace R:=hiQ aAV;replace KG:=KG.trans auY;clear aAV auY;rw [List.nil_append] at R;clear G;have arv:=Q.out.e0;go_upto_region 10 with fail;clear arv;have hpl:=bg us.length;have hQ0:=Q.out;have hR0:=R.out;have HBY:Hid (Lp us=pJ 9 us.length ++ (us.flatMap dF ++ us.flatMap (BX us))):=rfl;have hbl:(Lp us).length=(pJ 9 us.length).length+((us.flatMap dF).length+(us.flatMap (BX us)).length):=by rw [HBY.out,List.length_append,List.length_append]
  go_loopw [47] (fun s47 wr => ∃ k:Nat,k≤us.length∧s47 = .int .i64 k∧Am wr gw (pJ 9 us.length ++ (us.take k).flatMap dF)∧fK gw Di wr∧Has wr gQ 27 #[.slice (some ⟨b,o,none⟩) us.length c2,.int .i64 0]) (fun s47 _ => us.length - (intOf s47).toNat)
  case atStart => exact ⟨0,Nat.zero_le _,rfl,by simpa using hR0,KG,hQ0⟩
  case round =>
   clear Q R KG hQ0 hR0 aEU;obtain ⟨k,hkl,rfl,R,KG,Q⟩:=hrel;by_cases hlt:k < us.length
   ·
    obtain ⟨vs,vm,hct,hat⟩:=Ez.out _ KG k hlt;have hti:=FI.out _ (List.getElem_mem hlt);have hnx:=aoG dF us k hlt;have hle:=ali dF us k;have hgr:=R.here;generalize us[k]=x at *;obtain ⟨C1,l1,C2,l2,rfl,rfl,-,-⟩:=hat.forms;have Y4:=hiQ hnx;have hle0:=HLE.out;have tV:(pJ 9 us.length ++ (us.take k).flatMap dF).length≤10000000000000:=by rw [List.length_append];omega
    generalize hq:pJ 9 us.length ++ (us.take k).flatMap dF=q at *;have HQ:=hiQ hq;have hd1:decide (us.length≤k)=false:=by simpa using hlt
    have hlt':(k:Int) < us.length:=by omega
    have KG0:=KG;clear hnx hle hq KG;have KG:=fK.refl gw wr;replace R:=hiQ R;replace Q:=hiQ Q;have AT:=hiQ (Kept.rd (P:=fun w B => jc w B x (.slice C1 x.syms.length l1) (.slice C2 x.ah.length l2)) hat (Nat.le_of_lt hgr) (fun w' hk => hat.keep hk (Nat.le_refl _)));clear hat;obtain ⟨x0,x1,x2,x3,x4,x5,x6,x7,x8,x9⟩:=hct;go_upto_region 12 with fail;refine aO (fun aDy aoO X => ?_);obtain ⟨Q,AT⟩:=b2 Q AT aoO;replace R:=wB R aoO;replace KG:=oq KG aoO (by have:=KG.size;omega);clear aoO x0 x1 x2 x3 x4 x5 x6 x7 x8 x9;obtain ⟨aK,bJ,bY,bZ,dL,eX,bU,dD,dM,dU⟩:=X.out.c10;go_wp2_with fail;clear aK bJ bY bZ dL eX bU dD dM dU;((with_reducible refine (aBu q x _ _ hti tV gw _ R.out AT.out.now).mono ?_);rintro e Dk ⟨rfl,aAW,atE⟩);replace Q:=wH Q atE (by omega) (by decide);replace X:=wH X atE (by omega) (by decide);replace AT:=wN AT atE (by omega);replace R:=hiQ aAW;replace KG:=KG.trans atE;clear aAW atE;have hfin:Hid (pJ 9 us.length ++ (us.take (k+1)).flatMap dF=q ++ dF x):=by show _=_;rw [Y4.out,← List.append_assoc,HQ.out]
    go_wp2_with fail;go_roundw
    case rel => exact ⟨k+1,by omega,by go_num,by rw [hfin.out];exact R.out,KG0.trans KG,Q.out⟩
    case measure => simp [intOf];omega
   obtain rfl:k=us.length:=by omega
   rw [List.take_of_length_le (Nat.le_refl _)] at R;have hgr:=R.here;obtain ⟨p1,hp1⟩ : ∃ p,p=pJ 9 us.length ++ us.flatMap dF:=⟨_,rfl⟩
   rw [← hp1] at R;have HP1:=hiQ hp1;have aEV:p1.length+(us.flatMap (BX us)).length=(Lp us).length:=by rw [hp1,List.length_append];omega
   have KG0:=KG;clear hp1 KG;have KG:=fK.refl gw wr;replace R:=hiQ R;replace Q:=hiQ Q;have arv:=Q.out.e0;go_upto_region 15 with fail;clear arv;have hQ0:=Q.out;have hR0:=R.out;go_loopw [59] (fun s59 wr => ∃ k:Nat,k≤us.length∧s59 = .int .i64 k∧Am wr gw (p1 ++ (us.take k).flatMap (BX us))∧fK gw Di wr∧Has wr gQ 27 #[.slice (some ⟨b,o,none⟩) us.length c2,.int .i64 0]) (fun s59 _ => us.length - (intOf s59).toNat)
   case atStart => exact ⟨0,Nat.zero_le _,rfl,by simpa using hR0,KG0,hQ0⟩
   case round =>
    clear Q R KG KG0 hQ0 hR0 hgr;obtain ⟨k,hkl,rfl,R,KG,Q⟩:=hrel;obtain ⟨wo,hwo⟩ : ∃ x,x=wr:=⟨_,rfl⟩
    subst hwo;by_cases hlt:k < us.length
    ·
     obtain ⟨vs,vm,hct,hat⟩:=Ez.out _ KG k hlt;have hxm:=List.getElem_mem hlt;have hml:=(FI.out _ hxm).ah.1;have hnx:=aoG (BX us) us k hlt;have hle:=ali (BX us) us (k+1);have hgr:=R.here;generalize us[k]=x at *;obtain ⟨C1,l1,C2,l2,rfl,rfl,-,-⟩:=hat.forms;rw [hnx,List.length_append] at hle;have Y4:=hiQ hnx;have hle0:=HLE.out;have tV:(p1 ++ (us.take k).flatMap (BX us)).length+(BX us x).length≤1000000000000:=by rw [List.length_append];omega
     generalize hq:p1 ++ (us.take k).flatMap (BX us)=q at *;have HQ:=hiQ hq;have hd1:decide (us.length≤k)=false:=by simpa using hlt
     have hlt':(k:Int) < us.length:=by omega
     have KG0:=KG;clear hnx hle hq KG;have KG:=fK.refl gw wo;replace R:=hiQ R;replace Q:=hiQ Q;have HAT:Hid (∀ W,fK gw wo W→jc W gw x (.slice C1 x.syms.length l1) (.slice C2 x.ah.length l2)):=fun W h => hat.keep (fun p hp => h.low.cell hp) (Nat.le_refl _);clear hat;obtain ⟨x0,x1,x2,x3,x4,x5,x6,x7,x8,x9⟩:=hct;go_upto_region 17 with fail;refine aO (fun aDy aoO X => ?_);replace Q:=b1 Q aoO;replace R:=wB R aoO;replace KG:=oq KG aoO (by have:=KG.size;omega);clear aoO x0 x1 x2 x3 x4 x5 x6 x7 x8 x9;have bU:=X.out.e6;go_upto_region 18 with fail;clear bU;have hQ0:=Q.out;have hR0:=R.out;go_loopw [66] (fun s66 wj => ∃ j:Nat,j≤x.ah.length∧s66 = .int .i64 j∧Am wj gw (q ++ (x.ah.take j).flatMap (Ap us))∧fK gw wo wj∧Has wj gQ 27 #[.slice (some ⟨b,o,none⟩) us.length c2,.int .i64 0]) (fun s66 _ => x.ah.length - (intOf s66).toNat)
     case atStart => exact ⟨0,Nat.zero_le _,rfl,by simpa using hR0,KG,hQ0⟩
     case round =>
      clear Q R KG X hQ0 hR0;obtain ⟨j,hjl,rfl,R,KG,Q⟩:=hrel;by_cases hlj:j < x.ah.length
      ·
       obtain ⟨b3,o3,hC2,hb3,aCl⟩:=(HAT.out _ KG).ah.elem (by omega);obtain ⟨dk,di,dr,hcells,hma⟩:=aCl j hlj;have hmm:=List.getElem_mem hlj;have hnx:=aoG (Ap us) x.ah j hlj;have hle:=ali (Ap us) x.ah (j+1);have hgt:=R.here;have hfm:=fun hd => HFU.out _ gw b o c2 (HTW.out _ (KG0.trans KG)) x hxm _ hmm hd dk di dr hma.dflt;generalize x.ah[j]=m at *;rw [hnx,List.length_append,show (x.ah.flatMap (Ap us)).length=(BX us x).length from rfl] at hle;obtain ⟨D1,e1,D2,e2,D3,e3,rfl,rfl,rfl,-,-,-⟩:=hma.dflt.forms;have aCm:=hiQ hnx;have axz:(q ++ (x.ah.take j).flatMap (Ap us)).length+(Ap us m).length≤1000000000000:=by rw [List.length_append];omega
       generalize hq2:q ++ (x.ah.take j).flatMap (Ap us)=q2 at *;have HQ2:=hiQ hq2;have HFM:=hiQ hfm;have hd2:decide (x.ah.length≤j)=false:=by simpa using hlj
       have aGZ:(j:Int) < x.ah.length:=by omega
       have KG1:=KG;subst hC2;clear hnx hle hq2 KG hma hfm aCl;have KG:=fK.refl gw wr;replace R:=hiQ R;replace Q:=hiQ Q;obtain ⟨y0,y1,y2,y3,y4,y5,y6,y7,y8,y9,GN,GR,GU⟩:=hcells;go_upto_region 20 with fail;refine aO (fun aGH auZ M => ?_);replace Q:=b1 Q auZ;replace R:=wB R auZ;replace KG:=oq KG auZ (by have:=KG.size;omega);clear auZ y0 y1 y2 y3 y4 y5 y6 y7 y8 y9 GN GR GU;cases hdd:m.eG with
       | false =>
        have hdm:Hid (Ap us m = []):=by show _=_;unfold Ap;rw [hdd];rfl
        have kK:=M.out.e4;rw [hdd] at kK;clear hdd;go_wp2_with fail;go_roundw
        case rel => exact ⟨j+1,by omega,by go_num,by rw [aCm.out,hdm.out,List.append_nil,HQ2.out];exact R.out,KG1.trans KG,Q.out⟩
        case measure => simp [intOf];omega
       | true =>
        have hdm:Ap us m=gI us m.dflt m.ty:=by unfold Ap;rw [hdd];rfl
        rw [hdm] at axz;have hfc:∀ (W:World) (q:List UInt8),Below gw wr W→q.length+(gI us m.dflt m.ty).length≤10000000000000→Am W gw q→Calls Tryz.prog 48 #[.pointer (some ⟨gw,0,none⟩),.agg #[.slice (some ⟨b,o,none⟩) us.length c2],.int .i64 m.ty,.agg #[.int .i64 m.dflt.kind,.bool m.dflt.bool,.int .i64 m.dflt.num,.string ⟨m.dflt.str.toArray⟩,.int .i64 m.dflt.id,.slice D1 m.dflt.keys.length e1,.slice D2 m.dflt.items.length e2,.slice D3 m.dflt.rest.length e3]] W (abX gw (q ++ gI us m.dflt m.ty) W):=HFM.out hdd;have HFC:=hiQ hfc;have HDM:=hiQ hdm;obtain ⟨iU,iD,je,mQ,kK,qU,qV,qW,qX,qY,oK,oL,oM⟩:=M.out.c13;rw [hdd] at kK;clear hdd hdm hfc;go_upto_region 21 with fail;have arv:=Q.out.e0;go_wp2_with fail;clear iU iD je mQ kK qU qV qW qX qY oK oL oM arv;((with_reducible refine (HFC.out _ q2 KG.low (by omega) R.out).mono ?_);rintro e aGI ⟨rfl,aAX,au0⟩);replace Q:=wH Q au0 (by omega) (by decide);replace M:=wH M au0 (by omega) (by decide);replace R:=hiQ aAX;replace KG:=KG.trans au0;clear aAX au0;go_wp2_with fail;go_roundw
        case rel => exact ⟨j+1,by omega,by go_num,by rw [aCm.out,HDM.out,← List.append_assoc,HQ2.out];exact R.out,KG1.trans KG,Q.out⟩
        case measure => simp [intOf];omega
      obtain rfl:j=x.ah.length:=by omega
      rw [List.take_of_length_le (Nat.le_refl _)] at R;have hfin:Hid (p1 ++ (us.take (k+1)).flatMap (BX us)=q ++ x.ah.flatMap (Ap us)):=by show _=_;rw [Y4.out,← List.append_assoc,HQ.out];rfl
      go_wp2_with fail;go_roundw
      case rel => exact ⟨k+1,by omega,by go_num,by rw [hfin.out];exact R,KG0.trans KG,Q⟩
      case measure => simp [intOf];omega
    obtain rfl:k=us.length:=by omega
    rw [List.take_of_length_le (Nat.le_refl _)] at R;have hby:p1 ++ us.flatMap (BX us)=Lp us:=by rw [HP1.out,HBY.out,List.append_assoc]
    rw [hby] at R;clear hby hbl aEV;obtain ⟨A9,c9,W1,hown⟩:=R;have cW:=W1.e0;have hcv:=ZE 87 9 5 Tryz.underlying87 Tryz.underlying5 Tryz.underlying9 hown;have hfb:Below w.heap.size w wo:=hW0.trans (KG.low.mono (by have:=hW0.size;omega));clear hown;go_wp2
    exact bodyPost_ret (v:=.tuple #[.string ⟨(Lp us).toArray⟩,.int .i64 0]) (by simp [results,Tryz.results22,go_sem]) rfl (⟨by rw [HBE.out],hfb⟩)
 have hbe:=HB0.out h3;have HBE:=hiQ hbe;have t1:(d3 == 0)=false:=by simpa using h3
 clear hbe h3 HB0 HB1 HD;go_wp2_with fail;exact bodyPost_ret (v:=.tuple #[.string ⟨#[]⟩,.int .i64 d3]) (by simp [results,Tryz.results22,go_sem]) rfl (⟨by rw [HBE.out],hw3⟩)
end Go.Proofs.YtlamhkffnlgofaaGreatDoor
