/- What sheaveref08.put computes, and what else is used with it. No condition. -/
import Derived.Test.YtkaedmpppnnamaaGreatDoorHAI
set_option maxHeartbeats 4000000
set_option maxRecDepth 100000
namespace Go.Proofs.YtkaedmpppnnamaaGreatDoor
open ChangeShapes WideShapes ChangeAt RowKit
def kZ:List Val->Val->Nat
 | [],_ => 0
 | x :: r,k => if alD x k < 0 then kZ r k+1 else 0
theorem Ze (k:Val):∀ l:List Val,kZ l k<=l.length
 | [] => b_ _
 | x :: r => by
  rw [kZ,z_];split
  . have:=Ze k r;omega
  omega
theorem UD (k:Val):∀ (l:List Val) (j:Nat) (hj:j < l.length),j<=kZ l k->(alD l[j] k < 0->j+1<=kZ l k)/\(¬ alD l[j] k < 0->kZ l k=j)
 | [],j,hj,_ => by simp at hj
 | x :: r,0,_,_ => by
  simp only [QA];rw [kZ]
  constructor
  . intro h;rw [o_ h];omega
  intro h;rw [gB h]
 | x :: r,j+1,hj,h => by
  simp only [S_];rw [kZ] at h ⊢;by_cases hx:alD x k < 0
  .
   rw [o_ hx] at h ⊢;have:=UD k r j (by simpa using hj) (by omega)
   constructor
   . intro h1;have:=this.1 h1;omega
   intro h1;have:=this.2 h1;omega
  rw [gB hx] at h;omega
theorem afx (k:Val) (l:List Val) (h:l.length<=kZ l k):kZ l k=l.length:=by have:=Ze k l;omega
def AP (v k it:Val):Val :=
 if (match v.keys[kZ v.keys k]? with | some x => decide (alD x k=0) | none => false)=true then v
 else .mk v.kind v.bool v.num v.str v.id (v.keys.take (kZ v.keys k) ++ [k] ++ v.keys.drop (kZ v.keys k)) (v.items.take (kZ v.keys k) ++ [it] ++ v.items.drop (kZ v.keys k)) v.rest
def NU (w:World) (S:Nat->Prop) (x:Val) (e:Ending) (w':World):Prop :=
 ∃ vk vi vr,e = .returned (aS x vk vi vr)/\jq w' (fun b => S b\/(w.heap.size<=b/\b < w'.heap.size)) x vk vi vr/\Below w.heap.size w w'
theorem jq.xJ {w w':World} {S:Nat->Prop} {x:Val} {vk vi vr:Value} (h:jq w S x vk vi vr) (hS:∀ b,S b->b < w.heap.size) (hb:Below w.heap.size w w'):jq w' S x vk vi vr :=
 h.keep (fun _ hp => hb.cell (hS _ hp)) (fun _ h => h)
theorem jq.forms {w:World} {S:Nat->Prop} {x:Val} {vk vi vr:Value} (h:jq w S x vk vi vr):∃ A1 c1 A2 c2 A3 c3,vk = .slice A1 x.keys.length c1/\vi = .slice A2 x.items.length c2/\vr = .slice A3 x.rest.length c3/\x.keys.length<=c1/\x.items.length<=c2/\x.rest.length<=c3:=by
 obtain ⟨_,_,_,_,⟨_,⟨A1,c1,e1,h1,_⟩,_⟩,⟨_,⟨A2,c2,e2,h2,_⟩,_⟩,⟨_,A3,c3,e3,h3,_⟩⟩:=h;exact ⟨A1,c1,A2,c2,A3,c3,e1,e2,e3,h1,h2,h3⟩
theorem lM.at_ {w:World} {S:Nat->Prop} {A:Option Addr} {n c:Nat} {xs:List Val} (h:lM w S (.slice A n c) xs) (hp:0 < xs.length):∃ (b o:Nat) (cc:Nat->List Value),A=some ⟨b,o,none⟩/\S b/\(∀ i,i < xs.length->∀ j u,(cc i)[j]?=some u->w.cell? ⟨b,o+i*8+j,none⟩=some u)/\∀ (i:Nat) (h:i < xs.length),lD w S xs[i] (cc i):=by
 obtain ⟨cc,⟨A',c',hv,_,h2⟩,h3⟩:=h;injection hv with h4 h5 h6;subst h4;rcases h2 with h2 | ⟨b,o,hA,hb,hcell⟩
 . omega
 exact ⟨b,o,cc,hA,hb,hcell,h3⟩
theorem aG.empty (w:World) (L:Nat) (hL:L<=w.heap.size):aG (w.alloc (.cells #[] 34)) L (fun _ => False) (.slice (some ⟨w.heap.size,0,none⟩) 0 0) [] :=
 ⟨⟨[],⟨by simp,.inr ⟨w.heap.size,0,#[],rfl,hL,heap_alloc_new w _,by simp,by simp [maxLen],by simp,by simp⟩⟩,fun i h => by simp at h⟩,fun k h => h.elim⟩
theorem aG.agA {w w':World} {L:Nat} {S:Nat->Prop} {v:Value} {xs:List Val} (h:aG w L S v xs) (hk:∀ k,(S k\/v.ownBlock=some k)->w'.heap[k]?=w.heap[k]?):aG w' L S v xs:=by
 obtain ⟨⟨cs,h1,h2⟩,h3⟩:=h;refine ⟨⟨cs,qo h1 fun k hb => hk k (.inr hb),fun i hi => (h2 i hi).keep (fun p hp => D_ (hk p.block (.inl hp))) (fun _ h => h)⟩,fun k hS => ⟨?_,(h3 k hS).2⟩⟩;have h4:=hk k (.inl hS);rcases QC k w'.heap.size with h5 | h5
 . exact h5
 rw [Array.getElem?_eq_none h5,Array.getElem?_eq_getElem (h3 k hS).1] at h4;cases h4
theorem aG.low {w:World} {L L':Nat} {S:Nat->Prop} {v:Value} {xs:List Val} (h:aG w L S v xs) (hL:L'<=L):aG w L' S v xs:=by
 obtain ⟨⟨cs,h1,h2⟩,h3⟩:=h;exact ⟨⟨cs,own_base h1 hL,h2⟩,h3⟩
def OG (w0:World) (L:Nat) (S:Nat->Prop) (v:Value) (xs:List Val) (w:World):Prop:=(∀ b:Nat,b < w0.heap.size->w.heap[b]?=w0.heap[b]?)->aG w L S v xs
theorem aG.fB {w0 w:World} {L:Nat} {S:Nat->Prop} {v:Value} {xs:List Val} (h:aG w L S v xs) (hS:∀ b,S b->b < w0.heap.size\/L<=b) (hb:Below w0.heap.size w0 w):Kept (OG w0 L S v xs) w L w.heap.size :=
 ⟨fun _ => h,fun _ hk hold => h.agA fun k hs => hs.elim (fun hs => (hS k hs).elim (fun h1 => (hold k h1).trans (hb.block k h1).symm) (fun h1 => hk k h1 (h.sep k hs).1)) (fun hs => hk k (h.lt k hs).1 (h.lt k hs).2),b_ _⟩
theorem afy {W w:World} {S Sk Si:Nat->Prop} {L6 L7:Nat} {v:Val} {ks is:List Val} {vk vi vr xG wM:Value} (hv:jq W S v vk vi vr) (hk:aG W L6 Sk xG ks) (hi:aG W L7 Si wM is) (h6:w.heap.size<=L6) (h7:w.heap.size<=L7)
  (hSk:∀ b,Sk b->S b) (hSi:∀ b,Si b->S b) (hl:ks.length<=1000/\is.length<=1000):jq W (fun b => S b\/(w.heap.size<=b/\b < W.heap.size)) (.mk v.kind v.bool v.num v.str v.id ks is v.rest) xG wM vr:=by
 have hok:∀ b,(Sk b\/xG.ownBlock=some b)->S b\/(w.heap.size<=b/\b < W.heap.size):=fun b hb => hb.elim (fun hb => .inl (hSk b hb)) (fun hb => .inr (by have:=hk.lt b hb;omega));have hoi:∀ b,(Si b\/wM.ownBlock=some b)->S b\/(w.heap.size<=b/\b < W.heap.size):=fun b hb => hb.elim (fun hb => .inl (hSi b hb)) (fun hb => .inr (by have:=hi.lt b hb;omega));exact ⟨hv.ints,hv.AL,⟨by show ks.length<=_;omega,by show is.length<=_;omega,hv.FH.2.2⟩,hv.Ie,hk.row.keep (fun _ _ => rfl) hok,hi.row.keep (fun _ _ => rfl) hoi,hv.rest.keep (fun _ _ => rfl) (fun _ h => .inl h)⟩
theorem zAq {p:Prop} (h:p:=by exact ⟨V.out.cell 5,d8 Y ((fun b o hlt => hw3.cell (p:=⟨b,o,none⟩) hlt))⟩):p:=h
theorem zAr {p:Prop} (h:p:=by exact ⟨V.out.cell 5,d8 Y ((fun b o hlt => aj.cell (p:=⟨b,o,none⟩) hlt))⟩):p:=h
theorem zAs {p:Prop} (h:p:=by exact ⟨V.out.cell 5,d8 Y ((fun b o hlt => bD.cell (p:=⟨b,o,none⟩) hlt))⟩):p:=h
theorem zAt {p:Prop} (h:p:=by exact ⟨V.out.cell 6,d8 Z ((fun b o hlt => hb.cell (p:=⟨b,o,none⟩) hlt))⟩):p:=h
theorem zAu {p:Prop} (h:p:=by exact ⟨V.out.cell 6,d8 Z ((fun b o hlt => aj.cell (p:=⟨b,o,none⟩) hlt))⟩):p:=h
theorem zAv {p:Prop} (h:p:=by exact ⟨V.out.cell 6,d8 Z ((fun b o hlt => bD.cell (p:=⟨b,o,none⟩) hlt))⟩):p:=h
theorem zBu {p:Prop} (h:p:=by
 refine gJ 8 fun K hK => ?_;refine eU (by rfl) _ _ (by rfl) (P.out.now (fun q hq => (aj).block q hq)) (by rfl) N.out (by rfl) (HZ.out.xJ HS.out aj).rd (fun q hq => ⟨u_ (HS.out q hq) (aj).size,fun e => by have:=HS.out q hq;have:=(P.out.now (fun q hq => (aj).block q hq)).lt q e;omega⟩) (by simp) (LL.out.le) ?_;intro v1 w1P aI hat hbB hkk;obtain ⟨zX,zY,rfl⟩:=aI.form;simp only [J_,U_] at aI;clear P N;replace V:=dG V hkk (fun hh => by have:=fO _ hh;omega);replace Y:=dG Y hkk (fun hh => by have:=fO _ hh;omega);replace Z:=dG Z hkk (fun hh => by have:=fO _ hh;omega);replace R:=dG R hkk (fun hh => by have:=fO _ hh;omega);replace O:=hiQ (O.out.iJ hbB (show wc.heap.size<=L7 by omega));replace LL:=hiQ (LL.out.iJ hbB (show L7<=L7 by omega));replace aj:=aj.trans (hbB.mono (show w.heap.size<=L7 by omega));have P:=hiQ (aG.fB aI (fun q hq => .inl (hq.elim False.elim (HS.out q))) aj);clear aI hat hbB hkk fO Eo;(try clear hHeld);refine hK.out _ _ zAu (fun hHeld => ?_);clear hK K;refine gJ 13 fun K hK => ?_;refine jZ (by rfl) _ _ (by rfl) (P.out.now (fun q hq => (aj).block q hq)) (by rfl) (by rfl) ?_;(try clear hHeld);refine hK.out _ _ zAu (fun hHeld => ?_);clear hK K;refine eH 14 ?_;refine pG 15 fun K hK => ?_;have aP:=V.out.e6;have sZ:=V.out.free 6;go_simp;clear aP sZ;generalize dP:w1P.setCell _ _=xA;obtain ⟨Y,Z,R,O,LL,P⟩:=f6 Y Z R O LL P (eF dP);replace V:=qM V dP;replace aj:=tf aj dP;clear dP;(try clear hHeld);refine hK.out _ _ ?_;clear hK K;refine akJ (by kernel_rfl) ?_ _
 (try clear hHeld);go_wp2_with fail;go_meet
 exact ⟨zX,zY,V.out,Y.out,Z.out,R.out,⟨O.out.now,P.out.now⟩,aj⟩):p:=h
theorem zBv {p:Prop} (h:p:=by
 refine gJ 8 fun K hK => ?_;refine eU (by rfl) _ _ (by rfl) (O.out.now (fun q hq => (aj).block q hq)) (by rfl) N.out (by rfl) (HY.out.xJ HS.out aj).rd (fun q hq => ⟨u_ (HS.out q hq) (aj).size,fun e => by have:=HS.out q hq;have:=(O.out.now (fun q hq => (aj).block q hq)).lt q e;omega⟩) (by simp) (by have:=R.out.here;omega) ?_;intro v1 w1O aI hat hbB hkk;obtain ⟨xu,xw,rfl⟩:=aI.form;simp only [J_,U_] at aI;clear O N;replace V:=dG V hkk (fun hh => by have:=fO _ hh;omega);replace Y:=dG Y hkk (fun hh => by have:=fO _ hh;omega);replace Z:=dG Z hkk (fun hh => by have:=fO _ hh;omega);replace R:=dG R hkk (fun hh => by have:=fO _ hh;omega);replace aj:=aj.trans (hbB.mono (show w.heap.size<=w.heap.size+4 by omega));have O:=hiQ (aG.fB aI (fun q hq => .inl (hq.elim False.elim (HS.out q))) aj);clear aI hat hbB hkk fO Eo;(try clear hHeld);refine hK.out _ _ zAr (fun hHeld => ?_);clear hK K;refine gJ 13 fun K hK => ?_;refine jZ (by rfl) _ _ (by rfl) (O.out.now (fun q hq => (aj).block q hq)) (by rfl) (by rfl) ?_;(try clear hHeld);refine hK.out _ _ zAr (fun hHeld => ?_);clear hK K;refine eH 14 ?_;refine pG 15 fun K hK => ?_;have aQ:=V.out.e5;have zV:=V.out.free 5;go_simp;clear aQ zV;generalize dP:w1O.setCell _ _=xA;obtain ⟨Y,Z,R,O⟩:=f4 Y Z R O (eF dP);replace V:=Ea V dP;replace aj:=tf aj dP;clear dP;(try clear hHeld);refine hK.out _ _ ?_;clear hK K;refine akJ (by kernel_rfl) ?_ _;(try clear hHeld);go_wp2_with fail;go_meet
 exact ⟨xu,xw,V.out,Y.out,Z.out,R.out,aG.fB (O.out.now (fun q hq => (aj).block q hq)) (fun q hq => .inl (hq.elim False.elim (HS.out q))) aj,aj⟩):p:=h
theorem zHx {p:Prop} (h:p:=by
 subst hWS;have bD:=hw3;clear hw3;refine gJ 5 fun K hK => ?_;refine jZ (by rfl) _ _ (by rfl) (O.out.now (fun q hq => (bD).block q hq)) (by rfl) (by rfl) ?_;(try clear hHeld);refine hK.out _ _ zAs (fun hHeld => ?_);clear hK K;obtain ⟨gN,rfl⟩ : ∃ g,g=zW:=⟨_,rfl⟩
 obtain ⟨oW,hWS⟩ : ∃ x,x=rZ:=⟨_,rfl⟩
 subst hWS;have aj:=bD;clear bD;exact zBv):p:=h
theorem zHy {p:Prop} (h:p:=by
 subst hWS;have bD:=hb;clear hb;refine gJ 5 fun K hK => ?_;refine jZ (by rfl) _ _ (by rfl) (P.out.now (fun q hq => (bD).block q hq)) (by rfl) (by rfl) ?_;(try clear hHeld);refine hK.out _ _ zAv (fun hHeld => ?_);clear hK K;obtain ⟨gN,rfl⟩ : ∃ g,g=zW:=⟨_,rfl⟩
 obtain ⟨oW,hWS⟩ : ∃ x,x=rZ:=⟨_,rfl⟩
 subst hWS;have aj:=bD;clear bD;exact zBu):p:=h
theorem ahy (v k t:Val) (S:Nat->Prop) (vk vi vr kk ki kr tk' ti tr:Value) (w:World) (hS:∀ b,S b->b < w.heap.size) (hv:jq w S v vk vi vr) (hk:jq w S k kk ki kr) (ht:jq w S t tk' ti tr) (h0:v.keys = []) (h1:v.items = []) (hvk:vk = .slice none 0 0) (J3:vi = .slice none 0 0) :
  Calls Tryz.prog 67 #[aS v vk vi vr,aS k kk ki kr,aS t tk' ti tr] w (NU w S (AP v k t)):=by
 have Hp:Hid (AP v k t = .mk v.kind v.bool v.num v.str v.id [k] [t] v.rest):=by show _=_;unfold AP;rw [h0,h1];simp [kZ]
 obtain ⟨A1,c1,A2,c2,A3,c3,-,-,rfl,-,-,-⟩:=hv.forms;obtain ⟨K1,d1,K2,d2,K3,d3,rfl,rfl,rfl,-,-,-⟩:=hk.forms;obtain ⟨T1,e1,T2,e2,T3,e3,rfl,rfl,rfl,-,-,-⟩:=ht.forms;subst hvk J3;have HV:=hiQ hv;have HY:=hiQ hk;have HZ:=hiQ ht;have HS:=hiQ hS;clear hv hk ht hS h0 h1;go_enter Tryz.func67,Tryz.ntmps67
 go_upto_region 1 with fail;refine am4 (fun wd2 hb1 V Y Z R => ?_);have hw3:=hb1;clear hb1;go_wp2_with fail;refine wp_loop_rounds 1 ?_;rw [rounds_succ];go_upto_region 2 with fail;have aQ:=V.out.e5;refine t_ (S:=(fun w' => w'.cell? ⟨w.heap.size,5,none⟩=some (.slice none 0 0))) (by kernel_rfl) aQ (fun hHeld => ?_);clear aQ;have hb4:Below wd2.heap.size wd2 (wd2.drew):=(g_ _ _).drew;obtain ⟨V,Y,Z,R⟩:=b4 V Y Z R hb4;replace hw3:=dT hw3 hb4;clear hb4;generalize wd2.drew=fG at *;refine tk 0 ?_;refine tk 1 ?_;refine tk 2 ?_;refine tk 3 ?_;refine tk 4 ?_;refine tk 5 ?_;refine tks 6 ?_;simp only [aF];refine tks 7 ?_;simp only [aF];refine tks 8 ?_;simp only [aF];refine tks 9 ?_;simp only [aF];refine tks 10 ?_;simp only [aF];refine tks 11 ?_;simp only [aF];refine tks 12 ?_;simp only [aF];refine tks 13 ?_;simp only [aF];refine tk 14 ?_;refine Dl (by kernel_rfl) ?_ _;(try clear hHeld);go_upto_region 4 with fail;have aQ:=V.out.e5;refine t_ (S:=(fun w' => w'.cell? ⟨w.heap.size,5,none⟩=some (.slice none 0 0))) (by kernel_rfl) aQ (fun hHeld => ?_);clear aQ;have hb6:Below fG.heap.size fG (fG.drew):=(g_ _ _).drew;obtain ⟨V,Y,Z,R⟩:=b4 V Y Z R hb6;replace hw3:=dT hw3 hb6;clear hb6;generalize fG.drew=jC at *;refine tk 0 ?_;refine tk 1 ?_;refine tk 2 ?_;refine tk 3 ?_;refine tk 4 ?_;refine tk 5 ?_;refine tks 6 ?_;simp only [aF];refine tks 7 ?_;simp only [aF];refine tks 8 ?_;simp only [aF];refine tks 9 ?_;simp only [aF];refine tks 10 ?_;simp only [aF]
 refine tks 11 ?_;simp only [aF];refine tks 12 ?_;simp only [aF];refine tks 13 ?_;simp only [aF];refine tk 14 ?_;refine Dl (by kernel_rfl) ?_ _;(try clear hHeld);go_upto_region 6 with fail;go_cut [] from 41 to 55 (fun wx => ∃ (A:Option Addr) (c:Nat),Has wx w.heap.size 34 #[.int .i64 v.kind,.bool v.bool,.int .i64 v.num,.string ⟨v.str.toArray⟩,.int .i64 v.id,.slice A 1 c,.slice none 0 0,.slice A3 v.rest.length c3]/\Has wx (w.heap.size+1) 34 #[.int .i64 k.kind,.bool k.bool,.int .i64 k.num,.string ⟨k.str.toArray⟩,.int .i64 k.id,.slice K1 k.keys.length d1,.slice K2 k.items.length d2,.slice K3 k.rest.length d3]/\Has wx (w.heap.size+1+1) 34 #[.int .i64 t.kind,.bool t.bool,.int .i64 t.num,.string ⟨t.str.toArray⟩,.int .i64 t.id,.slice T1 t.keys.length e1,.slice T2 t.items.length e2,.slice T3 t.rest.length e3]/\Has wx (w.heap.size+1+1+1) 34 #[.int .i64 0,.bool false,.int .i64 0,.string ⟨#[]⟩,.int .i64 0,.slice none 0 0,.slice none 0 0,.slice none 0 0]/\Kept (OG w (w.heap.size+4) (fun b => False\/S b) (.slice A 1 c) [k]) wx (w.heap.size+4) wx.heap.size/\Below w.heap.size w wx)
 case first =>
  have aQ:=V.out.e5;obtain ⟨kT,kU,kV,kW,kX,mD,lJ,mF⟩:=Y.out.c8;refine l9 (S:=(fun w' => w'.cell? ⟨w.heap.size,5,none⟩=some (.slice none 0 0)/\w'.cell? ⟨w.heap.size+1,0,none⟩=some (.int .i64 k.kind)/\w'.cell? ⟨w.heap.size+1,1,none⟩=some (.bool k.bool)/\w'.cell? ⟨w.heap.size+1,2,none⟩=some (.int .i64 k.num)/\w'.cell? ⟨w.heap.size+1,3,none⟩=some (.string ⟨k.str.toArray⟩)/\w'.cell? ⟨w.heap.size+1,4,none⟩=some (.int .i64 k.id)/\w'.cell? ⟨w.heap.size+1,5,none⟩=some (.slice K1 k.keys.length d1)/\w'.cell? ⟨w.heap.size+1,6,none⟩=some (.slice K2 k.items.length d2)/\w'.cell? ⟨w.heap.size+1,7,none⟩=some (.slice K3 k.rest.length d3)/\(∀ (b o:Nat),b < w.heap.size->w'.cell? ⟨b,o,none⟩=w.cell? ⟨b,o,none⟩))) (fun j => j == 15) (by kernel_rfl) ⟨aQ,kT,kU,kV,kW,kX,mD,lJ,mF,(fun b o hlt => hw3.cell (p:=⟨b,o,none⟩) hlt)⟩ (fun hHeld => ?_);clear aQ kT kU kV kW kX mD lJ mF;have hb8:Below jC.heap.size jC (jC.drew):=(g_ _ _).drew;obtain ⟨V,Y,Z,R⟩:=b4 V Y Z R hb8;replace hw3:=dT hw3 hb8;clear hb8;generalize jC.drew=nM at *;refine eH 1 ?_;refine eH 2 ?_;refine eH 3 ?_;refine eH 4 ?_;refine eH 6 ?_;refine eH 9 ?_;refine eH 10 ?_;refine eH 11 ?_;refine eH 12 ?_;refine lV (rs:=[0,7]) (by kernel_rfl) (by simp) ?_;refine dX.cons rfl (fun K hK => ?_) (dX.cons rfl (fun K hK => ?_) (dX.nil))
  .
   skip
   go_simp;have kE:=aG.empty nM (w.heap.size+4) (by have:=R.out.here;omega);obtain ⟨gE,hgE⟩ : ∃ g,g=nM.heap.size:=⟨_,rfl⟩
   rw [<- hgE] at kE;have aY:Below nM.heap.size nM (nM.alloc (.cells #[] 34)):=(jY (g_ _ _) (b_ _) _)
   obtain ⟨V,Y,Z,R⟩:=b4 V Y Z R aY;replace hw3:=dT hw3 aY;clear aY;generalize nM.alloc (.cells #[] 34)=dw at *;have fO:∀ q,(Value.slice (some ⟨gE,0,none⟩) 0 0).ownBlock=some q->q=gE:=fun q h => by injection h with h;exact h.symm
   have Eo:=(kE.lt gE rfl).1;have O:=hiQ (aG.fB kE (fun _ hq => hq.elim) hw3);clear kE;simp only [<- hgE];clear hgE;(try clear hHeld);refine hK.out _ _ zAq (fun hHeld => ?_);clear hK K;refine lV (rs:=[5,7]) (by kernel_rfl) (by simp) ?_;refine dX.cons rfl (fun K hK => ?_) (dX.cons rfl (fun K hK => ?_) (dX.nil))
   .
    skip
    refine jZ (by rfl) _ _ (by rfl) (O.out.now (fun q hq => (hw3).block q hq)) (by rfl) (by rfl) ?_;(try clear hHeld);refine hK.out _ _ zAq (fun hHeld => ?_);clear hK K;refine gJ 7 fun K hK => ?_;go_simp;refine aO (fun dQ fV N => ?_);have qA:=V.out.here;have alj:=Y.out.here;have sO:=Z.out.here;have sW:=R.out.here;have Az:=O.out.le;have BQ:=hw3.size;obtain ⟨V,Y,Z,R,O⟩:=b5 V Y Z R O fV;replace hw3:=dT hw3 fV;clear fV;generalize dw.heap.size=g14 at *;(try clear hHeld);refine hK.out _ _ zAq (fun hHeld => ?_);clear hK K;obtain ⟨gN,rfl⟩ : ∃ g,g=g14:=⟨_,rfl⟩
    obtain ⟨oW,hWS⟩ : ∃ x,x=dQ:=⟨_,rfl⟩
    subst hWS;have aj:=hw3;clear hw3;exact zBv
   skip
   go_simp;refine aO (fun dQ fV N => ?_);have qA:=V.out.here;have alj:=Y.out.here;have sO:=Z.out.here;have sW:=R.out.here;have Az:=O.out.le;have BQ:=hw3.size;obtain ⟨V,Y,Z,R,O⟩:=b5 V Y Z R O fV;replace hw3:=dT hw3 fV;clear fV;generalize dw.heap.size=g14 at *;(try clear hHeld);refine hK.out _ _ zAq (fun hHeld => ?_);clear hK K;obtain ⟨zW,rfl⟩ : ∃ g,g=g14:=⟨_,rfl⟩
   obtain ⟨rZ,hWS⟩ : ∃ x,x=dQ:=⟨_,rfl⟩
   exact zHx
  skip
  go_simp;refine aO (fun dw aY N => ?_);have alh:=V.out.here;have akV:=Y.out.here;have qA:=Z.out.here;have alj:=R.out.here;have sO:=hw3.size;obtain ⟨V,Y,Z,R⟩:=b4 V Y Z R aY;replace hw3:=dT hw3 aY;clear aY;generalize nM.heap.size=g12 at *;(try clear hHeld);refine hK.out _ _ zAq (fun hHeld => ?_);clear hK K;refine gJ 0 fun K hK => ?_;go_simp;have kE:=aG.empty dw (w.heap.size+4) (by have:=R.out.here;omega);obtain ⟨gE,hgE⟩ : ∃ g,g=dw.heap.size:=⟨_,rfl⟩
  rw [<- hgE] at kE;have nU:Below dw.heap.size dw (dw.alloc (.cells #[] 34)):=(jY (g_ _ _) (b_ _) _)
  obtain ⟨V,Y,Z,R,N⟩:=b5 V Y Z R N nU;replace hw3:=dT hw3 nU;clear nU;generalize dw.alloc (.cells #[] 34)=fZ at *;have fO:∀ q,(Value.slice (some ⟨gE,0,none⟩) 0 0).ownBlock=some q->q=gE:=fun q h => by injection h with h;exact h.symm
  have Eo:=(kE.lt gE rfl).1;have O:=hiQ (aG.fB kE (fun _ hq => hq.elim) hw3);clear kE;simp only [<- hgE];clear hgE;(try clear hHeld);refine hK.out _ _ zAq (fun hHeld => ?_);clear hK K;obtain ⟨zW,rfl⟩ : ∃ g,g=g12:=⟨_,rfl⟩
  obtain ⟨rZ,hWS⟩ : ∃ x,x=fZ:=⟨_,rfl⟩
  exact zHx
 case rest =>
  clear V Y Z R;obtain ⟨xu,xw,V,Y,Z,R,hO,hb⟩:=hcut;replace V:=hiQ V;replace Y:=hiQ Y;replace Z:=hiQ Z;replace R:=hiQ R;have O:=hiQ (hO);clear hO;obtain ⟨L7,hL1,hL2,hL3⟩ : ∃ L,wc.heap.size<=L/\w.heap.size+4<=L/\L<=wc.heap.size:=⟨wc.heap.size,b_ _,by have:=R.out.here;omega,b_ _⟩
  have LL:=hiQ ((show Kept (fun _ => True) wc L7 L7 from ⟨trivial,fun _ _ => trivial,hL3⟩));clear hL3;go_upto_region 7 with fail;go_cut [] from 56 to 70 (fun wx => ∃ (A:Option Addr) (c:Nat),Has wx w.heap.size 34 #[.int .i64 v.kind,.bool v.bool,.int .i64 v.num,.string ⟨v.str.toArray⟩,.int .i64 v.id,.slice xu 1 xw,.slice A 1 c,.slice A3 v.rest.length c3]/\Has wx (w.heap.size+1) 34 #[.int .i64 k.kind,.bool k.bool,.int .i64 k.num,.string ⟨k.str.toArray⟩,.int .i64 k.id,.slice K1 k.keys.length d1,.slice K2 k.items.length d2,.slice K3 k.rest.length d3]/\Has wx (w.heap.size+1+1) 34 #[.int .i64 t.kind,.bool t.bool,.int .i64 t.num,.string ⟨t.str.toArray⟩,.int .i64 t.id,.slice T1 t.keys.length e1,.slice T2 t.items.length e2,.slice T3 t.rest.length e3]/\Has wx (w.heap.size+1+1+1) 34 #[.int .i64 0,.bool false,.int .i64 0,.string ⟨#[]⟩,.int .i64 0,.slice none 0 0,.slice none 0 0,.slice none 0 0]/\(OG w (w.heap.size+4) (fun b => False\/S b) (.slice xu 1 xw) [k] wx/\OG w L7 (fun b => False\/S b) (.slice A 1 c) [t] wx)/\Below w.heap.size w wx)
  case first =>
   have aP:=V.out.e6;obtain ⟨MQ,KA,MS,MW,MZ,Na,Nb,Nc⟩:=Z.out.c8;refine l9 (S:=(fun w' => w'.cell? ⟨w.heap.size,6,none⟩=some (.slice none 0 0)/\w'.cell? ⟨w.heap.size+1+1,0,none⟩=some (.int .i64 t.kind)/\w'.cell? ⟨w.heap.size+1+1,1,none⟩=some (.bool t.bool)/\w'.cell? ⟨w.heap.size+1+1,2,none⟩=some (.int .i64 t.num)/\w'.cell? ⟨w.heap.size+1+1,3,none⟩=some (.string ⟨t.str.toArray⟩)/\w'.cell? ⟨w.heap.size+1+1,4,none⟩=some (.int .i64 t.id)/\w'.cell? ⟨w.heap.size+1+1,5,none⟩=some (.slice T1 t.keys.length e1)/\w'.cell? ⟨w.heap.size+1+1,6,none⟩=some (.slice T2 t.items.length e2)/\w'.cell? ⟨w.heap.size+1+1,7,none⟩=some (.slice T3 t.rest.length e3)/\(∀ (b o:Nat),b < w.heap.size->w'.cell? ⟨b,o,none⟩=w.cell? ⟨b,o,none⟩))) (fun j => j == 15) (by kernel_rfl) ⟨aP,MQ,KA,MS,MW,MZ,Na,Nb,Nc,(fun b o hlt => hb.cell (p:=⟨b,o,none⟩) hlt)⟩ (fun hHeld => ?_);clear aP MQ KA MS MW MZ Na Nb Nc;have hb8:Below wc.heap.size wc (wc.drew):=(g_ _ _).drew;obtain ⟨V,Y,Z,R,O,LL⟩:=b6 V Y Z R O LL hb8;replace hb:=dT hb hb8;clear hb8;generalize wc.drew=nM at *;refine eH 1 ?_;refine eH 2 ?_;refine eH 3 ?_;refine eH 4 ?_;refine eH 6 ?_;refine eH 9 ?_;refine eH 10 ?_;refine eH 11 ?_;refine eH 12 ?_;refine lV (rs:=[0,7]) (by kernel_rfl) (by simp) ?_;refine dX.cons rfl (fun K hK => ?_) (dX.cons rfl (fun K hK => ?_) (dX.nil))
   .
    skip
    go_simp;have kE:=aG.empty nM (L7) (LL.out.le);obtain ⟨gE,hgE⟩ : ∃ g,g=nM.heap.size:=⟨_,rfl⟩
    rw [<- hgE] at kE;have aY:Below nM.heap.size nM (nM.alloc (.cells #[] 34)):=(jY (g_ _ _) (b_ _) _)
    obtain ⟨V,Y,Z,R,O,LL⟩:=b6 V Y Z R O LL aY;replace hb:=dT hb aY;clear aY;generalize nM.alloc (.cells #[] 34)=dw at *;have fO:∀ q,(Value.slice (some ⟨gE,0,none⟩) 0 0).ownBlock=some q->q=gE:=fun q h => by injection h with h;exact h.symm
    have Eo:=(kE.lt gE rfl).1;have P:=hiQ (aG.fB kE (fun _ hq => hq.elim) hb);clear kE;simp only [<- hgE];clear hgE;(try clear hHeld);refine hK.out _ _ zAt (fun hHeld => ?_);clear hK K;refine lV (rs:=[5,7]) (by kernel_rfl) (by simp) ?_;refine dX.cons rfl (fun K hK => ?_) (dX.cons rfl (fun K hK => ?_) (dX.nil))
    .
     skip
     refine jZ (by rfl) _ _ (by rfl) (P.out.now (fun q hq => (hb).block q hq)) (by rfl) (by rfl) ?_;(try clear hHeld);refine hK.out _ _ zAt (fun hHeld => ?_);clear hK K;refine gJ 7 fun K hK => ?_;go_simp;refine aO (fun dQ fV N => ?_);have qA:=V.out.here;have alj:=Y.out.here;have sO:=Z.out.here;have sW:=R.out.here;have Az:=O.out.le;have BQ:=LL.out.le;have Dv:=P.out.le;have Dw:=hb.size;obtain ⟨V,Y,Z,R,O,LL,P⟩:=b7 V Y Z R O LL P fV;replace hb:=dT hb fV;clear fV;generalize dw.heap.size=g14 at *;(try clear hHeld);refine hK.out _ _ zAt (fun hHeld => ?_);clear hK K;obtain ⟨gN,rfl⟩ : ∃ g,g=g14:=⟨_,rfl⟩
     obtain ⟨oW,hWS⟩ : ∃ x,x=dQ:=⟨_,rfl⟩
     subst hWS;have aj:=hb;clear hb;exact zBu
    skip
    go_simp;refine aO (fun dQ fV N => ?_);have qA:=V.out.here;have alj:=Y.out.here;have sO:=Z.out.here;have sW:=R.out.here;have Az:=O.out.le;have BQ:=LL.out.le;have Dv:=P.out.le;have Dw:=hb.size;obtain ⟨V,Y,Z,R,O,LL,P⟩:=b7 V Y Z R O LL P fV;replace hb:=dT hb fV;clear fV;generalize dw.heap.size=g14 at *;(try clear hHeld);refine hK.out _ _ zAt (fun hHeld => ?_);clear hK K;obtain ⟨zW,rfl⟩ : ∃ g,g=g14:=⟨_,rfl⟩
    obtain ⟨rZ,hWS⟩ : ∃ x,x=dQ:=⟨_,rfl⟩
    exact zHy
   skip
   go_simp;refine aO (fun dw aY N => ?_);have alh:=V.out.here;have akV:=Y.out.here;have qA:=Z.out.here;have alj:=R.out.here;have sO:=O.out.le;have sW:=LL.out.le;have Az:=hb.size;obtain ⟨V,Y,Z,R,O,LL⟩:=b6 V Y Z R O LL aY;replace hb:=dT hb aY;clear aY;generalize nM.heap.size=g12 at *;(try clear hHeld);refine hK.out _ _ zAt (fun hHeld => ?_);clear hK K;refine gJ 0 fun K hK => ?_;go_simp;have kE:=aG.empty dw (L7) (LL.out.le);obtain ⟨gE,hgE⟩ : ∃ g,g=dw.heap.size:=⟨_,rfl⟩
   rw [<- hgE] at kE;have iO:Below dw.heap.size dw (dw.alloc (.cells #[] 34)):=(jY (g_ _ _) (b_ _) _)
   obtain ⟨V,Y,Z,R,N,O,LL⟩:=b7 V Y Z R N O LL iO;replace hb:=dT hb iO;clear iO;generalize dw.alloc (.cells #[] 34)=jU at *;have fO:∀ q,(Value.slice (some ⟨gE,0,none⟩) 0 0).ownBlock=some q->q=gE:=fun q h => by injection h with h;exact h.symm
   have Eo:=(kE.lt gE rfl).1;have P:=hiQ (aG.fB kE (fun _ hq => hq.elim) hb);clear kE;simp only [<- hgE];clear hgE;(try clear hHeld);refine hK.out _ _ zAt (fun hHeld => ?_);clear hK K;obtain ⟨zW,rfl⟩ : ∃ g,g=g12:=⟨_,rfl⟩
   obtain ⟨rZ,hWS⟩ : ∃ x,x=jU:=⟨_,rfl⟩
   exact zHy
  case rest =>
   clear V Y Z R O LL;obtain ⟨zX,zY,V,Y,Z,R,⟨hO,hP⟩,hb⟩:=hcut;replace V:=hiQ V;replace R:=hiQ R;have O:=hiQ (aG.fB (hO (fun q hq => (hb).block q hq)) (fun q hq => .inl (hq.elim False.elim (HS.out q))) hb);have P:=hiQ (aG.fB (aG.low (hP (fun q hq => (hb).block q hq)) hL2) (fun q hq => .inl (hq.elim False.elim (HS.out q))) hb);clear hO hP hL1 hL2;obtain ⟨bK,dh,dn,dI,bG,aQ,aP,dJ⟩:=V.out.c8;go_upto_region 8 with fail;go_wp2_with (refine sR R.out ?_)
   clear bK dh dn dI bG aQ aP dJ;generalize kJ:wc.setRow _ _=qP;obtain ⟨V,O,P⟩:=f3 V O P (eR kJ);replace R:=dV R kJ;replace hb:=tr hb kJ;clear kJ;exact vJ (v:=.agg #[.int .i64 v.kind,.bool v.bool,.int .i64 v.num,.string ⟨v.str.toArray⟩,.int .i64 v.id,.slice xu 1 xw,.slice zX 1 zY,.slice A3 v.rest.length c3]) (by simp [results,Tryz.results67,go_sem,R.out.c8]) rfl (⟨_,_,_,by rw [Hp.out];rfl,by rw [Hp.out];exact afy (HV.out.xJ HS.out hb) (O.out.now (fun q hq => (hb).block q hq)) (P.out.now (fun q hq => (hb).block q hq)) (by omega) (by omega) (fun q hq => hq.elim False.elim id) (fun q hq => hq.elim False.elim id) (by simp),hb⟩)
theorem P8 (a b:Int):nC b a = - nC a b:=by
 unfold nC;by_cases h1:a < b
 . rw [gB (by omega),o_ h1,o_ h1];omega
 by_cases h2:b < a
 . rw [o_ h2,gB h1,o_ h2]
 rw [gB h2,gB h1,gB h1,gB h2];rfl
theorem afz (a b:List UInt8):AO b a = - AO a b:=by
 unfold AO;cases h1:Op.bytesLess a b with
 | true => rw [ZJ a b h1];rfl
 | false => cases h2:Op.bytesLess b a with
  | true => rfl
  | false => rfl
theorem UE (x y:Val) (h:x.kind=y.kind):alD x y=if y.kind=1 then (if x.bool=y.bool then 0 else if y.bool then -1 else 1)
  else if y.kind=2 then nC (zig x.num) (zig y.num)
  else if y.kind=3 then (if x.str.length≠y.str.length then nC x.str.length y.str.length else AO x.str y.str)
  else if y.kind=4 then nC x.id y.id
  else 0:=by
 unfold alD;rw [gB (fun e => e h),h]
theorem afA (x y:Val):alD y x = - alD x y:=by
 by_cases hk:x.kind=y.kind
 .
  rw [UE y x hk.symm,UE x y hk,hk];by_cases k1:y.kind=1
  .
   rw [o_ k1,o_ k1];cases x.bool <;> cases y.bool <;> rfl
  rw [gB k1,gB k1];by_cases k2:y.kind=2
  . rw [o_ k2,o_ k2];exact P8 _ _
  rw [gB k2,gB k2];by_cases k3:y.kind=3
  .
   rw [o_ k3,o_ k3];by_cases hl:x.str.length=y.str.length
   . rw [gB (fun e => e hl.symm),gB (fun e => e hl)];exact afz _ _
   rw [o_ (fun h => hl h.symm),o_ hl];exact P8 _ _
  rw [gB k3,gB k3];by_cases k4:y.kind=4
  . rw [o_ k4,o_ k4];exact P8 _ _
  rw [gB k4,gB k4];rfl
 unfold alD;rw [o_ (fun h => hk h.symm),o_ hk];rfl
def insL (l:List Val) (k:Val) (i:Nat):List Val:=l.take i ++ [k] ++ l.drop i
theorem FX (l:List Val) (k:Val) (i:Nat):(insL l k i).length=l.length+1:=by
 unfold insL;simp only [h_,L_,Qx,U_];omega
theorem Xz (P:Val->Bool) (l:List Val) (k:Val) (i:Nat) (hl:l.all P=true) (hk:P k=true):(insL l k i).all P=true:=by
 rw [QD] at hl ⊢;intro y hy;unfold insL at hy;simp only [Dp,Qp] at hy;rcases hy with (hy | hy) | hy
 . exact hl y (List.mem_of_mem_take hy)
 . rw [hy];exact hk
 exact hl y (List.mem_of_mem_drop hy)
theorem XA (k:Val):∀ l:List Val,ati l=true->(∀ x,l[kZ l k]?=some x->alD x k≠0)->ati (insL l k (kZ l k))=true
 | [],_,_ => by simp [insL,ati]
 | x :: r,h,hne => by
  by_cases hx:alD x k < 0
  .
   have hlow:kZ (x :: r) k=kZ r k+1:=by rw [kZ,o_ hx]
   rw [hlow] at hne ⊢;have hr:ati r=true:=by
    cases r with
    | nil => rfl
    | cons y s => rw [ati,j_] at h;exact h.2
   have ih:=XA k r hr (fun y hy => hne y (by simpa using hy));have he:insL (x :: r) k (kZ r k+1)=x :: insL r k (kZ r k):=by simp [insL]
   rw [he];cases r with
   | nil => simp [insL,kZ,ati,hx]
   | cons y s =>
    by_cases hy:alD y k < 0
    .
     have hl2:kZ (y :: s) k=kZ s k+1:=by rw [kZ,o_ hy]
     rw [hl2] at ih ⊢;have he2:insL (y :: s) k (kZ s k+1)=y :: insL s k (kZ s k):=by simp [insL]
     rw [he2] at ih ⊢;rw [ati,j_] at h ⊢;exact ⟨h.1,ih⟩
    have hl2:kZ (y :: s) k=0:=by rw [kZ,gB hy]
    rw [hl2] at ih ⊢;have he2:insL (y :: s) k 0=k :: y :: s:=by simp [insL]
    rw [he2] at ih ⊢;rw [ati,ih,n_ hx];rfl
  have hlow:kZ (x :: r) k=0:=by rw [kZ,gB hx]
  rw [hlow] at hne ⊢;have he:insL (x :: r) k 0=k :: x :: r:=by simp [insL]
  have h0:=hne x (by simp);rw [he,ati,h,n_ (by rw [afA x k];omega)];rfl
theorem aaH (v k it:Val):AP v k it=v\/((∀ x,v.keys[kZ v.keys k]?=some x->alD x k≠0)/\AP v k it = .mk v.kind v.bool v.num v.str v.id (insL v.keys k (kZ v.keys k)) (insL v.items it (kZ v.keys k)) v.rest):=by
 by_cases h:(match v.keys[kZ v.keys k]? with | some x => decide (alD x k=0) | none => false)=true
 . exact .inl (o_ h)
 refine .inr ⟨fun x hx => ?_,gB h⟩;rw [hx] at h;simpa using h
theorem body8 (ts:List ay) (pl:Bool) (x:ay) (hk:x.kind=8) (v:Val):jT ts pl x v=(decide ((v.keys.length:Int)<=x.max) && (decide (v.items.length=v.keys.length) && (rC ts pl v.keys x.key && (ati v.keys && rC ts pl v.items x.elem)))):=by
 simp [jT,ig,hk]
theorem ahz {ts:List ay} {pl:Bool} {t:Int} {x:ay} {v k it:Val} (hx:bM ts t=some x) (hk:x.kind=8) (hf:cO ts pl v t=true) (h1:cO ts pl k x.key=true) (h2:cO ts pl it x.elem=true) (hm:(v.keys.length:Int)+1<=x.max):cO ts pl (AP v k it) t=true:=by
 rcases aaH v k it with h | ⟨hne,h⟩
 . rw [h];exact hf
 rw [h];rw [kG,hx] at hf ⊢;simp only [j_,w_] at hf ⊢;obtain ⟨h3,h4,h5⟩:=hf;have hvk:v.kind=8:=h3.trans hk;have h5':(decide ((v.keys.length:Int)<=x.max) && (decide (v.items.length=v.keys.length) && (rC ts pl v.keys x.key && (ati v.keys && rC ts pl v.items x.elem))))=true:=by simpa [ig,hk] using h5
 simp only [j_,w_,uT] at h5';obtain ⟨h6,h7,h8,h9,h10⟩:=h5';refine ⟨h3,?_,?_⟩
 .
  have hp:∀ y:Val,y.kind=8->y.bool=v.bool->y.num=v.num->y.str=v.str->y.id=v.id->y.rest=v.rest->aA y=true:=by
   intro y e1 e2 e3 e4 e5 e6;simp [aA,hvk] at h4;simp [aA,e1,e2,e3,e4,e5,e6,h4]
  exact hp _ hvk rfl rfl rfl rfl rfl
 have h11:(decide (((insL v.keys k (kZ v.keys k)).length:Int)<=x.max) && (decide ((insL v.items it (kZ v.keys k)).length=(insL v.keys k (kZ v.keys k)).length) && (rC ts pl (insL v.keys k (kZ v.keys k)) x.key && (ati (insL v.keys k (kZ v.keys k)) && rC ts pl (insL v.items it (kZ v.keys k)) x.elem))))=true:=by
  simp only [j_,w_,uT,FX];exact ⟨by omega,by omega,Xz _ _ _ _ h8 h1,XA k _ h9 hne,Xz _ _ _ _ h10 h2⟩
 exact (body8 ts pl x hk _).trans h11
