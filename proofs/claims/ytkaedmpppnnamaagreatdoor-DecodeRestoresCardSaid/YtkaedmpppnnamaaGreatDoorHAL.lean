/- copied, and what else is used with it. No condition. -/
import Derived.Test.YtkaedmpppnnamaaGreatDoorHAI
set_option maxHeartbeats 1600000
set_option maxRecDepth 100000
namespace Go.Proofs.YtkaedmpppnnamaaGreatDoor
open ChangeShapes WideShapes ChangeAt RowKit
theorem DN (g:Nat):∀ (vs:List Value) (o:Nat) (w:World) (k:Nat),k≠g->(w.setCells g o vs).heap[k]?=w.heap[k]?
 | [],_,_,_,_ => rfl
 | v :: r,o,w,k,hk => (DN g r (o+1) (w.setCell ⟨g,o,none⟩ v) k hk).trans (Below.heap_setCell w ⟨g,o,none⟩ v k hk)
def ako (x:Val) (w:World) (e:Ending) (w':World):Prop :=
 ∃ vk vi vr,e = .returned (aS x vk vi vr)/\jq w' (sQ w w') x vk vi vr/\Below w.heap.size w w'
theorem Kept.mark {w:World} {n:Nat} (h:n=w.heap.size):Kept (fun _ => True) w n n:=⟨trivial,fun _ _ => trivial,by omega⟩
theorem Kept.LV {w:World} {base m n size:Nat} {e:TypeId} {v:Value} {xs:List Value} (h:w.ownsRow base e size v n xs) (hm:m=w.heap.size):Kept (fun w => w.ownsRow base e size v n xs) w base m:=hm ▸ Kept.own h
theorem Kept.ai9 {w:World} {base n c g size:Nat} {e:TypeId} {xs:List Value} (h:w.ownsRow base e size (.slice (some ⟨g,0,none⟩) n c) n xs):Kept (fun w => w.ownsRow base e size (.slice (some ⟨g,0,none⟩) n c) n xs) w g (g+1) :=
 ⟨h,fun _ hk => qo h fun b hb => by
  simp only [Value.ownBlock,R_] at hb;subst hb;exact hk _ (b_ _) (MX _),(h.lt g rfl).2⟩
theorem yh.at_ {y:Val} {vk vi vr:Value} {W1 W:World} {L B:Nat} (h:jq W (sQ W1 W) y vk vi vr) (hL:L=W1.heap.size) (hB:B=W.heap.size):Kept (yh L B y vk vi vr) W L B:=by
 subst hL;subst hB;have hN:yh W1.heap.size W.heap.size y vk vi vr W:=⟨sQ W1 W,h,fun k h => h⟩
 exact ⟨hN,fun _ hk => (hN.kept (b_ _)).st _ (fun k h1 h2 _ => hk k h1 h2),b_ _⟩
theorem Kept.vals {w:World} {S:Nat->Prop} {L B:Nat} {v:Value} {xs:List Val} (h:lM w S v xs) (hS:∀ b,S b->L<=b/\b < B/\jQ w b) (hB:B<=w.heap.size):Kept (fun W => ∃ S,lM W S v xs/\∀ b,S b->L<=b/\b < B/\jQ W b) w L B :=
 ⟨⟨S,h,hS⟩,fun _ hk => ⟨S,h.keep (fun p hp => D_ (hk p.block (hS _ hp).1 (hS _ hp).2.1)) (fun _ h => h),fun b hb => ⟨(hS b hb).1,(hS b hb).2.1,jQ.to (hk b (hS b hb).1 (hS b hb).2.1) (hS b hb).2.2⟩⟩,hB⟩
theorem Uk {w W:World} {L B:Nat} {v:Value} {xs:List Val} (h:∃ S,lM W S v xs/\∀ b,S b->L<=b/\b < B/\jQ W b) (hL:w.heap.size<=L) (hB:B<=W.heap.size):lM W (sQ w W) v xs:=by
 obtain ⟨S,h1,h2⟩:=h;exact h1.keep (fun _ _ => rfl) fun b hb => ⟨Jh hL (h2 b hb).1,u_ (h2 b hb).2.1 hB,(h2 b hb).2.2⟩
theorem Vf {w W:World} {L n size:Nat} {T:TypeId} {v:Value} {xs:List Value} (h:W.ownsRow L T size v n xs) (hT:T≠3) (hL:w.heap.size<=L):IB W (sQ w W) size v n xs:=by
 obtain ⟨hl,A,c,hv,hc,h2⟩:=Rd.uX h;refine ⟨hl,A,c,hv,hc,?_⟩;rcases h2 with h2 | ⟨b,o,hA,hb,hcell⟩
 . exact .inl h2
 have ho:v.ownBlock=some b:=by rw [hv,hA];rfl
 exact .inr ⟨b,o,hA,⟨Jh hL (h.lt b ho).1,hb,Fh h hT ho⟩,hcell⟩
structure Ik (w wo:World) (Oy:List Val) (v:Value) (L k:Nat) (wr:World):Prop where
 ex:∃ (c:Nat->List Value) (xs:List Value),wr.ownsRow L 34 8 v Oy.length xs/\EM 8 Oy.length xs c /\
  (∀ (i:Nat) (h:i < Oy.length),i < k->lD wr (fun b => wo.heap.size<=b/\b < wr.heap.size/\jQ wr b) Oy[i] (c i))/\∀ (i:Nat) (h:i < Oy.length),k<=i->lD wr (· < w.heap.size) Oy[i] (c i)
 far:∀ b,b < wo.heap.size->v.ownBlock≠some b->wr.heap[b]?=wo.heap[b]?
 bel:Below L wo wr
def Rng (L L' B:Nat) (w:World) (b:Nat):Prop:=(L<=b/\b < L'\/B<=b/\b < w.heap.size)/\jQ w b
theorem Ik.done {w wo:World} {Oy:List Val} {v:Value} {L L':Nat} {wr:World} (h:Ik w wo Oy v L Oy.length wr) (hL:∀ b,v.ownBlock=some b->b < L'):lM wr (Rng L L' wo.heap.size wr) v Oy:=by
 obtain ⟨⟨c,xs,h1,h2,h3,_⟩,_,_⟩:=h;exact ⟨c,(Bh.aek h1 h2).keep (fun _ _ => rfl) (fun b hb => ⟨.inl ⟨(h1.lt b hb).1,hL b hb⟩,Fh h1 (by decide) hb⟩),fun i hi => (h3 i hi hi).keep (fun _ _ => rfl) (fun b hb => ⟨.inr ⟨hb.1,hb.2.1⟩,hb.2.2⟩)⟩
theorem zAe {p:Prop} (h:p:=by exact ⟨B.out.cell 5,⟨B.out.cell 6,B.out.cell 7⟩⟩):p:=h
theorem zDa {p:Prop} (h:p:=by
 refine ⟨⟨_,_,WS,Q5,fun i h1 h2 => ?_,fun i h1 h2 => ?_⟩,fun b h1 h2 => ?_,hbel.trans (hb8.mono (by omega))⟩
 .
  by_cases e:i=k
  .
   subst e;rw [o_ rfl,Hyy.out];obtain ⟨S,hv,hS⟩:=hzN;exact hv.rd.keep (fun _ _ => rfl) (fun b hb => ⟨by have:=(hS b hb).1;omega,by have:=(hS b hb).2.1;omega,(hS b hb).2.2⟩)
  rw [gB e];exact (aad.out i h1 (by omega)).keep (fun p hp => D_ (CQ p.block (by have:=hp.1;omega) hp.2.1)) (fun b hb => ⟨hb.1,by have:=hb.2.1;omega,jQ.to (CQ b (by have:=hb.1;omega) hb.2.1) hb.2.2⟩)
 .
  rw [gB (by omega)];exact (aae.out i h1 (by omega)).keep (fun p hp => D_ (CQ p.block (by have:p.block < w.heap.size:=hp;omega) (by have:p.block < w.heap.size:=hp;omega))) (fun _ h => h)
 have hne:b≠g:=fun e => h2 (by rw [e];rfl);exact (CQ b hne (by omega)).trans (aeI.out b h1 h2)):p:=h
theorem zEu {p:Prop} (h:p:=by
 have aeK:=aeJ.trans (hb8.mono (by omega));have HC8:=hiQ hC8;clear hC8 hzN Q5 CQ WS WR hf7 hb7 hkX hbX HEX hb8 X HZ;go_wp2_with fail;go_roundw
 case rel => exact ⟨k+1,by go_num,by omega,HC8.out,B.out,Z.out,aeK⟩
 case measure => simp [intOf];omega):p:=h
theorem zGx {p:Prop} (h:p:=by
 rcases hown.2 with ⟨h,h2⟩ | ⟨g,cap,cur,h,_⟩
 . omega
 injection h with h;exact ⟨g,h⟩):p:=h
theorem XT:∀ (N:Nat) (x:Val) (vk vi vr:Value) (w:World),wt x<=N->ValAt w w.heap.size x vk vi vr ->
  Calls Tryz.prog 110 #[aS x vk vi vr] w (ako x w):=by
 intro N
 induction N with
 | zero => intro x vk vi vr w h;have:=ab1 x;omega
 | succ N ih =>
  intro x vk vi vr w hN hv;have hwe:=af8 x;have hkl:=YK x.keys;have hil:=YK x.items;have hkeys:=hv.keys;have sU:=hv.items;have hrest:=hv.rest;obtain ⟨A1,n1,A2,n2,A3,n3,rfl,rfl,rfl,-,-,-⟩:=hv.forms;have IH:=hiQ ih;have HV:=hiQ hv;obtain ⟨ck,agl,Z9⟩:=hkeys;obtain ⟨ci,agm,aac⟩:=sU;have hb1:GL x.keys<=N:=by omega
  have hb2:GL x.items<=N:=by omega
  have hlz:=hv.FH;have WG:Hid (∀ i,i < x.keys.length->(ck i).length=8):=hiQ fun i hi => by obtain ⟨_,_,_,h,_⟩:=(Z9 i hi).inv;rw [h];rfl
  have Ey:Hid (∀ i,i < x.items.length->(ci i).length=8):=hiQ fun i hi => by obtain ⟨_,_,_,h,_⟩:=(aac i hi).inv;rw [h];rfl
  have one:∀ (l:List Val) (c:Nat->List Value),(∀ i,i < l.length->(c i).length=8)->(∀ (i:Nat) (h:i < l.length),wJ w w.heap.size l[i] (c i))->∀ u ∈ nN c l.length,u.oneCell'=true:=by
   intro l c hl hel u hu;obtain ⟨q,hq⟩:=List.mem_iff_getElem?.1 hu;obtain ⟨h1,h2⟩:=Ub c 8 _ (by omega) hl q u hq;obtain ⟨a1,a2,a3,h,hva⟩:=(hel _ h1).inv;obtain ⟨_,_,_,_,_,_,rfl,rfl,rfl,-,-,-⟩:=hva.forms;rw [h] at h2;exact ael _ _ _ _ rfl rfl rfl u (V_ h2)
  have WQ:Hid (∀ W,Below w.heap.size w W->Calls Tryz.prog 136 #[.slice A1 x.keys.length n1] W (DJ W 34 8 x.keys.length (nN ck x.keys.length))):=hiQ fun W hb => by
   obtain ⟨hr1,hr2,hr3⟩:=(agl.keep (w':=W) fun p hp => hb.cell hp).flat' hb.size (by omega) WG.out;exact QU x.keys.length A1 n1 _ W (by omega) hr1 (arY _ _ _ WG.out) hr2 hr3 (one _ _ WG.out Z9)
  have YX:Hid (∀ W,Below w.heap.size w W->Calls Tryz.prog 136 #[.slice A2 x.items.length n2] W (DJ W 34 8 x.items.length (nN ci x.items.length))):=hiQ fun W hb => by
   obtain ⟨hr1,hr2,hr3⟩:=(agm.keep (w':=W) fun p hp => hb.cell hp).flat' hb.size (by omega) Ey.out;exact QU x.items.length A2 n2 _ W (by omega) hr1 (arY _ _ _ Ey.out) hr2 hr3 (one _ _ Ey.out aac)
  have HCR:Hid (∀ W,Below w.heap.size w W->Calls Tryz.prog 137 #[.slice A3 x.rest.length n3] W (DJ W 102 2 x.rest.length (jO x.rest))):=hiQ fun W hb => by
   obtain ⟨hr1,hr2,hr3⟩:=((hrest.below hb).mono hb.size).flat (b_ _);exact ZO x.rest.length A3 n3 _ W (by omega) hr1 (aen _) hr2 hr3 (aem _)
  have HKE:=hiQ Z9;have HIE:=hiQ aac;clear ih hv hwe agl agm Z9 aac hrest one;go_enter Tryz.func110,Tryz.ntmps110
  go_upto_region 1 with fail;refine jg (fun wd2 hb1 B Z => ?_);have hw3:=hb1;clear hb1;obtain ⟨-,-,-,-,-,FQ,FT,S9⟩:=B.out.c8;refine l9 (S:=(fun w' => w'.cell? ⟨w.heap.size,5,none⟩=some (.slice A1 x.keys.length n1)/\w'.cell? ⟨w.heap.size,6,none⟩=some (.slice A2 x.items.length n2)/\w'.cell? ⟨w.heap.size,7,none⟩=some (.slice A3 x.rest.length n3))) (fun j => j == 10 || j == 11 || j == 12 || j == 13 || j == 14) (by kernel_rfl) ⟨FQ,FT,S9⟩ (fun hHeld => ?_);clear FQ FT S9;have hb4:Below wd2.heap.size wd2 (wd2.drew):=(g_ _ _).drew;obtain ⟨B,Z⟩:=b2 B Z hb4;replace hw3:=dT hw3 hb4;clear hb4;generalize wd2.drew=fG at *;refine eH 0 ?_;refine eH 1 ?_;refine eH 3 ?_;refine eH 4 ?_;refine eH 6 ?_;refine eH 7 ?_;refine gJ 2 fun K hK => ?_;go_simp;have hz5:=Z.out.here;obtain ⟨L5,h5e⟩ : ∃ n,n=(fG).heap.size:=⟨_,rfl⟩
  have M5:=hiQ (Kept.mark h5e);((with_reducible refine (WQ.out _ hw3).mono ?_);rintro e wL ⟨v5,rfl,hown5,hb7⟩);obtain ⟨B,Z,M5⟩:=b3 B Z M5 hb7;replace hw3:=dT hw3 hb7;clear hb7;obtain ⟨A5,c5,rfl⟩:=jF hown5;rw [<- h5e] at hown5 hz5;clear h5e;have hL6:=M5.out.le;obtain ⟨L6,Dn⟩ : ∃ n,n=(wL).heap.size:=⟨_,rfl⟩
  rw [<- Dn] at hL6;have O5:=hiQ (Kept.LV hown5 Dn);have HS5:Hid (∀ b,(Value.slice A5 x.keys.length c5).ownBlock=some b->L5<=b/\b < L6):=hiQ fun b hb => by rw [Dn];exact hown5.lt b hb
  have M6:=hiQ (Kept.mark Dn);clear M5 hown5;(try clear hHeld);refine hK.out _ _ zAe (fun hHeld => ?_);clear hK K;refine eH 9 ?_;refine gJ 5 fun K hK => ?_;go_simp;((with_reducible refine (YX.out _ hw3).mono ?_);rintro e qP ⟨v6,rfl,hown6,zU⟩);obtain ⟨B,Z,O5,M6⟩:=b4 B Z O5 M6 zU;replace hw3:=dT hw3 zU;clear zU;obtain ⟨A6,c6,rfl⟩:=jF hown6;rw [<- Dn] at hown6;clear Dn;have hL7:=M6.out.le;obtain ⟨L7,Fb⟩ : ∃ n,n=(qP).heap.size:=⟨_,rfl⟩
  rw [<- Fb] at hL7;have O6:=hiQ (Kept.LV hown6 Fb);have HS6:Hid (∀ b,(Value.slice A6 x.items.length c6).ownBlock=some b->L6<=b/\b < L7):=hiQ fun b hb => by rw [Fb];exact hown6.lt b hb
  have M7:=hiQ (Kept.mark Fb);clear M6 hown6;(try clear hHeld);refine hK.out _ _ zAe (fun hHeld => ?_);clear hK K;refine gJ 8 fun K hK => ?_;go_simp;((with_reducible refine (HCR.out _ hw3).mono ?_);rintro e kL ⟨v7,rfl,UY,iR⟩);obtain ⟨B,Z,O5,O6,M7⟩:=b5 B Z O5 O6 M7 iR;replace hw3:=dT hw3 iR;clear iR;obtain ⟨A7,c7,rfl⟩:=jF UY;rw [<- Fb] at UY;clear Fb;have hL8:=M7.out.le;obtain ⟨L8,h8e⟩ : ∃ n,n=(kL).heap.size:=⟨_,rfl⟩
  rw [<- h8e] at hL8;have O7:=hiQ (Kept.LV UY h8e);have M8:=hiQ (Kept.mark h8e);clear M7 UY h8e;(try clear hHeld);refine hK.out _ _ zAe (fun hHeld => ?_);clear hK K;refine pG 10 fun K hK => ?_;have FQ:=B.out.e5;have amT:=B.out.free 5;go_simp;clear FQ amT;generalize fU:kL.setCell _ _=lZ;obtain ⟨Z,O5,O6,O7,M8⟩:=f5 Z O5 O6 O7 M8 (eF fU);replace B:=Ea B fU;replace hw3:=tf hw3 fU;clear fU;(try clear hHeld);refine hK.out _ _ ?_;clear hK K;refine pG 11 fun K hK => ?_;go_simp;(try clear hHeld);refine hK.out _ _ ?_;clear hK K;refine pG 12 fun K hK => ?_;have FT:=B.out.e6;have amU:=B.out.free 6;go_simp;clear FT amU;generalize lW:lZ.setCell _ _=oZ;obtain ⟨Z,O5,O6,O7,M8⟩:=f5 Z O5 O6 O7 M8 (eF lW);replace B:=qM B lW;replace hw3:=tf hw3 lW;clear lW;(try clear hHeld);refine hK.out _ _ ?_;clear hK K;refine pG 13 fun K hK => ?_;go_simp;(try clear hHeld);refine hK.out _ _ ?_;clear hK K;refine pG 14 fun K hK => ?_;have S9:=B.out.e7;have amV:=B.out.free 7;go_simp;clear S9 amV;generalize pK:oZ.setCell _ _=yN;obtain ⟨Z,O5,O6,O7,M8⟩:=f5 Z O5 O6 O7 M8 (eF pK);replace B:=Ky B pK;replace hw3:=tf hw3 pK;clear pK;(try clear hHeld);refine hK.out _ _ ?_;clear hK K;refine akJ (by kernel_rfl) ?_ _;(try clear hHeld);clear M8;have hl1:Hid (Ik w yN x.keys (.slice A5 x.keys.length c5) L5 0 yN):=hiQ ⟨⟨_,_,O5.out.now,EM.YM _ _ _ WG.out,fun i h1 h2 => by omega,fun i h1 _ => ((HKE.out i h1).toP.keep (fun p hp => (hw3).cell hp) (fun _ h => h))⟩,fun _ _ _ => rfl,g_ _ _⟩;have hz8:L8<=yN.heap.size:=O7.out.le;have hb0:=hw3
  obtain ⟨wo,rfl⟩ : ∃ wo,wo=yN:=⟨_,rfl⟩
  have HB1:=hiQ B.out;have HZ1:=hiQ Z.out;have FQ:=B.out.e5;go_upto_region 3 with fail;clear B Z FQ;go_loopw [22] (fun i wr => ∃ k:Nat,i = .int .i64 k/\k<=x.keys.length/\Ik w wo x.keys (.slice A5 x.keys.length c5) L5 k wr/\Has wr w.heap.size 34 #[.int .i64 x.kind,.bool x.bool,.int .i64 x.num,.string ⟨x.str.toArray⟩,.int .i64 x.id,(.slice A5 x.keys.length c5),(.slice A6 x.items.length c6),(.slice A7 x.rest.length c7)]/\Has wr (w.heap.size+1) 34 #[.int .i64 0,.bool false,.int .i64 0,.string ⟨#[]⟩,.int .i64 0,.slice none 0 0,.slice none 0 0,.slice none 0 0]/\Below w.heap.size w wr) (fun i _ => x.keys.length - (intOf i).toNat)
  case atStart => exact ⟨0,rfl,by omega,hl1.out,HB1.out,HZ1.out,hb0⟩
  case round =>
   clear HB1 HZ1 hl1 hb0;obtain ⟨k,rfl,hk,hC,B,Z,hb0⟩:=hrel;replace B:=hiQ B;replace Z:=hiQ Z;obtain ⟨⟨c,xs,hown,FU,hdone,htodo⟩,DR,hbel⟩:=hC;by_cases hlt:k < x.keys.length
   .
    obtain ⟨g,rfl⟩ : ∃ g,A5=some ⟨g,0,none⟩:=by
     exact zGx
    obtain ⟨ak,ai,ar,hck,hva⟩:=((htodo k hlt (b_ _)).rd (B:=w.heap.size) (fun _ h => h)).inv;have hy:∀ j u,(oD x.keys[k] ak ai ar)[j]?=some u->wr.cell? ⟨g,k*8+j,none⟩=some u:=fun j u hu => by
     have h8:k*8+j < x.keys.length*8:=by
      have hj:=(C_.1 hu).1;simp only [oD,z_,Q_] at hj;omega
     rw [hown.cellAt _ h8];exact FU.2.2 k hlt j u (by rw [hck];exact hu)
    have hmem:wt x.keys[k]<=N:=by have:=YJ x.keys _ (jl hlt);omega
    have hi1:(k:Int) < x.keys.length:=by omega
    have hd0:decide ((k:Int) < 0)=false:=by simp
    have hd1:decide (x.keys.length<=k)=false:=by simpa using hlt
    obtain ⟨Y1,m1,Y2,m2,Y3,m3,rfl,rfl,rfl,-,-,-⟩:=hva.forms;have y0:=hy 0 _ rfl;have y1:=hy 1 _ rfl;have y2:=hy 2 _ rfl;have y3:=hy 3 _ rfl;have y4:=hy 4 _ rfl;have y5:=hy 5 _ rfl;have y6:=hy 6 _ rfl;have y7:=hy 7 _ rfl;simp only [QB] at y0;have HVA:=hiQ hva;have OW:=hiQ (Kept.ai9 hown);have aeH:=hiQ FU;have aad:=hiQ hdone;have aae:=hiQ htodo;have xE:=hiQ hmem;have aeI:=hiQ DR;have hgb:=HS5.out g rfl;have hsw:=hbel.size;clear hy hva hown FU hdone htodo hmem hck DR;generalize hyy:x.keys[k]=y at *;have Hyy:=hiQ hyy;have aeJ:=hb0;clear hyy;go_upto_region 5 with fail;clear y0 y1 y2 y3 y4 y5 y6 y7;refine aO (fun fZ nU X => ?_);obtain ⟨B,Z,OW⟩:=b3 B Z OW nU;have wC:=nU;clear nU;have FQ:=B.out.e5;obtain ⟨aK,bJ,bY,bZ,dL,eX,bU,dD⟩:=X.out.c8;refine t_ (S:=(fun w' => w'.cell? ⟨w.heap.size,5,none⟩=some (.slice (some ⟨g,0,none⟩) x.keys.length c5)/\w'.cell? ⟨wr.heap.size,0,none⟩=some (.int .i64 y.kind)/\w'.cell? ⟨wr.heap.size,1,none⟩=some (.bool y.bool)/\w'.cell? ⟨wr.heap.size,2,none⟩=some (.int .i64 y.num)/\w'.cell? ⟨wr.heap.size,3,none⟩=some (.string ⟨y.str.toArray⟩)/\w'.cell? ⟨wr.heap.size,4,none⟩=some (.int .i64 y.id)/\w'.cell? ⟨wr.heap.size,5,none⟩=some (.slice Y1 y.keys.length m1)/\w'.cell? ⟨wr.heap.size,6,none⟩=some (.slice Y2 y.items.length m2)/\w'.cell? ⟨wr.heap.size,7,none⟩=some (.slice Y3 y.rest.length m3))) (by kernel_rfl) ⟨FQ,aK,bJ,bY,bZ,dL,eX,bU,dD⟩ (fun hHeld => ?_);clear FQ aK bJ bY bZ dL eX bU dD;have gq:Below fZ.heap.size fZ (fZ.drew):=(g_ _ _).drew
    obtain ⟨B,Z,X,OW⟩:=b4 B Z X OW gq;replace wC:=dT wC gq;clear gq;generalize fZ.drew=lq at *;refine tk 0 ?_;refine tk 1 ?_;refine tk 2 ?_;refine tk 3 ?_;refine iE 4 fun K hK => ?_;go_simp;obtain ⟨z6,Dn⟩ : ∃ z,z=(lq).heap.size:=⟨_,rfl⟩
    have hzz:=(wC).size;rw [<- Dn] at hzz;((with_reducible refine (IH.out y _ _ _ _ xE.out (HVA.out.keep (fun p hp => ((wC).cell (by omega))) (by omega))).mono ?_);rintro e o9 ⟨zk,zi,zr,rfl,hz,vg⟩);obtain ⟨B,Z,X,OW⟩:=b4 B Z X OW vg;replace wC:=dT wC vg;clear vg;obtain ⟨_,⟨Z1,z1,rfl,_⟩,_⟩:=id hz.keys;obtain ⟨_,⟨Z2,z2,rfl,_⟩,_⟩:=id hz.items;obtain ⟨_,Z3,z3,rfl,_⟩:=id hz.rest;obtain ⟨z7,Fb⟩ : ∃ z,z=(o9).heap.size:=⟨_,rfl⟩
    have HZ:=hiQ (yh.at_ hz Dn Fb);clear hz Dn Fb;(try clear hHeld);refine hK.out _ _ (⟨B.out.cell 5,X.out.c8⟩) (fun hHeld => ?_);clear hK K;refine tk 5 ?_;refine iE 6 fun K hK => ?_;have WR:=OW.out.now;clear OW;refine IE rfl 34 _ _ rfl g (k*8) _ rfl rfl (Ue WR (k*8) 8 (IC hlt)) (by kernel_rfl) (by simp [Value.oneCell']) ?_;have WS:=FM (oD y (.slice Z1 y.keys.length z1) (.slice Z2 y.items.length z2) (.slice Z3 y.rest.length z3)) xs (k*8) _ WR
    change K _ (o9.setCells g (k*8) (oD y (.slice Z1 y.keys.length z1) (.slice Z2 y.items.length z2) (.slice Z3 y.rest.length z3)))
    have hf7:=fun b h => (wC).block b h;have hs7:=(wC).size;have hb7:=wC;obtain ⟨pF,HEX⟩ : ∃ ww,ww=o9.setCells g (k*8) (oD y (.slice Z1 y.keys.length z1) (.slice Z2 y.items.length z2) (.slice Z3 y.rest.length z3)):=⟨_,rfl⟩
    rw [<- HEX];have hkX:∀ k,k≠g->pF.heap[k]?=o9.heap[k]?:=fun k hk => by rw [HEX];exact DN g _ _ _ k hk
    have hbX:Below g o9 pF:=by rw [HEX];exact below_setCells (b_ _) _ _ _ (g_ _ _)
    replace B:=hiQ ((hkX (w.heap.size) (by omega)).trans B.out);replace B:Hid (Has pF (w.heap.size) 34 #[.int .i64 x.kind,.bool x.bool,.int .i64 x.num,.string ⟨x.str.toArray⟩,.int .i64 x.id,.slice (some ⟨g,0,none⟩) x.keys.length c5,.slice A6 x.items.length c6,.slice A7 x.rest.length c7]):=B;replace Z:=hiQ ((hkX (w.heap.size+1) (by omega)).trans Z.out);replace Z:Hid (Has pF (w.heap.size+1) 34 #[.int .i64 0,.bool false,.int .i64 0,.string ⟨#[]⟩,.int .i64 0,.slice none 0 0,.slice none 0 0,.slice none 0 0]):=Z;replace X:=hiQ ((hkX (wr.heap.size) (by omega)).trans X.out);replace X:Hid (Has pF (wr.heap.size) 34 #[.int .i64 y.kind,.bool y.bool,.int .i64 y.num,.string ⟨y.str.toArray⟩,.int .i64 y.id,.slice Y1 y.keys.length m1,.slice Y2 y.items.length m2,.slice Y3 y.rest.length m3]):=X;replace HZ:=hiQ (HZ.out.move (fun k hl hb => hkX k (by omega)) hbX.size);replace wC:=(wC.mono (show g<=wr.heap.size by omega)).trans hbX;rw [<- HEX] at WS;(try clear hHeld);refine hK.out _ _ (⟨B.out.cell 5,X.out.c8⟩) (fun hHeld => ?_);clear hK K;refine Dl (by kernel_rfl) ?_ _;(try clear hHeld);have CQ:∀ b,b≠g->b < wr.heap.size->pF.heap[b]?=wr.heap[b]?:=fun b h1 h2 => (hkX b h1).trans (hf7 b h2);have hsX:wr.heap.size<=pF.heap.size:=Jh hs7 hbX.size;have Q5:=aeH.out.set k (oD y (.slice Z1 y.keys.length z1) (.slice Z2 y.items.length z2) (.slice Z3 y.rest.length z3)) hlt rfl;have hzN:=HZ.out.now;have hzL:=HZ.out.le;have hb8:=((hb7.mono (show g<=wr.heap.size by omega)).trans hbX)
    have hC8:Ik w wo x.keys (.slice (some ⟨g,0,none⟩) x.keys.length c5) L5 (k+1) pF:=by
     exact zDa
    exact zEu
   obtain rfl:k=x.keys.length:=by omega
   have hsw:=hbel.size;have hCd:lM wr (Rng L5 L6 wo.heap.size wr) (.slice A5 x.keys.length c5) x.keys:=Ik.done ⟨⟨c,xs,hown,FU,hdone,htodo⟩,DR,hbel⟩ (fun b hb => (HS5.out b hb).2);have hO6:=O6.out.move (w':=wr) (fun q h1 h2 => DR q (by omega) (fun e => by have:=HS5.out q e;omega)) hsw;have hO7:=O7.out.move (w':=wr) (fun q h1 h2 => DR q (by omega) (fun e => by have:=HS5.out q e;omega)) hsw;have hl2:Hid (Ik w wr x.items (.slice A6 x.items.length c6) L6 0 wr):=hiQ ⟨⟨_,_,hO6.now,EM.YM _ _ _ Ey.out,fun i h1 h2 => by omega,fun i h1 _ => ((HIE.out i h1).toP.keep (fun p hp => hb0.cell hp) (fun _ h => h))⟩,fun _ _ _ => rfl,g_ _ _⟩;have HCd:=hiQ hCd;have HO7:=hiQ hO7;have HB1:=hiQ B.out;have HZ1:=hiQ Z.out;have hz9:L8<=wr.heap.size:=by omega
   clear hCd hO6 hO7 hown FU hdone htodo DR hbel O5 O6 O7;obtain ⟨WT,rfl⟩ : ∃ WT:World,WT=wr:=⟨_,rfl⟩
   have FT:=B.out.e6;go_upto_region 8 with fail;clear B Z FT;go_loopw [37] (fun i wr => ∃ k:Nat,i = .int .i64 k/\k<=x.items.length/\Ik w WT x.items (.slice A6 x.items.length c6) L6 k wr/\Has wr w.heap.size 34 #[.int .i64 x.kind,.bool x.bool,.int .i64 x.num,.string ⟨x.str.toArray⟩,.int .i64 x.id,.slice A5 x.keys.length c5,.slice A6 x.items.length c6,.slice A7 x.rest.length c7]/\Has wr (w.heap.size+1) 34 #[.int .i64 0,.bool false,.int .i64 0,.string ⟨#[]⟩,.int .i64 0,.slice none 0 0,.slice none 0 0,.slice none 0 0]/\Below w.heap.size w wr) (fun i _ => x.items.length - (intOf i).toNat)
   case atStart => exact ⟨0,rfl,by omega,hl2.out,HB1.out,HZ1.out,hb0⟩
   case round =>
    clear HB1 HZ1 hl2 hb0;obtain ⟨k,rfl,hk,hC,B,Z,hb0⟩:=hrel;replace B:=hiQ B;replace Z:=hiQ Z;obtain ⟨⟨c,xs,hown,FU,hdone,htodo⟩,DR,hbel⟩:=hC;by_cases hlt:k < x.items.length
    .
     obtain ⟨g,rfl⟩ : ∃ g,A6=some ⟨g,0,none⟩:=by
      exact zGx
     obtain ⟨ak,ai,ar,hck,hva⟩:=((htodo k hlt (b_ _)).rd (B:=w.heap.size) (fun _ h => h)).inv;have hy:∀ j u,(oD x.items[k] ak ai ar)[j]?=some u->wr.cell? ⟨g,k*8+j,none⟩=some u:=fun j u hu => by
      have h8:k*8+j < x.items.length*8:=by
       have hj:=(C_.1 hu).1;simp only [oD,z_,Q_] at hj;omega
      rw [hown.cellAt _ h8];exact FU.2.2 k hlt j u (by rw [hck];exact hu)
     have hmem:wt x.items[k]<=N:=by have:=YJ x.items _ (jl hlt);omega
     have hi1:(k:Int) < x.items.length:=by omega
     have hd0:decide ((k:Int) < 0)=false:=by simp
     have hd1:decide (x.items.length<=k)=false:=by simpa using hlt
     obtain ⟨Y1,m1,Y2,m2,Y3,m3,rfl,rfl,rfl,-,-,-⟩:=hva.forms;have y0:=hy 0 _ rfl;have y1:=hy 1 _ rfl;have y2:=hy 2 _ rfl;have y3:=hy 3 _ rfl;have y4:=hy 4 _ rfl;have y5:=hy 5 _ rfl;have y6:=hy 6 _ rfl;have y7:=hy 7 _ rfl;simp only [QB] at y0;have HVA:=hiQ hva;have OW:=hiQ (Kept.ai9 hown);have aeH:=hiQ FU;have aad:=hiQ hdone;have aae:=hiQ htodo;have xE:=hiQ hmem;have aeI:=hiQ DR;have hgb:=HS6.out g rfl;have hsw:=hbel.size;clear hy hva hown FU hdone htodo hmem hck DR;generalize hyy:x.items[k]=y at *;have Hyy:=hiQ hyy;have aeJ:=hb0;clear hyy;go_upto_region 10 with fail;clear y0 y1 y2 y3 y4 y5 y6 y7;refine aO (fun fZ nU X => ?_);obtain ⟨B,Z,OW⟩:=b3 B Z OW nU;have wC:=nU;clear nU;have FT:=B.out.e6;obtain ⟨aK,bJ,bY,bZ,dL,eX,bU,dD⟩:=X.out.c8;refine t_ (S:=(fun w' => w'.cell? ⟨w.heap.size,6,none⟩=some (.slice (some ⟨g,0,none⟩) x.items.length c6)/\w'.cell? ⟨wr.heap.size,0,none⟩=some (.int .i64 y.kind)/\w'.cell? ⟨wr.heap.size,1,none⟩=some (.bool y.bool)/\w'.cell? ⟨wr.heap.size,2,none⟩=some (.int .i64 y.num)/\w'.cell? ⟨wr.heap.size,3,none⟩=some (.string ⟨y.str.toArray⟩)/\w'.cell? ⟨wr.heap.size,4,none⟩=some (.int .i64 y.id)/\w'.cell? ⟨wr.heap.size,5,none⟩=some (.slice Y1 y.keys.length m1)/\w'.cell? ⟨wr.heap.size,6,none⟩=some (.slice Y2 y.items.length m2)/\w'.cell? ⟨wr.heap.size,7,none⟩=some (.slice Y3 y.rest.length m3))) (by kernel_rfl) ⟨FT,aK,bJ,bY,bZ,dL,eX,bU,dD⟩ (fun hHeld => ?_);clear FT aK bJ bY bZ dL eX bU dD;have gq:Below fZ.heap.size fZ (fZ.drew):=(g_ _ _).drew
     obtain ⟨B,Z,X,OW⟩:=b4 B Z X OW gq;replace wC:=dT wC gq;clear gq;generalize fZ.drew=lq at *;refine tk 0 ?_;refine tk 1 ?_;refine tk 2 ?_;refine tk 3 ?_;refine iE 4 fun K hK => ?_;go_simp;obtain ⟨z6,Dn⟩ : ∃ z,z=(lq).heap.size:=⟨_,rfl⟩
     have hzz:=(wC).size;rw [<- Dn] at hzz;((with_reducible refine (IH.out y _ _ _ _ xE.out (HVA.out.keep (fun p hp => ((wC).cell (by omega))) (by omega))).mono ?_);rintro e o9 ⟨zk,zi,zr,rfl,hz,vg⟩);obtain ⟨B,Z,X,OW⟩:=b4 B Z X OW vg;replace wC:=dT wC vg;clear vg;obtain ⟨_,⟨Z1,z1,rfl,_⟩,_⟩:=id hz.keys;obtain ⟨_,⟨Z2,z2,rfl,_⟩,_⟩:=id hz.items;obtain ⟨_,Z3,z3,rfl,_⟩:=id hz.rest;obtain ⟨z7,Fb⟩ : ∃ z,z=(o9).heap.size:=⟨_,rfl⟩
     have HZ:=hiQ (yh.at_ hz Dn Fb);clear hz Dn Fb;(try clear hHeld);refine hK.out _ _ (⟨B.out.cell 6,X.out.c8⟩) (fun hHeld => ?_);clear hK K;refine tk 5 ?_;refine iE 6 fun K hK => ?_;have WR:=OW.out.now;clear OW;refine IE rfl 34 _ _ rfl g (k*8) _ rfl rfl (Ue WR (k*8) 8 (IC hlt)) (by kernel_rfl) (by simp [Value.oneCell']) ?_;have WS:=FM (oD y (.slice Z1 y.keys.length z1) (.slice Z2 y.items.length z2) (.slice Z3 y.rest.length z3)) xs (k*8) _ WR
     change K _ (o9.setCells g (k*8) (oD y (.slice Z1 y.keys.length z1) (.slice Z2 y.items.length z2) (.slice Z3 y.rest.length z3)))
     have hf7:=fun b h => (wC).block b h;have hs7:=(wC).size;have hb7:=wC;obtain ⟨pF,HEX⟩ : ∃ ww,ww=o9.setCells g (k*8) (oD y (.slice Z1 y.keys.length z1) (.slice Z2 y.items.length z2) (.slice Z3 y.rest.length z3)):=⟨_,rfl⟩
     rw [<- HEX];have hkX:∀ k,k≠g->pF.heap[k]?=o9.heap[k]?:=fun k hk => by rw [HEX];exact DN g _ _ _ k hk
     have hbX:Below g o9 pF:=by rw [HEX];exact below_setCells (b_ _) _ _ _ (g_ _ _)
     replace B:=hiQ ((hkX (w.heap.size) (by omega)).trans B.out);replace B:Hid (Has pF (w.heap.size) 34 #[.int .i64 x.kind,.bool x.bool,.int .i64 x.num,.string ⟨x.str.toArray⟩,.int .i64 x.id,.slice A5 x.keys.length c5,.slice (some ⟨g,0,none⟩) x.items.length c6,.slice A7 x.rest.length c7]):=B;replace Z:=hiQ ((hkX (w.heap.size+1) (by omega)).trans Z.out);replace Z:Hid (Has pF (w.heap.size+1) 34 #[.int .i64 0,.bool false,.int .i64 0,.string ⟨#[]⟩,.int .i64 0,.slice none 0 0,.slice none 0 0,.slice none 0 0]):=Z;replace X:=hiQ ((hkX (wr.heap.size) (by omega)).trans X.out);replace X:Hid (Has pF (wr.heap.size) 34 #[.int .i64 y.kind,.bool y.bool,.int .i64 y.num,.string ⟨y.str.toArray⟩,.int .i64 y.id,.slice Y1 y.keys.length m1,.slice Y2 y.items.length m2,.slice Y3 y.rest.length m3]):=X;replace HZ:=hiQ (HZ.out.move (fun k hl hb => hkX k (by omega)) hbX.size);replace wC:=(wC.mono (show g<=wr.heap.size by omega)).trans hbX;rw [<- HEX] at WS;(try clear hHeld);refine hK.out _ _ (⟨B.out.cell 6,X.out.c8⟩) (fun hHeld => ?_);clear hK K;refine Dl (by kernel_rfl) ?_ _;(try clear hHeld);have CQ:∀ b,b≠g->b < wr.heap.size->pF.heap[b]?=wr.heap[b]?:=fun b h1 h2 => (hkX b h1).trans (hf7 b h2);have hsX:wr.heap.size<=pF.heap.size:=Jh hs7 hbX.size;have Q5:=aeH.out.set k (oD y (.slice Z1 y.keys.length z1) (.slice Z2 y.items.length z2) (.slice Z3 y.rest.length z3)) hlt rfl;have hzN:=HZ.out.now;have hzL:=HZ.out.le;have hb8:=((hb7.mono (show g<=wr.heap.size by omega)).trans hbX)
     have hC8:Ik w WT x.items (.slice (some ⟨g,0,none⟩) x.items.length c6) L6 (k+1) pF:=by
      exact zDa
     exact zEu
    obtain rfl:k=x.items.length:=by omega
    have amW:=hbel.size;have hI:lM wr (Rng L6 L7 WT.heap.size wr) (.slice A6 x.items.length c6) x.items:=Ik.done ⟨⟨c,xs,hown,FU,hdone,htodo⟩,DR,hbel⟩ (fun b hb => (HS6.out b hb).2);have hR:=(HO7.out.move (w':=wr) (fun q h1 h2 => DR q (by omega) (fun e => by have:=HS6.out q e;omega)) amW)
    have hne:∀ b,Rng L5 L6 wo.heap.size WT b->wr.heap[b]?=WT.heap[b]?:=fun b hb => DR b (by have:=hb.1;omega) (fun e => by have:=HS6.out b e;have:=hb.1;omega);have hK:lM wr (fun b => w.heap.size+2<=b/\b < wr.heap.size/\jQ wr b) (.slice A5 x.keys.length c5) x.keys:=HCd.out.keep (fun p hp => D_ (hne _ hp)) (fun b hb => ⟨by have:=hb.1;omega,by have:=hb.1;omega,jQ.to (hne _ hb) hb.2⟩);replace B:=B.out;replace Z:=Z.out;replace B:=hiQ B;replace Z:=hiQ Z;have KI:=hiQ (Kept.vals (L:=w.heap.size+2) (B:=wr.heap.size) hI (fun b hb => ⟨by have:=hb.1;omega,by have:=hb.1;omega,hb.2⟩) (b_ _));have KK:=hiQ (Kept.vals (L:=w.heap.size+2) (B:=wr.heap.size) hK (fun b hb => hb) (b_ _));have KR:=hiQ (hR);clear hI hK hR hne hown FU hdone htodo DR hbel;obtain ⟨amX,amY,amZ,am0,am5,FQ,FT,S9⟩:=B.out.c8;go_wp2_with (refine sR Z.out ?_)
    clear amX amY amZ am0 am5 FQ FT S9;generalize Bl:wr.setRow _ _=yx;obtain ⟨B,KI,KK,KR⟩:=f4 B KI KK KR (eR Bl);replace Z:=dV Z Bl;replace hb0:=tr hb0 Bl;clear Bl;have hle:=KK.out.le;exact vJ (v:=aS x (.slice A5 x.keys.length c5) (.slice A6 x.items.length c6) (.slice A7 x.rest.length c7)) (by simp [results,Tryz.results110,go_sem,Z.out.c8]) rfl (⟨_,_,_,rfl,⟨HV.out.ints,HV.out.AL,HV.out.FH,HV.out.Ie,Uk KK.out.now (by omega) hle,Uk KI.out.now (by omega) hle,Vf KR.out.now (by decide) (by omega)⟩,hb0⟩)
theorem GZ:∀ (fs:List kP) (k j:Nat) (u:Value) (hk:k < fs.length),(LQ fs[k])[j]?=some u->(wZ fs)[k*3+j]?=some u
 | f :: r,0,j,u,_,h => by
  have hj:j < 3:=(C_.1 h).1;rw [wZ,B_,List.getElem?_append_left (by simp [LQ];omega)];simpa using h
 | f :: r,k+1,j,u,hk,h => by
  have:=GZ r k j u (by simpa using hk) h;rw [wZ,B_,List.getElem?_append_right (by simp [LQ];omega)];simp only [LQ,z_,Q_];rw [show (k+1)*3+j - (0+1+1+1)=k*3+j by omega];exact this
theorem Yr {w:World} {b o:Nat} {fs:List kP} (h:∀ (j:Nat) (u:Value),(wZ fs)[j]?=some u->w.cell? ⟨b,o+j,none⟩=some u) (k:Nat) (hk:k < fs.length) :
  w.cell? ⟨b,o+k*3,none⟩=some (.int .i64 fs[k].id)/\w.cell? ⟨b,o+k*3+1,none⟩=some (.bool fs[k].akb)/\w.cell? ⟨b,o+k*3+2,none⟩=some (.string ⟨fs[k].data.toArray⟩) :=
 ⟨h _ _ (GZ fs k 0 _ hk rfl),h _ _ (GZ fs k 1 _ hk rfl),h _ _ (GZ fs k 2 _ hk rfl)⟩
def fidx (l:List kP) (id:Int):Option Nat:=nY (l.map (fun f => (f.id:Int))) id 0
theorem LW:∀ (l:List kP) (id:Int) (k:Nat),match nY (l.map (fun f => (f.id:Int))) id k with
  | some j => ∃ h:j - k < l.length,k<=j/\wY l id=some l[j - k]
  | none => wY l id=none
 | [],id,k => by simp [nY,wY]
 | f :: r,id,k => by
  rw [Qv,vN];by_cases h:(f.id:Int)=id
  .
   rw [o_ h];exact ⟨by simp,b_ _,by simp [wY,h]⟩
  rw [gB h];have ih:=LW r id (k+1);have hf:wY (f :: r) id=wY r id:=by simp [wY,h]
  rw [hf];cases hi:nY (r.map (fun f => (f.id:Int))) id (k+1) with
  | none => rw [hi] at ih;exact ih
  | some j =>
   rw [hi] at ih;obtain ⟨h1,h2,h3⟩:=ih;refine ⟨by simp only [z_];omega,by omega,?_⟩;rw [h3];have e:j - k=(j - (k+1))+1:=by omega
   simp only [e,S_]
theorem abn {l:List kP} {id:Int} {k:Nat} (h:fidx l id=some k):∃ hk:k < l.length,wY l id=some l[k]:=by
 have:=LW l id 0;unfold fidx at h;rw [h] at this;obtain ⟨h1,_,h3⟩:=this;exact ⟨by simpa using h1,by simpa using h3⟩
theorem abo {l:List kP} {id:Int} (h:fidx l id=none):wY l id=none:=by
 have:=LW l id 0;unfold fidx at h;rw [h] at this;exact this
theorem WU (f:kP) (p:Nat) (id:Int) (w:World) (hp:w.cell? ⟨p,0,none⟩=some (.int .i64 id)) (hlt:p < w.heap.size) :
  Calls Tryz.prog 109 #[.agg #[.int .i64 f.id,.bool f.akb,.string ⟨f.data.toArray⟩],.pointer (some ⟨p,0,none⟩)] w (RT w (.bool ((f.id:Int) == id))):=by
 go_enter Tryz.func109,Tryz.ntmps109
 exact zGj
theorem Zm (fs:List kP) (va:Value) (p:Nat) (id:Int) (w:World) (hl:fs.length<=140737488351232) (hr:Rd w w.heap.size 3 va fs.length (wZ fs)) (hp:w.cell? ⟨p,0,none⟩=some (.int .i64 id)) (hlt:p < w.heap.size) :
  Calls Tryz.prog 108 #[va,.func (.func 109) #[] #[.pointer (some ⟨p,0,none⟩)]] w (RT w (.int .i64 (Jc (fidx fs id)))):=by
 obtain ⟨A,c,rfl,hc⟩:=hr.form;have HR:=hiQ hr;have Hp:=hiQ hp;clear hr hp;unfold fidx;go_enter Tryz.func108,Tryz.ntmps108
 go_wp2
 go_loopw [8] (fun i wr => ∃ k:Nat,i = .int .i64 k/\k<=fs.length/\nY (fs.map (fun f => (f.id:Int))) id 0=nY ((fs.drop k).map (fun f => (f.id:Int))) id k/\Below w.heap.size w wr) (fun i _ => fs.length - (intOf i).toNat)
 case atStart => exact ⟨0,rfl,by omega,rfl,g_ _ _⟩
 case round =>
  obtain ⟨k,rfl,hk,hix,hb⟩:=hrel;by_cases hlk:k < fs.length
  .
   obtain ⟨b,o,rfl,hbb,hcell⟩:=(HR.out.below hb).at_ (by have:=acp fs;omega);obtain ⟨c0,c1,c2⟩:=Yr hcell k hlk;rw [A_ hlk,Qv,vN] at hix;generalize fs[k]=m at *;have hpw:wr.cell? ⟨p,0,none⟩=some (.int .i64 id):=(hb.cell hlt).trans Hp.out;have hlw:p < wr.heap.size:=u_ hlt hb.size;have hi1:(k:Int) < fs.length:=by omega
   clear hcell;by_cases he:(m.id:Int)=id
   .
    rw [o_ he] at hix;have jB:=hiQ hix;have ht:((m.id:Int) == id)=true:=by simp [he]
    clear hix he;go_wp2_with fail;refine (WU m p id _ hpw hlw).mono ?_;exact zFa
   rw [gB he] at hix;have jB:=hiQ hix;have ht:((m.id:Int) == id)=false:=by simpa using he
   clear hix he;go_wp2_with fail;refine (WU m p id _ hpw hlw).mono ?_;exact zEd
  exact zEv
