/- What sheaveref08.put computes: a map that has keys. No condition. -/
import Derived.Test.YtkaedmpppnnamaaGreatDoorHAW
set_option maxHeartbeats 8000000
set_option maxRecDepth 100000
namespace Go.Proofs.YtkaedmpppnnamaaGreatDoor
open ChangeShapes WideShapes ChangeAt RowKit
theorem lD.inv {w:World} {S:Nat->Prop} {x:Val} {cs:List Value} (h:lD w S x cs):∃ vk vi vr,cs=oD x vk vi vr/\jq w S x vk vi vr:=by
 exact zFy
theorem U6 {w:World} {S:Nat->Prop} {b o:Nat} {xs:List Val} {c:Nat->List Value} (hb:b < w.heap.size) (hS:∀ k,S k->k < w.heap.size) (hc:∀ i,i < xs.length->∀ j u,(c i)[j]?=some u->w.cell? ⟨b,o+i*8+j,none⟩=some u) (hr:∀ (i:Nat) (h:i < xs.length),lD w S xs[i] (c i)) (m:Nat) (W:World) (hB:Below w.heap.size w W) :
  (∀ i,i < (xs.take m).length->∀ j u,(c i)[j]?=some u->W.cell? ⟨b,o+i*8+j,none⟩=some u)/\∀ (i:Nat) (h:i < (xs.take m).length),lD W S (xs.take m)[i] (c i):=by
 have hl:(xs.take m).length<=xs.length:=by rw [L_];omega
 refine ⟨fun i hi j u hu => (hB.cell (p:=⟨b,_,none⟩) hb).trans (hc i (by omega) j u hu),fun i hi => ?_⟩;rw [List.getElem_take];exact (hr i (by omega)).keep (fun p hp => hB.cell (hS _ hp)) (fun _ h => h)
theorem U7 {w:World} {S:Nat->Prop} {b o:Nat} {xs:List Val} {c:Nat->List Value} (hb:b < w.heap.size) (hS:∀ k,S k->k < w.heap.size) (hc:∀ i,i < xs.length->∀ j u,(c i)[j]?=some u->w.cell? ⟨b,o+i*8+j,none⟩=some u) (hr:∀ (i:Nat) (h:i < xs.length),lD w S xs[i] (c i)) (m:Nat) (o2:Nat) (ho:o2=o+m*8\/xs.length<=m) (W:World) (hB:Below w.heap.size w W) :
  (∀ i,i < (xs.drop m).length->∀ j u,(c (m+i))[j]?=some u->W.cell? ⟨b,o2+i*8+j,none⟩=some u)/\∀ (i:Nat) (h:i < (xs.drop m).length),lD W S (xs.drop m)[i] (c (m+i)):=by
 refine ⟨fun i hi j u hu => ?_,fun i hi => ?_⟩
 .
  rw [Qx] at hi;rcases ho with rfl | ho
  .
   have:=hc (m+i) (by omega) j u hu;rw [show o+m*8+i*8+j=o+(m+i)*8+j by omega];exact (hB.cell (p:=⟨b,_,none⟩) hb).trans this
  omega
 rw [Qx] at hi;rw [List.getElem_drop];exact (hr (m+i) (by omega)).keep (fun p hp => hB.cell (hS _ hp)) (fun _ h => h)
theorem zAw {p:Prop} (h:p:=by exact ⟨V.out.cell 5,d8 Y ((fun b o hlt => hb.cell (p:=⟨b,o,none⟩) hlt))⟩):p:=h
theorem zAx {p:Prop} (h:p:=by exact ⟨V.out.cell 5,d8 Y ((fun b o hlt => fD.cell (p:=⟨b,o,none⟩) hlt))⟩):p:=h
theorem zAy {p:Prop} (h:p:=by exact ⟨V.out.cell 5,d8 Y ((fun b o hlt => aj.cell (p:=⟨b,o,none⟩) hlt))⟩):p:=h
theorem zAz {p:Prop} (h:p:=by exact ⟨V.out.cell 5,d8 Y ((fun b o hlt => bD.cell (p:=⟨b,o,none⟩) hlt))⟩):p:=h
theorem zBa {p:Prop} (h:p:=by exact ⟨V.out.cell 6,d8 Z ((fun b o hlt => hb.cell (p:=⟨b,o,none⟩) hlt))⟩):p:=h
theorem zBb {p:Prop} (h:p:=by exact ⟨V.out.cell 6,d8 Z ((fun b o hlt => aj.cell (p:=⟨b,o,none⟩) hlt))⟩):p:=h
theorem zBc {p:Prop} (h:p:=by exact ⟨V.out.cell 6,d8 Z ((fun b o hlt => bD.cell (p:=⟨b,o,none⟩) hlt))⟩):p:=h
theorem zJj {p:Prop} (h:p:=by
 rcases hat with h2 | h2
 . rw [h2] at h;have:=hZ1 q h;omega
 rw [h2] at h;injection h with h;omega):p:=h
theorem zHf {p:Prop} (h:p:=by
 refine gJ 8 fun K hK => ?_;refine eU (by rfl) _ _ (by rfl) (P.out.now (fun q hq => (aj).block q hq)) (by rfl) N.out (by rfl) (HZ.out.xJ HS.out aj).rd (fun q hq => ⟨u_ (HS.out q hq) (aj).size,fun e => by have:=HS.out q hq;have:=(P.out.now (fun q hq => (aj).block q hq)).lt q e;omega⟩) (by rw [xY.out];omega) (LL.out.le) ?_;intro v1 XQ aI hat hbB hkk;obtain ⟨Gn,Gp,rfl⟩:=aI.form;try simp only [J_] at aI hat ⊢
 simp only [Bz.out] at aI hat ⊢;have hR2:=R.out.here;obtain ⟨H2,hH⟩ : ∃ H,H=oW.heap.size:=⟨_,rfl⟩
 rw [<- hH] at hat hR2;clear hH;have hZ2:∀ q,(Value.slice Gn (j+1) Gp).ownBlock=some q->q=gE\/q=H1\/q=H2:=fun q h => by
  exact zJj
 clear hat P N;replace V:=dG V hkk (fun hh => by have:=hZ1 _ hh;omega);replace Y:=dG Y hkk (fun hh => by have:=hZ1 _ hh;omega);replace Z:=dG Z hkk (fun hh => by have:=hZ1 _ hh;omega);replace R:=dG R hkk (fun hh => by have:=hZ1 _ hh;omega);replace O:=hiQ (O.out.iJ hbB (show wc.heap.size<=L7 by omega));replace LL:=hiQ (LL.out.iJ hbB (show L7<=L7 by omega));replace aj:=aj.trans (hbB.mono (show w.heap.size<=L7 by omega));have P:=hiQ (aG.fB aI (fun q hq => .inl (hq.elim (fun hq => hq.elim False.elim (HS.out q)) (HS.out q))) aj);clear aI hbB hkk hZ1;(try clear hHeld);refine hK.out _ _ zBb (fun hHeld => ?_);clear hK K;refine gJ 13 fun K hK => ?_;simp only [XL.out];refine eP (b:=bi) (o:=_) (cp:=(c2 - j)) (ys:=v.items.drop j) (c:=fun i => ci (j+i)) (by rfl) _ _ (by rfl) (P.out.now (fun q hq => (aj).block q hq)) (by rfl) (by rw [BA.out];rfl) (HI2.out _ aj).1 (HI2.out _ aj).2 (fun q hq => ⟨u_ (HS.out q hq) (aj).size,fun e => by have:=HS.out q hq;have:=(P.out.now (fun q hq => (aj).block q hq)).lt q e;omega⟩) (by rw [Bz.out,BA.out];have:=yZ.out;omega) (LL.out.le) ?_;intro v1 Gq aI hat hbB hkk;obtain ⟨zX,zY,rfl⟩:=aI.form;simp only [Qg.out] at aI ⊢;clear hat P;replace V:=dG V hkk (fun hh => by have:=hZ2 _ hh;omega);replace Y:=dG Y hkk (fun hh => by have:=hZ2 _ hh;omega);replace Z:=dG Z hkk (fun hh => by have:=hZ2 _ hh;omega);replace R:=dG R hkk (fun hh => by have:=hZ2 _ hh;omega);replace O:=hiQ (O.out.iJ hbB (show wc.heap.size<=L7 by omega));replace LL:=hiQ (LL.out.iJ hbB (show L7<=L7 by omega))
 replace aj:=aj.trans (hbB.mono (show w.heap.size<=L7 by omega));have P:=hiQ (aG.fB aI (fun q hq => .inl (hq.elim (fun hq => hq.elim (fun hq => hq.elim False.elim (HS.out q)) (HS.out q)) (HS.out q))) aj);clear aI hbB hkk hZ2;(try clear hHeld);refine hK.out _ _ zBb (fun hHeld => ?_);clear hK K;refine eH 14 ?_;refine pG 15 fun K hK => ?_;have aP:=V.out.e6;have sZ:=V.out.free 6;go_simp;clear aP sZ;generalize dP:Gq.setCell _ _=xA;obtain ⟨Y,Z,R,O,LL,P⟩:=f6 Y Z R O LL P (eF dP);replace V:=qM V dP;replace aj:=tf aj dP;clear dP;(try clear hHeld);refine hK.out _ _ ?_;clear hK K;refine akJ (by kernel_rfl) ?_ _;(try clear hHeld);go_wp2_with fail;go_meet
 exact ⟨zX,zY,V.out,Y.out,Z.out,R.out,⟨O.out.now,P.out.now⟩,aj⟩):p:=h
theorem zHg {p:Prop} (h:p:=by
 refine gJ 8 fun K hK => ?_;refine eU (by rfl) _ _ (by rfl) (O.out.now (fun q hq => (aj).block q hq)) (by rfl) N.out (by rfl) (HY.out.xJ HS.out aj).rd (fun q hq => ⟨u_ (HS.out q hq) (aj).size,fun e => by have:=HS.out q hq;have:=(O.out.now (fun q hq => (aj).block q hq)).lt q e;omega⟩) (by rw [uD.out];omega) (by have:=R.out.here;omega) ?_;intro v1 XO aI hat hbB hkk;obtain ⟨Gg,Gh,rfl⟩:=aI.form;try simp only [J_] at aI hat ⊢
 simp only [Bq.out] at aI hat ⊢;have hR2:=R.out.here;obtain ⟨H2,hH⟩ : ∃ H,H=oW.heap.size:=⟨_,rfl⟩
 rw [<- hH] at hat hR2;clear hH;have hZ2:∀ q,(Value.slice Gg (j+1) Gh).ownBlock=some q->q=gE\/q=H1\/q=H2:=fun q h => by
  exact zJj
 clear hat O N;replace V:=dG V hkk (fun hh => by have:=hZ1 _ hh;omega);replace Y:=dG Y hkk (fun hh => by have:=hZ1 _ hh;omega);replace Z:=dG Z hkk (fun hh => by have:=hZ1 _ hh;omega);replace R:=dG R hkk (fun hh => by have:=hZ1 _ hh;omega);replace aj:=aj.trans (hbB.mono (show w.heap.size<=w.heap.size+4 by omega));have O:=hiQ (aG.fB aI (fun q hq => .inl (hq.elim (fun hq => hq.elim False.elim (HS.out q)) (HS.out q))) aj);clear aI hbB hkk hZ1;(try clear hHeld);refine hK.out _ _ zAy (fun hHeld => ?_);clear hK K;refine gJ 13 fun K hK => ?_;simp only [XK.out];refine eP (b:=bk) (o:=_) (cp:=(c1 - j)) (ys:=v.keys.drop j) (c:=fun i => ck (j+i)) (by rfl) _ _ (by rfl) (O.out.now (fun q hq => (aj).block q hq)) (by rfl) (by rw [Bv.out];rfl) (I9.out _ aj).1 (I9.out _ aj).2 (fun q hq => ⟨u_ (HS.out q hq) (aj).size,fun e => by have:=HS.out q hq;have:=(O.out.now (fun q hq => (aj).block q hq)).lt q e;omega⟩) (by rw [Bq.out,Bv.out];have:=yZ.out;omega) (by have:=R.out.here;omega) ?_;intro v1 Gi aI hat hbB hkk;obtain ⟨xu,xw,rfl⟩:=aI.form;simp only [Qe.out] at aI ⊢;clear hat O;replace V:=dG V hkk (fun hh => by have:=hZ2 _ hh;omega);replace Y:=dG Y hkk (fun hh => by have:=hZ2 _ hh;omega);replace Z:=dG Z hkk (fun hh => by have:=hZ2 _ hh;omega);replace R:=dG R hkk (fun hh => by have:=hZ2 _ hh;omega);replace aj:=aj.trans (hbB.mono (show w.heap.size<=w.heap.size+4 by omega));have O:=hiQ (aG.fB aI (fun q hq => .inl (hq.elim (fun hq => hq.elim (fun hq => hq.elim False.elim (HS.out q)) (HS.out q)) (HS.out q))) aj)
 clear aI hbB hkk hZ2;(try clear hHeld);refine hK.out _ _ zAy (fun hHeld => ?_);clear hK K;refine eH 14 ?_;refine pG 15 fun K hK => ?_;have aQ:=V.out.e5;have zV:=V.out.free 5;go_simp;clear aQ zV;generalize dP:Gi.setCell _ _=xA;obtain ⟨Y,Z,R,O⟩:=f4 Y Z R O (eF dP);replace V:=Ea V dP;replace aj:=tf aj dP;clear dP;(try clear hHeld);refine hK.out _ _ ?_;clear hK K;refine akJ (by kernel_rfl) ?_ _;(try clear hHeld);go_wp2_with fail;go_meet
 exact ⟨xu,xw,V.out,Y.out,Z.out,R.out,aG.fB (O.out.now (fun q hq => (aj).block q hq)) (fun q hq => .inl (hq.elim (fun hq => hq.elim (fun hq => hq.elim False.elim (HS.out q)) (HS.out q)) (HS.out q))) aj,aj⟩):p:=h
theorem zHs {p:Prop} (h:p:=by
 rcases hat with h2 | h2
 . rw [h2] at h;have:=fO q h;omega
 rw [h2] at h;injection h with h;omega):p:=h
theorem zJe {p:Prop} (h:p:=by
 subst hWS;have bD:=hb;clear hb;refine gJ 5 fun K hK => ?_;refine eP (b:=bi) (o:=oi) (cp:=c2) (ys:=v.items.take j) (c:=ci) (by rfl) _ _ (by rfl) (P.out.now (fun q hq => (bD).block q hq)) (by rfl) (by rw [xY.out];rfl) (HI1.out _ bD).1 (HI1.out _ bD).2 (fun q hq => ⟨u_ (HS.out q hq) (bD).size,fun e => by have:=HS.out q hq;have:=(P.out.now (fun q hq => (bD).block q hq)).lt q e;omega⟩) (by rw [xY.out];simp;omega) (LL.out.le) ?_;intro v1 Gj aI hat hbB hkk;obtain ⟨Gl,Gm,rfl⟩:=aI.form;try simp only [J_] at aI hat ⊢
 simp only [xY.out] at aI hat ⊢;have hR1:=R.out.here;obtain ⟨H1,hH⟩ : ∃ H,H=rZ.heap.size:=⟨_,rfl⟩
 rw [<- hH] at hat hR1;clear hH;have hZ1:∀ q,(Value.slice Gl (j) Gm).ownBlock=some q->q=gE\/q=H1\/q=H1:=fun q h => by
  exact zHs
 clear hat P;replace V:=dG V hkk (fun hh => by have:=fO _ hh;omega);replace Y:=dG Y hkk (fun hh => by have:=fO _ hh;omega);replace Z:=dG Z hkk (fun hh => by have:=fO _ hh;omega);replace R:=dG R hkk (fun hh => by have:=fO _ hh;omega);replace N:=dG N hkk (fun hh => by have:=fO _ hh;omega);replace O:=hiQ (O.out.iJ hbB (show wc.heap.size<=L7 by omega));replace LL:=hiQ (LL.out.iJ hbB (show L7<=L7 by omega));replace bD:=bD.trans (hbB.mono (show w.heap.size<=L7 by omega));have P:=hiQ (aG.fB aI (fun q hq => .inl (hq.elim False.elim (HS.out q))) bD);clear aI hbB hkk fO;(try clear hHeld);refine hK.out _ _ zBc (fun hHeld => ?_);clear hK K;obtain ⟨gN,rfl⟩ : ∃ g,g=zW:=⟨_,rfl⟩
 obtain ⟨oW,hWS⟩ : ∃ x,x=Gj:=⟨_,rfl⟩
 subst hWS;have aj:=bD;clear bD;exact zHf):p:=h
theorem zJf {p:Prop} (h:p:=by
 subst hWS;have bD:=fD;clear fD;refine gJ 5 fun K hK => ?_;refine eP (b:=bk) (o:=ok) (cp:=c1) (ys:=v.keys.take j) (c:=ck) (by rfl) _ _ (by rfl) (O.out.now (fun q hq => (bD).block q hq)) (by rfl) (by rw [uD.out];rfl) (F5.out _ bD).1 (F5.out _ bD).2 (fun q hq => ⟨u_ (HS.out q hq) (bD).size,fun e => by have:=HS.out q hq;have:=(O.out.now (fun q hq => (bD).block q hq)).lt q e;omega⟩) (by rw [uD.out];simp;omega) (by have:=R.out.here;omega) ?_;intro v1 F8 aI hat hbB hkk;obtain ⟨F9,Gf,rfl⟩:=aI.form;try simp only [J_] at aI hat ⊢
 simp only [uD.out] at aI hat ⊢;have hR1:=R.out.here;obtain ⟨H1,hH⟩ : ∃ H,H=rZ.heap.size:=⟨_,rfl⟩
 rw [<- hH] at hat hR1;clear hH;have hZ1:∀ q,(Value.slice F9 (j) Gf).ownBlock=some q->q=gE\/q=H1\/q=H1:=fun q h => by
  exact zHs
 clear hat O;replace V:=dG V hkk (fun hh => by have:=fO _ hh;omega);replace Y:=dG Y hkk (fun hh => by have:=fO _ hh;omega);replace Z:=dG Z hkk (fun hh => by have:=fO _ hh;omega);replace R:=dG R hkk (fun hh => by have:=fO _ hh;omega);replace N:=dG N hkk (fun hh => by have:=fO _ hh;omega);replace bD:=bD.trans (hbB.mono (show w.heap.size<=w.heap.size+4 by omega));have O:=hiQ (aG.fB aI (fun q hq => .inl (hq.elim False.elim (HS.out q))) bD);clear aI hbB hkk fO;(try clear hHeld);refine hK.out _ _ zAz (fun hHeld => ?_);clear hK K;obtain ⟨gN,rfl⟩ : ∃ g,g=zW:=⟨_,rfl⟩
 obtain ⟨oW,hWS⟩ : ∃ x,x=F8:=⟨_,rfl⟩
 subst hWS;have aj:=bD;clear bD;exact zHg):p:=h
theorem zBj {p:Prop} (h:p:=by
 subst hWS;have fD:=hb;clear hb;go_upto_region 6 with fail;try simp only [tz]
 try simp only [hd1]
 go_cut [] from 41 to 55 (fun wx => ∃ (A:Option Addr) (c:Nat),Has wx w.heap.size 34 #[.int .i64 v.kind,.bool v.bool,.int .i64 v.num,.string ⟨v.str.toArray⟩,.int .i64 v.id,.slice A (v.keys.length+1) c,.slice (some ⟨bi,oi,none⟩) v.items.length c2,.slice A3 v.rest.length c3]/\Has wx (w.heap.size+1) 34 #[.int .i64 k.kind,.bool k.bool,.int .i64 k.num,.string ⟨k.str.toArray⟩,.int .i64 k.id,.slice K1 k.keys.length d1,.slice K2 k.items.length d2,.slice K3 k.rest.length d3]/\Has wx (w.heap.size+1+1) 34 #[.int .i64 t.kind,.bool t.bool,.int .i64 t.num,.string ⟨t.str.toArray⟩,.int .i64 t.id,.slice T1 t.keys.length e1,.slice T2 t.items.length e2,.slice T3 t.rest.length e3]/\Has wx (w.heap.size+1+1+1) 34 #[.int .i64 0,.bool false,.int .i64 0,.string ⟨#[]⟩,.int .i64 0,.slice none 0 0,.slice none 0 0,.slice none 0 0]/\Kept (OG w (w.heap.size+4) (fun b => ((False\/S b)\/S b)\/S b) (.slice A (v.keys.length+1) c) (v.keys.take j ++ [k] ++ v.keys.drop j)) wx (w.heap.size+4) wx.heap.size/\Below w.heap.size w wx)
 case first =>
  have aQ:=V.out.e5;obtain ⟨kT,kU,kV,kW,kX,mD,lJ,mF⟩:=Y.out.c8;refine l9 (S:=(fun w' => w'.cell? ⟨w.heap.size,5,none⟩=some (.slice (some ⟨bk,ok,none⟩) v.keys.length c1)/\w'.cell? ⟨w.heap.size+1,0,none⟩=some (.int .i64 k.kind)/\w'.cell? ⟨w.heap.size+1,1,none⟩=some (.bool k.bool)/\w'.cell? ⟨w.heap.size+1,2,none⟩=some (.int .i64 k.num)/\w'.cell? ⟨w.heap.size+1,3,none⟩=some (.string ⟨k.str.toArray⟩)/\w'.cell? ⟨w.heap.size+1,4,none⟩=some (.int .i64 k.id)/\w'.cell? ⟨w.heap.size+1,5,none⟩=some (.slice K1 k.keys.length d1)/\w'.cell? ⟨w.heap.size+1,6,none⟩=some (.slice K2 k.items.length d2)/\w'.cell? ⟨w.heap.size+1,7,none⟩=some (.slice K3 k.rest.length d3)/\(∀ (b o:Nat),b < w.heap.size->w'.cell? ⟨b,o,none⟩=w.cell? ⟨b,o,none⟩))) (fun j => j == 15) (by kernel_rfl) ⟨aQ,kT,kU,kV,kW,kX,mD,lJ,mF,(fun b o hlt => fD.cell (p:=⟨b,o,none⟩) hlt)⟩ (fun hHeld => ?_);clear aQ kT kU kV kW kX mD lJ mF;have yD:Below EP.heap.size EP (EP.drew):=(g_ _ _).drew;obtain ⟨V,Y,Z,R⟩:=b4 V Y Z R yD;replace fD:=dT fD yD;clear yD;generalize EP.drew=nZ at *;refine eH 1 ?_;refine eH 2 ?_;refine eH 3 ?_;refine eH 4 ?_;refine eH 6 ?_;refine eH 9 ?_;refine eH 10 ?_;refine eH 11 ?_;refine eH 12 ?_;refine lV (rs:=[0,7]) (by kernel_rfl) (by simp) ?_;refine dX.cons rfl (fun K hK => ?_) (dX.cons rfl (fun K hK => ?_) (dX.nil))
  .
   skip
   go_simp;have kE:=aG.empty nZ (w.heap.size+4) (by have:=R.out.here;omega)
   skip
   obtain ⟨gE,hgE⟩ : ∃ g,g=nZ.heap.size:=⟨_,rfl⟩
   rw [<- hgE] at kE;have oh:Below nZ.heap.size nZ (nZ.alloc (.cells #[] 34)):=(jY (g_ _ _) (b_ _) _)
   obtain ⟨V,Y,Z,R⟩:=b4 V Y Z R oh;replace fD:=dT fD oh;clear oh;generalize nZ.alloc (.cells #[] 34)=kN at *;have fO:∀ q,(Value.slice (some ⟨gE,0,none⟩) 0 0).ownBlock=some q->q=gE:=fun q h => by injection h with h;exact h.symm
   have Eo:=(kE.lt gE rfl).1;have XM:=(kE.lt gE rfl).2;have O:=hiQ (aG.fB kE (fun _ hq => hq.elim) fD);clear kE;simp only [<- hgE];clear hgE;(try clear hHeld);refine hK.out _ _ zAx (fun hHeld => ?_);clear hK K;refine lV (rs:=[5,7]) (by kernel_rfl) (by simp) ?_;refine dX.cons rfl (fun K hK => ?_) (dX.cons rfl (fun K hK => ?_) (dX.nil))
   .
    skip
    refine eP (b:=bk) (o:=ok) (cp:=c1) (ys:=v.keys.take j) (c:=ck) (by rfl) _ _ (by rfl) (O.out.now (fun q hq => (fD).block q hq)) (by rfl) (by rw [uD.out];rfl) (F5.out _ fD).1 (F5.out _ fD).2 (fun q hq => ⟨u_ (HS.out q hq) (fD).size,fun e => by have:=HS.out q hq;have:=(O.out.now (fun q hq => (fD).block q hq)).lt q e;omega⟩) (by rw [uD.out];simp;omega) (by have:=R.out.here;omega) ?_;intro v1 F8 aI hat hbB hkk;obtain ⟨F9,Gf,rfl⟩:=aI.form;try simp only [J_] at aI hat ⊢
    simp only [uD.out] at aI hat ⊢;have hR1:=R.out.here;obtain ⟨H1,hH⟩ : ∃ H,H=kN.heap.size:=⟨_,rfl⟩
    rw [<- hH] at hat hR1;clear hH;have hZ1:∀ q,(Value.slice F9 (j) Gf).ownBlock=some q->q=gE\/q=H1\/q=H1:=fun q h => by
     exact zHs
    clear hat O;replace V:=dG V hkk (fun hh => by have:=fO _ hh;omega);replace Y:=dG Y hkk (fun hh => by have:=fO _ hh;omega);replace Z:=dG Z hkk (fun hh => by have:=fO _ hh;omega);replace R:=dG R hkk (fun hh => by have:=fO _ hh;omega);replace fD:=fD.trans (hbB.mono (show w.heap.size<=w.heap.size+4 by omega));have O:=hiQ (aG.fB aI (fun q hq => .inl (hq.elim False.elim (HS.out q))) fD);clear aI hbB hkk fO;(try clear hHeld);refine hK.out _ _ zAx (fun hHeld => ?_);clear hK K;refine gJ 7 fun K hK => ?_;go_simp;refine aO (fun yE oz N => ?_);have uf:=V.out.here;have Dc:=Y.out.here;have Df:=Z.out.here;have ER:=R.out.here;have ES:=O.out.le;have JQ:=fD.size;obtain ⟨V,Y,Z,R,O⟩:=b5 V Y Z R O oz;replace fD:=dT fD oz;clear oz;generalize F8.heap.size=BD at *;(try clear hHeld);refine hK.out _ _ zAx (fun hHeld => ?_);clear hK K;obtain ⟨gN,rfl⟩ : ∃ g,g=BD:=⟨_,rfl⟩
    obtain ⟨oW,hWS⟩ : ∃ x,x=yE:=⟨_,rfl⟩
    subst hWS;have aj:=fD;clear fD;exact zHg
   skip
   go_simp;refine aO (fun yE oz N => ?_);have uf:=V.out.here;have Dc:=Y.out.here;have Df:=Z.out.here;have ER:=R.out.here;have ES:=O.out.le;have JQ:=fD.size;obtain ⟨V,Y,Z,R,O⟩:=b5 V Y Z R O oz;replace fD:=dT fD oz;clear oz;generalize kN.heap.size=BD at *;(try clear hHeld);refine hK.out _ _ zAx (fun hHeld => ?_);clear hK K;obtain ⟨zW,rfl⟩ : ∃ g,g=BD:=⟨_,rfl⟩
   obtain ⟨rZ,hWS⟩ : ∃ x,x=yE:=⟨_,rfl⟩
   exact zJf
  skip
  go_simp;refine aO (fun kN oh N => ?_);have aa0:=V.out.here;have aa1:=Y.out.here;have uf:=Z.out.here;have Dc:=R.out.here;have Df:=fD.size;obtain ⟨V,Y,Z,R⟩:=b4 V Y Z R oh;replace fD:=dT fD oh;clear oh;generalize nZ.heap.size=Qh at *;(try clear hHeld);refine hK.out _ _ zAx (fun hHeld => ?_);clear hK K;refine gJ 0 fun K hK => ?_;go_simp;have kE:=aG.empty kN (w.heap.size+4) (by have:=R.out.here;omega);have XP:=N.out.here;obtain ⟨gE,hgE⟩ : ∃ g,g=kN.heap.size:=⟨_,rfl⟩
  rw [<- hgE] at kE XP;have JR:Below kN.heap.size kN (kN.alloc (.cells #[] 34)):=(jY (g_ _ _) (b_ _) _)
  obtain ⟨V,Y,Z,R,N⟩:=b5 V Y Z R N JR;replace fD:=dT fD JR;clear JR;generalize kN.alloc (.cells #[] 34)=aa2 at *;have fO:∀ q,(Value.slice (some ⟨gE,0,none⟩) 0 0).ownBlock=some q->q=gE:=fun q h => by injection h with h;exact h.symm
  have Eo:=(kE.lt gE rfl).1;have XM:=(kE.lt gE rfl).2;have O:=hiQ (aG.fB kE (fun _ hq => hq.elim) fD);clear kE;simp only [<- hgE];clear hgE;(try clear hHeld);refine hK.out _ _ zAx (fun hHeld => ?_);clear hK K;obtain ⟨zW,rfl⟩ : ∃ g,g=Qh:=⟨_,rfl⟩
  obtain ⟨rZ,hWS⟩ : ∃ x,x=aa2:=⟨_,rfl⟩
  exact zJf
 case rest =>
  clear V Y Z R;obtain ⟨xu,xw,V,Y,Z,R,hO,hb⟩:=hcut;replace V:=hiQ V;replace Y:=hiQ Y;replace Z:=hiQ Z;replace R:=hiQ R;have O:=hiQ (hO);clear hO;obtain ⟨L7,hL1,hL2,hL3⟩ : ∃ L,wc.heap.size<=L/\w.heap.size+4<=L/\L<=wc.heap.size:=⟨wc.heap.size,b_ _,by have:=R.out.here;omega,b_ _⟩
  have LL:=hiQ ((show Kept (fun _ => True) wc L7 L7 from ⟨trivial,fun _ _ => trivial,hL3⟩));clear hL3;go_upto_region 7 with fail;go_cut [] from 56 to 70 (fun wx => ∃ (A:Option Addr) (c:Nat),Has wx w.heap.size 34 #[.int .i64 v.kind,.bool v.bool,.int .i64 v.num,.string ⟨v.str.toArray⟩,.int .i64 v.id,.slice xu (v.keys.length+1) xw,.slice A (v.keys.length+1) c,.slice A3 v.rest.length c3]/\Has wx (w.heap.size+1) 34 #[.int .i64 k.kind,.bool k.bool,.int .i64 k.num,.string ⟨k.str.toArray⟩,.int .i64 k.id,.slice K1 k.keys.length d1,.slice K2 k.items.length d2,.slice K3 k.rest.length d3]/\Has wx (w.heap.size+1+1) 34 #[.int .i64 t.kind,.bool t.bool,.int .i64 t.num,.string ⟨t.str.toArray⟩,.int .i64 t.id,.slice T1 t.keys.length e1,.slice T2 t.items.length e2,.slice T3 t.rest.length e3]/\Has wx (w.heap.size+1+1+1) 34 #[.int .i64 0,.bool false,.int .i64 0,.string ⟨#[]⟩,.int .i64 0,.slice none 0 0,.slice none 0 0,.slice none 0 0]/\(OG w (w.heap.size+4) (fun b => ((False\/S b)\/S b)\/S b) (.slice xu (v.keys.length+1) xw) (v.keys.take j ++ [k] ++ v.keys.drop j) wx/\OG w L7 (fun b => ((False\/S b)\/S b)\/S b) (.slice A (v.keys.length+1) c) (v.items.take j ++ [t] ++ v.items.drop j) wx)/\Below w.heap.size w wx)
  case first =>
   have aP:=V.out.e6;obtain ⟨MQ,KA,MS,MW,MZ,Na,Nb,Nc⟩:=Z.out.c8;refine l9 (S:=(fun w' => w'.cell? ⟨w.heap.size,6,none⟩=some (.slice (some ⟨bi,oi,none⟩) v.items.length c2)/\w'.cell? ⟨w.heap.size+1+1,0,none⟩=some (.int .i64 t.kind)/\w'.cell? ⟨w.heap.size+1+1,1,none⟩=some (.bool t.bool)/\w'.cell? ⟨w.heap.size+1+1,2,none⟩=some (.int .i64 t.num)/\w'.cell? ⟨w.heap.size+1+1,3,none⟩=some (.string ⟨t.str.toArray⟩)/\w'.cell? ⟨w.heap.size+1+1,4,none⟩=some (.int .i64 t.id)/\w'.cell? ⟨w.heap.size+1+1,5,none⟩=some (.slice T1 t.keys.length e1)/\w'.cell? ⟨w.heap.size+1+1,6,none⟩=some (.slice T2 t.items.length e2)/\w'.cell? ⟨w.heap.size+1+1,7,none⟩=some (.slice T3 t.rest.length e3)/\(∀ (b o:Nat),b < w.heap.size->w'.cell? ⟨b,o,none⟩=w.cell? ⟨b,o,none⟩))) (fun j => j == 15) (by kernel_rfl) ⟨aP,MQ,KA,MS,MW,MZ,Na,Nb,Nc,(fun b o hlt => hb.cell (p:=⟨b,o,none⟩) hlt)⟩ (fun hHeld => ?_);clear aP MQ KA MS MW MZ Na Nb Nc;have yD:Below wc.heap.size wc (wc.drew):=(g_ _ _).drew;obtain ⟨V,Y,Z,R,O,LL⟩:=b6 V Y Z R O LL yD;replace hb:=dT hb yD;clear yD;generalize wc.drew=nZ at *;refine eH 1 ?_;refine eH 2 ?_;refine eH 3 ?_;refine eH 4 ?_;refine eH 6 ?_;refine eH 9 ?_;refine eH 10 ?_;refine eH 11 ?_;refine eH 12 ?_;refine lV (rs:=[0,7]) (by kernel_rfl) (by simp) ?_;refine dX.cons rfl (fun K hK => ?_) (dX.cons rfl (fun K hK => ?_) (dX.nil))
   .
    skip
    go_simp;have kE:=aG.empty nZ (L7) (LL.out.le)
    skip
    obtain ⟨gE,hgE⟩ : ∃ g,g=nZ.heap.size:=⟨_,rfl⟩
    rw [<- hgE] at kE;have oh:Below nZ.heap.size nZ (nZ.alloc (.cells #[] 34)):=(jY (g_ _ _) (b_ _) _)
    obtain ⟨V,Y,Z,R,O,LL⟩:=b6 V Y Z R O LL oh;replace hb:=dT hb oh;clear oh;generalize nZ.alloc (.cells #[] 34)=kN at *;have fO:∀ q,(Value.slice (some ⟨gE,0,none⟩) 0 0).ownBlock=some q->q=gE:=fun q h => by injection h with h;exact h.symm
    have Eo:=(kE.lt gE rfl).1;have XM:=(kE.lt gE rfl).2;have P:=hiQ (aG.fB kE (fun _ hq => hq.elim) hb);clear kE;simp only [<- hgE];clear hgE;(try clear hHeld);refine hK.out _ _ zBa (fun hHeld => ?_);clear hK K;refine lV (rs:=[5,7]) (by kernel_rfl) (by simp) ?_;refine dX.cons rfl (fun K hK => ?_) (dX.cons rfl (fun K hK => ?_) (dX.nil))
    .
     skip
     refine eP (b:=bi) (o:=oi) (cp:=c2) (ys:=v.items.take j) (c:=ci) (by rfl) _ _ (by rfl) (P.out.now (fun q hq => (hb).block q hq)) (by rfl) (by rw [xY.out];rfl) (HI1.out _ hb).1 (HI1.out _ hb).2 (fun q hq => ⟨u_ (HS.out q hq) (hb).size,fun e => by have:=HS.out q hq;have:=(P.out.now (fun q hq => (hb).block q hq)).lt q e;omega⟩) (by rw [xY.out];simp;omega) (LL.out.le) ?_;intro v1 Gj aI hat hbB hkk;obtain ⟨Gl,Gm,rfl⟩:=aI.form;try simp only [J_] at aI hat ⊢
     simp only [xY.out] at aI hat ⊢;have hR1:=R.out.here;obtain ⟨H1,hH⟩ : ∃ H,H=kN.heap.size:=⟨_,rfl⟩
     rw [<- hH] at hat hR1;clear hH;have hZ1:∀ q,(Value.slice Gl (j) Gm).ownBlock=some q->q=gE\/q=H1\/q=H1:=fun q h => by
      exact zHs
     clear hat P;replace V:=dG V hkk (fun hh => by have:=fO _ hh;omega);replace Y:=dG Y hkk (fun hh => by have:=fO _ hh;omega);replace Z:=dG Z hkk (fun hh => by have:=fO _ hh;omega);replace R:=dG R hkk (fun hh => by have:=fO _ hh;omega);replace O:=hiQ (O.out.iJ hbB (show wc.heap.size<=L7 by omega));replace LL:=hiQ (LL.out.iJ hbB (show L7<=L7 by omega));replace hb:=hb.trans (hbB.mono (show w.heap.size<=L7 by omega));have P:=hiQ (aG.fB aI (fun q hq => .inl (hq.elim False.elim (HS.out q))) hb);clear aI hbB hkk fO;(try clear hHeld);refine hK.out _ _ zBa (fun hHeld => ?_);clear hK K;refine gJ 7 fun K hK => ?_;go_simp;refine aO (fun yE oz N => ?_);have uf:=V.out.here;have Dc:=Y.out.here;have Df:=Z.out.here;have ER:=R.out.here;have ES:=O.out.le;have JQ:=LL.out.le;have aa3:=P.out.le;have aa4:=hb.size;obtain ⟨V,Y,Z,R,O,LL,P⟩:=b7 V Y Z R O LL P oz;replace hb:=dT hb oz;clear oz;generalize Gj.heap.size=BD at *;(try clear hHeld);refine hK.out _ _ zBa (fun hHeld => ?_);clear hK K;obtain ⟨gN,rfl⟩ : ∃ g,g=BD:=⟨_,rfl⟩
     obtain ⟨oW,hWS⟩ : ∃ x,x=yE:=⟨_,rfl⟩
     subst hWS;have aj:=hb;clear hb;exact zHf
    skip
    go_simp;refine aO (fun yE oz N => ?_);have uf:=V.out.here;have Dc:=Y.out.here;have Df:=Z.out.here;have ER:=R.out.here;have ES:=O.out.le;have JQ:=LL.out.le;have aa3:=P.out.le;have aa4:=hb.size;obtain ⟨V,Y,Z,R,O,LL,P⟩:=b7 V Y Z R O LL P oz;replace hb:=dT hb oz;clear oz;generalize kN.heap.size=BD at *;(try clear hHeld);refine hK.out _ _ zBa (fun hHeld => ?_);clear hK K;obtain ⟨zW,rfl⟩ : ∃ g,g=BD:=⟨_,rfl⟩
    obtain ⟨rZ,hWS⟩ : ∃ x,x=yE:=⟨_,rfl⟩
    exact zJe
   skip
   go_simp;refine aO (fun kN oh N => ?_);have aa0:=V.out.here;have aa1:=Y.out.here;have uf:=Z.out.here;have Dc:=R.out.here;have Df:=O.out.le;have ER:=LL.out.le;have ES:=hb.size;obtain ⟨V,Y,Z,R,O,LL⟩:=b6 V Y Z R O LL oh;replace hb:=dT hb oh;clear oh;generalize nZ.heap.size=Qh at *;(try clear hHeld);refine hK.out _ _ zBa (fun hHeld => ?_);clear hK K;refine gJ 0 fun K hK => ?_;go_simp;have kE:=aG.empty kN (L7) (LL.out.le);have XP:=N.out.here;obtain ⟨gE,hgE⟩ : ∃ g,g=kN.heap.size:=⟨_,rfl⟩
   rw [<- hgE] at kE XP;have JU:Below kN.heap.size kN (kN.alloc (.cells #[] 34)):=(jY (g_ _ _) (b_ _) _)
   obtain ⟨V,Y,Z,R,N,O,LL⟩:=b7 V Y Z R N O LL JU;replace hb:=dT hb JU;clear JU;generalize kN.alloc (.cells #[] 34)=aa5 at *;have fO:∀ q,(Value.slice (some ⟨gE,0,none⟩) 0 0).ownBlock=some q->q=gE:=fun q h => by injection h with h;exact h.symm
   have Eo:=(kE.lt gE rfl).1;have XM:=(kE.lt gE rfl).2;have P:=hiQ (aG.fB kE (fun _ hq => hq.elim) hb);clear kE;simp only [<- hgE];clear hgE;(try clear hHeld);refine hK.out _ _ zBa (fun hHeld => ?_);clear hK K;obtain ⟨zW,rfl⟩ : ∃ g,g=Qh:=⟨_,rfl⟩
   obtain ⟨rZ,hWS⟩ : ∃ x,x=aa5:=⟨_,rfl⟩
   exact zJe
  case rest =>
   clear V Y Z R O LL;obtain ⟨zX,zY,V,Y,Z,R,⟨hO,hP⟩,hb⟩:=hcut;replace V:=hiQ V;replace R:=hiQ R;have O:=hiQ (aG.fB (hO (fun q hq => (hb).block q hq)) (fun q hq => .inl (hq.elim (fun hq => hq.elim (fun hq => hq.elim False.elim (HS.out q)) (HS.out q)) (HS.out q))) hb);have P:=hiQ (aG.fB (aG.low (hP (fun q hq => (hb).block q hq)) hL2) (fun q hq => .inl (hq.elim (fun hq => hq.elim (fun hq => hq.elim False.elim (HS.out q)) (HS.out q)) (HS.out q))) hb);clear hO hP hL1 hL2;obtain ⟨bK,dh,dn,dI,bG,aQ,aP,dJ⟩:=V.out.c8;go_upto_region 8 with fail;go_wp2_with (refine sR R.out ?_)
   clear bK dh dn dI bG aQ aP dJ;generalize ET:wc.setRow _ _=akH;obtain ⟨V,O,P⟩:=f3 V O P (eR ET);replace R:=dV R ET;replace hb:=tr hb ET;clear ET;exact vJ (v:=.agg #[.int .i64 v.kind,.bool v.bool,.int .i64 v.num,.string ⟨v.str.toArray⟩,.int .i64 v.id,.slice xu (v.keys.length+1) xw,.slice zX (v.keys.length+1) zY,.slice A3 v.rest.length c3]) (by simp [results,Tryz.results67,go_sem,R.out.c8]) rfl (⟨_,_,_,by rw [Hp.out];rfl,by rw [Hp.out];exact afy (HV.out.xJ HS.out hb) (O.out.now (fun q hq => (hb).block q hq)) (P.out.now (fun q hq => (hb).block q hq)) (by omega) (by omega) (fun q hq => hq.elim (fun hq => hq.elim (fun hq => hq.elim False.elim id) id) id) (fun q hq => hq.elim (fun hq => hq.elim (fun hq => hq.elim False.elim id) id) id) (by simp only [h_,L_,Qx,U_];have:=yZ.out;omega),hb⟩)):p:=h
theorem afQ (v k t:Val) (S:Nat->Prop) (vk vi vr kk ki kr tk' ti tr:Value) (w:World) (hS:∀ b,S b->b < w.heap.size) (hv:jq w S v vk vi vr) (hk:jq w S k kk ki kr) (ht:jq w S t tk' ti tr) (hn0:0 < v.keys.length) (hn1:v.items.length=v.keys.length) (hn2:v.keys.length<=100) :
  Calls Tryz.prog 67 #[aS v vk vi vr,aS k kk ki kr,aS t tk' ti tr] w (NU w S (AP v k t)):=by
 obtain ⟨A1,c1,A2,c2,A3,c3,rfl,rfl,rfl,hc1,hc2,-⟩:=hv.forms;obtain ⟨K1,d1,K2,d2,K3,d3,rfl,rfl,rfl,-,-,-⟩:=hk.forms;obtain ⟨T1,e1,T2,e2,T3,e3,rfl,rfl,rfl,-,-,-⟩:=ht.forms;obtain ⟨bk,ok,ck,rfl,hbk,hck,hrk⟩:=hv.keys.at_ hn0;obtain ⟨bi,oi,ci,rfl,hbi,hci,gy⟩:=hv.items.at_ (by omega);have aaY:=hS bk hbk;have aaZ:=hS bi hbi;have HV:=hiQ hv;have HY:=hiQ hk;have HZ:=hiQ ht;have HS:=hiQ hS;have WQ:=hiQ hck;have HRK:=hiQ hrk;have YX:=hiQ hci;have Om:=hiQ gy;have yZ:=hiQ hn1;clear hv hk ht hS hck hrk hci gy hbk hbi hn1;go_enter Tryz.func67,Tryz.ntmps67
 go_upto_region 1 with fail;refine am4 (fun wd2 hb1 V Y Z R => ?_);have hw3:=hb1;clear hb1;have Nr:=hiQ V.out;have Gz:=hiQ Y.out;have HZ0:=hiQ Z.out;have HR0:=hiQ R.out;have hB0:=hw3;clear V Y Z R;go_wp2_with fail;go_loopw [7] (fun i wr => ∃ j:Nat,j<=v.keys.length/\i = .int .i64 j/\j<=kZ v.keys k/\Has wr w.heap.size 34 #[.int .i64 v.kind,.bool v.bool,.int .i64 v.num,.string ⟨v.str.toArray⟩,.int .i64 v.id,.slice (some ⟨bk,ok,none⟩) v.keys.length c1,.slice (some ⟨bi,oi,none⟩) v.items.length c2,.slice A3 v.rest.length c3]/\Has wr (w.heap.size+1) 34 #[.int .i64 k.kind,.bool k.bool,.int .i64 k.num,.string ⟨k.str.toArray⟩,.int .i64 k.id,.slice K1 k.keys.length d1,.slice K2 k.items.length d2,.slice K3 k.rest.length d3]/\Has wr (w.heap.size+1+1) 34 #[.int .i64 t.kind,.bool t.bool,.int .i64 t.num,.string ⟨t.str.toArray⟩,.int .i64 t.id,.slice T1 t.keys.length e1,.slice T2 t.items.length e2,.slice T3 t.rest.length e3]/\Has wr (w.heap.size+1+1+1) 34 #[.int .i64 0,.bool false,.int .i64 0,.string ⟨#[]⟩,.int .i64 0,.slice none 0 0,.slice none 0 0,.slice none 0 0]/\Below w.heap.size w wr) (fun i _ => v.keys.length - (intOf i).toNat)
 case atStart => exact ⟨0,by omega,rfl,by omega,Nr.out,Gz.out,HZ0.out,HR0.out,hB0⟩
 case round =>
  clear Nr Gz HZ0 HR0 hB0;obtain ⟨j,hj,rfl,hjl,V,Y,Z,R,hb⟩:=hrel;replace V:=hiQ V;replace Y:=hiQ Y;replace Z:=hiQ Z;replace R:=hiQ R;by_cases hjn:j < v.keys.length
  .
   have hstep:=UD k v.keys j hjn hjl;have hget:v.keys[j]?=some v.keys[j]:=m_ hjn;obtain ⟨kk,ki,kr,hcq,hyp⟩:=(HRK.out j hjn).inv;have hcc:=WQ.out j hjn;rw [hcq] at hcc;generalize v.keys[j]=y at *;obtain ⟨M1,xf1,M2,Hz,M3,yc,rfl,rfl,rfl,-,-,-⟩:=hyp.forms;have y0:=hcc 0 _ rfl;have y1:=hcc 1 _ rfl;have y2:=hcc 2 _ rfl;have y3:=hcc 3 _ rfl;have y4:=hcc 4 _ rfl;have y5:=hcc 5 _ rfl;have y6:=hcc 6 _ rfl;have y7:=hcc 7 _ rfl;simp only [QB] at y0;have HYP:=hiQ hyp;have hj1:(j:Int) < v.keys.length:=by omega
   have hj0:(0:Int)<=(j:Int):=by omega
   clear hcc hcq hyp;have hcm:=fun W h1 h2 => aFH y k (.slice M1 y.keys.length xf1) (.slice M2 y.items.length Hz) (.slice M3 y.rest.length yc) (.slice K1 k.keys.length d1) (.slice K2 k.items.length d2) (.slice K3 k.rest.length d3) W h1 h2;obtain ⟨cv,hcv⟩ : ∃ c:Int,alD y k=c:=⟨_,rfl⟩
   simp only [hcv] at hcm hstep;have HCM:=hiQ hcm;clear hcm;by_cases hlt:cv < 0
   .
    have hd:decide (cv < 0)=true:=n_ hlt;have hj2:=hstep.1 hlt;clear hstep hget hcv;go_upto_region 2 with fail;have aQ:=V.out.e5;obtain ⟨kT,kU,kV,kW,kX,mD,lJ,mF⟩:=Y.out.c8;refine t_ (S:=(fun w' => w'.cell? ⟨w.heap.size,5,none⟩=some (.slice (some ⟨bk,ok,none⟩) v.keys.length c1)/\w'.cell? ⟨w.heap.size+1,0,none⟩=some (.int .i64 k.kind)/\w'.cell? ⟨w.heap.size+1,1,none⟩=some (.bool k.bool)/\w'.cell? ⟨w.heap.size+1,2,none⟩=some (.int .i64 k.num)/\w'.cell? ⟨w.heap.size+1,3,none⟩=some (.string ⟨k.str.toArray⟩)/\w'.cell? ⟨w.heap.size+1,4,none⟩=some (.int .i64 k.id)/\w'.cell? ⟨w.heap.size+1,5,none⟩=some (.slice K1 k.keys.length d1)/\w'.cell? ⟨w.heap.size+1,6,none⟩=some (.slice K2 k.items.length d2)/\w'.cell? ⟨w.heap.size+1,7,none⟩=some (.slice K3 k.rest.length d3)/\(∀ (b o:Nat),b < w.heap.size->w'.cell? ⟨b,o,none⟩=w.cell? ⟨b,o,none⟩))) (by kernel_rfl) ⟨aQ,kT,kU,kV,kW,kX,mD,lJ,mF,(fun b o hlt => hb.cell (p:=⟨b,o,none⟩) hlt)⟩ (fun hHeld => ?_);clear aQ kT kU kV kW kX mD lJ mF;have hb4:Below wr.heap.size wr (wr.drew):=(g_ _ _).drew;obtain ⟨V,Y,Z,R⟩:=b4 V Y Z R hb4;replace hb:=dT hb hb4;clear hb4;generalize wr.drew=fG at *;refine tk 0 ?_;refine tk 1 ?_;refine tk 2 ?_;refine tk 3 ?_;refine tk 4 ?_;refine tk 5 ?_;refine tk 6 ?_;refine tk 7 ?_;refine tk 8 ?_;refine tk 9 ?_;refine tk 10 ?_;refine tk 11 ?_;refine iE 12 fun K hK => ?_;go_simp;((with_reducible refine (HCM.out _ ((HYP.out.xJ HS.out hb).at_ (fun q hq => u_ (HS.out q hq) (hb).size)) ((HY.out.xJ HS.out hb).at_ (fun q hq => u_ (HS.out q hq) (hb).size))).mono ?_);rintro e wL ⟨rfl,hb7⟩)
    obtain ⟨V,Y,Z,R⟩:=b4 V Y Z R hb7;replace hb:=dT hb hb7;clear hb7;(try clear hHeld);refine hK.out _ _ zAw (fun hHeld => ?_);clear hK K;refine tk 13 ?_;refine tk 14 ?_;refine Dl (by kernel_rfl) ?_ _;(try clear hHeld);go_wp2_with fail;go_roundw
    case rel => exact ⟨j+1,by omega,by go_num,hj2,V.out,Y.out,Z.out,R.out,hb⟩
    case measure => simp [intOf];omega
   have hd:decide (cv < 0)=false:=f_ hlt;have hlo:=hstep.2 hlt;clear hstep;go_upto_region 2 with fail;have aQ:=V.out.e5;obtain ⟨kT,kU,kV,kW,kX,mD,lJ,mF⟩:=Y.out.c8;refine t_ (S:=(fun w' => w'.cell? ⟨w.heap.size,5,none⟩=some (.slice (some ⟨bk,ok,none⟩) v.keys.length c1)/\w'.cell? ⟨w.heap.size+1,0,none⟩=some (.int .i64 k.kind)/\w'.cell? ⟨w.heap.size+1,1,none⟩=some (.bool k.bool)/\w'.cell? ⟨w.heap.size+1,2,none⟩=some (.int .i64 k.num)/\w'.cell? ⟨w.heap.size+1,3,none⟩=some (.string ⟨k.str.toArray⟩)/\w'.cell? ⟨w.heap.size+1,4,none⟩=some (.int .i64 k.id)/\w'.cell? ⟨w.heap.size+1,5,none⟩=some (.slice K1 k.keys.length d1)/\w'.cell? ⟨w.heap.size+1,6,none⟩=some (.slice K2 k.items.length d2)/\w'.cell? ⟨w.heap.size+1,7,none⟩=some (.slice K3 k.rest.length d3)/\(∀ (b o:Nat),b < w.heap.size->w'.cell? ⟨b,o,none⟩=w.cell? ⟨b,o,none⟩))) (by kernel_rfl) ⟨aQ,kT,kU,kV,kW,kX,mD,lJ,mF,(fun b o hlt => hb.cell (p:=⟨b,o,none⟩) hlt)⟩ (fun hHeld => ?_);clear aQ kT kU kV kW kX mD lJ mF;have hb4:Below wr.heap.size wr (wr.drew):=(g_ _ _).drew;obtain ⟨V,Y,Z,R⟩:=b4 V Y Z R hb4;replace hb:=dT hb hb4;clear hb4;generalize wr.drew=fG at *;refine tk 0 ?_;refine tk 1 ?_;refine tk 2 ?_;refine tk 3 ?_;refine tk 4 ?_;refine tk 5 ?_;refine tk 6 ?_;refine tk 7 ?_;refine tk 8 ?_;refine tk 9 ?_;refine tk 10 ?_;refine tk 11 ?_;refine iE 12 fun K hK => ?_;go_simp;((with_reducible refine (HCM.out _ ((HYP.out.xJ HS.out hb).at_ (fun q hq => u_ (HS.out q hq) (hb).size)) ((HY.out.xJ HS.out hb).at_ (fun q hq => u_ (HS.out q hq) (hb).size))).mono ?_);rintro e wL ⟨rfl,hb7⟩)
   obtain ⟨V,Y,Z,R⟩:=b4 V Y Z R hb7;replace hb:=dT hb hb7;clear hb7;(try clear hHeld);refine hK.out _ _ zAw (fun hHeld => ?_);clear hK K;refine tk 13 ?_;refine tk 14 ?_;refine Dl (by kernel_rfl) ?_ _;(try clear hHeld);go_upto_region 4 with fail;have aQ:=V.out.e5;obtain ⟨kT,kU,kV,kW,kX,mD,lJ,mF⟩:=Y.out.c8;refine t_ (S:=(fun w' => w'.cell? ⟨w.heap.size,5,none⟩=some (.slice (some ⟨bk,ok,none⟩) v.keys.length c1)/\w'.cell? ⟨w.heap.size+1,0,none⟩=some (.int .i64 k.kind)/\w'.cell? ⟨w.heap.size+1,1,none⟩=some (.bool k.bool)/\w'.cell? ⟨w.heap.size+1,2,none⟩=some (.int .i64 k.num)/\w'.cell? ⟨w.heap.size+1,3,none⟩=some (.string ⟨k.str.toArray⟩)/\w'.cell? ⟨w.heap.size+1,4,none⟩=some (.int .i64 k.id)/\w'.cell? ⟨w.heap.size+1,5,none⟩=some (.slice K1 k.keys.length d1)/\w'.cell? ⟨w.heap.size+1,6,none⟩=some (.slice K2 k.items.length d2)/\w'.cell? ⟨w.heap.size+1,7,none⟩=some (.slice K3 k.rest.length d3)/\(∀ (b o:Nat),b < w.heap.size->w'.cell? ⟨b,o,none⟩=w.cell? ⟨b,o,none⟩))) (by kernel_rfl) ⟨aQ,kT,kU,kV,kW,kX,mD,lJ,mF,(fun b o hlt => hb.cell (p:=⟨b,o,none⟩) hlt)⟩ (fun hHeld => ?_);clear aQ kT kU kV kW kX mD lJ mF;have hb8:Below wL.heap.size wL (wL.drew):=(g_ _ _).drew;obtain ⟨V,Y,Z,R⟩:=b4 V Y Z R hb8;replace hb:=dT hb hb8;clear hb8;generalize wL.drew=nM at *;refine tk 0 ?_;refine tk 1 ?_;refine tk 2 ?_;refine tk 3 ?_;refine tk 4 ?_;refine tk 5 ?_;refine tk 6 ?_;refine tk 7 ?_;refine tk 8 ?_;refine tk 9 ?_;refine tk 10 ?_;refine tk 11 ?_;refine iE 12 fun K hK => ?_;go_simp
   ((with_reducible refine (HCM.out _ ((HYP.out.xJ HS.out hb).at_ (fun q hq => u_ (HS.out q hq) (hb).size)) ((HY.out.xJ HS.out hb).at_ (fun q hq => u_ (HS.out q hq) (hb).size))).mono ?_);rintro e kL ⟨rfl,iR⟩);obtain ⟨V,Y,Z,R⟩:=b4 V Y Z R iR;replace hb:=dT hb iR;clear iR;(try clear hHeld);refine hK.out _ _ zAw (fun hHeld => ?_);clear hK K;refine tk 13 ?_;refine tk 14 ?_;refine Dl (by kernel_rfl) ?_ _;(try clear hHeld);clear y0 y1 y2 y3 y4 y5 y6 y7;by_cases hz:cv=0
   .
    have tz:(cv == 0)=true:=by simp [hz]
    have Hp:Hid (AP v k t=v):=by show _=_;unfold AP;rw [hlo,hget];simp [hcv,hz]
    clear hz hlt hd hget hcv hlo;obtain ⟨bK,dh,dn,dI,bG,aQ,aP,dJ⟩:=V.out.c8;go_upto_region 5 with fail;go_wp2_with (refine sR R.out ?_)
    clear bK dh dn dI bG aQ aP dJ;generalize fU:kL.setRow _ _=lZ;obtain ⟨V,Y,Z⟩:=f3 V Y Z (eR fU);replace R:=dV R fU;replace hb:=tr hb fU;clear fU;exact vJ (v:=.agg #[.int .i64 v.kind,.bool v.bool,.int .i64 v.num,.string ⟨v.str.toArray⟩,.int .i64 v.id,.slice (some ⟨bk,ok,none⟩) v.keys.length c1,.slice (some ⟨bi,oi,none⟩) v.items.length c2,.slice A3 v.rest.length c3]) (by simp [results,Tryz.results67,go_sem,R.out.c8]) rfl (⟨_,_,_,by rw [Hp.out];try rfl,by rw [Hp.out];exact (HV.out.xJ HS.out hb).keep (fun _ _ => rfl) (fun _ h => .inl h),hb⟩)
   have tz:(cv == 0)=false:=by simpa using hz
   have Hp:Hid (AP v k t = .mk v.kind v.bool v.num v.str v.id (v.keys.take j ++ [k] ++ v.keys.drop j) (v.items.take j ++ [t] ++ v.items.drop j) v.rest):=by show _=_;unfold AP;rw [hlo,hget];simp [hcv,hz]
   clear hz hlt hd hget hcv hlo;have uD:Hid ((v.keys.take j).length=j):=by show _=_;rw [L_];omega
   have Bq:Hid ((v.keys.take j ++ [k]).length=j+1):=by show _=_;rw [h_,uD.out];rfl
   have Bv:Hid ((v.keys.drop j).length=v.keys.length - j):=by show _=_;rw [Qx]
   have Qe:Hid ((v.keys.take j ++ [k] ++ v.keys.drop j).length=v.keys.length+1):=by show _=_;rw [h_,Bq.out,Bv.out];omega
   have xY:Hid ((v.items.take j).length=j):=by show _=_;have:=yZ.out;rw [L_];omega
   have Bz:Hid ((v.items.take j ++ [t]).length=j+1):=by show _=_;rw [h_,xY.out];rfl
   have BA:Hid ((v.items.drop j).length=v.items.length - j):=by show _=_;rw [Qx]
   have Qg:Hid ((v.items.take j ++ [t] ++ v.items.drop j).length=v.keys.length+1):=by show _=_;have:=yZ.out;rw [h_,Bz.out,BA.out];omega
   have F5:=hiQ (fun W h => U6 aaY HS.out WQ.out HRK.out j W h);have HI1:=hiQ (fun W h => U6 aaZ HS.out YX.out Om.out j W h);obtain ⟨ok2,hok,hok2⟩ : ∃ q:Nat,(if c1=j then some (⟨bk,ok,none⟩ : Addr) else some ⟨bk,ok+j*8,none⟩)=some ⟨bk,q,none⟩/\(q=ok+j*8\/v.keys.length<=j):=by
    split
    . exact ⟨_,rfl,.inr (by omega)⟩
    exact ⟨_,rfl,.inl rfl⟩
   obtain ⟨oi2,hoi,XJ⟩ : ∃ q:Nat,(if c2=j then some (⟨bi,oi,none⟩ : Addr) else some ⟨bi,oi+j*8,none⟩)=some ⟨bi,q,none⟩/\(q=oi+j*8\/v.items.length<=j):=by
    split
    . exact ⟨_,rfl,.inr (by have:=yZ.out;omega)⟩
    exact ⟨_,rfl,.inl rfl⟩
   have XK:=hiQ hok;have XL:=hiQ hoi;have I9:=hiQ (fun W h => U7 aaY HS.out WQ.out HRK.out j ok2 hok2 W h);have HI2:=hiQ (fun W h => U7 aaZ HS.out YX.out Om.out j oi2 XJ W h);clear hok hoi hok2 XJ;have anC:(j:Int)<=c1:=by omega
   have anD:(j:Int)<=c2:=by have:=yZ.out;omega
   have Um:(j:Int)<=v.keys.length:=by omega
   have hji:(j:Int)<=v.items.length:=by have:=yZ.out;omega
   obtain ⟨EP,hWS⟩ : ∃ x,x=kL:=⟨_,rfl⟩
   exact zBj
  have hjE:j=v.keys.length:=by omega
  have hd1:decide ((j:Int) < v.keys.length)=false:=f_ (by omega);have hd2:¬ (j:Int) < v.keys.length:=by omega
  have hl0:kZ v.keys k=j:=by have:=afx k v.keys (by omega);omega
  have Hp:Hid (AP v k t = .mk v.kind v.bool v.num v.str v.id (v.keys.take j ++ [k] ++ v.keys.drop j) (v.items.take j ++ [t] ++ v.items.drop j) v.rest):=by show _=_;unfold AP;rw [hl0,hjE,List.getElem?_eq_none (b_ _)];simp
  have hj0:(0:Int)<=(j:Int):=by omega
  clear hl0;have uD:Hid ((v.keys.take j).length=j):=by show _=_;rw [L_];omega
  have Bq:Hid ((v.keys.take j ++ [k]).length=j+1):=by show _=_;rw [h_,uD.out];rfl
  have Bv:Hid ((v.keys.drop j).length=v.keys.length - j):=by show _=_;rw [Qx]
  have Qe:Hid ((v.keys.take j ++ [k] ++ v.keys.drop j).length=v.keys.length+1):=by show _=_;rw [h_,Bq.out,Bv.out];omega
  have xY:Hid ((v.items.take j).length=j):=by show _=_;have:=yZ.out;rw [L_];omega
  have Bz:Hid ((v.items.take j ++ [t]).length=j+1):=by show _=_;rw [h_,xY.out];rfl
  have BA:Hid ((v.items.drop j).length=v.items.length - j):=by show _=_;rw [Qx]
  have Qg:Hid ((v.items.take j ++ [t] ++ v.items.drop j).length=v.keys.length+1):=by show _=_;have:=yZ.out;rw [h_,Bz.out,BA.out];omega
  have F5:=hiQ (fun W h => U6 aaY HS.out WQ.out HRK.out j W h);have HI1:=hiQ (fun W h => U6 aaZ HS.out YX.out Om.out j W h);obtain ⟨ok2,hok,hok2⟩ : ∃ q:Nat,(if c1=j then some (⟨bk,ok,none⟩ : Addr) else some ⟨bk,ok+j*8,none⟩)=some ⟨bk,q,none⟩/\(q=ok+j*8\/v.keys.length<=j):=by
   split
   . exact ⟨_,rfl,.inr (by omega)⟩
   exact ⟨_,rfl,.inl rfl⟩
  obtain ⟨oi2,hoi,XJ⟩ : ∃ q:Nat,(if c2=j then some (⟨bi,oi,none⟩ : Addr) else some ⟨bi,oi+j*8,none⟩)=some ⟨bi,q,none⟩/\(q=oi+j*8\/v.items.length<=j):=by
   split
   . exact ⟨_,rfl,.inr (by have:=yZ.out;omega)⟩
   exact ⟨_,rfl,.inl rfl⟩
  have XK:=hiQ hok;have XL:=hiQ hoi;have I9:=hiQ (fun W h => U7 aaY HS.out WQ.out HRK.out j ok2 hok2 W h);have HI2:=hiQ (fun W h => U7 aaZ HS.out YX.out Om.out j oi2 XJ W h);clear hok hoi hok2 XJ;have anC:(j:Int)<=c1:=by omega
  have anD:(j:Int)<=c2:=by have:=yZ.out;omega
  have Um:(j:Int)<=v.keys.length:=by omega
  have hji:(j:Int)<=v.items.length:=by have:=yZ.out;omega
  clear hjE;go_upto_region 2 with fail;have aQ:=V.out.e5;refine t_ (S:=(fun w' => w'.cell? ⟨w.heap.size,5,none⟩=some (.slice (some ⟨bk,ok,none⟩) v.keys.length c1))) (by kernel_rfl) aQ (fun hHeld => ?_);clear aQ;have hb4:Below wr.heap.size wr (wr.drew):=(g_ _ _).drew;obtain ⟨V,Y,Z,R⟩:=b4 V Y Z R hb4;replace hb:=dT hb hb4;clear hb4;generalize wr.drew=fG at *;refine tk 0 ?_;refine tk 1 ?_;refine tk 2 ?_;refine tk 3 ?_;refine tk 4 ?_;refine tk 5 ?_;refine tks 6 ?_;simp only [aF];refine tks 7 ?_;simp only [aF];refine tks 8 ?_;simp only [aF];refine tks 9 ?_;simp only [aF];refine tks 10 ?_;simp only [aF];refine tks 11 ?_;simp only [aF];refine tks 12 ?_;simp only [aF];refine tks 13 ?_;simp only [aF];refine tk 14 ?_;refine Dl (by kernel_rfl) ?_ _;(try clear hHeld);go_upto_region 4 with fail;have aQ:=V.out.e5;refine t_ (S:=(fun w' => w'.cell? ⟨w.heap.size,5,none⟩=some (.slice (some ⟨bk,ok,none⟩) v.keys.length c1))) (by kernel_rfl) aQ (fun hHeld => ?_);clear aQ;have hb6:Below fG.heap.size fG (fG.drew):=(g_ _ _).drew;obtain ⟨V,Y,Z,R⟩:=b4 V Y Z R hb6;replace hb:=dT hb hb6;clear hb6;generalize fG.drew=jC at *;refine tk 0 ?_;refine tk 1 ?_;refine tk 2 ?_;refine tk 3 ?_;refine tk 4 ?_;refine tk 5 ?_;refine tks 6 ?_;simp only [aF];refine tks 7 ?_;simp only [aF];refine tks 8 ?_;simp only [aF];refine tks 9 ?_;simp only [aF];refine tks 10 ?_;simp only [aF];refine tks 11 ?_;simp only [aF];refine tks 12 ?_;simp only [aF];refine tks 13 ?_;simp only [aF]
  refine tk 14 ?_;refine Dl (by kernel_rfl) ?_ _;(try clear hHeld);obtain ⟨EP,hWS⟩ : ∃ x,x=jC:=⟨_,rfl⟩
  exact zBj
theorem put_any (v k t:Val) (S:Nat->Prop) (vk vi vr kk ki kr tk ti tr:Value) (w:World) (hS:∀ b,S b->b < w.heap.size) (hv:jq w S v vk vi vr) (hk:jq w S k kk ki kr) (ht:jq w S t tk ti tr) (h0:v.keys = []->vk = .slice none 0 0/\vi = .slice none 0 0) (hn1:v.items.length=v.keys.length) (hn2:v.keys.length<=100) :
  Calls Tryz.prog 67 #[aS v vk vi vr,aS k kk ki kr,aS t tk ti tr] w (NU w S (AP v k t)):=by
 by_cases h:v.keys = []
 . exact ahy v k t S vk vi vr kk ki kr tk ti tr w hS hv hk ht h (by rw [h] at hn1;exact yS hn1) (h0 h).1 (h0 h).2
 exact afQ v k t S vk vi vr kk ki kr tk ti tr w hS hv hk ht (Nat.pos_of_ne_zero fun e => h (yS e)) hn1 hn2
