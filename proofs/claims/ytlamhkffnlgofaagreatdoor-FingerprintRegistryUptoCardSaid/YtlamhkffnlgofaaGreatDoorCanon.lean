/- What canon.Canon computes. No condition. -/
import Derived.Test.YtlamhkffnlgofaaGreatDoorHAO
import Derived.Test.YtlamhkffnlgofaaGreatDoorRen
import Derived.Test.YtlamhkffnlgofaaGreatDoorHAN
set_option maxHeartbeats 6400000
set_option maxRecDepth 100000
namespace Go.Proofs.YtlamhkffnlgofaaGreatDoor
open Go.ChangeShapes Go.WideShapes Go.ChangeAt Go.RowKit
theorem avm {x:ay} (h:dY x=true):x.syms.length≤16:=by
 by_cases hk:x.kind=4
 ·
  unfold dY rD at h;simp only [hk] at h;simp only [Bool.and_eq_true] at h;have:=h.2.1;simp [wu,nP] at this;exact this.2.2.2
 rw [(U0 h).2.2.2.2 hk];simp
theorem axq (f:List Nat) (cl:Nat→Nat) (n:Nat) (p5 p7 b L:Nat) (A:Option Addr) (c u:Nat) (hu:u < n) (hcl:cl u≤4294967296) (w:World) (P7:Has w p7 130 #[.map (some b)]) (P5:Has w p5 39 #[.slice A n c]) (hm:O4 w b f)
  (hr:w.ownsRow L 3 1 (.slice A n c) n ((List.range n).map fun i => .int .i64 (cl i:Nat))) :
  Calls Tryz.prog 77 #[.int .i64 (u:Nat),.pointer (some ⟨p7,0,none⟩),.pointer (some ⟨p5,0,none⟩)] w (RTq w (.int .i64 (if cl u ∈ f then f.idxOf (cl u) else 0:Nat))):=by
 obtain ⟨g,rfl⟩ : ∃ g,A=some ⟨g,0,none⟩:=by
  rcases hr.2 with ⟨h,h2⟩ | ⟨g,cap,cur,h,_⟩
  · omega
  injection h with h;exact ⟨g,h⟩
 have hcell:=hr.cellAt u (by omega);have hd0:decide ((u:Int) < 0)=false:=by simp
 have hd1:decide (n≤u)=false:=by simpa using hu
 rw [List.getElem?_map,List.getElem?_range hu] at hcell;simp only [Option.map_some] at hcell;have hbg:=(hr.lt g rfl).2;replace P7:=hiQ P7;replace P5:=hiQ P5;have NM:=hiQ (hm.kept);have CL:=hiQ (Af hcell);clear hm hr hcell;generalize cl u=q at *;obtain ⟨r,hr⟩ : ∃ r:Nat,r=if q ∈ f then f.idxOf q else 0:=⟨_,rfl⟩
 rw [← hr];have HRR:=hiQ hr;clear hr;go_enter Tryz.func77,Tryz.ntmps77
 go_upto_region 1 with fail;have asu:=P7.out.e0;have asv:=P5.out.e0;refine wp_region_held_drew (S:=(fun w' => w'.cell? ⟨p7,0,none⟩=some (.map (some b))∧w'.cell? ⟨p5,0,none⟩=some (.slice (some ⟨g,0,none⟩) n c)∧(w'.cell? ⟨g,u,none⟩=some (.int .i64 (q:Nat)))∧((Instr.lookup 130 (.map (some b)) (.int .i64 (q:Int)) false).run Tryz.prog w' = .ok (.int .i64 (r:Nat)) w'))) (by kernel_rfl) ⟨asu,asv,(CL.out.now),((by rw [HRR.out];refine O4.look1 ?_ q hcl;exact O4.keep NM.out.now rfl))⟩ (fun hHeld => ?_);clear asu asv;have hb1:Below w.heap.size w (w.drew):=(Below.refl _ _).drew;obtain ⟨P7,P5,NM,CL⟩:=b4 P7 P5 NM CL hb1;have hw3:=hb1;clear hb1;generalize w.drew=wd2 at *;refine tk 0 ?_;refine tk 1 ?_;refine tk 2 ?_;refine tk 3 ?_;refine tk 4 ?_;refine tk 5 ?_;refine tk 6 ?_;exact zIf
theorem azI {c:Nat→Nat} {o:Nat→List Nat} {k n a:Nat} {f:List Nat} (h:f[n]?=some a):bfs c o (k+1) n f=bfs c o k (n+1) (ajJ c f (o a)):=by rw [bfs,h]
theorem aBt {c:Nat→Nat} {o:Nat→List Nat} {k n:Nat} {f:List Nat} (h:f.length≤n):bfs c o k n f=f:=by
 cases k with
 | zero => rfl
 | succ k => rw [bfs,List.getElem?_eq_none h]
theorem azJ {w:World} {g base:Nat} {T:TypeId} {u:Value} (h:Has w g T #[u]) (hb:base≤g):w.ownsRow base T 1 (.slice (some ⟨g,0,none⟩) 1 1) 1 [u] :=
 ⟨rfl,.inr ⟨g,1,#[u],rfl,hb,h,Nat.le_refl _,by decide,rfl,rfl⟩⟩
def nV (c:Nat):Value:=.int .i64 (c:Nat)
noncomputable def arn (ts:List ay):List Value:=(List.range ts.length).map fun i => .int .i64 (dR ts i:Nat)
theorem at1 (ts:List ay) (i:Nat) (h:i < ts.length):(arn ts)[i]?=some (.int .i64 (dR ts i:Nat)):=by
 unfold arn;rw [List.getElem?_map,List.getElem?_range h];rfl
theorem arX {w:World} {b o:Nat} {x:ay} {vs vm:Value} (h:NI w b o x vs vm) (hb:b < w.heap.size):Kept (fun w => NI w b o x vs vm) w b (b+1) :=
 ⟨h,fun w' hk => by
  have e:∀ i,w'.cell? ⟨b,i,none⟩=w.cell? ⟨b,i,none⟩:=fun i => World.cell?_of_block (hk b (Nat.le_refl _) (Nat.lt_succ_self _));obtain ⟨y0,y1,y2,y3,y4,y5,y6,y7,y8,y9⟩:=h;exact ⟨(e _).trans y0,(e _).trans y1,(e _).trans y2,(e _).trans y3,(e _).trans y4,(e _).trans y5,(e _).trans y6,(e _).trans y7,(e _).trans y8,(e _).trans y9⟩,hb⟩
abbrev aoj (w:World) (b o:Nat) (t:ay) (vs vm:Value):Prop :=
 w.cell? ⟨b,o,none⟩=some (.int .i64 t.kind)∧w.cell? ⟨b,o+1,none⟩=some (.string ⟨t.name.toArray⟩)∧w.cell? ⟨b,o+2,none⟩=some (.int .i64 t.low)∧w.cell? ⟨b,o+3,none⟩=some (.int .i64 t.high)∧w.cell? ⟨b,o+4,none⟩=some (.int .i64 t.max) ∧
 w.cell? ⟨b,o+5,none⟩=some vs∧w.cell? ⟨b,o+6,none⟩=some vm∧w.cell? ⟨b,o+7,none⟩=some (.int .i64 t.key)∧w.cell? ⟨b,o+8,none⟩=some (.int .i64 t.elem)∧w.cell? ⟨b,o+9,none⟩=some (.bool t.opn)
def at6 (w wr:World) (bT oT n c i gc cc gP5 gP7 gm:Nat) (cv:List Value):Prop :=
 Has wr w.heap.size 27 #[.slice (some ⟨bT,oT,none⟩) n c,.int .i64 (i:Nat)]∧Has wr (w.heap.size+1) 27 #[.slice none 0 0,.int .i64 0] ∧
 Has wr gP5 39 #[.slice (some ⟨gc,0,none⟩) n cc]∧Has wr gP7 130 #[.map (some gm)]∧wr.ownsRow (w.heap.size+2) 3 1 (.slice (some ⟨gc,0,none⟩) n cc) n cv∧Below w.heap.size w wr
theorem ayf {w:World} {L B:Nat} {y:ay} {vs vm:Value} (h:alC w (fun b => L≤b∧b < B) y vs vm) (hB:B≤w.heap.size):Kept (fun w' => alC w' (fun b => L≤b∧b < B) y vs vm) w L B :=
 ⟨h,fun _ hk => h.keep (fun p hp => World.cell?_of_block (hk p.block hp.1 hp.2)) (fun _ h => h),hB⟩
theorem azK {l:List ay} {k:Nat} {y:ay} (h:l[k]?=some y):l.take (k+1)=l.take k ++ [y]:=by rw [List.take_add_one,h];rfl
theorem auu:(Tryz.prog.info? 71).map (fun i => (i.zero,i.size,i.bytes))=some (some (.agg #[.int .i64 0,.string ByteArray.empty,.int .i64 0,.int .i64 0,.int .i64 0,.slice none 0 0,.slice none 0 0,.int .i64 0,.int .i64 0,.bool false]),10,120):=by kernel_rfl
theorem axr (x:ay) (h:x.ah.length≤1000):(bn x).length≤1002:=by
 unfold bn;simp only [List.length_append,List.length_map];split <;> split <;> simp <;> omega
def at7 (ts:List ay) (t:Int) (w:World) (e:Ending) (w':World):Prop:=Below w.heap.size w w' ∧
 ((gV ts t≠0∧e = .returned (.tuple #[.agg #[.slice none 0 0,.int .i64 0],.int .i64 (gV ts t)])) ∨
  gV ts t=0∧∃ A c,e = .returned (.tuple #[.agg #[.slice A (jk ts t.toNat).length c,.int .i64 0],.int .i64 0])∧aU w' w'.heap.size (.slice A (jk ts t.toNat).length c) (jk ts t.toNat))
theorem zAl {p:Prop} (h:p:=by exact ⟨R.out.cell 0,⟨OUT.out.cell 0,(KT.out.now)⟩⟩):p:=h
theorem zDn {p:Prop} (h:p:=by
 obtain ⟨y0,y1,y2,y3,y4,y5,y6,y7,y8,y9⟩:=hcells;exact ⟨(hb0.cell (p:=⟨bT,_,none⟩) RX).trans y0,(hb0.cell (p:=⟨bT,_,none⟩) RX).trans y1,(hb0.cell (p:=⟨bT,_,none⟩) RX).trans y2,(hb0.cell (p:=⟨bT,_,none⟩) RX).trans y3,(hb0.cell (p:=⟨bT,_,none⟩) RX).trans y4,(hb0.cell (p:=⟨bT,_,none⟩) RX).trans y5,(hb0.cell (p:=⟨bT,_,none⟩) RX).trans y6,(hb0.cell (p:=⟨bT,_,none⟩) RX).trans y7,(hb0.cell (p:=⟨bT,_,none⟩) RX).trans y8,(hb0.cell (p:=⟨bT,_,none⟩) RX).trans y9⟩):p:=h
theorem zGs {p:Prop} (h:p:=by
 rcases hcls.2 with ⟨h,h2⟩ | ⟨g,cap,cur,h,_⟩
 · omega
 injection h with h;exact ⟨g,h⟩):p:=h
theorem zGu {p:Prop} (h:p:=by
 rcases hus.2 with ⟨h,h2⟩ | ⟨g,cap,cur,h,_⟩
 · omega
 injection h with h;exact ⟨g,h⟩):p:=h
theorem ayg (ts:List ay) (A:Option Addr) (c:Nat) (t:Int) (w:World) (hs:Sizes ts) (ht:aU w w.heap.size (.slice A ts.length c) ts) (hp:aj0 w) :
  Calls Tryz.prog 44 #[.agg #[.slice A ts.length c,.int .i64 t]] w (at7 ts t w):=by
 have HT:=hiQ ht;have HP:=hiQ hp;have H1:=hiQ (fun W h => aaz ts A c t W hs h);have HC2:=hiQ (fun (hv:fF ts=0) W h => awv ts A c W hs hv h);by_cases h1:gV ts t=0
 ·
  obtain ⟨hv,ht0,htl⟩:=aro h1;obtain ⟨i,rfl⟩ : ∃ i:Nat,t=(i:Int):=⟨t.toNat,by omega⟩
  have hil:i < ts.length:=by omega
  have hlen:=(akN hv).len;have FI:=hiQ (FP hv);have HGM:=hiQ (akN hv).ah;have HGS:=hiQ (fun x (hx:x ∈ ts) => avm ((ni hv).2 x hx).1);have HGI:=hiQ (akN hv).inu;have hpost:∀ w' A' c',Below w.heap.size w w'→aU w' w'.heap.size (.slice A' (jk ts i).length c') (jk ts i)→at7 ts i w (.returned (.tuple #[.agg #[.slice A' (jk ts i).length c',.int .i64 0],.int .i64 0])) w':=fun w' A' c' h2 h3 => ⟨h2,.inr ⟨h1,A',c',rfl,h3⟩⟩
  have Xb:=hiQ hpost;have hcl:=fun W h => HC2.out hv W h;have HCL:=hiQ hcl;rw [h1] at H1;obtain ⟨bT,oT,rfl,RX,hel⟩:=ht.elem (by omega);have Ez:=hiQ hel;have hd0:decide ((i:Int) < 0)=false:=by simp
  have hd1:decide (ts.length≤i)=false:=by simpa using hil
  clear ht hp hs h1 hv ht0 htl hpost hcl HC2 hel;go_enter Tryz.func44,Tryz.ntmps44
  go_upto_region 1 with fail;refine jg (fun wd2 hb1 R Z => ?_);have hw3:=hb1;clear hb1;obtain ⟨iV,iW⟩:=R.out.c2;go_wp2_with fail;clear iV iW;((with_reducible refine (H1.out _ (HT.out.on hw3)).mono ?_);rintro e wd4 ⟨rfl,hb5⟩);obtain ⟨R,Z⟩:=b2 R Z hb5;replace hw3:=dT hw3 hb5;clear hb5;have iV:=R.out.e0;go_wp2_with fail;have hZ1:=Z.out.here;clear iV;((with_reducible refine (HCL.out _ (HT.out.on hw3)).mono ?_);rintro e wL ⟨cv,rfl,hcls,hb7⟩);obtain ⟨R,Z⟩:=b2 R Z hb7;replace hw3:=dT hw3 hb7;clear hb7;obtain ⟨Ac,cc,rfl⟩:=jF hcls;obtain ⟨gc,rfl⟩ : ∃ g,Ac=some ⟨g,0,none⟩:=by
   exact zGs
  have aua:wL.ownsRow (w.heap.size+2) 3 1 (.slice (some ⟨gc,0,none⟩) ts.length cc) ts.length (arn ts):=own_base hcls hZ1;have CL:=hiQ (Kept.ai9 aua);have hgc:=aua.lt gc rfl;have aEO:=hiQ hgc.1;clear aua hcls;go_upto_region 5 with fail;refine aO (fun nM hb8 P5 => ?_);have sH:=R.out.here;have hl12:=Z.out.here;have alh:=CL.out.le;have akV:=hw3.size;obtain ⟨R,Z,CL⟩:=b3 R Z CL hb8;replace hw3:=dT hw3 hb8;clear hb8;generalize wL.heap.size=g10 at *;go_upto_region 7 with fail;obtain ⟨gm,hgm⟩ : ∃ g,g=nM.heap.size:=⟨_,rfl⟩
  have hl5:=P5.out.here;have hm0:=O4.made nM;have hbm:=jY (Below.refl nM.heap.size nM) (Nat.le_refl _) (.map #[] 0);have c5:=(P5.out.below hbm P5.out.here).cell 0;have c1:=(R.out.below hbm R.out.here).cell 1;have hcc:=(CL.out.on hbm).now.cellAt i (by omega);have HGC:Hid (w.heap.size+2≤gc∧gc < g10):=⟨aEO.out,hgc.2⟩
  simp only [List.getElem?_toArray,List.getElem?_cons_zero,List.getElem?_cons_succ] at c5 c1;rw [at1 ts i hil] at hcc;have hci:dR ts i≤32:=by have:=aqA FI.out hil;omega
  obtain ⟨q,hq⟩ : ∃ q,q=dR ts i:=⟨_,rfl⟩
  rw [← hq] at hcc hci;have HQ:=hiQ hq;clear hq;have hmm:=@run_makeMap Tryz.prog;go_upto_region 8 with (refine aq8 rfl _ _ _ (.inr rfl) _ [] rfl hm0 (by simp) q rfl rfl (by omega) (by simp) ?_;intro w3 asw hg3)
  have aBW:=Ef hg3 (B:=nM.heap.size) (by simp) (fun j hj => by cases hj;exact Nat.le_refl _);have hb3:=hbm.trans aBW;clear hm0 hbm c5 c1 hcc hg3 aBW;rw [← hgm] at asw hl5 ⊢;obtain ⟨R,Z,P5,CL⟩:=b4 R Z P5 CL hb3;replace hw3:=dT hw3 hb3;have NM:=hiQ (asw.kept);clear asw hb3 hgm;refine aO (fun yN o7 P7 => ?_);have sW:=R.out.here;have Az:=Z.out.here;have BQ:=P5.out.here;have Dv:=CL.out.le;have Dw:=NM.out.le;have Es:=hw3.size;obtain ⟨R,Z,P5,CL,NM⟩:=b5 R Z P5 CL NM o7;replace hw3:=dT hw3 o7;clear o7;generalize w3.heap.size=g17 at *;have hA:w.heap.size+2≤gc∧gc < g10∧g10 < gm∧gm < g17:=⟨HGC.out.1,HGC.out.2,by omega,by omega⟩
  obtain ⟨gP5,rfl⟩ : ∃ g,g=g10:=⟨_,rfl⟩
  obtain ⟨gP7,rfl⟩ : ∃ g,g=g17:=⟨_,rfl⟩
  have hcc:=CL.out.now.cellAt i (by omega);rw [at1 ts i hil,← HQ.out] at hcc;have asv:=P5.out.e0;have iW:=R.out.e1;go_upto_region 9 with fail;clear asv iW hcc;refine aO (fun pF vg ON => ?_);have uQ:=R.out.here;have sK:=Z.out.here;have uO:=P5.out.here;have uh:=P7.out.here;have Bc:=CL.out.le;have Et:=NM.out.le;have J8:=hw3.size;obtain ⟨R,Z,P5,P7,CL,NM⟩:=b6 R Z P5 P7 CL NM vg;replace hw3:=dT hw3 vg;clear vg;generalize yN.heap.size=g26 at *;have hO:=azJ (base:=gP7+1) ON.out (by omega);clear ON;have O:=hiQ (Kept.own hO);clear hO;have hst:Hid (bfs (dR ts) (og ts) ts.length 0 [q]=Ht ts i∧aj1 ts [q]):=by show _∧_;rw [HQ.out];exact ⟨rfl,arp FI.out hil⟩
  have hH:at6 w pF bT oT ts.length c i gc cc gP5 gP7 gm (arn ts):=⟨R.out,Z.out,P5.out,P7.out,CL.out.now,hw3⟩
  have hO:=O.out.now;have hN:=NM.out.now;clear hci HGC HQ;go_upto_region 10 with fail;go_loopw [8,9] (fun s8 s9 wr => ∃ (n k:Nat) (f:List Nat),s9 = .int .i64 n∧n≤f.length∧bfs (dR ts) (og ts) k n f=Ht ts i∧ts.length≤k+n∧aj1 ts f∧wr.ownsRow (gP7+1) 3 1 s8 f.length (f.map nV)∧O4 wr gm f∧at6 w wr bT oT ts.length c i gc cc gP5 gP7 gm (arn ts)) (fun _ s9 _ => ts.length - (intOf s9).toNat)
  case atStart => exact ⟨0,ts.length,[q],rfl,Nat.zero_le _,hst.out.1,by omega,hst.out.2,hO,hN,hH⟩
  case round =>
   clear R Z P5 P7 CL O NM hO hN hH hst;obtain ⟨n,k,f,rfl,hnl,axt,hkn,an9,hown,hnum,hH⟩:=hrel;obtain ⟨A8,c8,rfl⟩:=jF hown;obtain ⟨R,Z,P5,P7,hCL,hb0⟩:=hH;have hfl:=an9.len;replace R:=hiQ R;replace Z:=hiQ Z;replace P5:=hiQ P5;replace P7:=hiQ P7;have CL:=hiQ (Kept.ai9 hCL);have NM:=hiQ (hnum.kept);have O:=hiQ (Kept.own hown);clear hnum hCL;by_cases hlt:n < f.length
   ·
    obtain ⟨k,rfl⟩ : ∃ q,k=q+1:=⟨k - 1,by omega⟩
    have hfn:f[n]?=some f[n]:=List.getElem?_eq_getElem hlt;have hal:=(an9.lt _ (List.getElem_mem hlt)).1;have hbn:=azI (c:=dR ts) (o:=og ts) (k:=k) hfn;rw [axt] at hbn;obtain ⟨g8,rfl⟩ : ∃ g,A8=some ⟨g,0,none⟩:=by
     exact zCx
    have hcn:=(hown.cellAt n (by omega)).trans (by rw [List.getElem?_map,hfn];rfl:(f.map nV)[n]?=some (nV f[n]));obtain ⟨a,ha⟩ : ∃ a,a=f[n]:=⟨_,rfl⟩
    rw [← ha] at hal hbn hcn;obtain ⟨vs,vm,hcells,hxa⟩:=Ez.out a hal;have hxm:ts[a] ∈ ts:=List.getElem_mem hal;have hmx:=HGM.out _ hxm;have hux:=HGI.out _ hxm;have hlu:=axr _ hmx;have hox:og ts a=(bn ts[a]).map fun u => u.2.toNat:=by unfold og;rw [List.getElem?_eq_getElem hal];rfl
    rw [hox] at hbn;have HBN:=hiQ hbn;have HUX:=hiQ hux;have hal2:=hal;generalize ts[a]=x at *;obtain ⟨C1,l1,C2,l2,rfl,rfl,-,-⟩:=hxa.forms;have hct:NI wr bT (oT+a*10) x (.slice C1 x.syms.length l1) (.slice C2 x.ah.length l2):=by
     exact zDn
    have KT:=hiQ (arX hct (by have:=hb0.size;omega));have Wj:=hiQ hxa;have axu:wr.cell? ⟨g8,n,none⟩=some (.int .i64 (a:Nat)):=hcn;have KN:=hiQ (Af axu);have hi1:(n:Int) < f.length:=by omega
    have hd0:decide ((n:Int) < 0)=false:=by simp
    have hd1:decide (f.length≤n)=false:=by simpa using hlt
    have hd2:decide ((a:Int) < 0)=false:=by simp
    have hd3:decide (ts.length≤a)=false:=by simpa using hal2
    have HFN:=hiQ hfn;have aEP:=hiQ an9;clear hcells hct hxa hcn axu hfn hbn hux hox ha an9 axt hown hxm;go_upto_region 12 with fail;have iV:=R.out.e0;refine wp_region_held_drew (S:=(fun w' => w'.cell? ⟨w.heap.size,0,none⟩=some (.slice (some ⟨bT,oT,none⟩) ts.length c)∧(w'.cell? ⟨g8,n,none⟩=some (.int .i64 (a:Nat)))∧(aoj w' bT (oT+a*10) x (.slice C1 x.syms.length l1) (.slice C2 x.ah.length l2)))) (by kernel_rfl) ⟨iV,(KN.out.now),(KT.out.now)⟩ (fun hHeld => ?_);clear iV;have Z8:Below wr.heap.size wr (wr.drew):=(Below.refl _ _).drew;obtain ⟨R,Z,P5,P7,CL,NM,O,KT,KN⟩:=b9 R Z P5 P7 CL NM O KT KN Z8;replace hb0:=dT hb0 Z8;clear Z8;generalize wr.drew=vT at *;refine tk 0 ?_;refine tk 1 ?_;refine tk 2 ?_;refine tk 3 ?_;refine tk 4 ?_;refine tk 5 ?_;refine tk 6 ?_;refine tk 7 ?_;refine tk 8 ?_;refine tk 11 ?_;refine iE 9 fun K hK => ?_;go_simp;have hrh:=R.out.here;have hp7:=P7.out.here;((with_reducible refine (arV x _ _ _ (by omega) (Wj.out.on hb0)).mono ?_);rintro e aqg ⟨vu,rfl,hus,adY⟩);obtain ⟨R,Z,P5,P7,CL,NM,O,KT,KN⟩:=b9 R Z P5 P7 CL NM O KT KN adY;replace hb0:=dT hb0 adY;clear adY;obtain ⟨Au,cu,rfl⟩:=jF hus;have US:=hiQ (Kept.own (own_base hus (show gP7+1≤_ by omega)));clear hus hp7;(try clear hHeld);refine hK.out _ _ (⟨R.out.cell 0,⟨(KN.out.now),(KT.out.now)⟩⟩) (fun hHeld => ?_);clear hK K;refine tk 10 ?_;refine wpAnyH_done (by kernel_rfl) ?_ _;(try clear hHeld);clear KT KN;have hH:at6 w aqg bT oT ts.length c i gc cc gP5 gP7 gm (arn ts):=⟨R.out,Z.out,P5.out,P7.out,CL.out.now,hb0⟩
    have hO:=O.out.now;have hN:=NM.out.now;have hU:=US.out.now;go_upto_region 13 with fail;go_loopw [8,64] (fun s8 s64 wr => ∃ (j:Nat) (g:List Nat),s64 = .int .i64 j∧j≤(bn x).length∧ajJ (dR ts) g (((bn x).map fun u => u.2.toNat).drop j)=ajJ (dR ts) f ((bn x).map fun u => u.2.toNat)∧aj1 ts g∧wr.ownsRow (gP7+1) 3 1 s8 g.length (g.map nV)∧O4 wr gm g∧wr.ownsRow (gP7+1) 134 2 (.slice Au (bn x).length cu) (bn x).length (LY (bn x))∧at6 w wr bT oT ts.length c i gc cc gP5 gP7 gm (arn ts)) (fun _ s64 _ => (bn x).length - (intOf s64).toNat)
    case atStart => exact ⟨0,f,rfl,Nat.zero_le _,rfl,aEP.out,hO,hN,hU,hH⟩
    case round =>
     clear R Z P5 P7 CL O NM US hO hN hU hH hb0;obtain ⟨j,g,rfl,hjl,hadd,an9,hown,hnum,hus,hH⟩:=hrel;obtain ⟨A9,c9,rfl⟩:=jF hown;obtain ⟨R,Z,P5,P7,hCL,hb0⟩:=hH;have hgl:=an9.len;replace R:=hiQ R;replace Z:=hiQ Z;replace P5:=hiQ P5;replace P7:=hiQ P7;have CL:=hiQ (Kept.ai9 hCL);have NM:=hiQ (hnum.kept);have O:=hiQ (Kept.own hown);have US:=hiQ (Kept.own hus);clear hnum hCL;by_cases hju:j < (bn x).length
     ·
      obtain ⟨gu,rfl⟩ : ∃ g,Au=some ⟨g,0,none⟩:=by
       exact zGu
      have hux:=HUX.out _ (List.getElem_mem hju);have cu0:=(hus.cellAt (j*2) (by omega)).trans (flat_get ark (bn x) j 0 hju (by omega));have cu1:=(hus.cellAt (j*2+1) (by omega)).trans (flat_get ark (bn x) j 1 hju (by omega));simp only [arl] at cu0 cu1;rw [List.drop_eq_getElem_cons (by simpa using hju),List.getElem_map,ajJ] at hadd;generalize (bn x)[j]=y at *;obtain ⟨yi,yt⟩:=y;simp only at hux cu0 cu1 hadd;obtain ⟨u,rfl⟩ : ∃ u:Nat,yt=(u:Int):=⟨yt.toNat,by omega⟩
      simp only [Int.toNat_natCast] at hadd;have Wn:u < ts.length:=by omega
      simp only [List.getElem?_cons_zero,List.getElem?_cons_succ] at cu0 cu1;have hi1:(j:Int) < (bn x).length:=by omega
      have hd0:decide ((j:Int) < 0)=false:=by simp
      have hd1:decide ((bn x).length≤j)=false:=by simpa using hju
      have hcq:dR ts u≤32:=by have:=aqA FI.out Wn;omega
      have hra:=an9.add1 FI.out Wn;have hcc:=(CL.out.now.cellAt u (by omega)).trans (at1 ts u Wn);obtain ⟨q,hq⟩ : ∃ q,q=dR ts u:=⟨_,rfl⟩
      rw [← hq] at hadd hcq hra hcc;have axv:=hiQ hadd;have HRA:=hiQ hra;have KC:=hiQ (Af hcc);clear hq hadd hra an9 hus hown hux hcc;go_upto_region 15 with fail;refine aO (fun E5 Fz U => ?_);have ah4:=R.out.here;have Zo:=Z.out.here;have ahK:=P5.out.here;have alU:=P7.out.here;have alV:=CL.out.le;have alW:=NM.out.le;have alX:=O.out.le;have alY:=US.out.le;have alZ:=KC.out.le;have aGX:=hb0.size;obtain ⟨R,Z,P5,P7,CL,NM,O,US,KC⟩:=b9 R Z P5 P7 CL NM O US KC Fz;replace hb0:=dT hb0 Fz;clear Fz;generalize wr.heap.size=g40 at *;clear cu0 cu1 hd1 hi1;have hd2:decide ((u:Int) < 0)=false:=by simp
      have hd3:decide (ts.length≤u)=false:=by simpa using Wn
      have hcc:=KC.out.now;have asv:=P5.out.e0;have aEQ:=U.out.e1;go_upto_region 16 with fail;clear asv aEQ hcc hd2 hd3 hd0 KC U;have hlook:=NM.out.now.look q (by omega);by_cases hm:q ∈ g
      ·
       rw [if_pos hm,decide_eq_true hm] at hlook;rw [if_pos hm] at axv HRA;clear hm;generalize g.idxOf q=iq at hlook;have asu:=P7.out.e0;go_wp2_with fail;clear hlook asu;go_roundw
       case rel => exact ⟨j+1,g,by go_num,by omega,axv.out,HRA.out,O.out.now,NM.out.now,US.out.now,R.out,Z.out,P5.out,P7.out,CL.out.now,hb0⟩
       case measure => simp [intOf];omega
      rw [if_neg hm,decide_eq_false hm] at hlook;rw [if_neg hm] at axv HRA;have asu:=P7.out.e0;go_upto_region 18 with fail;clear hlook;have aBZ:=NM.out.le;go_upto_region 19 with (refine aq8 rfl _ _ _ (.inl rfl) gm g rfl NM.out.now (by omega) q rfl rfl (by omega) hm ?_;intro w3 asw hg3)
      clear asu;have hbm:=Ef hg3 (Nat.le_of_lt aBZ) (fun k hk => by cases hk;exact Nat.le_refl _);have hO2:=qo O.out.now (fun k hk => hg3.block k (O.out.now.lt k hk).2 (fun e => by have h1:=(O.out.now.lt k hk).1;injection e with e;omega));have hU2:=qo US.out.now (fun k hk => hg3.block k (US.out.now.lt k hk).2 (fun e => by have h1:=(US.out.now.lt k hk).1;injection e with e;omega));have hkk:∀ q,q < E5.heap.size→some gm≠some q→w3.heap[q]?=E5.heap[q]?:=fun q hq hne => hg3.block q hq (fun e => hne e.symm);have hvv:∀ q,some gm=some q→q=gm:=fun q h => by injection h with h;exact h.symm
      have hp7:=P7.out.here;have hsz:=hg3.size;clear O US NM;replace R:=dG R hkk (fun hh => by have:=hvv _ hh;omega);replace Z:=dG Z hkk (fun hh => by have:=hvv _ hh;omega);replace P5:=dG P5 hkk (fun hh => by have:=hvv _ hh;omega);replace P7:=dG P7 hkk (fun hh => by have:=hvv _ hh;omega);replace CL:=hiQ (CL.out.iJ hbm (show gc+1≤gm by omega));replace hb0:=hb0.trans (hbm.mono (show w.heap.size≤gm by omega));have NM:=hiQ (asw.kept);have O:=hiQ (Kept.own hO2);have US:=hiQ (Kept.own hU2);clear asw hg3 hkk hvv hbm aBZ hO2 hU2;have hbase:gP7+1≤w3.heap.size:=P7.out.here;go_upto_region 20 with (at_builtin;refine fA rfl _ _ _ rfl (gP7+1) 3 _ 1 8 Tryz.underlying39 oP rfl (by decide) _ g.length _ rfl O.out.now [.int .i64 (q:Nat)] _ 1 _ rfl rfl rfl (by simp [Value.oneCell']) (by omega) (by omega) hbase ?_;intro g2 cap w4 hown4 hg4 hgat hb4)
      have hU4:=qo US.out.now (w':=w4) (fun k hk => (hg4.block k (by have:=(US.out.now.lt k hk).2;simp;omega) (fun e => akR US.out.now O.out.now (by decide) hk e.symm)).trans ((jY (Below.refl w3.heap.size w3) (Nat.le_refl _) _).block k (US.out.now.lt k hk).2));clear hg4 hgat hbase O US;replace R:=hiQ (R.out.below hb4 (show w.heap.size < gP7+1 by omega));replace Z:=hiQ (Z.out.below hb4 (show w.heap.size+1 < gP7+1 by omega));replace P5:=hiQ (P5.out.below hb4 (show gP5 < gP7+1 by omega));replace P7:=hiQ (P7.out.below hb4 (show gP7 < gP7+1 by omega));replace CL:=hiQ (CL.out.iJ hb4 (show gc+1≤gP7+1 by omega));replace NM:=hiQ (NM.out.iJ hb4 (show gm+1≤gP7+1 by omega));replace hb0:=hb0.trans (hb4.mono (show w.heap.size≤gP7+1 by omega));have O:=hiQ (Kept.own hown4);have US:=hiQ (Kept.own hU4);clear hown4 hU4;go_wp2_with fail;go_roundw
      case rel => exact ⟨j+1,g ++ [q],by go_num,by omega,axv.out,HRA.out,by rw [List.length_append,List.map_append];exact O.out.now,NM.out.now,US.out.now,R.out,Z.out,P5.out,P7.out,CL.out.now,hb0⟩
      case measure => simp [intOf];omega
     obtain rfl:j=(bn x).length:=by omega
     rw [List.drop_eq_nil_of_le (by simp),ajJ] at hadd;have hgf:f.length≤g.length:=by
      obtain ⟨r,hr⟩:=aok (dR ts) ((bn x).map fun u => u.2.toNat) f;rw [hadd,hr];simp
     have hbf:=HBN.out;rw [← hadd] at hbf;have HBF:=hiQ hbf;have HRE:=hiQ an9;clear hadd an9 hbf hown hus US;go_wp2_with fail;go_roundw
     case rel => exact ⟨n+1,k,g,by go_num,by omega,HBF.out.symm,by omega,HRE.out,O.out.now,NM.out.now,R.out,Z.out,P5.out,P7.out,CL.out.now,hb0⟩
     case measure => simp [intOf];omega
   obtain rfl:n=f.length:=by omega
   rw [aBt (Nat.le_refl _)] at axt;subst axt;obtain ⟨hre,-,hcls⟩:=akS FI.out hil;have aER:=hiQ hcls;have HRE:=hiQ hre;have azL:(jk ts i).length=(Ht ts i).length:=aoS ts i;have aES:=hiQ (aq9 ts i);have azM:∀ u,ixN ts i u=(Ht ts i).idxOf (dR ts u):=fun u => rfl;have aB0:∀ u,ixN ts i u≤1000:=fun u => by rw [azM];have:=List.idxOf_le_length (a:=dR ts u) (l:=Ht ts i);omega
   have HIX:=hiQ azM;have HIB:=hiQ aB0;generalize Ht ts i=f at *;generalize ixN ts i=ix at *;clear an9 hre hcls hown azM aB0;go_upto_region 22 with fail;refine aO (fun vT Z8 OUT => ?_);have RN:=R.out.here;have Vb:=Z.out.here;have ah2:=P5.out.here;have ah3:=P7.out.here;have ah4:=CL.out.le;have Zo:=NM.out.le;have ahK:=O.out.le;have alU:=hb0.size;obtain ⟨R,Z,P5,P7,CL,NM,O⟩:=b7 R Z P5 P7 CL NM O Z8;replace hb0:=dT hb0 Z8;clear Z8;generalize wr.heap.size=g36 at *;obtain ⟨gO,rfl⟩ : ∃ g,g=g36:=⟨_,rfl⟩
   have hOT:=LX.nil vT (gO+1) vT.heap.size;have hH:at6 w vT bT oT ts.length c i gc cc gP5 gP7 gm (arn ts):=⟨R.out,Z.out,P5.out,P7.out,CL.out.now,hb0⟩
   have hO:=O.out;have hN:=NM.out.now;have hOU:=OUT.out;go_upto_region 23 with fail;go_loopw [92] (fun s92 wr => ∃ (k:Nat) (A:Option Addr) (c2:Nat),s92 = .int .i64 k∧k≤f.length∧Has wr gO 27 #[.slice A k c2,.int .i64 0]∧LX wr (gO+1) wr.heap.size (.slice A k c2) ((jk ts i).take k)∧Kept (fun w => w.ownsRow (gP7+1) 3 1 (.slice A8 f.length c8) f.length (f.map nV)) wr (gP7+1) gO∧O4 wr gm f∧at6 w wr bT oT ts.length c i gc cc gP5 gP7 gm (arn ts)) (fun s92 _ => f.length - (intOf s92).toNat)
   case atStart => exact ⟨0,none,0,rfl,Nat.zero_le _,hOU,hOT,hO,hN,hH⟩
   case round =>
    clear R Z P5 P7 CL O NM OUT hO hN hOU hH hb0 hOT;obtain ⟨k,Ak,ck,rfl,hkl,OUT,hOT,hO,hnum,hH⟩:=hrel;obtain ⟨R,Z,P5,P7,hCL,hb0⟩:=hH;replace R:=hiQ R;replace Z:=hiQ Z;replace P5:=hiQ P5;replace P7:=hiQ P7;have CL:=hiQ (Kept.ai9 hCL);have NM:=hiQ (hnum.kept);replace OUT:=hiQ OUT;have O:=hiQ (hO);have OT:=hiQ (hOT.kept (Nat.le_refl _));clear hnum hCL hO hOT;by_cases hlt:k < f.length
    ·
     have hfk:f[k]?=some f[k]:=List.getElem?_eq_getElem hlt;have hown:=O.out.now;obtain ⟨g8,rfl⟩ : ∃ g,A8=some ⟨g,0,none⟩:=by
      exact zCx
     have hcn:=(hown.cellAt k (by omega)).trans (by rw [List.getElem?_map,hfk];rfl:(f.map nV)[k]?=some (nV f[k]));have hfm:f[k] ∈ f:=List.getElem_mem hlt;have hal:=(HRE.out.lt _ hfm).1;have hget:=aES.out k _ hfk;have hcls:=aER.out _ hfm;generalize f[k]=a at *;obtain ⟨vs,vm,hcells,hxa⟩:=Ez.out a hal;have hxm:ts[a] ∈ ts:=List.getElem_mem hal;have hmx:=HGM.out _ hxm;have hsx:=HGS.out _ hxm;have hux:=HGI.out _ hxm;have hox:og ts a=outs ts[a]:=by unfold og;rw [List.getElem?_eq_getElem hal]
     rw [hox] at hcls;rw [List.getD_eq_getElem?_getD,List.getElem?_eq_getElem hal,Option.getD_some] at hget;have hal2:=hal;generalize ts[a]=x at *;obtain ⟨C1,l1,C2,l2,rfl,rfl,-,-⟩:=hxa.forms;have hct:NI wr bT (oT+a*10) x (.slice C1 x.syms.length l1) (.slice C2 x.ah.length l2):=by
      exact zDn
     have KT:=hiQ (arX hct (by have:=hb0.size;omega));have axu:wr.cell? ⟨g8,k,none⟩=some (.int .i64 (a:Nat)):=hcn;clear hcn;have Wj:=hiQ hxa;have wO:=hiQ (azK hget);have HUX:=hiQ (fun u hu => (hux u hu).1);have aua:∀ u ∈ outs x,dR ts u ∈ f∧u < ts.length:=fun u hu => ⟨hcls u hu,by obtain ⟨y,hy,rfl⟩:=List.mem_map.1 hu;have:=hux y hy;omega⟩
     have aET:=hiQ aua;obtain ⟨y,hy⟩ : ∃ y,y=Aq k ix x:=⟨_,rfl⟩
     rw [← hy] at wO;have Gz:=hiQ hy;have hi1:(k:Int) < f.length:=by omega
     have hd0:decide ((k:Int) < 0)=false:=by simp
     have hd1:decide (f.length≤k)=false:=by simpa using hlt
     have hd2:decide ((a:Int) < 0)=false:=by simp
     have hd3:decide (ts.length≤a)=false:=by simpa using hal2
     have htl:((jk ts i).take k).length=k:=by rw [List.length_take];omega
     have HTL:=hiQ htl;clear hcells hct hxa hown hfk hfm hal hget hcls aua hux hox hxm hy htl;go_upto_region 25 with fail;clear axu;have iV:=R.out.e0;have ara:=OUT.out.e0;refine l9 (S:=(fun w' => w'.cell? ⟨w.heap.size,0,none⟩=some (.slice (some ⟨bT,oT,none⟩) ts.length c)∧w'.cell? ⟨gO,0,none⟩=some (.slice Ak k ck)∧(aoj w' bT (oT+a*10) x (.slice C1 x.syms.length l1) (.slice C2 x.ah.length l2)))) (fun j => j == 16) (by kernel_rfl) ⟨iV,ara,(KT.out.now)⟩ (fun hHeld => ?_);clear iV ara;have axw:Below wr.heap.size wr (wr.drew):=(Below.refl _ _).drew;obtain ⟨R,Z,P5,P7,OUT,CL,NM,O,OT⟩:=b9 R Z P5 P7 OUT CL NM O OT axw;replace KT:=b1 KT axw;replace hb0:=dT hb0 axw;clear axw;generalize wr.drew=azN at *;refine eH 0 ?_;refine eH 1 ?_;refine eH 2 ?_;refine eH 3 ?_;refine eH 4 ?_;refine eH 5 ?_;refine eH 6 ?_;refine eH 7 ?_;refine eH 8 ?_;refine eH 9 ?_;refine eH 10 ?_;refine gJ 11 fun K hK => ?_;go_simp;obtain ⟨z6,Dn⟩ : ∃ z,z=(azN).heap.size:=⟨_,rfl⟩
     have hz6:=OUT.out.here;have hzB:=OT.out.le;rw [← Dn] at hz6 hzB;have hC:∀ u ∈ outs x,∀ W',Below azN.heap.size azN W'→Calls Tryz.prog 77 #[.int .i64 (u:Nat),.pointer (some ⟨gP7,0,none⟩),.pointer (some ⟨gP5,0,none⟩)] W' fun e w' => e = .returned (.int .i64 (ix u:Nat))∧Below W'.heap.size W' w':=fun u hu W' hb => by
      obtain ⟨hm,Wn⟩:=aET.out u hu;have h:=axq f (dR ts) ts.length gP5 gP7 gm (w.heap.size+2) (some ⟨gc,0,none⟩) cc u Wn (by have:=(HRE.out.lt _ hm).1;omega) W' (P7.out.below hb P7.out.here) (P5.out.below hb P5.out.here) (NM.out.on hb).now (CL.out.on hb).now;rw [if_pos hm,← HIX.out u] at h;exact h
     ((with_reducible refine (aww k (by omega) x _ _ ix HIB.out _ _ _ (Wj.out.on hb0) (by omega) hmx (HP.out.on hb0) HUX.out hC).mono ?_);rintro e ah6 ⟨v5,v6,rfl,htp,hb48,-⟩);obtain ⟨R,Z,P5,P7,OUT,CL,NM,O,OT⟩:=b9 R Z P5 P7 OUT CL NM O OT hb48;replace KT:=b1 KT hb48;replace hb0:=dT hb0 hb48;clear hb48;rw [← Gz.out] at htp ⊢;obtain ⟨A5,c5,A6,c6,rfl,rfl⟩:=htp.forms;obtain ⟨z7,Fb⟩ : ∃ z,z=(ah6).heap.size:=⟨_,rfl⟩
     rw [← Dn,← Fb] at htp;have HY:=hiQ (ayf htp (Nat.le_of_eq Fb));have hz7:=HY.out.le;clear htp hC Dn;(try clear hHeld);refine hK.out _ _ zAl (fun hHeld => ?_);clear hK K;refine gJ 12 fun K hK => ?_;go_simp;refine aO (fun al0 adM N => ?_);have amc:=R.out.here;have aia:=Z.out.here;have aib:=P5.out.here;have aic:=P7.out.here;have aie:=OUT.out.here;have aif:=CL.out.le;have aii:=NM.out.le;have al8:=O.out.le;have Zv:=OT.out.le;have apo:=KT.out.le;have aqG:=HY.out.le;have hl63:=hb0.size;obtain ⟨R,Z,P5,P7,OUT,CL,NM,O,OT⟩:=b9 R Z P5 P7 OUT CL NM O OT adM;obtain ⟨KT,HY⟩:=b2 KT HY adM;replace hb0:=dT hb0 adM;clear adM;generalize ah6.heap.size=g51 at *;(try clear hHeld);refine hK.out _ _ zAl (fun hHeld => ?_);clear hK K;refine gJ 13 fun K hK => ?_;have hNh:=N.out.here;obtain ⟨cs,hown,happ⟩:=OT.out.now.row;rw [HTL.out] at hown happ;obtain ⟨i0,hi,hz0,hz1,hz2⟩:=info_parts auu;refine step_append_lies (P:=Tryz.prog) al0 (by rfl) _ _ _ (by rfl) (gO+1) 71 i0 _ 10 120 Tryz.underlying23 hi hz0 hz1 hz2 rfl (by decide) (.slice Ak k ck) k _ rfl hown ⟨g51,0,none⟩ 1 1 (Pq y (.slice A5 y.syms.length c5) (.slice A6 y.ah.length c6)) rfl rfl (World.news_of_block N.out) (by simp [Pq,Value.oneCell']) (by omega) (by simp only [maxLen];omega) (by omega) (by omega) al0.heap.size rfl ?_;intro g cap w1 hown1 hgr hat hgl;have hv5:∀ b,(Value.slice Ak k ck).ownBlock=some b→b < z6:=fun b hb => by
      obtain ⟨_,_,h0,_⟩:=OT.out.now;have:=h0 b hb;omega
     have hy1:alC al0 (fun b => gO+1≤b∧b < w1.heap.size∧b < al0.heap.size∧(Value.slice Ak k ck).ownBlock≠some b∧(Value.slice (some ⟨g,0,none⟩) (k+1) cap).ownBlock≠some b) y (.slice A5 y.syms.length c5) (.slice A6 y.ah.length c6):=HY.out.now.keep (fun _ _ => rfl) fun b hb => by
      have h1:=hgr.size;have h2:=hz7;have h3:=HY.out.le;refine ⟨by omega,by omega,by omega,fun e => by have:=hv5 b e;omega,fun e => ?_⟩;simp only [Value.ownBlock,Option.some.injEq] at e;rcases hat with h4 | h4
      · have:=hv5 g h4;omega
      omega
     have hT1:=happ w1 (.slice (some ⟨g,0,none⟩) (k+1) cap) y _ _ w1.heap.size hgr hown1 (fun b hb => by
      simp only [Value.ownBlock,Option.some.injEq] at hb;rcases hat with h4 | h4
      · exact .inl (hb ▸ h4)
      exact .inr (by have:=OT.out.le;omega)) OT.out.le (fun b hb => by simp only [Value.ownBlock,Option.some.injEq] at hb;omega) (Nat.le_trans OT.out.le hgr.size) hy1
     rw [← wO.out] at hT1;have hb4:Below (gO+1) al0 w1:=(Below.refl _ al0).grown hgr (by omega) (fun q hq => (hown.lt q hq).1);clear hv5 hy1 hown happ hown1 hgr hat hgl OT N HY;replace R:=hiQ (R.out.below hb4 (show w.heap.size < gO+1 by omega));replace Z:=hiQ (Z.out.below hb4 (show w.heap.size+1 < gO+1 by omega));replace P5:=hiQ (P5.out.below hb4 (show gP5 < gO+1 by omega));replace P7:=hiQ (P7.out.below hb4 (show gP7 < gO+1 by omega));replace OUT:=hiQ (OUT.out.below hb4 (show gO < gO+1 by omega));replace CL:=hiQ (CL.out.iJ hb4 (show gc+1≤gO+1 by omega));replace NM:=hiQ (NM.out.iJ hb4 (show gm+1≤gO+1 by omega));replace O:=hiQ (O.out.iJ hb4 (show gO≤gO+1 by omega));replace KT:=hiQ (KT.out.iJ hb4 (show bT+1≤gO+1 by omega));replace hb0:=hb0.trans (hb4.mono (show w.heap.size≤gO+1 by omega));have OT:=hiQ (hT1.kept (Nat.le_refl _));clear hT1 hb4;(try clear hHeld);refine hK.out _ _ zAl (fun hHeld => ?_);clear hK K;refine gJ 14 fun K hK => ?_;go_simp;(try clear hHeld);refine hK.out _ _ zAl (fun hHeld => ?_);clear hK K;refine eH 15 ?_;refine pG 16 fun K hK => ?_;have ara:=OUT.out.e0;have aB2:=OUT.out.free 0;go_simp;clear ara aB2;generalize axx:w1.setCell _ _=ama;obtain ⟨R,Z,P5,P7,CL,NM,O,KT,OT⟩:=f9 R Z P5 P7 CL NM O KT OT (eF axx);replace OUT:=xR OUT axx;replace hb0:=tf hb0 axx;clear axx;(try clear hHeld);refine hK.out _ _ ?_;clear hK K;refine akJ (by kernel_rfl) ?_ _;(try clear hHeld);clear KT;go_wp2_with fail;go_roundw
     case rel => exact ⟨k+1,some ⟨g,0,none⟩,cap,by go_num,by omega,OUT.out,OT.out.now.mono OT.out.le,O.out,NM.out.now,R.out,Z.out,P5.out,P7.out,CL.out.now,hb0⟩
     case measure => simp [intOf];omega
    obtain rfl:k=f.length:=by omega
    have hT1:=OT.out.now.rd OT.out.le;rw [List.take_of_length_le (by omega),← azL] at hT1;obtain ⟨ara,aB3⟩:=OUT.out.c2;go_wp2_with (refine sR Z.out ?_)
    clear ara aB3;generalize WO:wr.setRow _ _=ah5;obtain ⟨R,P5,P7,OUT,CL,NM,O,OT⟩:=f8 R P5 P7 OUT CL NM O OT (eR WO);replace Z:=dV Z WO;replace hb0:=tr hb0 WO;clear WO;have hT2:=OT.out.now.rd OT.out.le;rw [List.take_of_length_le (by omega),← azL] at hT2;have hfin:=Xb.out _ Ak ck hb0 hT2;rw [azL] at hfin;clear hT1 hT2;exact bodyPost_ret (v:=.tuple #[.agg #[.slice Ak f.length ck,.int .i64 0],.int .i64 0]) (by simp [results,Tryz.results44,go_sem,Z.out.c2]) rfl (hfin)
 have t1:(gV ts t == 0)=false:=by simpa using h1
 have HR:=hiQ h1;clear ht hp hs h1;go_enter Tryz.func44,Tryz.ntmps44
 go_upto_region 1 with fail;refine jg (fun wd2 hb1 R Z => ?_);have hw3:=hb1;clear hb1;obtain ⟨iV,iW⟩:=R.out.c2;go_wp2_with fail;clear iV iW;((with_reducible refine (H1.out _ (HT.out.on hw3)).mono ?_);rintro e wd4 ⟨rfl,hb5⟩);obtain ⟨R,Z⟩:=b2 R Z hb5;replace hw3:=dT hw3 hb5;clear hb5;have Xb:Hid (∀ W,Below w.heap.size w W→at7 ts t w (.returned (.tuple #[.agg #[.slice none 0 0,.int .i64 0],.int .i64 (gV ts t)])) W):=fun W h => ⟨h,.inl ⟨HR.out,rfl⟩⟩
 generalize gV ts t=r1 at *;go_wp2_with (refine sR Z.out ?_)
 generalize mP:wd4.setRow _ _=wL;replace R:=f1 R (eR mP);replace Z:=dV Z mP;replace hw3:=tr hw3 mP;clear mP;exact bodyPost_ret (v:=.tuple #[.agg #[.slice none 0 0,.int .i64 0],.int .i64 r1]) (by simp [results,Tryz.results44,go_sem,Z.out.c2]) rfl (Xb.out _ hw3)
end Go.Proofs.YtlamhkffnlgofaaGreatDoor
