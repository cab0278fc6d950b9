/- What Payload of sheaveref09 computes for records. No condition. -/
import Derived.Test.YtkaedmpppnnamaaGreatDoorHAJ
set_option maxHeartbeats 3200000
set_option maxRecDepth 100000
namespace Go.Proofs.YtkaedmpppnnamaaGreatDoor
open ChangeShapes WideShapes ChangeAt RowKit
theorem QK {w w':World} {B b o:Nat} {m:Mem} {vk vi vr:Value} (h:EU w b o m vk vi vr) (hb:Below B w w') (hlt:b < B):EU w' b o m vk vi vr:=by
 obtain ⟨h0,h1,h2,h3,h4,h5,h6,h7,h8,h9,h10,h11,h12⟩:=h;exact ⟨(hb.cell hlt).trans h0,(hb.cell hlt).trans h1,(hb.cell hlt).trans h2,(hb.cell hlt).trans h3,(hb.cell hlt).trans h4,(hb.cell hlt).trans h5,(hb.cell hlt).trans h6,(hb.cell hlt).trans h7,(hb.cell hlt).trans h8,(hb.cell hlt).trans h9,(hb.cell hlt).trans h10,(hb.cell hlt).trans h11,(hb.cell hlt).trans h12⟩
def ND (x:ay) (items:List Val) (ps:List (List UInt8)) (id:Nat):List kP:=match dN x id with
 | some i => (match x.ah[i]? with
  | some m => if m.eG && iK (items.getD i jm) m.dflt then [] else [⟨id,m.akb,ps.getD i []⟩]
  | none => [])
 | none => []
def vC (id:Nat) (l:List Raw):List UInt8:=((l.filter (fun r => r.1 == (id:Int))).map (fun r => (⟨id,false,r.2⟩ : kP))).flatMap gW
def oR (x:ay) (items:List Val) (ps:List (List UInt8)) (rest:List Raw) (id:Nat):List UInt8:=(Dz x items ps rest (id - 1)).flatMap gW
theorem TS (id:Nat) (a b:List Raw):vC id (a ++ b)=vC id a ++ vC id b:=by unfold vC;rw [List.filter_append,Qw,QG]
theorem Zy (id:Nat) (l:List Raw) (k:Nat):(vC id (l.take k)).length<=(vC id l).length:=by
 have h:vC id l=vC id (l.take k) ++ vC id (l.drop k):=by rw [<- TS,List.take_append_drop]
 rw [h,h_];omega
theorem Zz (id:Nat) (l:List Raw) (k:Nat) (h:k < l.length):vC id (l.take (k+1))=vC id (l.take k) ++ if l[k].1=(id:Int) then gW ⟨id,false,l[k].2⟩ else []:=by
 rw [vK h,TS]
 congr 1
 unfold vC;by_cases he:l[k].1=(id:Int)
 . rw [o_ he,Vk,o_ (by simp [he])];simp
 rw [gB he,Vk,gB (by simpa using he)];simp
theorem Yz (x:ay) (items:List Val) (ps:List (List UInt8)) (rest:List Raw) (id:Nat) (h:1<=id):oR x items ps rest (id+1)=oR x items ps rest id ++ (ND x items ps id).flatMap gW ++ vC id rest:=by
 unfold oR Dz;rw [show id+1 - 1=(id - 1)+1 by omega,List.range'_1_concat,QG,QG];rw [show 1+(id - 1)=id by omega];simp only [B_,List.flatMap_nil,Vs,List.append_assoc]
 congr 1
 unfold zF vC;rw [QG]
 rfl
theorem afZ (x:ay) (items:List Val) (ps:List (List UInt8)) (rest:List Raw):∀ (d id:Nat),1<=id->(oR x items ps rest id).length<=(oR x items ps rest (id+d)).length
 | 0,id,_ => b_ _
 | d+1,id,h => by
  have:=afZ x items ps rest d id h;rw [show id+(d+1)=(id+d)+1 by omega,Yz x items ps rest (id+d) (by omega),h_,h_];omega
theorem amn {ts:List ay} {v:Val} {n:Int} {x:ay} (hx:bM ts n=some x) (hk:x.kind=5):fE ts v n=oR x v.items (uw ts v.items x.ah) v.rest 1001:=by
 rw [tu ts v n x hx];simp [Ce,hk,oR]
theorem ZA {ts:List ay} {v:Val} {x:ay} {id i:Nat} (hm:dN x (id:Int)=some i) (h:i < x.ah.length) (h2:i < v.items.length) :
  ND x v.items (uw ts v.items x.ah) id=if x.ah[i].eG && iK v.items[i] x.ah[i].dflt then [] else [⟨id,x.ah[i].akb,fE ts v.items[i] x.ah[i].ty⟩]:=by
 unfold ND;rw [hm];simp only [m_ h,NG ts v.items x.ah i h2 h];rw [show v.items.getD i jm=v.items[i] by rw [Oa,m_ h2];rfl]
theorem ZB {x:ay} {items:List Val} {ps:List (List UInt8)} {id:Nat} (hm:dN x (id:Int)=none):ND x items ps id = []:=by unfold ND;rw [hm]
theorem zAl {p:Prop} (h:p:=by exact ⟨S.out.cell 0,⟨M.out.cell 2,⟨M.out.cell 3,⟨I.out.cell 6,(fun b o hlt => hbr.cell (p:=⟨b,o,none⟩) hlt)⟩⟩⟩⟩):p:=h
theorem zDg {p:Prop} (h:p:=by
 obtain ⟨lp,Aj⟩ : ∃ q,Hid (q=gW ⟨id,mc,l⟩):=⟨_,hiQ rfl⟩
 rw [<- Aj.out];have hpz:lp.length<=140737488355348:=by rw [Aj.out];unfold gW jK;have h1:=qw 9 l.length;have h2:=qw 9 (2*id+if mc then 1 else 0);rw [h_,h_];simp only at *;omega
 (try clear hHeld);refine hK.out _ _ zAl (fun hHeld => ?_);clear hK K;have Ic:¬ 9223372036854775807 < ok.length+lp.length:=by omega
 refine tk 14 ?_;refine tk 15 ?_;refine Dl (by kernel_rfl) ?_ _;(try clear hHeld);clear y0 y1 y2 y3 y4 y5 y6 y7 Ic;go_wp2_with fail;go_meet
 exact ⟨by rw [qO,Aj.out,HBE.out],S.out,I.out,X.out,hbr⟩):p:=h
theorem zFi {p:Prop} (h:p:=by
 have h1:=aiE;rw [hbe,h_] at h1;have h2:(fE ts y mt).length<=(gW ⟨id,mc,fE ts y mt⟩).length:=by unfold gW jK;rw [h_,h_];simp only;omega
 omega):p:=h
theorem abE
 (ts:List ay) (A:Option Addr) (c n:Nat) (v:Val) (A1 A2 A3:Option Addr) (n1 n2 n3:Nat) (w:World) (hn:n < ts.length) (hk:ts[n].kind=5) (hkv:v.kind=5)
 (ht:aU w w.heap.size (.slice A ts.length c) ts) (hv:ValAt w w.heap.size v (.slice A1 v.keys.length n1) (.slice A2 v.items.length n2) (.slice A3 v.rest.length n3)) (hz:(fE ts v n).length<=140737488355328) (hf:cO ts false v n=true) (hU:NH ts (.slice A ts.length c) (v.keys ++ v.items)) :
 Calls Tryz.prog 25 #[.agg #[.slice A ts.length c],.int .i64 n,aS v (.slice A1 v.keys.length n1) (.slice A2 v.items.length n2) (.slice A3 v.rest.length n3)] w (RT w (.string ⟨(fE ts v n).toArray⟩)):=by
 obtain ⟨b,o,rfl,hbb,hel⟩:=ht.elem (by omega);obtain ⟨vs,vm,hcells,hx⟩:=hel n hn;clear hel;have hxt:bM ts n=some ts[n]:=by unfold bM;rw [o_ (by omega)];simp [hn]
 have HE:=hiQ (tu ts v n ts[n] hxt);have HF:=hiQ (RZ hxt hf hk);have Gw:=hiQ (amn (v:=v) hxt hk);have Dq:=hiQ hU;clear hf hU;generalize ts[n]=x at *;obtain ⟨C1,l1,C2,l2,rfl,rfl,-,-⟩:=hx.forms;have hlt:(n:Int) < ts.length:=by omega
 have hd0:decide ((n:Int) < 0)=false:=by simp
 have hd1:decide (ts.length<=n)=false:=by simpa using hn
 have HX:=hiQ hx;have HT:=hiQ ht;have HV:=hiQ hv;have HC:=hiQ hcells;have mY:=hiQ hk;have HZ:=hiQ hz;have hxs:=hx.lens;have hvl:=hv.lens;have J3:=hv.ints;simp only [aS,hkv];clear hx ht hcells hn hv hxt hkv hz;go_enter Tryz.func25,Tryz.ntmps25
 go_upto_region 1 with fail;refine jg (fun wd2 hb1 S I => ?_);have hw3:=hb1;clear hb1;obtain ⟨c0,c1,c2,c3,c4,c5,c6,c7,c8,c9⟩:=HC.out.below (hw3) (by omega);rw [hk] at c0;have aH:=S.out.e0;obtain ⟨iF,iG,iH,iI,bT,gU,dH,bV⟩:=I.out.c8;go_upto_region 2 with fail;clear c0 c1 c2 c3 c4 c5 c6 c7 c8 c9 hd0 hd1 aH iF iG iH iI bT gU dH bV;refine aO (fun fG hb4 X => ?_);have nI:=S.out.here;have mO:=I.out.here;have kH:=hw3.size;obtain ⟨S,I⟩:=b2 S I hb4;replace hw3:=dT hw3 hb4;clear hb4;generalize wd2.heap.size=g6 at *;obtain ⟨gX,rfl⟩ : ∃ g,g=g6:=⟨_,rfl⟩
 have zD:w.heap.size+1 < gX:=by omega
 obtain ⟨iF,iG,iH,iI,bT,gU,dH,bV⟩:=I.out.c8;obtain ⟨aK,bJ,bY,bZ,dL,eX,bU,dD,dM,dU⟩:=X.out.c10;obtain ⟨ps,HPS⟩ : ∃ ps,Hid (ps=uw ts v.items x.ah):=⟨_,hiQ rfl⟩
 rw [<- HPS.out] at Gw;have HM1:=hiQ (fun (id i:Nat) => ZA (ts:=ts) (v:=v) (x:=x) (id:=id) (i:=i));rw [<- HPS.out] at HM1;have HI0:Hid (vZ w gX #[.slice (some ⟨b,o,none⟩) ts.length c] #[.int .i64 5,.bool v.bool,.int .i64 v.num,.string ⟨v.str.toArray⟩,.int .i64 v.id,.slice A1 v.keys.length n1,.slice A2 v.items.length n2,.slice A3 v.rest.length n3] #[.int .i64 5,.string ⟨x.name.toArray⟩,.int .i64 x.low,.int .i64 x.high,.int .i64 x.max,.slice C1 x.syms.length l1,.slice C2 x.ah.length l2,.int .i64 x.key,.int .i64 x.elem,.bool x.opn] fG):=hiQ ⟨S.out,I.out,X.out,hw3⟩;clear HPS;go_upto_region 38 with fail;clear S I X hw3;go_loopw [14,15] (fun so si wr => ∃ id:Nat,1<=id/\id<=1001/\so = .string ⟨(oR x v.items ps v.rest id).toArray⟩/\si = .int .i64 id/\vZ w gX #[.slice (some ⟨b,o,none⟩) ts.length c] #[.int .i64 5,.bool v.bool,.int .i64 v.num,.string ⟨v.str.toArray⟩,.int .i64 v.id,.slice A1 v.keys.length n1,.slice A2 v.items.length n2,.slice A3 v.rest.length n3] #[.int .i64 5,.string ⟨x.name.toArray⟩,.int .i64 x.low,.int .i64 x.high,.int .i64 x.max,.slice C1 x.syms.length l1,.slice C2 x.ah.length l2,.int .i64 x.key,.int .i64 x.elem,.bool x.opn] wr) (fun _ si _ => 1001 - (intOf si).toNat)
 case atStart => exact ⟨1,by omega,by omega,rfl,rfl,HI0.out⟩
 case round =>
  clear HI0;obtain ⟨id,DC,apG,rfl,rfl,S,I,X,hbr⟩:=hrel;replace S:=hiQ S;replace I:=hiQ I;replace X:=hiQ X;by_cases hlt:id < 1001
  .
   have BG:(id:Int)<=1000:=by omega
   have hsu:=Yz x v.items ps v.rest id DC;have hol:(oR x v.items ps v.rest (id+1)).length<=140737488355328:=by
    have h1:=afZ x v.items ps v.rest (1001 - (id+1)) (id+1) (by omega);rw [show id+1+(1001 - (id+1))=1001 by omega] at h1;have h2:=HZ.out;rw [Gw.out] at h2;omega
   rw [hsu,h_,h_] at hol;have Cb:=hiQ hsu;clear hsu;have HS:=hiQ (fun W h => xC x (.slice C1 x.syms.length l1) (.slice C2 x.ah.length l2) id W h);simp only [dA,mY.out,xg] at HS;obtain ⟨aK,bJ,bY,bZ,dL,eX,bU,dD,dM,dU⟩:=X.out.c10;go_wp2_with fail;clear aK bJ bY bZ dL eX bU dD dM dU;((with_reducible refine (HS.out _ (HX.out.on hbr)).mono ?_);rintro e kL ⟨rfl,iR⟩);obtain ⟨S,I,X⟩:=b3 S I X iR;replace hbr:=dT hbr iR;clear iR HS;obtain ⟨bs,YA⟩ : ∃ l,Hid (l=oR x v.items ps v.rest id ++ (ND x v.items ps id).flatMap gW):=⟨_,hiQ rfl⟩
   have hbl:bs.length+(vC id v.rest).length<=140737488355328:=by rw [YA.out,h_];exact hol
   go_upto_if 167 with fail
   go_cut [14,16,17,18] from 161 to 202 (fun s14 s16 s17 s18 wx => s14 = .string ⟨bs.toArray⟩/\vZ w gX #[.slice (some ⟨b,o,none⟩) ts.length c] #[.int .i64 5,.bool v.bool,.int .i64 v.num,.string ⟨v.str.toArray⟩,.int .i64 v.id,.slice A1 v.keys.length n1,.slice A2 v.items.length n2,.slice A3 v.rest.length n3] #[.int .i64 5,.string ⟨x.name.toArray⟩,.int .i64 x.low,.int .i64 x.high,.int .i64 x.max,.slice C1 x.syms.length l1,.slice C2 x.ah.length l2,.int .i64 x.key,.int .i64 x.elem,.bool x.opn] wx)
   case first =>
    have aiE:bs.length<=140737488355328:=by omega
    clear hbl;cases lY:dN x (id:Int) with
    | none =>
     have HR:Hid (bs=oR x v.items ps v.rest id):=by show _=_;rw [YA.out,ZB lY];simp
     simp only [OU];clear lY;go_wp2_with fail;go_meet
     exact ⟨by rw [HR.out],S.out,I.out,X.out,hbr⟩
    | some i =>
     have wQ:=zG x _ i lY;have hlty:i < v.items.length:=by have:=HF.out.1;omega
     have hpt:=HM1.out id i lY wQ hlty;have hfk:=HF.out.2 i hlty wQ;simp only [M_];clear lY;obtain ⟨b2,o2,rfl,Ew,zx⟩:=HX.out.ah.elem (by omega);obtain ⟨mk,mi,mr,hc2,hma⟩:=zx i wQ;obtain ⟨D1,d1,D2,d2,D3,d3,rfl,rfl,rfl,-,-,-⟩:=hma.dflt.forms;have HMD:=hiQ hma.dflt;obtain ⟨m0,m1,m2,m3,m4,m5,m6,m7,m8,m9,m10,m11,m12⟩:=QK hc2 (hbr) Ew;have xO:(i:Int) < v.items.length:=by omega
     have amo:(i:Int) < x.ah.length:=by omega
     have hd0:decide ((i:Int) < 0)=false:=by simp
     have hd1:decide (x.ah.length<=i)=false:=by simpa using wQ
     have hd2:decide (v.items.length<=i)=false:=by simpa using hlty
     clear zx hma hc2;obtain ⟨b1,o1,rfl,Fp,rJ⟩:=HV.out.items.elem (by omega);obtain ⟨yk,yi,yr,hc1,hya⟩:=rJ i hlty;have hmem:v.items[i] ∈ v.keys ++ v.items:=Dp.2 (.inr (jl hlty));have HUx:=hiQ (fun (h:(fE ts (v.items[i]'hlty) (x.ah[i]'wQ).ty).length<=140737488355328) W yk yi yr => Dq.out (v.items[i]'hlty) hmem (x.ah[i]'wQ).ty yk yi yr W hfk h);clear rJ hmem hfk;obtain ⟨E1,k1,E2,k2,E3,k3,rfl,rfl,rfl,-,-,-⟩:=hya.forms;have sG:=hiQ hya;clear hya;obtain ⟨y0,y1,y2,y3,y4,y5,y6,y7⟩:=hc1;have HPT:=hiQ hpt;clear hpt;generalize v.items[i]=y at *;generalize x.ah[i]=mm at *;obtain ⟨mi,mn,mt,mc,mh,mf⟩:=mm;simp only at *;have bU:=X.out.e6;go_upto_region 43 with fail;clear m0 m1 m2 m3 m4 m5 m6 m7 m8 m9 m10 m11 m12 bU;refine aO (fun dQ fV M => ?_);have qA:=S.out.here;have alj:=I.out.here;have sO:=X.out.here;have sW:=hbr.size;obtain ⟨S,I,X⟩:=b3 S I X fV;replace hbr:=dT hbr fV;clear fV;generalize kL.heap.size=g14 at *;cases mh with
     | false =>
      have hbe:bs=oR x v.items ps v.rest id ++ gW ⟨id,mc,fE ts y mt⟩:=by rw [YA.out,HPT.out];simp
      have kK:=M.out.e4;refine t_ (S:=(fun w' => w'.cell? ⟨g14,4,none⟩=some (.bool false)/\(∀ (b o:Nat),b < w.heap.size->w'.cell? ⟨b,o,none⟩=w.cell? ⟨b,o,none⟩))) (by kernel_rfl) ⟨kK,(fun b o hlt => hbr.cell (p:=⟨b,o,none⟩) hlt)⟩ (fun hHeld => ?_);clear kK;have aln:Below dQ.heap.size dQ (dQ.drew):=(g_ _ _).drew;obtain ⟨S,I,X,M⟩:=b4 S I X M aln;replace hbr:=dT hbr aln;clear aln;generalize dQ.drew=yO at *;refine tk 0 ?_;refine tk 1 ?_;refine tk 2 ?_;refine tk 3 ?_;refine tks 4 ?_;simp only [aF];refine tks 5 ?_;simp only [aF];refine tks 6 ?_;simp only [aF];refine tks 7 ?_;simp only [aF];refine tks 8 ?_;simp only [aF];refine tks 9 ?_;simp only [aF];refine tks 10 ?_;simp only [aF];refine tks 11 ?_;simp only [aF];refine tks 12 ?_;simp only [aF];refine tk 13 ?_;refine Dl (by kernel_rfl) ?_ _;(try clear hHeld);have zH:(fE ts y mt).length<=140737488355328/\(oR x v.items ps v.rest id).length<=140737488355328:=by
       exact zFi
      obtain ⟨l,HL⟩ : ∃ l,Hid (l=fE ts y mt):=⟨_,hiQ rfl⟩
      have xZ:=hiQ (HUx.out zH.1);rw [<- HL.out] at xZ zH hbe;obtain ⟨hlz,hoz⟩:=zH;have HBE:=hiQ hbe;clear hbe;generalize oR x v.items ps v.rest id=ok at *;go_upto_region 44 with fail;have aH:=S.out.e0;have je:=M.out.e2;have mQ:=M.out.e3;have dH:=I.out.e6;refine t_ (S:=(fun w' => w'.cell? ⟨w.heap.size,0,none⟩=some (.slice (some ⟨b,o,none⟩) ts.length c)/\w'.cell? ⟨g14,2,none⟩=some (.int .i64 mt)/\w'.cell? ⟨g14,3,none⟩=some (.bool mc)/\w'.cell? ⟨w.heap.size+1,6,none⟩=some (.slice (some ⟨b1,o1,none⟩) v.items.length n2)/\(∀ (b o:Nat),b < w.heap.size->w'.cell? ⟨b,o,none⟩=w.cell? ⟨b,o,none⟩))) (by kernel_rfl) ⟨aH,je,mQ,dH,(fun b o hlt => hbr.cell (p:=⟨b,o,none⟩) hlt)⟩ (fun hHeld => ?_);clear aH je mQ dH;have gq:Below yO.heap.size yO (yO.drew):=(g_ _ _).drew;obtain ⟨S,I,X,M⟩:=b4 S I X M gq;replace hbr:=dT hbr gq;clear gq;generalize yO.drew=lq at *;refine tk 0 ?_;refine tk 1 ?_;refine tk 2 ?_;refine tk 3 ?_;refine tk 4 ?_;refine tk 5 ?_;refine tk 6 ?_;refine tk 7 ?_;refine tk 8 ?_;refine tk 9 ?_;refine tk 10 ?_;refine tk 11 ?_;refine iE 12 fun K hK => ?_;go_simp;((with_reducible refine (xZ.out _ _ _ _ (sG.out.on hbr) (HT.out.on hbr)).mono ?_);rintro e o9 ⟨rfl,vg⟩);obtain ⟨S,I,X,M⟩:=b4 S I X M vg;replace hbr:=dT hbr vg;clear vg;(try clear hHeld);refine hK.out _ _ zAl (fun hHeld => ?_);clear hK K;refine iE 13 fun K hK => ?_;go_simp;((with_reducible refine (EJ ⟨id,mc,l⟩ _ (by show id<=1000;omega) hlz).mono ?_);rintro e pF ⟨rfl,AB⟩);obtain ⟨S,I,X,M⟩:=b4 S I X M AB;replace hbr:=dT hbr AB
      clear AB;exact zDg
     | true =>
      obtain ⟨-,-,-,-,kK,qU,qV,qW,qX,qY,oK,oL,oM⟩:=M.out.c13;have dH:=I.out.e6;refine t_ (S:=(fun w' => w'.cell? ⟨g14,4,none⟩=some (.bool true)/\w'.cell? ⟨g14,5,none⟩=some (.int .i64 mf.kind)/\w'.cell? ⟨g14,6,none⟩=some (.bool mf.bool)/\w'.cell? ⟨g14,7,none⟩=some (.int .i64 mf.num)/\w'.cell? ⟨g14,8,none⟩=some (.string ⟨mf.str.toArray⟩)/\w'.cell? ⟨g14,9,none⟩=some (.int .i64 mf.id)/\w'.cell? ⟨g14,10,none⟩=some (.slice D1 mf.keys.length d1)/\w'.cell? ⟨g14,11,none⟩=some (.slice D2 mf.items.length d2)/\w'.cell? ⟨g14,12,none⟩=some (.slice D3 mf.rest.length d3)/\w'.cell? ⟨w.heap.size+1,6,none⟩=some (.slice (some ⟨b1,o1,none⟩) v.items.length n2)/\(∀ (b o:Nat),b < w.heap.size->w'.cell? ⟨b,o,none⟩=w.cell? ⟨b,o,none⟩))) (by kernel_rfl) ⟨kK,qU,qV,qW,qX,qY,oK,oL,oM,dH,(fun b o hlt => hbr.cell (p:=⟨b,o,none⟩) hlt)⟩ (fun hHeld => ?_);clear kK qU qV qW qX qY oK oL oM dH;have aln:Below dQ.heap.size dQ (dQ.drew):=(g_ _ _).drew;obtain ⟨S,I,X,M⟩:=b4 S I X M aln;replace hbr:=dT hbr aln;clear aln;generalize dQ.drew=yO at *;refine tk 0 ?_;refine tk 1 ?_;refine tk 2 ?_;refine tk 3 ?_;refine tk 4 ?_;refine tk 5 ?_;refine tk 6 ?_;refine tk 7 ?_;refine tk 8 ?_;refine tk 9 ?_;refine tk 10 ?_;refine iE 11 fun K hK => ?_;go_simp;((with_reducible refine (BI (nodes y+1) y mf _ _ _ _ _ _ _ (by omega) (sG.out.on hbr) (HMD.out.on hbr)).mono ?_);rintro e jU ⟨rfl,ng⟩);obtain ⟨S,I,X,M⟩:=b4 S I X M ng;replace hbr:=dT hbr ng;clear ng;(try clear hHeld);refine hK.out _ _ (⟨M.out.cell 4,⟨M.out.cell 5,⟨M.out.cell 6,⟨M.out.cell 7,⟨M.out.cell 8,⟨M.out.cell 9,⟨M.out.cell 10,⟨M.out.cell 11,⟨M.out.cell 12,⟨I.out.cell 6,(fun b o hlt => hbr.cell (p:=⟨b,o,none⟩) hlt)⟩⟩⟩⟩⟩⟩⟩⟩⟩⟩) (fun hHeld => ?_)
      clear hK K;cases hsv:iK y mf with
      | true =>
       have hbe:Hid (bs=oR x v.items ps v.rest id):=by show _=_;rw [YA.out,HPT.out];simp [hsv]
       refine tk 12 ?_;refine tk 13 ?_;refine Dl (by kernel_rfl) ?_ _;(try clear hHeld);clear y0 y1 y2 y3 y4 y5 y6 y7;go_wp2_with fail;go_meet
       exact ⟨by rw [hbe.out],S.out,I.out,X.out,hbr⟩
      | false =>
       have hbe:bs=oR x v.items ps v.rest id ++ gW ⟨id,mc,fE ts y mt⟩:=by rw [YA.out,HPT.out];simp [hsv]
       refine tk 12 ?_;refine tk 13 ?_;refine Dl (by kernel_rfl) ?_ _;(try clear hHeld);have zH:(fE ts y mt).length<=140737488355328/\(oR x v.items ps v.rest id).length<=140737488355328:=by
        exact zFi
       obtain ⟨l,HL⟩ : ∃ l,Hid (l=fE ts y mt):=⟨_,hiQ rfl⟩
       have xZ:=hiQ (HUx.out zH.1);rw [<- HL.out] at xZ zH hbe;obtain ⟨hlz,hoz⟩:=zH;have HBE:=hiQ hbe;clear hbe;generalize oR x v.items ps v.rest id=ok at *;go_upto_region 44 with fail;have aH:=S.out.e0;have je:=M.out.e2;have mQ:=M.out.e3;have dH:=I.out.e6;refine t_ (S:=(fun w' => w'.cell? ⟨w.heap.size,0,none⟩=some (.slice (some ⟨b,o,none⟩) ts.length c)/\w'.cell? ⟨g14,2,none⟩=some (.int .i64 mt)/\w'.cell? ⟨g14,3,none⟩=some (.bool mc)/\w'.cell? ⟨w.heap.size+1,6,none⟩=some (.slice (some ⟨b1,o1,none⟩) v.items.length n2)/\(∀ (b o:Nat),b < w.heap.size->w'.cell? ⟨b,o,none⟩=w.cell? ⟨b,o,none⟩))) (by kernel_rfl) ⟨aH,je,mQ,dH,(fun b o hlt => hbr.cell (p:=⟨b,o,none⟩) hlt)⟩ (fun hHeld => ?_);clear aH je mQ dH;have oG:Below jU.heap.size jU (jU.drew):=(g_ _ _).drew;obtain ⟨S,I,X,M⟩:=b4 S I X M oG;replace hbr:=dT hbr oG;clear oG;generalize jU.drew=xP at *;refine tk 0 ?_;refine tk 1 ?_;refine tk 2 ?_;refine tk 3 ?_;refine tk 4 ?_;refine tk 5 ?_;refine tk 6 ?_;refine tk 7 ?_;refine tk 8 ?_;refine tk 9 ?_;refine tk 10 ?_;refine tk 11 ?_;refine iE 12 fun K hK => ?_;go_simp;((with_reducible refine (xZ.out _ _ _ _ (sG.out.on hbr) (HT.out.on hbr)).mono ?_);rintro e pF ⟨rfl,AB⟩);obtain ⟨S,I,X,M⟩:=b4 S I X M AB;replace hbr:=dT hbr AB;clear AB;(try clear hHeld);refine hK.out _ _ zAl (fun hHeld => ?_);clear hK K;refine iE 13 fun K hK => ?_;go_simp;((with_reducible refine (EJ ⟨id,mc,l⟩ _ (by show id<=1000;omega) hlz).mono ?_);rintro e Bd ⟨rfl,Kr⟩);obtain ⟨S,I,X,M⟩:=b4 S I X M Kr;replace hbr:=dT hbr Kr
       clear Kr;exact zDg
   case rest =>
    obtain ⟨rfl,S,I,X,hbr⟩:=hcut;replace S:=hiQ S;replace I:=hiQ I;replace X:=hiQ X;have HI1:Hid (vZ w gX #[.slice (some ⟨b,o,none⟩) ts.length c] #[.int .i64 5,.bool v.bool,.int .i64 v.num,.string ⟨v.str.toArray⟩,.int .i64 v.id,.slice A1 v.keys.length n1,.slice A2 v.items.length n2,.slice A3 v.rest.length n3] #[.int .i64 5,.string ⟨x.name.toArray⟩,.int .i64 x.low,.int .i64 x.high,.int .i64 x.max,.slice C1 x.syms.length l1,.slice C2 x.ah.length l2,.int .i64 x.key,.int .i64 x.elem,.bool x.opn] wc):=hiQ ⟨S.out,I.out,X.out,hbr⟩;go_upto_region 46 with fail;clear S I X hbr;go_loopw [14,19] (fun so sk wr => ∃ k:Nat,k<=v.rest.length/\so = .string ⟨(bs ++ vC id (v.rest.take k)).toArray⟩/\sk = .int .i64 k/\vZ w gX #[.slice (some ⟨b,o,none⟩) ts.length c] #[.int .i64 5,.bool v.bool,.int .i64 v.num,.string ⟨v.str.toArray⟩,.int .i64 v.id,.slice A1 v.keys.length n1,.slice A2 v.items.length n2,.slice A3 v.rest.length n3] #[.int .i64 5,.string ⟨x.name.toArray⟩,.int .i64 x.low,.int .i64 x.high,.int .i64 x.max,.slice C1 x.syms.length l1,.slice C2 x.ah.length l2,.int .i64 x.key,.int .i64 x.elem,.bool x.opn] wr) (fun _ sk _ => v.rest.length - (intOf sk).toNat)
    case atStart => exact ⟨0,by omega,by simp [vC],rfl,HI1.out⟩
    case round =>
     clear HI1;obtain ⟨k,hk1,rfl,rfl,S,I,X,hbr⟩:=hrel;replace S:=hiQ S;replace I:=hiQ I;replace X:=hiQ X;by_cases hk:k < v.rest.length
     .
      obtain ⟨bR,oR2,rfl,aiI,hrc⟩:=HV.out.rest.at_ (by omega);have hr0:wr.cell? ⟨bR,oR2+k*2,none⟩=some (.int .i64 v.rest[k].1):=((hbr).cell (p:=⟨bR,_,none⟩) aiI).trans (hrc (k*2) _ (by rw [show k*2=k*2+0 from rfl,jO,flat_get Jl v.rest k 0 hk (by omega)];rfl));have hr1:wr.cell? ⟨bR,oR2+k*2+1,none⟩=some (.string ⟨v.rest[k].2.toArray⟩):=by
       rw [Us];exact ((hbr).cell (p:=⟨bR,_,none⟩) aiI).trans (hrc (k*2+1) _ (by rw [jO,flat_get Jl v.rest k 1 hk (by omega)];rfl))
      have gy:=HV.out.Ie v.rest[k] (jl hk);have hsu:=Zz id v.rest k hk;have hle:=Zy id v.rest (k+1);have hki:(k:Int) < v.rest.length:=by omega
      have hd0:decide ((k:Int) < 0)=false:=by simp
      have hd1:decide (v.rest.length<=k)=false:=by simpa using hk
      clear hrc;generalize v.rest[k]=r at *;obtain ⟨ri,rd⟩:=r;simp only at hr0 hr1 hsu;have hrd:rd.length<=140737488351232:=gy.2;clear gy;by_cases he:ri=(id:Int)
      .
       rw [o_ he] at hsu;rw [hsu,h_] at hle;have HSQ:=hiQ hsu;have het:(ri == (id:Int))=true:=by simpa using he
       clear hsu he;have bV:=I.out.e7;go_wp2_with fail;clear bV;((with_reducible refine (EJ ⟨id,false,rd⟩ _ (by show id<=1000;omega) (by show rd.length<=_;omega)).mono ?_);rintro e lZ ⟨rfl,kR⟩);obtain ⟨S,I,X⟩:=b3 S I X kR;replace hbr:=dT hbr kR;clear kR;obtain ⟨lp,Aj⟩ : ∃ q,Hid (q=gW ⟨id,false,rd⟩):=⟨_,hiQ rfl⟩
       rw [<- Aj.out] at hle ⊢;generalize hrt:vC id (v.rest.take k)=rt at *;clear hr0 hr1;have hb3:(bs ++ rt).length<=140737488355328:=by rw [h_];omega
       obtain ⟨br,HBR⟩ : ∃ q,Hid (q=bs ++ rt):=⟨_,hiQ rfl⟩
       rw [<- HBR.out] at hb3 ⊢;go_wp2_with fail;go_roundw
       case rel => exact ⟨k+1,by omega,by rw [qO,Aj.out,HBR.out,HSQ.out,List.append_assoc],by go_num,S.out,I.out,X.out,hbr⟩
       case measure => simp [intOf];omega
      rw [gB he,Vs] at hsu;have HSQ:=hiQ hsu;have het:(ri == (id:Int))=false:=by simpa using he
      clear hsu he hle;have bV:=I.out.e7;go_wp2_with fail;go_roundw
      case rel => exact ⟨k+1,by omega,by rw [HSQ.out],by go_num,S.out,I.out,X.out,hbr⟩
      case measure => simp [intOf];omega
     have hki:¬ (k:Int) < v.rest.length:=by omega
     have HF2:Hid (bs ++ vC id (v.rest.take k)=oR x v.items ps v.rest (id+1)):=by
      show _=_;rw [yJ (by omega),YA.out,Cb.out]
     have bV:=I.out.e7;go_wp2_with fail;go_roundw
     case rel => exact ⟨id+1,by omega,by omega,by rw [HF2.out],by go_num,S.out,I.out,X.out,hbr⟩
     case measure => simp [intOf];omega
  obtain rfl:id=1001:=by omega
  go_wp2_with fail;go_ret;exact ⟨Aa Gw.out.symm,hbr⟩
