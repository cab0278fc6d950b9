/- The example schema of layer 10, and what is read by it, and what else is used with it. No condition. -/
import Derived.Test.YtkaedmpppnnamaaGreatDoorJAF
import Derived.Test.YtkaedmpppnnamaaGreatDoorJAQ
import Derived.Test.YtkaedmpppnnamaaGreatDoorJAG
import Derived.Test.YtkaedmpppnnamaaGreatDoorEncN
set_option maxHeartbeats 1600000
set_option maxRecDepth 100000
namespace Go.Proofs.YtkaedmpppnnamaaGreatDoor
open ChangeShapes WideShapes ChangeAt RowKit
def ML:List Mem:=[⟨1,[120],1,false,false,jm⟩,⟨2,[121],2,false,true,Tc 3⟩,⟨3,[116,97,103],3,true,false,jm⟩]
def sV:List ay:=[⟨5,[82],0,0,0,[],ML,0,0,false⟩,⟨2,[],-10,10,0,[],[],0,0,false⟩,⟨2,[],0,5,0,[],[],0,0,false⟩,⟨3,[],0,0,8,[],[],0,0,false⟩]
def exI:List Val:=[Tc (-2),Tc 3,ajy [97,98]]
def exV:Val:=.mk 5 false 0 [] 0 [] exI []
def exU:Val:=.mk 5 false 0 [] 0 [] exI [(4,[5])]
theorem NT:Sizes sV:=by
 intro x hx;simp only [sV,N_,List.not_mem_nil,or_false] at hx;rcases hx with rfl | rfl | rfl | rfl <;> simp [ML]
theorem ane:nX sV 0 [2,1,3,7,2,97,98] = .ok (.ok exV):=by kernel_rfl
theorem anf:nX sV 0 [2,1,99,7,0] = .ok (.error ([1],2)):=by kernel_rfl
theorem ajE:nX sV 0 [2,1,3,7,2,97,98,8,1,5] = .ok (.ok exU):=by kernel_rfl
theorem ang:nX sV 0 [2,1,3,7,2,97,98,9,1,5] = .ok (.error ([4],6)):=by kernel_rfl
theorem anh:cO sV false exU 0=true:=by decide +kernel
theorem ani:afh sV 0 (nX sV 0 [2,1,3,7,2,97,98,8,1,5])=(1,0):=by rw [ajE];kernel_rfl
theorem anj:NS [1] 2 = [49,32,114,97,110,103,101]:=by
 unfold NS NR Ah;simp [Lib.itoa,Lib.decDigits_one,Lib.join_one,Ag]
def Xq:Nat->List Value
 | 0 => ZK ⟨1,[120],1,false,false,jm⟩ (.slice none 0 0) (.slice none 0 0) (.slice none 0 0)
 | 1 => ZK ⟨2,[121],2,false,true,Tc 3⟩ (.slice none 0 0) (.slice none 0 0) (.slice none 0 0)
 | _ => ZK ⟨3,[116,97,103],3,true,false,jm⟩ (.slice none 0 0) (.slice none 0 0) (.slice none 0 0)
theorem ajF {w:World} {B g:Nat} {T:TypeId} (h:Has w g T (nN Xq 3).toArray) (hB:g < B):rW w B (.slice (some ⟨g,0,none⟩) 3 3) ML:=by
 refine ⟨Xq,Xp h hB (fun i hi => ?_),fun i hi => ?_⟩
 .
  match i,hi with
  | 0,_ => rfl
  | 1,_ => rfl
  | 2,_ => rfl
 match i,hi with
 | 0,_ => exact ⟨_,_,_,rfl,⟨by simp [I64,ML],by simp [ML],Y9 w B⟩⟩
 | 1,_ => exact ⟨_,_,_,rfl,⟨by simp [I64,ML],by simp [ML],ajz w B 3 (by simp [I64])⟩⟩
 | 2,_ => exact ⟨_,_,_,rfl,⟨by simp [I64,ML],by simp [ML],Y9 w B⟩⟩
def aaC (g:Nat):Nat->List Value
 | 0 => Pq ⟨5,[82],0,0,0,[],ML,0,0,false⟩ (.slice none 0 0) (.slice (some ⟨g,0,none⟩) 3 3)
 | 1 => Pq ⟨2,[],-10,10,0,[],[],0,0,false⟩ (.slice none 0 0) (.slice none 0 0)
 | 2 => Pq ⟨2,[],0,5,0,[],[],0,0,false⟩ (.slice none 0 0) (.slice none 0 0)
 | _ => Pq ⟨3,[],0,0,8,[],[],0,0,false⟩ (.slice none 0 0) (.slice none 0 0)
theorem ajG {w:World} {B g g2:Nat} {T T2:TypeId} (h:Has w g T (nN Xq 3).toArray) (h2:Has w g2 T2 (nN (aaC g) 4).toArray) (hB:g < B) (hB2:g2 < B):aU w B (.slice (some ⟨g2,0,none⟩) 4 4) sV:=by
 refine ⟨aaC g,Xp h2 hB2 (fun i hi => ?_),fun i hi => ?_⟩
 .
  match i,hi with
  | 0,_ => rfl
  | 1,_ => rfl
  | 2,_ => rfl
  | 3,_ => rfl
 match i,hi with
 | 0,_ => exact ⟨_,_,rfl,⟨by simp [I64,sV],by simp [sV],by simp [sV,ML],by simp [sV],Rd.nil_ w B 2,ajF h hB⟩⟩
 | 1,_ => exact ⟨_,_,rfl,⟨by simp [I64,sV],by simp [sV],by simp [sV],by simp [sV],Rd.nil_ w B 2,JJ w B⟩⟩
 | 2,_ => exact ⟨_,_,rfl,⟨by simp [I64,sV],by simp [sV],by simp [sV],by simp [sV],Rd.nil_ w B 2,JJ w B⟩⟩
 | 3,_ => exact ⟨_,_,rfl,⟨by simp [I64,sV],by simp [sV],by simp [sV],by simp [sV],Rd.nil_ w B 2,JJ w B⟩⟩
def ajH (w:World) (e:Ending) (w':World):Prop := ∃ g,e = .returned (.agg #[.slice (some ⟨g,0,none⟩) 4 4])/\aU w' w'.heap.size (.slice (some ⟨g,0,none⟩) 4 4) sV/\Below w.heap.size w w'
theorem D9 (w:World):Calls Tryz.prog 19 #[] w (ajH w):=by
 go_enter Tryz.func19,Tryz.ntmps19
 go_wp2_with fail;refine vJ (v:=.agg #[.slice (some ⟨w.heap.size+1+1,0,none⟩) 4 4]) (by simp [results,Tryz.results19,go_sem]) rfl ⟨_,rfl,?_,?_⟩
 .
  have h1:=(Has.made (w.alloc (.cells #[.slice (some ⟨w.heap.size+1+1,0,none⟩) 4 4] 30)) 76 (nN Xq 3).toArray).alloc (.cells (nN (aaC (w.heap.size+1)) 4).toArray 72);have h2:=Has.made ((w.alloc (.cells #[.slice (some ⟨w.heap.size+1+1,0,none⟩) 4 4] 30)).alloc (.cells (nN Xq 3).toArray 76)) 72 (nN (aaC (w.heap.size+1)) 4).toArray;rw [KC] at h1;rw [KC,KC] at h2;exact ajG h1 h2 (by simp) (by simp)
 exact (((g_ _ _).alloc (b_ _) _).alloc (by simp) _).alloc (by simp;omega) _
theorem akx {g:Nat} {W:World} (h:aU W W.heap.size (.slice (some ⟨g,0,none⟩) 4 4) sV) :
  Calls Tryz.prog 9 #[.agg #[.slice (some ⟨g,0,none⟩) 4 4],.int .i64 0,.string ⟨#[2,1,3,7,2,97,98]⟩] W fun e w' => Below W.heap.size W w'/\∃ vk vi vr,e = .returned (.tuple #[.agg #[.int .i64 5,.bool false,.int .i64 0,.string ⟨#[]⟩,.int .i64 0,vk,vi,vr],.int .i64 0])/\jq w' (Kz W w') exV vk vi vr:=by
 have:=decode_any sV _ 4 0 [2,1,3,7,2,97,98] W NT h;rw [ane] at this;exact this
theorem aky {g:Nat} {W:World} (h:aU W W.heap.size (.slice (some ⟨g,0,none⟩) 4 4) sV) :
  Calls Tryz.prog 20 #[.agg #[.slice (some ⟨g,0,none⟩) 4 4],.int .i64 0,.string ⟨#[2,1,99,7,0]⟩] W fun e w' => Below W.heap.size W w'/\∃ fp,e = .returned (.tuple #[.agg #[fp,.int .i64 2],.int .i64 0])/\w'.ownsRow W.heap.size 3 1 fp 1 [zq 1]:=by
 have:=Yb sV _ 4 0 [2,1,99,7,0] W NT h;rw [anf] at this;exact this
theorem akz {g:Nat} {W:World} (h:aU W W.heap.size (.slice (some ⟨g,0,none⟩) 4 4) sV) :
  Calls Tryz.prog 10 #[.agg #[.slice (some ⟨g,0,none⟩) 4 4],.int .i64 0,.string ⟨#[2,1,3,7,2,97,98,8,1,5]⟩] W fun e w' => e = .returned (.tuple #[.int .i64 1,.int .i64 0])/\Below W.heap.size W w':=by
 have:=Yd sV _ 4 0 [2,1,3,7,2,97,98,8,1,5] W NT (fun v hv W vk vi vr h1 h2 => by
  rw [ajE] at hv;injection hv with hv;injection hv with hv;subst hv;obtain ⟨A1,n1,A2,n2,A3,n3,rfl,rfl,rfl,-,-,-⟩:=h1.forms;exact aff sV _ 4 0 exU A1 A2 A3 n1 n2 n3 W (by decide) rfl rfl h2 h1 anh (fun y hy t yk yi yr W hf hv hT => afg sV _ 4 y (by
   simp only [exU,exI,Val.keys,Val.items,J_,N_,List.not_mem_nil,or_false] at hy;rcases hy with rfl | rfl | rfl <;> simp [Tc,ajy,Val.kind]) t yk yi yr W hf hv hT)) h
 rw [ani] at this;exact this
theorem akA {g:Nat} {W:World} (h:aU W W.heap.size (.slice (some ⟨g,0,none⟩) 4 4) sV) :
  Calls Tryz.prog 22 #[.agg #[.slice (some ⟨g,0,none⟩) 4 4],.int .i64 0,.string ⟨#[2,1,3,7,2,97,98,9,1,5]⟩] W fun e w' => e = .returned (.bool false)/\Below W.heap.size W w':=by
 have:=Yc sV _ 4 0 [2,1,3,7,2,97,98,9,1,5] W NT h;rw [ang] at this;exact this
theorem akB {fp:Value} {W:World} (hT:DX W) (h:Rd W W.heap.size 1 fp 1 [zq 1]) :
  Calls Tryz.prog 21 #[.agg #[fp,.int .i64 2]] W fun e w' => e = .returned (.string ⟨#[49,32,114,97,110,103,101]⟩)/\Below W.heap.size W w':=by
 have:=aaB [1] fp 2 W (by simp) (by simp [I64]) h hT;rw [anj] at this;exact this
theorem Eb (w:World) (hT:DX w):Calls Tryz.prog 6 #[] w (RT w (.bool true)):=by
 have HT:=hiQ hT;clear hT;go_enter Tryz.func6,Tryz.ntmps6
 go_wp2_with fail;((with_reducible refine (D9 _).mono ?_);rintro e wd1 ⟨g1,rfl,hT1,hb2⟩);have hw3:=hb2;clear hb2;go_wp2_with fail;obtain ⟨LX,zA⟩ : ∃ n,n=(wd1).heap.size:=⟨_,rfl⟩
 have hzl:=(hw3).size;rw [<- zA] at hzl;((with_reducible refine (akx hT1).mono ?_);rintro e wd4 ⟨hb5,vk,vi,vr,rfl,hv⟩);replace hw3:=dT hw3 hb5;clear hb5 hT1;obtain ⟨A1,n1,A2,n2,A3,n3,rfl,rfl,rfl⟩ : ∃ A1 n1 A2 n2 A3 n3,vk = .slice A1 0 n1/\vi = .slice A2 3 n2/\vr = .slice A3 0 n3:=by
  obtain ⟨_,⟨A1,n1,h1,_⟩,_⟩:=hv.keys;obtain ⟨_,⟨A2,n2,h2,_⟩,_⟩:=hv.items;obtain ⟨_,A3,n3,h3,_⟩:=hv.rest;exact ⟨A1,n1,A2,n2,A3,n3,h1,h2,h3⟩
 obtain ⟨BX,Fq⟩ : ∃ n,n=(wd4).heap.size:=⟨_,rfl⟩
 have N:=hiQ (Kept.OY hv zA Fq);clear hv zA Fq;have MV:=Has.made wd4 34 #[.int .i64 0,.bool false,.int .i64 0,.string ⟨#[]⟩,.int .i64 0,.slice none 0 0,.slice none 0 0,.slice none 0 0];go_upto_region 2 with (refine yH rfl 34 _ _ rfl wd4.heap.size _ rfl rfl 34 _ MV (by kernel_rfl) rfl (by simp [Value.oneCell']) ?_)
 clear MV;generalize H6:wd4.alloc _=jC;have ⟨hb6,V⟩:=uj H6;clear H6;have oC:=N.out.le;have sH:=hw3.size;replace N:=b1 N hb6;replace hw3:=dT hw3 hb6;clear hb6;generalize wd4.heap.size=g9 at *;generalize fU:jC.setRow _ _=lZ;replace N:=f1 N (eR fU);replace V:=dV V fU;replace hw3:=tr hw3 fU;clear fU;obtain ⟨gV,rfl⟩ : ∃ g,g=g9:=⟨_,rfl⟩
 go_wp2_with fail;((with_reducible refine (D9 _).mono ?_);rintro e oZ ⟨g2,rfl,hT2,o7⟩);obtain ⟨V,N⟩:=b2 V N o7;replace hw3:=dT hw3 o7;clear o7;go_wp2_with fail;obtain ⟨LY,hLY⟩ : ∃ n,n=(oZ).heap.size:=⟨_,rfl⟩
 have hvl:=V.out.here;have hwl:=(hw3).size;rw [<- hLY] at hvl hwl;((with_reducible refine (aky hT2).mono ?_);rintro e yN ⟨mG,fp,rfl,hown⟩);obtain ⟨V,N⟩:=b2 V N mG;replace hw3:=dT hw3 mG;clear mG hT2;obtain ⟨Af,cf,rfl⟩:=jF hown;rw [<- hLY] at hown;clear hLY;obtain ⟨BY,hBY⟩ : ∃ n,n=(yN).heap.size:=⟨_,rfl⟩
 have FP:=hiQ (Kept.LV hown hBY);clear hown hBY;have MV:=Has.made yN 59 #[.slice none 0 0,.int .i64 0];go_upto_region 3 with (refine yH rfl 59 _ _ rfl yN.heap.size _ rfl rfl 59 _ MV (by kernel_rfl) rfl (by simp [Value.oneCell']) ?_)
 clear MV;generalize hE20:yN.alloc _=fZ;have ⟨nU,F⟩:=uj hE20;clear hE20;have Dw:=V.out.here;have Es:=N.out.le;have sJ:=FP.out.le;have uP:=hw3.size;obtain ⟨V,N,FP⟩:=b3 V N FP nU;replace hw3:=dT hw3 nU;clear nU;generalize yN.heap.size=g21 at *;generalize aag:fZ.setRow _ _=yg;obtain ⟨V,N,FP⟩:=f3 V N FP (eR aag);replace F:=dV F aag;replace hw3:=tr hw3 aag;clear aag;obtain ⟨gF,rfl⟩ : ∃ g,g=g21:=⟨_,rfl⟩
 go_wp2_with fail;((with_reducible refine (D9 _).mono ?_);rintro e Eu ⟨g3,rfl,hT3,afk⟩);obtain ⟨V,F,N,FP⟩:=b4 V F N FP afk;replace hw3:=dT hw3 afk;clear afk;go_wp2_with fail;((with_reducible refine (akz hT3).mono ?_);rintro e ank ⟨rfl,OV⟩);obtain ⟨V,F,N,FP⟩:=b4 V F N FP OV;replace hw3:=dT hw3 OV;clear OV hT3;obtain ⟨bK,dh,dn,dI,bG,aQ,aP,dJ⟩:=V.out.c8;go_upto_region 5 with fail;have hv1:=((N.out.now.afb (w:=w) (by omega) N.out.le).at_ (fun b hb => by unfold Kz at hb;omega):ValAt ank ank.heap.size exV _ (.slice A2 3 n2) _)
 obtain ⟨b1,o1,rfl,hb1,hel⟩:=hv1.items.elem (by decide);obtain ⟨_,_,_,h1,_⟩:=hel 0 (by decide);obtain ⟨_,_,_,h2,_⟩:=hel 1 (by decide);obtain ⟨_,_,_,h3,_⟩:=hel 2 (by decide);have i1:ank.cell? ⟨b1,o1+2,none⟩=some (.int .i64 (-2)):=h1.2.2.1;have i2:ank.cell? ⟨b1,o1+8+2,none⟩=some (.int .i64 3):=h2.2.2.1;have i3:ank.cell? ⟨b1,o1+16+3,none⟩=some (.string ⟨#[97,98]⟩):=h3.2.2.2.1;clear hv1 hel h1 h2 h3;obtain ⟨Fg,Bf⟩:=F.out.c2;go_wp2_with fail;clear bK dh dn dI bG aQ aP dJ Fg Bf;((with_reducible refine (akB (HT.out.on hw3) (Rd.uX FP.out.now)).mono ?_);rintro e zy ⟨rfl,OZ⟩);obtain ⟨V,F,N,FP⟩:=b4 V F N FP OZ;replace hw3:=dT hw3 OZ;clear OZ i1 i2 i3;go_wp2_with fail;((with_reducible refine (D9 _).mono ?_);rintro e Jg ⟨g4,rfl,hT4,afl⟩);obtain ⟨V,F,N,FP⟩:=b4 V F N FP afl;replace hw3:=dT hw3 afl;clear afl;go_wp2_with fail;((with_reducible refine (akA hT4).mono ?_);rintro e aqg ⟨rfl,adY⟩);obtain ⟨V,F,N,FP⟩:=b4 V F N FP adY;replace hw3:=dT hw3 adY;clear adY hT4;go_wp2_with fail;go_ret;exact ⟨rfl,hw3⟩
theorem Kept.NC {w:World} {L B:Nat} {v:Value} {xs:List ay} (h:Kept (fun w => aU w B v xs) w L B):aU w w.heap.size v xs:=h.now.keep (fun _ _ => rfl) h.le
theorem Kept.adF {w:World} {L B:Nat} {v:Val} {vk vi vr:Value} (h:Kept (fun w => ValAt w B v vk vi vr) w L B):ValAt w w.heap.size v vk vi vr:=h.now.keep (fun _ _ => rfl) h.le
theorem Kept.BU {w0 w:World} {v:Val} {vk vi vr:Value} {B:Nat} (h:jq w (Kz w0 w) v vk vi vr) (hB:B=w.heap.size):Kept (fun w => ValAt w B v vk vi vr) w 0 B:=by
 subst hB;have h2:ValAt w w.heap.size v vk vi vr:=h.at_ fun k hk => hk.2;exact Kept.rd (P:=fun w B => ValAt w B v vk vi vr) h2 (b_ _) (fun _ hk => h2.keep hk (b_ _))
theorem agR {ts:List ay} {t:Int} {v:Val} {m:List UInt8} (h:Je ts t v=(m,0)):cO ts false v t=true/\(fE ts v t).length<=4096/\jV ts v t<=200/\fE ts v t=m:=by
 unfold Je at h;by_cases h1:zu ts t v≠0
 .
  rw [o_ h1] at h;exact absurd (congrArg Prod.snd h) h1
 rw [gB h1] at h;have hf:=(Vj (Classical.byContradiction h1)).2;by_cases h2:4096 < (fE ts v t).length
 .
  rw [o_ h2] at h;have h3:=congrArg Prod.snd h;exact absurd (show (3:Int)=0 from h3) (by decide)
 rw [gB h2] at h;by_cases h3:200 < jV ts v t
 .
  rw [o_ h3] at h;have h4:=congrArg Prod.snd h;exact absurd (show (3:Int)=0 from h4) (by decide)
 rw [gB h3] at h;exact ⟨hf,by omega,by omega,congrArg Prod.fst h⟩
