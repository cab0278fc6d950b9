/- Unknown. The example schema of layer 10, and what is read by it. awake of layer 10. No condition. -/
import Derived.Test.YthkfapcadhnaeaaGreatDoorUnk
import Derived.Test.YthkfapcadhnaeaaGreatDoorDecV
import Derived.Test.YthkfapcadhnaeaaGreatDoorHAD
import Derived.Test.YthkfapcadhnaeaaGreatDoorHAR
set_option maxHeartbeats 1600000
namespace Go.Proofs.YthkfapcadhnaeaaGreatDoor
open Go.ChangeShapes Go.WideShapes Go.ChangeAt Go.RowKit
def adS (ts:List aC) (t:Int):Except Int fO→Int × Int
 | .error er => (0,er)
 | .ok (.error _) => (0,12)
 | .ok (.ok v) => (wrap64 (ny ts v t),0)
set_option maxRecDepth 100000 in
theorem WW (ts:List aC) (A:Option Addr) (c:Nat) (t:Int) (m:List UInt8) (w:World) (hs:Sizes ts) (hf:∀ v,iE ts t m = .ok (.ok v)→∀ (W:World) (vk vi vr:Value),ValAt W W.heap.size v vk vi vr→bG W W.heap.size (.slice A ts.length c) ts→Calls Tryz.prog 47 #[.agg #[.slice A ts.length c],.int .i64 t,iC v vk vi vr] W fun e w' => e = .returned (.int .i64 (wrap64 (ny ts v t)))∧Below W.heap.size W w') (hT:bG w w.heap.size (.slice A ts.length c) ts) :
  Calls Tryz.prog 21 #[.agg #[.slice A ts.length c],.int .i64 t,.string ⟨m.toArray⟩] w fun e w' => e = .returned (.tuple #[.int .i64 (adS ts t (iE ts t m)).1,.int .i64 (adS ts t (iE ts t m)).2])∧Below w.heap.size w w':=by
 have hre:=fun er h => uZ (ts:=ts) (t:=t) (m:=m) (er:=er) h
 have HT:=Lib.hid hT
 have rU:=Lib.hid (fun W h => GI ts A c t m W hs h)
 generalize iE ts t m=r at *
 clear hT hs
 go_enter Tryz.func21,Tryz.ntmps21
 go_upto_region 1 with fail
 generalize dJ:w.alloc _=wd2
 have ⟨hb1,S⟩:=bH dJ
 clear dJ
 have hw4:=hb1
 clear hb1
 have ay:=S.out.e0
 rcases r with er | ⟨⟨p,n⟩ | v⟩
 ·
  have her:=hre er rfl
  have he1:(er != 0)=true:=by rw [bne_iff_ne];omega
  clear hre her hf
  go_wp2_with fail
  clear ay
  ((with_reducible refine (rU.out _ (HT.out.on hw4)).mono ?_);rintro e qM ⟨hb6,rfl⟩)
  replace S:=b1 S hb6
  replace hw4:=dT hw4 hb6
  clear hb6
  simp only [pW]
  have MV:Has ((qM.alloc (.cells #[.int .i64 0,.bool false,.int .i64 0,.string ⟨#[]⟩,.int .i64 0,.slice none 0 0,.slice none 0 0,.slice none 0 0] 30)).alloc (.cells #[.slice none 0 0,.int .i64 0] 38)) qM.heap.size 30 #[.int .i64 0,.bool false,.int .i64 0,.string ⟨#[]⟩,.int .i64 0,.slice none 0 0,.slice none 0 0,.slice none 0 0]:=(Has.made _ _ _).alloc _
  have MF:Has (((qM.alloc (.cells #[.int .i64 0,.bool false,.int .i64 0,.string ⟨#[]⟩,.int .i64 0,.slice none 0 0,.slice none 0 0,.slice none 0 0] 30)).alloc (.cells #[.slice none 0 0,.int .i64 0] 38)).setRow qM.heap.size #[.int .i64 0,.bool false,.int .i64 0,.string ⟨#[]⟩,.int .i64 0,.slice none 0 0,.slice none 0 0,.slice none 0 0]) (qM.heap.size+1) 38 #[.slice none 0 0,.int .i64 0]:=kR (by
   have h:=Has.made (qM.alloc (.cells #[.int .i64 0,.bool false,.int .i64 0,.string ⟨#[]⟩,.int .i64 0,.slice none 0 0,.slice none 0 0,.slice none 0 0] 30)) 38 #[.slice none 0 0,.int .i64 0]
   rwa [mJ] at h) (by omega)
  go_upto_region 2 with (first | (refine wpList_store_row rfl 30 _ _ rfl qM.heap.size _ rfl rfl 30 _ MV (by kernel_rfl) rfl (by simp [Value.oneCell']) ?_) | (refine wpList_store_row rfl 38 _ _ rfl (qM.heap.size+1) _ rfl rfl 38 _ MF (by kernel_rfl) rfl (by simp [Value.oneCell']) ?_))
  clear MV MF
  generalize Bc:qM.alloc _=uJ
  generalize jZ:uJ.alloc _=kE
  have ⟨hb7,V,F⟩:=dN Bc jZ
  clear Bc jZ
  have ahT:=S.out.here
  have ahU:=hw4.size
  replace S:=b1 S hb7
  replace hw4:=dT hw4 hb7
  clear hb7
  generalize qM.heap.size=g12 at *
  generalize qB:kE.setRow _ _=lD
  obtain ⟨S,F⟩:=f2 S F (eR qB)
  replace V:=aK V qB
  replace hw4:=tr hw4 qB
  clear qB
  generalize xQ:lD.setRow _ _=rE
  obtain ⟨S,V⟩:=f2 S V (eR xQ)
  replace F:=aK F xQ
  replace hw4:=tr hw4 xQ
  clear xQ
  go_wp2_with fail
  go_ret2
  exact ⟨rfl,hw4⟩
 ·
  clear hre hf
  go_wp2_with fail
  clear ay
  ((with_reducible refine (rU.out _ (HT.out.on hw4)).mono ?_);rintro e nY ⟨jw,fp,rfl,hown⟩)
  replace S:=b1 S jw
  replace hw4:=dT hw4 jw
  clear jw
  obtain ⟨Af,cf,rfl⟩:=aF hown
  clear hown
  simp only [pW]
  have MV:Has ((nY.alloc (.cells #[.int .i64 0,.bool false,.int .i64 0,.string ⟨#[]⟩,.int .i64 0,.slice none 0 0,.slice none 0 0,.slice none 0 0] 30)).alloc (.cells #[.slice none 0 0,.int .i64 0] 38)) nY.heap.size 30 #[.int .i64 0,.bool false,.int .i64 0,.string ⟨#[]⟩,.int .i64 0,.slice none 0 0,.slice none 0 0,.slice none 0 0]:=(Has.made _ _ _).alloc _
  have MF:Has (((nY.alloc (.cells #[.int .i64 0,.bool false,.int .i64 0,.string ⟨#[]⟩,.int .i64 0,.slice none 0 0,.slice none 0 0,.slice none 0 0] 30)).alloc (.cells #[.slice none 0 0,.int .i64 0] 38)).setRow nY.heap.size #[.int .i64 0,.bool false,.int .i64 0,.string ⟨#[]⟩,.int .i64 0,.slice none 0 0,.slice none 0 0,.slice none 0 0]) (nY.heap.size+1) 38 #[.slice none 0 0,.int .i64 0]:=kR (by
   have h:=Has.made (nY.alloc (.cells #[.int .i64 0,.bool false,.int .i64 0,.string ⟨#[]⟩,.int .i64 0,.slice none 0 0,.slice none 0 0,.slice none 0 0] 30)) 38 #[.slice none 0 0,.int .i64 0]
   rwa [mJ] at h) (by omega)
  go_upto_region 2 with (first | (refine wpList_store_row rfl 30 _ _ rfl nY.heap.size _ rfl rfl 30 _ MV (by kernel_rfl) rfl (by simp [Value.oneCell']) ?_) | (refine wpList_store_row rfl 38 _ _ rfl (nY.heap.size+1) _ rfl rfl 38 _ MF (by kernel_rfl) rfl (by simp [Value.oneCell']) ?_))
  clear MV MF
  generalize mV:nY.alloc _=rC
  generalize jQ:rC.alloc _=kF
  have ⟨mQ,V,F⟩:=dN mV jQ
  clear mV jQ
  have Gq:=S.out.here
  have Gs:=hw4.size
  replace S:=b1 S mQ
  replace hw4:=dT hw4 mQ
  clear mQ
  generalize nY.heap.size=Vm at *
  generalize tJ:kF.setRow _ _=Bo
  obtain ⟨S,F⟩:=f2 S F (eR tJ)
  replace V:=aK V tJ
  replace hw4:=tr hw4 tJ
  clear tJ
  generalize pG:Bo.setRow _ _=wP
  obtain ⟨S,V⟩:=f2 S V (eR pG)
  replace F:=aK F pG
  replace hw4:=tr hw4 pG
  clear pG
  go_wp2_with fail
  go_ret2
  exact ⟨rfl,hw4⟩
 have HF:=Lib.hid (hf v rfl)
 clear hre hf
 obtain ⟨LX,rP⟩ : ∃ n,n=(wd2).heap.size:=⟨_,rfl⟩
 have hzl:=S.out.here
 rw [← rP] at hzl
 go_wp2_with fail
 clear ay
 ((with_reducible refine (rU.out _ (HT.out.on hw4)).mono ?_);rintro e mW ⟨Nu,vk,vi,vr,rfl,hv⟩)
 replace S:=b1 S Nu
 replace hw4:=dT hw4 Nu
 clear Nu
 obtain ⟨A1,n1,A2,n2,A3,n3,rfl,rfl,rfl⟩ : ∃ A1 n1 A2 n2 A3 n3,vk = .slice A1 v.keys.length n1∧vi = .slice A2 v.items.length n2∧vr = .slice A3 v.rest.length n3:=by
  obtain ⟨_,⟨A1,n1,h1,_⟩,_⟩:=hv.keys
  obtain ⟨_,⟨A2,n2,h2,_⟩,_⟩:=hv.items
  obtain ⟨_,A3,n3,h3,_⟩:=hv.rest
  exact ⟨A1,n1,A2,n2,A3,n3,h1,h2,h3⟩
 obtain ⟨BX,yU⟩ : ∃ n,n=(mW).heap.size:=⟨_,rfl⟩
 have N:=Lib.hid (Kept.Yv hv rP yU)
 clear hv rP yU
 simp only [iC]
 have MV:Has ((mW.alloc (.cells #[.int .i64 0,.bool false,.int .i64 0,.string ⟨#[]⟩,.int .i64 0,.slice none 0 0,.slice none 0 0,.slice none 0 0] 30)).alloc (.cells #[.slice none 0 0,.int .i64 0] 38)) mW.heap.size 30 #[.int .i64 0,.bool false,.int .i64 0,.string ⟨#[]⟩,.int .i64 0,.slice none 0 0,.slice none 0 0,.slice none 0 0]:=(Has.made _ _ _).alloc _
 have MF:Has (((mW.alloc (.cells #[.int .i64 0,.bool false,.int .i64 0,.string ⟨#[]⟩,.int .i64 0,.slice none 0 0,.slice none 0 0,.slice none 0 0] 30)).alloc (.cells #[.slice none 0 0,.int .i64 0] 38)).setRow mW.heap.size #[.int .i64 v.kind,.bool v.bool,.int .i64 v.num,.string ⟨v.str.toArray⟩,.int .i64 v.id,.slice A1 v.keys.length n1,.slice A2 v.items.length n2,.slice A3 v.rest.length n3]) (mW.heap.size+1) 38 #[.slice none 0 0,.int .i64 0]:=kR (by
  have h:=Has.made (mW.alloc (.cells #[.int .i64 0,.bool false,.int .i64 0,.string ⟨#[]⟩,.int .i64 0,.slice none 0 0,.slice none 0 0,.slice none 0 0] 30)) 38 #[.slice none 0 0,.int .i64 0]
  rwa [mJ] at h) (by omega)
 go_upto_region 2 with (first | (refine wpList_store_row rfl 30 _ _ rfl mW.heap.size _ rfl rfl 30 _ MV (by kernel_rfl) rfl (by simp [Value.oneCell']) ?_) | (refine wpList_store_row rfl 38 _ _ rfl (mW.heap.size+1) _ rfl rfl 38 _ MF (by kernel_rfl) rfl (by simp [Value.oneCell']) ?_))
 clear MV MF
 generalize rD:mW.alloc _=o9
 generalize vC:o9.alloc _=sD
 have ⟨jL,V,F⟩:=dN rD vC
 clear rD vC
 have XG:=S.out.here
 have Lu:=N.out.le
 have PL:=hw4.size
 obtain ⟨S,N⟩:=b2 S N jL
 replace hw4:=dT hw4 jL
 clear jL
 generalize mW.heap.size=g40 at *
 generalize mF:sD.setRow _ _=wI
 obtain ⟨S,F,N⟩:=f3 S F N (eR mF)
 replace V:=aK V mF
 replace hw4:=tr hw4 mF
 clear mF
 generalize nU:wI.setRow _ _=wF
 obtain ⟨S,V,N⟩:=f3 S V N (eR nU)
 replace F:=aK F nU
 replace hw4:=tr hw4 nU
 clear nU
 have hle:=N.out.le
 obtain ⟨eH,dP,eP,eU,dY,dW,dK,eG⟩:=V.out.c8
 have ay:=S.out.e0
 go_wp2_with fail
 clear eH dP eP eU dY dW dK eG ay
 ((with_reducible refine (HF.out _ _ _ _ ((N.out.now.Yw (w:=w) (by omega) hle).at_ (fun b hb => by unfold Jg at hb;omega)) (HT.out.on hw4)).mono ?_);rintro e yL ⟨rfl,vK⟩)
 obtain ⟨S,V,F,N⟩:=b4 S V F N vK
 replace hw4:=dT hw4 vK
 clear vK
 go_wp2_with fail
 go_ret2
 exact ⟨rfl,hw4⟩
end Go.Proofs.YthkfapcadhnaeaaGreatDoor
namespace Go.Proofs.YthkfapcadhnaeaaGreatDoor
open Go.ChangeShapes Go.WideShapes Go.ChangeAt Go.RowKit
def JB:List Mem:=[⟨1,[120],1,false,false,kJ⟩,⟨2,[121],2,false,true,Qk 3⟩,⟨3,[116,97,103],3,true,false,kJ⟩]
def mg:List aC:=[⟨5,[82],0,0,0,[],JB,0,0,false⟩,⟨2,[],-10,10,0,[],[],0,0,false⟩,⟨2,[],0,5,0,[],[],0,0,false⟩,⟨3,[],0,0,8,[],[],0,0,false⟩]
def exI:List Val:=[Qk (-2),Qk 3,ahH [97,98]]
def exV:Val:=.mk 5 false 0 [] 0 [] exI []
def exU:Val:=.mk 5 false 0 [] 0 [] exI [(4,[5])]
theorem Kw:Sizes mg:=by
 intro x hx
 simp only [mg,List.mem_cons,List.not_mem_nil,or_false] at hx
 rcases hx with rfl | rfl | rfl | rfl <;> simp [JB]
theorem amf:iE mg 0 [2,1,3,7,2,97,98] = .ok (.ok exV):=by kernel_rfl
theorem amg:iE mg 0 [2,1,99,7,0] = .ok (.error ([1],2)):=by kernel_rfl
theorem ahW:iE mg 0 [2,1,3,7,2,97,98,8,1,5] = .ok (.ok exU):=by kernel_rfl
theorem amh:iE mg 0 [2,1,3,7,2,97,98,9,1,5] = .ok (.error ([4],6)):=by kernel_rfl
theorem ami:zh mg false exU 0=true:=by decide +kernel
theorem amj:adS mg 0 (iE mg 0 [2,1,3,7,2,97,98,8,1,5])=(1,0):=by rw [ahW];kernel_rfl
theorem amk:Ky [1] 2 = [49,32,114,97,110,103,101]:=by
 unfold Ky Kz wu
 simp [Lib.itoa,Lib.decDigits_one,Lib.join_one,wz]
def V6:Nat→List Value
 | 0 => VJ ⟨1,[120],1,false,false,kJ⟩ (.slice none 0 0) (.slice none 0 0) (.slice none 0 0)
 | 1 => VJ ⟨2,[121],2,false,true,Qk 3⟩ (.slice none 0 0) (.slice none 0 0) (.slice none 0 0)
 | _ => VJ ⟨3,[116,97,103],3,true,false,kJ⟩ (.slice none 0 0) (.slice none 0 0) (.slice none 0 0)
theorem ahX {w:World} {B g:Nat} {T:TypeId} (h:Has w g T (jA V6 3).toArray) (hB:g < B):lN w B (.slice (some ⟨g,0,none⟩) 3 3) JB:=by
 refine ⟨V6,VN h hB (fun i hi => ?_),fun i hi => ?_⟩
 ·
  match i,hi with
  | 0,_ => rfl
  | 1,_ => rfl
  | 2,_ => rfl
 match i,hi with
 | 0,_ => exact ⟨_,_,_,rfl,⟨by simp [I64,JB],by simp [JB],Kt w B⟩⟩
 | 1,_ => exact ⟨_,_,_,rfl,⟨by simp [I64,JB],by simp [JB],ahI w B 3 (by simp [I64])⟩⟩
 | 2,_ => exact ⟨_,_,_,rfl,⟨by simp [I64,JB],by simp [JB],Kt w B⟩⟩
def Zm (g:Nat):Nat→List Value
 | 0 => Nh ⟨5,[82],0,0,0,[],JB,0,0,false⟩ (.slice none 0 0) (.slice (some ⟨g,0,none⟩) 3 3)
 | 1 => Nh ⟨2,[],-10,10,0,[],[],0,0,false⟩ (.slice none 0 0) (.slice none 0 0)
 | 2 => Nh ⟨2,[],0,5,0,[],[],0,0,false⟩ (.slice none 0 0) (.slice none 0 0)
 | _ => Nh ⟨3,[],0,0,8,[],[],0,0,false⟩ (.slice none 0 0) (.slice none 0 0)
theorem ahY {w:World} {B g g2:Nat} {T T2:TypeId} (h:Has w g T (jA V6 3).toArray) (h2:Has w g2 T2 (jA (Zm g) 4).toArray) (hB:g < B) (hB2:g2 < B):bG w B (.slice (some ⟨g2,0,none⟩) 4 4) mg:=by
 refine ⟨Zm g,VN h2 hB2 (fun i hi => ?_),fun i hi => ?_⟩
 ·
  match i,hi with
  | 0,_ => rfl
  | 1,_ => rfl
  | 2,_ => rfl
  | 3,_ => rfl
 match i,hi with
 | 0,_ => exact ⟨_,_,rfl,⟨by simp [I64,mg],by simp [mg],by simp [mg,JB],by simp [mg],Rd.nil_ w B 2,ahX h hB⟩⟩
 | 1,_ => exact ⟨_,_,rfl,⟨by simp [I64,mg],by simp [mg],by simp [mg],by simp [mg],Rd.nil_ w B 2,H7 w B⟩⟩
 | 2,_ => exact ⟨_,_,rfl,⟨by simp [I64,mg],by simp [mg],by simp [mg],by simp [mg],Rd.nil_ w B 2,H7 w B⟩⟩
 | 3,_ => exact ⟨_,_,rfl,⟨by simp [I64,mg],by simp [mg],by simp [mg],by simp [mg],Rd.nil_ w B 2,H7 w B⟩⟩
def ahZ (w:World) (e:Ending) (w':World):Prop := ∃ g,e = .returned (.agg #[.slice (some ⟨g,0,none⟩) 4 4])∧bG w' w'.heap.size (.slice (some ⟨g,0,none⟩) 4 4) mg∧Below w.heap.size w w'
set_option maxRecDepth 100000 in
theorem AO (w:World):Calls Tryz.prog 36 #[] w (ahZ w):=by
 go_enter Tryz.func36,Tryz.ntmps36
 go_wp2_with fail
 refine bodyPost_ret (v:=.agg #[.slice (some ⟨w.heap.size+1+1,0,none⟩) 4 4]) (by simp [results,Tryz.results36,go_sem]) rfl ⟨_,rfl,?_,?_⟩
 ·
  have h1:=(Has.made (w.alloc (.cells #[.slice (some ⟨w.heap.size+1+1,0,none⟩) 4 4] 24)) 77 (jA V6 3).toArray).alloc (.cells (jA (Zm (w.heap.size+1)) 4).toArray 69)
  have h2:=Has.made ((w.alloc (.cells #[.slice (some ⟨w.heap.size+1+1,0,none⟩) 4 4] 24)).alloc (.cells (jA V6 3).toArray 77)) 69 (jA (Zm (w.heap.size+1)) 4).toArray
  rw [Jr] at h1
  rw [Jr,Jr] at h2
  exact ahY h1 h2 (by simp) (by simp)
 exact (((Below.refl _ _).alloc (Nat.le_refl _) _).alloc (by simp) _).alloc (by simp;omega) _
end Go.Proofs.YthkfapcadhnaeaaGreatDoor
namespace Go.Proofs.YthkfapcadhnaeaaGreatDoor
open Go.ChangeShapes Go.WideShapes Go.ChangeAt Go.RowKit
theorem ajH {g:Nat} {W:World} (h:bG W W.heap.size (.slice (some ⟨g,0,none⟩) 4 4) mg) :
  Calls Tryz.prog 11 #[.agg #[.slice (some ⟨g,0,none⟩) 4 4],.int .i64 0,.string ⟨#[2,1,3,7,2,97,98]⟩] W fun e w' => Below W.heap.size W w'∧∃ vk vi vr,e = .returned (.tuple #[.agg #[.int .i64 5,.bool false,.int .i64 0,.string ⟨#[]⟩,.int .i64 0,vk,vi,vr],.int .i64 0])∧jq w' (Jg W w') exV vk vi vr:=by
 have:=decode_any mg _ 4 0 [2,1,3,7,2,97,98] W Kw h
 rw [amf] at this;exact this
theorem ajI {g:Nat} {W:World} (h:bG W W.heap.size (.slice (some ⟨g,0,none⟩) 4 4) mg) :
  Calls Tryz.prog 15 #[.agg #[.slice (some ⟨g,0,none⟩) 4 4],.int .i64 0,.string ⟨#[2,1,99,7,0]⟩] W fun e w' => Below W.heap.size W w'∧∃ fp,e = .returned (.tuple #[.agg #[fp,.int .i64 2],.int .i64 0])∧w'.ownsRow W.heap.size 3 1 fp 1 [iZ 1]:=by
 have:=KT mg _ 4 0 [2,1,99,7,0] W Kw h
 rw [amg] at this;exact this
theorem ajJ {g:Nat} {W:World} (h:bG W W.heap.size (.slice (some ⟨g,0,none⟩) 4 4) mg) :
  Calls Tryz.prog 21 #[.agg #[.slice (some ⟨g,0,none⟩) 4 4],.int .i64 0,.string ⟨#[2,1,3,7,2,97,98,8,1,5]⟩] W fun e w' => e = .returned (.tuple #[.int .i64 1,.int .i64 0])∧Below W.heap.size W w':=by
 have:=WW mg _ 4 0 [2,1,3,7,2,97,98,8,1,5] W Kw (fun v hv W vk vi vr h1 h2 => by
  rw [ahW] at hv;injection hv with hv;injection hv with hv;subst hv
  obtain ⟨A1,n1,A2,n2,A3,n3,rfl,rfl,rfl,-,-,-⟩:=h1.forms
  exact adT mg _ 4 0 exU A1 A2 A3 n1 n2 n3 W (by decide) rfl rfl h2 h1 ami (fun y hy t yk yi yr W hf hv hT => adU mg _ 4 y (by
   simp only [exU,exI,Val.keys,Val.items,List.nil_append,List.mem_cons,List.not_mem_nil,or_false] at hy
   rcases hy with rfl | rfl | rfl <;> simp [Qk,ahH,Val.kind]) t yk yi yr W hf hv hT)) h
 rw [amj] at this;exact this
theorem ajK {g:Nat} {W:World} (h:bG W W.heap.size (.slice (some ⟨g,0,none⟩) 4 4) mg) :
  Calls Tryz.prog 14 #[.agg #[.slice (some ⟨g,0,none⟩) 4 4],.int .i64 0,.string ⟨#[2,1,3,7,2,97,98,9,1,5]⟩] W fun e w' => e = .returned (.bool false)∧Below W.heap.size W w':=by
 have:=KU mg _ 4 0 [2,1,3,7,2,97,98,9,1,5] W Kw h
 rw [amh] at this;exact this
theorem ajL {fp:Value} {W:World} (hT:AP W) (h:Rd W W.heap.size 1 fp 1 [iZ 1]) :
  Calls Tryz.prog 37 #[.agg #[fp,.int .i64 2]] W fun e w' => e = .returned (.string ⟨#[49,32,114,97,110,103,101]⟩)∧Below W.heap.size W w':=by
 have:=Zn [1] fp 2 W (by simp) (by simp [I64]) h hT
 rw [amk] at this;exact this
set_option maxRecDepth 100000 in
theorem EM (w:World) (hT:AP w):Calls Tryz.prog 9 #[] w fun e w' => e = .returned (.bool true)∧Below w.heap.size w w':=by
 have HT:=Lib.hid hT
 clear hT
 go_enter Tryz.func9,Tryz.ntmps9
 go_wp2_with fail
 ((with_reducible refine (AO _).mono ?_);rintro e wd1 ⟨g1,rfl,hT1,hb2⟩)
 have hw3:=hb2
 clear hb2
 go_wp2_with fail
 obtain ⟨LX,rP⟩ : ∃ n,n=(wd1).heap.size:=⟨_,rfl⟩
 have hzl:=(hw3).size
 rw [← rP] at hzl
 ((with_reducible refine (ajH hT1).mono ?_);rintro e wd4 ⟨hb5,vk,vi,vr,rfl,hv⟩)
 replace hw3:=dT hw3 hb5
 clear hb5
 clear hT1
 obtain ⟨A1,n1,A2,n2,A3,n3,rfl,rfl,rfl⟩ : ∃ A1 n1 A2 n2 A3 n3,vk = .slice A1 0 n1∧vi = .slice A2 3 n2∧vr = .slice A3 0 n3:=by
  obtain ⟨_,⟨A1,n1,h1,_⟩,_⟩:=hv.keys
  obtain ⟨_,⟨A2,n2,h2,_⟩,_⟩:=hv.items
  obtain ⟨_,A3,n3,h3,_⟩:=hv.rest
  exact ⟨A1,n1,A2,n2,A3,n3,h1,h2,h3⟩
 obtain ⟨BX,yU⟩ : ∃ n,n=(wd4).heap.size:=⟨_,rfl⟩
 have N:=Lib.hid (Kept.Yv hv rP yU)
 clear hv rP yU
 have MV:=Has.made wd4 30 #[.int .i64 0,.bool false,.int .i64 0,.string ⟨#[]⟩,.int .i64 0,.slice none 0 0,.slice none 0 0,.slice none 0 0]
 go_upto_region 2 with (refine wpList_store_row rfl 30 _ _ rfl wd4.heap.size _ rfl rfl 30 _ MV (by kernel_rfl) rfl (by simp [Value.oneCell']) ?_)
 clear MV
 generalize yI:wd4.alloc _=oW
 have ⟨hb6,V⟩:=bH yI
 clear yI
 have Ls:=N.out.le
 have Pq:=hw3.size
 replace N:=b1 N hb6
 replace hw3:=dT hw3 hb6
 clear hb6
 generalize wd4.heap.size=g9 at *
 generalize lU:oW.setRow _ _=xJ
 replace N:=f1 N (eR lU)
 replace V:=aK V lU
 replace hw3:=tr hw3 lU
 clear lU
 obtain ⟨gV,rfl⟩ : ∃ g,g=g9:=⟨_,rfl⟩
 go_wp2_with fail
 ((with_reducible refine (AO _).mono ?_);rintro e xP ⟨g2,rfl,hT2,uV⟩)
 obtain ⟨V,N⟩:=b2 V N uV
 replace hw3:=dT hw3 uV
 clear uV
 go_wp2_with fail
 obtain ⟨LY,V7⟩ : ∃ n,n=(xP).heap.size:=⟨_,rfl⟩
 have hvl:=V.out.here
 have hwl:=(hw3).size
 rw [← V7] at hvl hwl
 ((with_reducible refine (ajI hT2).mono ?_);rintro e qH ⟨kW,fp,rfl,hown⟩)
 obtain ⟨V,N⟩:=b2 V N kW
 replace hw3:=dT hw3 kW
 clear kW
 clear hT2
 obtain ⟨Af,cf,rfl⟩:=aF hown
 rw [← V7] at hown
 clear V7
 obtain ⟨BY,Q9⟩ : ∃ n,n=(qH).heap.size:=⟨_,rfl⟩
 have FP:=Lib.hid (Kept.kM hown Q9)
 clear hown Q9
 have MV:=Has.made qH 38 #[.slice none 0 0,.int .i64 0]
 go_upto_region 3 with (refine wpList_store_row rfl 38 _ _ rfl qH.heap.size _ rfl rfl 38 _ MV (by kernel_rfl) rfl (by simp [Value.oneCell']) ?_)
 clear MV
 generalize hE20:qH.alloc _=nY
 have ⟨rV,F⟩:=bH hE20
 clear hE20
 have UK:=V.out.here
 have Pv:=N.out.le
 have Gf:=FP.out.le
 have PW:=hw3.size
 obtain ⟨V,N,FP⟩:=b3 V N FP rV
 replace hw3:=dT hw3 rV
 clear rV
 generalize qH.heap.size=g21 at *
 generalize oJ:nY.setRow _ _=qZ
 obtain ⟨V,N,FP⟩:=f3 V N FP (eR oJ)
 replace F:=aK F oJ
 replace hw3:=tr hw3 oJ
 clear oJ
 obtain ⟨gF,rfl⟩ : ∃ g,g=g21:=⟨_,rfl⟩
 go_wp2_with fail
 ((with_reducible refine (AO _).mono ?_);rintro e zQ ⟨g3,rfl,hT3,yZ⟩)
 obtain ⟨V,F,N,FP⟩:=b4 V F N FP yZ
 replace hw3:=dT hw3 yZ
 clear yZ
 go_wp2_with fail
 ((with_reducible refine (ajJ hT3).mono ?_);rintro e nX ⟨rfl,DI⟩)
 obtain ⟨V,F,N,FP⟩:=b4 V F N FP DI
 replace hw3:=dT hw3 DI
 clear DI
 clear hT3
 obtain ⟨eH,dP,eP,eU,dY,dW,dK,eG⟩:=V.out.c8
 go_upto_region 5 with fail
 have hv1:=((N.out.now.Yw (w:=w) (by omega) N.out.le).at_ (fun b hb => by unfold Jg at hb;omega):ValAt nX nX.heap.size exV _ (.slice A2 3 n2) _)
 obtain ⟨b1,o1,rfl,hb1,hel⟩:=hv1.items.elem (by decide)
 obtain ⟨_,_,_,h1,_⟩:=hel 0 (by decide)
 obtain ⟨_,_,_,h2,_⟩:=hel 1 (by decide)
 obtain ⟨_,_,_,h3,_⟩:=hel 2 (by decide)
 have i1:nX.cell? ⟨b1,o1+2,none⟩=some (.int .i64 (-2)):=h1.2.2.1
 have i2:nX.cell? ⟨b1,o1+8+2,none⟩=some (.int .i64 3):=h2.2.2.1
 have i3:nX.cell? ⟨b1,o1+16+3,none⟩=some (.string ⟨#[97,98]⟩):=h3.2.2.2.1
 clear hv1 hel h1 h2 h3
 obtain ⟨zO,uS⟩:=F.out.c2
 go_wp2_with fail
 clear eH dP eP eU dY dW dK eG zO uS
 ((with_reducible refine (ajL (HT.out.on hw3) (Rd.pq FP.out.now)).mono ?_);rintro e zC ⟨rfl,qK⟩)
 obtain ⟨V,F,N,FP⟩:=b4 V F N FP qK
 replace hw3:=dT hw3 qK
 clear qK
 clear i1 i2 i3
 go_wp2_with fail
 ((with_reducible refine (AO _).mono ?_);rintro e tV ⟨g4,rfl,hT4,jL⟩)
 obtain ⟨V,F,N,FP⟩:=b4 V F N FP jL
 replace hw3:=dT hw3 jL
 clear jL
 go_wp2_with fail
 ((with_reducible refine (ajK hT4).mono ?_);rintro e o9 ⟨rfl,Ac⟩)
 obtain ⟨V,F,N,FP⟩:=b4 V F N FP Ac
 replace hw3:=dT hw3 Ac
 clear Ac
 clear hT4
 go_wp2_with fail
 go_ret
 exact ⟨rfl,hw3⟩
end Go.Proofs.YthkfapcadhnaeaaGreatDoor
