/- Decode, Explain, Accepts. No condition. -/
import Derived.Test.YthkfapcadhnaeaaGreatDoorDecT
set_option maxHeartbeats 1600000
namespace Go.Proofs.YthkfapcadhnaeaaGreatDoor
open Go.ChangeShapes Go.WideShapes Go.ChangeAt Go.RowKit
def Yu (w:World) (r:Except Int fO) (e:Ending) (w':World):Prop:=Below w.heap.size w w'∧match r with
 | .error er => e = .returned (.tuple #[pW,.int .i64 er])
 | .ok (.ok v) => ∃ vk vi vr,e = .returned (.tuple #[iC v vk vi vr,.int .i64 0])∧jq w' (Jg w w') v vk vi vr
 | .ok (.error _) => e = .returned (.tuple #[pW,.int .i64 12])
def zV (w:World) (r:Except Int fO) (e:Ending) (w':World):Prop:=Below w.heap.size w w'∧match r with
 | .error er => e = .returned (.tuple #[.agg #[.slice none 0 0,.int .i64 0],.int .i64 er])
 | .ok (.ok _) => e = .returned (.tuple #[.agg #[.slice none 0 0,.int .i64 0],.int .i64 15])
 | .ok (.error (p,n)) => ∃ fp,e = .returned (.tuple #[.agg #[fp,.int .i64 n],.int .i64 0])∧w'.ownsRow w.heap.size 3 1 fp p.length (p.map iZ)
def ads (L B:Nat) (v:Val) (vk vi vr:Value) (W:World):Prop := ∃ S:Nat→Prop,jq W S v vk vi vr∧∀ k,S k→L≤k∧k < B
theorem Kept.Yv {w0 W:World} {v:Val} {vk vi vr:Value} {L B:Nat} (h:jq W (Jg w0 W) v vk vi vr) (hL:L=w0.heap.size) (hB:B=W.heap.size):Kept (ads L B v vk vi vr) W L B:=by
 subst hL;subst hB
 exact ⟨⟨_,h,fun k h => h⟩,fun _ hk => ⟨_,h.keep (fun p hp => World.cell?_of_block (hk p.block hp.1 hp.2)) (fun _ h => h),fun k h => h⟩,Nat.le_refl _⟩
theorem ads.Yw {w W:World} {v:Val} {vk vi vr:Value} {L B:Nat} (h:ads L B v vk vi vr W) (hL:w.heap.size≤L) (hB:B≤W.heap.size):jq W (Jg w W) v vk vi vr:=by
 obtain ⟨S,h1,h2⟩:=h
 exact h1.keep (fun _ _ => rfl) fun k hk => ⟨Nat.le_trans hL (h2 k hk).1,Nat.lt_of_lt_of_le (h2 k hk).2 hB⟩
def okR:Except Int fO→Bool
 | .ok (.ok _) => true
 | _ => false
/- the two results behind the call of read, laid in blocks of their own -/
set_option maxRecDepth 100000 in
theorem decode_any (ts:List aC) (A:Option Addr) (c:Nat) (t:Int) (m:List UInt8) (w:World) (hs:Sizes ts) (hT:bG w w.heap.size (.slice A ts.length c) ts) :
  Calls Tryz.prog 11 #[.agg #[.slice A ts.length c],.int .i64 t,.string ⟨m.toArray⟩] w (Yu w (iE ts t m)):=by
 have HT:=Lib.hid hT
 have rU:=Lib.hid (fun W h => GI ts A c t m W hs h)
 generalize iE ts t m=r at *
 clear hT hs
 go_enter Tryz.func11,Tryz.ntmps11
 go_upto_region 1 with fail
 generalize dJ:w.alloc _=wd2
 generalize jD:wd2.alloc _=wd4
 have ⟨hb1,S,Z⟩:=dN dJ jD
 clear dJ jD
 have hw6:=hb1
 clear hb1
 have ay:=S.out.e0
 rcases r with er | ⟨⟨p,n⟩ | v⟩
 ·
  go_wp2_with fail
  clear ay
  ((with_reducible refine (rU.out _ (HT.out.on hw6)).mono ?_);rintro e oW ⟨hb8,rfl⟩)
  obtain ⟨S,Z⟩:=b2 S Z hb8
  replace hw6:=dT hw6 hb8
  clear hb8
  simp only [pW]
  have MV:Has ((oW.alloc (.cells #[.int .i64 0,.bool false,.int .i64 0,.string ⟨#[]⟩,.int .i64 0,.slice none 0 0,.slice none 0 0,.slice none 0 0] 30)).alloc (.cells #[.slice none 0 0,.int .i64 0] 38)) oW.heap.size 30 #[.int .i64 0,.bool false,.int .i64 0,.string ⟨#[]⟩,.int .i64 0,.slice none 0 0,.slice none 0 0,.slice none 0 0]:=(Has.made _ _ _).alloc _
  have MF:Has (((oW.alloc (.cells #[.int .i64 0,.bool false,.int .i64 0,.string ⟨#[]⟩,.int .i64 0,.slice none 0 0,.slice none 0 0,.slice none 0 0] 30)).alloc (.cells #[.slice none 0 0,.int .i64 0] 38)).setRow oW.heap.size #[.int .i64 0,.bool false,.int .i64 0,.string ⟨#[]⟩,.int .i64 0,.slice none 0 0,.slice none 0 0,.slice none 0 0]) (oW.heap.size+1) 38 #[.slice none 0 0,.int .i64 0]:=kR (by
   have h:=Has.made (oW.alloc (.cells #[.int .i64 0,.bool false,.int .i64 0,.string ⟨#[]⟩,.int .i64 0,.slice none 0 0,.slice none 0 0,.slice none 0 0] 30)) 38 #[.slice none 0 0,.int .i64 0]
   rwa [mJ] at h) (by omega)
  go_upto_region 2 with (first | (refine wpList_store_row rfl 30 _ _ rfl oW.heap.size _ rfl rfl 30 _ MV (by kernel_rfl) rfl (by simp [Value.oneCell']) ?_) | (refine wpList_store_row rfl 38 _ _ rfl (oW.heap.size+1) _ rfl rfl 38 _ MF (by kernel_rfl) rfl (by simp [Value.oneCell']) ?_))
  clear MV MF
  generalize jZ:oW.alloc _=kE
  generalize lU:kE.alloc _=xJ
  have ⟨zB,V,F⟩:=dN jZ lU
  clear jZ lU
  have ahz:=S.out.here
  have Yg:=Z.out.here
  have PV:=hw6.size
  obtain ⟨S,Z⟩:=b2 S Z zB
  replace hw6:=dT hw6 zB
  clear zB
  generalize oW.heap.size=g14 at *
  generalize kV:xJ.setRow _ _=qY
  obtain ⟨S,Z,F⟩:=f3 S Z F (eR kV)
  replace V:=aK V kV
  replace hw6:=tr hw6 kV
  clear kV
  generalize kD:qY.setRow _ _=nS
  obtain ⟨S,Z,V⟩:=f3 S Z V (eR kD)
  replace F:=aK F kD
  replace hw6:=tr hw6 kD
  clear kD
  obtain ⟨eH,dP,eP,eU,dY,dW,dK,eG⟩:=V.out.c8
  go_wp2_with (refine sR Z.out ?_)
  clear eH dP eP eU dY dW dK eG
  generalize mV:nS.setRow _ _=rC
  obtain ⟨S,V,F⟩:=f3 S V F (eR mV)
  replace Z:=aK Z mV
  replace hw6:=tr hw6 mV
  clear mV
  exact bodyPost_ret (v:=.tuple #[.agg #[.int .i64 0,.bool false,.int .i64 0,.string ⟨#[]⟩,.int .i64 0,.slice none 0 0,.slice none 0 0,.slice none 0 0],.int .i64 er]) (by simp [results,Tryz.results11,go_sem,Z.out.c8]) rfl (⟨hw6,rfl⟩)
 ·
  go_wp2_with fail
  clear ay
  ((with_reducible refine (rU.out _ (HT.out.on hw6)).mono ?_);rintro e kF ⟨pY,fp,rfl,hown⟩)
  obtain ⟨S,Z⟩:=b2 S Z pY
  replace hw6:=dT hw6 pY
  clear pY
  obtain ⟨Af,cf,rfl⟩:=aF hown
  clear hown
  simp only [pW]
  have MV:Has ((kF.alloc (.cells #[.int .i64 0,.bool false,.int .i64 0,.string ⟨#[]⟩,.int .i64 0,.slice none 0 0,.slice none 0 0,.slice none 0 0] 30)).alloc (.cells #[.slice none 0 0,.int .i64 0] 38)) kF.heap.size 30 #[.int .i64 0,.bool false,.int .i64 0,.string ⟨#[]⟩,.int .i64 0,.slice none 0 0,.slice none 0 0,.slice none 0 0]:=(Has.made _ _ _).alloc _
  have MF:Has (((kF.alloc (.cells #[.int .i64 0,.bool false,.int .i64 0,.string ⟨#[]⟩,.int .i64 0,.slice none 0 0,.slice none 0 0,.slice none 0 0] 30)).alloc (.cells #[.slice none 0 0,.int .i64 0] 38)).setRow kF.heap.size #[.int .i64 0,.bool false,.int .i64 0,.string ⟨#[]⟩,.int .i64 0,.slice none 0 0,.slice none 0 0,.slice none 0 0]) (kF.heap.size+1) 38 #[.slice none 0 0,.int .i64 0]:=kR (by
   have h:=Has.made (kF.alloc (.cells #[.int .i64 0,.bool false,.int .i64 0,.string ⟨#[]⟩,.int .i64 0,.slice none 0 0,.slice none 0 0,.slice none 0 0] 30)) 38 #[.slice none 0 0,.int .i64 0]
   rwa [mJ] at h) (by omega)
  go_upto_region 2 with (first | (refine wpList_store_row rfl 30 _ _ rfl kF.heap.size _ rfl rfl 30 _ MV (by kernel_rfl) rfl (by simp [Value.oneCell']) ?_) | (refine wpList_store_row rfl 38 _ _ rfl (kF.heap.size+1) _ rfl rfl 38 _ MF (by kernel_rfl) rfl (by simp [Value.oneCell']) ?_))
  clear MV MF
  generalize tY:kF.alloc _=uX
  generalize tJ:uX.alloc _=Bo
  have ⟨Fp,V,F⟩:=dN tY tJ
  clear tY tJ
  have UH:=S.out.here
  have PK:=Z.out.here
  have XP:=hw6.size
  obtain ⟨S,Z⟩:=b2 S Z Fp
  replace hw6:=dT hw6 Fp
  clear Fp
  generalize kF.heap.size=g31 at *
  generalize yc:Bo.setRow _ _=uO
  obtain ⟨S,Z,F⟩:=f3 S Z F (eR yc)
  replace V:=aK V yc
  replace hw6:=tr hw6 yc
  clear yc
  generalize ML:uO.setRow _ _=Fg
  obtain ⟨S,Z,V⟩:=f3 S Z V (eR ML)
  replace F:=aK F ML
  replace hw6:=tr hw6 ML
  clear ML
  obtain ⟨eH,dP,eP,eU,dY,dW,dK,eG⟩:=V.out.c8
  go_wp2_with (refine sR Z.out ?_)
  clear eH dP eP eU dY dW dK eG
  generalize uY:Fg.setRow _ _=MN
  obtain ⟨S,V,F⟩:=f3 S V F (eR uY)
  replace Z:=aK Z uY
  replace hw6:=tr hw6 uY
  clear uY
  exact bodyPost_ret (v:=.tuple #[.agg #[.int .i64 0,.bool false,.int .i64 0,.string ⟨#[]⟩,.int .i64 0,.slice none 0 0,.slice none 0 0,.slice none 0 0],.int .i64 12]) (by simp [results,Tryz.results11,go_sem,Z.out.c8]) rfl (⟨hw6,rfl⟩)
 obtain ⟨LX,rP⟩ : ∃ n,n=(wd4).heap.size:=⟨_,rfl⟩
 have hzl:=Z.out.here
 rw [← rP] at hzl
 go_wp2_with fail
 clear ay
 ((with_reducible refine (rU.out _ (HT.out.on hw6)).mono ?_);rintro e kX ⟨sF,vk,vi,vr,rfl,hv⟩)
 obtain ⟨S,Z⟩:=b2 S Z sF
 replace hw6:=dT hw6 sF
 clear sF
 obtain ⟨A1,n1,A2,n2,A3,n3,rfl,rfl,rfl⟩ : ∃ A1 n1 A2 n2 A3 n3,vk = .slice A1 v.keys.length n1∧vi = .slice A2 v.items.length n2∧vr = .slice A3 v.rest.length n3:=by
  obtain ⟨_,⟨A1,n1,h1,_⟩,_⟩:=hv.keys
  obtain ⟨_,⟨A2,n2,h2,_⟩,_⟩:=hv.items
  obtain ⟨_,A3,n3,h3,_⟩:=hv.rest
  exact ⟨A1,n1,A2,n2,A3,n3,h1,h2,h3⟩
 obtain ⟨BX,yU⟩ : ∃ n,n=(kX).heap.size:=⟨_,rfl⟩
 have N:=Lib.hid (Kept.Yv hv rP yU)
 clear hv rP yU
 simp only [iC]
 have MV:Has ((kX.alloc (.cells #[.int .i64 0,.bool false,.int .i64 0,.string ⟨#[]⟩,.int .i64 0,.slice none 0 0,.slice none 0 0,.slice none 0 0] 30)).alloc (.cells #[.slice none 0 0,.int .i64 0] 38)) kX.heap.size 30 #[.int .i64 0,.bool false,.int .i64 0,.string ⟨#[]⟩,.int .i64 0,.slice none 0 0,.slice none 0 0,.slice none 0 0]:=(Has.made _ _ _).alloc _
 have MF:Has (((kX.alloc (.cells #[.int .i64 0,.bool false,.int .i64 0,.string ⟨#[]⟩,.int .i64 0,.slice none 0 0,.slice none 0 0,.slice none 0 0] 30)).alloc (.cells #[.slice none 0 0,.int .i64 0] 38)).setRow kX.heap.size #[.int .i64 v.kind,.bool v.bool,.int .i64 v.num,.string ⟨v.str.toArray⟩,.int .i64 v.id,.slice A1 v.keys.length n1,.slice A2 v.items.length n2,.slice A3 v.rest.length n3]) (kX.heap.size+1) 38 #[.slice none 0 0,.int .i64 0]:=kR (by
  have h:=Has.made (kX.alloc (.cells #[.int .i64 0,.bool false,.int .i64 0,.string ⟨#[]⟩,.int .i64 0,.slice none 0 0,.slice none 0 0,.slice none 0 0] 30)) 38 #[.slice none 0 0,.int .i64 0]
  rwa [mJ] at h) (by omega)
 go_upto_region 2 with (first | (refine wpList_store_row rfl 30 _ _ rfl kX.heap.size _ rfl rfl 30 _ MV (by kernel_rfl) rfl (by simp [Value.oneCell']) ?_) | (refine wpList_store_row rfl 38 _ _ rfl (kX.heap.size+1) _ rfl rfl 38 _ MF (by kernel_rfl) rfl (by simp [Value.oneCell']) ?_))
 clear MV MF
 generalize mF:kX.alloc _=wI
 generalize nU:wI.alloc _=wF
 have ⟨xZ,V,F⟩:=dN mF nU
 clear mF nU
 have Yn:=S.out.here
 have Uz:=Z.out.here
 have Px:=N.out.le
 have LC:=hw6.size
 obtain ⟨S,Z,N⟩:=b3 S Z N xZ
 replace hw6:=dT hw6 xZ
 clear xZ
 generalize kX.heap.size=g48 at *
 generalize GV:wF.setRow _ _=adt
 obtain ⟨S,Z,F,N⟩:=f4 S Z F N (eR GV)
 replace V:=aK V GV
 replace hw6:=tr hw6 GV
 clear GV
 generalize jk:adt.setRow _ _=qE
 obtain ⟨S,Z,V,N⟩:=f4 S Z V N (eR jk)
 replace F:=aK F jk
 replace hw6:=tr hw6 jk
 clear jk
 obtain ⟨eH,dP,eP,eU,dY,dW,dK,eG⟩:=V.out.c8
 go_wp2_with (refine sR Z.out ?_)
 clear eH dP eP eU dY dW dK eG
 generalize Yx:qE.setRow _ _=al6
 obtain ⟨S,V,F,N⟩:=f4 S V F N (eR Yx)
 replace Z:=aK Z Yx
 replace hw6:=tr hw6 Yx
 clear Yx
 have hle:=N.out.le
 exact bodyPost_ret (v:=.tuple #[.agg #[.int .i64 v.kind,.bool v.bool,.int .i64 v.num,.string ⟨v.str.toArray⟩,.int .i64 v.id,.slice A1 v.keys.length n1,.slice A2 v.items.length n2,.slice A3 v.rest.length n3],.int .i64 0]) (by simp [results,Tryz.results11,go_sem,Z.out.c8]) rfl (⟨hw6,_,_,_,rfl,N.out.now.Yw (by omega) hle⟩)
theorem KQ (ts:List aC):∀ (l:List aC) (S:List (List UInt8)),jE ts l S=0∨jE ts l S=1∨jE ts l S=4
 | [],_ => .inl rfl
 | x :: r,S => by
  rw [jE]
  split
  · exact .inr (.inl rfl)
  split
  · exact .inr (.inr rfl)
  split
  · exact .inr (.inl rfl)
  exact KQ ts r _
theorem uZ {ts:List aC} {t:Int} {m:List UInt8} {er:Int} (h:iE ts t m = .error er):er=1∨er=3∨er=4:=by
 unfold iE at h
 split at h
 ·
  rename_i hv
  injection h with h;subst h
  unfold eY at hv ⊢
  split
  · exact .inr (.inl rfl)
  rename_i h32
  rw [if_neg h32] at hv
  rcases KQ ts ts [] with h | h | h
  · exact absurd h hv
  · exact .inl h
  exact .inr (.inr h)
 split at h
 · injection h with h;subst h;exact .inr (.inr rfl)
 split at h <;> cases h
set_option maxRecDepth 100000 in
theorem KT (ts:List aC) (A:Option Addr) (c:Nat) (t:Int) (m:List UInt8) (w:World) (hs:Sizes ts) (hT:bG w w.heap.size (.slice A ts.length c) ts) :
  Calls Tryz.prog 15 #[.agg #[.slice A ts.length c],.int .i64 t,.string ⟨m.toArray⟩] w (zV w (iE ts t m)):=by
 have hre:=fun er h => uZ (ts:=ts) (t:=t) (m:=m) (er:=er) h
 have HT:=Lib.hid hT
 have rU:=Lib.hid (fun W h => GI ts A c t m W hs h)
 generalize iE ts t m=r at *
 clear hT hs
 go_enter Tryz.func15,Tryz.ntmps15
 go_upto_region 1 with fail
 generalize vg:w.alloc _=zW
 generalize nV:zW.alloc _=wG
 have ⟨yX,S,Z⟩:=dN vg nV
 clear vg nV
 have hw64:=yX
 clear yX
 have ay:=S.out.e0
 rcases r with er | ⟨⟨p,n⟩ | v⟩
 ·
  have her:=hre er rfl
  have he1:¬ er=0:=by omega
  have he2:¬ er=12:=by omega
  clear hre her
  go_wp2_with fail
  clear ay
  ((with_reducible refine (rU.out _ (HT.out.on hw64)).mono ?_);rintro e Fq ⟨DR,rfl⟩)
  obtain ⟨S,Z⟩:=b2 S Z DR
  replace hw64:=dT hw64 DR
  clear DR
  simp only [pW]
  have MV:Has ((Fq.alloc (.cells #[.int .i64 0,.bool false,.int .i64 0,.string ⟨#[]⟩,.int .i64 0,.slice none 0 0,.slice none 0 0,.slice none 0 0] 30)).alloc (.cells #[.slice none 0 0,.int .i64 0] 38)) Fq.heap.size 30 #[.int .i64 0,.bool false,.int .i64 0,.string ⟨#[]⟩,.int .i64 0,.slice none 0 0,.slice none 0 0,.slice none 0 0]:=(Has.made _ _ _).alloc _
  have MF:Has (((Fq.alloc (.cells #[.int .i64 0,.bool false,.int .i64 0,.string ⟨#[]⟩,.int .i64 0,.slice none 0 0,.slice none 0 0,.slice none 0 0] 30)).alloc (.cells #[.slice none 0 0,.int .i64 0] 38)).setRow Fq.heap.size #[.int .i64 0,.bool false,.int .i64 0,.string ⟨#[]⟩,.int .i64 0,.slice none 0 0,.slice none 0 0,.slice none 0 0]) (Fq.heap.size+1) 38 #[.slice none 0 0,.int .i64 0]:=kR (by
   have h:=Has.made (Fq.alloc (.cells #[.int .i64 0,.bool false,.int .i64 0,.string ⟨#[]⟩,.int .i64 0,.slice none 0 0,.slice none 0 0,.slice none 0 0] 30)) 38 #[.slice none 0 0,.int .i64 0]
   rwa [mJ] at h) (by omega)
  go_upto_region 2 with (first | (refine wpList_store_row rfl 30 _ _ rfl Fq.heap.size _ rfl rfl 30 _ MV (by kernel_rfl) rfl (by simp [Value.oneCell']) ?_) | (refine wpList_store_row rfl 38 _ _ rfl (Fq.heap.size+1) _ rfl rfl 38 _ MF (by kernel_rfl) rfl (by simp [Value.oneCell']) ?_))
  clear MV MF
  generalize zX:Fq.alloc _=MO
  generalize Fv:MO.alloc _=GX
  have ⟨adu,V,F⟩:=dN zX Fv
  clear zX Fv
  have LG:=S.out.here
  have UD:=Z.out.here
  have Py:=hw64.size
  obtain ⟨S,Z⟩:=b2 S Z adu
  replace hw64:=dT hw64 adu
  clear adu
  generalize Fq.heap.size=g72 at *
  generalize yV:GX.setRow _ _=P8
  obtain ⟨S,Z,F⟩:=f3 S Z F (eR yV)
  replace V:=aK V yV
  replace hw64:=tr hw64 yV
  clear yV
  generalize GL:P8.setRow _ _=adp
  obtain ⟨S,Z,V⟩:=f3 S Z V (eR GL)
  replace F:=aK F GL
  replace hw64:=tr hw64 GL
  clear GL
  go_upto_region 7 with fail
  go_wp2_with (refine sR Z.out ?_)
  generalize GN:adp.setRow _ _=Yr
  obtain ⟨S,V,F⟩:=f3 S V F (eR GN)
  replace Z:=aK Z GN
  replace hw64:=tr hw64 GN
  clear GN
  exact bodyPost_ret (v:=.tuple #[.agg #[.slice none 0 0,.int .i64 0],.int .i64 er]) (by simp [results,Tryz.results15,go_sem,Z.out.c2]) rfl (⟨hw64,rfl⟩)
 ·
  clear hre
  obtain ⟨LX,rP⟩ : ∃ n,n=(wG).heap.size:=⟨_,rfl⟩
  have hzl:=Z.out.here
  rw [← rP] at hzl
  go_wp2_with fail
  clear ay
  ((with_reducible refine (rU.out _ (HT.out.on hw64)).mono ?_);rintro e zU ⟨Jh,fp,rfl,hown⟩)
  obtain ⟨S,Z⟩:=b2 S Z Jh
  replace hw64:=dT hw64 Jh
  clear Jh
  obtain ⟨Af,cf,rfl⟩:=aF hown
  rw [← rP] at hown
  clear rP
  have FP:=Lib.hid (Kept.own hown)
  clear hown
  simp only [pW]
  have MV:Has ((zU.alloc (.cells #[.int .i64 0,.bool false,.int .i64 0,.string ⟨#[]⟩,.int .i64 0,.slice none 0 0,.slice none 0 0,.slice none 0 0] 30)).alloc (.cells #[.slice none 0 0,.int .i64 0] 38)) zU.heap.size 30 #[.int .i64 0,.bool false,.int .i64 0,.string ⟨#[]⟩,.int .i64 0,.slice none 0 0,.slice none 0 0,.slice none 0 0]:=(Has.made _ _ _).alloc _
  have MF:Has (((zU.alloc (.cells #[.int .i64 0,.bool false,.int .i64 0,.string ⟨#[]⟩,.int .i64 0,.slice none 0 0,.slice none 0 0,.slice none 0 0] 30)).alloc (.cells #[.slice none 0 0,.int .i64 0] 38)).setRow zU.heap.size #[.int .i64 0,.bool false,.int .i64 0,.string ⟨#[]⟩,.int .i64 0,.slice none 0 0,.slice none 0 0,.slice none 0 0]) (zU.heap.size+1) 38 #[.slice none 0 0,.int .i64 0]:=kR (by
   have h:=Has.made (zU.alloc (.cells #[.int .i64 0,.bool false,.int .i64 0,.string ⟨#[]⟩,.int .i64 0,.slice none 0 0,.slice none 0 0,.slice none 0 0] 30)) 38 #[.slice none 0 0,.int .i64 0]
   rwa [mJ] at h) (by omega)
  go_upto_region 2 with (first | (refine wpList_store_row rfl 30 _ _ rfl zU.heap.size _ rfl rfl 30 _ MV (by kernel_rfl) rfl (by simp [Value.oneCell']) ?_) | (refine wpList_store_row rfl 38 _ _ rfl (zU.heap.size+1) _ rfl rfl 38 _ MF (by kernel_rfl) rfl (by simp [Value.oneCell']) ?_))
  clear MV MF
  generalize tC:zU.alloc _=Gj
  generalize Fz:Gj.alloc _=DJ
  have ⟨wC,V,F⟩:=dN tC Fz
  clear tC Fz
  have XK:=S.out.here
  have XL:=Z.out.here
  have UE:=FP.out.le
  have adv:=hw64.size
  obtain ⟨S,Z,FP⟩:=b3 S Z FP wC
  replace hw64:=dT hw64 wC
  clear wC
  generalize zU.heap.size=g89 at *
  generalize zY:DJ.setRow _ _=DV
  obtain ⟨S,Z,F,FP⟩:=f4 S Z F FP (eR zY)
  replace V:=aK V zY
  replace hw64:=tr hw64 zY
  clear zY
  generalize BA:DV.setRow _ _=Yy
  obtain ⟨S,Z,V,FP⟩:=f4 S Z V FP (eR BA)
  replace F:=aK F BA
  replace hw64:=tr hw64 BA
  clear BA
  obtain ⟨zO,uS⟩:=F.out.c2
  go_upto_region 6 with fail
  go_wp2_with (refine sR Z.out ?_)
  clear zO uS
  generalize zZ:Yy.setRow _ _=Ji
  obtain ⟨S,V,F,FP⟩:=f4 S V F FP (eR zZ)
  replace Z:=aK Z zZ
  replace hw64:=tr hw64 zZ
  clear zZ
  exact bodyPost_ret (v:=.tuple #[.agg #[.slice Af p.length cf,.int .i64 n],.int .i64 0]) (by simp [results,Tryz.results15,go_sem,Z.out.c2]) rfl (⟨hw64,_,rfl,aH FP.out.now (by omega)⟩)
 clear hre
 go_wp2_with fail
 clear ay
 ((with_reducible refine (rU.out _ (HT.out.on hw64)).mono ?_);rintro e uh ⟨yY,vk,vi,vr,rfl,hv⟩)
 obtain ⟨S,Z⟩:=b2 S Z yY
 replace hw64:=dT hw64 yY
 clear yY
 obtain ⟨A1,n1,A2,n2,A3,n3,rfl,rfl,rfl⟩ : ∃ A1 n1 A2 n2 A3 n3,vk = .slice A1 v.keys.length n1∧vi = .slice A2 v.items.length n2∧vr = .slice A3 v.rest.length n3:=by
  obtain ⟨_,⟨A1,n1,h1,_⟩,_⟩:=hv.keys
  obtain ⟨_,⟨A2,n2,h2,_⟩,_⟩:=hv.items
  obtain ⟨_,A3,n3,h3,_⟩:=hv.rest
  exact ⟨A1,n1,A2,n2,A3,n3,h1,h2,h3⟩
 clear hv
 simp only [iC]
 have MV:Has ((uh.alloc (.cells #[.int .i64 0,.bool false,.int .i64 0,.string ⟨#[]⟩,.int .i64 0,.slice none 0 0,.slice none 0 0,.slice none 0 0] 30)).alloc (.cells #[.slice none 0 0,.int .i64 0] 38)) uh.heap.size 30 #[.int .i64 0,.bool false,.int .i64 0,.string ⟨#[]⟩,.int .i64 0,.slice none 0 0,.slice none 0 0,.slice none 0 0]:=(Has.made _ _ _).alloc _
 have MF:Has (((uh.alloc (.cells #[.int .i64 0,.bool false,.int .i64 0,.string ⟨#[]⟩,.int .i64 0,.slice none 0 0,.slice none 0 0,.slice none 0 0] 30)).alloc (.cells #[.slice none 0 0,.int .i64 0] 38)).setRow uh.heap.size #[.int .i64 v.kind,.bool v.bool,.int .i64 v.num,.string ⟨v.str.toArray⟩,.int .i64 v.id,.slice A1 v.keys.length n1,.slice A2 v.items.length n2,.slice A3 v.rest.length n3]) (uh.heap.size+1) 38 #[.slice none 0 0,.int .i64 0]:=kR (by
  have h:=Has.made (uh.alloc (.cells #[.int .i64 0,.bool false,.int .i64 0,.string ⟨#[]⟩,.int .i64 0,.slice none 0 0,.slice none 0 0,.slice none 0 0] 30)) 38 #[.slice none 0 0,.int .i64 0]
  rwa [mJ] at h) (by omega)
 go_upto_region 2 with (first | (refine wpList_store_row rfl 30 _ _ rfl uh.heap.size _ rfl rfl 30 _ MV (by kernel_rfl) rfl (by simp [Value.oneCell']) ?_) | (refine wpList_store_row rfl 38 _ _ rfl (uh.heap.size+1) _ rfl rfl 38 _ MF (by kernel_rfl) rfl (by simp [Value.oneCell']) ?_))
 clear MV MF
 generalize GY:uh.alloc _=RP
 generalize vT:RP.alloc _=Ob
 have ⟨Eh,V,F⟩:=dN GY vT
 clear GY vT
 have J6:=S.out.here
 have Ol:=Z.out.here
 have Om:=hw64.size
 obtain ⟨S,Z⟩:=b2 S Z Eh
 replace hw64:=dT hw64 Eh
 clear Eh
 generalize uh.heap.size=aq0 at *
 generalize oM:Ob.setRow _ _=EC
 obtain ⟨S,Z,F⟩:=f3 S Z F (eR oM)
 replace V:=aK V oM
 replace hw64:=tr hw64 oM
 clear oM
 generalize Cb:EC.setRow _ _=Oo
 obtain ⟨S,Z,V⟩:=f3 S Z V (eR Cb)
 replace F:=aK F Cb
 replace hw64:=tr hw64 Cb
 clear Cb
 go_upto_region 4 with fail
 go_wp2_with (refine sR Z.out ?_)
 generalize Cc:Oo.setRow _ _=Si
 obtain ⟨S,V,F⟩:=f3 S V F (eR Cc)
 replace Z:=aK Z Cc
 replace hw64:=tr hw64 Cc
 clear Cc
 exact bodyPost_ret (v:=.tuple #[.agg #[.slice none 0 0,.int .i64 0],.int .i64 15]) (by simp [results,Tryz.results15,go_sem,Z.out.c2]) rfl (⟨hw64,rfl⟩)
set_option maxRecDepth 100000 in
theorem KU (ts:List aC) (A:Option Addr) (c:Nat) (t:Int) (m:List UInt8) (w:World) (hs:Sizes ts) (hT:bG w w.heap.size (.slice A ts.length c) ts) :
  Calls Tryz.prog 14 #[.agg #[.slice A ts.length c],.int .i64 t,.string ⟨m.toArray⟩] w fun e w' => e = .returned (.bool (okR (iE ts t m)))∧Below w.heap.size w w':=by
 have hre:=fun er h => uZ (ts:=ts) (t:=t) (m:=m) (er:=er) h
 have HT:=Lib.hid hT
 have rU:=Lib.hid (fun W h => GI ts A c t m W hs h)
 generalize iE ts t m=r at *
 clear hT hs
 go_enter Tryz.func14,Tryz.ntmps14
 go_upto_region 1 with fail
 generalize Oq:w.alloc _=Yz
 have ⟨afh,S⟩:=bH Oq
 clear Oq
 have fP:=afh
 clear afh
 have ay:=S.out.e0
 rcases r with er | ⟨⟨p,n⟩ | v⟩
 ·
  have her:=hre er rfl
  have he1:(er == 0)=false:=by rw [beq_eq_false_iff_ne];omega
  clear hre her
  go_wp2_with fail
  clear ay
  ((with_reducible refine (rU.out _ (HT.out.on fP)).mono ?_);rintro e xE ⟨Ew,rfl⟩)
  replace S:=b1 S Ew
  replace fP:=dT fP Ew
  clear Ew
  simp only [pW]
  have MV:Has ((xE.alloc (.cells #[.int .i64 0,.bool false,.int .i64 0,.string ⟨#[]⟩,.int .i64 0,.slice none 0 0,.slice none 0 0,.slice none 0 0] 30)).alloc (.cells #[.slice none 0 0,.int .i64 0] 38)) xE.heap.size 30 #[.int .i64 0,.bool false,.int .i64 0,.string ⟨#[]⟩,.int .i64 0,.slice none 0 0,.slice none 0 0,.slice none 0 0]:=(Has.made _ _ _).alloc _
  have MF:Has (((xE.alloc (.cells #[.int .i64 0,.bool false,.int .i64 0,.string ⟨#[]⟩,.int .i64 0,.slice none 0 0,.slice none 0 0,.slice none 0 0] 30)).alloc (.cells #[.slice none 0 0,.int .i64 0] 38)).setRow xE.heap.size #[.int .i64 0,.bool false,.int .i64 0,.string ⟨#[]⟩,.int .i64 0,.slice none 0 0,.slice none 0 0,.slice none 0 0]) (xE.heap.size+1) 38 #[.slice none 0 0,.int .i64 0]:=kR (by
   have h:=Has.made (xE.alloc (.cells #[.int .i64 0,.bool false,.int .i64 0,.string ⟨#[]⟩,.int .i64 0,.slice none 0 0,.slice none 0 0,.slice none 0 0] 30)) 38 #[.slice none 0 0,.int .i64 0]
   rwa [mJ] at h) (by omega)
  go_upto_region 2 with (first | (refine wpList_store_row rfl 30 _ _ rfl xE.heap.size _ rfl rfl 30 _ MV (by kernel_rfl) rfl (by simp [Value.oneCell']) ?_) | (refine wpList_store_row rfl 38 _ _ rfl (xE.heap.size+1) _ rfl rfl 38 _ MF (by kernel_rfl) rfl (by simp [Value.oneCell']) ?_))
  clear MV MF
  generalize Ak:xE.alloc _=J7
  generalize GZ:J7.alloc _=YA
  have ⟨YB,V,F⟩:=dN Ak GZ
  clear Ak GZ
  have X6:=S.out.here
  have ae9:=fP.size
  replace S:=b1 S YB
  replace fP:=dT fP YB
  clear YB
  generalize xE.heap.size=aq1 at *
  generalize uo:YA.setRow _ _=G5
  obtain ⟨S,F⟩:=f2 S F (eR uo)
  replace V:=aK V uo
  replace fP:=tr fP uo
  clear uo
  generalize uq:G5.setRow _ _=YC
  obtain ⟨S,V⟩:=f2 S V (eR uq)
  replace F:=aK F uq
  replace fP:=tr fP uq
  clear uq
  go_wp2_with fail
  go_ret
  exact ⟨rfl,fP⟩
 ·
  clear hre
  go_wp2_with fail
  clear ay
  ((with_reducible refine (rU.out _ (HT.out.on fP)).mono ?_);rintro e xB ⟨YD,fp,rfl,hown⟩)
  replace S:=b1 S YD
  replace fP:=dT fP YD
  clear YD
  obtain ⟨Af,cf,rfl⟩:=aF hown
  clear hown
  simp only [pW]
  have MV:Has ((xB.alloc (.cells #[.int .i64 0,.bool false,.int .i64 0,.string ⟨#[]⟩,.int .i64 0,.slice none 0 0,.slice none 0 0,.slice none 0 0] 30)).alloc (.cells #[.slice none 0 0,.int .i64 0] 38)) xB.heap.size 30 #[.int .i64 0,.bool false,.int .i64 0,.string ⟨#[]⟩,.int .i64 0,.slice none 0 0,.slice none 0 0,.slice none 0 0]:=(Has.made _ _ _).alloc _
  have MF:Has (((xB.alloc (.cells #[.int .i64 0,.bool false,.int .i64 0,.string ⟨#[]⟩,.int .i64 0,.slice none 0 0,.slice none 0 0,.slice none 0 0] 30)).alloc (.cells #[.slice none 0 0,.int .i64 0] 38)).setRow xB.heap.size #[.int .i64 0,.bool false,.int .i64 0,.string ⟨#[]⟩,.int .i64 0,.slice none 0 0,.slice none 0 0,.slice none 0 0]) (xB.heap.size+1) 38 #[.slice none 0 0,.int .i64 0]:=kR (by
   have h:=Has.made (xB.alloc (.cells #[.int .i64 0,.bool false,.int .i64 0,.string ⟨#[]⟩,.int .i64 0,.slice none 0 0,.slice none 0 0,.slice none 0 0] 30)) 38 #[.slice none 0 0,.int .i64 0]
   rwa [mJ] at h) (by omega)
  go_upto_region 2 with (first | (refine wpList_store_row rfl 30 _ _ rfl xB.heap.size _ rfl rfl 30 _ MV (by kernel_rfl) rfl (by simp [Value.oneCell']) ?_) | (refine wpList_store_row rfl 38 _ _ rfl (xB.heap.size+1) _ rfl rfl 38 _ MF (by kernel_rfl) rfl (by simp [Value.oneCell']) ?_))
  clear MV MF
  generalize afi:xB.alloc _=Sj
  generalize Ot:Sj.alloc _=Sm
  have ⟨Gx,V,F⟩:=dN afi Ot
  clear afi Ot
  have aiR:=S.out.here
  have aiS:=fP.size
  replace S:=b1 S Gx
  replace fP:=dT fP Gx
  clear Gx
  generalize xB.heap.size=aq2 at *
  generalize nM:Sm.setRow _ _=NW
  obtain ⟨S,F⟩:=f2 S F (eR nM)
  replace V:=aK V nM
  replace fP:=tr fP nM
  clear nM
  generalize Ce:NW.setRow _ _=afj
  obtain ⟨S,V⟩:=f2 S V (eR Ce)
  replace F:=aK F Ce
  replace fP:=tr fP Ce
  clear Ce
  go_wp2_with fail
  go_ret
  exact ⟨rfl,fP⟩
 clear hre
 go_wp2_with fail
 clear ay
 ((with_reducible refine (rU.out _ (HT.out.on fP)).mono ?_);rintro e qN ⟨Am,vk,vi,vr,rfl,hv⟩)
 replace S:=b1 S Am
 replace fP:=dT fP Am
 clear Am
 obtain ⟨A1,n1,A2,n2,A3,n3,rfl,rfl,rfl⟩ : ∃ A1 n1 A2 n2 A3 n3,vk = .slice A1 v.keys.length n1∧vi = .slice A2 v.items.length n2∧vr = .slice A3 v.rest.length n3:=by
  obtain ⟨_,⟨A1,n1,h1,_⟩,_⟩:=hv.keys
  obtain ⟨_,⟨A2,n2,h2,_⟩,_⟩:=hv.items
  obtain ⟨_,A3,n3,h3,_⟩:=hv.rest
  exact ⟨A1,n1,A2,n2,A3,n3,h1,h2,h3⟩
 clear hv
 simp only [iC]
 have MV:Has ((qN.alloc (.cells #[.int .i64 0,.bool false,.int .i64 0,.string ⟨#[]⟩,.int .i64 0,.slice none 0 0,.slice none 0 0,.slice none 0 0] 30)).alloc (.cells #[.slice none 0 0,.int .i64 0] 38)) qN.heap.size 30 #[.int .i64 0,.bool false,.int .i64 0,.string ⟨#[]⟩,.int .i64 0,.slice none 0 0,.slice none 0 0,.slice none 0 0]:=(Has.made _ _ _).alloc _
 have MF:Has (((qN.alloc (.cells #[.int .i64 0,.bool false,.int .i64 0,.string ⟨#[]⟩,.int .i64 0,.slice none 0 0,.slice none 0 0,.slice none 0 0] 30)).alloc (.cells #[.slice none 0 0,.int .i64 0] 38)).setRow qN.heap.size #[.int .i64 v.kind,.bool v.bool,.int .i64 v.num,.string ⟨v.str.toArray⟩,.int .i64 v.id,.slice A1 v.keys.length n1,.slice A2 v.items.length n2,.slice A3 v.rest.length n3]) (qN.heap.size+1) 38 #[.slice none 0 0,.int .i64 0]:=kR (by
  have h:=Has.made (qN.alloc (.cells #[.int .i64 0,.bool false,.int .i64 0,.string ⟨#[]⟩,.int .i64 0,.slice none 0 0,.slice none 0 0,.slice none 0 0] 30)) 38 #[.slice none 0 0,.int .i64 0]
  rwa [mJ] at h) (by omega)
 go_upto_region 2 with (first | (refine wpList_store_row rfl 30 _ _ rfl qN.heap.size _ rfl rfl 30 _ MV (by kernel_rfl) rfl (by simp [Value.oneCell']) ?_) | (refine wpList_store_row rfl 38 _ _ rfl (qN.heap.size+1) _ rfl rfl 38 _ MF (by kernel_rfl) rfl (by simp [Value.oneCell']) ?_))
 clear MV MF
 generalize afk:qN.alloc _=ai9
 generalize afl:ai9.alloc _=aja
 have ⟨YE,V,F⟩:=dN afk afl
 clear afk afl
 have aiW:=S.out.here
 have aiX:=fP.size
 replace S:=b1 S YE
 replace fP:=dT fP YE
 clear YE
 generalize qN.heap.size=aq3 at *
 generalize uw:aja.setRow _ _=yN
 obtain ⟨S,F⟩:=f2 S F (eR uw)
 replace V:=aK V uw
 replace fP:=tr fP uw
 clear uw
 generalize Ci:yN.setRow _ _=Sr
 obtain ⟨S,V⟩:=f2 S V (eR Ci)
 replace F:=aK F Ci
 replace fP:=tr fP Ci
 clear Ci
 go_wp2_with fail
 go_ret
 exact ⟨rfl,fP⟩
end Go.Proofs.YthkfapcadhnaeaaGreatDoor
