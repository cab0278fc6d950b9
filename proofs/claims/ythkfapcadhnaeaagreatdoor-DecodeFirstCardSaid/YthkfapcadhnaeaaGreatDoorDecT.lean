/- read, Decode, Explain, Accepts. No condition. -/
import Derived.Test.YthkfapcadhnaeaaGreatDoorDecS
import Derived.Test.YthkfapcadhnaeaaGreatDoorValid
set_option maxHeartbeats 1600000
namespace Go.Proofs.YthkfapcadhnaeaaGreatDoor
open Go.ChangeShapes Go.WideShapes Go.ChangeAt Go.RowKit
theorem KO (ts:List aC):∀ (l:List aC) (S:List (List UInt8)),jE ts l S=0→∀ x ∈ l,dH x=true∧(jm x).all (inB ts.length)=true
 | [],_,_,x,hx => by simp at hx
 | y :: r,S,h,x,hx => by
  by_cases h1:dH y=false∨(y.name≠[]∧S.contains y.name=true)
  · rw [yM ts r y S h1] at h;cases h
  cases h2:(jm y).all (inB ts.length) with
  | false => rw [vk4 ts r y S h1 h2] at h;cases h
  | true =>
   by_cases h3:y.kind=8∧uj ts y=false
   · rw [Me ts r y S h1 h2 h3] at h;cases h
   rw [Oi ts r y S h1 h2 h3] at h
   rcases List.mem_cons.1 hx with rfl | hx
   ·
    refine ⟨?_,h2⟩
    cases hf:dH x with
    | true => rfl
    | false => exact absurd (.inl hf) h1
   exact KO ts r _ h x hx
theorem MB {ts:List aC} {u:Int} (h:inB ts.length u=true):(fB ts u).isSome=true:=by
 obtain ⟨k,rfl,hk⟩:=vW h
 unfold fB;simp [hk]
theorem abe {ts:List aC} (h:eY ts=0):Yo ts:=by
 intro x hx
 unfold eY at h
 by_cases h32:32 < ts.length
 · rw [if_pos h32] at h;cases h
 rw [if_neg h32] at h
 obtain ⟨hf,hu⟩:=KO ts ts [] h x hx
 rw [List.all_eq_true] at hu
 have hk:1≤x.kind∧x.kind≤9:=by
  unfold dH at hf;simp only [Bool.and_eq_true,decide_eq_true_eq] at hf;exact hf.1
 refine ⟨hk,fun h5 => ?_,fun m hm => MB (hu m.ty ?_),fun h' => MB (hu x.elem ?_),fun h' => MB (hu x.key ?_)⟩
 ·
  have hm:fU x=true:=by
   unfold dH rM at hf
   rw [if_neg (by omega),if_neg (by omega),if_neg (by omega),if_pos (.inl h5)] at hf
   simp only [Bool.and_eq_true,decide_eq_true_eq] at hf
   exact hf.2.1.2
  unfold fU kG at hm
  simp at hm
  omega
 · unfold jm;exact List.mem_append.2 (.inl (List.mem_map.2 ⟨m,hm,rfl⟩))
 · unfold jm;rw [if_pos (show 7≤x.kind by omega)];simp
 exact Jf x h'
def pW:Value:=.agg #[.int .i64 0,.bool false,.int .i64 0,.string ⟨#[]⟩,.int .i64 0,.slice none 0 0,.slice none 0 0,.slice none 0 0]
def Jg (w w':World) (b:Nat):Prop:=w.heap.size≤b∧b < w'.heap.size
def MC (w:World) (r:Except Int fO) (e:Ending) (w':World):Prop:=Below w.heap.size w w'∧match r with
 | .error er => e = .returned (.tuple #[pW,.agg #[.slice none 0 0,.int .i64 0],.int .i64 er])
 | .ok (.ok v) => ∃ vk vi vr,e = .returned (.tuple #[iC v vk vi vr,.agg #[.slice none 0 0,.int .i64 0],.int .i64 0])∧jq w' (Jg w w') v vk vi vr
 | .ok (.error (p,n)) => ∃ fp,e = .returned (.tuple #[pW,.agg #[fp,.int .i64 n],.int .i64 12])∧w'.ownsRow w.heap.size 3 1 fp p.length (p.map iZ)
theorem jd.plain {P:World→Prop} {w:World} {L B:Nat} (h:jd P w L B):Kept P w L B:=⟨h.now,fun w' hk => h.st w' (fun k h1 h2 _ => hk k h1 h2),h.le⟩
set_option maxRecDepth 100000 in
theorem GI (ts:List aC) (A:Option Addr) (c:Nat) (t:Int) (m:List UInt8) (w:World) (hs:Sizes ts) (hT:bG w w.heap.size (.slice A ts.length c) ts) :
  Calls Tryz.prog 38 #[.agg #[.slice A ts.length c],.int .i64 t,.string ⟨m.toArray⟩] w (MC w (iE ts t m)):=by
 have HT:=Lib.hid hT
 have HSz:=Lib.hid hs
 clear hT hs
 go_enter Tryz.func38,Tryz.ntmps38
 go_upto_region 1 with fail
 generalize dJ:w.alloc _=wd2
 generalize jD:wd2.alloc _=wd4
 generalize iT:wd4.alloc _=wV
 have ⟨hb1,S,Z,F⟩:=an3 dJ jD iT
 clear dJ jD iT
 have hw8:=hb1
 clear hb1
 have ay:=S.out.e0
 go_wp2_with fail
 clear ay
 ((with_reducible refine (abg ts A c _ HSz.out (HT.out.on hw8)).mono ?_);rintro e AY ⟨rfl,mG⟩)
 obtain ⟨S,Z,F⟩:=b3 S Z F mG
 replace hw8:=dT hw8 mG
 clear mG
 by_cases h0:eY ts=0
 ·
  have QJ:=Lib.hid h0
  rw [h0]
  clear h0
  by_cases h1:(fB ts t).isSome=true
  ·
   obtain ⟨n,rfl,hn,hx⟩:=AX h1
   have H1:=Lib.hid h1
   clear h1 hx
   have hni:(n:Int) < ts.length:=by omega
   have hnf:decide (ts.length≤n)=false:=by simpa using hn
   by_cases h2:4096 < m.length
   ·
    have HR:Hid (iE ts n m = .ok (.error ([],3))):=by
     show _=_;unfold iE;rw [if_neg (by simp [QJ.out]),if_neg (by intro e;have h:=H1.out;rw [Option.isNone_iff_eq_none] at e;rw [e] at h;cases h),if_pos h2]
    have QK:(4096:Int) < m.length:=by omega
    have ay:=S.out.e0
    go_upto_region 7 with fail
    go_wp2_with (first | (refine sR Z.out ?_) | (refine sR (kR (cs':=#[.int .i64 0,.bool false,.int .i64 0,.string ⟨#[]⟩,.int .i64 0,.slice none 0 0,.slice none 0 0,.slice none 0 0]) F.out (show w.heap.size+1+1≠w.heap.size+1 by omega)) ?_))
    clear ay
    generalize GK:AY.setRow _ _=rO
    obtain ⟨S,F⟩:=f2 S F (eR GK)
    replace Z:=aK Z GK
    replace hw8:=tr hw8 GK
    clear GK
    generalize jY:rO.setRow _ _=tN
    obtain ⟨S,Z⟩:=f2 S Z (eR jY)
    replace F:=aK F jY
    replace hw8:=tr hw8 jY
    clear jY
    exact bodyPost_ret (v:=.tuple #[.agg #[.int .i64 0,.bool false,.int .i64 0,.string ⟨#[]⟩,.int .i64 0,.slice none 0 0,.slice none 0 0,.slice none 0 0],.agg #[.slice none 0 0,.int .i64 3],.int .i64 12]) (by simp [results,Tryz.results38,go_sem,Z.out.c8,F.out.c2]) rfl ((by rw [HR.out];exact ⟨hw8,_,rfl,World.ownsRow_nil _ _ _ _⟩))
   have HR:Hid (iE ts n m = .ok (decP ts 200 n m [])):=by
    show _=_;unfold iE;rw [if_neg (by simp [QJ.out]),if_neg (by intro e;have h:=H1.out;rw [Option.isNone_iff_eq_none] at e;rw [e] at h;cases h),if_neg h2]
   have QK:¬ (4096:Int) < m.length:=by omega
   have ay:=S.out.e0
   go_upto_region 9 with fail
   clear QK
   clear ay
   generalize mZ:AY.alloc _=qH
   have ⟨uV,G⟩:=bH mZ
   clear mZ
   have UG:=S.out.here
   have XO:=Z.out.here
   have LH:=F.out.here
   have UK:=hw8.size
   obtain ⟨S,Z,F⟩:=b3 S Z F uV
   replace hw8:=dT hw8 uV
   clear uV
   generalize AY.heap.size=g18 at *
   obtain ⟨gr,rfl⟩ : ∃ g,g=g18:=⟨_,rfl⟩
   have hgr:=G.out.here
   have hwg:=(hw8).size
   have Vl:=Lib.hid (agJ ts A c gr (abe QJ.out) 200 [] n m qH _ _ rfl H1.out (by omega) ⟨_,G.out,World.ownsRow_nil _ _ _ _⟩ (HT.out.keep (fun _ hp => (hw8).cell hp) (by omega)))
   generalize decP ts 200 n m []=q at *
   obtain ⟨LX,rP⟩ : ∃ n,n=(qH).heap.size:=⟨_,rfl⟩
   go_wp2_with fail
   refine Vl.out.mono ?_
   rintro e wx hq
   obtain ⟨fpx,Oj,aW,aX,aY,bf,bn,bC,bD,bF,Dl,aQ,rfl,RX,KX,NN⟩:=hq.take
   rw [← rP] at NN hgr
   have hkl:=KX.low
   have hsx:=KX.size
   rw [← rP] at hsx
   obtain ⟨⟨pv,hrow,-⟩,aff⟩:=RX
   have iF:(#[aW,aX,aY,bf,bn,bC,bD,bF] : Array Value).all (·.oneCell')=true:=by simpa using aQ
   have Yp:=Lib.hid aff
   clear hq Vl KX rP aff
   clear G
   replace S:=Lib.hid (S.out.below hkl (show w.heap.size < gr by omega))
   replace Z:=Lib.hid (Z.out.below hkl (show w.heap.size+1 < gr by omega))
   replace F:=Lib.hid (F.out.below hkl (show w.heap.size+1+1 < gr by omega))
   replace hw8:=hw8.trans (hkl.mono (show w.heap.size≤gr by omega))
   clear hkl
   replace hrow:=Lib.hid hrow
   obtain ⟨BX,yU⟩ : ∃ n,n=(wx).heap.size:=⟨_,rfl⟩
   rw [← yU] at NN hsx
   have N:=Lib.hid (NN.plain)
   clear NN
   cases q with
   | error pn =>
    obtain ⟨p',n'⟩:=pn
    obtain ⟨rfl,rfl⟩:=N.out.now
    have hfo:=Yp.out p' rfl
    obtain ⟨Af,cf,rfl⟩:=aF hfo
    have FP:=Lib.hid (Kept.kM hfo yU)
    clear hfo yU Yp
    have M5:=Has.made wx 30 #[.int .i64 0,.bool false,.int .i64 0,.string ⟨#[]⟩,.int .i64 0,.slice none 0 0,.slice none 0 0,.slice none 0 0]
    go_upto_region 10 with (refine wpList_store_row rfl 30 _ _ rfl wx.heap.size _ rfl rfl 30 _ M5 (by kernel_rfl) rfl iF ?_)
    clear M5
    generalize jQ:wx.alloc _=kF
    have ⟨jB,I⟩:=bH jQ
    clear jQ
    have Gq:=S.out.here
    have Gs:=Z.out.here
    have Fb:=F.out.here
    have PI:=hrow.out.here
    have acH:=N.out.le
    have UH:=FP.out.le
    have PK:=hw8.size
    obtain ⟨S,Z,F,hrow,N,FP⟩:=b6 S Z F hrow N FP jB
    replace hw8:=dT hw8 jB
    clear jB
    generalize wx.heap.size=Vm at *
    generalize wR:kF.setRow _ _=tV
    obtain ⟨S,Z,F,hrow,N,FP⟩:=f6 S Z F hrow N FP (eR wR)
    replace I:=aK I wR
    replace hw8:=tr hw8 wR
    clear wR
    go_upto_region 11 with fail
    have P5:=hrow.out.e2
    have P6:=hrow.out.e3
    refine wp_region_held_drew (S:=(fun w' => w'.cell? ⟨gr,2,none⟩=some ((.slice Af p'.length cf))∧w'.cell? ⟨gr,3,none⟩=some (.int .i64 Oj))) (by kernel_rfl) ⟨P5,P6⟩ (fun hHeld => ?_)
    clear P5 P6
    have DN:Below tV.heap.size tV (tV.drew):=(Below.refl _ _).drew
    obtain ⟨S,Z,F,hrow,I,N,FP⟩:=b7 S Z F hrow I N FP DN
    replace hw8:=dT hw8 DN
    clear DN
    generalize tV.drew=Fg at *
    refine tk (i:=0) (v := ?k38) ?_
    simp only [ah]
    refine tk (i:=1) (v := ?k39) ?_
    simp only [ah]
    refine wpAnyH_ready (rs:=[2,5]) (by kernel_rfl) (by simp) ?_
    refine AllReadyH.cons rfl (fun K hK => ?_) (AllReadyH.cons rfl (fun K hK => ?_) (AllReadyH.nil))
    ·
     skip
     go_simp
     try clear hHeld
     refine hK.out _ _ (⟨hrow.out.cell 2,hrow.out.cell 3⟩) (fun hHeld => ?_)
     clear hK K
     refine wpAnyH_ready (rs:=[3,5]) (by kernel_rfl) (by simp) ?_
     refine AllReadyH.cons rfl (fun K hK => ?_) (AllReadyH.cons rfl (fun K hK => ?_) (AllReadyH.nil))
     ·
      skip
      go_simp
      try clear hHeld
      refine hK.out _ _ (⟨hrow.out.cell 2,hrow.out.cell 3⟩) (fun hHeld => ?_)
      clear hK K
      refine wpAnyH_ready (rs:=[4,5]) (by kernel_rfl) (by simp) ?_
      refine AllReadyH.cons rfl (fun K hK => ?_) (AllReadyH.cons rfl (fun K hK => ?_) (AllReadyH.nil))
      ·
       skip
       go_simp
       try clear hHeld
       refine hK.out _ _ (⟨hrow.out.cell 2,hrow.out.cell 3⟩) (fun hHeld => ?_)
       clear hK K
       refine fH (i:=5) (fun K hK => ?_)
       refine aU (by rfl) 30 _ _ (by rfl) (w.heap.size+1) #[.int .i64 0,.bool false,.int .i64 0,.string ⟨#[]⟩,.int .i64 0,.slice none 0 0,.slice none 0 0,.slice none 0 0] (by rfl) (by rfl) 30 _ Z.out (by kernel_rfl) rfl (by first | assumption | simp [Value.oneCell']) ?_
       generalize Fh:Fg.setRow _ _=MG
       obtain ⟨S,F,hrow,I,N,FP⟩:=f6 S F hrow I N FP (eR Fh)
       replace Z:=aK Z Fh
       replace hw8:=tr hw8 Fh
       clear Fh
       try clear hHeld
       refine hK.out _ _ (⟨hrow.out.cell 2,hrow.out.cell 3⟩) (fun hHeld => ?_)
       clear hK K
       refine fH (i:=6) (fun K hK => ?_)
       refine aU (by rfl) 38 _ _ (by rfl) (w.heap.size+1+1) #[.slice Af p'.length cf,.int .i64 Oj] (by rfl) (by rfl) 38 _ F.out (by kernel_rfl) rfl (by first | assumption | simp [Value.oneCell']) ?_
       generalize zS:MG.setRow _ _=P7
       obtain ⟨S,Z,hrow,I,N,FP⟩:=f6 S Z hrow I N FP (eR zS)
       replace F:=aK F zS
       replace hw8:=tr hw8 zS
       clear zS
       try clear hHeld
       refine hK.out _ _ (⟨hrow.out.cell 2,hrow.out.cell 3⟩) (fun hHeld => ?_)
       clear hK K
       refine tk (i:=7) (v := ?k44) ?_
       simp only [ah]
       refine wpAnyH_done (by kernel_rfl) ?_ _
       try clear hHeld
       go_wp2_with fail
       exact bodyPost_ret (v:=.tuple #[.agg #[.int .i64 0,.bool false,.int .i64 0,.string ⟨#[]⟩,.int .i64 0,.slice none 0 0,.slice none 0 0,.slice none 0 0],.agg #[.slice Af p'.length cf,.int .i64 Oj],.int .i64 12]) (by simp [results,Tryz.results38,go_sem,Z.out.c8,F.out.c2]) rfl ((by rw [HR.out];exact ⟨hw8,_,rfl,aH FP.out.now (by omega)⟩))
      skip
      refine aU (by rfl) 30 _ _ (by rfl) (w.heap.size+1) #[.int .i64 0,.bool false,.int .i64 0,.string ⟨#[]⟩,.int .i64 0,.slice none 0 0,.slice none 0 0,.slice none 0 0] (by rfl) (by rfl) 30 _ Z.out (by kernel_rfl) rfl (by first | assumption | simp [Value.oneCell']) ?_
      generalize Yq:Fg.setRow _ _=zT
      obtain ⟨S,F,hrow,I,N,FP⟩:=f6 S F hrow I N FP (eR Yq)
      replace Z:=aK Z Yq
      replace hw8:=tr hw8 Yq
      clear Yq
      try clear hHeld
      refine hK.out _ _ (⟨hrow.out.cell 2,hrow.out.cell 3⟩) (fun hHeld => ?_)
      clear hK K
      refine tk (i:=4) (v := ?k47) ?_
      simp only [ah]
      refine fH (i:=6) (fun K hK => ?_)
      refine aU (by rfl) 38 _ _ (by rfl) (w.heap.size+1+1) #[.slice Af p'.length cf,.int .i64 Oj] (by rfl) (by rfl) 38 _ F.out (by kernel_rfl) rfl (by first | assumption | simp [Value.oneCell']) ?_
      generalize rZ:zT.setRow _ _=yL
      obtain ⟨S,Z,hrow,I,N,FP⟩:=f6 S Z hrow I N FP (eR rZ)
      replace F:=aK F rZ
      replace hw8:=tr hw8 rZ
      clear rZ
      try clear hHeld
      refine hK.out _ _ (⟨hrow.out.cell 2,hrow.out.cell 3⟩) (fun hHeld => ?_)
      clear hK K
      refine tk (i:=7) (v := ?k50) ?_
      simp only [ah]
      refine wpAnyH_done (by kernel_rfl) ?_ _
      try clear hHeld
      go_wp2_with fail
      exact bodyPost_ret (v:=.tuple #[.agg #[.int .i64 0,.bool false,.int .i64 0,.string ⟨#[]⟩,.int .i64 0,.slice none 0 0,.slice none 0 0,.slice none 0 0],.agg #[.slice Af p'.length cf,.int .i64 Oj],.int .i64 12]) (by simp [results,Tryz.results38,go_sem,Z.out.c8,F.out.c2]) rfl ((by rw [HR.out];exact ⟨hw8,_,rfl,aH FP.out.now (by omega)⟩))
     skip
     refine aU (by rfl) 30 _ _ (by rfl) (w.heap.size+1) #[.int .i64 0,.bool false,.int .i64 0,.string ⟨#[]⟩,.int .i64 0,.slice none 0 0,.slice none 0 0,.slice none 0 0] (by rfl) (by rfl) 30 _ Z.out (by kernel_rfl) rfl (by first | assumption | simp [Value.oneCell']) ?_
     generalize Fj:Fg.setRow _ _=DL
     obtain ⟨S,F,hrow,I,N,FP⟩:=f6 S F hrow I N FP (eR Fj)
     replace Z:=aK Z Fj
     replace hw8:=tr hw8 Fj
     clear Fj
     try clear hHeld
     refine hK.out _ _ (⟨hrow.out.cell 2,hrow.out.cell 3⟩) (fun hHeld => ?_)
     clear hK K
     refine tk (i:=3) (v := ?k53) ?_
     simp only [ah]
     refine tk (i:=4) (v := ?k54) ?_
     simp only [ah]
     refine fH (i:=6) (fun K hK => ?_)
     refine aU (by rfl) 38 _ _ (by rfl) (w.heap.size+1+1) #[.slice Af p'.length cf,.int .i64 Oj] (by rfl) (by rfl) 38 _ F.out (by kernel_rfl) rfl (by first | assumption | simp [Value.oneCell']) ?_
     generalize jk:DL.setRow _ _=qE
     obtain ⟨S,Z,hrow,I,N,FP⟩:=f6 S Z hrow I N FP (eR jk)
     replace F:=aK F jk
     replace hw8:=tr hw8 jk
     clear jk
     try clear hHeld
     refine hK.out _ _ (⟨hrow.out.cell 2,hrow.out.cell 3⟩) (fun hHeld => ?_)
     clear hK K
     refine tk (i:=7) (v := ?k57) ?_
     simp only [ah]
     refine wpAnyH_done (by kernel_rfl) ?_ _
     try clear hHeld
     go_wp2_with fail
     exact bodyPost_ret (v:=.tuple #[.agg #[.int .i64 0,.bool false,.int .i64 0,.string ⟨#[]⟩,.int .i64 0,.slice none 0 0,.slice none 0 0,.slice none 0 0],.agg #[.slice Af p'.length cf,.int .i64 Oj],.int .i64 12]) (by simp [results,Tryz.results38,go_sem,Z.out.c8,F.out.c2]) rfl ((by rw [HR.out];exact ⟨hw8,_,rfl,aH FP.out.now (by omega)⟩))
    skip
    refine aU (by rfl) 30 _ _ (by rfl) (w.heap.size+1) #[.int .i64 0,.bool false,.int .i64 0,.string ⟨#[]⟩,.int .i64 0,.slice none 0 0,.slice none 0 0,.slice none 0 0] (by rfl) (by rfl) 30 _ Z.out (by kernel_rfl) rfl (by first | assumption | simp [Value.oneCell']) ?_
    generalize kH:Fg.setRow _ _=oL
    obtain ⟨S,F,hrow,I,N,FP⟩:=f6 S F hrow I N FP (eR kH)
    replace Z:=aK Z kH
    replace hw8:=tr hw8 kH
    clear kH
    try clear hHeld
    refine hK.out _ _ (⟨hrow.out.cell 2,hrow.out.cell 3⟩) (fun hHeld => ?_)
    clear hK K
    refine tk (i:=2) (v := ?k60) ?_
    simp only [ah]
    refine tk (i:=3) (v := ?k61) ?_
    simp only [ah]
    refine tk (i:=4) (v := ?k62) ?_
    simp only [ah]
    refine fH (i:=6) (fun K hK => ?_)
    refine aU (by rfl) 38 _ _ (by rfl) (w.heap.size+1+1) #[.slice Af p'.length cf,.int .i64 Oj] (by rfl) (by rfl) 38 _ F.out (by kernel_rfl) rfl (by first | assumption | simp [Value.oneCell']) ?_
    generalize rQ:oL.setRow _ _=MH
    obtain ⟨S,Z,hrow,I,N,FP⟩:=f6 S Z hrow I N FP (eR rQ)
    replace F:=aK F rQ
    replace hw8:=tr hw8 rQ
    clear rQ
    try clear hHeld
    refine hK.out _ _ (⟨hrow.out.cell 2,hrow.out.cell 3⟩) (fun hHeld => ?_)
    clear hK K
    refine tk (i:=7) (v := ?k65) ?_
    simp only [ah]
    refine wpAnyH_done (by kernel_rfl) ?_ _
    try clear hHeld
    go_wp2_with fail
    exact bodyPost_ret (v:=.tuple #[.agg #[.int .i64 0,.bool false,.int .i64 0,.string ⟨#[]⟩,.int .i64 0,.slice none 0 0,.slice none 0 0,.slice none 0 0],.agg #[.slice Af p'.length cf,.int .i64 Oj],.int .i64 12]) (by simp [results,Tryz.results38,go_sem,Z.out.c8,F.out.c2]) rfl ((by rw [HR.out];exact ⟨hw8,_,rfl,aH FP.out.now (by omega)⟩))
   | ok v =>
    obtain ⟨rfl,_⟩:=N.out.now
    clear yU Yp
    have M5:=Has.made wx 30 #[.int .i64 0,.bool false,.int .i64 0,.string ⟨#[]⟩,.int .i64 0,.slice none 0 0,.slice none 0 0,.slice none 0 0]
    go_upto_region 10 with (refine wpList_store_row rfl 30 _ _ rfl wx.heap.size _ rfl rfl 30 _ M5 (by kernel_rfl) rfl iF ?_)
    clear M5
    generalize wS:wx.alloc _=MI
    have ⟨DR,I⟩:=bH wS
    clear wS
    have UN:=S.out.here
    have UO:=Z.out.here
    have PO:=F.out.here
    have LG:=hrow.out.here
    have UD:=N.out.le
    have Py:=hw8.size
    obtain ⟨S,Z,F,hrow,N⟩:=b5 S Z F hrow N DR
    replace hw8:=dT hw8 DR
    clear DR
    generalize wx.heap.size=g69 at *
    generalize yV:MI.setRow _ _=P8
    obtain ⟨S,Z,F,hrow,N⟩:=f5 S Z F hrow N (eR yV)
    replace I:=aK I yV
    replace hw8:=tr hw8 yV
    clear yV
    obtain ⟨iI,iJ,iK,iL,iM,iO,iw,iP⟩:=I.out.c8
    go_upto_region 12 with fail
    go_wp2_with (first | (refine sR Z.out ?_) | (refine sR (kR (cs':=#[aW,aX,aY,bf,bn,bC,bD,bF]) F.out (show w.heap.size+1+1≠w.heap.size+1 by omega)) ?_))
    clear iI iJ iK iL iM iO iw iP
    generalize GL:P8.setRow _ _=adp
    obtain ⟨S,F,hrow,I,N⟩:=f5 S F hrow I N (eR GL)
    replace Z:=aK Z GL
    replace hw8:=tr hw8 GL
    clear GL
    generalize GN:adp.setRow _ _=Yr
    obtain ⟨S,Z,hrow,I,N⟩:=f5 S Z hrow I N (eR GN)
    replace F:=aK F GN
    replace hw8:=tr hw8 GN
    clear GN
    have HF:Hid (MC w (iE ts n m) (.returned (.tuple #[.agg #[aW,aX,aY,bf,bn,bC,bD,bF],.agg #[.slice none 0 0,.int .i64 0],.int .i64 0])) Yr):=by
     show MC _ _ _ _
     obtain ⟨_,vk,vi,vr,hc,S,hv,hS⟩:=N.out.now
     have hle:=N.out.le
     rw [HR.out]
     refine ⟨hw8,vk,vi,vr,?_,hv.keep (fun _ _ => rfl) (fun b hb => ⟨by have:=(hS b hb).1;omega,by have:=(hS b hb).2.1;omega⟩)⟩
     simp only [iQ,List.cons.injEq,and_true] at hc
     obtain ⟨rfl,rfl,rfl,rfl,rfl,rfl,rfl,rfl⟩:=hc
     rfl
    exact bodyPost_ret (v:=.tuple #[.agg #[aW,aX,aY,bf,bn,bC,bD,bF],.agg #[.slice none 0 0,.int .i64 0],.int .i64 0]) (by simp [results,Tryz.results38,go_sem,Z.out.c8,F.out.c2]) rfl (HF.out)
  have HR:Hid (iE ts t m = .error 4):=by
   show _=_;unfold iE;rw [if_neg (by simp [QJ.out]),if_pos (by cases hq:fB ts t <;> simp_all)]
  have h1b:t < 0∨(ts.length:Int)≤t:=by
   unfold fB at h1
   by_cases h3:0≤t
   ·
    rw [if_pos h3] at h1
    have:ts.length≤t.toNat:=by simpa using h1
    omega
   omega
  clear h1
  by_cases h3:t < 0
  ·
   clear h1b
   have ay:=S.out.e0
   go_upto_region 5 with fail
   go_wp2_with (first | (refine sR Z.out ?_) | (refine sR (kR (cs':=#[.int .i64 0,.bool false,.int .i64 0,.string ⟨#[]⟩,.int .i64 0,.slice none 0 0,.slice none 0 0,.slice none 0 0]) F.out (show w.heap.size+1+1≠w.heap.size+1 by omega)) ?_))
   clear ay
   generalize GR:AY.setRow _ _=zU
   obtain ⟨S,F⟩:=f2 S F (eR GR)
   replace Z:=aK Z GR
   replace hw8:=tr hw8 GR
   clear GR
   generalize Yt:zU.setRow _ _=Vo
   obtain ⟨S,Z⟩:=f2 S Z (eR Yt)
   replace F:=aK F Yt
   replace hw8:=tr hw8 Yt
   clear Yt
   exact bodyPost_ret (v:=.tuple #[.agg #[.int .i64 0,.bool false,.int .i64 0,.string ⟨#[]⟩,.int .i64 0,.slice none 0 0,.slice none 0 0,.slice none 0 0],.agg #[.slice none 0 0,.int .i64 0],.int .i64 4]) (by simp [results,Tryz.results38,go_sem,Z.out.c8,F.out.c2]) rfl ((by rw [HR.out];exact ⟨hw8,rfl⟩))
  have h4:(ts.length:Int)≤t:=by omega
  clear h1b
  have ay:=S.out.e0
  go_upto_region 5 with fail
  go_wp2_with (first | (refine sR Z.out ?_) | (refine sR (kR (cs':=#[.int .i64 0,.bool false,.int .i64 0,.string ⟨#[]⟩,.int .i64 0,.slice none 0 0,.slice none 0 0,.slice none 0 0]) F.out (show w.heap.size+1+1≠w.heap.size+1 by omega)) ?_))
  clear ay
  generalize MJ:AY.setRow _ _=adq
  obtain ⟨S,F⟩:=f2 S F (eR MJ)
  replace Z:=aK Z MJ
  replace hw8:=tr hw8 MJ
  clear MJ
  generalize MK:adq.setRow _ _=P9
  obtain ⟨S,Z⟩:=f2 S Z (eR MK)
  replace F:=aK F MK
  replace hw8:=tr hw8 MK
  clear MK
  exact bodyPost_ret (v:=.tuple #[.agg #[.int .i64 0,.bool false,.int .i64 0,.string ⟨#[]⟩,.int .i64 0,.slice none 0 0,.slice none 0 0,.slice none 0 0],.agg #[.slice none 0 0,.int .i64 0],.int .i64 4]) (by simp [results,Tryz.results38,go_sem,Z.out.c8,F.out.c2]) rfl ((by rw [HR.out];exact ⟨hw8,rfl⟩))
 have HR:Hid (iE ts t m = .error (eY ts)):=by show _=_;unfold iE;rw [if_pos h0]
 have ay:=S.out.e0
 go_upto_region 3 with fail
 go_wp2_with (first | (refine sR Z.out ?_) | (refine sR (kR (cs':=#[.int .i64 0,.bool false,.int .i64 0,.string ⟨#[]⟩,.int .i64 0,.slice none 0 0,.slice none 0 0,.slice none 0 0]) F.out (show w.heap.size+1+1≠w.heap.size+1 by omega)) ?_))
 clear ay
 generalize GU:AY.setRow _ _=ahx
 obtain ⟨S,F⟩:=f2 S F (eR GU)
 replace Z:=aK Z GU
 replace hw8:=tr hw8 GU
 clear GU
 generalize zG:ahx.setRow _ _=acQ
 obtain ⟨S,Z⟩:=f2 S Z (eR zG)
 replace F:=aK F zG
 replace hw8:=tr hw8 zG
 clear zG
 exact bodyPost_ret (v:=.tuple #[.agg #[.int .i64 0,.bool false,.int .i64 0,.string ⟨#[]⟩,.int .i64 0,.slice none 0 0,.slice none 0 0,.slice none 0 0],.agg #[.slice none 0 0,.int .i64 0],.int .i64 (eY ts)]) (by simp [results,Tryz.results38,go_sem,Z.out.c8,F.out.c2]) rfl ((by rw [HR.out];exact ⟨hw8,rfl⟩))
end Go.Proofs.YthkfapcadhnaeaaGreatDoor
