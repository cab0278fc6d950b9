/- record of the reference. No condition. -/
import Derived.Test.YthkfapcadhnaeaaGreatDoorRefD
import Derived.Test.YthkfapcadhnaeaaGreatDoorDecR
set_option maxHeartbeats 3200000
namespace Go.Proofs.YthkfapcadhnaeaaGreatDoor
open Go.ChangeShapes Go.WideShapes Go.ChangeAt Go.RowKit
theorem ValAt.toP {w:World} {B:Nat} {x:Val} {vk vi vr:Value} (h:ValAt w B x vk vi vr):jq w (· < B) x vk vi vr:=by
 obtain ⟨hn,hs,hl,kT,⟨ck,h1,h2⟩,⟨ci,h3,h4⟩,h5⟩:=h
 exact ⟨hn,hs,hl,kT,⟨ck,h1,fun i hi => (h2 i hi).toP⟩,⟨ci,h3,fun i hi => (h4 i hi).toP⟩,h5⟩
theorem ValAt.anq {w0 w W:World} {C L B:Nat} {x:Val} {vk vi vr:Value} (h:ValAt w C x vk vi vr) (hO:Old w C W):Qr w0 C L B x vk vi vr W :=
 fun _ => ⟨_,h.toP.keep (fun _ hp => World.cell?_of_block (hO _ hp)) (fun _ h => h),fun _ h => .inl h⟩
theorem akt (rec:Int→List UInt8→List Int→fO) (x:aC) (p:List UInt8) (path:List Int) (fs:List nN) (hk:x.kind=5) (ha:vS p=some fs) :
  aG rec x p path=DF x.aj.length (wH rec x fs path) (jG x path fs []):=by
 simp only [aG,hk,ha]
 rw [if_neg (by decide),if_neg (by decide),if_neg (by decide),if_neg (by decide),if_pos trivial]
 unfold DF
 cases gB (wH rec x fs path) x.aj.length 0 [] with
 | error e => rfl
 | ok is =>
  simp only []
  cases jG x path fs [] <;> rfl
theorem RF {W:World} {S:Nat→Prop} {is:List Val} {rs:List Raw} {vi vr:Value} (h1:jv W S vi is) (h2:II W S 2 vr rs.length (iV rs)) (hr:∀ r ∈ rs,pV r) (hl1:is.length≤1000000) (hl2:rs.length≤1000000) :
  jq W S (.mk 5 false 0 [] 0 [] is rs) (.slice none 0 0) vi vr :=
 ⟨⟨by show I64 5;unfold I64;omega,by show I64 0;unfold I64;omega,by show I64 0;unfold I64;omega⟩,by simp [Val.str],⟨by simp [Val.keys],by simp only [Val.items];omega,by simp only [Val.rest];omega⟩,hr,qy _ _,h1,h2⟩
theorem WM {C L n:Nat} {w W:World} {e:TypeId} {size:Nat} {v:Value} {xs:List Value} (h:W.ownsRow L e size v n xs) (hL:w.heap.size≤L):II W (oI C w W) size v n xs:=by
 have hlt:=h.lt
 refine ⟨h.1,?_⟩
 rcases h.2 with ⟨rfl,rfl⟩ | ⟨g,cap,cur,rfl,h3,h4,h5,h6⟩
 · exact ⟨none,0,rfl,Nat.le_refl _,.inl rfl⟩
 refine ⟨some ⟨g,0,none⟩,cap,rfl,h5,.inr ⟨g,0,rfl,.inr ⟨Nat.le_trans hL (hlt g rfl).1,(hlt g rfl).2⟩,fun j u hu => ?_⟩⟩
 have:=h.cells (g:=g) rfl j u hu
 rwa [addr_add] at this
structure aav (w:World) (C:Nat) (At:Option Addr) (ct n:Nat) (x:aC) (C1:Option Addr) (l1:Nat) (C2:Option Addr) (l2:Nat) (fs:List nN) (Af:Option Addr) (cf gV:Nat) (vi vr:Value) (wr:World):Prop where
 S:Has wr w.heap.size 24 #[.slice At n ct]
 X:Has wr (w.heap.size+1) 69 #[.int .i64 5,.string ⟨x.name.toArray⟩,.int .i64 x.low,.int .i64 x.high,.int .i64 x.max,.slice C1 x.syms.length l1,.slice C2 x.aj.length l2,.int .i64 x.key,.int .i64 x.elem,.bool x.opn]
 Z:Has wr (w.heap.size+1+1) 91 #[.int .i64 0,.bool false,.int .i64 0,.string ⟨#[]⟩,.int .i64 0,.slice none 0 0,.slice none 0 0,.slice none 0 0,.slice none 0 0,.int .i64 0,.bool false]
 V:Has wr gV 30 #[.int .i64 5,.bool false,.int .i64 0,.string ⟨#[]⟩,.int .i64 0,.slice none 0 0,vi,vr]
 FS:Kept (fun w => w.ownsRow 0 190 3 (.slice Af fs.length cf) fs.length (lX fs)) wr (w.heap.size+3) gV
 lo:w.heap.size+2 < gV
 bel:Below w.heap.size w wr
/- to, then failed: a failure one step below -/
/- an item is appended, and the round ends -/
set_option maxRecDepth 100000 in
theorem Xb
 (ts:List aC) (tv:Value) (C:Nat) (L:Int) (vp:Value) (path:List Int) (p:List UInt8) (rec:Int→List UInt8→List Int→fO) (x:aC) (vs vm:Value) (w:World) (hk:x.kind=5) (hp:path.length < 200) (hL:0≤L∧L≤1000) (hpl:p.length≤800000)
 (hC:C≤w.heap.size) (ht:bG w C tv ts) (hx:eX w C x vs vm) (hvp:w.ownsRow 0 3 1 vp path.length (path.map iZ)) (HP:F9 ts C tv L rec path) (hm:x.aj.length≤1000∧∀ m ∈ x.aj,(fB ts m.ty).isSome=true) :
 Calls Tryz.prog 105 #[.agg #[tv],aS x vs vm,.string ⟨p.toArray⟩,.int .i64 L,vp] w (fG C w (aG rec x p path)):=by
 have HI:=Lib.hid (fun W => WX p (by omega) W)
 have wB:=Lib.hid (fun I h => QC (p:=p) (I:=I) h)
 have hml:=hm.1
 obtain ⟨C1,l1,C2,l2,rfl,rfl,-,-⟩:=hx.forms
 obtain ⟨At,ct,rfl,-⟩:=ht.form
 obtain ⟨Ap,cp,rfl⟩:=aF hvp
 have HX:=Lib.hid hx
 have HT:=Lib.hid ht
 have AU:=Lib.hid HP
 have HM:=Lib.hid hm
 have iq:=Lib.hid hk
 have aT:=Lib.hid hC
 have uH:=Lib.hid hvp
 have hxs:=hx.lens
 clear hx ht HP hm hvp
 go_enter Tryz.func105,Tryz.ntmps105
 go_upto_region 1 with fail
 generalize dJ:w.alloc _=wd2
 generalize jD:wd2.alloc _=wd4
 generalize iT:wd4.alloc _=wV
 have ⟨hb1,S,X,Z⟩:=an3 dJ jD iT
 clear dJ jD iT
 have hw8:=hb1
 clear hb1
 cases ha:vS p with
 | none =>
  have HR:Hid (aG rec x p path = .error (path,1)):=by show _=_;simp [aG,iq.out,ha]
  simp only [ha] at HI
  clear ha
  go_wp2_with fail
  ((with_reducible refine (HI.out _).mono ?_);rintro e AY ⟨rfl,mG⟩)
  obtain ⟨S,X,Z⟩:=b3 S X Z mG
  replace hw8:=dT hw8 mG
  clear mG
  go_upto_region 3 with fail
  obtain ⟨LF,fD⟩ : ∃ n,n=(AY).heap.size:=⟨_,rfl⟩
  have kU:=Z.out.here
  rw [← fD] at kU
  go_wp2_with fail
  ((with_reducible refine (gu C path _ 1 _ (by omega) (own_below uH.out hw8)).mono ?_);rintro e rO ⟨jl,xu,rfl,hown⟩)
  obtain ⟨S,X,Z⟩:=b3 S X Z jl
  replace hw8:=dT hw8 jl
  clear jl
  obtain ⟨Af,cf,rfl⟩:=aF hown
  rw [← fD] at hown
  clear fD
  have FP:=Lib.hid (Kept.own hown)
  clear hown
  go_wp2_with (refine sR Z.out ?_)
  generalize jY:rO.setRow _ _=tN
  obtain ⟨S,X,FP⟩:=f3 S X FP (eR jY)
  replace Z:=aK Z jY
  replace hw8:=tr hw8 jY
  clear jY
  exact bodyPost_ret (v:=.agg #[.int .i64 0,.bool false,.int .i64 0,.string ⟨#[]⟩,.int .i64 0,.slice none 0 0,.slice none 0 0,.slice none 0 0,.slice Af path.length cf,.int .i64 1,.bool false]) (by simp [results,Tryz.results105,go_sem,Z.out.c11]) rfl ((by rw [HR.out];exact ⟨hw8,_,rfl,aH FP.out.now (by omega)⟩))
 | some fs =>
  have HL:Hid (∀ q ∈ fs,q.id≤1000∧q.data.length≤p.length):=Lib.hid (wB.out fs ha)
  simp only [ha] at HI
  have HD:Hid (aG rec x p path=DF x.aj.length (wH rec x fs path) (jG x path fs [])):=by show _=_;exact akt rec x p path fs iq.out ha
  clear ha wB
  have hS0:=Z.out.here
  go_wp2_with fail
  ((with_reducible refine (HI.out _).mono ?_);rintro e lD ⟨vl,rfl,hll,hown,hb16⟩)
  obtain ⟨S,X,Z⟩:=b3 S X Z hb16
  replace hw8:=dT hw8 hb16
  clear hb16
  clear HI
  obtain ⟨Af,cf,rfl⟩:=aF hown
  have FS:=Lib.hid ((Kept.own (aH hown (show w.heap.size+3≤_ from hS0))).imp fun _ h => aH h (Nat.zero_le _))
  clear hown hS0
  obtain ⟨aI,bI,bQ,bT,bW,dD,bK,bJ,bZ,bM⟩:=X.out.c10
  go_upto_region 5 with fail
  clear aI bI bQ bT bW dD bK bJ bZ bM
  generalize kV:lD.alloc _=qY
  have ⟨kW,V⟩:=bH kV
  clear kV
  have LH:=S.out.here
  have UK:=X.out.here
  have Pv:=Z.out.here
  have Gf:=FS.out.le
  have PW:=hw8.size
  obtain ⟨S,X,Z,FS⟩:=b4 S X Z FS kW
  replace hw8:=dT hw8 kW
  clear kW
  generalize lD.heap.size=g20 at *
  obtain ⟨gV,rfl⟩ : ∃ g,g=g20:=⟨_,rfl⟩
  have hl0:Hid (aav w C At ct ts.length x C1 l1 C2 l2 fs Af cf gV (.slice none 0 0) (.slice none 0 0) qY) :=
   Lib.hid ⟨S.out,X.out,Z.out,V.out,FS.out,by omega,hw8⟩
  clear S X Z V FS
  go_upto_region 6 with fail
  go_loopw [14] (fun i wr => ∃ k:Nat,k≤x.aj.length∧i = .int .i64 (k:Int)∧∃ (va:Value) (acc:List Val),aav w C At ct ts.length x C1 l1 C2 l2 fs Af cf gV va (.slice none 0 0) wr∧jK w C (gV+1) va acc wr∧acc.length=k∧gB (wH rec x fs path) x.aj.length 0 []=gB (wH rec x fs path) (x.aj.length - k) k acc) (fun i _ => x.aj.length - (intOf i).toNat)
  case atStart => exact ⟨0,by omega,rfl,_,[],hl0.out,jK.nil _ _ _ _,rfl,rfl⟩
  case round =>
   clear hl0
   obtain ⟨k,hk1,rfl,va,acc,⟨S,X,Z,V,AV,o8,hbr⟩,hL,hacc,hseq⟩:=hrel
   replace S:=Lib.hid S
   replace X:=Lib.hid X
   replace Z:=Lib.hid Z
   replace V:=Lib.hid V
   have FS:=Lib.hid (AV)
   clear AV
   have bK:=X.out.e6
   by_cases hlt:k < x.aj.length
   ·
    have hOr:=Old.of hbr aT.out
    have hvl:Hid (∀ j,va.ownBlock=some j→gV+1≤j∧j < wr.heap.size):=Lib.hid (fun j hj => hL.lt hOr j hj)
    have hLk:=hL.kept hOr
    have hgz:=V.out.here
    obtain ⟨hz,hzE⟩ : ∃ hz,wr.heap.size=hz:=⟨_,rfl⟩
    rw [hzE] at hLk hvl hgz
    clear hzE hL
    have LI:=Lib.hid (hLk)
    clear hLk
    obtain ⟨b2,o2,rfl,LW,hel⟩:=HX.out.aj.elem (by omega)
    obtain ⟨dk,di,dr,hcells,hma⟩:=hel k hlt
    have hcr:=hcells.ahj hbr (Nat.lt_of_lt_of_le LW aT.out)
    have HMk:=Lib.hid (HM.out.2 x.aj[k] (List.getElem_mem hlt))
    have hn1:x.aj.length - k=(x.aj.length - (k+1))+1:=by omega
    rw [hn1] at hseq
    have lF:=fun v h => hseq.trans (yA (v:=v) ((JX hlt).trans h))
    have lG:=fun e h => hseq.trans (uI (e:=e) ((JX hlt).trans h))
    have yK:(k:Int) < x.aj.length:=by omega
    have hd0:decide ((k:Int) < 0)=false:=by simp
    have hd1:decide (x.aj.length≤k)=false:=by simpa using hlt
    generalize x.aj[k]=m at *
    obtain ⟨D1,f1,D2,f2,D3,f3,rfl,rfl,rfl,-,-,-⟩:=hma.dflt.forms
    obtain ⟨c0,c1,c2,c3,c4,c5,c6,c7,c8,c9,c10,c11,c12⟩:=hcr
    have HMA:=Lib.hid hma
    have uK:=Lib.hid lF
    have uM:=Lib.hid lG
    have jX:=Lib.hid hacc
    clear hcells hel hma hseq lF lG hacc hn1 hOr
    go_upto_region 9 with fail
    clear c0 c1 c2 c3 c4 c5 c6 c7 c8 c9 c10 c11 c12 hd0 hd1
    clear bK
    generalize tY:wr.alloc _=uX
    have ⟨Fp,M⟩:=bH tY
    clear tY
    have PI:=S.out.here
    have acH:=X.out.here
    have UH:=Z.out.here
    have PK:=V.out.here
    have XP:=FS.out.le
    have aik:=LI.out.le
    have Ym:=hbr.size
    obtain ⟨S,X,Z,V,FS,LI⟩:=b6 S X Z V FS LI Fp
    replace hbr:=dT hbr Fp
    clear Fp
    generalize wr.heap.size=g29 at *
    obtain ⟨gM,rfl⟩ : ∃ g,g=g29:=⟨_,rfl⟩
    have HF:=Lib.hid (fun W h => ab1 fs (.slice Af fs.length cf) m.id W (by omega) h)
    have lW:=M.out.e0
    cases hfi:fidx fs m.id with
    | some j =>
     obtain ⟨hjl,hfa⟩:=Qy hfi
     obtain ⟨gf,cf',hvf⟩:=Gp FS.out.now (by omega)
     injection hvf with hv1 hv2 hv3
     subst hv1;subst hv3;clear hv2
     simp only [hfi,Bv] at HF
     clear hfi
     go_wp2_with fail
     clear lW
     ((with_reducible refine (HF.out _ (Rd.pq FS.out.now)).mono ?_);rintro e Fg ⟨rfl,rfl⟩)
     clear HF
     have hmm:yS rec fs path m=rec m.ty fs[j].data (path ++ [m.id]):=by unfold yS;rw [hfa]
     rw [hmm] at uK uM
     have hfl:=(HL.out fs[j] (List.getElem_mem hjl)).2
     have HPQ:=Lib.hid (fun (W:World) (vp:Value) h1 h2 h3 => AU.out W m.ty m.id fs[j].data vp h1 h2 h3 HMk.out (by omega))
     have oC:=Lib.hid (fun (W:World) h => (Oa (W:=W) (g:=gf) (n:=fs.length) (n':=fs.length) (c:=cf) h hjl).2.2)
     generalize rec m.ty fs[j].data (path ++ [m.id])=q at *
     generalize fs[j].data=dt at *
     have alH:(j:Int) < fs.length:=by omega
     have hd0:decide ((j:Int) < 0)=false:=by simp
     have hd1:decide (fs.length≤j)=false:=by simpa using hjl
     have hw1:IntKind.i64.wrap (L+1)=L+1:=IntWalk.i64_in _ (by omega)
     clear hmm hfa
     go_upto_region 14 with fail
     go_cut [17] from 33 to 91 (fun sa wx => KF w C wx q (hz - 1) sa∧Has wx w.heap.size 24 #[.slice At ts.length ct]∧Has wx (w.heap.size+1) 69 #[.int .i64 5,.string ⟨x.name.toArray⟩,.int .i64 x.low,.int .i64 x.high,.int .i64 x.max,.slice C1 x.syms.length l1,.slice (some ⟨b2,o2,none⟩) x.aj.length l2,.int .i64 x.key,.int .i64 x.elem,.bool x.opn]∧Has wx (w.heap.size+1+1) 91 #[.int .i64 0,.bool false,.int .i64 0,.string ⟨#[]⟩,.int .i64 0,.slice none 0 0,.slice none 0 0,.slice none 0 0,.slice none 0 0,.int .i64 0,.bool false]∧Has wx gV 30 #[.int .i64 5,.bool false,.int .i64 0,.string ⟨#[]⟩,.int .i64 0,.slice none 0 0,va,.slice none 0 0] ∧
      Kept (fun w => w.ownsRow 0 190 3 (.slice (some ⟨gf,0,none⟩) fs.length cf) fs.length (lX fs)) wx (w.heap.size+3) gV∧Kept (jK w C (gV+1) va acc) wx (gV+1) hz)
     case first =>
      have ay:=S.out.e0
      have lW:=M.out.e0
      have LZ:=M.out.e2
      refine wp_region_held_drew (S:=(fun w' => w'.cell? ⟨w.heap.size,0,none⟩=some (.slice At ts.length ct)∧w'.cell? ⟨gM,0,none⟩=some (.int .i64 m.id)∧w'.cell? ⟨gM,2,none⟩=some (.int .i64 m.ty)∧(w'.cell? ⟨gf,j*3+2,none⟩=some (.string ⟨dt.toArray⟩)))) (by kernel_rfl) ⟨ay,lW,LZ,(oC.out _ FS.out.now)⟩ (fun hHeld => ?_)
      clear ay lW LZ
      have Dy:Below uX.heap.size uX (uX.drew):=(Below.refl _ _).drew
      obtain ⟨S,X,Z,V,M,FS,LI⟩:=b7 S X Z V M FS LI Dy
      replace hbr:=dT hbr Dy
      clear Dy
      generalize uX.drew=MG at *
      refine tk (i:=0) (v := ?Xk) ?_
      simp only [ah]
      refine tk (i:=1) (v := ?Xl) ?_
      simp only [ah]
      refine tk (i:=2) (v := ?k43) ?_
      simp only [ah]
      refine tk (i:=3) (v := ?k44) ?_
      simp only [ah]
      refine tk (i:=4) (v := ?k45) ?_
      simp only [ah]
      refine tk (i:=5) (v := ?k46) ?_
      simp only [ah]
      refine tk (i:=6) (v := ?k47) ?_
      simp only [ah]
      refine tk (i:=7) (v := ?k48) ?_
      simp only [ah]
      refine tk (i:=8) (v := ?k49) ?_
      simp only [ah]
      refine tk (i:=9) (v := ?k50) ?_
      simp only [ah]
      refine tk (i:=10) (v := ?k51) ?_
      simp only [ah]
      refine tk (i:=11) (v := ?k52) ?_
      simp only [ah]
      refine tk (i:=12) (v := ?k53) ?_
      simp only [ah]
      refine wpAnyH_ready (rs:=[13,15]) (by kernel_rfl) (by simp) ?_
      refine AllReadyH.cons rfl (fun K hK => ?_) (AllReadyH.cons rfl (fun K hK => ?_) (AllReadyH.nil))
      ·
       skip
       go_simp
       obtain ⟨LT,kC⟩ : ∃ n,n=(MG).heap.size:=⟨_,rfl⟩
       have hzT:=(hbr).size
       rw [← kC] at hzT
       ((with_reducible refine (qA path _ m.id _ (by omega) (own_below uH.out hbr)).mono ?_);rintro e GH ⟨IG,vt,rfl,hown⟩)
       obtain ⟨S,X,Z,V,M,FS,LI⟩:=b7 S X Z V M FS LI IG
       replace hbr:=dT hbr IG
       clear IG
       rw [show (path ++ [m.id]).length=path.length+1 by simp] at hown
       obtain ⟨Ao,co,rfl⟩:=aF hown
       rw [← kC] at hown
       obtain ⟨LU,nJ⟩ : ∃ n,n=(GH).heap.size:=⟨_,rfl⟩
       have TP:=Lib.hid (Kept.kM hown nJ)
       clear hown kC nJ
       try clear hHeld
       refine hK.out _ _ (⟨S.out.cell 0,⟨M.out.cell 0,⟨M.out.cell 2,(oC.out _ FS.out.now)⟩⟩⟩) (fun hHeld => ?_)
       clear hK K
       refine wpAnyH_ready (rs:=[14,15]) (by kernel_rfl) (by simp) ?_
       refine AllReadyH.cons rfl (fun K hK => ?_) (AllReadyH.cons rfl (fun K hK => ?_) (AllReadyH.nil))
       ·
        skip
        go_simp
        have XV:=S.out.here
        have UM:=X.out.here
        have XH:=Z.out.here
        have hl63:=V.out.here
        have UC:=M.out.here
        have IW:=FS.out.le
        have Gt:=LI.out.le
        have L9:=TP.out.le
        have Vd:=hbr.size
        ((with_reducible refine (HPQ.out _ _ (Nat.le_trans aT.out (hbr).size) (HT.out.keep (fun _ hp => (hbr).cell (Nat.lt_of_lt_of_le hp aT.out)) (Nat.le_refl _)) (aH TP.out.now (Nat.zero_le _))).mono ?_);rintro e Bq aes)
        have yX:=aes.1
        obtain ⟨aW,aX,aY,bf,bn,bC,bD,bF,dL,dM,bY,aQ,rfl,N⟩:=aes.take (w0:=w) (Old.of (hbr.trans (yX.mono hbr.size)) aT.out)
        obtain ⟨S,X,Z,V,M,FS,LI,TP⟩:=b8 S X Z V M FS LI TP yX
        replace hbr:=dT hbr yX
        clear yX aes
        replace N:=Lib.hid N
        have iF:(#[aW,aX,aY,bf,bn,bC,bD,bF,dL,dM,bY] : Array Value).all (·.oneCell')=true:=by simpa using aQ
        generalize GH.heap.size=L57 at *
        clear TP
        try clear hHeld
        refine hK.out _ _ (⟨S.out.cell 0,⟨M.out.cell 0,⟨M.out.cell 2,(oC.out _ FS.out.now)⟩⟩⟩) (fun hHeld => ?_)
        clear hK K
        refine fH (i:=15) (fun K hK => ?_)
        go_simp
        generalize Fv:Bq.alloc _=GX
        have ⟨aeu,I⟩:=bH Fv
        clear Fv
        have LG:=S.out.here
        have UD:=X.out.here
        have Py:=Z.out.here
        have XI:=V.out.here
        have Pz:=M.out.here
        have Qq:=FS.out.le
        have WG:=LI.out.le
        have PX:=N.out.le
        have Vf:=hbr.size
        obtain ⟨S,X,Z,V,M,FS,LI,N⟩:=b8 S X Z V M FS LI N aeu
        replace hbr:=dT hbr aeu
        clear aeu
        generalize Bq.heap.size=g72 at *
        try clear hHeld
        refine hK.out _ _ (⟨S.out.cell 0,⟨M.out.cell 0,⟨M.out.cell 2,(oC.out _ FS.out.now)⟩⟩⟩) (fun hHeld => ?_)
        clear hK K
        refine fH (i:=16) (fun K hK => ?_)
        refine aU (by rfl) 91 _ _ (by rfl) (g72) #[aW,aX,aY,bf,bn,bC,bD,bF,dL,dM,bY] (by rfl) (by rfl) 91 _ I.out (by kernel_rfl) rfl (by first | assumption | simp [Value.oneCell']) ?_
        generalize GR:GX.setRow _ _=zU
        obtain ⟨S,X,Z,V,M,FS,LI,N⟩:=f8 S X Z V M FS LI N (eR GR)
        replace I:=aK I GR
        replace hbr:=tr hbr GR
        clear GR
        try clear hHeld
        refine hK.out _ _ (⟨S.out.cell 0,⟨M.out.cell 0,⟨M.out.cell 2,(oC.out _ FS.out.now)⟩⟩⟩) (fun hHeld => ?_)
        clear hK K
        refine wpAnyH_done (by kernel_rfl) ?_ _
        try clear hHeld
        go_wp2_with fail
        go_meet
        have hBl:=N.out.le
        exact ⟨⟨⟨_,_,_,_,_,_,_,_,_,_,_,_,_,_,rfl,aQ,I.out,N.out,by omega,by omega,by omega,hbr⟩⟩,S.out,X.out,Z.out,V.out,FS.out,LI.out⟩
       skip
       go_simp
       generalize tC:GH.alloc _=Gj
       have ⟨wC,I⟩:=bH tC
       clear tC
       have XJ:=S.out.here
       have acD:=X.out.here
       have XK:=Z.out.here
       have XL:=V.out.here
       have UE:=M.out.here
       have adv:=FS.out.le
       have ac5:=LI.out.le
       have ac6:=TP.out.le
       have ac7:=hbr.size
       obtain ⟨S,X,Z,V,M,FS,LI,TP⟩:=b8 S X Z V M FS LI TP wC
       replace hbr:=dT hbr wC
       clear wC
       generalize GH.heap.size=g87 at *
       try clear hHeld
       refine hK.out _ _ (⟨S.out.cell 0,⟨M.out.cell 0,⟨M.out.cell 2,(oC.out _ FS.out.now)⟩⟩⟩) (fun hHeld => ?_)
       clear hK K
       refine fH (i:=14) (fun K hK => ?_)
       go_simp
       have Yh:=S.out.here
       have YJ:=X.out.here
       have ags:=Z.out.here
       have agt:=V.out.here
       have agu:=M.out.here
       have Z8:=I.out.here
       have O1:=FS.out.le
       have J6:=LI.out.le
       have Ol:=TP.out.le
       have Om:=hbr.size
       ((with_reducible refine (HPQ.out _ _ (Nat.le_trans aT.out (hbr).size) (HT.out.keep (fun _ hp => (hbr).cell (Nat.lt_of_lt_of_le hp aT.out)) (Nat.le_refl _)) (aH TP.out.now (Nat.zero_le _))).mono ?_);rintro e acF aev)
       have Uj:=aev.1
       obtain ⟨aW,aX,aY,bf,bn,bC,bD,bF,dL,dM,bY,aQ,rfl,N⟩:=aev.take (w0:=w) (Old.of (hbr.trans (Uj.mono hbr.size)) aT.out)
       obtain ⟨S,X,Z,V,M,I,FS,LI,TP⟩:=b9 S X Z V M I FS LI TP Uj
       replace hbr:=dT hbr Uj
       clear Uj aev
       replace N:=Lib.hid N
       have iF:(#[aW,aX,aY,bf,bn,bC,bD,bF,dL,dM,bY] : Array Value).all (·.oneCell')=true:=by simpa using aQ
       generalize Gj.heap.size=L98 at *
       clear TP
       try clear hHeld
       refine hK.out _ _ (⟨S.out.cell 0,⟨M.out.cell 0,⟨M.out.cell 2,(oC.out _ FS.out.now)⟩⟩⟩) (fun hHeld => ?_)
       clear hK K
       refine fH (i:=16) (fun K hK => ?_)
       refine aU (by rfl) 91 _ _ (by rfl) (g87) #[aW,aX,aY,bf,bn,bC,bD,bF,dL,dM,bY] (by rfl) (by rfl) 91 _ I.out (by kernel_rfl) rfl (by first | assumption | simp [Value.oneCell']) ?_
       generalize oM:acF.setRow _ _=EC
       obtain ⟨S,X,Z,V,M,FS,LI,N⟩:=f8 S X Z V M FS LI N (eR oM)
       replace I:=aK I oM
       replace hbr:=tr hbr oM
       clear oM
       try clear hHeld
       refine hK.out _ _ (⟨S.out.cell 0,⟨M.out.cell 0,⟨M.out.cell 2,(oC.out _ FS.out.now)⟩⟩⟩) (fun hHeld => ?_)
       clear hK K
       refine wpAnyH_done (by kernel_rfl) ?_ _
       try clear hHeld
       go_wp2_with fail
       go_meet
       have hBl:=N.out.le
       exact ⟨⟨⟨_,_,_,_,_,_,_,_,_,_,_,_,_,_,rfl,aQ,I.out,N.out,by omega,by omega,by omega,hbr⟩⟩,S.out,X.out,Z.out,V.out,FS.out,LI.out⟩
      skip
      go_simp
      generalize AQ:MG.alloc _=EZ
      have ⟨qO,I⟩:=bH AQ
      clear AQ
      have aj6:=S.out.here
      have aj7:=X.out.here
      have aj8:=Z.out.here
      have aac:=V.out.here
      have aad:=M.out.here
      have aae:=FS.out.le
      have RQ:=LI.out.le
      have X4:=hbr.size
      obtain ⟨S,X,Z,V,M,FS,LI⟩:=b7 S X Z V M FS LI qO
      replace hbr:=dT hbr qO
      clear qO
      generalize MG.heap.size=anr at *
      try clear hHeld
      refine hK.out _ _ (⟨S.out.cell 0,⟨M.out.cell 0,⟨M.out.cell 2,(oC.out _ FS.out.now)⟩⟩⟩) (fun hHeld => ?_)
      clear hK K
      refine fH (i:=13) (fun K hK => ?_)
      go_simp
      obtain ⟨LT,kC⟩ : ∃ n,n=(EZ).heap.size:=⟨_,rfl⟩
      have hzT:=(hbr).size
      rw [← kC] at hzT
      ((with_reducible refine (qA path _ m.id _ (by omega) (own_below uH.out hbr)).mono ?_);rintro e Ov ⟨IE,vt,rfl,hown⟩)
      obtain ⟨S,X,Z,V,M,I,FS,LI⟩:=b8 S X Z V M I FS LI IE
      replace hbr:=dT hbr IE
      clear IE
      rw [show (path ++ [m.id]).length=path.length+1 by simp] at hown
      obtain ⟨Ao,co,rfl⟩:=aF hown
      rw [← kC] at hown
      obtain ⟨LU,nJ⟩ : ∃ n,n=(Ov).heap.size:=⟨_,rfl⟩
      have TP:=Lib.hid (Kept.kM hown nJ)
      clear hown kC nJ
      try clear hHeld
      refine hK.out _ _ (⟨S.out.cell 0,⟨M.out.cell 0,⟨M.out.cell 2,(oC.out _ FS.out.now)⟩⟩⟩) (fun hHeld => ?_)
      clear hK K
      refine fH (i:=14) (fun K hK => ?_)
      go_simp
      have ai2:=S.out.here
      have ai3:=X.out.here
      have ai4:=Z.out.here
      have ap7:=V.out.here
      have ap8:=M.out.here
      have ap9:=I.out.here
      have aeL:=FS.out.le
      have aeM:=LI.out.le
      have aiP:=TP.out.le
      have aiQ:=hbr.size
      ((with_reducible refine (HPQ.out _ _ (Nat.le_trans aT.out (hbr).size) (HT.out.keep (fun _ hp => (hbr).cell (Nat.lt_of_lt_of_le hp aT.out)) (Nat.le_refl _)) (aH TP.out.now (Nat.zero_le _))).mono ?_);rintro e YM aaw)
      have xI:=aaw.1
      obtain ⟨aW,aX,aY,bf,bn,bC,bD,bF,dL,dM,bY,aQ,rfl,N⟩:=aaw.take (w0:=w) (Old.of (hbr.trans (xI.mono hbr.size)) aT.out)
      obtain ⟨S,X,Z,V,M,I,FS,LI,TP⟩:=b9 S X Z V M I FS LI TP xI
      replace hbr:=dT hbr xI
      clear xI aaw
      replace N:=Lib.hid N
      have iF:(#[aW,aX,aY,bf,bn,bC,bD,bF,dL,dM,bY] : Array Value).all (·.oneCell')=true:=by simpa using aQ
      generalize Ov.heap.size=asn at *
      clear TP
      try clear hHeld
      refine hK.out _ _ (⟨S.out.cell 0,⟨M.out.cell 0,⟨M.out.cell 2,(oC.out _ FS.out.now)⟩⟩⟩) (fun hHeld => ?_)
      clear hK K
      refine fH (i:=16) (fun K hK => ?_)
      refine aU (by rfl) 91 _ _ (by rfl) (anr) #[aW,aX,aY,bf,bn,bC,bD,bF,dL,dM,bY] (by rfl) (by rfl) 91 _ I.out (by kernel_rfl) rfl (by first | assumption | simp [Value.oneCell']) ?_
      generalize Di:YM.setRow _ _=afq
      obtain ⟨S,X,Z,V,M,FS,LI,N⟩:=f8 S X Z V M FS LI N (eR Di)
      replace I:=aK I Di
      replace hbr:=tr hbr Di
      clear Di
      try clear hHeld
      refine hK.out _ _ (⟨S.out.cell 0,⟨M.out.cell 0,⟨M.out.cell 2,(oC.out _ FS.out.now)⟩⟩⟩) (fun hHeld => ?_)
      clear hK K
      refine wpAnyH_done (by kernel_rfl) ?_ _
      try clear hHeld
      go_wp2_with fail
      go_meet
      have hBl:=N.out.le
      exact ⟨⟨⟨_,_,_,_,_,_,_,_,_,_,_,_,_,_,rfl,aQ,I.out,N.out,by omega,by omega,by omega,hbr⟩⟩,S.out,X.out,Z.out,V.out,FS.out,LI.out⟩
     case rest =>
      clear FS LI S X Z V M oC hd0 hd1 hw1 hbr
      obtain ⟨⟨gI,aW,aX,aY,bf,bn,bC,bD,bF,dL,dM,bY,LN,BN,rfl,aQ,I,hN,ug,NR,NS,hbr⟩,S,X,Z,V,AV,yB⟩:=hcut
      have iF:(#[aW,aX,aY,bf,bn,bC,bD,bF,dL,dM,bY] : Array Value).all (·.oneCell')=true:=by simpa using aQ
      replace S:=Lib.hid S
      replace X:=Lib.hid X
      replace Z:=Lib.hid Z
      replace V:=Lib.hid V
      have FS:=Lib.hid (AV)
      clear AV
      replace I:=Lib.hid I
      have LI:=Lib.hid (yB)
      have N:=Lib.hid (hN)
      clear yB hN
      have hNl:=N.out.le
      cases q with
      | error pn =>
       obtain ⟨p',n'⟩:=pn
       obtain rfl:bY = .bool false:=by
        obtain ⟨fp,hc,_⟩:=N.out.now
        have:=congrArg (fun l => l[10]?) hc;simpa using this
       have HR:Hid (aG rec x p path = .error (p',n')):=by show _=_;rw [HD.out,Gn (uM.out _ rfl)]
       obtain ⟨iI,iJ,iK,iL,iM,iO,iw,iP,pR,pU,lS⟩:=I.out.c11
       go_upto_region 16 with fail
       go_wp2_with (refine sR Z.out ?_)
       clear iI iJ iK iL iM iO iw iP pR pU lS
       generalize CG:wc.setRow _ _=YO
       obtain ⟨S,X,V,I,FS,LI,N⟩:=f7 S X V I FS LI N (eR CG)
       replace Z:=aK Z CG
       replace hbr:=tr hbr CG
       clear CG
       have HF:Hid (fG C w (aG rec x p path) (.returned (.agg #[aW,aX,aY,bf,bn,bC,bD,bF,dL,dM,.bool false])) YO):=by
        show fG _ _ _ _ _
        obtain ⟨fp,hc,hfo⟩:=N.out.now
        simp only [List.cons.injEq,and_true] at hc
        obtain ⟨rfl,rfl,rfl,rfl,rfl,rfl,rfl,rfl,rfl,rfl⟩:=hc
        rw [HR.out]
        exact ⟨hbr,_,rfl,aH hfo (by omega)⟩
       exact bodyPost_ret (v:=.agg #[aW,aX,aY,bf,bn,bC,bD,bF,dL,dM,.bool false]) (by simp [results,Tryz.results105,go_sem,Z.out.c11]) rfl (HF.out)
      | ok v =>
       obtain rfl:bY = .bool true:=by
        obtain ⟨_,_,_,hc,_⟩:=N.out.now
        have:=congrArg (fun l => l[10]?) hc;simpa using this
       obtain ⟨yM,FM,FN,hc,hv⟩:=N.out.now
       have Dn:Hid ((#[aW,aX,aY,bf,bn,bC,bD,bF] : Array Value)=(iQ v yM FM FN).toArray):=by
        show _=_
        simp only [List.cons.injEq,and_true] at hc
        obtain ⟨rfl,rfl,rfl,rfl,rfl,rfl,rfl,rfl,_⟩:=hc
        rfl
       have HV:=Lib.hid hv
       clear hc hv
       have EX:=Old.of hbr aT.out
       obtain ⟨iI,iJ,iK,iL,iM,iO,iw,iP,pR,pU,lS⟩:=I.out.c11
       have dK:=V.out.e6
       have nK:=LI.out.now
       have UU:=I.out.here
       have hCw:=aT.out
       have hlv:=fun j hj => hvl.out j hj
       go_upto_region 7 with (at_builtin;refine mD rfl _ _ rfl rfl Dn.out nK EX rfl rfl HV.out (fun j hj => by have:=hvl.out j hj;omega) hNl (by omega) (by omega) (by have:=jX.out;omega) (by omega) ?_;intro v' w3 hL3 hb3 hg3;obtain ⟨An,cn,hvv⟩:=hL3.form (Old.of ((hbr).trans (hb3.mono (by omega))) aT.out);obtain rfl:v' = .slice An (acc.length+1) cn:=(by rw [hvv,List.length_append];rfl);clear hvv;have V3:=dG V hg3 (fun hh => by have:=(hvl.out _ hh).1;omega);have v36:w3.cell? ⟨gV,6,none⟩=some va:=V3.out.cell 6;have f36:=V3.out.free 6)
       clear nK v36 f36 V3
       clear N
       clear LI
       clear iI iJ iK iL iM iO iw iP pR pU lS dK
       replace S:=dG S hg3 (fun hh => by have:=hvl.out _ hh;omega)
       replace X:=dG X hg3 (fun hh => by have:=hvl.out _ hh;omega)
       replace Z:=dG Z hg3 (fun hh => by have:=hvl.out _ hh;omega)
       replace V:=dG V hg3 (fun hh => by have:=hvl.out _ hh;omega)
       replace I:=dG I hg3 (fun hh => by have:=hvl.out _ hh;omega)
       replace FS:=Lib.hid (FS.out.EL hb3 (show gV≤(gV+1) by omega))
       replace hbr:=hbr.trans (hb3.mono (show w.heap.size≤(gV+1) by omega))
       clear hlv
       have EY:=Old.of hbr aT.out
       have LJ:=Lib.hid (hL3.kept EY)
       clear hL3 EY EX
       generalize nM:w3.setCell _ _=NW
       obtain ⟨S,X,Z,I,FS,LJ⟩:=f6 S X Z I FS LJ (eF nM)
       replace V:=uf V nM
       replace hbr:=tf hbr nM
       clear nM
       go_wp2_with fail
       go_roundw
       case rel => exact ⟨k+1,by omega,by go_num,_,acc ++ [v],⟨S.out,X.out,Z.out,V.out,FS.out,o8,hbr⟩,LJ.out.now,by rw [List.length_append,jX.out];rfl,uK.out v rfl⟩
       case measure => simp [intOf];omega
    | none =>
     simp only [hfi,Bv] at HF
     have hfn:=Qz hfi
     clear hfi
     go_wp2_with fail
     clear lW
     ((with_reducible refine (HF.out _ (Rd.pq FS.out.now)).mono ?_);rintro e afj ⟨rfl,rfl⟩)
     clear HF
     cases hdf:m.iR with
     | true =>
      have hmm:yS rec fs path m = .ok m.dflt:=by unfold yS;rw [hfn,hdf];rfl
      have HS1:=Lib.hid (uK.out _ hmm)
      have kQ:=M.out.e4
      rw [hdf] at kQ
      clear hmm hfn uK uM hdf
      go_upto_region 13 with fail
      have HV:=Lib.hid (HMA.out.dflt.anq (w0:=w) (L:=uX.heap.size) (B:=uX.heap.size) (Old.of hbr aT.out))
      have EX:=Old.of hbr aT.out
      obtain ⟨-,-,-,-,-,wJ,wK,wL,wM,wO,qP,qQ,qR⟩:=M.out.c13
      have dK:=V.out.e6
      have nK:=LI.out.now
      have UU:=M.out.here
      have hCw:=aT.out
      have hlv:=fun j hj => hvl.out j hj
      go_upto_region 7 with (at_builtin;refine mD rfl _ _ rfl rfl rfl nK EX rfl rfl HV.out (fun j hj => by have:=hvl.out j hj;omega) (Nat.le_refl _) (by omega) (by omega) (by have:=jX.out;omega) (by omega) ?_;intro v' w3 hL3 hb3 hg3;obtain ⟨An,cn,hvv⟩:=hL3.form (Old.of ((hbr).trans (hb3.mono (by omega))) aT.out);obtain rfl:v' = .slice An (acc.length+1) cn:=(by rw [hvv,List.length_append];rfl);clear hvv;have V3:=dG V hg3 (fun hh => by have:=(hvl.out _ hh).1;omega);have v36:w3.cell? ⟨gV,6,none⟩=some va:=V3.out.cell 6;have f36:=V3.out.free 6)
      clear nK v36 f36 V3
      clear LI
      clear kQ wJ wK wL wM wO qP qQ qR dK
      replace S:=dG S hg3 (fun hh => by have:=hvl.out _ hh;omega)
      replace X:=dG X hg3 (fun hh => by have:=hvl.out _ hh;omega)
      replace Z:=dG Z hg3 (fun hh => by have:=hvl.out _ hh;omega)
      replace V:=dG V hg3 (fun hh => by have:=hvl.out _ hh;omega)
      replace M:=dG M hg3 (fun hh => by have:=hvl.out _ hh;omega)
      replace FS:=Lib.hid (FS.out.EL hb3 (show gV≤(gV+1) by omega))
      replace hbr:=hbr.trans (hb3.mono (show w.heap.size≤(gV+1) by omega))
      clear hlv
      have EY:=Old.of hbr aT.out
      have LJ:=Lib.hid (hL3.kept EY)
      clear hL3 EY EX
      generalize Gl:w3.setCell _ _=qN
      obtain ⟨S,X,Z,M,FS,LJ⟩:=f6 S X Z M FS LJ (eF Gl)
      replace V:=uf V Gl
      replace hbr:=tf hbr Gl
      clear Gl
      go_wp2_with fail
      go_roundw
      case rel => exact ⟨k+1,by omega,by go_num,_,acc ++ [m.dflt],⟨S.out,X.out,Z.out,V.out,FS.out,o8,hbr⟩,LJ.out.now,by rw [List.length_append,jX.out];rfl,HS1.out⟩
      case measure => simp [intOf];omega
     | false =>
      have hmm:yS rec fs path m = .error (path ++ [m.id],7):=by unfold yS;rw [hfn,hdf];rfl
      have HR:Hid (aG rec x p path = .error (path ++ [m.id],7)):=by show _=_;rw [HD.out,Gn (uM.out _ hmm)]
      have kQ:=M.out.e4
      rw [hdf] at kQ
      clear hmm hfn uK uM hdf
      go_upto_region 12 with fail
      have lW:=M.out.e0
      go_wp2_with fail
      clear kQ lW
      ((with_reducible refine (qA path _ m.id _ (by omega) (own_below uH.out hbr)).mono ?_);rintro e ED ⟨aax,vt,rfl,hown⟩)
      obtain ⟨S,X,Z,V,M,FS,LI⟩:=b7 S X Z V M FS LI aax
      replace hbr:=dT hbr aax
      clear aax
      have hown:=aH hown (Nat.zero_le _)
      obtain ⟨LF,fD⟩ : ∃ n,n=(ED).heap.size:=⟨_,rfl⟩
      have kU:=Z.out.here
      rw [← fD] at kU
      go_wp2_with fail
      ((with_reducible refine (gu C (path ++ [m.id]) _ 7 _ (by simp;omega) hown).mono ?_);rintro e YP ⟨Ip,xu,rfl,hown⟩)
      obtain ⟨S,X,Z,V,M,FS,LI⟩:=b7 S X Z V M FS LI Ip
      replace hbr:=dT hbr Ip
      clear Ip
      rw [show (path ++ [m.id]).length=path.length+1 by simp] at hown
      obtain ⟨Af2,cf2,rfl⟩:=aF hown
      rw [← fD] at hown
      clear fD
      have FP:=Lib.hid (Kept.own hown)
      clear hown
      go_wp2_with (refine sR Z.out ?_)
      generalize CJ:YP.setRow _ _=afr
      obtain ⟨S,X,V,M,FS,LI,FP⟩:=f7 S X V M FS LI FP (eR CJ)
      replace Z:=aK Z CJ
      replace hbr:=tr hbr CJ
      clear CJ
      exact bodyPost_ret (v:=.agg #[.int .i64 0,.bool false,.int .i64 0,.string ⟨#[]⟩,.int .i64 0,.slice none 0 0,.slice none 0 0,.slice none 0 0,.slice Af2 (path.length+1) cf2,.int .i64 7,.bool false]) (by simp [results,Tryz.results105,go_sem,Z.out.c11]) rfl ((by rw [HR.out];exact ⟨hbr,_,rfl,by rw [List.length_append];exact aH FP.out.now (by omega)⟩))
   obtain rfl:k=x.aj.length:=by omega
   have hOr:=Old.of hbr aT.out
   have zA:Hid (gB (wH rec x fs path) x.aj.length 0 [] = .ok acc):=by show _=_;rw [hseq,Nat.sub_self];rfl
   have hLk:=hL.kept hOr
   have hgz:=V.out.here
   obtain ⟨B0,hB0⟩ : ∃ B0,wr.heap.size=B0:=⟨_,rfl⟩
   have alY:B0≤wr.heap.size:=by omega
   rw [hB0] at hLk hgz
   obtain ⟨Av,cv,rfl⟩:=hL.form hOr
   have jX:=Lib.hid hacc
   have hl1:Hid (aav w C At ct ts.length x C1 l1 C2 l2 fs Af cf gV (.slice Av acc.length cv) (.slice none 0 0) wr) :=
    Lib.hid ⟨S.out,X.out,Z.out,V.out,FS.out,o8,hbr⟩
   have I5:=Lib.hid hLk
   go_upto_region 19 with fail
   clear S X Z V FS hL hLk hB0 hseq hacc hOr bK hbr
   go_loopw [18] (fun i wr => ∃ k:Nat,k≤fs.length∧i = .int .i64 (k:Int)∧∃ (vr:Value) (rs:List Raw),aav w C At ct ts.length x C1 l1 C2 l2 fs Af cf gV (.slice Av acc.length cv) vr wr∧wr.ownsRow B0 123 2 vr rs.length (iV rs)∧rs.length≤k∧(∀ r ∈ rs,pV r)∧jG x path fs []=jG x path (fs.drop k) rs∧Kept (jK w C (gV+1) (.slice Av acc.length cv) acc) wr (gV+1) B0) (fun i _ => fs.length - (intOf i).toNat)
   case atStart => exact ⟨0,by omega,rfl,_,[],hl1.out,World.ownsRow_nil _ _ _ _,Nat.le_refl _,by simp,rfl,I5.out⟩
   case round =>
    clear hl1 I5
    obtain ⟨k,hk1,rfl,vr,rs,⟨S,X,Z,V,AV,o8,hbr⟩,hO,hrl,kT,hre,rH⟩:=hrel
    replace S:=Lib.hid S
    replace X:=Lib.hid X
    replace Z:=Lib.hid Z
    replace V:=Lib.hid V
    have FS:=Lib.hid (AV)
    clear AV
    have LK:=Lib.hid (rH)
    clear rH
    by_cases hlt:k < fs.length
    ·
     have DK:Hid (∀ j,vr.ownBlock=some j→B0≤j∧j < wr.heap.size):=Lib.hid (fun j hj => hO.lt j hj)
     have Vh:=Kept.own hO
     have hgz:=And.intro V.out.here LK.out.le
     obtain ⟨hz,hzE⟩ : ∃ hz,wr.heap.size=hz:=⟨_,rfl⟩
     rw [hzE] at Vh DK hgz
     clear hzE hO
     have RW:=Lib.hid (Vh)
     clear Vh
     obtain ⟨gf,cf',hvf⟩:=Gp FS.out.now (by omega)
     injection hvf with hv1 hv2 hv3
     subst hv1;subst hv3;clear hv2
     have oC:=Lib.hid (fun (W:World) h => Oa (W:=W) (g:=gf) (n:=fs.length) (n':=fs.length) (c:=cf) h hlt)
     rw [Va hlt] at hre
     have hfl:=HL.out fs[k] (List.getElem_mem hlt)
     have yK:(k:Int) < fs.length:=by omega
     have hd0:decide ((k:Int) < 0)=false:=by simp
     have hd1:decide (fs.length≤k)=false:=by simpa using hlt
     generalize fs[k]=f at *
     have Vj:=Lib.hid hre
     have HRi:=Lib.hid kT
     clear hre kT
     have HS:=Lib.hid (fun W h => KZ x (.slice C1 x.syms.length l1) (.slice C2 x.aj.length l2) f.id W h)
     simp only [aS,hk] at HS
     go_upto_region 21 with fail
     obtain ⟨aI,bI,bQ,bT,bW,dD,bK,bJ,bZ,bM⟩:=X.out.c10
     refine wp_region_held_drew (S:=(fun w' => w'.cell? ⟨w.heap.size+1,0,none⟩=some (.int .i64 5)∧w'.cell? ⟨w.heap.size+1,1,none⟩=some (.string ⟨x.name.toArray⟩)∧w'.cell? ⟨w.heap.size+1,2,none⟩=some (.int .i64 x.low)∧w'.cell? ⟨w.heap.size+1,3,none⟩=some (.int .i64 x.high)∧w'.cell? ⟨w.heap.size+1,4,none⟩=some (.int .i64 x.max)∧w'.cell? ⟨w.heap.size+1,5,none⟩=some (.slice C1 x.syms.length l1)∧w'.cell? ⟨w.heap.size+1,6,none⟩=some (.slice C2 x.aj.length l2)∧w'.cell? ⟨w.heap.size+1,7,none⟩=some (.int .i64 x.key)∧w'.cell? ⟨w.heap.size+1,8,none⟩=some (.int .i64 x.elem)∧w'.cell? ⟨w.heap.size+1,9,none⟩=some (.bool x.opn)∧(w'.cell? ⟨gf,k*3,none⟩=some (.int .i64 f.id)))) (by kernel_rfl) ⟨aI,bI,bQ,bT,bW,dD,bK,bJ,bZ,bM,((oC.out _ FS.out.now).1)⟩ (fun hHeld => ?_)
     clear aI bI bQ bT bW dD bK bJ bZ bM
     have aay:Below wr.heap.size wr (wr.drew):=(Below.refl _ _).drew
     obtain ⟨S,X,Z,V,FS,LK,RW⟩:=b7 S X Z V FS LK RW aay
     replace hbr:=dT hbr aay
     clear aay
     generalize wr.drew=Pn at *
     refine tk (i:=0) (v := ?am5) ?_
     simp only [ah]
     refine tk (i:=1) (v := ?am6) ?_
     simp only [ah]
     refine tk (i:=2) (v := ?am7) ?_
     simp only [ah]
     refine tk (i:=3) (v := ?am8) ?_
     simp only [ah]
     refine tk (i:=4) (v := ?am9) ?_
     simp only [ah]
     refine tk (i:=5) (v := ?ana) ?_
     simp only [ah]
     refine fH (i:=6) (fun K hK => ?_)
     go_simp
     ((with_reducible refine (HS.out _ (HX.out.keep (fun _ hp => (hbr).cell (Nat.lt_of_lt_of_le hp aT.out)) (Nat.le_trans aT.out (hbr).size))).mono ?_);rintro e Uk ⟨rfl,aaz⟩)
     obtain ⟨S,X,Z,V,FS,LK,RW⟩:=b7 S X Z V FS LK RW aaz
     replace hbr:=dT hbr aaz
     clear aaz
     clear HS
     cases sW:lH x f.id with
     | some i =>
      have HR1:Hid (jG x path fs []=jG x path (fs.drop (k+1)) rs):=by show _=_;rw [Vj.out,sW];rfl
      simp only [qU,Option.isSome_some]
      clear sW
      try clear hHeld
      refine hK.out _ _ (⟨X.out.cell 0,⟨X.out.cell 1,⟨X.out.cell 2,⟨X.out.cell 3,⟨X.out.cell 4,⟨X.out.cell 5,⟨X.out.cell 6,⟨X.out.cell 7,⟨X.out.cell 8,⟨X.out.cell 9,((oC.out _ FS.out.now).1)⟩⟩⟩⟩⟩⟩⟩⟩⟩⟩) (fun hHeld => ?_)
      clear hK K
      refine tk (i:=7) (v := ?anb) ?_
      simp only [ah]
      refine tk (i:=8) (v := ?aso) ?_
      simp only [ah]
      refine tk (i:=9) (v := ?asq) ?_
      simp only [ah]
      refine tk (i:=10) (v := ?asr) ?_
      simp only [ah]
      refine tk (i:=11) (v := ?al0) ?_
      simp only [ah]
      refine wpAnyH_done (by kernel_rfl) ?_ _
      try clear hHeld
      go_wp2_with fail
      go_roundw
      case rel => exact ⟨k+1,by omega,by go_num,_,rs,⟨S.out,X.out,Z.out,V.out,FS.out,o8,hbr⟩,RW.out.now,by omega,HRi.out,HR1.out,LK.out⟩
      case measure => simp [intOf];omega
     | none =>
      simp only [qU,Option.isSome_none]
      try clear hHeld
      refine hK.out _ _ (⟨X.out.cell 0,⟨X.out.cell 1,⟨X.out.cell 2,⟨X.out.cell 3,⟨X.out.cell 4,⟨X.out.cell 5,⟨X.out.cell 6,⟨X.out.cell 7,⟨X.out.cell 8,⟨X.out.cell 9,((oC.out _ FS.out.now).1)⟩⟩⟩⟩⟩⟩⟩⟩⟩⟩) (fun hHeld => ?_)
      clear hK K
      refine tk (i:=7) (v := ?al1) ?_
      simp only [ah]
      refine tk (i:=8) (v := ?al3) ?_
      simp only [ah]
      refine tk (i:=9) (v := ?ag8) ?_
      simp only [ah]
      refine tk (i:=10) (v := ?ag9) ?_
      simp only [ah]
      refine tk (i:=11) (v := ?aha) ?_
      simp only [ah]
      refine wpAnyH_done (by kernel_rfl) ?_ _
      try clear hHeld
      obtain ⟨c0,c1,c2⟩:=oC.out _ FS.out.now
      cases hcr:f.jR with
      | true =>
       have hre:jG x path fs [] = .error (path ++ [(f.id:Int)],6):=by rw [Vj.out,sW,hcr];rfl
       have HR:Hid (aG rec x p path = .error (path ++ [(f.id:Int)],6)):=by show _=_;rw [HD.out,QD zA.out hre]
       rw [hcr] at c1
       clear sW hre hcr
       go_upto_region 24 with fail
       clear c1 c2
       go_upto_region 24 with fail
       have eH:=V.out.e0
       go_wp2_with fail
       clear eH
       ((with_reducible refine (qA path _ (f.id:Int) _ (by omega) (own_below uH.out hbr)).mono ?_);rintro e NZ ⟨yT,vt,rfl,hown⟩)
       obtain ⟨S,X,Z,V,FS,LK,RW⟩:=b7 S X Z V FS LK RW yT
       replace hbr:=dT hbr yT
       clear yT
       have hown:=aH hown (Nat.zero_le _)
       obtain ⟨LF,fD⟩ : ∃ n,n=(NZ).heap.size:=⟨_,rfl⟩
       have kU:=Z.out.here
       rw [← fD] at kU
       go_wp2_with fail
       ((with_reducible refine (gu C (path ++ [(f.id:Int)]) _ 6 _ (by simp;omega) hown).mono ?_);rintro e J5 ⟨aaA,xu,rfl,hown⟩)
       obtain ⟨S,X,Z,V,FS,LK,RW⟩:=b7 S X Z V FS LK RW aaA
       replace hbr:=dT hbr aaA
       clear aaA
       rw [show (path ++ [(f.id:Int)]).length=path.length+1 by simp] at hown
       obtain ⟨Af2,cf2,rfl⟩:=aF hown
       rw [← fD] at hown
       clear fD
       have FP:=Lib.hid (Kept.own hown)
       clear hown
       go_wp2_with (refine sR Z.out ?_)
       generalize CO:J5.setRow _ _=afu
       obtain ⟨S,X,V,FS,LK,RW,FP⟩:=f7 S X V FS LK RW FP (eR CO)
       replace Z:=aK Z CO
       replace hbr:=tr hbr CO
       clear CO
       exact bodyPost_ret (v:=.agg #[.int .i64 0,.bool false,.int .i64 0,.string ⟨#[]⟩,.int .i64 0,.slice none 0 0,.slice none 0 0,.slice none 0 0,.slice Af2 (path.length+1) cf2,.int .i64 6,.bool false]) (by simp [results,Tryz.results105,go_sem,Z.out.c11]) rfl ((by rw [HR.out];exact ⟨hbr,_,rfl,by rw [List.length_append];exact aH FP.out.now (by omega)⟩))
      | false =>
       have HR1:Hid (jG x path fs []=jG x path (fs.drop (k+1)) (rs ++ [((f.id:Int),f.data)])):=by show _=_;rw [Vj.out,sW,hcr];rfl
       rw [hcr] at c1
       clear sW hcr
       go_upto_region 25 with fail
       clear c0 c1 c2
       obtain ⟨i0,hi,hz0,hz1,hz2⟩:=info_parts Mc
       have eG:=V.out.e7
       refine wW (S:=(fun w' => w'.cell? ⟨gV,7,none⟩=some (vr)∧(w'.cell? ⟨gf,k*3,none⟩=some (.int .i64 f.id))∧(w'.cell? ⟨gf,k*3+2,none⟩=some (.string ⟨f.data.toArray⟩)))) (fun j => j == 16) (by kernel_rfl) ⟨eG,((oC.out _ FS.out.now).1),((oC.out _ FS.out.now).2.2)⟩ (fun hHeld => ?_)
       clear eG
       have aaB:Below Uk.heap.size Uk (Uk.drew):=(Below.refl _ _).drew
       obtain ⟨S,X,Z,V,FS,LK,RW⟩:=b7 S X Z V FS LK RW aaB
       replace hbr:=dT hbr aaB
       clear aaB
       generalize Uk.drew=JW at *
       refine lC (i:=0) (v := ?asu) ?_
       simp only [ah]
       refine lC (i:=1) (v := ?asv) ?_
       simp only [ah]
       refine lC (i:=2) (v := ?asw) ?_
       simp only [ah]
       refine lC (i:=3) (v := ?asx) ?_
       simp only [ah]
       refine lC (i:=4) (v := ?asy) ?_
       simp only [ah]
       refine lC (i:=5) (v := ?asz) ?_
       simp only [ah]
       refine lC (i:=6) (v := ?asA) ?_
       simp only [ah]
       refine lC (i:=7) (v := ?asB) ?_
       simp only [ah]
       refine lC (i:=8) (v := ?asC) ?_
       simp only [ah]
       refine lC (i:=9) (v := ?asD) ?_
       simp only [ah]
       refine lC (i:=10) (v := ?asE) ?_
       simp only [ah]
       refine lC (i:=11) (v := ?asF) ?_
       simp only [ah]
       refine lC (i:=12) (v := ?asG) ?_
       simp only [ah]
       refine Bl (i:=13) (fun K hK => ?_)
       go_simp
       generalize agB:JW.alloc _=J8
       have ⟨aaC,NB⟩:=bH agB
       clear agB
       have aku:=S.out.here
       have akv:=X.out.here
       have akw:=Z.out.here
       have agy:=V.out.here
       have agz:=FS.out.le
       have agA:=LK.out.le
       have akl:=RW.out.le
       have afA:=hbr.size
       obtain ⟨S,X,Z,V,FS,LK,RW⟩:=b7 S X Z V FS LK RW aaC
       replace hbr:=dT hbr aaC
       clear aaC
       generalize JW.heap.size=ant at *
       try clear hHeld
       refine hK.out _ _ (⟨V.out.cell 7,⟨((oC.out _ FS.out.now).1),((oC.out _ FS.out.now).2.2)⟩⟩) (fun hHeld => ?_)
       clear hK K
       refine Bl (i:=14) (fun K hK => ?_)
       have hO:=RW.out.now
       have hsR:=RW.out.le
       have hwB:=NB.out.here
       refine step_append_lies (P:=Tryz.prog) _ (by rfl) _ _ _ (by rfl) B0 123 i0 _ 2 24 Tryz.underlying28 hi hz0 hz1 hz2 rfl (by decide) vr rs.length _ (by rfl) hO ⟨ant,0,none⟩ 1 1 [.int .i64 f.id,.string ⟨f.data.toArray⟩] (by rfl) (by rfl) (World.news_of_block NB.out) (by simp [Value.oneCell']) (by omega) (by simp only [maxLen];omega) (by omega) (by omega) _ rfl ?_
       intro g2 cap2 w3 hown3 hg3 Gz Vg
       have hg4:∀ k,k < J8.heap.size→vr.ownBlock≠some k→w3.heap[k]?=J8.heap[k]?:=fun k h1 h2 => hg3.block k h1 (fun e => h2 e.symm)
       have hb3:Below B0 J8 w3:=(Below.refl B0 J8).grown hg3 (by omega) (fun k hk => (hO.lt k hk).1)
       clear hg3 Gz Vg
       clear RW
       clear NB
       replace S:=dG S hg4 (fun hh => by have:=DK.out _ hh;omega)
       replace X:=dG X hg4 (fun hh => by have:=DK.out _ hh;omega)
       replace Z:=dG Z hg4 (fun hh => by have:=DK.out _ hh;omega)
       replace V:=dG V hg4 (fun hh => by have:=DK.out _ hh;omega)
       replace FS:=Lib.hid (FS.out.EL hb3 (show gV≤B0 by omega))
       replace LK:=Lib.hid (LK.out.EL hb3 (show B0≤B0 by omega))
       replace hbr:=hbr.trans (hb3.mono (show w.heap.size≤B0 by omega))
       have hO3:w3.ownsRow B0 123 2 (.slice (some ⟨g2,0,none⟩) (rs.length+1) cap2) (rs ++ [((f.id:Int),f.data)]).length (iV (rs ++ [((f.id:Int),f.data)])):=by
        have e:iV (rs ++ [((f.id:Int),f.data)])=iV rs ++ [.int .i64 (f.id:Int),.string ⟨f.data.toArray⟩]:=by simp [iV,Bz]
        rw [e,List.length_append];exact hown3
       have RX:=Lib.hid (Kept.own hO3)
       have kT:∀ r ∈ rs ++ [((f.id:Int),f.data)],pV r:=fun r hr => by
        rcases List.mem_append.1 hr with h | h
        · exact HRi.out r h
        simp at h;subst h;exact ⟨by show I64 (f.id:Int);unfold I64;omega,by show f.data.length≤_;omega⟩
       have QI:=Lib.hid kT
       clear hO3 hown3 hO hg4 kT hi hz0 hz1 hz2
       try clear hHeld
       refine hK.out _ _ (⟨V.out.cell 7,⟨((oC.out _ FS.out.now).1),((oC.out _ FS.out.now).2.2)⟩⟩) (fun hHeld => ?_)
       clear hK K
       refine lC (i:=15) (v := ?asH) ?_
       simp only [ah]
       refine zL (i:=16) (fun K hK => ?_)
       have eG:=V.out.e7
       have anu:=V.out.free 7
       go_simp
       clear eG anu
       generalize xH:w3.setCell _ _=J9
       obtain ⟨S,X,Z,FS,LK,RX⟩:=f6 S X Z FS LK RX (eF xH)
       replace V:=U5 V xH
       replace hbr:=tf hbr xH
       clear xH
       try clear hHeld
       refine hK.out _ _ ?_
       clear hK K
       refine wX (by kernel_rfl) ?_ _
       try clear hHeld
       go_wp2_with fail
       go_roundw
       case rel => exact ⟨k+1,by omega,by go_num,_,rs ++ [((f.id:Int),f.data)],⟨S.out,X.out,Z.out,V.out,FS.out,o8,hbr⟩,RX.out.now,by rw [List.length_append];simp;omega,QI.out,HR1.out,LK.out⟩
       case measure => simp [intOf];omega
    obtain rfl:k=fs.length:=by omega
    have Vk:jG x path fs [] = .ok rs:=by rw [hre,List.drop_length];rfl
    have HR:Hid (aG rec x p path = .ok (.mk 5 false 0 [] 0 [] acc rs)):=by show _=_;rw [HD.out,Xj zA.out Vk]
    have RW:=Lib.hid (Kept.own hO)
    have QI:=Lib.hid kT
    obtain ⟨Ar,cr,rfl⟩:=aF hO
    have hal:acc.length≤1000000:=by have:=jX.out;omega
    have hrl2:rs.length≤1000000:=by omega
    have hvz:=V.out.here
    have hlB:=LK.out.le
    clear hre Vk kT hO
    obtain ⟨eH,dP,eP,eU,dY,dW,dK,eG⟩:=V.out.c8
    go_upto_region 26 with fail
    go_wp2_with fail
    clear eH dP eP eU dY dW dK eG
    ((with_reducible refine (oU 5 false 0 [] 0 [] acc rs _ _ _ (oI C w wr) _ (RF (LK.out.now.row (Old.of hbr aT.out) (by omega)) (WM RW.out.now (by omega)) QI.out hal hrl2)).mono ?_);rintro e SX ⟨rfl,IB⟩)
    obtain ⟨S,X,Z,V,FS,LK,RW⟩:=b7 S X Z V FS LK RW IB
    replace hbr:=dT hbr IB
    clear IB
    go_wp2_with (refine sR Z.out ?_)
    generalize oO:SX.setRow _ _=SY
    obtain ⟨S,X,V,FS,LK,RW⟩:=f6 S X V FS LK RW (eR oO)
    replace Z:=aK Z oO
    replace hbr:=tr hbr oO
    clear oO
    exact bodyPost_ret (v:=.agg #[.int .i64 5,.bool false,.int .i64 0,.string ⟨#[]⟩,.int .i64 0,.slice none 0 0,.slice Av acc.length cv,.slice Ar rs.length cr,.slice none 0 0,.int .i64 0,.bool true]) (by simp [results,Tryz.results105,go_sem,Z.out.c11]) rfl ((by rw [HR.out];exact ⟨hbr,_,_,_,rfl,RF (LK.out.now.row (Old.of hbr aT.out) (by omega)) (WM RW.out.now (by omega)) QI.out hal hrl2⟩))
end Go.Proofs.YthkfapcadhnaeaaGreatDoor
