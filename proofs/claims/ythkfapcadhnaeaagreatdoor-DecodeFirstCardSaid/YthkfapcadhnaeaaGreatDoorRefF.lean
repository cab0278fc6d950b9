/- dictionary of the reference. No condition. -/
import Derived.Test.YthkfapcadhnaeaaGreatDoorRefD
set_option maxHeartbeats 3200000
namespace Go.Proofs.YthkfapcadhnaeaaGreatDoor
open Go.ChangeShapes Go.WideShapes Go.ChangeAt Go.RowKit
theorem jK.elem {w0:World} {C L:Nat} {v:Value} {xs:List Val} {W:World} (h:jK w0 C L v xs W) (hO:Old w0 C W):kN W W.heap.size v xs:=by
 obtain ⟨S,h1,_⟩:=h hO;exact h1.rds
theorem akb (rec:Int→List UInt8→List Int→fO) (x:aC) (p:List UInt8) (path:List Int) (l:List (List UInt8)) (hk:x.kind=8) (ha:sV p=some l) :
  aG rec x p path=if l.length % 2=1 then .error (path,1) else if x.max < ((l.length / 2:Nat):Int) then .error (path,3) else zD (l.length / 2) (fun i => rec x.key (l.getD (2*i) []) (path ++ [(i:Int)])) (fun i => rec x.elem (l.getD (2*i+1) []) (path ++ [(i:Int)])) path:=by
 simp only [aG,hk,ha]
 rw [if_neg (by decide),if_neg (by decide),if_neg (by decide),if_neg (by decide),if_neg (by decide),if_neg (by decide),if_neg (by decide),if_pos trivial]
 by_cases h1:l.length % 2=1
 · rw [if_pos h1,if_pos h1]
 rw [if_neg h1,if_neg h1]
 by_cases h2:x.max < ((l.length / 2:Nat):Int)
 · rw [if_pos h2];simp at h2;simp [h2]
 rw [if_neg h2]
 simp at h2
 rw [if_neg (by simpa using h2)]
 unfold zD
 cases gB (fun i => rec x.key (l.getD (2*i) []) (path ++ [(i:Int)])) (l.length / 2) 0 [] with
 | error e => rfl
 | ok ks =>
  simp only []
  by_cases h3:uN ks=false
  · rw [if_pos h3,if_pos h3]
  rw [if_neg h3,if_neg h3]
  cases gB (fun i => rec x.elem (l.getD (2*i+1) []) (path ++ [(i:Int)])) (l.length / 2) 0 [] <;> rfl
set_option maxRecDepth 100000 in
theorem ach
 (ts:List aC) (tv:Value) (C:Nat) (L:Int) (vp:Value) (path:List Int) (p:List UInt8) (rec:Int→List UInt8→List Int→fO) (x:aC) (vs vm:Value) (w:World) (hk:x.kind=8) (hp:path.length < 200) (hL:0≤L∧L≤1000) (hpl:p.length≤800000)
 (hC:C≤w.heap.size) (ht:bG w C tv ts) (hx:eX w C x vs vm) (hvp:w.ownsRow 0 3 1 vp path.length (path.map iZ)) (HP:F9 ts C tv L rec path) (hm:(fB ts x.key).isSome=true∧(fB ts x.elem).isSome=true) :
 Calls Tryz.prog 104 #[.agg #[tv],aS x vs vm,.string ⟨p.toArray⟩,.int .i64 L,vp] w (fG C w (aG rec x p path)):=by
 have HI:=Lib.hid (fun W => OQ p (by omega) W)
 have wB:=Lib.hid (fun I h => Ef (p:=p) (I:=I) h)
 obtain ⟨C1,l1,C2,l2,rfl,rfl,-,-⟩:=hx.forms
 obtain ⟨At,ct,rfl,-⟩:=ht.form
 obtain ⟨Ap,cp,rfl⟩:=aF hvp
 have HX:=Lib.hid hx
 have HT:=Lib.hid ht
 have AU:=Lib.hid HP
 have HM:=Lib.hid hm
 have iq:=Lib.hid hk
 have aT:=Lib.hid hC
 have uH:=Lib.hid hvp
 have hxs:=hx.lens
 clear hx ht HP hm hvp
 go_enter Tryz.func104,Tryz.ntmps104
 go_upto_region 1 with fail
 generalize dJ:w.alloc _=wd2
 generalize jD:wd2.alloc _=wd4
 generalize iT:wd4.alloc _=wV
 have ⟨hb1,S,X,Z⟩:=an3 dJ jD iT
 clear dJ jD iT
 have hw8:=hb1
 clear hb1
 cases ha:sV p with
 | none =>
  have HR:Hid (aG rec x p path = .error (path,1)):=by show _=_;simp [aG,iq.out,ha]
  simp only [ha] at HI
  clear ha
  go_wp2_with fail
  ((with_reducible refine (HI.out _).mono ?_);rintro e AY ⟨rfl,mG⟩)
  obtain ⟨S,X,Z⟩:=b3 S X Z mG
  replace hw8:=dT hw8 mG
  clear mG
  go_upto_region 3 with fail
  obtain ⟨LF,fD⟩ : ∃ n,n=(AY).heap.size:=⟨_,rfl⟩
  have kU:=Z.out.here
  rw [← fD] at kU
  go_wp2_with fail
  ((with_reducible refine (gu C path _ 1 _ (by omega) (own_below uH.out hw8)).mono ?_);rintro e rO ⟨jl,xu,rfl,hown⟩)
  obtain ⟨S,X,Z⟩:=b3 S X Z jl
  replace hw8:=dT hw8 jl
  clear jl
  obtain ⟨Af,cf,rfl⟩:=aF hown
  rw [← fD] at hown
  clear fD
  have FP:=Lib.hid (Kept.own hown)
  clear hown
  go_wp2_with (refine sR Z.out ?_)
  generalize jY:rO.setRow _ _=tN
  obtain ⟨S,X,FP⟩:=f3 S X FP (eR jY)
  replace Z:=aK Z jY
  replace hw8:=tr hw8 jY
  clear jY
  exact bodyPost_ret (v:=.agg #[.int .i64 0,.bool false,.int .i64 0,.string ⟨#[]⟩,.int .i64 0,.slice none 0 0,.slice none 0 0,.slice none 0 0,.slice Af path.length cf,.int .i64 1,.bool false]) (by simp [results,Tryz.results104,go_sem,Z.out.c11]) rfl ((by rw [HR.out];exact ⟨hw8,_,rfl,aH FP.out.now (by omega)⟩))
 | some l =>
  have HLe:Hid (∀ q ∈ l,q.length≤p.length):=Lib.hid (wB.out l ha)
  simp only [ha] at HI
  have HD:Hid (aG rec x p path=if l.length % 2=1 then .error (path,1) else if x.max < ((l.length / 2:Nat):Int) then .error (path,3) else zD (l.length / 2) (fun i => rec x.key (l.getD (2*i) []) (path ++ [(i:Int)])) (fun i => rec x.elem (l.getD (2*i+1) []) (path ++ [(i:Int)])) path):=by
   show _=_
   exact akb rec x p path l iq.out ha
  clear ha wB
  have hS0:=Z.out.here
  go_wp2_with fail
  ((with_reducible refine (HI.out _).mono ?_);rintro e lD ⟨vl,rfl,hll,hown,hb16⟩)
  obtain ⟨S,X,Z⟩:=b3 S X Z hb16
  replace hw8:=dT hw8 hb16
  clear hb16
  clear HI
  obtain ⟨As,cs,rfl⟩:=aF hown
  have ST:=Lib.hid ((Kept.own (aH hown (show w.heap.size+3≤_ from hS0))).imp fun _ h => aH h (Nat.zero_le _))
  clear hown hS0
  by_cases hodd:l.length % 2=1
  ·
   have HR:Hid (aG rec x p path = .error (path,1)):=by show _=_;rw [HD.out,if_pos hodd]
   have ho:(l.length:Int) % 2=1:=by omega
   clear HD hodd
   go_upto_region 3 with fail
   obtain ⟨LF,fD⟩ : ∃ n,n=(lD).heap.size:=⟨_,rfl⟩
   have kU:=Z.out.here
   rw [← fD] at kU
   go_wp2_with fail
   ((with_reducible refine (gu C path _ 1 _ (by omega) (own_below uH.out hw8)).mono ?_);rintro e rE ⟨rV,xu,rfl,hown⟩)
   obtain ⟨S,X,Z,ST⟩:=b4 S X Z ST rV
   replace hw8:=dT hw8 rV
   clear rV
   obtain ⟨Af,cf,rfl⟩:=aF hown
   rw [← fD] at hown
   clear fD
   have FP:=Lib.hid (Kept.own hown)
   clear hown
   go_wp2_with (refine sR Z.out ?_)
   generalize hE20:rE.setRow _ _=nY
   obtain ⟨S,X,ST,FP⟩:=f4 S X ST FP (eR hE20)
   replace Z:=aK Z hE20
   replace hw8:=tr hw8 hE20
   clear hE20
   exact bodyPost_ret (v:=.agg #[.int .i64 0,.bool false,.int .i64 0,.string ⟨#[]⟩,.int .i64 0,.slice none 0 0,.slice none 0 0,.slice none 0 0,.slice Af path.length cf,.int .i64 1,.bool false]) (by simp [results,Tryz.results104,go_sem,Z.out.c11]) rfl ((by rw [HR.out];exact ⟨hw8,_,rfl,aH FP.out.now (by omega)⟩))
  obtain ⟨n,hn⟩ : ∃ n,l.length=2*n:=⟨l.length / 2,by omega⟩
  have hn2:l.length / 2=n:=by omega
  have HD:Hid (aG rec x p path=if x.max < (n:Int) then .error (path,3) else zD n (fun i => rec x.key (l.getD (2*i) []) (path ++ [(i:Int)])) (fun i => rec x.elem (l.getD (2*i+1) []) (path ++ [(i:Int)])) path):=by show _=_;rw [HD.out,if_neg hodd,hn2]
  have ho:(l.length:Int) % 2=0:=by omega
  have hq:(l.length:Int) / 2=n:=by omega
  replace hn:=Lib.hid hn
  clear hodd hn2
  obtain ⟨aI,bI,bQ,bT,bW,dD,bK,bJ,bZ,bM⟩:=X.out.c10
  by_cases h1:x.max < (n:Int)
  ·
   have HR:Hid (aG rec x p path = .error (path,3)):=by show _=_;rw [HD.out,if_pos h1]
   clear HD
   go_upto_region 5 with fail
   obtain ⟨LF,fD⟩ : ∃ n,n=(lD).heap.size:=⟨_,rfl⟩
   have kU:=Z.out.here
   rw [← fD] at kU
   go_wp2_with fail
   clear aI bI bQ bT bW dD bK bJ bZ bM
   ((with_reducible refine (gu C path _ 3 _ (by omega) (own_below uH.out hw8)).mono ?_);rintro e qj ⟨yj,xu,rfl,hown⟩)
   obtain ⟨S,X,Z,ST⟩:=b4 S X Z ST yj
   replace hw8:=dT hw8 yj
   clear yj
   obtain ⟨Af,cf,rfl⟩:=aF hown
   rw [← fD] at hown
   clear fD
   have FP:=Lib.hid (Kept.own hown)
   clear hown
   go_wp2_with (refine sR Z.out ?_)
   generalize BG:qj.setRow _ _=ah8
   obtain ⟨S,X,ST,FP⟩:=f4 S X ST FP (eR BG)
   replace Z:=aK Z BG
   replace hw8:=tr hw8 BG
   clear BG
   exact bodyPost_ret (v:=.agg #[.int .i64 0,.bool false,.int .i64 0,.string ⟨#[]⟩,.int .i64 0,.slice none 0 0,.slice none 0 0,.slice none 0 0,.slice Af path.length cf,.int .i64 3,.bool false]) (by simp [results,Tryz.results104,go_sem,Z.out.c11]) rfl ((by rw [HR.out];exact ⟨hw8,_,rfl,aH FP.out.now (by omega)⟩))
  have HD:Hid (aG rec x p path=zD n (fun i => rec x.key (l.getD (2*i) []) (path ++ [(i:Int)])) (fun i => rec x.elem (l.getD (2*i+1) []) (path ++ [(i:Int)])) path):=by show _=_;rw [HD.out,if_neg h1]
  go_upto_region 7 with fail
  clear h1 ho hq
  clear aI bI bQ bT bW dD bK bJ bZ bM
  generalize oJ:lD.alloc _=qZ
  have ⟨pY,V⟩:=bH oJ
  clear oJ
  have Fb:=S.out.here
  have PI:=X.out.here
  have acH:=Z.out.here
  have UH:=ST.out.le
  have PK:=hw8.size
  obtain ⟨S,X,Z,ST⟩:=b4 S X Z ST pY
  replace hw8:=dT hw8 pY
  clear pY
  generalize lD.heap.size=g28 at *
  obtain ⟨gV,rfl⟩ : ∃ g,g=g28:=⟨_,rfl⟩
  have hl0:Hid (EW w C 8 At ct ts.length x C1 l1 C2 l2 l As cs gV (.slice none 0 0) (.slice none 0 0) qZ) :=
   Lib.hid ⟨S.out,X.out,Z.out,V.out,ST.out,by omega,hw8⟩
  clear S X Z V ST
  go_upto_region 8 with fail
  go_loopw [14] (fun i wr => ∃ k:Nat,k≤n∧i = .int .i64 (k:Int)∧∃ (va:Value) (acc:List Val),EW w C 8 At ct ts.length x C1 l1 C2 l2 l As cs gV va (.slice none 0 0) wr∧jK w C (gV+1) va acc wr∧acc.length=k∧gB (fun i => rec x.key (l.getD (2*i) []) (path ++ [(i:Int)])) n 0 []=gB (fun i => rec x.key (l.getD (2*i) []) (path ++ [(i:Int)])) (n - k) k acc) (fun i _ => l.length - (intOf i).toNat)
  case atStart => exact ⟨0,by omega,rfl,_,[],hl0.out,jK.nil _ _ _ _,rfl,rfl⟩
  case round =>
   clear hl0
   obtain ⟨k,hk1,rfl,va,acc,⟨S,X,Z,V,hST,o8,hbr⟩,hL,hacc,hseq⟩:=hrel
   replace S:=Lib.hid S
   replace X:=Lib.hid X
   replace Z:=Lib.hid Z
   replace V:=Lib.hid V
   have ST:=Lib.hid (hST)
   clear hST
   obtain ⟨j,hj⟩ : ∃ j,j=2*k:=⟨_,rfl⟩
   have hkb:k≤400000:=by have:=hn.out;omega
   by_cases hlt:j < l.length
   ·
    skip
    have hOr:=Old.of hbr aT.out
    have hvl:Hid (∀ j,va.ownBlock=some j→gV+1≤j∧j < wr.heap.size):=Lib.hid (fun j hj => hL.lt hOr j hj)
    have hLk:=hL.kept hOr
    have hgz:=V.out.here
    obtain ⟨hz,hzE⟩ : ∃ hz,wr.heap.size=hz:=⟨_,rfl⟩
    rw [hzE] at hLk hvl hgz
    clear hzE hL hOr
    have LI:=Lib.hid (hLk)
    clear hLk
    obtain ⟨gs,cs',hvs,-,-,-,-⟩:=ru ST.out.now (by omega)
    injection hvs with hv1 hv2 hv3
    subst hv1;subst hv3;clear hv2
    have gq:=Lib.hid (fun (W:World) h => NT (W:=W) (gs:=gs) (n:=l.length) (n':=l.length) (c:=cs) h hlt)
    have hn1:n - k=(n - (k+1))+1:=by have:=hn.out;omega
    have hfk:(fun i => rec x.key (l.getD (2*k) []) (path ++ [(i:Int)])) k=rec x.key l[j] (path ++ [(k:Int)]):=by simp [List.getD,← hj,hlt]
    rw [hn1] at hseq
    have lF:=fun v h => hseq.trans (yA (v:=v) (hfk.trans h))
    have lG:=fun e h => hseq.trans (uI (e:=e) (hfk.trans h))
    clear hseq hn1 hfk
    have hlk:=HLe.out l[j] (List.getElem_mem hlt)
    have HPQ:=Lib.hid (fun (W:World) (vp:Value) h1 h2 h3 => AU.out W x.key k l[j] vp h1 h2 h3 HM.out.1 (by omega))
    generalize rec x.key l[j] (path ++ [(k:Int)])=q at *
    generalize l[j]=lk at *
    have uK:=Lib.hid lF
    have uM:=Lib.hid lG
    have jX:=Lib.hid hacc
    have yK:(j:Int) < l.length:=by omega
    have hd0:decide ((j:Int) < 0)=false:=by simp
    have hd1:decide (l.length≤j)=false:=by simpa using hlt
    have hd2:decide ((j:Int) < l.length)=true:=by simpa using hlt
    have hw1:IntKind.i64.wrap (L+1)=L+1:=IntWalk.i64_in _ (by omega)
    have hkl:k < l.length:=(by omega);have hm1:IntKind.i64.wrap (2*(k:Int))=(j:Int):=by rw [IntKind.wrap_i64];omega
    have Hj:=Lib.hid hj;clear hj
    clear lF lG hacc
    go_upto_region 10 with fail
    go_cut [15] from 45 to 76 (fun sa wx => KF w C wx q (hz - 1) sa∧Has wx w.heap.size 24 #[.slice At ts.length ct]∧Has wx (w.heap.size+1) 69 #[.int .i64 8,.string ⟨x.name.toArray⟩,.int .i64 x.low,.int .i64 x.high,.int .i64 x.max,.slice C1 x.syms.length l1,.slice C2 x.aj.length l2,.int .i64 x.key,.int .i64 x.elem,.bool x.opn]∧Has wx (w.heap.size+1+1) 91 #[.int .i64 0,.bool false,.int .i64 0,.string ⟨#[]⟩,.int .i64 0,.slice none 0 0,.slice none 0 0,.slice none 0 0,.slice none 0 0,.int .i64 0,.bool false]∧Has wx gV 30 #[.int .i64 8,.bool false,.int .i64 0,.string ⟨#[]⟩,.int .i64 0,va,.slice none 0 0,.slice none 0 0] ∧
     Kept (fun w => w.ownsRow 0 9 1 (.slice (some ⟨gs,0,none⟩) l.length cs) l.length (l.map SB)) wx (w.heap.size+3) gV∧Kept (jK w C (gV+1) va acc) wx (gV+1) hz)
    case first =>
     have ay:=S.out.e0
     have bJ:=X.out.e7
     refine wp_region_held_drew (S:=(fun w' => w'.cell? ⟨w.heap.size,0,none⟩=some (.slice At ts.length ct)∧w'.cell? ⟨w.heap.size+1,7,none⟩=some (.int .i64 x.key)∧(w'.cell? ⟨gs,j,none⟩=some (.string ⟨lk.toArray⟩)))) (by kernel_rfl) ⟨ay,bJ,(gq.out _ ST.out.now)⟩ (fun hHeld => ?_)
     clear ay bJ
     have Nu:Below wr.heap.size wr (wr.drew):=(Below.refl _ _).drew
     obtain ⟨S,X,Z,V,ST,LI⟩:=b6 S X Z V ST LI Nu
     replace hbr:=dT hbr Nu
     clear Nu
     generalize wr.drew=uO at *
     refine tk (i:=0) (v := ?k36) ?_
     simp only [ah]
     refine tk (i:=1) (v := ?k37) ?_
     simp only [ah]
     refine tk (i:=2) (v := ?k38) ?_
     simp only [ah]
     refine tk (i:=3) (v := ?k39) ?_
     simp only [ah]
     refine tk (i:=4) (v := ?k40) ?_
     simp only [ah]
     refine tk (i:=5) (v := ?Xk) ?_
     simp only [ah]
     refine tk (i:=6) (v := ?Xl) ?_
     simp only [ah]
     refine tk (i:=7) (v := ?k43) ?_
     simp only [ah]
     refine tk (i:=8) (v := ?k44) ?_
     simp only [ah]
     refine tk (i:=9) (v := ?k45) ?_
     simp only [ah]
     refine tk (i:=10) (v := ?k46) ?_
     simp only [ah]
     refine tk (i:=11) (v := ?k47) ?_
     simp only [ah]
     refine wpAnyH_ready (rs:=[12,14]) (by kernel_rfl) (by simp) ?_
     refine AllReadyH.cons rfl (fun K hK => ?_) (AllReadyH.cons rfl (fun K hK => ?_) (AllReadyH.nil))
     ·
      skip
      go_simp
      obtain ⟨LT,kC⟩ : ∃ n,n=(uO).heap.size:=⟨_,rfl⟩
      have hzT:=(hbr).size
      rw [← kC] at hzT
      ((with_reducible refine (qA path _ (k:Int) _ (by omega) (own_below uH.out hbr)).mono ?_);rintro e yL ⟨vK,vt,rfl,hown⟩)
      obtain ⟨S,X,Z,V,ST,LI⟩:=b6 S X Z V ST LI vK
      replace hbr:=dT hbr vK
      clear vK
      rw [show (path ++ [(k:Int)]).length=path.length+1 by simp] at hown
      obtain ⟨Ao,co,rfl⟩:=aF hown
      rw [← kC] at hown
      obtain ⟨LU,nJ⟩ : ∃ n,n=(yL).heap.size:=⟨_,rfl⟩
      have TP:=Lib.hid (Kept.kM hown nJ)
      clear hown kC nJ
      try clear hHeld
      refine hK.out _ _ (⟨S.out.cell 0,⟨X.out.cell 7,(gq.out _ ST.out.now)⟩⟩) (fun hHeld => ?_)
      clear hK K
      refine wpAnyH_ready (rs:=[13,14]) (by kernel_rfl) (by simp) ?_
      refine AllReadyH.cons rfl (fun K hK => ?_) (AllReadyH.cons rfl (fun K hK => ?_) (AllReadyH.nil))
      ·
       skip
       go_simp
       have Fa:=S.out.here
       have IZ:=X.out.here
       have PN:=Z.out.here
       have UL:=V.out.here
       have XT:=ST.out.le
       have XU:=LI.out.le
       have XV:=TP.out.le
       have UM:=hbr.size
       ((with_reducible refine (HPQ.out _ _ (Nat.le_trans aT.out (hbr).size) (HT.out.keep (fun _ hp => (hbr).cell (Nat.lt_of_lt_of_le hp aT.out)) (Nat.le_refl _)) (aH TP.out.now (Nat.zero_le _))).mono ?_);rintro e Dp aep)
       have xX:=aep.1
       obtain ⟨aW,aX,aY,bf,bn,bC,bD,bF,dL,dM,bY,aQ,rfl,N⟩:=aep.take (w0:=w) (Old.of (hbr.trans (xX.mono hbr.size)) aT.out)
       obtain ⟨S,X,Z,V,ST,LI,TP⟩:=b7 S X Z V ST LI TP xX
       replace hbr:=dT hbr xX
       clear xX aep
       replace N:=Lib.hid N
       have iF:(#[aW,aX,aY,bf,bn,bC,bD,bF,dL,dM,bY] : Array Value).all (·.oneCell')=true:=by simpa using aQ
       generalize yL.heap.size=L51 at *
       clear TP
       try clear hHeld
       refine hK.out _ _ (⟨S.out.cell 0,⟨X.out.cell 7,(gq.out _ ST.out.now)⟩⟩) (fun hHeld => ?_)
       clear hK K
       refine fH (i:=14) (fun K hK => ?_)
       go_simp
       generalize rQ:Dp.alloc _=MH
       have ⟨yt,I⟩:=bH rQ
       clear rQ
       have Gt:=S.out.here
       have L9:=X.out.here
       have Vd:=Z.out.here
       have XW:=V.out.here
       have UN:=ST.out.le
       have UO:=LI.out.le
       have PO:=N.out.le
       have LG:=hbr.size
       obtain ⟨S,X,Z,V,ST,LI,N⟩:=b7 S X Z V ST LI N yt
       replace hbr:=dT hbr yt
       clear yt
       generalize Dp.heap.size=g65 at *
       try clear hHeld
       refine hK.out _ _ (⟨S.out.cell 0,⟨X.out.cell 7,(gq.out _ ST.out.now)⟩⟩) (fun hHeld => ?_)
       clear hK K
       refine fH (i:=15) (fun K hK => ?_)
       refine aU (by rfl) 91 _ _ (by rfl) (g65) #[aW,aX,aY,bf,bn,bC,bD,bF,dL,dM,bY] (by rfl) (by rfl) 91 _ I.out (by kernel_rfl) rfl (by first | assumption | simp [Value.oneCell']) ?_
       generalize BI:MH.setRow _ _=WI
       obtain ⟨S,X,Z,V,ST,LI,N⟩:=f7 S X Z V ST LI N (eR BI)
       replace I:=aK I BI
       replace hbr:=tr hbr BI
       clear BI
       try clear hHeld
       refine hK.out _ _ (⟨S.out.cell 0,⟨X.out.cell 7,(gq.out _ ST.out.now)⟩⟩) (fun hHeld => ?_)
       clear hK K
       refine wpAnyH_done (by kernel_rfl) ?_ _
       try clear hHeld
       go_wp2_with fail
       go_meet
       have hBl:=N.out.le
       exact ⟨⟨⟨_,_,_,_,_,_,_,_,_,_,_,_,_,_,rfl,aQ,I.out,N.out,by omega,by omega,by omega,hbr⟩⟩,S.out,X.out,Z.out,V.out,ST.out,LI.out⟩
      skip
      go_simp
      generalize Ve:yL.alloc _=Jc
      have ⟨qG,I⟩:=bH Ve
      clear Ve
      have PX:=S.out.here
      have Vf:=X.out.here
      have UQ:=Z.out.here
      have ag4:=V.out.here
      have acM:=ST.out.le
      have acN:=LI.out.le
      have acO:=TP.out.le
      have acP:=hbr.size
      obtain ⟨S,X,Z,V,ST,LI,TP⟩:=b7 S X Z V ST LI TP qG
      replace hbr:=dT hbr qG
      clear qG
      generalize yL.heap.size=g79 at *
      try clear hHeld
      refine hK.out _ _ (⟨S.out.cell 0,⟨X.out.cell 7,(gq.out _ ST.out.now)⟩⟩) (fun hHeld => ?_)
      clear hK K
      refine fH (i:=13) (fun K hK => ?_)
      go_simp
      have UE:=S.out.here
      have adv:=X.out.here
      have ac5:=Z.out.here
      have ac6:=V.out.here
      have ac7:=I.out.here
      have ac8:=ST.out.le
      have ac9:=LI.out.le
      have ada:=TP.out.le
      have ae7:=hbr.size
      ((with_reducible refine (HPQ.out _ _ (Nat.le_trans aT.out (hbr).size) (HT.out.keep (fun _ hp => (hbr).cell (Nat.lt_of_lt_of_le hp aT.out)) (Nat.le_refl _)) (aH TP.out.now (Nat.zero_le _))).mono ?_);rintro e P9 aer)
      have JR:=aer.1
      obtain ⟨aW,aX,aY,bf,bn,bC,bD,bF,dL,dM,bY,aQ,rfl,N⟩:=aer.take (w0:=w) (Old.of (hbr.trans (JR.mono hbr.size)) aT.out)
      obtain ⟨S,X,Z,V,I,ST,LI,TP⟩:=b8 S X Z V I ST LI TP JR
      replace hbr:=dT hbr JR
      clear JR aer
      replace N:=Lib.hid N
      have iF:(#[aW,aX,aY,bf,bn,bC,bD,bF,dL,dM,bY] : Array Value).all (·.oneCell')=true:=by simpa using aQ
      generalize Jc.heap.size=L89 at *
      clear TP
      try clear hHeld
      refine hK.out _ _ (⟨S.out.cell 0,⟨X.out.cell 7,(gq.out _ ST.out.now)⟩⟩) (fun hHeld => ?_)
      clear hK K
      refine fH (i:=15) (fun K hK => ?_)
      refine aU (by rfl) 91 _ _ (by rfl) (g79) #[aW,aX,aY,bf,bn,bC,bD,bF,dL,dM,bY] (by rfl) (by rfl) 91 _ I.out (by kernel_rfl) rfl (by first | assumption | simp [Value.oneCell']) ?_
      generalize Ud:P9.setRow _ _=XZ
      obtain ⟨S,X,Z,V,ST,LI,N⟩:=f7 S X Z V ST LI N (eR Ud)
      replace I:=aK I Ud
      replace hbr:=tr hbr Ud
      clear Ud
      try clear hHeld
      refine hK.out _ _ (⟨S.out.cell 0,⟨X.out.cell 7,(gq.out _ ST.out.now)⟩⟩) (fun hHeld => ?_)
      clear hK K
      refine wpAnyH_done (by kernel_rfl) ?_ _
      try clear hHeld
      go_wp2_with fail
      go_meet
      have hBl:=N.out.le
      exact ⟨⟨⟨_,_,_,_,_,_,_,_,_,_,_,_,_,_,rfl,aQ,I.out,N.out,by omega,by omega,by omega,hbr⟩⟩,S.out,X.out,Z.out,V.out,ST.out,LI.out⟩
     skip
     go_simp
     generalize OZ:uO.alloc _=ZK
     have ⟨aak,I⟩:=bH OZ
     clear OZ
     have O1:=S.out.here
     have J6:=X.out.here
     have Ol:=Z.out.here
     have Om:=V.out.here
     have aj9:=ST.out.le
     have apN:=LI.out.le
     have akc:=hbr.size
     obtain ⟨S,X,Z,V,ST,LI⟩:=b6 S X Z V ST LI aak
     replace hbr:=dT hbr aak
     clear aak
     generalize uO.heap.size=aiv at *
     try clear hHeld
     refine hK.out _ _ (⟨S.out.cell 0,⟨X.out.cell 7,(gq.out _ ST.out.now)⟩⟩) (fun hHeld => ?_)
     clear hK K
     refine fH (i:=12) (fun K hK => ?_)
     go_simp
     obtain ⟨LT,kC⟩ : ∃ n,n=(ZK).heap.size:=⟨_,rfl⟩
     have hzT:=(hbr).size
     rw [← kC] at hzT
     ((with_reducible refine (qA path _ (k:Int) _ (by omega) (own_below uH.out hbr)).mono ?_);rintro e EZ ⟨Iw,vt,rfl,hown⟩)
     obtain ⟨S,X,Z,V,I,ST,LI⟩:=b7 S X Z V I ST LI Iw
     replace hbr:=dT hbr Iw
     clear Iw
     rw [show (path ++ [(k:Int)]).length=path.length+1 by simp] at hown
     obtain ⟨Ao,co,rfl⟩:=aF hown
     rw [← kC] at hown
     obtain ⟨LU,nJ⟩ : ∃ n,n=(EZ).heap.size:=⟨_,rfl⟩
     have TP:=Lib.hid (Kept.kM hown nJ)
     clear hown kC nJ
     try clear hHeld
     refine hK.out _ _ (⟨S.out.cell 0,⟨X.out.cell 7,(gq.out _ ST.out.now)⟩⟩) (fun hHeld => ?_)
     clear hK K
     refine fH (i:=13) (fun K hK => ?_)
     go_simp
     have aac:=S.out.here
     have aad:=X.out.here
     have aae:=Z.out.here
     have RQ:=V.out.here
     have X4:=I.out.here
     have aeK:=ST.out.le
     have X5:=LI.out.le
     have RS:=TP.out.le
     have RU:=hbr.size
     ((with_reducible refine (HPQ.out _ _ (Nat.le_trans aT.out (hbr).size) (HT.out.keep (fun _ hp => (hbr).cell (Nat.lt_of_lt_of_le hp aT.out)) (Nat.le_refl _)) (aH TP.out.now (Nat.zero_le _))).mono ?_);rintro e BR NU)
     have E5:=NU.1
     obtain ⟨aW,aX,aY,bf,bn,bC,bD,bF,dL,dM,bY,aQ,rfl,N⟩:=NU.take (w0:=w) (Old.of (hbr.trans (E5.mono hbr.size)) aT.out)
     obtain ⟨S,X,Z,V,I,ST,LI,TP⟩:=b8 S X Z V I ST LI TP E5
     replace hbr:=dT hbr E5
     clear E5 NU
     replace N:=Lib.hid N
     have iF:(#[aW,aX,aY,bf,bn,bC,bD,bF,dL,dM,bY] : Array Value).all (·.oneCell')=true:=by simpa using aQ
     generalize EZ.heap.size=alA at *
     clear TP
     try clear hHeld
     refine hK.out _ _ (⟨S.out.cell 0,⟨X.out.cell 7,(gq.out _ ST.out.now)⟩⟩) (fun hHeld => ?_)
     clear hK K
     refine fH (i:=15) (fun K hK => ?_)
     refine aU (by rfl) 91 _ _ (by rfl) (aiv) #[aW,aX,aY,bf,bn,bC,bD,bF,dL,dM,bY] (by rfl) (by rfl) 91 _ I.out (by kernel_rfl) rfl (by first | assumption | simp [Value.oneCell']) ?_
     generalize Ue:BR.setRow _ _=ZF
     obtain ⟨S,X,Z,V,ST,LI,N⟩:=f7 S X Z V ST LI N (eR Ue)
     replace I:=aK I Ue
     replace hbr:=tr hbr Ue
     clear Ue
     try clear hHeld
     refine hK.out _ _ (⟨S.out.cell 0,⟨X.out.cell 7,(gq.out _ ST.out.now)⟩⟩) (fun hHeld => ?_)
     clear hK K
     refine wpAnyH_done (by kernel_rfl) ?_ _
     try clear hHeld
     go_wp2_with fail
     go_meet
     have hBl:=N.out.le
     exact ⟨⟨⟨_,_,_,_,_,_,_,_,_,_,_,_,_,_,rfl,aQ,I.out,N.out,by omega,by omega,by omega,hbr⟩⟩,S.out,X.out,Z.out,V.out,ST.out,LI.out⟩
    case rest =>
     clear ST LI S X Z V gq hd0 hd1 hd2 hw1 hbr hm1
     obtain ⟨⟨gI,aW,aX,aY,bf,bn,bC,bD,bF,dL,dM,bY,LN,BN,rfl,aQ,I,hN,ug,NR,NS,hbr⟩,S,X,Z,V,hST,yB⟩:=hcut
     have iF:(#[aW,aX,aY,bf,bn,bC,bD,bF,dL,dM,bY] : Array Value).all (·.oneCell')=true:=by simpa using aQ
     replace S:=Lib.hid S
     replace X:=Lib.hid X
     replace Z:=Lib.hid Z
     replace V:=Lib.hid V
     have ST:=Lib.hid (hST)
     clear hST
     replace I:=Lib.hid I
     have LI:=Lib.hid (yB)
     have N:=Lib.hid (hN)
     skip
     clear yB hN
     have hNl:=N.out.le
     cases q with
     | error pn =>
      obtain ⟨p',n'⟩:=pn
      obtain rfl:bY = .bool false:=by
       obtain ⟨fp,hc,_⟩:=N.out.now
       have:=congrArg (fun l => l[10]?) hc;simpa using this
      have HR:Hid (aG rec x p path = .error (p',n')):=by show _=_;rw [HD.out,UJ (uM.out _ rfl)]
      obtain ⟨iI,iJ,iK,iL,iM,iO,iw,iP,pR,pU,lS⟩:=I.out.c11
      go_upto_region 12 with fail
      go_wp2_with (refine sR Z.out ?_)
      clear iI iJ iK iL iM iO iw iP pR pU lS
      generalize uo:wc.setRow _ _=G5
      obtain ⟨S,X,V,I,ST,LI,N⟩:=f7 S X V I ST LI N (eR uo)
      replace Z:=aK Z uo
      replace hbr:=tr hbr uo
      clear uo
      have HF:Hid (fG C w (aG rec x p path) (.returned (.agg #[aW,aX,aY,bf,bn,bC,bD,bF,dL,dM,.bool false])) G5):=by
       show fG _ _ _ _ _
       obtain ⟨fp,hc,hfo⟩:=N.out.now
       simp only [List.cons.injEq,and_true] at hc
       obtain ⟨rfl,rfl,rfl,rfl,rfl,rfl,rfl,rfl,rfl,rfl⟩:=hc
       rw [HR.out]
       exact ⟨hbr,_,rfl,aH hfo (by omega)⟩
      exact bodyPost_ret (v:=.agg #[aW,aX,aY,bf,bn,bC,bD,bF,dL,dM,.bool false]) (by simp [results,Tryz.results104,go_sem,Z.out.c11]) rfl (HF.out)
     | ok v =>
      obtain rfl:bY = .bool true:=by
       obtain ⟨_,_,_,hc,_⟩:=N.out.now
       have:=congrArg (fun l => l[10]?) hc;simpa using this
      obtain ⟨yM,FM,FN,hc,hv⟩:=N.out.now
      have Dn:Hid ((#[aW,aX,aY,bf,bn,bC,bD,bF] : Array Value)=(iQ v yM FM FN).toArray):=by
       show _=_
       simp only [List.cons.injEq,and_true] at hc
       obtain ⟨rfl,rfl,rfl,rfl,rfl,rfl,rfl,rfl,_⟩:=hc
       rfl
      have HV:=Lib.hid hv
      clear hc hv
      have EX:=Old.of hbr aT.out
      obtain ⟨iI,iJ,iK,iL,iM,iO,iw,iP,pR,pU,lS⟩:=I.out.c11
      have dW:=V.out.e5
      have nK:=LI.out.now
      have UU:=I.out.here
      have hCw:=aT.out
      have hlv:=fun j hj => hvl.out j hj
      go_upto_region 9 with (at_builtin;refine mD rfl _ _ rfl rfl Dn.out nK EX rfl rfl HV.out (fun j hj => by have:=hvl.out j hj;omega) hNl (by omega) (by omega) (by have:=jX.out;have:=hn.out;omega) (by omega) ?_;intro v' w3 hL3 hb3 hg3;obtain ⟨An,cn,hvv⟩:=hL3.form (Old.of ((hbr).trans (hb3.mono (by omega))) aT.out);obtain rfl:v' = .slice An (acc.length+1) cn:=(by rw [hvv,List.length_append];rfl);clear hvv;have V3:=dG V hg3 (fun hh => by have:=(hvl.out _ hh).1;omega);have v36:w3.cell? ⟨gV,5,none⟩=some va:=V3.out.cell 5;have f36:=V3.out.free 5)
      clear nK v36 f36 V3
      clear N
      clear LI
      clear iI iJ iK iL iM iO iw iP pR pU lS dW
      replace S:=dG S hg3 (fun hh => by have:=hvl.out _ hh;omega)
      replace X:=dG X hg3 (fun hh => by have:=hvl.out _ hh;omega)
      replace Z:=dG Z hg3 (fun hh => by have:=hvl.out _ hh;omega)
      replace V:=dG V hg3 (fun hh => by have:=hvl.out _ hh;omega)
      replace I:=dG I hg3 (fun hh => by have:=hvl.out _ hh;omega)
      replace ST:=Lib.hid (ST.out.EL hb3 (show gV≤(gV+1) by omega))
      replace hbr:=hbr.trans (hb3.mono (show w.heap.size≤(gV+1) by omega))
      clear hlv
      have EY:=Old.of hbr aT.out
      have LJ:=Lib.hid (hL3.kept EY)
      clear hL3 EY EX
      generalize uq:w3.setCell _ _=YC
      obtain ⟨S,X,Z,I,ST,LJ⟩:=f6 S X Z I ST LJ (eF uq)
      replace V:=Xe V uq
      replace hbr:=tf hbr uq
      clear uq
      go_wp2_with fail
      go_roundw
      case rel => exact ⟨k+1,by have:=Hj.out;have:=hn.out;omega,by go_num,_,acc ++ [v],⟨S.out,X.out,Z.out,V.out,ST.out,o8,hbr⟩,LJ.out.now,by rw [List.length_append,jX.out];rfl,uK.out v rfl⟩
      case measure => simp [intOf];omega
   obtain rfl:n=k:=by have:=hn.out;omega
   have HD:Hid (aG rec x p path=if uN acc=false then .error (path,1) else yJ (fun is => .mk 8 false 0 [] 0 acc is []) (gB (fun i => rec x.elem (l.getD (2*i+1) []) (path ++ [(i:Int)])) n 0 [])):=by show _=_;rw [HD.out,Xd (by rw [hseq,Nat.sub_self];rfl)]
   have hOr:=Old.of hbr aT.out
   have hLk:=hL.kept hOr
   have hgz:=V.out.here
   have hm1:IntKind.i64.wrap (2*(n:Int))=(j:Int):=by rw [IntKind.wrap_i64];omega
   have hd2:decide ((j:Int) < l.length)=false:=by simpa using hlt
   obtain ⟨B0,hB0⟩ : ∃ B0,wr.heap.size=B0:=⟨_,rfl⟩
   rw [hB0] at hLk hgz
   obtain ⟨Av,cv,rfl⟩:=hL.form hOr
   have jX:=Lib.hid hacc
   have hl1:Hid (EW w C 8 At ct ts.length x C1 l1 C2 l2 l As cs gV (.slice Av acc.length cv) (.slice none 0 0) wr) :=
    Lib.hid ⟨S.out,X.out,Z.out,V.out,ST.out,o8,hbr⟩
   have I5:=Lib.hid hLk
   have hkn:acc.length≤800000:=by have:=hn.out;omega
   clear S X Z V ST hL hLk hB0 hseq hacc hj hOr
   go_upto_region 15 with fail
   clear hm1 hd2 hbr
   go_loopw [16] (fun i wr => ∃ k:Nat,i = .int .i64 ((k:Int)+1)∧k≤acc.length∧uN acc=uN (acc.drop k)∧EW w C 8 At ct ts.length x C1 l1 C2 l2 l As cs gV (.slice Av acc.length cv) (.slice none 0 0) wr∧Kept (jK w C (gV+1) (.slice Av acc.length cv) acc) wr (gV+1) B0) (fun i _ => acc.length+1 - (intOf i).toNat)
   case atStart => exact ⟨0,rfl,by omega,rfl,hl1.out,I5.out⟩
   case round =>
    clear hl1 I5
    obtain ⟨k,rfl,hk1,hix,⟨S,X,Z,V,hST,o8,hbr⟩,rH⟩:=hrel
    replace S:=Lib.hid S
    replace X:=Lib.hid X
    replace Z:=Lib.hid Z
    replace V:=Lib.hid V
    have ST:=Lib.hid (hST)
    clear hST
    have LK:=Lib.hid (rH)
    clear rH
    by_cases hlt:k+1 < acc.length
    ·
     obtain ⟨bk,ok,rfl,hbk,hek⟩:=(LK.out.now.elem (Old.of hbr aT.out)).elem (by omega)
     obtain ⟨xk,xi,xr,hcx,hxa⟩:=hek k (by omega)
     obtain ⟨yk,yi,yr,hcy,hya⟩:=hek (k+1) hlt
     rw [Xf _ _ hlt] at hix
     generalize acc[k]=a at *
     generalize acc[k+1]=d at *
     obtain ⟨E1,k1,E2,k2,E3,k3,rfl,rfl,rfl,-,-,-⟩:=hxa.forms
     obtain ⟨F1,m1,F2,m2,F3,m3,rfl,rfl,rfl,-,-,-⟩:=hya.forms
     obtain ⟨a0,a1,a2,a3,a4,a5,a6,a7⟩:=hcx
     obtain ⟨d0,d1,d2,d3,d4,d5,d6,d7⟩:=hcy
     have HA:=Lib.hid hxa
     have HE:=Lib.hid hya
     have jo:=Lib.hid hix
     have hi1:(k:Int)+1 < acc.length:=by omega
     have hi2:(k:Int) < acc.length:=by omega
     clear hek hxa hya hix
     have dW:=V.out.e5
     go_wp2_with fail
     have hw0:IntKind.i64.wrap (k:Int)=k:=IntWalk.i64_in _ (by omega)
     have hw1:IntKind.i64.wrap ((k:Int)+1 - 1)=k:=by rw [Int.add_sub_cancel];exact hw0
     have hw2:((k:Int)+1).toNat=k+1:=by omega
     have hw3:0≤(k:Int)+1:=by omega
     go_still_tail 11,(by kernel_rfl)
     change wpList _ _ _ _ _ wr.drew
     clear hw0 hw1 hw2 hw3
     have HA:=Lib.hid (HA.out.on (w':=wr.drew) (Below.refl _ _).drew)
     have HE:=Lib.hid (HE.out.on (w':=wr.drew) (Below.refl _ _).drew)
     obtain ⟨UY,hcv⟩ : ∃ cv,Hid (je a d=cv):=⟨_,rfl⟩
     clear a0 a1 a2 a3 a4 a5 a6 a7 d0 d1 d2 d3 d4 d5 d6 d7
     clear dW
     have KA:Below wr.heap.size wr (wr.drew):=(Below.refl _ _).drew
     obtain ⟨S,X,Z,V,ST,LK⟩:=b6 S X Z V ST LK KA
     replace hbr:=dT hbr KA
     clear KA
     generalize wr.drew=ER at *
     go_wp2_with fail
     ((with_reducible refine (VI a d _ _ _ _ _ _ _ HA.out HE.out).mono ?_);rintro e ZM ⟨rfl,Iy⟩)
     obtain ⟨S,X,Z,V,ST,LK⟩:=b6 S X Z V ST LK Iy
     replace hbr:=dT hbr Iy
     clear Iy
     rw [hcv.out] at jo ⊢
     clear hcv HA HE
     by_cases hneg:UY < 0
     ·
      have hd:decide (0≤UY)=false:=decide_eq_false (by omega)
      rw [decide_eq_true hneg,Bool.true_and] at jo
      go_wp2_with fail
      go_roundw
      case rel => exact ⟨k+1,by go_num,by omega,jo.out,⟨S.out,X.out,Z.out,V.out,ST.out,o8,hbr⟩,LK.out⟩
      case measure => simp [intOf];omega
     have hd:decide (0≤UY)=true:=decide_eq_true (by omega)
     rw [decide_eq_false hneg,Bool.false_and] at jo
     have HR:Hid (aG rec x p path = .error (path,1)):=by show _=_;rw [HD.out,if_pos jo.out]
     go_upto_region 18 with fail
     obtain ⟨LF,fD⟩ : ∃ n,n=(ZM).heap.size:=⟨_,rfl⟩
     have kU:=Z.out.here
     rw [← fD] at kU
     go_wp2_with fail
     ((with_reducible refine (gu C path _ 1 _ (by omega) (own_below uH.out hbr)).mono ?_);rintro e SH ⟨aal,xu,rfl,hown⟩)
     obtain ⟨S,X,Z,V,ST,LK⟩:=b6 S X Z V ST LK aal
     replace hbr:=dT hbr aal
     clear aal
     obtain ⟨Af,cf,rfl⟩:=aF hown
     rw [← fD] at hown
     clear fD
     have FP:=Lib.hid (Kept.own hown)
     clear hown
     go_wp2_with (refine sR Z.out ?_)
     generalize Di:SH.setRow _ _=afq
     obtain ⟨S,X,V,ST,LK,FP⟩:=f6 S X V ST LK FP (eR Di)
     replace Z:=aK Z Di
     replace hbr:=tr hbr Di
     clear Di
     exact bodyPost_ret (v:=.agg #[.int .i64 0,.bool false,.int .i64 0,.string ⟨#[]⟩,.int .i64 0,.slice none 0 0,.slice none 0 0,.slice none 0 0,.slice Af path.length cf,.int .i64 1,.bool false]) (by simp [results,Tryz.results104,go_sem,Z.out.c11]) rfl ((by rw [HR.out];exact ⟨hbr,_,rfl,aH FP.out.now (by omega)⟩))
    rw [U0 _ _ (by omega)] at hix
    have HD:Hid (aG rec x p path=yJ (fun is => .mk 8 false 0 [] 0 acc is []) (gB (fun i => rec x.elem (l.getD (2*i+1) []) (path ++ [(i:Int)])) n 0 [])):=by show _=_;rw [HD.out,if_neg (by rw [hix];simp)]
    have hl1:Hid (EW w C 8 At ct ts.length x C1 l1 C2 l2 l As cs gV (.slice Av acc.length cv) (.slice none 0 0) wr) :=
     Lib.hid ⟨S.out,X.out,Z.out,V.out,ST.out,o8,hbr⟩
    clear hix
    have dW:=V.out.e5
    go_upto_region 20 with fail
    clear S X Z V ST dW hbr
    go_loopw [17] (fun i wr => ∃ k:Nat,k≤n∧i = .int .i64 (k:Int)∧∃ (va:Value) (LQ:List Val),EW w C 8 At ct ts.length x C1 l1 C2 l2 l As cs gV (.slice Av acc.length cv) va wr∧jK w C B0 va LQ wr∧LQ.length=k∧gB (fun i => rec x.elem (l.getD (2*i+1) []) (path ++ [(i:Int)])) n 0 []=gB (fun i => rec x.elem (l.getD (2*i+1) []) (path ++ [(i:Int)])) (n - k) k LQ∧Kept (jK w C (gV+1) (.slice Av acc.length cv) acc) wr (gV+1) B0) (fun i _ => l.length - (intOf i).toNat)
    case atStart => exact ⟨0,by omega,rfl,_,[],hl1.out,jK.nil _ _ _ _,rfl,rfl,LK.out⟩
    case round =>
     clear hl1 LK
     generalize X0:acc=ks at *
     clear X0
     obtain ⟨k,hk1,rfl,va,acc,⟨S,X,Z,V,hST,o8,hbr⟩,hL,hacc,hseq,rH⟩:=hrel
     replace S:=Lib.hid S
     replace X:=Lib.hid X
     replace Z:=Lib.hid Z
     replace V:=Lib.hid V
     have ST:=Lib.hid (hST)
     clear hST
     have LK:=Lib.hid (rH)
     obtain ⟨j,hj⟩ : ∃ j,j=2*k+1:=⟨_,rfl⟩
     have hkb:k≤400000:=by have:=hn.out;omega
     by_cases hlt:j < l.length
     ·
      skip
      have hOr:=Old.of hbr aT.out
      have hvl:Hid (∀ j,va.ownBlock=some j→B0≤j∧j < wr.heap.size):=Lib.hid (fun j hj => hL.lt hOr j hj)
      have hLk:=hL.kept hOr
      have hgz:=And.intro V.out.here rH.le;clear rH
      obtain ⟨hz,hzE⟩ : ∃ hz,wr.heap.size=hz:=⟨_,rfl⟩
      rw [hzE] at hLk hvl hgz
      clear hzE hL hOr
      have LI:=Lib.hid (hLk)
      clear hLk
      obtain ⟨gs,cs',hvs,-,-,-,-⟩:=ru ST.out.now (by omega)
      injection hvs with hv1 hv2 hv3
      subst hv1;subst hv3;clear hv2
      have gq:=Lib.hid (fun (W:World) h => NT (W:=W) (gs:=gs) (n:=l.length) (n':=l.length) (c:=cs) h hlt)
      have hn1:n - k=(n - (k+1))+1:=by have:=hn.out;omega
      have hfk:(fun i => rec x.elem (l.getD (2*k+1) []) (path ++ [(i:Int)])) k=rec x.elem l[j] (path ++ [(k:Int)]):=by simp [List.getD,← hj,hlt]
      rw [hn1] at hseq
      have lF:=fun v h => hseq.trans (yA (v:=v) (hfk.trans h))
      have lG:=fun e h => hseq.trans (uI (e:=e) (hfk.trans h))
      clear hseq hn1 hfk
      have hlk:=HLe.out l[j] (List.getElem_mem hlt)
      have HPQ:=Lib.hid (fun (W:World) (vp:Value) h1 h2 h3 => AU.out W x.elem k l[j] vp h1 h2 h3 HM.out.2 (by omega))
      generalize rec x.elem l[j] (path ++ [(k:Int)])=q at *
      generalize l[j]=lk at *
      have uK:=Lib.hid lF
      have uM:=Lib.hid lG
      have jX:=Lib.hid hacc
      have yK:(j:Int) < l.length:=by omega
      have hd0:decide ((j:Int) < 0)=false:=by simp
      have hd1:decide (l.length≤j)=false:=by simpa using hlt
      have hd2:decide ((j:Int) < l.length)=true:=by simpa using hlt
      have hw1:IntKind.i64.wrap (L+1)=L+1:=IntWalk.i64_in _ (by omega)
      have hkl:k < l.length:=(by omega);have hm1:IntKind.i64.wrap (2*(k:Int))=2*(k:Int):=(by rw [IntKind.wrap_i64];omega);have hm2:IntKind.i64.wrap (2*(k:Int)+1)=(j:Int):=(by rw [IntKind.wrap_i64];omega);have hm3:decide (2*(k:Int) < l.length)=true:=decide_eq_true (by omega)
      have Hj:=Lib.hid hj;clear hj
      clear lF lG hacc
      go_upto_region 22 with fail
      go_cut [18] from 99 to 131 (fun sa wx => KF w C wx q (hz - 1) sa∧Has wx w.heap.size 24 #[.slice At ts.length ct]∧Has wx (w.heap.size+1) 69 #[.int .i64 8,.string ⟨x.name.toArray⟩,.int .i64 x.low,.int .i64 x.high,.int .i64 x.max,.slice C1 x.syms.length l1,.slice C2 x.aj.length l2,.int .i64 x.key,.int .i64 x.elem,.bool x.opn]∧Has wx (w.heap.size+1+1) 91 #[.int .i64 0,.bool false,.int .i64 0,.string ⟨#[]⟩,.int .i64 0,.slice none 0 0,.slice none 0 0,.slice none 0 0,.slice none 0 0,.int .i64 0,.bool false]∧Has wx gV 30 #[.int .i64 8,.bool false,.int .i64 0,.string ⟨#[]⟩,.int .i64 0,.slice Av ks.length cv,va,.slice none 0 0] ∧
       Kept (fun w => w.ownsRow 0 9 1 (.slice (some ⟨gs,0,none⟩) l.length cs) l.length (l.map SB)) wx (w.heap.size+3) gV∧Kept (jK w C (B0) va acc) wx (B0) hz∧Kept (jK w C (gV+1) (.slice Av ks.length cv) ks) wx (gV+1) B0)
      case first =>
       have ay:=S.out.e0
       have bZ:=X.out.e8
       refine wp_region_held_drew (S:=(fun w' => w'.cell? ⟨w.heap.size,0,none⟩=some (.slice At ts.length ct)∧w'.cell? ⟨w.heap.size+1,8,none⟩=some (.int .i64 x.elem)∧(w'.cell? ⟨gs,j,none⟩=some (.string ⟨lk.toArray⟩)))) (by kernel_rfl) ⟨ay,bZ,(gq.out _ ST.out.now)⟩ (fun hHeld => ?_)
       clear ay bZ
       have aam:Below wr.heap.size wr (wr.drew):=(Below.refl _ _).drew
       obtain ⟨S,X,Z,V,ST,LK,LI⟩:=b7 S X Z V ST LK LI aam
       replace hbr:=dT hbr aam
       clear aam
       generalize wr.drew=KD at *
       refine tk (i:=0) (v := ?ahr) ?_
       simp only [ah]
       refine tk (i:=1) (v := ?ahs) ?_
       simp only [ah]
       refine tk (i:=2) (v := ?ag7) ?_
       simp only [ah]
       refine tk (i:=3) (v := ?am2) ?_
       simp only [ah]
       refine tk (i:=4) (v := ?am3) ?_
       simp only [ah]
       refine tk (i:=5) (v := ?ash) ?_
       simp only [ah]
       refine tk (i:=6) (v := ?anh) ?_
       simp only [ah]
       refine tk (i:=7) (v := ?ani) ?_
       simp only [ah]
       refine tk (i:=8) (v := ?anj) ?_
       simp only [ah]
       refine tk (i:=9) (v := ?ank) ?_
       simp only [ah]
       refine tk (i:=10) (v := ?anl) ?_
       simp only [ah]
       refine tk (i:=11) (v := ?aio) ?_
       simp only [ah]
       refine tk (i:=12) (v := ?aip) ?_
       simp only [ah]
       refine wpAnyH_ready (rs:=[13,15]) (by kernel_rfl) (by simp) ?_
       refine AllReadyH.cons rfl (fun K hK => ?_) (AllReadyH.cons rfl (fun K hK => ?_) (AllReadyH.nil))
       ·
        skip
        go_simp
        obtain ⟨LT,kC⟩ : ∃ n,n=(KD).heap.size:=⟨_,rfl⟩
        have hzT:=(hbr).size
        rw [← kC] at hzT
        ((with_reducible refine (qA path _ (k:Int) _ (by omega) (own_below uH.out hbr)).mono ?_);rintro e Pn ⟨aan,vt,rfl,hown⟩)
        obtain ⟨S,X,Z,V,ST,LK,LI⟩:=b7 S X Z V ST LK LI aan
        replace hbr:=dT hbr aan
        clear aan
        rw [show (path ++ [(k:Int)]).length=path.length+1 by simp] at hown
        obtain ⟨Ao,co,rfl⟩:=aF hown
        rw [← kC] at hown
        obtain ⟨LU,nJ⟩ : ∃ n,n=(Pn).heap.size:=⟨_,rfl⟩
        have TP:=Lib.hid (Kept.kM hown nJ)
        clear hown kC nJ
        try clear hHeld
        refine hK.out _ _ (⟨S.out.cell 0,⟨X.out.cell 8,(gq.out _ ST.out.now)⟩⟩) (fun hHeld => ?_)
        clear hK K
        refine wpAnyH_ready (rs:=[14,15]) (by kernel_rfl) (by simp) ?_
        refine AllReadyH.cons rfl (fun K hK => ?_) (AllReadyH.cons rfl (fun K hK => ?_) (AllReadyH.nil))
        ·
         skip
         go_simp
         have ai5:=S.out.here
         have afb:=X.out.here
         have aeP:=Z.out.here
         have aeQ:=V.out.here
         have aeR:=ST.out.le
         have aeS:=LK.out.le
         have aeT:=LI.out.le
         have aeU:=TP.out.le
         have aiY:=hbr.size
         ((with_reducible refine (HPQ.out _ _ (Nat.le_trans aT.out (hbr).size) (HT.out.keep (fun _ hp => (hbr).cell (Nat.lt_of_lt_of_le hp aT.out)) (Nat.le_refl _)) (aH TP.out.now (Nat.zero_le _))).mono ?_);rintro e agw aao)
         have Uf:=aao.1
         obtain ⟨aW,aX,aY,bf,bn,bC,bD,bF,dL,dM,bY,aQ,rfl,N⟩:=aao.take (w0:=w) (Old.of (hbr.trans (Uf.mono hbr.size)) aT.out)
         obtain ⟨S,X,Z,V,ST,LK,LI,TP⟩:=b8 S X Z V ST LK LI TP Uf
         replace hbr:=dT hbr Uf
         clear Uf aao
         replace N:=Lib.hid N
         have iF:(#[aW,aX,aY,bf,bn,bC,bD,bF,dL,dM,bY] : Array Value).all (·.oneCell')=true:=by simpa using aQ
         generalize Pn.heap.size=asi at *
         clear TP
         try clear hHeld
         refine hK.out _ _ (⟨S.out.cell 0,⟨X.out.cell 8,(gq.out _ ST.out.now)⟩⟩) (fun hHeld => ?_)
         clear hK K
         refine fH (i:=15) (fun K hK => ?_)
         go_simp
         generalize agx:agw.alloc _=akd
         have ⟨aap,I⟩:=bH agx
         clear agx
         have ake:=S.out.here
         have akf:=X.out.here
         have akg:=Z.out.here
         have akh:=V.out.here
         have aki:=ST.out.le
         have afd:=LK.out.le
         have ai6:=LI.out.le
         have ai7:=N.out.le
         have ai8:=hbr.size
         obtain ⟨S,X,Z,V,ST,LK,LI,N⟩:=b8 S X Z V ST LK LI N aap
         replace hbr:=dT hbr aap
         clear aap
         generalize agw.heap.size=anm at *
         try clear hHeld
         refine hK.out _ _ (⟨S.out.cell 0,⟨X.out.cell 8,(gq.out _ ST.out.now)⟩⟩) (fun hHeld => ?_)
         clear hK K
         refine fH (i:=16) (fun K hK => ?_)
         refine aU (by rfl) 91 _ _ (by rfl) (anm) #[aW,aX,aY,bf,bn,bC,bD,bF,dL,dM,bY] (by rfl) (by rfl) 91 _ I.out (by kernel_rfl) rfl (by first | assumption | simp [Value.oneCell']) ?_
         generalize vV:akd.setRow _ _=Yl
         obtain ⟨S,X,Z,V,ST,LK,LI,N⟩:=f8 S X Z V ST LK LI N (eR vV)
         replace I:=aK I vV
         replace hbr:=tr hbr vV
         clear vV
         try clear hHeld
         refine hK.out _ _ (⟨S.out.cell 0,⟨X.out.cell 8,(gq.out _ ST.out.now)⟩⟩) (fun hHeld => ?_)
         clear hK K
         refine wpAnyH_done (by kernel_rfl) ?_ _
         try clear hHeld
         go_wp2_with fail
         go_meet
         have hBl:=N.out.le
         exact ⟨⟨⟨_,_,_,_,_,_,_,_,_,_,_,_,_,_,rfl,aQ,I.out,N.out,by omega,by omega,by omega,hbr⟩⟩,S.out,X.out,Z.out,V.out,ST.out,LI.out,LK.out⟩
        skip
        go_simp
        generalize Ht:Pn.alloc _=YU
        have ⟨aaq,I⟩:=bH Ht
        clear Ht
        have akj:=S.out.here
        have agj:=X.out.here
        have agk:=Z.out.here
        have agl:=V.out.here
        have ajU:=ST.out.le
        have apO:=LK.out.le
        have apP:=LI.out.le
        have apQ:=TP.out.le
        have akk:=hbr.size
        obtain ⟨S,X,Z,V,ST,LK,LI,TP⟩:=b8 S X Z V ST LK LI TP aaq
        replace hbr:=dT hbr aaq
        clear aaq
        generalize Pn.heap.size=ano at *
        try clear hHeld
        refine hK.out _ _ (⟨S.out.cell 0,⟨X.out.cell 8,(gq.out _ ST.out.now)⟩⟩) (fun hHeld => ?_)
        clear hK K
        refine fH (i:=14) (fun K hK => ?_)
        go_simp
        have agy:=S.out.here
        have agz:=X.out.here
        have agA:=Z.out.here
        have akl:=V.out.here
        have afA:=I.out.here
        have ajj:=ST.out.le
        have apR:=LK.out.le
        have apS:=LI.out.le
        have apT:=TP.out.le
        have akm:=hbr.size
        ((with_reducible refine (HPQ.out _ _ (Nat.le_trans aT.out (hbr).size) (HT.out.keep (fun _ hp => (hbr).cell (Nat.lt_of_lt_of_le hp aT.out)) (Nat.le_refl _)) (aH TP.out.now (Nat.zero_le _))).mono ?_);rintro e ZT aar)
        have Ug:=aar.1
        obtain ⟨aW,aX,aY,bf,bn,bC,bD,bF,dL,dM,bY,aQ,rfl,N⟩:=aar.take (w0:=w) (Old.of (hbr.trans (Ug.mono hbr.size)) aT.out)
        obtain ⟨S,X,Z,V,I,ST,LK,LI,TP⟩:=b9 S X Z V I ST LK LI TP Ug
        replace hbr:=dT hbr Ug
        clear Ug aar
        replace N:=Lib.hid N
        have iF:(#[aW,aX,aY,bf,bn,bC,bD,bF,dL,dM,bY] : Array Value).all (·.oneCell')=true:=by simpa using aQ
        generalize YU.heap.size=asj at *
        clear TP
        try clear hHeld
        refine hK.out _ _ (⟨S.out.cell 0,⟨X.out.cell 8,(gq.out _ ST.out.now)⟩⟩) (fun hHeld => ?_)
        clear hK K
        refine fH (i:=16) (fun K hK => ?_)
        refine aU (by rfl) 91 _ _ (by rfl) (ano) #[aW,aX,aY,bf,bn,bC,bD,bF,dL,dM,bY] (by rfl) (by rfl) 91 _ I.out (by kernel_rfl) rfl (by first | assumption | simp [Value.oneCell']) ?_
        generalize oO:ZT.setRow _ _=SY
        obtain ⟨S,X,Z,V,ST,LK,LI,N⟩:=f8 S X Z V ST LK LI N (eR oO)
        replace I:=aK I oO
        replace hbr:=tr hbr oO
        clear oO
        try clear hHeld
        refine hK.out _ _ (⟨S.out.cell 0,⟨X.out.cell 8,(gq.out _ ST.out.now)⟩⟩) (fun hHeld => ?_)
        clear hK K
        refine wpAnyH_done (by kernel_rfl) ?_ _
        try clear hHeld
        go_wp2_with fail
        go_meet
        have hBl:=N.out.le
        exact ⟨⟨⟨_,_,_,_,_,_,_,_,_,_,_,_,_,_,rfl,aQ,I.out,N.out,by omega,by omega,by omega,hbr⟩⟩,S.out,X.out,Z.out,V.out,ST.out,LI.out,LK.out⟩
       skip
       go_simp
       generalize Pj:KD.alloc _=ZY
       have ⟨IC,I⟩:=bH Pj
       clear Pj
       have apU:=S.out.here
       have apV:=X.out.here
       have apW:=Z.out.here
       have apX:=V.out.here
       have apY:=ST.out.le
       have akn:=LK.out.le
       have ako:=LI.out.le
       have akp:=hbr.size
       obtain ⟨S,X,Z,V,ST,LK,LI⟩:=b7 S X Z V ST LK LI IC
       replace hbr:=dT hbr IC
       clear IC
       generalize KD.heap.size=anp at *
       try clear hHeld
       refine hK.out _ _ (⟨S.out.cell 0,⟨X.out.cell 8,(gq.out _ ST.out.now)⟩⟩) (fun hHeld => ?_)
       clear hK K
       refine fH (i:=13) (fun K hK => ?_)
       go_simp
       obtain ⟨LT,kC⟩ : ∃ n,n=(ZY).heap.size:=⟨_,rfl⟩
       have hzT:=(hbr).size
       rw [← kC] at hzT
       ((with_reducible refine (qA path _ (k:Int) _ (by omega) (own_below uH.out hbr)).mono ?_);rintro e Tm ⟨aas,vt,rfl,hown⟩)
       obtain ⟨S,X,Z,V,I,ST,LK,LI⟩:=b8 S X Z V I ST LK LI aas
       replace hbr:=dT hbr aas
       clear aas
       rw [show (path ++ [(k:Int)]).length=path.length+1 by simp] at hown
       obtain ⟨Ao,co,rfl⟩:=aF hown
       rw [← kC] at hown
       obtain ⟨LU,nJ⟩ : ∃ n,n=(Tm).heap.size:=⟨_,rfl⟩
       have TP:=Lib.hid (Kept.kM hown nJ)
       clear hown kC nJ
       try clear hHeld
       refine hK.out _ _ (⟨S.out.cell 0,⟨X.out.cell 8,(gq.out _ ST.out.now)⟩⟩) (fun hHeld => ?_)
       clear hK K
       refine fH (i:=14) (fun K hK => ?_)
       go_simp
       have apZ:=S.out.here
       have ap0:=X.out.here
       have ap1:=Z.out.here
       have ap2:=V.out.here
       have ap3:=I.out.here
       have ap4:=ST.out.le
       have ap5:=LK.out.le
       have akq:=LI.out.le
       have akr:=TP.out.le
       have aks:=hbr.size
       ((with_reducible refine (HPQ.out _ _ (Nat.le_trans aT.out (hbr).size) (HT.out.keep (fun _ hp => (hbr).cell (Nat.lt_of_lt_of_le hp aT.out)) (Nat.le_refl _)) (aH TP.out.now (Nat.zero_le _))).mono ?_);rintro e YX aat)
       have EU:=aat.1
       obtain ⟨aW,aX,aY,bf,bn,bC,bD,bF,dL,dM,bY,aQ,rfl,N⟩:=aat.take (w0:=w) (Old.of (hbr.trans (EU.mono hbr.size)) aT.out)
       obtain ⟨S,X,Z,V,I,ST,LK,LI,TP⟩:=b9 S X Z V I ST LK LI TP EU
       replace hbr:=dT hbr EU
       clear EU aat
       replace N:=Lib.hid N
       have iF:(#[aW,aX,aY,bf,bn,bC,bD,bF,dL,dM,bY] : Array Value).all (·.oneCell')=true:=by simpa using aQ
       generalize Tm.heap.size=asl at *
       clear TP
       try clear hHeld
       refine hK.out _ _ (⟨S.out.cell 0,⟨X.out.cell 8,(gq.out _ ST.out.now)⟩⟩) (fun hHeld => ?_)
       clear hK K
       refine fH (i:=16) (fun K hK => ?_)
       refine aU (by rfl) 91 _ _ (by rfl) (anp) #[aW,aX,aY,bf,bn,bC,bD,bF,dL,dM,bY] (by rfl) (by rfl) 91 _ I.out (by kernel_rfl) rfl (by first | assumption | simp [Value.oneCell']) ?_
       generalize Uh:YX.setRow _ _=ap6
       obtain ⟨S,X,Z,V,ST,LK,LI,N⟩:=f8 S X Z V ST LK LI N (eR Uh)
       replace I:=aK I Uh
       replace hbr:=tr hbr Uh
       clear Uh
       try clear hHeld
       refine hK.out _ _ (⟨S.out.cell 0,⟨X.out.cell 8,(gq.out _ ST.out.now)⟩⟩) (fun hHeld => ?_)
       clear hK K
       refine wpAnyH_done (by kernel_rfl) ?_ _
       try clear hHeld
       go_wp2_with fail
       go_meet
       have hBl:=N.out.le
       exact ⟨⟨⟨_,_,_,_,_,_,_,_,_,_,_,_,_,_,rfl,aQ,I.out,N.out,by omega,by omega,by omega,hbr⟩⟩,S.out,X.out,Z.out,V.out,ST.out,LI.out,LK.out⟩
      case rest =>
       clear ST LI S X Z V gq hd0 hd1 hd2 hw1 hbr LK hm1 hm2 hm3
       obtain ⟨⟨gI,aW,aX,aY,bf,bn,bC,bD,bF,dL,dM,bY,LN,BN,rfl,aQ,I,hN,ug,NR,NS,hbr⟩,S,X,Z,V,hST,yB,rH⟩:=hcut
       have iF:(#[aW,aX,aY,bf,bn,bC,bD,bF,dL,dM,bY] : Array Value).all (·.oneCell')=true:=by simpa using aQ
       replace S:=Lib.hid S
       replace X:=Lib.hid X
       replace Z:=Lib.hid Z
       replace V:=Lib.hid V
       have ST:=Lib.hid (hST)
       clear hST
       replace I:=Lib.hid I
       have LI:=Lib.hid (yB)
       have N:=Lib.hid (hN)
       have LK:=Lib.hid (rH)
       clear yB hN
       have hNl:=N.out.le
       cases q with
       | error pn =>
        obtain ⟨p',n'⟩:=pn
        obtain rfl:bY = .bool false:=by
         obtain ⟨fp,hc,_⟩:=N.out.now
         have:=congrArg (fun l => l[10]?) hc;simpa using this
        have HR:Hid (aG rec x p path = .error (p',n')):=by show _=_;rw [HD.out,uM.out _ rfl];rfl
        obtain ⟨iI,iJ,iK,iL,iM,iO,iw,iP,pR,pU,lS⟩:=I.out.c11
        go_upto_region 24 with fail
        go_wp2_with (refine sR Z.out ?_)
        clear iI iJ iK iL iM iO iw iP pR pU lS
        generalize CS:wc.setRow _ _=Oy
        obtain ⟨S,X,V,I,ST,LI,N,LK⟩:=f8 S X V I ST LI N LK (eR CS)
        replace Z:=aK Z CS
        replace hbr:=tr hbr CS
        clear CS
        have HF:Hid (fG C w (aG rec x p path) (.returned (.agg #[aW,aX,aY,bf,bn,bC,bD,bF,dL,dM,.bool false])) Oy):=by
         show fG _ _ _ _ _
         obtain ⟨fp,hc,hfo⟩:=N.out.now
         simp only [List.cons.injEq,and_true] at hc
         obtain ⟨rfl,rfl,rfl,rfl,rfl,rfl,rfl,rfl,rfl,rfl⟩:=hc
         rw [HR.out]
         exact ⟨hbr,_,rfl,aH hfo (by omega)⟩
        exact bodyPost_ret (v:=.agg #[aW,aX,aY,bf,bn,bC,bD,bF,dL,dM,.bool false]) (by simp [results,Tryz.results104,go_sem,Z.out.c11]) rfl (HF.out)
       | ok v =>
        obtain rfl:bY = .bool true:=by
         obtain ⟨_,_,_,hc,_⟩:=N.out.now
         have:=congrArg (fun l => l[10]?) hc;simpa using this
        obtain ⟨yM,FM,FN,hc,hv⟩:=N.out.now
        have Dn:Hid ((#[aW,aX,aY,bf,bn,bC,bD,bF] : Array Value)=(iQ v yM FM FN).toArray):=by
         show _=_
         simp only [List.cons.injEq,and_true] at hc
         obtain ⟨rfl,rfl,rfl,rfl,rfl,rfl,rfl,rfl,_⟩:=hc
         rfl
        have HV:=Lib.hid hv
        clear hc hv
        have EX:=Old.of hbr aT.out
        obtain ⟨iI,iJ,iK,iL,iM,iO,iw,iP,pR,pU,lS⟩:=I.out.c11
        have dK:=V.out.e6
        have nK:=LI.out.now
        have UU:=I.out.here
        have hCw:=aT.out
        have hlv:=fun j hj => hvl.out j hj
        go_upto_region 21 with (at_builtin;refine mD rfl _ _ rfl rfl Dn.out nK EX rfl rfl HV.out (fun j hj => by have:=hvl.out j hj;omega) hNl (by omega) (by omega) (by have:=jX.out;have:=hn.out;omega) (by omega) ?_;intro v' w3 hL3 hb3 hg3;obtain ⟨An,cn,hvv⟩:=hL3.form (Old.of ((hbr).trans (hb3.mono (by omega))) aT.out);obtain rfl:v' = .slice An (acc.length+1) cn:=(by rw [hvv,List.length_append];rfl);clear hvv;have V3:=dG V hg3 (fun hh => by have:=(hvl.out _ hh).1;omega);have v36:w3.cell? ⟨gV,6,none⟩=some va:=V3.out.cell 6;have f36:=V3.out.free 6)
        clear nK v36 f36 V3
        clear N
        clear LI
        clear iI iJ iK iL iM iO iw iP pR pU lS dK
        replace S:=dG S hg3 (fun hh => by have:=hvl.out _ hh;omega)
        replace X:=dG X hg3 (fun hh => by have:=hvl.out _ hh;omega)
        replace Z:=dG Z hg3 (fun hh => by have:=hvl.out _ hh;omega)
        replace V:=dG V hg3 (fun hh => by have:=hvl.out _ hh;omega)
        replace I:=dG I hg3 (fun hh => by have:=hvl.out _ hh;omega)
        replace ST:=Lib.hid (ST.out.EL hb3 (show gV≤(B0) by omega))
        replace LK:=Lib.hid (LK.out.EL hb3 (show B0≤(B0) by omega))
        replace hbr:=hbr.trans (hb3.mono (show w.heap.size≤(B0) by omega))
        clear hlv
        have EY:=Old.of hbr aT.out
        have LJ:=Lib.hid (hL3.kept EY)
        clear hL3 EY EX
        generalize CU:w3.setCell _ _=afH
        obtain ⟨S,X,Z,I,ST,LK,LJ⟩:=f7 S X Z I ST LK LJ (eF CU)
        replace V:=uf V CU
        replace hbr:=tf hbr CU
        clear CU
        go_wp2_with fail
        go_roundw
        case rel => exact ⟨k+1,by have:=Hj.out;have:=hn.out;omega,by go_num,_,acc ++ [v],⟨S.out,X.out,Z.out,V.out,ST.out,o8,hbr⟩,LJ.out.now,by rw [List.length_append,jX.out];rfl,uK.out v rfl,LK.out⟩
        case measure => simp [intOf];omega
     obtain rfl:n=k:=by have:=hn.out;omega
     have hOr:=Old.of hbr aT.out
     have HR:Hid (aG rec x p path = .ok (.mk 8 false 0 [] 0 ks acc [])):=by show _=_;rw [HD.out,hseq,Nat.sub_self];rfl
     have hm1:IntKind.i64.wrap (2*(n:Int))=2*(n:Int):=by rw [IntKind.wrap_i64];omega
     have hd2:decide (2*(n:Int) < l.length)=false:=decide_eq_false (by have:=hn.out;omega)
     have hlB:=rH.le
     obtain ⟨Ai,ci,rfl⟩:=hL.form hOr
     have LI:=Lib.hid (hL.kept hOr)
     have hal:acc.length≤1000000:=by have:=hn.out;omega
     have hvz:=V.out.here
     clear hL rH hacc hseq hj hOr
     obtain ⟨eH,dP,eP,eU,dY,dW,dK,eG⟩:=V.out.c8
     go_upto_region 26 with fail
     go_wp2_with fail
     clear eH dP eP eU dY dW dK eG
     ((with_reducible refine (oU 8 false 0 [] 0 ks acc [] _ _ _ (oI C w wr) _ (Dh (LK.out.now.row (Old.of hbr aT.out) (by omega)) (LI.out.now.row (Old.of hbr aT.out) (by omega)) (by unfold I64;omega) (by unfold I64;omega) (by omega) hal)).mono ?_);rintro e afI ⟨rfl,aau⟩)
     obtain ⟨S,X,Z,V,ST,LK,LI⟩:=b7 S X Z V ST LK LI aau
     replace hbr:=dT hbr aau
     clear aau
     go_wp2_with (refine sR Z.out ?_)
     generalize Ui:afI.setRow _ _=ajr
     obtain ⟨S,X,V,ST,LK,LI⟩:=f6 S X V ST LK LI (eR Ui)
     replace Z:=aK Z Ui
     replace hbr:=tr hbr Ui
     clear Ui
     exact bodyPost_ret (v:=.agg #[.int .i64 8,.bool false,.int .i64 0,.string ⟨#[]⟩,.int .i64 0,.slice Av ks.length cv,.slice Ai acc.length ci,.slice none 0 0,.slice none 0 0,.int .i64 0,.bool true]) (by simp [results,Tryz.results104,go_sem,Z.out.c11]) rfl ((by rw [HR.out];exact ⟨hbr,_,_,_,rfl,Dh (LK.out.now.row (Old.of hbr aT.out) (by omega)) (LI.out.now.row (Old.of hbr aT.out) (by omega)) (by unfold I64;omega) (by unfold I64;omega) (by omega) hal⟩))
end Go.Proofs.YthkfapcadhnaeaaGreatDoor
