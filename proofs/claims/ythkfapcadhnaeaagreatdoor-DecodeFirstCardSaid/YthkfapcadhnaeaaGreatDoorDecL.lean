/- list. No condition. -/
import Derived.Test.YthkfapcadhnaeaaGreatDoorDecU
set_option maxHeartbeats 1600000
namespace Go.Proofs.YthkfapcadhnaeaaGreatDoor
open Go.ChangeShapes Go.WideShapes Go.ChangeAt Go.RowKit
theorem XM:∀ (f:Nat) (l:List UInt8) (acc I:List (List UInt8)) (N:Nat),(∀ q ∈ acc,q.length≤N)→l.length≤N→wU f l acc=some I→∀ q ∈ I,q.length≤N:=by
 intro f
 induction f with
 | zero =>
  intro l acc I N h1 h2 h
  unfold wU at h
  split at h
  · injection h with h;subst h;exact h1
  cases h
 | succ f ih =>
  intro l acc I N h1 h2 h
  unfold wU at h
  split at h
  · injection h with h;subst h;exact h1
  split at h
  · cases h
  rename_i p r hp
  have:=vP hp
  exact ih r _ I N (fun q hq => by
   rcases List.mem_append.1 hq with hq | hq
   · exact h1 q hq
   simp at hq;subst hq;omega) (by omega) h
theorem Ef {p:List UInt8} {I:List (List UInt8)} (h:sV p=some I):∀ q ∈ I,q.length≤p.length:=XM _ _ _ _ _ (by simp) (Nat.le_refl _) h
theorem yA {f:Nat→fO} {n k:Nat} {acc:List Val} {v:Val} (h:f k = .ok v):gB f (n+1) k acc=gB f n (k+1) (acc ++ [v]):=by rw [gB,h]
theorem uI {f:Nat→fO} {n k:Nat} {acc:List Val} {e:List Int × Int} (h:f k = .error e):gB f (n+1) k acc = .error e:=by rw [gB,h]
def yJ (mk:List Val→Val):Except (List Int × Int) (List Val)→fO
 | .error e => .error e
 | .ok is => .ok (mk is)
theorem aeI {W:World} {l:List (List UInt8)} {gs k:Nat} (h:∀ (j:Nat) (u:Value),(l.map SB)[j]?=some u→W.cell? ⟨gs,j,none⟩=some u) (hk:k < l.length):W.cell? ⟨gs,k,none⟩=some (.string ⟨l[k].toArray⟩):=h k _ (by simp [hk,SB])
def Xc (w:World) (gr:Nat) (tv:Value) (path:List Int) (x:aC) (C1:Option Addr) (l1:Nat) (C2:Option Addr) (l2:Nat) (l:List (List UInt8)) (f:Nat→fO) (As:Option Addr) (cs gV k:Nat) (wr:World):Prop :=
 ∃ (fp:Value) (fn:Int) (vi:Value) (acc:List Val),Has wr w.heap.size 69 #[.int .i64 7,.string ⟨x.name.toArray⟩,.int .i64 x.low,.int .i64 x.high,.int .i64 x.max,.slice C1 x.syms.length l1,.slice C2 x.aj.length l2,.int .i64 x.key,.int .i64 x.elem,.bool x.opn] ∧
  Has wr (w.heap.size+1) 30 #[.int .i64 0,.bool false,.int .i64 0,.string ⟨#[]⟩,.int .i64 0,.slice none 0 0,.slice none 0 0,.slice none 0 0] ∧
  Has wr gV 30 #[.int .i64 7,.bool false,.int .i64 0,.string ⟨#[]⟩,.int .i64 0,.slice none 0 0,vi,.slice none 0 0] ∧
  jF wr gr tv fp fn path none∧aP w gr wr∧jd (fun w => w.ownsRow 0 9 1 (.slice As l.length cs) l.length (l.map SB)) wr (w.heap.size+2) gV∧jM (gV+1) vi acc wr∧acc.length=k∧gB f l.length 0 []=gB f (l.length - k) k acc∧w.heap.size+1 < gV∧gV < wr.heap.size
set_option maxRecDepth 100000 in
theorem acG
 (ts:List aC) (tv:Value) (gr:Nat) (fp:Value) (fn:Int) (path:List Int) (p:List UInt8) (rec:Int→List UInt8→List Int→fO) (x:aC) (vs vm:Value) (w:World) (hk:x.kind=7) (hp:path.length < 200) (hpl:p.length≤800000)
 (R:jf w gr tv fp fn path) (ht:bG w gr tv ts) (hx:eX w gr x vs vm) (HP:FK ts gr tv rec path) (hm:(fB ts x.elem).isSome=true) :
 Calls Tryz.prog 96 #[.pointer (some ⟨gr,0,none⟩),aS x vs vm,.string ⟨p.toArray⟩] w (cO gr tv path w (aG rec x p path)):=by
 have HI:=Lib.hid (fun W => Qs p (by omega) W)
 have wB:=Lib.hid (fun I h => Ef (p:=p) (I:=I) h)
 obtain ⟨C1,l1,C2,l2,rfl,rfl,-,-⟩:=hx.forms
 have HX:=Lib.hid hx
 have HT:=Lib.hid ht
 have AU:=Lib.hid HP
 have HM:=Lib.hid hm
 have iq:=Lib.hid hk
 have hxs:=hx.lens
 clear hx ht HP hm
 have hgr:=R.here
 replace R:=Lib.hid (jF.of R)
 have KP:=aP.refl w gr
 go_enter Tryz.func96,Tryz.ntmps96
 go_upto_region 1 with fail
 generalize dJ:w.alloc _=wd2
 generalize jD:wd2.alloc _=wd4
 have ⟨hb1,X,Z⟩:=dN dJ jD
 clear dJ jD
 replace R:=rB R hb1
 replace KP:=kB KP hgr hb1
 clear hb1
 cases ha:sV p with
 | none =>
  have HR:Hid (aG rec x p path = .error (path,1)):=by show _=_;simp [aG,iq.out,ha]
  simp only [ha] at HI
  clear ha
  go_wp2_with fail
  ((with_reducible refine (HI.out _).mono ?_);rintro e wV ⟨rfl,hb7⟩)
  obtain ⟨X,Z⟩:=b2 X Z hb7
  replace R:=rB R hb7
  replace KP:=kB KP hgr hb7
  clear hb7
  go_upto_region 3 with fail
  have hz:=Z.out.here
  go_wp2_with fail
  ((with_reducible refine (iG gr _ _ _ path 1 _ (by omega) R.out.at_).mono ?_);rintro e uJ hp)
  obtain ⟨c0,c1,c2,c3,c4,c5,c6,c7,bb,h1',rfl⟩:=hp.form
  have Z2:=ji Z hp.keep (by omega) (by decide)
  go_wp2_with (refine wpList_store_row rfl 30 _ _ rfl (w.heap.size+1) _ rfl rfl 30 _ Z2.out (by kernel_rfl) rfl (by simpa using h1') ?_)
  obtain ⟨z0,z1,z2,z3,z4,z5,z6,z7⟩:=(iU Z2.out #[c0,c1,c2,c3,c4,c5,c6,c7]).c8
  exact bodyPost_ret (v:=.tuple #[.agg #[c0,c1,c2,c3,c4,c5,c6,c7],.bool bb]) (by simp [results,Tryz.results96,go_sem,z0,z1,z2,z3,z4,z5,z6,z7]) rfl (by rw [HR.out];exact hp.tail KP hgr (by omega) hz Z2.out (by decide))
 | some l =>
  have HL:Hid (∀ q ∈ l,q.length≤p.length):=Lib.hid (wB.out l ha)
  simp only [ha] at HI
  have HD:Hid (aG rec x p path=if x.max < l.length then .error (path,3) else yJ (fun is => .mk 7 false 0 [] 0 [] is []) (gB (fun i => rec x.elem (l.getD i []) (path ++ [(i:Int)])) l.length 0 [])):=by
   show _=_
   simp only [aG,iq.out,ha]
   rw [if_neg (by decide),if_neg (by decide),if_neg (by decide),if_neg (by decide),if_neg (by decide),if_neg (by decide),if_pos trivial]
   cases gB (fun i => rec x.elem (l.getD i []) (path ++ [(i:Int)])) l.length 0 [] <;> rfl
  clear ha wB
  have hS0:=Z.out.here
  go_wp2_with fail
  ((with_reducible refine (HI.out _).mono ?_);rintro e kE ⟨vl,rfl,hll,hown,qc⟩)
  obtain ⟨X,Z⟩:=b2 X Z qc
  replace R:=rB R qc
  replace KP:=kB KP hgr qc
  clear qc
  clear HI
  obtain ⟨As,cs,rfl⟩:=aF hown
  have ST:=Lib.hid ((jd.own (aH hown (show w.heap.size+2≤_ from hS0)) (by decide)).imp fun _ h => aH h (Nat.zero_le _))
  clear hown hS0
  obtain ⟨aI,bI,bQ,bT,bW,dD,bK,bJ,bZ,bM⟩:=X.out.c10
  by_cases h1:x.max < l.length
  ·
   have HR:Hid (aG rec x p path = .error (path,3)):=by show _=_;rw [HD.out,if_pos h1]
   clear HD
   go_upto_region 5 with fail
   have hz:=Z.out.here
   go_wp2_with fail
   clear aI bI bQ bT bW dD bK bJ bZ bM
   ((with_reducible refine (iG gr _ _ _ path 3 _ (by omega) R.out.at_).mono ?_);rintro e xJ hp)
   obtain ⟨c0,c1,c2,c3,c4,c5,c6,c7,bb,h1',rfl⟩:=hp.form
   have Z2:=ji Z hp.keep (by omega) (by decide)
   go_wp2_with (refine wpList_store_row rfl 30 _ _ rfl (w.heap.size+1) _ rfl rfl 30 _ Z2.out (by kernel_rfl) rfl (by simpa using h1') ?_)
   obtain ⟨z0,z1,z2,z3,z4,z5,z6,z7⟩:=(iU Z2.out #[c0,c1,c2,c3,c4,c5,c6,c7]).c8
   exact bodyPost_ret (v:=.tuple #[.agg #[c0,c1,c2,c3,c4,c5,c6,c7],.bool bb]) (by simp [results,Tryz.results96,go_sem,z0,z1,z2,z3,z4,z5,z6,z7]) rfl (by rw [HR.out];exact hp.tail KP hgr (by omega) hz Z2.out (by decide))
  have HD:Hid (aG rec x p path=yJ (fun is => .mk 7 false 0 [] 0 [] is []) (gB (fun i => rec x.elem (l.getD i []) (path ++ [(i:Int)])) l.length 0 [])):=by show _=_;rw [HD.out,if_neg h1]
  go_upto_region 7 with fail
  clear h1
  clear aI bI bQ bT bW dD bK bJ bZ bM
  generalize qB:kE.alloc _=lD
  have ⟨o7,V⟩:=bH qB
  clear qB
  have PG:=X.out.here
  have UG:=Z.out.here
  have XO:=ST.out.le
  have LH:=KP.size
  obtain ⟨X,Z,ST⟩:=b3 X Z ST o7
  replace R:=rB R o7
  replace KP:=kB KP hgr o7
  clear o7
  generalize kE.heap.size=g17 at *
  obtain ⟨gV,rfl⟩ : ∃ g,g=g17:=⟨_,rfl⟩
  have hl0:Hid (Xc w gr tv path x C1 l1 C2 l2 l (fun i => rec x.elem (l.getD i []) (path ++ [(i:Int)])) As cs gV 0 lD) :=
   Lib.hid ⟨_,_,_,[],X.out,Z.out,V.out,R.out,KP,ST.out,jM.nil _ _,rfl,rfl,by omega,V.out.here⟩
  clear X Z V R KP ST
  go_wp2_with fail
  go_loopw [40] (fun i wr => ∃ k:Nat,k≤l.length∧i = .int .i64 k∧Xc w gr tv path x C1 l1 C2 l2 l (fun i => rec x.elem (l.getD i []) (path ++ [(i:Int)])) As cs gV k wr) (fun i _ => l.length - (intOf i).toNat)
  case atStart => exact ⟨0,by omega,rfl,hl0.out⟩
  case round =>
   clear hl0
   obtain ⟨k,hk1,rfl,KJ,KL,vi,acc,X,Z,V,R,KP,hST,hL,hacc,hseq,o8,hgW⟩:=hrel
   replace R:=Lib.hid R
   replace X:=Lib.hid X
   replace Z:=Lib.hid Z
   replace V:=Lib.hid V
   by_cases hlt:k < l.length
   ·
    have hvl:Hid (∀ j,vi.ownBlock=some j→gV+1≤j∧j < wr.heap.size∧iy wr j):=Lib.hid hL.lt
    have ST:=Lib.hid (hST)
    have LI:=Lib.hid (hL.kept)
    clear hST hL
    obtain ⟨gs,cs',hvs,-,-,-,hcell⟩:=ru ST.out.now (by omega)
    injection hvs with hv1 hv2 hv3
    subst hv1;subst hv3;clear hv2
    have hsk:=aeI hcell hlt
    clear hcell
    have hn1:l.length - k=(l.length - (k+1))+1:=by omega
    have hfk:(fun i => rec x.elem (l.getD i []) (path ++ [(i:Int)])) k=rec x.elem l[k] (path ++ [(k:Int)]):=by simp [List.getD,hlt]
    rw [hn1] at hseq
    have lF:=fun v h => hseq.trans (yA (v:=v) (hfk.trans h))
    have lG:=fun e h => hseq.trans (uI (e:=e) (hfk.trans h))
    clear hseq hn1 hfk
    have hlk:=HL.out l[k] (List.getElem_mem hlt)
    have HPQ:=Lib.hid (fun (W:World) (fp':Value) (fn':Int) h1 h2 => AU.out W fp' fn' k x.elem l[k] h1 h2 HM.out (by omega))
    generalize rec x.elem l[k] (path ++ [(k:Int)])=q at *
    generalize l[k]=lk at *
    have uK:=Lib.hid lF
    have uM:=Lib.hid lG
    have jX:=Lib.hid hacc
    have yK:(k:Int) < l.length:=by omega
    have hd0:decide ((k:Int) < 0)=false:=by simp
    have hd1:decide (l.length≤k)=false:=by simpa using hlt
    have hd2:decide ((k:Int) < l.length)=true:=by simpa using hlt
    clear lF lG hacc
    have bZ:=X.out.e8
    go_wp2_with fail
    clear bZ
    have Fb:=X.out.here
    have PI:=Z.out.here
    have acH:=V.out.here
    have UH:=ST.out.le
    have PK:=LI.out.le
    have XP:=KP.size
    ((with_reducible refine (HPQ.out _ _ _ R.out.at_ (HT.out.keep (fun _ hp => KP.low.cell hp) (Nat.le_refl _))).mono ?_);rintro e rC alo)
    obtain ⟨aqE,aqF,aW,aX,aY,bf,bn,bC,bD,bF,Dl,aQ,rfl,alp,LP,N⟩:=alo.take
    replace X:=ji X LP (by omega) (by decide)
    replace Z:=ji Z LP (by omega) (by decide)
    replace V:=ji V LP (by omega) (by decide)
    replace ST:=nT ST LP (by omega)
    replace LI:=nT LI LP (by omega)
    replace R:=Lib.hid alp
    replace KP:=KP.trans LP
    replace N:=Lib.hid N
    clear LP
    have iF:(#[aW,aX,aY,bf,bn,bC,bD,bF] : Array Value).all (·.oneCell')=true:=by simpa using aQ
    generalize wr.heap.size=L23 at *
    clear hsk
    have M5:=Has.made rC 30 #[.int .i64 0,.bool false,.int .i64 0,.string ⟨#[]⟩,.int .i64 0,.slice none 0 0,.slice none 0 0,.slice none 0 0]
    go_upto_region 11 with (refine wpList_store_row rfl 30 _ _ rfl rC.heap.size _ rfl rfl 30 _ M5 (by kernel_rfl) rfl iF ?_)
    clear M5
    generalize rD:rC.alloc _=o9
    have ⟨jL,I⟩:=bH rD
    clear rD
    have acB:=X.out.here
    have ag3:=Z.out.here
    have XG:=V.out.here
    have Lu:=ST.out.le
    have PL:=LI.out.le
    have XQ:=N.out.le
    have XR:=KP.size
    obtain ⟨X,Z,V,ST,LI,N⟩:=b6 X Z V ST LI N jL
    replace R:=rB R jL
    replace KP:=kB KP hgr jL
    clear jL
    generalize rC.heap.size=g38 at *
    generalize nU:o9.setRow _ _=wF
    obtain ⟨X,Z,V,ST,LI,N⟩:=f6 X Z V ST LI N (eR nU)
    replace R:=rR R I nU.symm (by decide) (by omega)
    replace KP:=oZ KP hgr nU.symm (by omega)
    replace I:=aK I nU
    clear nU
    obtain ⟨iI,iJ,iK,iL,iM,iO,iw,iP⟩:=I.out.c8
    have hN:=N.out.now
    have hNl:=N.out.le
    cases q with
    | error pn =>
     obtain ⟨p',n'⟩:=pn
     obtain ⟨rfl,hf⟩:=hN
     have HR:Hid (aG rec x p path = .error (p',n')):=by show _=_;rw [HD.out,uM.out _ rfl];rfl
     have hf:=Lib.hid hf
     go_upto_region 12 with fail
     go_wp2_with (refine sR Z.out ?_)
     clear iI iJ iK iL iM iO iw iP
     generalize rZ:wF.setRow _ _=yL
     obtain ⟨X,V,I,ST,LI,N⟩:=f6 X V I ST LI N (eR rZ)
     replace R:=rR R Z rZ.symm (by decide) (by omega)
     replace KP:=oZ KP hgr rZ.symm (by omega)
     replace Z:=aK Z rZ
     clear rZ
     exact bodyPost_ret (v:=.tuple #[.agg #[aW,aX,aY,bf,bn,bC,bD,bF],.bool false]) (by simp [results,Tryz.results96,go_sem,Z.out.c8]) rfl (cO.bad HR.out R KP hf.out aQ)
    | ok v =>
     obtain ⟨rfl,vk,rX,vr,hc,hv⟩:=hN
     have Dn:Hid ((#[aW,aX,aY,bf,bn,bC,bD,bF] : Array Value)=(iQ v vk rX vr).toArray):=by show _=_;rw [← hc]
     have HV:=Lib.hid hv
     clear hc hv
     have dK:=V.out.e6
     have nK:=LI.out.now
     have hbg:=LI.out.le
     have hlv:=fun j hj => nK.lt j hj
     go_upto_region 14 with (at_builtin;refine qx rfl _ _ rfl rfl Dn.out nK rfl rfl HV.out (fun j hj => (hvl.out j hj).2.1) hNl (by omega) (by have:=jX.out;omega) (by omega) ?_;intro v' w3 hL3 hb3 hg3;obtain ⟨Av,cv,hvv⟩:=hL3.form;obtain rfl:v' = .slice Av (acc.length+1) cv:=(by rw [hvv,List.length_append];rfl);clear hvv;have V3:=dG V hg3 (fun hh => by have:=(hvl.out _ hh).1;omega);have v36:w3.cell? ⟨gV,6,none⟩=some vi:=V3.out.cell 6;have f36:=V3.out.free 6)
     clear nK v36 f36 V3
     clear N
     clear LI
     clear iI iJ iK iL iM iO iw iP dK
     replace X:=dG X hg3 (fun hh => by have:=hvl.out _ hh;omega)
     replace Z:=dG Z hg3 (fun hh => by have:=hvl.out _ hh;omega)
     replace V:=dG V hg3 (fun hh => by have:=hvl.out _ hh;omega)
     replace I:=dG I hg3 (fun hh => by have:=hvl.out _ hh;omega)
     replace ST:=nG ST hg3 (fun k hh => by have:=hvl.out k hh;omega) hb3.size
     replace R:=rG R hg3 (fun j hj => ⟨by have:=(hlv j hj).1;omega,(hlv j hj).2.2⟩)
     replace KP:=KP.above hb3 (by omega) (by omega)
     clear hlv
     have LJ:=Lib.hid (hL3.kept)
     clear hL3
     generalize qg:w3.setCell _ _=Dp
     obtain ⟨X,Z,I,ST,LJ⟩:=f5 X Z I ST LJ (eF qg)
     replace R:=rF R V qg.symm (by decide) (by omega)
     replace KP:=kS KP hgr qg.symm (by omega)
     replace V:=uf V qg
     clear qg
     go_wp2_with fail
     go_roundw
     case rel => exact ⟨k+1,by omega,by go_num,_,_,_,acc ++ [v],X.out,Z.out,V.out,R.out,KP,ST.out,LJ.out.now,by rw [List.length_append,jX.out];rfl,uK.out v rfl,o8,V.out.here⟩
     case measure => simp [intOf];omega
   obtain rfl:k=l.length:=by omega
   have LI:=Lib.hid (hL.kept)
   clear hL hST
   have HR:Hid (aG rec x p path = .ok (.mk 7 false 0 [] 0 [] acc [])):=by show _=_;rw [HD.out,hseq,Nat.sub_self];rfl
   obtain ⟨Av,cv,rfl⟩:=LI.out.now.form
   clear hseq
   have jX:=Lib.hid hacc
   clear hacc
   obtain ⟨eH,dP,eP,eU,dY,dW,dK,eG⟩:=V.out.c8
   go_upto_region 15 with fail
   go_wp2_with (refine sR Z.out ?_)
   clear eH dP eP eU dY dW dK eG
   generalize qh:wr.setRow _ _=xO
   obtain ⟨X,V,LI⟩:=f3 X V LI (eR qh)
   replace R:=rR R Z qh.symm (by decide) (by omega)
   replace KP:=oZ KP hgr qh.symm (by omega)
   replace Z:=aK Z qh
   clear qh
   exact bodyPost_ret (v:=.tuple #[.agg #[.int .i64 7,.bool false,.int .i64 0,.string ⟨#[]⟩,.int .i64 0,.slice none 0 0,.slice Av acc.length cv,.slice none 0 0],.bool true]) (by simp [results,Tryz.results96,go_sem,Z.out.c8]) rfl (cO.good (v:=.mk 7 false 0 [] 0 [] acc []) HR.out R KP (Qu (L1:=0) (L2:=1000000) (qy _ _) (LI.out.now.row (by omega)) (by unfold I64;omega) (by unfold I64;omega) (by simp) (by have:=jX.out;omega) (by omega) (by omega)))
end Go.Proofs.YthkfapcadhnaeaaGreatDoor
