/- entries. No condition. -/
import Derived.Test.YthkfapcadhnaeaaGreatDoorDecL
import Derived.Test.YthkfapcadhnaeaaGreatDoorHAG
set_option maxHeartbeats 3200000
namespace Go.Proofs.YthkfapcadhnaeaaGreatDoor
open Go.ChangeShapes Go.WideShapes Go.ChangeAt Go.RowKit
def zD (n:Nat) (fK fI:Nat→fO) (path:List Int):fO:=match gB fK n 0 [] with
 | .error e => .error e
 | .ok ks => if uN ks=false then .error (path,1) else yJ (fun is => .mk 8 false 0 [] 0 ks is []) (gB fI n 0 [])
theorem UJ {n:Nat} {fK fI:Nat→fO} {path:List Int} {e:List Int × Int} (h:gB fK n 0 [] = .error e):zD n fK fI path = .error e:=by unfold zD;rw [h]
theorem Xd {n:Nat} {fK fI:Nat→fO} {path:List Int} {ks:List Val} (h:gB fK n 0 [] = .ok ks):zD n fK fI path=if uN ks=false then .error (path,1) else yJ (fun is => .mk 8 false 0 [] 0 ks is []) (gB fI n 0 []):=by unfold zD;rw [h]
theorem NT {W:World} {gs n n' c j:Nat} {l:List (List UInt8)} (h:W.ownsRow 0 9 1 (.slice (some ⟨gs,0,none⟩) n c) n' (l.map SB)) (hj:j < l.length):W.cell? ⟨gs,j,none⟩=some (.string ⟨l[j].toArray⟩):=by
 have hn:n'=l.length:=by have:=h.1;simp at this;exact this.symm
 obtain ⟨g,c',hv,-,-,-,hc⟩:=ru h (by omega)
 injection hv with h1 h2 h3
 injection h1 with h1;injection h1 with h1
 subst h1;exact aeI hc hj
structure JV (w:World) (gr:Nat) (tv:Value) (path:List Int) (x:aC) (C1:Option Addr) (l1:Nat) (C2:Option Addr) (l2:Nat) (l:List (List UInt8)) (As:Option Addr) (cs gV:Nat) (vk vi:Value) (fp:Value) (fn:Int) (wr:World):Prop where
 X:Has wr w.heap.size 69 #[.int .i64 8,.string ⟨x.name.toArray⟩,.int .i64 x.low,.int .i64 x.high,.int .i64 x.max,.slice C1 x.syms.length l1,.slice C2 x.aj.length l2,.int .i64 x.key,.int .i64 x.elem,.bool x.opn]
 Z:Has wr (w.heap.size+1) 30 #[.int .i64 0,.bool false,.int .i64 0,.string ⟨#[]⟩,.int .i64 0,.slice none 0 0,.slice none 0 0,.slice none 0 0]
 V:Has wr gV 30 #[.int .i64 8,.bool false,.int .i64 0,.string ⟨#[]⟩,.int .i64 0,vk,vi,.slice none 0 0]
 R:jF wr gr tv fp fn path none
 KP:aP w gr wr
 ST:jd (fun w => w.ownsRow 0 9 1 (.slice As l.length cs) l.length (l.map SB)) wr (w.heap.size+2) gV
 lo:w.heap.size+1 < gV
/- the facts of a round's beginning -/
/- a round that decodes an item and appends it -/
set_option maxRecDepth 100000 in
theorem WQ
 (ts:List aC) (tv:Value) (gr:Nat) (fp:Value) (fn:Int) (path:List Int) (p:List UInt8) (rec:Int→List UInt8→List Int→fO) (x:aC) (vs vm:Value) (w:World) (hk:x.kind=8) (hp:path.length < 200) (hpl:p.length≤800000)
 (R:jf w gr tv fp fn path) (ht:bG w gr tv ts) (hx:eX w gr x vs vm) (HP:FK ts gr tv rec path) (hm:(fB ts x.key).isSome=true∧(fB ts x.elem).isSome=true) :
 Calls Tryz.prog 97 #[.pointer (some ⟨gr,0,none⟩),aS x vs vm,.string ⟨p.toArray⟩] w (cO gr tv path w (aG rec x p path)):=by
 have HI:=Lib.hid (fun W => Qs p (by omega) W)
 have wB:=Lib.hid (fun I h => Ef (p:=p) (I:=I) h)
 obtain ⟨C1,l1,C2,l2,rfl,rfl,-,-⟩:=hx.forms
 have HX:=Lib.hid hx
 have HT:=Lib.hid ht
 have AU:=Lib.hid HP
 have HM:=Lib.hid hm
 have iq:=Lib.hid hk
 have hxs:=hx.lens
 clear hx ht HP hm
 have hgr:=R.here
 replace R:=Lib.hid (jF.of R)
 have KP:=aP.refl w gr
 go_enter Tryz.func97,Tryz.ntmps97
 go_upto_region 1 with fail
 generalize dJ:w.alloc _=wd2
 generalize jD:wd2.alloc _=wd4
 have ⟨hb1,X,Z⟩:=dN dJ jD
 clear dJ jD
 replace R:=rB R hb1
 replace KP:=kB KP hgr hb1
 clear hb1
 cases ha:sV p with
 | none =>
  have HR:Hid (aG rec x p path = .error (path,1)):=by show _=_;simp [aG,iq.out,ha]
  simp only [ha] at HI
  clear ha
  go_wp2_with fail
  ((with_reducible refine (HI.out _).mono ?_);rintro e wV ⟨rfl,hb7⟩)
  obtain ⟨X,Z⟩:=b2 X Z hb7
  replace R:=rB R hb7
  replace KP:=kB KP hgr hb7
  clear hb7
  go_upto_region 3 with fail
  have hz:=Z.out.here
  go_wp2_with fail
  ((with_reducible refine (iG gr _ _ _ path 1 _ (by omega) R.out.at_).mono ?_);rintro e uJ hp)
  obtain ⟨c0,c1,c2,c3,c4,c5,c6,c7,bb,h1',rfl⟩:=hp.form
  have Z2:=ji Z hp.keep (by omega) (by decide)
  go_wp2_with (refine wpList_store_row rfl 30 _ _ rfl (w.heap.size+1) _ rfl rfl 30 _ Z2.out (by kernel_rfl) rfl (by simpa using h1') ?_)
  obtain ⟨z0,z1,z2,z3,z4,z5,z6,z7⟩:=(iU Z2.out #[c0,c1,c2,c3,c4,c5,c6,c7]).c8
  exact bodyPost_ret (v:=.tuple #[.agg #[c0,c1,c2,c3,c4,c5,c6,c7],.bool bb]) (by simp [results,Tryz.results97,go_sem,z0,z1,z2,z3,z4,z5,z6,z7]) rfl (by rw [HR.out];exact hp.tail KP hgr (by omega) hz Z2.out (by decide))
 | some l =>
  have HL:Hid (∀ q ∈ l,q.length≤p.length):=Lib.hid (wB.out l ha)
  simp only [ha] at HI
  have HD:Hid (aG rec x p path=if l.length % 2=1 then .error (path,1) else if x.max < ((l.length / 2:Nat):Int) then .error (path,3) else zD (l.length / 2) (fun i => rec x.key (l.getD (2*i) []) (path ++ [(i:Int)])) (fun i => rec x.elem (l.getD (2*i+1) []) (path ++ [(i:Int)])) path):=by
   show _=_
   simp only [aG,iq.out,ha]
   rw [if_neg (by decide),if_neg (by decide),if_neg (by decide),if_neg (by decide),if_neg (by decide),if_neg (by decide),if_neg (by decide),if_pos trivial]
   by_cases h1:l.length % 2=1
   · rw [if_pos h1,if_pos h1]
   rw [if_neg h1,if_neg h1]
   by_cases h2:x.max < ((l.length / 2:Nat):Int)
   · rw [if_pos h2];simp at h2;simp [h2]
   rw [if_neg h2]
   simp at h2
   rw [if_neg (by simpa using h2)]
   unfold zD
   cases gB (fun i => rec x.key (l.getD (2*i) []) (path ++ [(i:Int)])) (l.length / 2) 0 [] with
   | error e => rfl
   | ok ks =>
    simp only []
    by_cases h3:uN ks=false
    · rw [if_pos h3,if_pos h3]
    rw [if_neg h3,if_neg h3]
    cases gB (fun i => rec x.elem (l.getD (2*i+1) []) (path ++ [(i:Int)])) (l.length / 2) 0 [] <;> rfl
  clear ha wB
  have hS0:=Z.out.here
  go_wp2_with fail
  ((with_reducible refine (HI.out _).mono ?_);rintro e kE ⟨vl,rfl,hll,hown,qc⟩)
  obtain ⟨X,Z⟩:=b2 X Z qc
  replace R:=rB R qc
  replace KP:=kB KP hgr qc
  clear qc
  clear HI
  obtain ⟨As,cs,rfl⟩:=aF hown
  have ST:=Lib.hid ((jd.own (aH hown (show w.heap.size+2≤_ from hS0)) (by decide)).imp fun _ h => aH h (Nat.zero_le _))
  clear hown hS0
  by_cases hodd:l.length % 2=1
  ·
   have HR:Hid (aG rec x p path = .error (path,1)):=by show _=_;rw [HD.out,if_pos hodd]
   have ho:(l.length:Int) % 2=1:=by omega
   clear HD hodd
   go_upto_region 3 with fail
   have hz:=Z.out.here
   go_wp2_with fail
   ((with_reducible refine (iG gr _ _ _ path 1 _ (by omega) R.out.at_).mono ?_);rintro e xJ hp)
   obtain ⟨c0,c1,c2,c3,c4,c5,c6,c7,bb,h1',rfl⟩:=hp.form
   have Z2:=ji Z hp.keep (by omega) (by decide)
   go_wp2_with (refine wpList_store_row rfl 30 _ _ rfl (w.heap.size+1) _ rfl rfl 30 _ Z2.out (by kernel_rfl) rfl (by simpa using h1') ?_)
   obtain ⟨z0,z1,z2,z3,z4,z5,z6,z7⟩:=(iU Z2.out #[c0,c1,c2,c3,c4,c5,c6,c7]).c8
   exact bodyPost_ret (v:=.tuple #[.agg #[c0,c1,c2,c3,c4,c5,c6,c7],.bool bb]) (by simp [results,Tryz.results97,go_sem,z0,z1,z2,z3,z4,z5,z6,z7]) rfl (by rw [HR.out];exact hp.tail KP hgr (by omega) hz Z2.out (by decide))
  obtain ⟨n,hn⟩ : ∃ n,l.length=2*n:=⟨l.length / 2,by omega⟩
  have hn2:l.length / 2=n:=by omega
  have HD:Hid (aG rec x p path=if x.max < (n:Int) then .error (path,3) else zD n (fun i => rec x.key (l.getD (2*i) []) (path ++ [(i:Int)])) (fun i => rec x.elem (l.getD (2*i+1) []) (path ++ [(i:Int)])) path):=by show _=_;rw [HD.out,if_neg hodd,hn2]
  have ho:(l.length:Int) % 2=0:=by omega
  have hq:(l.length:Int) / 2=n:=by omega
  have hn:=Lib.hid hn
  clear hodd hn2
  obtain ⟨aI,bI,bQ,bT,bW,dD,bK,bJ,bZ,bM⟩:=X.out.c10
  by_cases h1:x.max < (n:Int)
  ·
   have HR:Hid (aG rec x p path = .error (path,3)):=by show _=_;rw [HD.out,if_pos h1]
   clear HD
   go_upto_region 5 with fail
   have hz:=Z.out.here
   go_wp2_with fail
   clear aI bI bQ bT bW dD bK bJ bZ bM
   ((with_reducible refine (iG gr _ _ _ path 3 _ (by omega) R.out.at_).mono ?_);rintro e xP hp)
   obtain ⟨c0,c1,c2,c3,c4,c5,c6,c7,bb,h1',rfl⟩:=hp.form
   have Z2:=ji Z hp.keep (by omega) (by decide)
   go_wp2_with (refine wpList_store_row rfl 30 _ _ rfl (w.heap.size+1) _ rfl rfl 30 _ Z2.out (by kernel_rfl) rfl (by simpa using h1') ?_)
   obtain ⟨z0,z1,z2,z3,z4,z5,z6,z7⟩:=(iU Z2.out #[c0,c1,c2,c3,c4,c5,c6,c7]).c8
   exact bodyPost_ret (v:=.tuple #[.agg #[c0,c1,c2,c3,c4,c5,c6,c7],.bool bb]) (by simp [results,Tryz.results97,go_sem,z0,z1,z2,z3,z4,z5,z6,z7]) rfl (by rw [HR.out];exact hp.tail KP hgr (by omega) hz Z2.out (by decide))
  have HD:Hid (aG rec x p path=zD n (fun i => rec x.key (l.getD (2*i) []) (path ++ [(i:Int)])) (fun i => rec x.elem (l.getD (2*i+1) []) (path ++ [(i:Int)])) path):=by show _=_;rw [HD.out,if_neg h1]
  go_upto_region 7 with fail
  clear h1 ho hq
  clear aI bI bQ bT bW dD bK bJ bZ bM
  generalize xQ:kE.alloc _=rE
  have ⟨hb16,V⟩:=bH xQ
  clear xQ
  have XO:=X.out.here
  have LH:=Z.out.here
  have UK:=ST.out.le
  have Pv:=KP.size
  obtain ⟨X,Z,ST⟩:=b3 X Z ST hb16
  replace R:=rB R hb16
  replace KP:=kB KP hgr hb16
  clear hb16
  generalize kE.heap.size=g19 at *
  obtain ⟨gV,rfl⟩ : ∃ g,g=g19:=⟨_,rfl⟩
  have hl0:Hid (JV w gr tv path x C1 l1 C2 l2 l As cs gV (.slice none 0 0) (.slice none 0 0) fp fn rE) :=
   Lib.hid ⟨X.out,Z.out,V.out,R.out,KP,ST.out,by omega⟩
  clear X Z V R KP ST
  go_upto_region 8 with fail
  go_loopw [11] (fun i wr => ∃ k j:Nat,k≤n∧j=2*k∧i = .int .i64 (j:Int)∧∃ (fp:Value) (fn:Int) (va:Value) (acc:List Val),JV w gr tv path x C1 l1 C2 l2 l As cs gV va (.slice none 0 0) fp fn wr∧jM (gV+1) va acc wr∧acc.length=k∧gB (fun i => rec x.key (l.getD (2*i) []) (path ++ [(i:Int)])) n 0 []=gB (fun i => rec x.key (l.getD (2*i) []) (path ++ [(i:Int)])) (n - k) k acc) (fun i _ => l.length - (intOf i).toNat)
  case atStart => exact ⟨0,0,by omega,rfl,rfl,_,_,_,[],hl0.out,jM.nil _ _,rfl,rfl⟩
  case round =>
   clear hl0
   obtain ⟨k,j,hk1,hj,rfl,KJ,KL,va,acc,⟨X,Z,V,R,KP,hST,o8⟩,hL,hacc,hseq⟩:=hrel
   replace R:=Lib.hid R
   replace X:=Lib.hid X
   replace Z:=Lib.hid Z
   replace V:=Lib.hid V
   have ST:=Lib.hid (hST)
   clear hST
   by_cases hlt:j < l.length
   ·
    skip
    obtain ⟨gs,cs',hvs,-,-,-,-⟩:=ru ST.out.now (by omega)
    injection hvs with hv1 hv2 hv3
    subst hv1;subst hv3;clear hv2
    have hvl:Hid (∀ j,va.ownBlock=some j→gV+1≤j∧j < wr.heap.size):=Lib.hid (fun j hj => ⟨(hL.lt j hj).1,(hL.lt j hj).2.1⟩)
    have hLk:=hL.kept
    have hgz:=V.out.here
    obtain ⟨hz,hzE⟩ : ∃ hz,wr.heap.size=hz:=⟨_,rfl⟩
    rw [hzE] at hLk hvl hgz
    clear hzE hL
    have LI:=Lib.hid (hLk)
    clear hLk
    have gq:=Lib.hid (fun (W:World) h => NT (W:=W) (gs:=gs) (n:=l.length) (n':=l.length) (c:=cs) h hlt)
    have hn1:n - k=(n - (k+1))+1:=by omega
    have hfk:(fun i => rec x.key (l.getD (2*k) []) (path ++ [(i:Int)])) k=rec x.key l[j] (path ++ [(k:Int)]):=by simp [List.getD,← hj,hlt]
    rw [hn1] at hseq
    have lF:=fun v h => hseq.trans (yA (v:=v) (hfk.trans h))
    have lG:=fun e h => hseq.trans (uI (e:=e) (hfk.trans h))
    clear hseq hn1 hfk
    have hlk:=HL.out l[j] (List.getElem_mem hlt)
    have HPQ:=Lib.hid (fun (W:World) (fp':Value) (fn':Int) h1 h2 => AU.out W fp' fn' k x.key l[j] h1 h2 HM.out.1 (by omega))
    generalize rec x.key l[j] (path ++ [(k:Int)])=q at *
    generalize l[j]=lk at *
    have uK:=Lib.hid lF
    have uM:=Lib.hid lG
    have jX:=Lib.hid hacc
    have yK:(j:Int) < l.length:=by omega
    have hd0:decide ((j:Int) < 0)=false:=by simp
    have hd1:decide (l.length≤j)=false:=by simpa using hlt
    have hd2:decide ((j:Int) < l.length)=true:=by simpa using hlt
    have hq1:(j:Int).tdiv 2=(k:Int):=by rw [Int.tdiv_eq_ediv];omega
    have hq2:IntKind.i64.wrap (k:Int)=k:=IntWalk.i64_in _ (by omega)
    have Hj:=Lib.hid hj
    clear lF lG hacc hj
    go_upto_region 10 with fail
    go_cut [12,13] from 48 to 75 (fun sa sb wx => NQ wx gr tv path q (hz - 1) sa sb∧aP w gr wx∧Has wx w.heap.size 69 #[.int .i64 8,.string ⟨x.name.toArray⟩,.int .i64 x.low,.int .i64 x.high,.int .i64 x.max,.slice C1 x.syms.length l1,.slice C2 x.aj.length l2,.int .i64 x.key,.int .i64 x.elem,.bool x.opn]∧Has wx (w.heap.size+1) 30 #[.int .i64 0,.bool false,.int .i64 0,.string ⟨#[]⟩,.int .i64 0,.slice none 0 0,.slice none 0 0,.slice none 0 0]∧Has wx gV 30 #[.int .i64 8,.bool false,.int .i64 0,.string ⟨#[]⟩,.int .i64 0,va,.slice none 0 0,.slice none 0 0] ∧
     jd (fun w => w.ownsRow 0 9 1 (.slice (some ⟨gs,0,none⟩) l.length cs) l.length (l.map SB)) wx (w.heap.size+2) gV∧jd (jM (gV+1) va acc) wx (gV+1) hz)
    case first =>
     have bJ:=X.out.e7
     refine wp_region_held_drew (S:=(fun w' => w'.cell? ⟨w.heap.size,7,none⟩=some (.int .i64 x.key)∧(w'.cell? ⟨gs,j,none⟩=some (.string ⟨lk.toArray⟩)))) (by kernel_rfl) ⟨bJ,(gq.out _ ST.out.now)⟩ (fun hHeld => ?_)
     clear bJ
     have IX:Below wr.heap.size wr (wr.drew):=(Below.refl _ _).drew
     obtain ⟨X,Z,V,ST,LI⟩:=b5 X Z V ST LI IX
     replace R:=rB R IX
     replace KP:=kB KP hgr IX
     clear IX
     generalize wr.drew=Bj at *
     refine tk (i:=0) (v := ?k26) ?_
     simp only [ah]
     refine tk (i:=1) (v := ?k27) ?_
     simp only [ah]
     refine tk (i:=2) (v := ?k28) ?_
     simp only [ah]
     refine tk (i:=3) (v := ?k29) ?_
     simp only [ah]
     refine tk (i:=4) (v := ?k30) ?_
     simp only [ah]
     refine tk (i:=5) (v := ?k31) ?_
     simp only [ah]
     refine tk (i:=6) (v := ?k32) ?_
     simp only [ah]
     refine tk (i:=7) (v := ?k33) ?_
     simp only [ah]
     refine tk (i:=8) (v := ?k34) ?_
     simp only [ah]
     refine wpAnyH_ready (rs:=[9,13]) (by kernel_rfl) (by simp) ?_
     refine AllReadyH.cons rfl (fun K hK => ?_) (AllReadyH.cons rfl (fun K hK => ?_) (AllReadyH.nil))
     ·
      skip
      go_simp
      have Lu:=X.out.here
      have PL:=Z.out.here
      have XQ:=V.out.here
      have XR:=ST.out.le
      have acI:=LI.out.le
      have acJ:=KP.size
      ((with_reducible refine (HPQ.out _ _ _ R.out.at_ (HT.out.keep (fun _ hp => KP.low.cell hp) (Nat.le_refl _))).mono ?_);rintro e uO acK)
      obtain ⟨alq,alr,aW,aX,aY,bf,bn,bC,bD,bF,Dl,aQ,rfl,acL,zF,N⟩:=acK.take
      replace X:=ji X zF (by omega) (by decide)
      replace Z:=ji Z zF (by omega) (by decide)
      replace V:=ji V zF (by omega) (by decide)
      replace ST:=nT ST zF (by omega)
      replace LI:=nT LI zF (by omega)
      replace R:=Lib.hid acL
      replace KP:=KP.trans zF
      replace N:=Lib.hid N
      clear zF
      have iF:(#[aW,aX,aY,bf,bn,bC,bD,bF] : Array Value).all (·.oneCell')=true:=by simpa using aQ
      generalize Bj.heap.size=L36 at *
      try clear hHeld
      refine hK.out _ _ (⟨X.out.cell 7,(gq.out _ ST.out.now)⟩) (fun hHeld => ?_)
      clear hK K
      refine tk (i:=10) (v := ?k48) ?_
      simp only [ah]
      refine tk (i:=11) (v := ?k49) ?_
      simp only [ah]
      refine tk (i:=12) (v := ?k50) ?_
      simp only [ah]
      refine fH (i:=13) (fun K hK => ?_)
      go_simp
      generalize qh:uO.alloc _=xO
      have ⟨IY,I⟩:=bH qh
      clear qh
      have IZ:=X.out.here
      have PN:=Z.out.here
      have UL:=V.out.here
      have XT:=ST.out.le
      have XU:=LI.out.le
      have XV:=N.out.le
      have UM:=KP.size
      obtain ⟨X,Z,V,ST,LI,N⟩:=b6 X Z V ST LI N IY
      replace R:=rB R IY
      replace KP:=kB KP hgr IY
      clear IY
      generalize uO.heap.size=g54 at *
      try clear hHeld
      refine hK.out _ _ (⟨X.out.cell 7,(gq.out _ ST.out.now)⟩) (fun hHeld => ?_)
      clear hK K
      refine fH (i:=14) (fun K hK => ?_)
      refine aU (by rfl) 30 _ _ (by rfl) (g54) #[aW,aX,aY,bf,bn,bC,bD,bF] (by rfl) (by rfl) 30 _ I.out (by kernel_rfl) rfl (by first | assumption | simp [Value.oneCell']) ?_
      generalize nV:xO.setRow _ _=wG
      obtain ⟨X,Z,V,ST,LI,N⟩:=f6 X Z V ST LI N (eR nV)
      replace R:=rR R I nV.symm (by decide) (by omega)
      replace KP:=oZ KP hgr nV.symm (by omega)
      replace I:=aK I nV
      clear nV
      try clear hHeld
      refine hK.out _ _ (⟨X.out.cell 7,(gq.out _ ST.out.now)⟩) (fun hHeld => ?_)
      clear hK K
      refine tk (i:=15) (v := ?k64) ?_
      simp only [ah]
      refine wpAnyH_done (by kernel_rfl) ?_ _
      try clear hHeld
      go_wp2_with fail
      go_meet
      have hBl:=N.out.le
      exact ⟨⟨_,_,_,_,_,_,_,_,_,_,_,_,_,_,rfl,rfl,aQ,I.out,R.out,N.out,by omega,by omega,by omega⟩,KP,X.out,Z.out,V.out,ST.out,LI.out⟩
     skip
     go_simp
     generalize Dq:Bj.alloc _=Gg
     have ⟨Dt,I⟩:=bH Dq
     clear Dq
     have XW:=X.out.here
     have UN:=Z.out.here
     have UO:=V.out.here
     have PO:=ST.out.le
     have LG:=LI.out.le
     have UD:=KP.size
     obtain ⟨X,Z,V,ST,LI⟩:=b5 X Z V ST LI Dt
     replace R:=rB R Dt
     replace KP:=kB KP hgr Dt
     clear Dt
     generalize Bj.heap.size=g68 at *
     try clear hHeld
     refine hK.out _ _ (⟨X.out.cell 7,(gq.out _ ST.out.now)⟩) (fun hHeld => ?_)
     clear hK K
     refine fH (i:=9) (fun K hK => ?_)
     go_simp
     have UQ:=X.out.here
     have ag4:=Z.out.here
     have acM:=V.out.here
     have acN:=I.out.here
     have acO:=ST.out.le
     have acP:=LI.out.le
     have XJ:=KP.size
     ((with_reducible refine (HPQ.out _ _ _ R.out.at_ (HT.out.keep (fun _ hp => KP.low.cell hp) (Nat.le_refl _))).mono ?_);rintro e UR als)
     obtain ⟨aqG,aqH,aW,aX,aY,bf,bn,bC,bD,bF,Dl,aQ,rfl,alu,I4,N⟩:=als.take
     replace X:=ji X I4 (by omega) (by decide)
     replace Z:=ji Z I4 (by omega) (by decide)
     replace V:=ji V I4 (by omega) (by decide)
     replace I:=ji I I4 (by omega) (by decide)
     replace ST:=nT ST I4 (by omega)
     replace LI:=nT LI I4 (by omega)
     replace R:=Lib.hid alu
     replace KP:=KP.trans I4
     replace N:=Lib.hid N
     clear I4
     have iF:(#[aW,aX,aY,bf,bn,bC,bD,bF] : Array Value).all (·.oneCell')=true:=by simpa using aQ
     generalize Gg.heap.size=L76 at *
     try clear hHeld
     refine hK.out _ _ (⟨X.out.cell 7,(gq.out _ ST.out.now)⟩) (fun hHeld => ?_)
     clear hK K
     refine tk (i:=10) (v := ?k89) ?_
     simp only [ah]
     refine tk (i:=11) (v := ?k90) ?_
     simp only [ah]
     refine tk (i:=12) (v := ?k91) ?_
     simp only [ah]
     refine fH (i:=14) (fun K hK => ?_)
     refine aU (by rfl) 30 _ _ (by rfl) (g68) #[aW,aX,aY,bf,bn,bC,bD,bF] (by rfl) (by rfl) 30 _ I.out (by kernel_rfl) rfl (by first | assumption | simp [Value.oneCell']) ?_
     generalize zG:UR.setRow _ _=acQ
     obtain ⟨X,Z,V,ST,LI,N⟩:=f6 X Z V ST LI N (eR zG)
     replace R:=rR R I zG.symm (by decide) (by omega)
     replace KP:=oZ KP hgr zG.symm (by omega)
     replace I:=aK I zG
     clear zG
     try clear hHeld
     refine hK.out _ _ (⟨X.out.cell 7,(gq.out _ ST.out.now)⟩) (fun hHeld => ?_)
     clear hK K
     refine tk (i:=15) (v := ?k94) ?_
     simp only [ah]
     refine wpAnyH_done (by kernel_rfl) ?_ _
     try clear hHeld
     go_wp2_with fail
     go_meet
     have hBl:=N.out.le
     exact ⟨⟨_,_,_,_,_,_,_,_,_,_,_,_,_,_,rfl,rfl,aQ,I.out,R.out,N.out,by omega,by omega,by omega⟩,KP,X.out,Z.out,V.out,ST.out,LI.out⟩
    case rest =>
     clear ST LI X Z V R KP gq hd0 hd1 hd2 hq1 hq2
     obtain ⟨⟨gI,fp',fn',aW,aX,aY,bf,bn,bC,bD,bF,Dl,LN,BN,rfl,rfl,aQ,I,R,hN,ug,NR,NS⟩,KP,X,Z,V,hST,yB⟩:=hcut
     have iF:(#[aW,aX,aY,bf,bn,bC,bD,bF] : Array Value).all (·.oneCell')=true:=by simpa using aQ
     replace R:=Lib.hid R
     replace X:=Lib.hid X
     replace Z:=Lib.hid Z
     replace V:=Lib.hid V
     replace I:=Lib.hid I
     have ST:=Lib.hid (hST)
     have LI:=Lib.hid (yB)
     have N:=Lib.hid (hN)
     clear hST yB hN
     obtain ⟨iI,iJ,iK,iL,iM,iO,iw,iP⟩:=I.out.c8
     have hN:=N.out.now
     have hNl:=N.out.le
     cases q with
     | error pn =>
      obtain ⟨p',n'⟩:=pn
      obtain ⟨rfl,hf⟩:=hN
      have HR:Hid (aG rec x p path = .error (p',n')):=by show _=_;rw [HD.out,UJ (uM.out _ rfl)]
      have hf:=Lib.hid hf
      go_upto_region 12 with fail
      go_wp2_with (refine sR Z.out ?_)
      clear iI iJ iK iL iM iO iw iP
      generalize wE:wc.setRow _ _=acE
      obtain ⟨X,V,I,ST,LI,N⟩:=f6 X V I ST LI N (eR wE)
      replace R:=rR R Z wE.symm (by decide) (by omega)
      replace KP:=oZ KP hgr wE.symm (by omega)
      replace Z:=aK Z wE
      clear wE
      exact bodyPost_ret (v:=.tuple #[.agg #[aW,aX,aY,bf,bn,bC,bD,bF],.bool false]) (by simp [results,Tryz.results97,go_sem,Z.out.c8]) rfl (cO.bad HR.out R KP hf.out aQ)
     | ok v =>
      obtain ⟨rfl,yM,FM,FN,hc,hv⟩:=hN
      have Dn:Hid ((#[aW,aX,aY,bf,bn,bC,bD,bF] : Array Value)=(iQ v yM FM FN).toArray):=by show _=_;rw [← hc]
      have HV:=Lib.hid hv
      clear hc hv
      have dW:=V.out.e5
      have nK:=LI.out.now
      have UU:=I.out.here
      have hlv:=fun j hj => nK.lt j hj
      go_upto_region 9 with (at_builtin;refine qx rfl _ _ rfl rfl Dn.out nK rfl rfl HV.out (fun j hj => by have:=(hvl.out j hj).2;omega) hNl (by omega) (by have:=jX.out;omega) (by omega) ?_;intro v' w3 hL3 hb3 hg3;obtain ⟨An,cn,hvv⟩:=hL3.form;obtain rfl:v' = .slice An (acc.length+1) cn:=(by rw [hvv,List.length_append];rfl);clear hvv;have V3:=dG V hg3 (fun hh => by have:=(hvl.out _ hh).1;omega);have v36:w3.cell? ⟨gV,5,none⟩=some va:=V3.out.cell 5;have f36:=V3.out.free 5)
      clear nK v36 f36 V3
      clear N
      clear LI
      clear iI iJ iK iL iM iO iw iP dW
      replace X:=dG X hg3 (fun hh => by have:=hvl.out _ hh;omega)
      replace Z:=dG Z hg3 (fun hh => by have:=hvl.out _ hh;omega)
      replace V:=dG V hg3 (fun hh => by have:=hvl.out _ hh;omega)
      replace I:=dG I hg3 (fun hh => by have:=hvl.out _ hh;omega)
      replace ST:=nG ST hg3 (fun k hh => by have:=hvl.out k hh;omega) hb3.size
      replace R:=rG R hg3 (fun j hj => ⟨by have:=(hlv j hj).1;omega,(hlv j hj).2.2⟩)
      replace KP:=KP.above hb3 (by omega) (by omega)
      clear hlv
      have LJ:=Lib.hid (hL3.kept)
      clear hL3
      generalize UW:w3.setCell _ _=acF
      obtain ⟨X,Z,I,ST,LJ⟩:=f5 X Z I ST LJ (eF UW)
      replace R:=rF R V UW.symm (by decide) (by omega)
      replace KP:=kS KP hgr UW.symm (by omega)
      replace V:=Xe V UW
      clear UW
      go_wp2_with fail
      go_roundw
      case rel => exact ⟨k+1,j+2,by have:=Hj.out;have:=hn.out;omega,by have:=Hj.out;omega,by go_num,_,_,_,acc ++ [v],⟨X.out,Z.out,V.out,R.out,KP,ST.out,o8⟩,LJ.out.now,by rw [List.length_append,jX.out];rfl,uK.out v rfl⟩
      case measure => simp [intOf];omega
   obtain rfl:n=k:=by have:=hn.out;omega
   have HD:Hid (aG rec x p path=if uN acc=false then .error (path,1) else yJ (fun is => .mk 8 false 0 [] 0 acc is []) (gB (fun i => rec x.elem (l.getD (2*i+1) []) (path ++ [(i:Int)])) n 0 [])):=by show _=_;rw [HD.out,Xd (by rw [hseq,Nat.sub_self];rfl)]
   have hLk:=hL.kept
   have hgz:=V.out.here
   obtain ⟨B0,hB0⟩ : ∃ B0,wr.heap.size=B0:=⟨_,rfl⟩
   rw [hB0] at hLk hgz
   obtain ⟨Av,cv,rfl⟩:=hL.form
   have jX:=Lib.hid hacc
   have hl1:Hid (JV w gr tv path x C1 l1 C2 l2 l As cs gV (.slice Av acc.length cv) (.slice none 0 0) KJ KL wr) :=
    Lib.hid ⟨X.out,Z.out,V.out,R.out,KP,ST.out,by omega⟩
   have I5:=Lib.hid hLk
   have hkn:acc.length≤800000:=by have:=hn.out;omega
   clear X Z V R KP ST hL hLk hB0 hseq hacc hj
   go_upto_region 15 with fail
   go_loopw [14] (fun i wr => ∃ k:Nat,i = .int .i64 ((k:Int)+1)∧k≤acc.length∧uN acc=uN (acc.drop k)∧∃ (fp:Value) (fn:Int),JV w gr tv path x C1 l1 C2 l2 l As cs gV (.slice Av acc.length cv) (.slice none 0 0) fp fn wr∧jd (jM (gV+1) (.slice Av acc.length cv) acc) wr (gV+1) B0) (fun i _ => acc.length+1 - (intOf i).toNat)
   case atStart => exact ⟨0,rfl,by omega,rfl,_,_,hl1.out,I5.out⟩
   case round =>
    clear hl1 I5
    obtain ⟨k,rfl,hk1,hix,fp2,fn2,⟨X,Z,V,R,KP,hST,o8⟩,rH⟩:=hrel
    replace R:=Lib.hid R
    replace X:=Lib.hid X
    replace Z:=Lib.hid Z
    replace V:=Lib.hid V
    have ST:=Lib.hid (hST)
    clear hST
    have LK:=Lib.hid (rH)
    clear rH
    by_cases hlt:k+1 < acc.length
    ·
     obtain ⟨S,hO,-⟩:=LK.out.now
     obtain ⟨bk,ok,rfl,hbk,hek⟩:=hO.rds.elem (by omega)
     obtain ⟨xk,xi,xr,hcx,hxa⟩:=hek k (by omega)
     obtain ⟨yk,yi,yr,hcy,hya⟩:=hek (k+1) hlt
     rw [Xf _ _ hlt] at hix
     generalize acc[k]=a at *
     generalize acc[k+1]=d at *
     obtain ⟨E1,k1,E2,k2,E3,k3,rfl,rfl,rfl,-,-,-⟩:=hxa.forms
     obtain ⟨F1,m1,F2,m2,F3,m3,rfl,rfl,rfl,-,-,-⟩:=hya.forms
     obtain ⟨a0,a1,a2,a3,a4,a5,a6,a7⟩:=hcx
     obtain ⟨d0,d1,d2,d3,d4,d5,d6,d7⟩:=hcy
     have HA:=Lib.hid hxa
     have HE:=Lib.hid hya
     have jo:=Lib.hid hix
     have hi1:(k:Int)+1 < acc.length:=by omega
     have hi2:(k:Int) < acc.length:=by omega
     clear hek hxa hya hix hO
     have dW:=V.out.e5
     go_wp2_with fail
     have hw0:IntKind.i64.wrap (k:Int)=k:=IntWalk.i64_in _ (by omega)
     have hw1:IntKind.i64.wrap ((k:Int)+1 - 1)=k:=by rw [Int.add_sub_cancel];exact hw0
     have hw2:((k:Int)+1).toNat=k+1:=by omega
     have hw3:0≤(k:Int)+1:=by omega
     go_still_tail 11,(by kernel_rfl)
     change wpList _ _ _ _ _ wr.drew
     clear hw0 hw1 hw2 hw3
     have HA:=Lib.hid (HA.out.on (w':=wr.drew) (Below.refl _ _).drew)
     have HE:=Lib.hid (HE.out.on (w':=wr.drew) (Below.refl _ _).drew)
     obtain ⟨UY,hcv⟩ : ∃ cv,Hid (je a d=cv):=⟨_,rfl⟩
     clear a0 a1 a2 a3 a4 a5 a6 a7 d0 d1 d2 d3 d4 d5 d6 d7
     clear dW
     have XY:Below wr.heap.size wr (wr.drew):=(Below.refl _ _).drew
     obtain ⟨X,Z,V,ST,LK⟩:=b5 X Z V ST LK XY
     replace R:=rB R XY
     replace KP:=kB KP hgr XY
     clear XY
     generalize wr.drew=uh at *
     go_wp2_with fail
     ((with_reducible refine (UZ a d _ _ _ _ _ _ _ HA.out HE.out).mono ?_);rintro e XZ ⟨rfl,Eh⟩)
     obtain ⟨X,Z,V,ST,LK⟩:=b5 X Z V ST LK Eh
     replace R:=rB R Eh
     replace KP:=kB KP hgr Eh
     clear Eh
     rw [hcv.out] at jo ⊢
     clear hcv HA HE
     by_cases hneg:UY < 0
     ·
      have hd:decide (0≤UY)=false:=decide_eq_false (by omega)
      rw [decide_eq_true hneg,Bool.true_and] at jo
      go_wp2_with fail
      go_roundw
      case rel => exact ⟨k+1,by go_num,by omega,jo.out,_,_,⟨X.out,Z.out,V.out,R.out,KP,ST.out,o8⟩,LK.out⟩
      case measure => simp [intOf];omega
     have hd:decide (0≤UY)=true:=decide_eq_true (by omega)
     rw [decide_eq_false hneg,Bool.false_and] at jo
     have HR:Hid (aG rec x p path = .error (path,1)):=by show _=_;rw [HD.out,if_pos jo.out]
     go_upto_region 18 with fail
     have hz:=Z.out.here
     go_wp2_with fail
     ((with_reducible refine (iG gr _ _ _ path 1 _ (by omega) R.out.at_).mono ?_);rintro e RP hp)
     obtain ⟨c0,c1,c2,c3,c4,c5,c6,c7,bb,h1',rfl⟩:=hp.form
     have Z2:=ji Z hp.keep (by omega) (by decide)
     go_wp2_with (refine wpList_store_row rfl 30 _ _ rfl (w.heap.size+1) _ rfl rfl 30 _ Z2.out (by kernel_rfl) rfl (by simpa using h1') ?_)
     obtain ⟨z0,z1,z2,z3,z4,z5,z6,z7⟩:=(iU Z2.out #[c0,c1,c2,c3,c4,c5,c6,c7]).c8
     exact bodyPost_ret (v:=.tuple #[.agg #[c0,c1,c2,c3,c4,c5,c6,c7],.bool bb]) (by simp [results,Tryz.results97,go_sem,z0,z1,z2,z3,z4,z5,z6,z7]) rfl (by rw [HR.out];exact hp.tail KP hgr (by omega) hz Z2.out (by decide))
    rw [U0 _ _ (by omega)] at hix
    have HD:Hid (aG rec x p path=yJ (fun is => .mk 8 false 0 [] 0 acc is []) (gB (fun i => rec x.elem (l.getD (2*i+1) []) (path ++ [(i:Int)])) n 0 [])):=by show _=_;rw [HD.out,if_neg (by rw [hix];simp)]
    have hl1:Hid (JV w gr tv path x C1 l1 C2 l2 l As cs gV (.slice Av acc.length cv) (.slice none 0 0) fp2 fn2 wr) :=
     Lib.hid ⟨X.out,Z.out,V.out,R.out,KP,ST.out,o8⟩
    clear hix
    have dW:=V.out.e5
    go_upto_region 20 with fail
    clear X Z V R KP ST dW
    go_loopw [15] (fun i wr => ∃ k j:Nat,k≤n∧j=2*k+1∧i = .int .i64 (j:Int)∧∃ (fp:Value) (fn:Int) (va:Value) (LQ:List Val),JV w gr tv path x C1 l1 C2 l2 l As cs gV (.slice Av acc.length cv) va fp fn wr∧jM B0 va LQ wr∧LQ.length=k∧gB (fun i => rec x.elem (l.getD (2*i+1) []) (path ++ [(i:Int)])) n 0 []=gB (fun i => rec x.elem (l.getD (2*i+1) []) (path ++ [(i:Int)])) (n - k) k LQ∧jd (jM (gV+1) (.slice Av acc.length cv) acc) wr (gV+1) B0) (fun i _ => l.length+1 - (intOf i).toNat)
    case atStart => exact ⟨0,1,by omega,rfl,rfl,_,_,_,[],hl1.out,jM.nil _ _,rfl,rfl,LK.out⟩
    case round =>
     clear hl1 LK
     generalize X0:acc=ks at *
     clear X0
     obtain ⟨k,j,hk1,hj,rfl,KJ,KL,va,acc,⟨X,Z,V,R,KP,hST,o8⟩,hL,hacc,hseq,rH⟩:=hrel
     replace R:=Lib.hid R
     replace X:=Lib.hid X
     replace Z:=Lib.hid Z
     replace V:=Lib.hid V
     have ST:=Lib.hid (hST)
     clear hST
     have LK:=Lib.hid (rH)
     by_cases hlt:j < l.length
     ·
      skip
      obtain ⟨gs,cs',hvs,-,-,-,-⟩:=ru ST.out.now (by omega)
      injection hvs with hv1 hv2 hv3
      subst hv1;subst hv3;clear hv2
      have hvl:Hid (∀ j,va.ownBlock=some j→B0≤j∧j < wr.heap.size):=Lib.hid (fun j hj => ⟨(hL.lt j hj).1,(hL.lt j hj).2.1⟩)
      have hLk:=hL.kept
      have hgz:=And.intro V.out.here rH.le;clear rH
      obtain ⟨hz,hzE⟩ : ∃ hz,wr.heap.size=hz:=⟨_,rfl⟩
      rw [hzE] at hLk hvl hgz
      clear hzE hL
      have LI:=Lib.hid (hLk)
      clear hLk
      have gq:=Lib.hid (fun (W:World) h => NT (W:=W) (gs:=gs) (n:=l.length) (n':=l.length) (c:=cs) h hlt)
      have hn1:n - k=(n - (k+1))+1:=by omega
      have hfk:(fun i => rec x.elem (l.getD (2*k+1) []) (path ++ [(i:Int)])) k=rec x.elem l[j] (path ++ [(k:Int)]):=by simp [List.getD,← hj,hlt]
      rw [hn1] at hseq
      have lF:=fun v h => hseq.trans (yA (v:=v) (hfk.trans h))
      have lG:=fun e h => hseq.trans (uI (e:=e) (hfk.trans h))
      clear hseq hn1 hfk
      have hlk:=HL.out l[j] (List.getElem_mem hlt)
      have HPQ:=Lib.hid (fun (W:World) (fp':Value) (fn':Int) h1 h2 => AU.out W fp' fn' k x.elem l[j] h1 h2 HM.out.2 (by omega))
      generalize rec x.elem l[j] (path ++ [(k:Int)])=q at *
      generalize l[j]=lk at *
      have uK:=Lib.hid lF
      have uM:=Lib.hid lG
      have jX:=Lib.hid hacc
      have yK:(j:Int) < l.length:=by omega
      have hd0:decide ((j:Int) < 0)=false:=by simp
      have hd1:decide (l.length≤j)=false:=by simpa using hlt
      have hd2:decide ((j:Int) < l.length)=true:=by simpa using hlt
      have hq1:(j:Int).tdiv 2=(k:Int):=by rw [Int.tdiv_eq_ediv];omega
      have hq2:IntKind.i64.wrap (k:Int)=k:=IntWalk.i64_in _ (by omega)
      have Hj:=Lib.hid hj
      clear lF lG hacc hj
      go_upto_region 22 with fail
      go_cut [16,17] from 100 to 127 (fun sa sb wx => NQ wx gr tv path q (hz - 1) sa sb∧aP w gr wx∧Has wx w.heap.size 69 #[.int .i64 8,.string ⟨x.name.toArray⟩,.int .i64 x.low,.int .i64 x.high,.int .i64 x.max,.slice C1 x.syms.length l1,.slice C2 x.aj.length l2,.int .i64 x.key,.int .i64 x.elem,.bool x.opn]∧Has wx (w.heap.size+1) 30 #[.int .i64 0,.bool false,.int .i64 0,.string ⟨#[]⟩,.int .i64 0,.slice none 0 0,.slice none 0 0,.slice none 0 0]∧Has wx gV 30 #[.int .i64 8,.bool false,.int .i64 0,.string ⟨#[]⟩,.int .i64 0,.slice Av ks.length cv,va,.slice none 0 0] ∧
       jd (fun w => w.ownsRow 0 9 1 (.slice (some ⟨gs,0,none⟩) l.length cs) l.length (l.map SB)) wx (w.heap.size+2) gV∧jd (jM (B0) va acc) wx (B0) hz∧jd (jM (gV+1) (.slice Av ks.length cv) ks) wx (gV+1) B0)
      case first =>
       have bZ:=X.out.e8
       refine wp_region_held_drew (S:=(fun w' => w'.cell? ⟨w.heap.size,8,none⟩=some (.int .i64 x.elem)∧(w'.cell? ⟨gs,j,none⟩=some (.string ⟨lk.toArray⟩)))) (by kernel_rfl) ⟨bZ,(gq.out _ ST.out.now)⟩ (fun hHeld => ?_)
       clear bZ
       have BQ:Below wr.heap.size wr (wr.drew):=(Below.refl _ _).drew
       obtain ⟨X,Z,V,ST,LK,LI⟩:=b6 X Z V ST LK LI BQ
       replace R:=rB R BQ
       replace KP:=kB KP hgr BQ
       clear BQ
       generalize wr.drew=X3 at *
       refine tk (i:=0) (v := ?ag5) ?_
       simp only [ah]
       refine tk (i:=1) (v := ?alv) ?_
       simp only [ah]
       refine tk (i:=2) (v := ?alx) ?_
       simp only [ah]
       refine tk (i:=3) (v := ?aqI) ?_
       simp only [ah]
       refine tk (i:=4) (v := ?aqJ) ?_
       simp only [ah]
       refine tk (i:=5) (v := ?aqK) ?_
       simp only [ah]
       refine tk (i:=6) (v := ?aqL) ?_
       simp only [ah]
       refine tk (i:=7) (v := ?aly) ?_
       simp only [ah]
       refine tk (i:=8) (v := ?alz) ?_
       simp only [ah]
       refine wpAnyH_ready (rs:=[9,13]) (by kernel_rfl) (by simp) ?_
       refine AllReadyH.cons rfl (fun K hK => ?_) (AllReadyH.cons rfl (fun K hK => ?_) (AllReadyH.nil))
       ·
        skip
        go_simp
        have RQ:=X.out.here
        have X4:=Z.out.here
        have aeK:=V.out.here
        have X5:=ST.out.le
        have RS:=LK.out.le
        have RU:=LI.out.le
        have X6:=KP.size
        ((with_reducible refine (HPQ.out _ _ _ R.out.at_ (HT.out.keep (fun _ hp => KP.low.cell hp) (Nat.le_refl _))).mono ?_);rintro e BR NU)
        obtain ⟨ao9,apa,aW,aX,aY,bf,bn,bC,bD,bF,Dl,aQ,rfl,aiO,Ei,N⟩:=NU.take
        replace X:=ji X Ei (by omega) (by decide)
        replace Z:=ji Z Ei (by omega) (by decide)
        replace V:=ji V Ei (by omega) (by decide)
        replace ST:=nT ST Ei (by omega)
        replace LK:=nT LK Ei (by omega)
        replace LI:=nT LI Ei (by omega)
        replace R:=Lib.hid aiO
        replace KP:=KP.trans Ei
        replace N:=Lib.hid N
        clear Ei
        have iF:(#[aW,aX,aY,bf,bn,bC,bD,bF] : Array Value).all (·.oneCell')=true:=by simpa using aQ
        generalize X3.heap.size=alA at *
        try clear hHeld
        refine hK.out _ _ (⟨X.out.cell 8,(gq.out _ ST.out.now)⟩) (fun hHeld => ?_)
        clear hK K
        refine tk (i:=10) (v := ?aqM) ?_
        simp only [ah]
        refine tk (i:=11) (v := ?aqN) ?_
        simp only [ah]
        refine tk (i:=12) (v := ?aqO) ?_
        simp only [ah]
        refine fH (i:=13) (fun K hK => ?_)
        go_simp
        generalize Ej:BR.alloc _=NV
        have ⟨xA,I⟩:=bH Ej
        clear Ej
        have aeL:=X.out.here
        have aeM:=Z.out.here
        have aiP:=V.out.here
        have aiQ:=ST.out.le
        have apb:=LK.out.le
        have apc:=LI.out.le
        have aiR:=N.out.le
        have aiS:=KP.size
        obtain ⟨X,Z,V,ST,LK,LI,N⟩:=b7 X Z V ST LK LI N xA
        replace R:=rB R xA
        replace KP:=kB KP hgr xA
        clear xA
        generalize BR.heap.size=ag6 at *
        try clear hHeld
        refine hK.out _ _ (⟨X.out.cell 8,(gq.out _ ST.out.now)⟩) (fun hHeld => ?_)
        clear hK K
        refine fH (i:=14) (fun K hK => ?_)
        refine aU (by rfl) 30 _ _ (by rfl) (ag6) #[aW,aX,aY,bf,bn,bC,bD,bF] (by rfl) (by rfl) 30 _ I.out (by kernel_rfl) rfl (by first | assumption | simp [Value.oneCell']) ?_
        generalize nM:NV.setRow _ _=NW
        obtain ⟨X,Z,V,ST,LK,LI,N⟩:=f7 X Z V ST LK LI N (eR nM)
        replace R:=rR R I nM.symm (by decide) (by omega)
        replace KP:=oZ KP hgr nM.symm (by omega)
        replace I:=aK I nM
        clear nM
        try clear hHeld
        refine hK.out _ _ (⟨X.out.cell 8,(gq.out _ ST.out.now)⟩) (fun hHeld => ?_)
        clear hK K
        refine tk (i:=15) (v := ?ag7) ?_
        simp only [ah]
        refine wpAnyH_done (by kernel_rfl) ?_ _
        try clear hHeld
        go_wp2_with fail
        go_meet
        have hBl:=N.out.le
        exact ⟨⟨_,_,_,_,_,_,_,_,_,_,_,_,_,_,rfl,rfl,aQ,I.out,R.out,N.out,by omega,by omega,by omega⟩,KP,X.out,Z.out,V.out,ST.out,LI.out,LK.out⟩
       skip
       go_simp
       generalize Gl:X3.alloc _=qN
       have ⟨RV,I⟩:=bH Gl
       clear Gl
       have aiT:=X.out.here
       have aeN:=Z.out.here
       have aeO:=V.out.here
       have aiU:=ST.out.le
       have aiV:=LK.out.le
       have aiW:=LI.out.le
       have aiX:=KP.size
       obtain ⟨X,Z,V,ST,LK,LI⟩:=b6 X Z V ST LK LI RV
       replace R:=rB R RV
       replace KP:=kB KP hgr RV
       clear RV
       generalize X3.heap.size=alB at *
       try clear hHeld
       refine hK.out _ _ (⟨X.out.cell 8,(gq.out _ ST.out.now)⟩) (fun hHeld => ?_)
       clear hK K
       refine fH (i:=9) (fun K hK => ?_)
       go_simp
       have aeP:=X.out.here
       have aeQ:=Z.out.here
       have aeR:=V.out.here
       have aeS:=I.out.here
       have aeT:=ST.out.le
       have aeU:=LK.out.le
       have aiY:=LI.out.le
       have aeV:=KP.size
       ((with_reducible refine (HPQ.out _ _ _ R.out.at_ (HT.out.keep (fun _ hp => KP.low.cell hp) (Nat.le_refl _))).mono ?_);rintro e yN aiZ)
       obtain ⟨apd,ape,aW,aX,aY,bf,bn,bC,bD,bF,Dl,aQ,rfl,ai0,BU,N⟩:=aiZ.take
       replace X:=ji X BU (by omega) (by decide)
       replace Z:=ji Z BU (by omega) (by decide)
       replace V:=ji V BU (by omega) (by decide)
       replace I:=ji I BU (by omega) (by decide)
       replace ST:=nT ST BU (by omega)
       replace LK:=nT LK BU (by omega)
       replace LI:=nT LI BU (by omega)
       replace R:=Lib.hid ai0
       replace KP:=KP.trans BU
       replace N:=Lib.hid N
       clear BU
       have iF:(#[aW,aX,aY,bf,bn,bC,bD,bF] : Array Value).all (·.oneCell')=true:=by simpa using aQ
       generalize qN.heap.size=aqP at *
       try clear hHeld
       refine hK.out _ _ (⟨X.out.cell 8,(gq.out _ ST.out.now)⟩) (fun hHeld => ?_)
       clear hK K
       refine tk (i:=10) (v := ?ag8) ?_
       simp only [ah]
       refine tk (i:=11) (v := ?ag9) ?_
       simp only [ah]
       refine tk (i:=12) (v := ?aha) ?_
       simp only [ah]
       refine fH (i:=14) (fun K hK => ?_)
       refine aU (by rfl) 30 _ _ (by rfl) (alB) #[aW,aX,aY,bf,bn,bC,bD,bF] (by rfl) (by rfl) 30 _ I.out (by kernel_rfl) rfl (by first | assumption | simp [Value.oneCell']) ?_
       generalize NY:yN.setRow _ _=NZ
       obtain ⟨X,Z,V,ST,LK,LI,N⟩:=f7 X Z V ST LK LI N (eR NY)
       replace R:=rR R I NY.symm (by decide) (by omega)
       replace KP:=oZ KP hgr NY.symm (by omega)
       replace I:=aK I NY
       clear NY
       try clear hHeld
       refine hK.out _ _ (⟨X.out.cell 8,(gq.out _ ST.out.now)⟩) (fun hHeld => ?_)
       clear hK K
       refine tk (i:=15) (v := ?aqQ) ?_
       simp only [ah]
       refine wpAnyH_done (by kernel_rfl) ?_ _
       try clear hHeld
       go_wp2_with fail
       go_meet
       have hBl:=N.out.le
       exact ⟨⟨_,_,_,_,_,_,_,_,_,_,_,_,_,_,rfl,rfl,aQ,I.out,R.out,N.out,by omega,by omega,by omega⟩,KP,X.out,Z.out,V.out,ST.out,LI.out,LK.out⟩
      case rest =>
       clear ST LI X Z V R KP gq hd0 hd1 hd2 hq1 hq2 LK
       obtain ⟨⟨gI,fp',fn',aW,aX,aY,bf,bn,bC,bD,bF,Dl,LN,BN,rfl,rfl,aQ,I,R,hN,ug,NR,NS⟩,KP,X,Z,V,hST,yB,rH⟩:=hcut
       have iF:(#[aW,aX,aY,bf,bn,bC,bD,bF] : Array Value).all (·.oneCell')=true:=by simpa using aQ
       replace R:=Lib.hid R
       replace X:=Lib.hid X
       replace Z:=Lib.hid Z
       replace V:=Lib.hid V
       replace I:=Lib.hid I
       have ST:=Lib.hid (hST)
       have LI:=Lib.hid (yB)
       have N:=Lib.hid (hN)
       have LK:=Lib.hid (rH)
       clear hST yB hN
       obtain ⟨iI,iJ,iK,iL,iM,iO,iw,iP⟩:=I.out.c8
       have hN:=N.out.now
       have hNl:=N.out.le
       cases q with
       | error pn =>
        obtain ⟨p',n'⟩:=pn
        obtain ⟨rfl,hf⟩:=hN
        have HR:Hid (aG rec x p path = .error (p',n')):=by show _=_;rw [HD.out,uM.out _ rfl];rfl
        have hf:=Lib.hid hf
        go_upto_region 24 with fail
        go_wp2_with (refine sR Z.out ?_)
        clear iI iJ iK iL iM iO iw iP
        generalize N7:wc.setRow _ _=apf
        obtain ⟨X,V,I,ST,LI,N,LK⟩:=f7 X V I ST LI N LK (eR N7)
        replace R:=rR R Z N7.symm (by decide) (by omega)
        replace KP:=oZ KP hgr N7.symm (by omega)
        replace Z:=aK Z N7
        clear N7
        exact bodyPost_ret (v:=.tuple #[.agg #[aW,aX,aY,bf,bn,bC,bD,bF],.bool false]) (by simp [results,Tryz.results97,go_sem,Z.out.c8]) rfl (cO.bad HR.out R KP hf.out aQ)
       | ok v =>
        obtain ⟨rfl,yM,FM,FN,hc,hv⟩:=hN
        have Dn:Hid ((#[aW,aX,aY,bf,bn,bC,bD,bF] : Array Value)=(iQ v yM FM FN).toArray):=by show _=_;rw [← hc]
        have HV:=Lib.hid hv
        clear hc hv
        have dK:=V.out.e6
        have nK:=LI.out.now
        have UU:=I.out.here
        have hlv:=fun j hj => nK.lt j hj
        go_upto_region 21 with (at_builtin;refine qx rfl _ _ rfl rfl Dn.out nK rfl rfl HV.out (fun j hj => by have:=(hvl.out j hj).2;omega) hNl (by omega) (by have:=jX.out;omega) (by omega) ?_;intro v' w3 hL3 hb3 hg3;obtain ⟨An,cn,hvv⟩:=hL3.form;obtain rfl:v' = .slice An (acc.length+1) cn:=(by rw [hvv,List.length_append];rfl);clear hvv;have V3:=dG V hg3 (fun hh => by have:=(hvl.out _ hh).1;omega);have v36:w3.cell? ⟨gV,6,none⟩=some va:=V3.out.cell 6;have f36:=V3.out.free 6)
        clear nK v36 f36 V3
        clear N
        clear LI
        clear iI iJ iK iL iM iO iw iP dK
        replace X:=dG X hg3 (fun hh => by have:=hvl.out _ hh;omega)
        replace Z:=dG Z hg3 (fun hh => by have:=hvl.out _ hh;omega)
        replace V:=dG V hg3 (fun hh => by have:=hvl.out _ hh;omega)
        replace I:=dG I hg3 (fun hh => by have:=hvl.out _ hh;omega)
        replace ST:=nG ST hg3 (fun k hh => by have:=hvl.out k hh;omega) hb3.size
        replace LK:=nG LK hg3 (fun k hh => by have:=hvl.out k hh;omega) hb3.size
        replace R:=rG R hg3 (fun j hj => ⟨by have:=(hlv j hj).1;omega,(hlv j hj).2.2⟩)
        replace KP:=KP.above hb3 (by omega) (by omega)
        clear hlv
        have LJ:=Lib.hid (hL3.kept)
        clear hL3
        generalize Em:w3.setCell _ _=aeW
        obtain ⟨X,Z,I,ST,LK,LJ⟩:=f6 X Z I ST LK LJ (eF Em)
        replace R:=rF R V Em.symm (by decide) (by omega)
        replace KP:=kS KP hgr Em.symm (by omega)
        replace V:=uf V Em
        clear Em
        go_wp2_with fail
        go_roundw
        case rel => exact ⟨k+1,j+2,by have:=Hj.out;have:=hn.out;omega,by have:=Hj.out;omega,by go_num,_,_,_,acc ++ [v],⟨X.out,Z.out,V.out,R.out,KP,ST.out,o8⟩,LJ.out.now,by rw [List.length_append,jX.out];rfl,uK.out v rfl,LK.out⟩
        case measure => simp [intOf];omega
     obtain rfl:n=k:=by have:=hn.out;omega
     have LI:=Lib.hid (hL.kept)
     have HR:Hid (aG rec x p path = .ok (.mk 8 false 0 [] 0 ks acc [])):=by show _=_;rw [HD.out,hseq,Nat.sub_self];rfl
     have hlB:=rH.le
     clear hL rH
     obtain ⟨Ai,ci,rfl⟩:=LI.out.now.form
     have alC:=Lib.hid hacc
     clear hacc hseq hj
     obtain ⟨eH,dP,eP,eU,dY,dW,dK,eG⟩:=V.out.c8
     go_upto_region 26 with fail
     go_wp2_with (refine sR Z.out ?_)
     clear eH dP eP eU dY dW dK eG
     generalize En:wr.setRow _ _=JW
     obtain ⟨X,V,ST,LK,LI⟩:=f5 X V ST LK LI (eR En)
     replace R:=rR R Z En.symm (by decide) (by omega)
     replace KP:=oZ KP hgr En.symm (by omega)
     replace Z:=aK Z En
     clear En
     exact bodyPost_ret (v:=.tuple #[.agg #[.int .i64 8,.bool false,.int .i64 0,.string ⟨#[]⟩,.int .i64 0,.slice Av ks.length cv,.slice Ai acc.length ci,.slice none 0 0],.bool true]) (by simp [results,Tryz.results97,go_sem,Z.out.c8]) rfl (cO.good (v:=.mk 8 false 0 [] 0 ks acc []) HR.out R KP (Qu (L1:=1000000) (L2:=1000000) (LK.out.now.row (by omega)) (LI.out.now.row (by omega)) (by unfold I64;omega) (by unfold I64;omega) (by omega) (by have:=alC.out;have:=hn.out;omega) (by omega) (by omega)))
end Go.Proofs.YthkfapcadhnaeaaGreatDoor
