/- fail, and what else is used with it. No condition. -/
import Derived.Test.YtkaedmpppnnamaaGreatDoorHAG
set_option maxHeartbeats 800000
set_option maxRecDepth 100000
namespace Go.Proofs.YtkaedmpppnnamaaGreatDoor
open ChangeShapes WideShapes ChangeAt RowKit
theorem acs {w:World} {base n:Nat} {pv:Value} {xs:List Value} (h:w.ownsRow base 3 1 pv n xs) (hn:n<=1000000) (h1:∀ u ∈ xs,u.oneCell'=true) :
  Calls Tryz.prog 103 #[pv] w (DJ w 3 1 n xs):=by
 have hrd:=Rd.uX h;obtain ⟨A,c,rfl,hc⟩:=hrd.form;refine ZP n A c xs w hn ?_ h.1 ?_ ?_ h1
 .
  rintro rfl;rcases h.2 with ⟨_,h2⟩ | ⟨_,_,_,h2,_⟩
  . exact h2
  cases h2
 .
  rintro a rfl j u hu;rcases h.2 with ⟨h2,_⟩ | ⟨g,cap,cur,h2,_⟩
  . cases h2
  cases h2;exact h.cells (g:=g) rfl j u hu
 rintro a rfl hp;exact (h.lt a.block rfl).2
theorem sF {w:World} {base base' n size:Nat} {e:TypeId} {v:Value} {ys:List Value} (h:w.ownsRow base e size v n ys) (hb:base'<=base):w.ownsRow base' e size v n ys:=by
 refine ⟨h.1,?_⟩;rcases h.2 with h2 | ⟨g,cap,cur,h3,h4,h5⟩
 . exact .inl h2
 exact .inr ⟨g,cap,cur,h3,Jh hb h4,h5⟩
theorem vP {w:World} {gr base n size:Nat} {e:TypeId} {v:Value} {ys:List Value} (h:w.ownsRow base e size v n ys) (hb:gr < base) (i:Nat) (u:Value):(w.setCell ⟨gr,i,none⟩ u).ownsRow base e size v n ys :=
 qo h fun k hk => Below.heap_setCell w _ u k (by have:=(h.lt k hk).1;show k≠gr;omega)
theorem aev (gr:Nat) (tv fp:Value) (fn:Int) (path:List Int) (n:Int) (w:World) (hp:path.length<=1000) (hR:lC w gr tv fp fn path) :
  Calls Tryz.prog 76 #[.pointer (some ⟨gr,0,none⟩),.int .i64 n] w fun e w' =>
   e = .returned (.tuple #[.agg #[.int .i64 0,.bool false,.int .i64 0,.string ⟨#[]⟩,.int .i64 0,.slice none 0 0,.slice none 0 0,.slice none 0 0],.bool false]) /\
   ∃ fp',lC w' gr tv fp' n path/\w'.ownsRow (gr+1) 3 1 fp' path.length (path.map zq)/\cZ w gr w':=by
 obtain ⟨pv,hrow,hown⟩:=hR.row;have hgr:=hrow.here;have HO:=hiQ hown;clear hR hown;replace hrow:=hiQ hrow;go_enter Tryz.func76,Tryz.ntmps76
 go_upto_region 1 with fail;refine aO (fun wd2 hb1 Z => ?_);replace hrow:=b1 hrow hb1;have hw3:=hb1;clear hb1;have NQ:=hrow.out.e0;have uJ:=hrow.out.e1;have HZ2:=hiQ Z.out.here;have hown1:=own_below HO.out hw3;have HC:=hiQ (acs hown1 (by omega) (by intro u hu;obtain ⟨z,_,rfl⟩:=Pe.1 hu;rfl));clear hown1;go_wp2_with fail;clear NQ uJ;((with_reducible refine (HC.out).mono ?_);rintro e wd4 ⟨fp',rfl,hcl,hb5⟩);obtain ⟨hrow,Z⟩:=b2 hrow Z hb5;replace hw3:=dT hw3 hb5;clear hb5;obtain ⟨A1,c1,rfl,hcc⟩:=(Rd.uX hcl).form;have HL:=hiQ hcl;clear hcl HC;have NQ:=hrow.out.e0;have uJ:=hrow.out.e1;have SS:=hrow.out.e2;have SV:=hrow.out.e3;have anE:=hrow.out.free 2;have anF:=hrow.out.free 3;go_upto_region 2 with fail;have K5:cZ w gr wd4:=cZ.of_below hw3 (Qy hgr);have O5:=own_below HO.out hw3;have hgz:gr≠w.heap.size:=by omega
 have hz2:w.heap.size < wd2.heap.size:=HZ2.out;obtain ⟨w6,hE⟩ : ∃ ww,ww=(wd4.setCell ⟨gr,2,none⟩ (.slice A1 path.length c1)).setCell ⟨gr,3,none⟩ (.int .i64 n):=⟨_,rfl⟩
 rw [<- hE];have K6:cZ w gr w6:=hE ▸ (K5.trans (cZ.setCell _ _ _ _)).trans (cZ.setCell _ _ _ _);have O6:=vP (vP O5 (MX gr) 2 (.slice A1 path.length c1)) (MX gr) 3 (.int .i64 n);have F6:=vP (vP HL.out (show gr < wd2.heap.size by omega) 2 (.slice A1 path.length c1)) (show gr < wd2.heap.size by omega) 3 (.int .i64 n);rw [<- hE] at O6 F6;have Z6:=dF (dF Z rfl (Ne.symm hgz)) hE (Ne.symm hgz);have R6:Hid (Has w6 gr 111 #[tv,pv,.slice A1 path.length c1,.int .i64 n]):=hiQ (by simpa using dS (hiQ (dS hrow rfl)) hE);clear hE hrow Z;go_wp2_with (refine yH rfl 34 _ _ rfl w.heap.size _ rfl rfl 34 _ Z6.out (by kernel_rfl) rfl (by simp [Value.oneCell']) ?_)
 obtain ⟨w7,mP⟩ : ∃ ww,ww=w6.setRow w.heap.size #[.int .i64 0,.bool false,.int .i64 0,.string ⟨#[]⟩,.int .i64 0,.slice none 0 0,.slice none 0 0,.slice none 0 0]:=⟨_,rfl⟩
 rw [<- mP];have Z7:=dO Z6 mP;have R7:=dR R6 mP hgz;have hsz:w6.heap.size<=w7.heap.size:=by rw [mP];simp [World.setRow]
 have hot:∀ k,k≠w.heap.size->w7.heap[k]?=w6.heap[k]?:=fun k hk => by rw [mP];exact setRow_other _ _ _ _ hk
 have K7:cZ w gr w7:=⟨⟨by rw [mP];exact K6.low.os,by rw [mP];exact K6.low.tape,by rw [mP];exact K6.low.output,Jh K6.size hsz,fun k hk => (hot k (by omega)).trans (K6.low.block k hk)⟩,fun b h1 h2 h3 => (hot b (by omega)).trans (K6.block b h1 h2 h3)⟩
 have O7:=qo (w':=w7) O6 fun k hk => hot k (by have:=HO.out.lt k hk;omega);have F7:=qo (w':=w7) F6 fun k hk => hot k (by have:=F6.lt k hk;omega);clear mP;have z0:=Z7.out.cell 0;have z1:=Z7.out.cell 1;have z2:=Z7.out.cell 2;have z3:=Z7.out.cell 3;have z4:=Z7.out.cell 4;have z5:=Z7.out.cell 5;have z6:=Z7.out.cell 6;have z7:=Z7.out.cell 7;simp only [List.getElem?_toArray,List.getElem?_cons_zero,List.getElem?_cons_succ] at z0 z1 z2 z3 z4 z5 z6 z7;exact vJ (v:=.tuple #[.agg #[.int .i64 0,.bool false,.int .i64 0,.string ⟨#[]⟩,.int .i64 0,.slice none 0 0,.slice none 0 0,.slice none 0 0],.bool false]) (by simp [results,Tryz.results76,go_sem,z0,z1,z2,z3,z4,z5,z6,z7]) rfl ⟨rfl,_,⟨pv,R7.out,O7⟩,sF F7 (by omega),K7⟩
theorem RU {w:World} {base n:Nat} {e:TypeId} {v u:Value} {xs:List Value} (h:w.ownsRow base e 1 v (n+1) (xs ++ [u])) (hl:xs.length=n) :
  ∃ g cap,v = .slice (some ⟨g,0,none⟩) (n+1) cap/\n+1<=cap/\w.ownsRow base e 1 (.slice (some ⟨g,0,none⟩) n cap) n xs:=by
 rcases h.2 with ⟨_,h2⟩ | ⟨g,cap,cur,rfl,hb,hh,hn,hm,hs,ht⟩
 . omega
 refine ⟨g,cap,rfl,hn,by omega,.inr ⟨g,cap,cur,rfl,hb,hh,by omega,hm,hs,?_⟩⟩;have e1:cur.toList.take (n*1)=(cur.toList.take ((n+1)*1)).take n:=by rw [List.take_take];congr 1;omega
 rw [e1,ht,<- hl,List.take_left']
 rfl
def eu (gr:Nat) (tv:Value) (path:List Int) (w:World) (r:mX) (e:Ending) (w':World):Prop :=
 ∃ fp fn,lC w' gr tv fp fn path/\cZ w gr w'/\match r with
  | .ok v => ∃ vk vi vr,e = .returned (.tuple #[aS v vk vi vr,.bool true])/\jq w' (sQ w w') v vk vi vr
  | .error (p,n) => fn=n/\w'.ownsRow (gr+1) 3 1 fp p.length (p.map zq)/\∃ c0 c1 c2 c3 c4 c5 c6 c7:Value,(∀ u ∈ [c0,c1,c2,c3,c4,c5,c6,c7],u.oneCell'=true)/\e = .returned (.tuple #[.agg #[c0,c1,c2,c3,c4,c5,c6,c7],.bool false])
theorem eu.form {gr:Nat} {tv:Value} {path:List Int} {w w':World} {r:mX} {e:Ending} (h:eu gr tv path w r e w') :
  ∃ (c0 c1 c2 c3 c4 c5 c6 c7:Value) (b:Bool),(∀ u ∈ [c0,c1,c2,c3,c4,c5,c6,c7],u.oneCell'=true)/\e = .returned (.tuple #[.agg #[c0,c1,c2,c3,c4,c5,c6,c7],.bool b]):=by
 obtain ⟨fp,fn,_,_,h⟩:=h;cases r with
 | ok v =>
  obtain ⟨vk,vi,vr,rfl,hv⟩:=h;obtain ⟨ck,hk,_⟩:=hv.keys;obtain ⟨ci,hi,_⟩:=hv.items;exact ⟨_,_,_,_,_,_,_,_,true,by simp [Value.oneCell'];exact ⟨hk.one,hi.one,hv.rest.one⟩,rfl⟩
 | error e =>
  obtain ⟨p,n⟩:=e;obtain ⟨_,_,c0,c1,c2,c3,c4,c5,c6,c7,h1,rfl⟩:=h;exact ⟨c0,c1,c2,c3,c4,c5,c6,c7,false,h1,rfl⟩
theorem kD (gr:Nat) (tv fp:Value) (fn:Int) (path:List Int) (n:Int) (w:World) (hp:path.length<=1000) (hR:lC w gr tv fp fn path) :
  Calls Tryz.prog 76 #[.pointer (some ⟨gr,0,none⟩),.int .i64 n] w (eu gr tv path w (.error (path,n))):=by
 refine (aev gr tv fp fn path n w hp hR).mono ?_;rintro e w' ⟨rfl,fp',h1,h2,h3⟩;exact ⟨fp',n,h1,h3,rfl,h2,_,_,_,_,_,_,_,_,by simp [Value.oneCell'],rfl⟩
theorem cZ.above {w W W':World} {gr B:Nat} (K:cZ w gr W) (hb:Below B W W') (hB:w.heap.size<=B) (hg:gr<=B):cZ w gr W' :=
 ⟨K.low.trans (hb.mono hg),fun b h1 h2 h3 => (hb.block b (u_ h2 hB)).trans (K.block b h1 h2 h3)⟩
theorem cZ.drew {w W:World} {gr:Nat} (K:cZ w gr W):cZ w gr W.drew:=⟨K.low.trans (g_ gr W).drew,fun b h1 h2 h3 => K.block b h1 h2 h3⟩
theorem wV {W:World} {base n g:Nat} {v:Value} {xs:List Value} {T:TypeId} {cs:Array Value} (h:W.ownsRow base 3 1 v n xs) (hH:Has W g T cs) (hT:T≠3):v.ownBlock≠some g:=by
 rcases h.2 with ⟨rfl,_⟩ | ⟨g',cap,cur,rfl,_,hh,_⟩
 . simp [Value.ownBlock]
 intro e;simp only [Value.ownBlock,R_] at e;subst e;have hH':W.heap[g']?=some (.cells cs T (0,0)):=hH;rw [hh] at hH';injection hH' with e1;injection e1 with _ e2;exact hT e2.symm
structure nS (W:World) (gr:Nat) (tv fp:Value) (fn:Int) (path:List Int) (q:Option (List Int)):Prop where
 at_:lC W gr tv fp fn path
 fail:∀ p,q=some p->W.ownsRow (gr+1) 3 1 fp p.length (p.map zq)
theorem nS.of {W:World} {gr:Nat} {tv fp:Value} {fn:Int} {path:List Int} (h:lC W gr tv fp fn path):nS W gr tv fp fn path none:=⟨h,fun _ h => by cases h⟩
structure jJ (P:World->Prop) (w:World) (L B:Nat):Prop where
 now:P w
 st:∀ w',(∀ k:Nat,L<=k->k < B->jQ w k->w'.heap[k]?=w.heap[k]?)->P w'
 le:B<=w.heap.size
theorem jJ.imp {P Q:World->Prop} {w:World} {L B:Nat} (h:jJ P w L B) (hPQ:∀ w,P w->Q w):jJ Q w L B:=⟨hPQ _ h.now,fun w' hk => hPQ _ (h.st w' hk),h.le⟩
theorem jQ.same {w w':World} {k:Nat} (h:w'.heap[k]?=w.heap[k]?) (h':jQ w' k):jQ w k:=fun c f e => h' c f (h.trans e)
theorem jJ.move {P:World->Prop} {w w':World} {L B:Nat} (h:jJ P w L B) (hk:∀ k:Nat,L<=k->k < B->jQ w k->w'.heap[k]?=w.heap[k]?) (hs:w.heap.size<=w'.heap.size):jJ P w' L B :=
 ⟨h.st w' hk,fun w2 h2 => h.st w2 fun p hl hp hn => (h2 p hl hp (fun c f e => hn c f ((hk p hl hp hn).symm.trans e))).trans (hk p hl hp hn),Jh h.le hs⟩
section
variable {w w' W W':World} {g g' gr i L B:Nat} {T T':TypeId} {cs cs':Array Value} {P:World->Prop} {v tv fp:Value} {fn:Int} {path:List Int} {o:Obj}
theorem nB (h:Hid (jJ P w L B)) (hb:Below w.heap.size w w'):Hid (jJ P w' L B):=h.out.move (fun _ _ hp _ => hb.block _ (u_ hp h.out.le)) hb.size
instance apY:iT w w' (jJ P w L B) (jJ P w' L B):=⟨fun hb h => (nB (hiQ h) hb).out⟩
instance apZ:jI w w' g' (jJ P w L B) (jJ P w' L B) (B<=g'\/g' < L):=⟨fun e hn h => h.move (fun k hl hk _ => e.blk k (by omega)) e.sz⟩
theorem nT (h:Hid (jJ P W L B)) (K:cZ W gr W') (hg:gr < L):Hid (jJ P W' L B) :=
 h.out.move (fun k hl hk hn => K.block k (by omega) (u_ hk h.out.le) hn) K.size
theorem lK (h:Hid (Has W g T cs)) (K:cZ W gr W') (hg:gr < g) (hT:T≠3):Hid (Has W' g T cs) :=
 (K.block g hg h.out.here (fun c f e => by
  have h1:W.heap[g]?=some (.cells cs T (0,0)):=h.out;rw [h1] at e;injection e with e1;injection e1 with _ e2;exact hT e2)).trans h.out
theorem kB (K:cZ w gr W) (hgr:gr < w.heap.size) (hb:Below W.heap.size W W'):cZ w gr W':=K.above hb K.size (Qy (u_ hgr K.size))
theorem kS (K:cZ w gr W) (hgr:gr < w.heap.size) (hE:W'=W.setCell ⟨g,i,none⟩ v) (hg:w.heap.size<=g):cZ w gr W':=by
 rw [hE];exact K.above (jS (g_ g W) (b_ _) i v) hg (by omega)
theorem vU (K:cZ w gr W) (hgr:gr < w.heap.size) (hE:W'=W.setRow g cs) (hg:w.heap.size<=g):cZ w gr W':=by
 rw [hE];exact K.above (below_setRow (g_ g W) (b_ _) cs) hg (by omega)
theorem lC.here (R:lC W gr tv fp fn path):gr < W.heap.size:=by obtain ⟨pv,h,_⟩:=R.row;exact h.here
theorem rB {q:Option (List Int)} (R:Hid (nS W gr tv fp fn path q)) (hb:Below W.heap.size W W'):Hid (nS W' gr tv fp fn path q):=by
 obtain ⟨⟨pv,h1,h2⟩,h3⟩:=R.out;exact ⟨⟨pv,(hb.block gr h1.here).trans h1,own_below h2 hb⟩,fun p hp => own_below (h3 p hp) hb⟩
theorem Iw {q:Option (List Int)} (R:nS W gr tv fp fn path q) (hH:Has W g T cs) (hT:T≠3) (hg:g≠gr) (hk:∀ k,k≠g->W'.heap[k]?=W.heap[k]?):nS W' gr tv fp fn path q:=by
 obtain ⟨⟨pv,h1,h2⟩,h3⟩:=R;exact ⟨⟨pv,(hk gr (Ne.symm hg)).trans h1,qo h2 fun k hb => hk k (fun e => wV h2 hH hT (e ▸ hb))⟩,fun p hp => qo (h3 p hp) fun k hb => hk k (fun e => wV (h3 p hp) hH hT (e ▸ hb))⟩
theorem rF {q:Option (List Int)} (R:Hid (nS W gr tv fp fn path q)) (hH:Hid (Has W g T cs)) (hE:W'=W.setCell ⟨g,i,none⟩ v) (hT:T≠3) (hg:g≠gr):Hid (nS W' gr tv fp fn path q) :=
 Iw R.out hH.out hT hg fun k hk => by rw [hE];exact Below.heap_setCell W ⟨g,i,none⟩ v k hk
theorem rR {q:Option (List Int)} (R:Hid (nS W gr tv fp fn path q)) (hH:Hid (Has W g T cs)) (hE:W'=W.setRow g cs') (hT:T≠3) (hg:g≠gr):Hid (nS W' gr tv fp fn path q) :=
 Iw R.out hH.out hT hg fun k hk => by rw [hE];exact setRow_other _ _ _ _ hk
theorem lC.cells (R:lC W gr tv fp fn path):∃ (A:Option Addr) (c:Nat),path.length<=c/\W.cell? ⟨gr,0,none⟩=some tv/\W.cell? ⟨gr,1,none⟩=some (.slice A path.length c)/\W.cell? ⟨gr,2,none⟩=some fp/\W.cell? ⟨gr,3,none⟩=some (.int .i64 fn):=by
 obtain ⟨pv,h1,h2⟩:=R.row;obtain ⟨A,c,rfl,hc⟩:=(Rd.uX h2).form;exact ⟨A,c,hc,h1.cell 0,h1.cell 1,h1.cell 2,h1.cell 3⟩
end
def ai3:mX->Option (List Int)
 | .ok _ => none
 | .error (p,_) => some p
theorem eu.tail {gr g:Nat} {tv:Value} {path:List Int} {w W1 W2:World} {r:mX} {e:Ending} {T:TypeId} {cs cs':Array Value} (h:eu gr tv path W1 r e W2) (K:cZ w gr W1) (hgr:gr < w.heap.size) (hg:w.heap.size<=g) (hg1:g < W1.heap.size) (hH:Has W2 g T cs) (hT:T≠3) :
  eu gr tv path w r e (W2.setRow g cs'):=by
 obtain ⟨fp,fn,R,K2,h⟩:=h;have hk:∀ k,k≠g->(W2.setRow g cs').heap[k]?=W2.heap[k]?:=fun k hk => setRow_other _ _ _ _ hk;refine ⟨fp,fn,(Iw (nS.of R) hH hT (by omega) hk).at_,vU (K.trans K2) hgr rfl hg,?_⟩;cases r with
 | ok v =>
  obtain ⟨vk,vi,vr,he,hv⟩:=h;refine ⟨vk,vi,vr,he,hv.keep (fun p hp => D_ (hk p.block (by have:=hp.1;omega))) (fun b hb => ?_)⟩;have hbg:b≠g:=by have:=hb.1;omega
  refine ⟨Jh K.size hb.1,by rw [setRow_size];exact hb.2.1,fun c f e => hb.2.2 c f ((hk b hbg).symm.trans e)⟩
 | error q =>
  obtain ⟨p,n⟩:=q;obtain ⟨h1,h2,h3⟩:=h;exact ⟨h1,qo h2 fun k hb => hk k (fun e => wV h2 hH hT (e ▸ hb)),h3⟩
theorem eu.keep {gr:Nat} {tv:Value} {path:List Int} {w w':World} {r:mX} {e:Ending} (h:eu gr tv path w r e w'):cZ w gr w':=by
 obtain ⟨_,_,_,K,_⟩:=h;exact K
theorem eu.good {gr:Nat} {tv fp:Value} {fn:Int} {path:List Int} {w W:World} {r:mX} {v:Val} {vk vi vr:Value} {q:Option (List Int)} (hr:r = .ok v) (R:Hid (nS W gr tv fp fn path q)) (K:cZ w gr W) (hv:jq W (sQ w W) v vk vi vr) :
  eu gr tv path w r (.returned (.tuple #[aS v vk vi vr,.bool true])) W:=by
 subst hr;exact ⟨fp,fn,R.out.at_,K,vk,vi,vr,rfl,hv⟩
theorem qB (W:World) (S:Nat->Prop) (k:Int) (b:Bool) (n:Int) (s:List UInt8) (id:Int) (hk:I64 k) (hn:I64 n) (hi:I64 id) (hs:s.length<=140737488351232):jq W S (.mk k b n s id [] [] []) (.slice none 0 0) (.slice none 0 0) (.slice none 0 0) :=
 ⟨⟨hk,hn,hi⟩,hs,by simp [Val.keys,Val.items,Val.rest],by simp [Val.rest],⟨fun _ => [],⟨none,0,rfl,b_ _,.inl rfl⟩,fun i h => by simp [Val.keys] at h⟩,⟨fun _ => [],⟨none,0,rfl,b_ _,.inl rfl⟩,fun i h => by simp [Val.items] at h⟩,by simp [Val.rest,jO],none,0,rfl,b_ _,.inl rfl⟩
theorem eu.bad {gr:Nat} {tv fp:Value} {fn:Int} {path:List Int} {w W:World} {r:mX} {p:List Int} {n:Int} {c0 c1 c2 c3 c4 c5 c6 c7:Value} (hr:r = .error (p,n)) (R:Hid (nS W gr tv fp fn path (some p))) (K:cZ w gr W) (hf:fn=n) (h1:∀ u ∈ [c0,c1,c2,c3,c4,c5,c6,c7],u.oneCell'=true) :
  eu gr tv path w r (.returned (.tuple #[.agg #[c0,c1,c2,c3,c4,c5,c6,c7],.bool false])) W:=by
 subst hr;exact ⟨fp,fn,R.out.at_,K,hf,R.out.fail p rfl,_,_,_,_,_,_,_,_,h1,rfl⟩
def yh (L B:Nat) (v:Val) (vk vi vr:Value) (W:World):Prop := ∃ S:Nat->Prop,jq W S v vk vi vr/\∀ k,S k->L<=k/\k < B/\jQ W k
theorem jQ.to {w w':World} {k:Nat} (h:w'.heap[k]?=w.heap[k]?) (h':jQ w k):jQ w' k:=fun c f e => h' c f (h.symm.trans e)
theorem yh.kept {L B:Nat} {v:Val} {vk vi vr:Value} {W:World} (h:yh L B v vk vi vr W) (hB:B<=W.heap.size):jJ (yh L B v vk vi vr) W L B :=
 ⟨h,fun w' hk => by
  obtain ⟨S,h1,h2⟩:=h;have hs:∀ k,S k->w'.heap[k]?=W.heap[k]?:=fun k hS => hk k (h2 k hS).1 (h2 k hS).2.1 (h2 k hS).2.2;exact ⟨S,h1.keep (fun p hp => D_ (hs p.block hp)) (fun _ h => h),fun k hS => ⟨(h2 k hS).1,(h2 k hS).2.1,jQ.to (hs k hS) (h2 k hS).2.2⟩⟩,hB⟩
theorem yh.akl {L B:Nat} {v:Val} {vk vi vr:Value} {w W:World} (h:yh L B v vk vi vr W) (hL:w.heap.size<=L) (hB:B<=W.heap.size):jq W (sQ w W) v vk vi vr:=by
 obtain ⟨S,h1,h2⟩:=h;exact h1.keep (fun _ _ => rfl) fun k hS => ⟨Jh hL (h2 k hS).1,u_ (h2 k hS).2.1 hB,(h2 k hS).2.2⟩
def agf (L B:Nat) (r:mX) (fn:Int) (c:List Value) (bb:Bool) (W:World):Prop:=match r with
 | .ok v => bb=true/\∃ vk vi vr,c=oD v vk vi vr/\yh L B v vk vi vr W
 | .error (_,n) => bb=false/\fn=n
theorem eu.take {gr:Nat} {tv:Value} {path:List Int} {w W:World} {r:mX} {e:Ending} (h:eu gr tv path w r e W) :
  ∃ (fp:Value) (fn:Int) (c0 c1 c2 c3 c4 c5 c6 c7:Value) (bb:Bool),(∀ u ∈ [c0,c1,c2,c3,c4,c5,c6,c7],u.oneCell'=true)/\e = .returned (.tuple #[.agg #[c0,c1,c2,c3,c4,c5,c6,c7],.bool bb]) /\
   nS W gr tv fp fn path (ai3 r)/\cZ w gr W/\jJ (agf w.heap.size W.heap.size r fn [c0,c1,c2,c3,c4,c5,c6,c7] bb) W w.heap.size W.heap.size:=by
 obtain ⟨fp,fn,R,K,h⟩:=h;cases r with
 | ok v =>
  obtain ⟨vk,vi,vr,rfl,hv⟩:=h;obtain ⟨ck,hk,_⟩:=hv.keys;obtain ⟨ci,hi,_⟩:=hv.items;have hN:yh w.heap.size W.heap.size v vk vi vr W:=⟨sQ w W,hv,fun k h => h⟩
  refine ⟨fp,fn,_,_,_,_,_,_,_,_,true,by simp [Value.oneCell'];exact ⟨hk.one,hi.one,hv.rest.one⟩,rfl,nS.of R,K,⟨⟨rfl,vk,vi,vr,rfl,hN⟩,fun w' hs => ⟨rfl,vk,vi,vr,rfl,(hN.kept (b_ _)).st w' hs⟩,b_ _⟩⟩
 | error q =>
  obtain ⟨p,n⟩:=q;obtain ⟨hf,hO,c0,c1,c2,c3,c4,c5,c6,c7,h1,rfl⟩:=h;exact ⟨fp,fn,c0,c1,c2,c3,c4,c5,c6,c7,false,h1,rfl,⟨R,fun p' hp => by injection hp with hp;subst hp;exact hO⟩,K,⟨⟨rfl,hf⟩,fun _ _ => ⟨rfl,hf⟩,b_ _⟩⟩
theorem YT {w W:World} {G:Nat} {T:TypeId} {cs:Array Value} (h:Has W G T cs) (hT:T≠3) (hG:w.heap.size<=G):sQ w W G :=
 ⟨hG,h.here,fun c f e => by
  have h1:W.heap[G]?=some (.cells cs T (0,0)):=h;rw [h1] at e;injection e with e1;injection e1 with _ e2;exact hT e2⟩
theorem Wx {w W:World} {L B G:Nat} {k id:Int} {v:Val} {vk vi vr:Value} {T:TypeId} (h:yh L B v vk vi vr W) (hL:w.heap.size<=L) (hB:B<=W.heap.size) (hG:Has W G T (oD v vk vi vr).toArray) (hT:T≠3) (hwG:w.heap.size<=G) (hk:I64 k) (hi:I64 id) :
  jq W (sQ w W) (.mk k false 0 [] id [] [v] []) (.slice none 0 0) (.slice (some ⟨G,0,none⟩) 1 1) (.slice none 0 0):=by
 have h1:=(h.akl hL hB).rd;refine ⟨⟨hk,by simp [I64,Val.num],hi⟩,by simp [Val.str],by simp [Val.keys,Val.items,Val.rest],by simp [Val.rest],⟨fun _ => [],⟨none,0,rfl,b_ _,.inl rfl⟩,fun i h => by simp [Val.keys] at h⟩,⟨fun _ => oD v vk vi vr,⟨_,1,rfl,b_ _,.inr ⟨G,0,rfl,YT hG hT hwG,fun i hi j u hu => ?_⟩⟩,fun i hi => ?_⟩,by simp [Val.rest,jO],none,0,rfl,b_ _,.inl rfl⟩
 .
  have h0:i=0:=by simp [Val.items] at hi;omega
  subst h0;have:=hG.cell j;rw [show (0+0*8+j)=j by omega,this];simpa using hu
 have h0:i=0:=by simp [Val.items] at hi;omega
 subst h0;exact h1
theorem aew {w W:World} {G:Nat} {k id:Int} {d:List UInt8} {T:TypeId} (hG:Has W G T #[.int .i64 id,.string ⟨d.toArray⟩]) (hT:T≠3) (hwG:w.heap.size<=G) (hk:I64 k) (hi:I64 id) (hd:d.length<=140737488351232) :
  jq W (sQ w W) (.mk k false 0 [] id [] [] [(id,d)]) (.slice none 0 0) (.slice none 0 0) (.slice (some ⟨G,0,none⟩) 1 1):=by
 refine ⟨⟨hk,by simp [I64,Val.num],hi⟩,by simp [Val.str],by simp [Val.keys,Val.items,Val.rest],fun r hr => by simp [Val.rest] at hr;subst hr;exact ⟨hi,hd⟩,⟨fun _ => [],⟨none,0,rfl,b_ _,.inl rfl⟩,fun i h => by simp [Val.keys] at h⟩,⟨fun _ => [],⟨none,0,rfl,b_ _,.inl rfl⟩,fun i h => by simp [Val.items] at h⟩,by simp [Val.rest,jO,Kw],_,1,rfl,b_ _,.inr ⟨G,0,rfl,YT hG hT hwG,fun j u hu => ?_⟩⟩;have:=hG.cell j;rw [show 0+j=j by omega,this];simpa [Val.rest,jO,Kw] using hu
theorem ag6 {w w':World} {k:Nat} (h:w'.heap[k]?=w.heap[k]?) (hk:k < w.heap.size):k < w'.heap.size:=by
 rcases QC k w'.heap.size with h1 | h1
 . exact h1
 rw [Array.getElem?_eq_none h1,Array.getElem?_eq_getElem hk] at h;cases h
theorem Fh {W:World} {base n size k:Nat} {e:TypeId} {v:Value} {xs:List Value} (h:W.ownsRow base e size v n xs) (he:e≠3) (hk:v.ownBlock=some k):jQ W k:=by
 rcases h.2 with ⟨rfl,_⟩ | ⟨g,cap,cur,rfl,_,hh,_⟩
 . simp [Value.ownBlock] at hk
 simp only [Value.ownBlock,R_] at hk;subst hk;intro c f e2;rw [hh] at e2;injection e2 with e3;injection e3 with _ e4;exact he e4
theorem jJ.own {w:World} {base n size:Nat} {e:TypeId} {v:Value} {xs:List Value} (h:w.ownsRow base e size v n xs) (he:e≠3):jJ (fun w => w.ownsRow base e size v n xs) w base w.heap.size :=
 ⟨h,fun _ hk => qo h fun k hb => hk k (h.lt k hb).1 (h.lt k hb).2 (Fh h he hb),b_ _⟩
def oJ (L:Nat) (v:Value) (xs:List Val) (W:World):Prop := ∃ S:Nat->Prop,aG W L S v xs/\∀ k,S k->L<=k/\jQ W k
theorem oJ.nil (L:Nat) (W:World):oJ L (.slice none 0 0) [] W:=⟨_,aG.nil W L,fun _ h => h.elim⟩
theorem aG.IG {W:World} {L k:Nat} {S:Nat->Prop} {v:Value} {xs:List Val} (h:aG W L S v xs) (hk:v.ownBlock=some k):jQ W k:=by
 obtain ⟨⟨cs,h1,_⟩,_⟩:=h;exact Fh h1 (by decide) hk
theorem oJ.kept {L:Nat} {v:Value} {xs:List Val} {W:World} (h:oJ L v xs W):jJ (oJ L v xs) W L W.heap.size:=⟨h,fun w' hk => by
 obtain ⟨S,h1,h2⟩:=h;have hS:∀ k,S k->w'.heap[k]?=W.heap[k]?:=fun k hs => hk k (h2 k hs).1 (h1.sep k hs).1 (h2 k hs).2;have hO:∀ k,v.ownBlock=some k->w'.heap[k]?=W.heap[k]?:=fun k ho => hk k (h1.lt k ho).1 (h1.lt k ho).2 (h1.IG ho);obtain ⟨⟨cs,h3,h4⟩,h5⟩:=h1;exact ⟨S,⟨⟨cs,qo h3 hO,fun i hi => (h4 i hi).keep (fun p hp => D_ (hS p.block hp)) (fun _ h => h)⟩,fun k hs => ⟨ag6 (hS k hs) (h5 k hs).1,(h5 k hs).2⟩⟩,fun k hs => ⟨(h2 k hs).1,jQ.to (hS k hs) (h2 k hs).2⟩⟩,b_ _⟩
theorem oJ.lt {L:Nat} {v:Value} {xs:List Val} {W:World} (h:oJ L v xs W):∀ k,v.ownBlock=some k->L<=k/\k < W.heap.size/\jQ W k:=fun k hk => by
 obtain ⟨S,h1,_⟩:=h;exact ⟨(h1.lt k hk).1,(h1.lt k hk).2,h1.IG hk⟩
theorem oJ.form {L:Nat} {v:Value} {xs:List Val} {W:World} (h:oJ L v xs W):∃ A c,v = .slice A xs.length c:=by
 obtain ⟨S,h1,_⟩:=h;exact h1.form
theorem oJ.row {L:Nat} {v:Value} {xs:List Val} {w W:World} (h:oJ L v xs W) (hL:w.heap.size<=L):lM W (sQ w W) v xs:=by
 obtain ⟨S,h1,h2⟩:=h;exact h1.row.keep (fun _ _ => rfl) fun k hk => hk.elim (fun hs => ⟨Jh hL (h2 k hs).1,(h1.sep k hs).1,(h2 k hs).2⟩) (fun ho => ⟨Jh hL (h1.lt k ho).1,(h1.lt k ho).2,h1.IG ho⟩)
theorem Tv {w W:World} {k id:Int} {L1 L2:Nat} {ks is:List Val} {vk vi:Value} (h1:lM W (sQ w W) vk ks) (h2:lM W (sQ w W) vi is) (hk:I64 k) (hi:I64 id) (hl1:ks.length<=L1) (hl2:is.length<=L2) (hL1:L1<=1172812402926) (hL2:L2<=1172812402926) :
  jq W (sQ w W) (.mk k false 0 [] id ks is []) vk vi (.slice none 0 0) :=
 ⟨⟨hk,by simp [I64,Val.num],hi⟩,by simp [Val.str],⟨Jh hl1 hL1,Jh hl2 hL2,by simp [Val.rest]⟩,by simp [Val.rest],h1,h2,by simp [Val.rest,jO],none,0,rfl,b_ _,.inl rfl⟩
theorem Qj (W:World) (S:Nat->Prop):lM W S (.slice none 0 0) []:=⟨fun _ => [],⟨none,0,rfl,b_ _,.inl rfl⟩,fun i h => by simp at h⟩
theorem wX {ops:Array Oper} {rest:List Oper} {op:Oper} {a:Act} {w:World} {Q:Exit->Act->World->Prop} (hgd:op.guard=none) (s x:Operand)
  (ho:op.op = .call { callee:=.builtin .append,args:=#[s,x],argTypes:=#[31,31] }) {L Lp Bp:Nat} {v:Value} {xs:List Val} {y:Val} {vk vi vr:Value} {T:TypeId} {cs:Array Value} (hT:T=34) (hcs:cs=(oD y vk vi vr).toArray)
  (ht:oJ L v xs w) (hs:a.eval s=v) (hx:a.eval x = .slice (some ⟨w.heap.size,0,none⟩) 1 1) (hy:yh Lp Bp y vk vi vr w) (hyo:∀ k,v.ownBlock=some k->k < Lp) (hBp:Bp<=w.heap.size) (hLp:L<=Lp)
  (hn:xs.length < 900000) (hB:L<=w.heap.size)
  (h:∀ v' w1,oJ L v' (xs ++ [y]) w1->Below L w w1->(∀ k,k < w.heap.size->v.ownBlock≠some k->w1.heap[k]?=w.heap[k]?)->wpList Tryz.prog ops Q rest (a.put op.dst v') w1):wpList Tryz.prog ops Q (op :: rest) a (w.alloc (.cells cs T)):=by
 subst hT;subst hcs;obtain ⟨S,hO,hS⟩:=ht;obtain ⟨Sy,hY,Gu⟩:=hy;have hal:∀ k,k < w.heap.size->(w.alloc (.cells (oD y vk vi vr).toArray 34)).heap[k]?=w.heap[k]?:=fun k hk => (aB (w:=w) rfl).block k hk;have hG:Has (w.alloc (.cells (oD y vk vi vr).toArray 34)) w.heap.size 34 (oD y vk vi vr).toArray:=Has.made _ _ _;have aI:aG (w.alloc (.cells (oD y vk vi vr).toArray 34)) L S v xs:=hO.keep (fun k hk _ => hal k hk) (by simp);have hY1:lD (w.alloc (.cells (oD y vk vi vr).toArray 34)) Sy y (oD y vk vi vr).toArray.toList:=hY.rd.keep (fun p hp => D_ (hal p.block (u_ (Gu _ hp).2.1 hBp))) (fun _ h => h);rw [wpList];have hw:Region.wanted op (yielded ops a.tmps)=true:=by simp [Region.wanted,hgd]
 rw [o_ hw]
 left
 suffices hh:(if Region.wanted op (yielded ops a.tmps)=true then Oper.wp Tryz.prog op a (w.alloc (.cells (oD y vk vi vr).toArray 34)) (wpList Tryz.prog ops Q rest) Q else True) by rwa [o_ hw] at hh
 refine eU (ops:=ops) hgd s x ho aI hs hG hx hY1 (fun k hk => ⟨by have:=(Gu k hk).2.1;simp;omega,fun e => by have:=hyo k e;have:=(Gu k hk).1;omega⟩) hn (by simp;omega) ?_;intro v' w1 h1 _ h3 h4;refine h v' w1 ⟨_,h1,fun k hk => ?_⟩ ((aB (w:=w) rfl).mono hB |>.trans h3) (fun k hk hne => (h4 k (by simp;omega) hne).trans (hal k hk));have hkw:k < w.heap.size/\v.ownBlock≠some k/\L<=k/\jQ w k:=hk.elim (fun hs => ⟨(hO.sep k hs).1,(hO.sep k hs).2,(hS k hs).1,(hS k hs).2⟩) (fun hs => ⟨by have:=(Gu k hs).2.1;omega,fun e => by have:=hyo k e;have:=(Gu k hs).1;omega,by have:=(Gu k hs).1;omega,(Gu k hs).2.2⟩);exact ⟨hkw.2.2.1,jQ.to ((h4 k (by simp;omega) hkw.2.1).trans (hal k hkw.1)) hkw.2.2.2⟩
section
variable {w W W':World} {gr L B:Nat} {P:World->Prop} {tv fp:Value} {fn:Int} {path:List Int} {row:Option Nat}
theorem rG {q:Option (List Int)} (R:Hid (nS W gr tv fp fn path q)) (hk:∀ k,k < W.heap.size->row≠some k->W'.heap[k]?=W.heap[k]?) (hn:∀ k,row=some k->gr < k/\jQ W k):Hid (nS W' gr tv fp fn path q):=by
 have ho:∀ (b:Nat) (v:Value) (n:Nat) (xs:List Value),W.ownsRow (gr+1) 3 1 v n xs->v.ownBlock=some b->row≠some b:=fun b v n xs h hb e => by
  rcases h.2 with ⟨rfl,_⟩ | ⟨g,cap,cur,rfl,_,hh,_⟩
  . simp [Value.ownBlock] at hb
  simp only [Value.ownBlock,R_] at hb;subst hb;exact (hn _ e).2 _ _ hh
 obtain ⟨⟨pv,h1,h2⟩,h3⟩:=R.out;exact ⟨⟨pv,(hk gr h1.here (fun e => by have:=(hn _ e).1;omega)).trans h1,qo h2 fun k hb => hk k (h2.lt k hb).2 (ho k _ _ _ h2 hb)⟩,fun p hp => qo (h3 p hp) fun k hb => hk k ((h3 p hp).lt k hb).2 (ho k _ _ _ (h3 p hp) hb)⟩
theorem nG (h:Hid (jJ P W L B)) (hk:∀ k,k < W.heap.size->row≠some k->W'.heap[k]?=W.heap[k]?) (hn:∀ k,row=some k->B<=k) (hs:W.heap.size<=W'.heap.size):Hid (jJ P W' L B) :=
 h.out.move (fun k _ h2 _ => hk k (u_ h2 h.out.le) (fun e => by have:=hn k e;omega)) hs
end
structure Qk (wx:World) (gr:Nat) (tv:Value) (path:List Int) (r:mX) (lo:Nat) (s1 s2:Value):Prop where
 ex:∃ (gI:Nat) (fp:Value) (fn:Int) (c0 c1 c2 c3 c4 c5 c6 c7:Value) (bb:Bool) (L B:Nat),s1 = .pointer (some ⟨gI,0,none⟩)/\s2 = .bool bb/\(∀ u ∈ [c0,c1,c2,c3,c4,c5,c6,c7],u.oneCell'=true)/\Has wx gI 34 #[c0,c1,c2,c3,c4,c5,c6,c7] /\
  nS wx gr tv fp fn path (ai3 r)/\jJ (agf L B r fn [c0,c1,c2,c3,c4,c5,c6,c7] bb) wx L B/\lo < L/\lo < gI/\(gI < L\/B<=gI)
theorem acu (gr:Nat) (tv fp:Value) (fn:Int) (path:List Int) (s t:Int) (p:List UInt8) (r:mX) (w:World) (hp:path.length<=1000) (hR:lC w gr tv fp fn path)
  (Wy:∀ (W:World) (fp':Value) (fn':Int),cZ w gr W->lC W gr tv fp' fn' (path ++ [s])->Calls Tryz.prog 50 #[.pointer (some ⟨gr,0,none⟩),.int .i64 t,.string ⟨p.toArray⟩] W (eu gr tv (path ++ [s]) W r)) :
  Calls Tryz.prog 79 #[.pointer (some ⟨gr,0,none⟩),.int .i64 s,.int .i64 t,.string ⟨p.toArray⟩] w (eu gr tv path w r):=by
 obtain ⟨pv,hrow,hown⟩:=hR.row;have hgr:=hrow.here;have HO:=hiQ hown;have HP:=hiQ Wy;clear hR hown Wy;replace hrow:=hiQ hrow;go_enter Tryz.func79,Tryz.ntmps79
 go_upto_region 1 with fail;refine aO (fun wd2 hb1 Z => ?_);replace hrow:=b1 hrow hb1;have hw3:=hb1;clear hb1;have NQ:=hrow.out.e0;have uJ:=hrow.out.e1;have hown1:=own_below HO.out hw3;have hs1:=(hw3).size;have hlt:=HO.out.lt;go_upto_region 2 with (at_builtin;refine fA rfl _ _ _ rfl (gr+1) 3 _ 1 8 Tryz.underlying57 oP rfl (by decide) pv path.length (path.map zq) rfl hown1 [_] _ 1 _ rfl rfl rfl (by simp [Value.oneCell']) (by omega) (by omega) (by omega) ?_;intro g2 cap2 w3 hown3 hg3 RQ hb3;have R3:Hid (Has w3 gr 111 #[tv,pv,fp,.int .i64 fn]):=hiQ ((hb3.block gr (by omega)).trans hrow.out);have r3:w3.cell? ⟨gr,1,none⟩=some pv:=R3.out.cell 1;have r4:=R3.out.free 1;clear NQ uJ)
 have hzw:wd2.heap[w.heap.size]?=some (.cells #[.int .i64 0,.bool false,.int .i64 0,.string ⟨#[]⟩,.int .i64 0,.slice none 0 0,.slice none 0 0,.slice none 0 0] 34 (0,0)):=Z.out;have hz2:=Z.out.here;have Ka:cZ wd2 gr (wd2.alloc (.cells #[.int .i64 s] 3)):=cZ.of_below ((g_ _ _).alloc (b_ _) _) (by omega);have K3:cZ w gr w3:=(cZ.of_below hw3 (Qy hgr)).trans (Ka.trans (cZ.grown hg3 (hown1.alloc _) (MX gr) (by simp;omega)));have Z3:Hid (Has w3 w.heap.size 34 #[.int .i64 0,.bool false,.int .i64 0,.string ⟨#[]⟩,.int .i64 0,.slice none 0 0,.slice none 0 0,.slice none 0 0]) :=
  hiQ ((hg3.block w.heap.size (by simp;omega) (fun e => by have:=hlt _ e.symm;omega)).trans ((Z.out.alloc _)))
 obtain ⟨w4,hE⟩ : ∃ ww,ww=w3.setCell ⟨gr,1,none⟩ (.slice (some ⟨g2,0,none⟩) (path.length+1) cap2):=⟨_,rfl⟩
 rw [<- hE];have K4:cZ w gr w4:=hE ▸ K3.trans (cZ.setCell _ _ _ _);have O4:=vP hown3 (MX gr) 1 (.slice (some ⟨g2,0,none⟩) (path.length+1) cap2);rw [<- hE] at O4;have Z4:=dF Z3 hE (show w.heap.size≠gr by omega);have R4:Has w4 gr 111 #[tv,.slice (some ⟨g2,0,none⟩) (path.length+1) cap2,fp,.int .i64 fn]:=by simpa using dS R3 hE
 have HC:=hiQ (HP.out w4 fp fn K4 ⟨_,R4,by simpa [zq] using O4⟩);clear hE Z3 R3 r3 r4 K3 Ka hg3 hb3 hown3 hown1 hzw Z hrow;go_wp2_with fail;refine HC.out.mono ?_;intro e w5 h5;obtain ⟨c0,c1,c2,c3,c4,c5,c6,c7,bb,h1,rfl⟩:=h5.form;obtain ⟨fp',fn',⟨pv5,TD,TF⟩,K5,h5'⟩:=h5;have H5:=hiQ h5';clear h5' HC;have M5:=Has.made w5 34 #[.int .i64 0,.bool false,.int .i64 0,.string ⟨#[]⟩,.int .i64 0,.slice none 0 0,.slice none 0 0,.slice none 0 0];have h1':(#[c0,c1,c2,c3,c4,c5,c6,c7] : Array Value).all (·.oneCell')=true:=by simpa using h1
 go_upto_region 3 with (refine yH rfl 34 _ _ rfl w5.heap.size _ rfl rfl 34 _ M5 (by kernel_rfl) rfl h1' ?_)
 obtain ⟨w6,Gv⟩ : ∃ ww,ww=(w5.alloc (.cells #[.int .i64 0,.bool false,.int .i64 0,.string ⟨#[]⟩,.int .i64 0,.slice none 0 0,.slice none 0 0,.slice none 0 0] 34)).setRow w5.heap.size #[c0,c1,c2,c3,c4,c5,c6,c7]:=⟨_,rfl⟩
 rw [<- Gv];have hs5:=K5.size;have hs4:=K4.size;have B6:Below w5.heap.size w5 w6:=Gv ▸ below_setRow ((g_ w5.heap.size w5).alloc (b_ _) _) (b_ _) _;have M6:=dO (hiQ M5) Gv;have R6:Has w6 gr _ _:=(B6.block gr (by omega)).trans TD;have O6:=own_below TF B6;rw [h_,Qw] at O6;obtain ⟨g6,cap6,rfl,hcap,TG⟩:=RU O6 (by simp);have r1:w6.cell? ⟨gr,1,none⟩=some (.slice (some ⟨g6,0,none⟩) (path.length+1) cap6):=R6.cell 1;have r2:=R6.free 1;clear Gv M5;have i1:wrap64 (((path.length+1:Nat):Int) - 1)=(path.length:Int):=by unfold wrap64;omega
 have i2:((path.length:Int)).toNat=path.length:=by omega
 have i3:¬ ((path.length:Int) < 0):=by omega
 have i4:path.length<=cap6:=by omega
 clear O6 hcap;go_region
 obtain ⟨w7,mP⟩ : ∃ ww,ww=(w6.setCell ⟨gr,1,none⟩ (.slice (some ⟨g6,0,none⟩) path.length cap6)).drew:=⟨_,rfl⟩
 rw [<- mP];have hz4:=Z4.out.here;have Z6:Hid (Has w6 w.heap.size _ _):=hiQ ((B6.block w.heap.size (by omega)).trans ((K5.block w.heap.size hgr (by omega) (fun c f e => by rw [Z4.out] at e;injection e with e1;injection e1 with _ e2;exact absurd e2 (by decide))).trans Z4.out));have M7:Has w7 w5.heap.size 34 #[c0,c1,c2,c3,c4,c5,c6,c7]:=by rw [mP];exact (dF M6 rfl (show w5.heap.size≠gr by omega)).out
 have Z7:Has w7 w.heap.size 34 #[.int .i64 0,.bool false,.int .i64 0,.string ⟨#[]⟩,.int .i64 0,.slice none 0 0,.slice none 0 0,.slice none 0 0]:=by rw [mP];exact (dF Z6 rfl (show w.heap.size≠gr by omega)).out
 have gB6:gr < w5.heap.size:=by omega
 have K6:cZ w gr w6:=K4.trans (K5.trans (cZ.of_below B6 (by omega)));have K7:cZ w gr w7:=by rw [mP];exact (K6.trans (cZ.setCell _ _ _ _)).drew
 have K57:cZ w5 gr w7:=by rw [mP];exact ((cZ.of_below B6 (Qy gB6)).trans (cZ.setCell _ _ _ _)).drew
 have R7:Has w7 gr 111 #[tv,.slice (some ⟨g6,0,none⟩) path.length cap6,fp',.int .i64 fn']:=by rw [mP];exact (dS (hiQ R6) (i:=1) (v:=.slice (some ⟨g6,0,none⟩) path.length cap6) rfl).drew
 have O7:w7.ownsRow (gr+1) 3 1 (.slice (some ⟨g6,0,none⟩) path.length cap6) path.length (path.map zq):=by rw [mP];exact vP TG (MX gr) 1 _
 have F7:∀ n ys,w5.ownsRow (gr+1) 3 1 fp' n ys->w7.ownsRow (gr+1) 3 1 fp' n ys:=fun n ys hy => by rw [mP];exact vP (own_below hy B6) (MX gr) 1 _
 obtain ⟨m0,m1,m2,m3,m4,m5,m6,m7⟩:=M7.c8;have HR8:Hid (∀ cs',lC (w7.setRow w.heap.size cs') gr tv fp' fn' path):=hiQ fun cs' => (Iw (nS.of ⟨_,R7,O7⟩) Z7 (by decide) (by omega) fun k hk => setRow_other _ _ _ _ hk).at_;have HF8:Hid (∀ n ys cs',w5.ownsRow (gr+1) 3 1 fp' n ys->(w7.setRow w.heap.size cs').ownsRow (gr+1) 3 1 fp' n ys):=hiQ fun n ys cs' hy => qo (F7 n ys hy) fun k hb => setRow_other _ _ _ _ (fun e => wV (F7 n ys hy) Z7 (by decide) (e ▸ hb));have HN8:Hid (∀ cs' b,sQ w4 w5 b->(w7.setRow w.heap.size cs').heap[b]?=w5.heap[b]?/\sQ w (w7.setRow w.heap.size cs') b):=hiQ fun cs' b hb => by
  have h1:=hb.1;obtain ⟨e1,n1⟩:=hb.keep (by omega) K57;have e2:(w7.setRow w.heap.size cs').heap[b]?=w7.heap[b]?:=setRow_other _ _ _ _ (by omega);exact ⟨e2.trans e1,by omega,by rw [setRow_size];exact n1.2.1,fun c f e => n1.2.2 c f (e2.symm.trans e)⟩
 have TI:=hiQ Z7;have HK7:=hiQ K7;clear mP R7 O7 F7 r1 r2 i1 i2 i3 i4 M6 Z6 R6 B6 Z4 R4 TD TF TG O4 K6 Z7 M7 K57 K7 K4 K5;go_upto_region 4 with fail;go_wp2_with (refine yH rfl 34 _ _ rfl w.heap.size _ rfl rfl 34 _ TI.out (by kernel_rfl) rfl h1' ?_)
 obtain ⟨z0,z1,z2,z3,z4,z5,z6,z7⟩:=(kF TI.out #[c0,c1,c2,c3,c4,c5,c6,c7]).c8;refine vJ (v:=.tuple #[.agg #[c0,c1,c2,c3,c4,c5,c6,c7],.bool bb]) (by simp [results,Tryz.results79,go_sem,z0,z1,z2,z3,z4,z5,z6,z7]) rfl ?_;refine ⟨fp',fn',HR8.out _,vU HK7.out hgr rfl (b_ _),?_⟩;have H5:=H5.out;cases r with
 | ok v =>
  obtain ⟨vk,vi,vr,he,hv⟩:=H5;exact ⟨vk,vi,vr,he,hv.keep (fun p hp => D_ (HN8.out _ p.block hp).1) (fun b hb => (HN8.out _ b hb).2)⟩
 | error q =>
  obtain ⟨p,n⟩:=q;obtain ⟨h1,h2,h3⟩:=H5;exact ⟨h1,HF8.out _ _ _ h2,h3⟩
theorem YU {p:List UInt8} {q:List UInt8} (h:¬ p=q):¬ ({ data:=p.toArray } : ByteArray) = { data:=q.toArray }:=fun e => h (by injection e with e;simpa using congrArg Array.toList e)
theorem zBr {p:Prop} (h:p:=by
 obtain ⟨c0,c1,c2,c3,c4,c5,c6,c7,bb,h1',rfl⟩:=hp.form;have Z2:=lK Z hp.keep (by omega) (by decide);go_wp2_with (refine yH rfl 34 _ _ rfl w.heap.size _ rfl rfl 34 _ Z2.out (by kernel_rfl) rfl (by simpa using h1') ?_)
 obtain ⟨z0,z1,z2,z3,z4,z5,z6,z7⟩:=(kF Z2.out #[c0,c1,c2,c3,c4,c5,c6,c7]).c8;exact vJ (v:=.tuple #[.agg #[c0,c1,c2,c3,c4,c5,c6,c7],.bool bb]) (by simp [results,Tryz.results50,go_sem,z0,z1,z2,z3,z4,z5,z6,z7]) rfl (by rw [HR.out];exact hp.tail KP hgr (b_ _) hz Z2.out (by decide))):p:=h
theorem aex
 (ts:List ay) (A:Option Addr) (c n gr:Nat) (fp:Value) (fn:Int) (path:List Int) (p:List UInt8) (rec:Int->List UInt8->List Int->mX) (w:World) (hn:n < ts.length) (hk:ts[n].kind=1) (hp:path.length < 200) (hpl:p.length<=800000)
 (R:lC w gr (.slice A ts.length c) fp fn path) (ht:aU w gr (.slice A ts.length c) ts) :
 Calls Tryz.prog 50 #[.pointer (some ⟨gr,0,none⟩),.int .i64 n,.string ⟨p.toArray⟩] w (eu gr (.slice A ts.length c) path w (fH rec ts[n] p path)):=by
 obtain ⟨b,o,rfl,hbb,hel⟩:=ht.elem (by omega);obtain ⟨vs,vm,hcells,hx⟩:=hel n hn;clear hel;generalize ts[n]=x at *;obtain ⟨C1,l1,C2,l2,rfl,rfl,-,-⟩:=hx.forms;have hlt:(n:Int) < ts.length:=by omega
 have hd0:decide ((n:Int) < 0)=false:=by simp
 have hd1:decide (ts.length<=n)=false:=by simpa using hn
 have hlp:¬ (200:Int)<=path.length:=by omega
 have HX:=hiQ hx;have HT:=hiQ ht;have HC:=hiQ hcells;have mY:=hiQ hk;have hN:Hid (n < ts.length):=hiQ hn;have hxs:=hx.lens;clear hx ht hcells hn;have hgr:=R.here;replace R:=hiQ (nS.of R);have KP:=cZ.refl w gr;go_enter Tryz.func50,Tryz.ntmps50
 go_upto_region 1 with fail;refine aO (fun wd2 hb1 Z => ?_);replace R:=rB R hb1;replace KP:=kB KP hgr hb1;clear hb1;obtain ⟨Ap,cp,hcp,r0,r1,-,-⟩:=R.out.at_.cells;obtain ⟨c0,c1,c2,c3,c4,c5,c6,c7,c8,c9⟩:=HC.out.below KP.low hbb;rw [hk] at c0;go_upto_region 8 with fail;clear c0 c1 c2 c3 c4 c5 c6 c7 c8 c9 r0 r1 hd0 hd1 hlp hcp;refine jg (fun wd4 hb3 X V => ?_);have Ox:=Z.out.here;have nI:=KP.size;replace Z:=b1 Z hb3;replace R:=rB R hb3;replace KP:=kB KP hgr hb3;clear hb3;generalize wd2.heap.size=g5 at *;by_cases h1:p = [1]
 .
  subst h1;have dh:=V.out.e1;have JA:=V.out.free 1;go_upto_region 9 with fail;clear dh JA;generalize kJ:wd4.setCell _ _=qP;obtain ⟨Z,X⟩:=f2 Z X (eF kJ);replace R:=rF R V kJ.symm (by decide) (by omega);replace KP:=kS KP hgr kJ.symm (by omega);replace V:=yT V kJ;clear kJ;have dh:=V.out.e1;go_upto_region 44 with fail;obtain ⟨bK,-,dn,dI,bG,aQ,aP,dJ⟩:=V.out.c8;go_wp2_with (refine sR Z.out ?_)
  clear dh bK dn dI bG aQ aP dJ;generalize kQ:qP.setRow _ _=kL;obtain ⟨X,V⟩:=f2 X V (eR kQ);replace R:=rR R Z kQ.symm (by decide) (by omega);replace KP:=vU KP hgr kQ.symm (by omega);replace Z:=dV Z kQ;clear kQ;exact vJ (v:=.tuple #[.agg #[.int .i64 1,.bool true,.int .i64 0,.string ⟨#[]⟩,.int .i64 0,.slice none 0 0,.slice none 0 0,.slice none 0 0],.bool true]) (by simp [results,Tryz.results50,go_sem,Z.out.c8]) rfl (eu.good (v:=.mk 1 true 0 [] 0 [] [] []) (by simp [fH,mY.out]) R KP (qB _ _ _ _ _ _ _ (by unfold I64;omega) (by unfold I64;omega) (by unfold I64;omega) (by simp)))
 have h2:=YU h1;by_cases h0:p = []
 .
  subst h0;have dh:=V.out.e1;have JA:=V.out.free 1;go_upto_region 9 with fail;clear dh JA;generalize kJ:wd4.setCell _ _=qP;obtain ⟨Z,X⟩:=f2 Z X (eF kJ);replace R:=rF R V kJ.symm (by decide) (by omega);replace KP:=kS KP hgr kJ.symm (by omega);replace V:=yT V kJ;clear kJ;have dh:=V.out.e1;go_upto_region 44 with fail;obtain ⟨bK,-,dn,dI,bG,aQ,aP,dJ⟩:=V.out.c8;go_wp2_with (refine sR Z.out ?_)
  clear dh bK dn dI bG aQ aP dJ;generalize kQ:qP.setRow _ _=kL;obtain ⟨X,V⟩:=f2 X V (eR kQ);replace R:=rR R Z kQ.symm (by decide) (by omega);replace KP:=vU KP hgr kQ.symm (by omega);replace Z:=dV Z kQ;clear kQ;exact vJ (v:=.tuple #[.agg #[.int .i64 1,.bool false,.int .i64 0,.string ⟨#[]⟩,.int .i64 0,.slice none 0 0,.slice none 0 0,.slice none 0 0],.bool true]) (by simp [results,Tryz.results50,go_sem,Z.out.c8]) rfl (eu.good (v:=.mk 1 false 0 [] 0 [] [] []) (by simp [fH,mY.out]) R KP (qB _ _ _ _ _ _ _ (by unfold I64;omega) (by unfold I64;omega) (by unfold I64;omega) (by simp)))
 have h3:=YU h0;have h2b:(p == [1])=false:=by simpa using h1
 have h3b:(!p.isEmpty)=true:=by cases p with | nil => exact absurd rfl h0 | cons => rfl
 have HR:Hid (fH rec x p path = .error (path,1)):=by show _=_;simp [fH,mY.out,h0,h1]
 have dh:=V.out.e1;have JA:=V.out.free 1;go_upto_region 9 with fail;clear dh JA;generalize kJ:wd4.setCell _ _=qP;obtain ⟨Z,X⟩:=f2 Z X (eF kJ);replace R:=rF R V kJ.symm (by decide) (by omega);replace KP:=kS KP hgr kJ.symm (by omega);replace V:=yT V kJ;clear kJ;have dh:=V.out.e1;go_upto_region 10 with fail;have hz:=Z.out.here;go_wp2_with fail;clear dh;((with_reducible refine (kD gr _ _ _ path 1 _ (by omega) R.out.at_).mono ?_);rintro e kL hp);exact zBr
theorem Ui:∀ (l:List UInt8) (n k:Nat),n < 256 ^ k->Ci l n < 256 ^ (k+l.length)
 | [],n,k,h => h
 | b :: r,n,k,h => by
  have hb:=b.toNat_lt;have h1:n*256+b.toNat < 256 ^ (k+1):=by rw [T_];omega
  have:=Ui r _ _ h1;rw [Ci,z_,show k+(r.length+1)=k+1+r.length by omega];exact this
theorem acv (l:List UInt8):oV (jX l).1:=by
 unfold jX oV;split
 . decide
 split
 . decide
 have h:=Ui l 0 0 (by decide);have h8:256 ^ (0+l.length)<=256 ^ 8:=Nat.pow_le_pow_right (by omega) (by omega);have e:(256:Nat) ^ 8=18446744073709551616:=by decide
 show Ci l 0 < _;omega
theorem zHq {p:Prop} (h:p:=by
 have hz:=Z.out.here;go_wp2_with fail;((with_reducible refine (kD gr _ _ _ path 1 _ (by omega) R.out.at_).mono ?_);rintro e qP hp);exact zBr):p:=h
theorem zIg {p:Prop} (h:p:=by
 go_upto_region 17 with fail;have hz:=Z.out.here;go_wp2_with fail;clear dn bY bZ;((with_reducible refine (kD gr _ _ _ path 2 _ (by omega) R.out.at_).mono ?_);rintro e kL hp);exact zBr):p:=h
theorem aey
 (ts:List ay) (A:Option Addr) (c n gr:Nat) (fp:Value) (fn:Int) (path:List Int) (p:List UInt8) (rec:Int->List UInt8->List Int->mX) (w:World) (hn:n < ts.length) (hk:ts[n].kind=2) (hp:path.length < 200) (hpl:p.length<=800000)
 (R:lC w gr (.slice A ts.length c) fp fn path) (ht:aU w gr (.slice A ts.length c) ts) :
 Calls Tryz.prog 50 #[.pointer (some ⟨gr,0,none⟩),.int .i64 n,.string ⟨p.toArray⟩] w (eu gr (.slice A ts.length c) path w (fH rec ts[n] p path)):=by
 have HB:=hiQ (fun W => Og p W (by omega));have hu:=acv p;have HD:Hid (∀ (x:ay),x.kind=2->fH rec x p path=(if (jX p).2≠0 then .error (path,1) else if yU (jX p).1 < x.low\/x.high < yU (jX p).1 then .error (path,2) else .ok (.mk 2 false (yU (jX p).1) [] 0 [] [] []))):=hiQ fun x h => by simp [fH,h]
 generalize jX p=g at *;obtain ⟨q,er⟩:=g;obtain ⟨b,o,rfl,hbb,hel⟩:=ht.elem (by omega);obtain ⟨vs,vm,hcells,hx⟩:=hel n hn;clear hel;generalize ts[n]=x at *;obtain ⟨C1,l1,C2,l2,rfl,rfl,-,-⟩:=hx.forms;have hlt:(n:Int) < ts.length:=by omega
 have hd0:decide ((n:Int) < 0)=false:=by simp
 have hd1:decide (ts.length<=n)=false:=by simpa using hn
 have hlp:¬ (200:Int)<=path.length:=by omega
 have HX:=hiQ hx;have HT:=hiQ ht;have HC:=hiQ hcells;have mY:=hiQ hk;have hN:Hid (n < ts.length):=hiQ hn;have hxs:=hx.lens;clear hx ht hcells hn;have hgr:=R.here;replace R:=hiQ (nS.of R);have KP:=cZ.refl w gr;go_enter Tryz.func50,Tryz.ntmps50
 go_upto_region 1 with fail;refine aO (fun wd2 hb1 Z => ?_);replace R:=rB R hb1;replace KP:=kB KP hgr hb1;clear hb1;obtain ⟨Ap,cp,hcp,r0,r1,-,-⟩:=R.out.at_.cells;obtain ⟨c0,c1,c2,c3,c4,c5,c6,c7,c8,c9⟩:=HC.out.below KP.low hbb;rw [hk] at c0;go_upto_region 12 with fail;clear c0 c1 c2 c3 c4 c5 c6 c7 c8 c9 r0 r1 hd0 hd1 hlp hcp;refine jg (fun wd4 hb3 X V => ?_);have Ox:=Z.out.here;have nI:=KP.size;replace Z:=b1 Z hb3;replace R:=rB R hb3;replace KP:=kB KP hgr hb3;clear hb3;generalize wd2.heap.size=g5 at *;have HD:=HD.out x hk;by_cases h0:er=0
 .
  subst h0;have hui:=XZ q hu;have HZ:=hiQ (fun W => abR q hu W);simp only [ne_eq,not_true_eq_false,if_false] at HD;generalize yU (q:Int)=i at *;replace HD:=hiQ HD;have Hui:=hiQ hui;clear hui hu;go_upto_region 15 with (go_at_call 77;refine (HB.out _).mono ?_;rintro e w' ⟨rfl,rfl⟩)
  have dn:=V.out.e2;have PK:=V.out.free 2;go_upto_region 16 with (go_at_call 78;refine (HZ.out _).mono ?_;rintro e w' ⟨rfl,rfl⟩)
  clear dn PK;generalize kJ:wd4.setCell _ _=qP;obtain ⟨Z,X⟩:=f2 Z X (eF kJ);replace R:=rF R V kJ.symm (by decide) (by omega);replace KP:=kS KP hgr kJ.symm (by omega);replace V:=Yx V kJ;clear kJ;have dn:=V.out.e2;have bY:=X.out.e2;have bZ:=X.out.e3;by_cases h1:i < x.low
  .
   have HR:Hid (fH rec x p path = .error (path,2)):=by show _=_;rw [HD.out,o_ (.inl h1)]
   exact zIg
  by_cases h2:x.high < i
  .
   have HR:Hid (fH rec x p path = .error (path,2)):=by show _=_;rw [HD.out,o_ (.inr h2)]
   exact zIg
  have HR:Hid (fH rec x p path = .ok (.mk 2 false i [] 0 [] [] [])):=by show _=_;rw [HD.out,gB (by omega)]
  go_upto_region 44 with fail;obtain ⟨bK,dh,-,dI,bG,aQ,aP,dJ⟩:=V.out.c8;go_wp2_with (refine sR Z.out ?_)
  clear dn bY bZ bK dh dI bG aQ aP dJ;generalize kQ:qP.setRow _ _=kL;obtain ⟨X,V⟩:=f2 X V (eR kQ);replace R:=rR R Z kQ.symm (by decide) (by omega);replace KP:=vU KP hgr kQ.symm (by omega);replace Z:=dV Z kQ;clear kQ;exact vJ (v:=.tuple #[.agg #[.int .i64 2,.bool false,.int .i64 i,.string ⟨#[]⟩,.int .i64 0,.slice none 0 0,.slice none 0 0,.slice none 0 0],.bool true]) (by simp [results,Tryz.results50,go_sem,Z.out.c8]) rfl (eu.good (v:=.mk 2 false i [] 0 [] [] []) HR.out R KP (qB _ _ _ _ _ _ _ (by unfold I64;omega) Hui.out (by unfold I64;omega) (by simp)))
 have HR:Hid (fH rec x p path = .error (path,1)):=by show _=_;rw [HD,o_ h0]
 have h0i:¬ (er:Int)=0:=by omega
 clear HD;go_upto_region 14 with (go_at_call 77;refine (HB.out _).mono ?_;rintro e w' ⟨rfl,rfl⟩)
 go_upto_region 14 with fail;exact zHq
theorem aez
 (ts:List ay) (A:Option Addr) (c n gr:Nat) (fp:Value) (fn:Int) (path:List Int) (p:List UInt8) (rec:Int->List UInt8->List Int->mX) (w:World) (hn:n < ts.length) (hk:ts[n].kind=3) (hp:path.length < 200) (hpl:p.length<=800000)
 (R:lC w gr (.slice A ts.length c) fp fn path) (ht:aU w gr (.slice A ts.length c) ts) :
 Calls Tryz.prog 50 #[.pointer (some ⟨gr,0,none⟩),.int .i64 n,.string ⟨p.toArray⟩] w (eu gr (.slice A ts.length c) path w (fH rec ts[n] p path)):=by
 obtain ⟨b,o,rfl,hbb,hel⟩:=ht.elem (by omega);obtain ⟨vs,vm,hcells,hx⟩:=hel n hn;clear hel;generalize ts[n]=x at *;obtain ⟨C1,l1,C2,l2,rfl,rfl,-,-⟩:=hx.forms;have hlt:(n:Int) < ts.length:=by omega
 have hd0:decide ((n:Int) < 0)=false:=by simp
 have hd1:decide (ts.length<=n)=false:=by simpa using hn
 have hlp:¬ (200:Int)<=path.length:=by omega
 have HX:=hiQ hx;have HT:=hiQ ht;have HC:=hiQ hcells;have mY:=hiQ hk;have hN:Hid (n < ts.length):=hiQ hn;have hxs:=hx.lens;clear hx ht hcells hn;have hgr:=R.here;replace R:=hiQ (nS.of R);have KP:=cZ.refl w gr;go_enter Tryz.func50,Tryz.ntmps50
 go_upto_region 1 with fail;refine aO (fun wd2 hb1 Z => ?_);replace R:=rB R hb1;replace KP:=kB KP hgr hb1;clear hb1;obtain ⟨Ap,cp,hcp,r0,r1,-,-⟩:=R.out.at_.cells;obtain ⟨c0,c1,c2,c3,c4,c5,c6,c7,c8,c9⟩:=HC.out.below KP.low hbb;rw [hk] at c0;go_upto_region 19 with fail;clear c0 c1 c2 c3 c4 c5 c6 c7 c8 c9 r0 r1 hd0 hd1 hlp hcp;refine jg (fun wd4 hb3 X V => ?_);have Ox:=Z.out.here;have nI:=KP.size;replace Z:=b1 Z hb3;replace R:=rB R hb3;replace KP:=kB KP hgr hb3;clear hb3;generalize wd2.heap.size=g5 at *;have dL:=X.out.e4;by_cases h1:x.max < p.length
 .
  have HR:Hid (fH rec x p path = .error (path,3)):=by show _=_;simp [fH,mY.out,h1]
  go_upto_region 20 with fail;have hz:=Z.out.here;go_wp2_with fail;clear dL;((with_reducible refine (kD gr _ _ _ path 3 _ (by omega) R.out.at_).mono ?_);rintro e qP hp);exact zBr
 have HR:Hid (fH rec x p path = .ok (.mk 3 false 0 p 0 [] [] [])):=by show _=_;simp [fH,mY.out,h1]
 go_upto_region 21 with fail;have dI:=V.out.e3;have WA:=V.out.free 3;go_upto_region 44 with fail;clear dL dI WA;generalize kJ:wd4.setCell _ _=qP;obtain ⟨Z,X⟩:=f2 Z X (eF kJ);replace R:=rF R V kJ.symm (by decide) (by omega);replace KP:=kS KP hgr kJ.symm (by omega);replace V:=Vx V kJ;clear kJ;go_upto_region 44 with fail;obtain ⟨bK,dh,dn,dI,bG,aQ,aP,dJ⟩:=V.out.c8;go_wp2_with (refine sR Z.out ?_)
 clear bK dh dn dI bG aQ aP dJ;generalize kQ:qP.setRow _ _=kL;obtain ⟨X,V⟩:=f2 X V (eR kQ);replace R:=rR R Z kQ.symm (by decide) (by omega);replace KP:=vU KP hgr kQ.symm (by omega);replace Z:=dV Z kQ;clear kQ;exact vJ (v:=.tuple #[.agg #[.int .i64 3,.bool false,.int .i64 0,.string ⟨p.toArray⟩,.int .i64 0,.slice none 0 0,.slice none 0 0,.slice none 0 0],.bool true]) (by simp [results,Tryz.results50,go_sem,Z.out.c8]) rfl (eu.good (v:=.mk 3 false 0 p 0 [] [] []) HR.out R KP (qB _ _ _ _ _ _ _ (by unfold I64;omega) (by unfold I64;omega) (by unfold I64;omega) (by omega)))
