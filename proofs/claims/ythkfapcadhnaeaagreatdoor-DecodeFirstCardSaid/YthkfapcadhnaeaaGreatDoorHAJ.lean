/- fail. The contract of what decodes a payload; a row cut by one. Facts carried through calls that decode. part. No condition. -/
import Derived.Test.YthkfapcadhnaeaaGreatDoorHAI
import Derived.Test.YthkfapcadhnaeaaGreatDoorHAF
set_option maxHeartbeats 800000
namespace Go.Proofs.YthkfapcadhnaeaaGreatDoor
open Go.ChangeShapes Go.WideShapes Go.ChangeAt Go.RowKit
theorem abS {w:World} {base n:Nat} {pv:Value} {xs:List Value} (h:w.ownsRow base 3 1 pv n xs) (hn:n≤1000000) (h1:∀ u ∈ xs,u.oneCell'=true) :
  Calls Tryz.prog 130 #[pv] w (zI w 3 1 n xs):=by
 have hrd:=Rd.pq h
 obtain ⟨A,c,rfl,hc⟩:=hrd.form
 refine Zk n A c xs w hn ?_ h.1 ?_ ?_ h1
 ·
  rintro rfl
  rcases h.2 with ⟨_,h2⟩ | ⟨_,_,_,h2,_⟩
  · exact h2
  cases h2
 ·
  rintro a rfl j u hu
  rcases h.2 with ⟨h2,_⟩ | ⟨g,cap,cur,h2,_⟩
  · cases h2
  cases h2;exact h.cells (g:=g) rfl j u hu
 rintro a rfl hp
 exact (h.lt a.block rfl).2
theorem aH {w:World} {base base' n size:Nat} {e:TypeId} {v:Value} {ys:List Value} (h:w.ownsRow base e size v n ys) (hb:base'≤base):w.ownsRow base' e size v n ys:=by
 refine ⟨h.1,?_⟩
 rcases h.2 with h2 | ⟨g,cap,cur,h3,h4,h5⟩
 · exact .inl h2
 exact .inr ⟨g,cap,cur,h3,Nat.le_trans hb h4,h5⟩
theorem oQ {w:World} {gr base n size:Nat} {e:TypeId} {v:Value} {ys:List Value} (h:w.ownsRow base e size v n ys) (hb:gr < base) (i:Nat) (u:Value):(w.setCell ⟨gr,i,none⟩ u).ownsRow base e size v n ys :=
 kP h fun k hk => Below.heap_setCell w _ u k (by have:=(h.lt k hk).1;show k≠gr;omega)
set_option maxRecDepth 100000 in
theorem adO (gr:Nat) (tv fp:Value) (fn:Int) (path:List Int) (n:Int) (w:World) (hp:path.length≤1000) (hR:jf w gr tv fp fn path) :
  Calls Tryz.prog 91 #[.pointer (some ⟨gr,0,none⟩),.int .i64 n] w fun e w' =>
   e = .returned (.tuple #[.agg #[.int .i64 0,.bool false,.int .i64 0,.string ⟨#[]⟩,.int .i64 0,.slice none 0 0,.slice none 0 0,.slice none 0 0],.bool false]) ∧
   ∃ fp',jf w' gr tv fp' n path∧w'.ownsRow (gr+1) 3 1 fp' path.length (path.map iZ)∧aP w gr w':=by
 obtain ⟨pv,hrow,hown⟩:=hR.row
 have hgr:=hrow.here
 have HO:=Lib.hid hown
 clear hR hown
 replace hrow:=Lib.hid hrow
 go_enter Tryz.func91,Tryz.ntmps91
 go_upto_region 1 with fail
 generalize dJ:w.alloc _=wd2
 have ⟨hb1,Z⟩:=bH dJ
 clear dJ
 replace hrow:=b1 hrow hb1
 have hw4:=hb1
 clear hb1
 have Ku:=hrow.out.e0
 have nO:=hrow.out.e1
 have HZ2:=Lib.hid Z.out.here
 have hown1:=own_below HO.out hw4
 have HC:=Lib.hid (abS hown1 (by omega) (by intro u hu;obtain ⟨z,_,rfl⟩:=List.mem_map.1 hu;rfl))
 clear hown1
 go_wp2_with fail
 clear Ku nO
 ((with_reducible refine (HC.out).mono ?_);rintro e qM ⟨fp',rfl,hcl,hb6⟩)
 obtain ⟨hrow,Z⟩:=b2 hrow Z hb6
 replace hw4:=dT hw4 hb6
 clear hb6
 obtain ⟨A1,c1,rfl,hcc⟩:=(Rd.pq hcl).form
 have HL:=Lib.hid hcl
 clear hcl HC
 have Ku:=hrow.out.e0
 have nO:=hrow.out.e1
 have P5:=hrow.out.e2
 have P6:=hrow.out.e3
 have anQ:=hrow.out.free 2
 have anR:=hrow.out.free 3
 go_upto_region 2 with fail
 have K5:aP w gr qM:=aP.of_below hw4 (Nat.le_of_lt hgr)
 have O5:=own_below HO.out hw4
 have hgz:gr≠w.heap.size:=by omega
 have hz2:w.heap.size < wd2.heap.size:=HZ2.out
 obtain ⟨w6,hE⟩ : ∃ ww,ww=(qM.setCell ⟨gr,2,none⟩ (.slice A1 path.length c1)).setCell ⟨gr,3,none⟩ (.int .i64 n):=⟨_,rfl⟩
 rw [← hE]
 have K6:aP w gr w6:=hE ▸ (K5.trans (aP.setCell _ _ _ _)).trans (aP.setCell _ _ _ _)
 have O6:=oQ (oQ O5 (Nat.lt_succ_self gr) 2 (.slice A1 path.length c1)) (Nat.lt_succ_self gr) 3 (.int .i64 n)
 have F6:=oQ (oQ HL.out (show gr < wd2.heap.size by omega) 2 (.slice A1 path.length c1)) (show gr < wd2.heap.size by omega) 3 (.int .i64 n)
 rw [← hE] at O6 F6
 have Z6:=dF (dF Z rfl (Ne.symm hgz)) hE (Ne.symm hgz)
 have R6:Hid (Has w6 gr 131 #[tv,pv,.slice A1 path.length c1,.int .i64 n]):=Lib.hid (by simpa using dS (Lib.hid (dS hrow rfl)) hE)
 clear hE hrow Z
 go_wp2_with (refine wpList_store_row rfl 30 _ _ rfl w.heap.size _ rfl rfl 30 _ Z6.out (by kernel_rfl) rfl (by simp [Value.oneCell']) ?_)
 obtain ⟨w7,iT⟩ : ∃ ww,ww=w6.setRow w.heap.size #[.int .i64 0,.bool false,.int .i64 0,.string ⟨#[]⟩,.int .i64 0,.slice none 0 0,.slice none 0 0,.slice none 0 0]:=⟨_,rfl⟩
 rw [← iT]
 have Z7:=dO Z6 iT
 have R7:=dR R6 iT hgz
 have hsz:w6.heap.size≤w7.heap.size:=by rw [iT];simp [World.setRow]
 have hot:∀ k,k≠w.heap.size→w7.heap[k]?=w6.heap[k]?:=fun k hk => by rw [iT];exact setRow_other _ _ _ _ hk
 have K7:aP w gr w7:=⟨⟨by rw [iT];exact K6.low.os,by rw [iT];exact K6.low.tape,by rw [iT];exact K6.low.output,Nat.le_trans K6.size hsz,fun k hk => (hot k (by omega)).trans (K6.low.block k hk)⟩,fun b h1 h2 h3 => (hot b (by omega)).trans (K6.block b h1 h2 h3)⟩
 have O7:=kP (w':=w7) O6 fun k hk => hot k (by have:=HO.out.lt k hk;omega)
 have F7:=kP (w':=w7) F6 fun k hk => hot k (by have:=F6.lt k hk;omega)
 clear iT
 have z0:=Z7.out.cell 0
 have z1:=Z7.out.cell 1
 have z2:=Z7.out.cell 2
 have z3:=Z7.out.cell 3
 have z4:=Z7.out.cell 4
 have z5:=Z7.out.cell 5
 have z6:=Z7.out.cell 6
 have z7:=Z7.out.cell 7
 simp only [List.getElem?_toArray,List.getElem?_cons_zero,List.getElem?_cons_succ] at z0 z1 z2 z3 z4 z5 z6 z7
 exact bodyPost_ret (v:=.tuple #[.agg #[.int .i64 0,.bool false,.int .i64 0,.string ⟨#[]⟩,.int .i64 0,.slice none 0 0,.slice none 0 0,.slice none 0 0],.bool false]) (by simp [results,Tryz.results91,go_sem,z0,z1,z2,z3,z4,z5,z6,z7]) rfl ⟨rfl,_,⟨pv,R7.out,O7⟩,aH F7 (by omega),K7⟩
end Go.Proofs.YthkfapcadhnaeaaGreatDoor
namespace Go.Proofs.YthkfapcadhnaeaaGreatDoor
open Go.ChangeShapes Go.WideShapes Go.ChangeAt Go.RowKit
theorem PZ {w:World} {base n:Nat} {e:TypeId} {v u:Value} {xs:List Value} (h:w.ownsRow base e 1 v (n+1) (xs ++ [u])) (hl:xs.length=n) :
  ∃ g cap,v = .slice (some ⟨g,0,none⟩) (n+1) cap∧n+1≤cap∧w.ownsRow base e 1 (.slice (some ⟨g,0,none⟩) n cap) n xs:=by
 rcases h.2 with ⟨_,h2⟩ | ⟨g,cap,cur,rfl,hb,hh,hn,hm,hs,ht⟩
 · omega
 refine ⟨g,cap,rfl,hn,by omega,.inr ⟨g,cap,cur,rfl,hb,hh,by omega,hm,hs,?_⟩⟩
 have e1:cur.toList.take (n*1)=(cur.toList.take ((n+1)*1)).take n:=by rw [List.take_take];congr 1;omega
 rw [e1,ht,← hl,List.take_left']
 rfl
def cO (gr:Nat) (tv:Value) (path:List Int) (w:World) (r:fO) (e:Ending) (w':World):Prop :=
 ∃ fp fn,jf w' gr tv fp fn path∧aP w gr w'∧match r with
  | .ok v => ∃ vk vi vr,e = .returned (.tuple #[iC v vk vi vr,.bool true])∧jq w' (lV w w') v vk vi vr
  | .error (p,n) => fn=n∧w'.ownsRow (gr+1) 3 1 fp p.length (p.map iZ)∧∃ c0 c1 c2 c3 c4 c5 c6 c7:Value,(∀ u ∈ [c0,c1,c2,c3,c4,c5,c6,c7],u.oneCell'=true)∧e = .returned (.tuple #[.agg #[c0,c1,c2,c3,c4,c5,c6,c7],.bool false])
theorem cO.form {gr:Nat} {tv:Value} {path:List Int} {w w':World} {r:fO} {e:Ending} (h:cO gr tv path w r e w') :
  ∃ (c0 c1 c2 c3 c4 c5 c6 c7:Value) (b:Bool),(∀ u ∈ [c0,c1,c2,c3,c4,c5,c6,c7],u.oneCell'=true)∧e = .returned (.tuple #[.agg #[c0,c1,c2,c3,c4,c5,c6,c7],.bool b]):=by
 obtain ⟨fp,fn,_,_,h⟩:=h
 cases r with
 | ok v =>
  obtain ⟨vk,vi,vr,rfl,hv⟩:=h
  obtain ⟨ck,hk,_⟩:=hv.keys
  obtain ⟨ci,hi,_⟩:=hv.items
  exact ⟨_,_,_,_,_,_,_,_,true,by simp [Value.oneCell'];exact ⟨hk.one,hi.one,hv.rest.one⟩,rfl⟩
 | error e =>
  obtain ⟨p,n⟩:=e
  obtain ⟨_,_,c0,c1,c2,c3,c4,c5,c6,c7,h1,rfl⟩:=h
  exact ⟨c0,c1,c2,c3,c4,c5,c6,c7,false,h1,rfl⟩
theorem iG (gr:Nat) (tv fp:Value) (fn:Int) (path:List Int) (n:Int) (w:World) (hp:path.length≤1000) (hR:jf w gr tv fp fn path) :
  Calls Tryz.prog 91 #[.pointer (some ⟨gr,0,none⟩),.int .i64 n] w (cO gr tv path w (.error (path,n))):=by
 refine (adO gr tv fp fn path n w hp hR).mono ?_
 rintro e w' ⟨rfl,fp',h1,h2,h3⟩
 exact ⟨fp',n,h1,h3,rfl,h2,_,_,_,_,_,_,_,_,by simp [Value.oneCell'],rfl⟩
end Go.Proofs.YthkfapcadhnaeaaGreatDoor
namespace Go.Proofs.YthkfapcadhnaeaaGreatDoor
open Go.ChangeShapes Go.WideShapes Go.ChangeAt Go.RowKit
theorem aP.above {w W W':World} {gr B:Nat} (K:aP w gr W) (hb:Below B W W') (hB:w.heap.size≤B) (hg:gr≤B):aP w gr W' :=
 ⟨K.low.trans (hb.mono hg),fun b h1 h2 h3 => (hb.block b (Nat.lt_of_lt_of_le h2 hB)).trans (K.block b h1 h2 h3)⟩
theorem aP.drew {w W:World} {gr:Nat} (K:aP w gr W):aP w gr W.drew:=⟨K.low.trans (Below.refl gr W).drew,fun b h1 h2 h3 => K.block b h1 h2 h3⟩
theorem qp {W:World} {base n g:Nat} {v:Value} {xs:List Value} {T:TypeId} {cs:Array Value} (h:W.ownsRow base 3 1 v n xs) (hH:Has W g T cs) (hT:T≠3):v.ownBlock≠some g:=by
 rcases h.2 with ⟨rfl,_⟩ | ⟨g',cap,cur,rfl,_,hh,_⟩
 · simp [Value.ownBlock]
 intro e
 simp only [Value.ownBlock,Option.some.injEq] at e
 subst e
 have hH':W.heap[g']?=some (.cells cs T (0,0)):=hH
 rw [hh] at hH'
 injection hH' with e1
 injection e1 with _ e2
 exact hT e2.symm
structure jF (W:World) (gr:Nat) (tv fp:Value) (fn:Int) (path:List Int) (q:Option (List Int)):Prop where
 at_:jf W gr tv fp fn path
 fail:∀ p,q=some p→W.ownsRow (gr+1) 3 1 fp p.length (p.map iZ)
theorem jF.of {W:World} {gr:Nat} {tv fp:Value} {fn:Int} {path:List Int} (h:jf W gr tv fp fn path):jF W gr tv fp fn path none:=⟨h,fun _ h => by cases h⟩
structure jd (P:World→Prop) (w:World) (L B:Nat):Prop where
 now:P w
 st:∀ w',(∀ k:Nat,L≤k→k < B→iy w k→w'.heap[k]?=w.heap[k]?)→P w'
 le:B≤w.heap.size
theorem jd.imp {P Q:World→Prop} {w:World} {L B:Nat} (h:jd P w L B) (hPQ:∀ w,P w→Q w):jd Q w L B:=⟨hPQ _ h.now,fun w' hk => hPQ _ (h.st w' hk),h.le⟩
theorem iy.same {w w':World} {k:Nat} (h:w'.heap[k]?=w.heap[k]?) (h':iy w' k):iy w k:=fun c f e => h' c f (h.trans e)
theorem jd.move {P:World→Prop} {w w':World} {L B:Nat} (h:jd P w L B) (hk:∀ k:Nat,L≤k→k < B→iy w k→w'.heap[k]?=w.heap[k]?) (hs:w.heap.size≤w'.heap.size):jd P w' L B :=
 ⟨h.st w' hk,fun w2 h2 => h.st w2 fun p hl hp hn => (h2 p hl hp (fun c f e => hn c f ((hk p hl hp hn).symm.trans e))).trans (hk p hl hp hn),Nat.le_trans h.le hs⟩
section
variable {w w' W W':World} {g g' gr i L B:Nat} {T T':TypeId} {cs cs':Array Value} {P:World→Prop} {v tv fp:Value} {fn:Int} {path:List Int} {o:Obj}
theorem nB (h:Hid (jd P w L B)) (hb:Below w.heap.size w w'):Hid (jd P w' L B):=h.out.move (fun _ _ hp _ => hb.block _ (Nat.lt_of_lt_of_le hp h.out.le)) hb.size
instance ate:fC w w' (jd P w L B) (jd P w' L B):=⟨fun hb h => (nB (Lib.hid h) hb).out⟩
instance atf:ig w w' g' (jd P w L B) (jd P w' L B) (B≤g'∨g' < L):=⟨fun e hn h => h.move (fun k hl hk _ => e.blk k (by omega)) e.sz⟩
theorem nT (h:Hid (jd P W L B)) (K:aP W gr W') (hg:gr < L):Hid (jd P W' L B) :=
 h.out.move (fun k hl hk hn => K.block k (by omega) (Nat.lt_of_lt_of_le hk h.out.le) hn) K.size
theorem ji (h:Hid (Has W g T cs)) (K:aP W gr W') (hg:gr < g) (hT:T≠3):Hid (Has W' g T cs) :=
 (K.block g hg h.out.here (fun c f e => by
  have h1:W.heap[g]?=some (.cells cs T (0,0)):=h.out
  rw [h1] at e;injection e with e1;injection e1 with _ e2;exact hT e2)).trans h.out
theorem kB (K:aP w gr W) (hgr:gr < w.heap.size) (hb:Below W.heap.size W W'):aP w gr W':=K.above hb K.size (Nat.le_of_lt (Nat.lt_of_lt_of_le hgr K.size))
theorem kS (K:aP w gr W) (hgr:gr < w.heap.size) (hE:W'=W.setCell ⟨g,i,none⟩ v) (hg:w.heap.size≤g):aP w gr W':=by
 rw [hE];exact K.above (QY (Below.refl g W) (Nat.le_refl _) i v) hg (by omega)
theorem oZ (K:aP w gr W) (hgr:gr < w.heap.size) (hE:W'=W.setRow g cs) (hg:w.heap.size≤g):aP w gr W':=by
 rw [hE];exact K.above (below_setRow (Below.refl g W) (Nat.le_refl _) cs) hg (by omega)
theorem jf.here (R:jf W gr tv fp fn path):gr < W.heap.size:=by obtain ⟨pv,h,_⟩:=R.row;exact h.here
theorem rB {q:Option (List Int)} (R:Hid (jF W gr tv fp fn path q)) (hb:Below W.heap.size W W'):Hid (jF W' gr tv fp fn path q):=by
 obtain ⟨⟨pv,h1,h2⟩,h3⟩:=R.out
 exact ⟨⟨pv,(hb.block gr h1.here).trans h1,own_below h2 hb⟩,fun p hp => own_below (h3 p hp) hb⟩
theorem FV {q:Option (List Int)} (R:jF W gr tv fp fn path q) (hH:Has W g T cs) (hT:T≠3) (hg:g≠gr) (hk:∀ k,k≠g→W'.heap[k]?=W.heap[k]?):jF W' gr tv fp fn path q:=by
 obtain ⟨⟨pv,h1,h2⟩,h3⟩:=R
 exact ⟨⟨pv,(hk gr (Ne.symm hg)).trans h1,kP h2 fun k hb => hk k (fun e => qp h2 hH hT (e ▸ hb))⟩,fun p hp => kP (h3 p hp) fun k hb => hk k (fun e => qp (h3 p hp) hH hT (e ▸ hb))⟩
theorem rF {q:Option (List Int)} (R:Hid (jF W gr tv fp fn path q)) (hH:Hid (Has W g T cs)) (hE:W'=W.setCell ⟨g,i,none⟩ v) (hT:T≠3) (hg:g≠gr):Hid (jF W' gr tv fp fn path q) :=
 FV R.out hH.out hT hg fun k hk => by rw [hE];exact Below.heap_setCell W ⟨g,i,none⟩ v k hk
theorem rR {q:Option (List Int)} (R:Hid (jF W gr tv fp fn path q)) (hH:Hid (Has W g T cs)) (hE:W'=W.setRow g cs') (hT:T≠3) (hg:g≠gr):Hid (jF W' gr tv fp fn path q) :=
 FV R.out hH.out hT hg fun k hk => by rw [hE];exact setRow_other _ _ _ _ hk
theorem jf.cells (R:jf W gr tv fp fn path):∃ (A:Option Addr) (c:Nat),path.length≤c∧W.cell? ⟨gr,0,none⟩=some tv∧W.cell? ⟨gr,1,none⟩=some (.slice A path.length c)∧W.cell? ⟨gr,2,none⟩=some fp∧W.cell? ⟨gr,3,none⟩=some (.int .i64 fn):=by
 obtain ⟨pv,h1,h2⟩:=R.row
 obtain ⟨A,c,rfl,hc⟩:=(Rd.pq h2).form
 exact ⟨A,c,hc,h1.cell 0,h1.cell 1,h1.cell 2,h1.cell 3⟩
end
def ahP:fO→Option (List Int)
 | .ok _ => none
 | .error (p,_) => some p
theorem cO.tail {gr g:Nat} {tv:Value} {path:List Int} {w W1 W2:World} {r:fO} {e:Ending} {T:TypeId} {cs cs':Array Value} (h:cO gr tv path W1 r e W2) (K:aP w gr W1) (hgr:gr < w.heap.size) (hg:w.heap.size≤g) (hg1:g < W1.heap.size) (hH:Has W2 g T cs) (hT:T≠3) :
  cO gr tv path w r e (W2.setRow g cs'):=by
 obtain ⟨fp,fn,R,K2,h⟩:=h
 have hk:∀ k,k≠g→(W2.setRow g cs').heap[k]?=W2.heap[k]?:=fun k hk => setRow_other _ _ _ _ hk
 refine ⟨fp,fn,(FV (jF.of R) hH hT (by omega) hk).at_,oZ (K.trans K2) hgr rfl hg,?_⟩
 cases r with
 | ok v =>
  obtain ⟨vk,vi,vr,he,hv⟩:=h
  refine ⟨vk,vi,vr,he,hv.keep (fun p hp => World.cell?_of_block (hk p.block (by have:=hp.1;omega))) (fun b hb => ?_)⟩
  have hbg:b≠g:=by have:=hb.1;omega
  refine ⟨Nat.le_trans K.size hb.1,by rw [setRow_size];exact hb.2.1,fun c f e => hb.2.2 c f ((hk b hbg).symm.trans e)⟩
 | error q =>
  obtain ⟨p,n⟩:=q
  obtain ⟨h1,h2,h3⟩:=h
  exact ⟨h1,kP h2 fun k hb => hk k (fun e => qp h2 hH hT (e ▸ hb)),h3⟩
theorem cO.keep {gr:Nat} {tv:Value} {path:List Int} {w w':World} {r:fO} {e:Ending} (h:cO gr tv path w r e w'):aP w gr w':=by
 obtain ⟨_,_,_,K,_⟩:=h;exact K
theorem cO.good {gr:Nat} {tv fp:Value} {fn:Int} {path:List Int} {w W:World} {r:fO} {v:Val} {vk vi vr:Value} {q:Option (List Int)} (hr:r = .ok v) (R:Hid (jF W gr tv fp fn path q)) (K:aP w gr W) (hv:jq W (lV w W) v vk vi vr) :
  cO gr tv path w r (.returned (.tuple #[iC v vk vi vr,.bool true])) W:=by
 subst hr;exact ⟨fp,fn,R.out.at_,K,vk,vi,vr,rfl,hv⟩
theorem iY (W:World) (S:Nat→Prop) (k:Int) (b:Bool) (n:Int) (s:List UInt8) (id:Int) (hk:I64 k) (hn:I64 n) (hi:I64 id) (hs:s.length≤140737488351232):jq W S (.mk k b n s id [] [] []) (.slice none 0 0) (.slice none 0 0) (.slice none 0 0) :=
 ⟨⟨hk,hn,hi⟩,hs,by simp [Val.keys,Val.items,Val.rest],by simp [Val.rest],⟨fun _ => [],⟨none,0,rfl,Nat.le_refl _,.inl rfl⟩,fun i h => by simp [Val.keys] at h⟩,⟨fun _ => [],⟨none,0,rfl,Nat.le_refl _,.inl rfl⟩,fun i h => by simp [Val.items] at h⟩,by simp [Val.rest,iV],none,0,rfl,Nat.le_refl _,.inl rfl⟩
theorem cO.bad {gr:Nat} {tv fp:Value} {fn:Int} {path:List Int} {w W:World} {r:fO} {p:List Int} {n:Int} {c0 c1 c2 c3 c4 c5 c6 c7:Value} (hr:r = .error (p,n)) (R:Hid (jF W gr tv fp fn path (some p))) (K:aP w gr W) (hf:fn=n) (h1:∀ u ∈ [c0,c1,c2,c3,c4,c5,c6,c7],u.oneCell'=true) :
  cO gr tv path w r (.returned (.tuple #[.agg #[c0,c1,c2,c3,c4,c5,c6,c7],.bool false])) W:=by
 subst hr;exact ⟨fp,fn,R.out.at_,K,hf,R.out.fail p rfl,_,_,_,_,_,_,_,_,h1,rfl⟩
def su (L B:Nat) (v:Val) (vk vi vr:Value) (W:World):Prop := ∃ S:Nat→Prop,jq W S v vk vi vr∧∀ k,S k→L≤k∧k < B∧iy W k
theorem iy.to {w w':World} {k:Nat} (h:w'.heap[k]?=w.heap[k]?) (h':iy w k):iy w' k:=fun c f e => h' c f (h.symm.trans e)
theorem su.kept {L B:Nat} {v:Val} {vk vi vr:Value} {W:World} (h:su L B v vk vi vr W) (hB:B≤W.heap.size):jd (su L B v vk vi vr) W L B :=
 ⟨h,fun w' hk => by
  obtain ⟨S,h1,h2⟩:=h
  have hs:∀ k,S k→w'.heap[k]?=W.heap[k]?:=fun k hS => hk k (h2 k hS).1 (h2 k hS).2.1 (h2 k hS).2.2
  exact ⟨S,h1.keep (fun p hp => World.cell?_of_block (hs p.block hp)) (fun _ h => h),fun k hS => ⟨(h2 k hS).1,(h2 k hS).2.1,iy.to (hs k hS) (h2 k hS).2.2⟩⟩,hB⟩
theorem su.ajG {L B:Nat} {v:Val} {vk vi vr:Value} {w W:World} (h:su L B v vk vi vr W) (hL:w.heap.size≤L) (hB:B≤W.heap.size):jq W (lV w W) v vk vi vr:=by
 obtain ⟨S,h1,h2⟩:=h
 exact h1.keep (fun _ _ => rfl) fun k hS => ⟨Nat.le_trans hL (h2 k hS).1,Nat.lt_of_lt_of_le (h2 k hS).2.1 hB,(h2 k hS).2.2⟩
def af0 (L B:Nat) (r:fO) (fn:Int) (c:List Value) (bb:Bool) (W:World):Prop:=match r with
 | .ok v => bb=true∧∃ vk vi vr,c=iQ v vk vi vr∧su L B v vk vi vr W
 | .error (_,n) => bb=false∧fn=n
theorem cO.take {gr:Nat} {tv:Value} {path:List Int} {w W:World} {r:fO} {e:Ending} (h:cO gr tv path w r e W) :
  ∃ (fp:Value) (fn:Int) (c0 c1 c2 c3 c4 c5 c6 c7:Value) (bb:Bool),(∀ u ∈ [c0,c1,c2,c3,c4,c5,c6,c7],u.oneCell'=true)∧e = .returned (.tuple #[.agg #[c0,c1,c2,c3,c4,c5,c6,c7],.bool bb]) ∧
   jF W gr tv fp fn path (ahP r)∧aP w gr W∧jd (af0 w.heap.size W.heap.size r fn [c0,c1,c2,c3,c4,c5,c6,c7] bb) W w.heap.size W.heap.size:=by
 obtain ⟨fp,fn,R,K,h⟩:=h
 cases r with
 | ok v =>
  obtain ⟨vk,vi,vr,rfl,hv⟩:=h
  obtain ⟨ck,hk,_⟩:=hv.keys
  obtain ⟨ci,hi,_⟩:=hv.items
  have hN:su w.heap.size W.heap.size v vk vi vr W:=⟨lV w W,hv,fun k h => h⟩
  refine ⟨fp,fn,_,_,_,_,_,_,_,_,true,by simp [Value.oneCell'];exact ⟨hk.one,hi.one,hv.rest.one⟩,rfl,jF.of R,K,⟨⟨rfl,vk,vi,vr,rfl,hN⟩,fun w' hs => ⟨rfl,vk,vi,vr,rfl,(hN.kept (Nat.le_refl _)).st w' hs⟩,Nat.le_refl _⟩⟩
 | error q =>
  obtain ⟨p,n⟩:=q
  obtain ⟨hf,hO,c0,c1,c2,c3,c4,c5,c6,c7,h1,rfl⟩:=h
  exact ⟨fp,fn,c0,c1,c2,c3,c4,c5,c6,c7,false,h1,rfl,⟨R,fun p' hp => by injection hp with hp;subst hp;exact hO⟩,K,⟨⟨rfl,hf⟩,fun _ _ => ⟨rfl,hf⟩,Nat.le_refl _⟩⟩
theorem Xy {w W:World} {G:Nat} {T:TypeId} {cs:Array Value} (h:Has W G T cs) (hT:T≠3) (hG:w.heap.size≤G):lV w W G :=
 ⟨hG,h.here,fun c f e => by
  have h1:W.heap[G]?=some (.cells cs T (0,0)):=h
  rw [h1] at e;injection e with e1;injection e1 with _ e2;exact hT e2⟩
theorem UF {w W:World} {L B G:Nat} {k id:Int} {v:Val} {vk vi vr:Value} {T:TypeId} (h:su L B v vk vi vr W) (hL:w.heap.size≤L) (hB:B≤W.heap.size) (hG:Has W G T (iQ v vk vi vr).toArray) (hT:T≠3) (hwG:w.heap.size≤G) (hk:I64 k) (hi:I64 id) :
  jq W (lV w W) (.mk k false 0 [] id [] [v] []) (.slice none 0 0) (.slice (some ⟨G,0,none⟩) 1 1) (.slice none 0 0):=by
 have h1:=(h.ajG hL hB).rd
 refine ⟨⟨hk,by simp [I64,Val.num],hi⟩,by simp [Val.str],by simp [Val.keys,Val.items,Val.rest],by simp [Val.rest],⟨fun _ => [],⟨none,0,rfl,Nat.le_refl _,.inl rfl⟩,fun i h => by simp [Val.keys] at h⟩,⟨fun _ => iQ v vk vi vr,⟨_,1,rfl,Nat.le_refl _,.inr ⟨G,0,rfl,Xy hG hT hwG,fun i hi j u hu => ?_⟩⟩,fun i hi => ?_⟩,by simp [Val.rest,iV],none,0,rfl,Nat.le_refl _,.inl rfl⟩
 ·
  have h0:i=0:=by simp [Val.items] at hi;omega
  subst h0
  have:=hG.cell j
  rw [show (0+0*8+j)=j by omega,this];simpa using hu
 have h0:i=0:=by simp [Val.items] at hi;omega
 subst h0
 exact h1
theorem adr {w W:World} {G:Nat} {k id:Int} {d:List UInt8} {T:TypeId} (hG:Has W G T #[.int .i64 id,.string ⟨d.toArray⟩]) (hT:T≠3) (hwG:w.heap.size≤G) (hk:I64 k) (hi:I64 id) (hd:d.length≤140737488351232) :
  jq W (lV w W) (.mk k false 0 [] id [] [] [(id,d)]) (.slice none 0 0) (.slice none 0 0) (.slice (some ⟨G,0,none⟩) 1 1):=by
 refine ⟨⟨hk,by simp [I64,Val.num],hi⟩,by simp [Val.str],by simp [Val.keys,Val.items,Val.rest],fun r hr => by simp [Val.rest] at hr;subst hr;exact ⟨hi,hd⟩,⟨fun _ => [],⟨none,0,rfl,Nat.le_refl _,.inl rfl⟩,fun i h => by simp [Val.keys] at h⟩,⟨fun _ => [],⟨none,0,rfl,Nat.le_refl _,.inl rfl⟩,fun i h => by simp [Val.items] at h⟩,by simp [Val.rest,iV,Bz],_,1,rfl,Nat.le_refl _,.inr ⟨G,0,rfl,Xy hG hT hwG,fun j u hu => ?_⟩⟩
 have:=hG.cell j
 rw [show 0+j=j by omega,this]
 simpa [Val.rest,iV,Bz] using hu
theorem Xz {w w':World} {k:Nat} (h:w'.heap[k]?=w.heap[k]?) (hk:k < w.heap.size):k < w'.heap.size:=by
 rcases Nat.lt_or_ge k w'.heap.size with h1 | h1
 · exact h1
 rw [Array.getElem?_eq_none h1,Array.getElem?_eq_getElem hk] at h;cases h
theorem Du {W:World} {base n size k:Nat} {e:TypeId} {v:Value} {xs:List Value} (h:W.ownsRow base e size v n xs) (he:e≠3) (hk:v.ownBlock=some k):iy W k:=by
 rcases h.2 with ⟨rfl,_⟩ | ⟨g,cap,cur,rfl,_,hh,_⟩
 · simp [Value.ownBlock] at hk
 simp only [Value.ownBlock,Option.some.injEq] at hk
 subst hk
 intro c f e2
 rw [hh] at e2;injection e2 with e3;injection e3 with _ e4;exact he e4
theorem jd.own {w:World} {base n size:Nat} {e:TypeId} {v:Value} {xs:List Value} (h:w.ownsRow base e size v n xs) (he:e≠3):jd (fun w => w.ownsRow base e size v n xs) w base w.heap.size :=
 ⟨h,fun _ hk => kP h fun k hb => hk k (h.lt k hb).1 (h.lt k hb).2 (Du h he hb),Nat.le_refl _⟩
def jM (L:Nat) (v:Value) (xs:List Val) (W:World):Prop := ∃ S:Nat→Prop,gQ W L S v xs∧∀ k,S k→L≤k∧iy W k
theorem jM.nil (L:Nat) (W:World):jM L (.slice none 0 0) [] W:=⟨_,gQ.nil W L,fun _ h => h.elim⟩
theorem gQ.FZ {W:World} {L k:Nat} {S:Nat→Prop} {v:Value} {xs:List Val} (h:gQ W L S v xs) (hk:v.ownBlock=some k):iy W k:=by
 obtain ⟨⟨cs,h1,_⟩,_⟩:=h;exact Du h1 (by decide) hk
theorem jM.kept {L:Nat} {v:Value} {xs:List Val} {W:World} (h:jM L v xs W):jd (jM L v xs) W L W.heap.size:=⟨h,fun w' hk => by
 obtain ⟨S,h1,h2⟩:=h
 have hS:∀ k,S k→w'.heap[k]?=W.heap[k]?:=fun k hs => hk k (h2 k hs).1 (h1.sep k hs).1 (h2 k hs).2
 have hO:∀ k,v.ownBlock=some k→w'.heap[k]?=W.heap[k]?:=fun k ho => hk k (h1.lt k ho).1 (h1.lt k ho).2 (h1.FZ ho)
 obtain ⟨⟨cs,h3,h4⟩,h5⟩:=h1
 exact ⟨S,⟨⟨cs,kP h3 hO,fun i hi => (h4 i hi).keep (fun p hp => World.cell?_of_block (hS p.block hp)) (fun _ h => h)⟩,fun k hs => ⟨Xz (hS k hs) (h5 k hs).1,(h5 k hs).2⟩⟩,fun k hs => ⟨(h2 k hs).1,iy.to (hS k hs) (h2 k hs).2⟩⟩,Nat.le_refl _⟩
theorem jM.lt {L:Nat} {v:Value} {xs:List Val} {W:World} (h:jM L v xs W):∀ k,v.ownBlock=some k→L≤k∧k < W.heap.size∧iy W k:=fun k hk => by
 obtain ⟨S,h1,_⟩:=h;exact ⟨(h1.lt k hk).1,(h1.lt k hk).2,h1.FZ hk⟩
theorem jM.form {L:Nat} {v:Value} {xs:List Val} {W:World} (h:jM L v xs W):∃ A c,v = .slice A xs.length c:=by
 obtain ⟨S,h1,_⟩:=h;exact h1.form
theorem jM.row {L:Nat} {v:Value} {xs:List Val} {w W:World} (h:jM L v xs W) (hL:w.heap.size≤L):jv W (lV w W) v xs:=by
 obtain ⟨S,h1,h2⟩:=h
 exact h1.row.keep (fun _ _ => rfl) fun k hk => hk.elim (fun hs => ⟨Nat.le_trans hL (h2 k hs).1,(h1.sep k hs).1,(h2 k hs).2⟩) (fun ho => ⟨Nat.le_trans hL (h1.lt k ho).1,(h1.lt k ho).2,h1.FZ ho⟩)
theorem Qu {w W:World} {k id:Int} {L1 L2:Nat} {ks is:List Val} {vk vi:Value} (h1:jv W (lV w W) vk ks) (h2:jv W (lV w W) vi is) (hk:I64 k) (hi:I64 id) (hl1:ks.length≤L1) (hl2:is.length≤L2) (hL1:L1≤1172812402926) (hL2:L2≤1172812402926) :
  jq W (lV w W) (.mk k false 0 [] id ks is []) vk vi (.slice none 0 0) :=
 ⟨⟨hk,by simp [I64,Val.num],hi⟩,by simp [Val.str],⟨Nat.le_trans hl1 hL1,Nat.le_trans hl2 hL2,by simp [Val.rest]⟩,by simp [Val.rest],h1,h2,by simp [Val.rest,iV],none,0,rfl,Nat.le_refl _,.inl rfl⟩
theorem qy (W:World) (S:Nat→Prop):jv W S (.slice none 0 0) []:=⟨fun _ => [],⟨none,0,rfl,Nat.le_refl _,.inl rfl⟩,fun i h => by simp at h⟩
theorem qx {ops:Array Oper} {rest:List Oper} {op:Oper} {a:Act} {w:World} {Q:Exit→Act→World→Prop} (hgd:op.guard=none) (s x:Operand)
  (ho:op.op = .call { callee:=.builtin .append,args:=#[s,x],argTypes:=#[27,27] }) {L Lp Bp:Nat} {v:Value} {xs:List Val} {y:Val} {vk vi vr:Value} {T:TypeId} {cs:Array Value} (hT:T=30) (hcs:cs=(iQ y vk vi vr).toArray)
  (ht:jM L v xs w) (hs:a.eval s=v) (hx:a.eval x = .slice (some ⟨w.heap.size,0,none⟩) 1 1) (hy:su Lp Bp y vk vi vr w) (hyo:∀ k,v.ownBlock=some k→k < Lp) (hBp:Bp≤w.heap.size) (hLp:L≤Lp)
  (hn:xs.length < 900000) (hB:L≤w.heap.size)
  (h:∀ v' w1,jM L v' (xs ++ [y]) w1→Below L w w1→(∀ k,k < w.heap.size→v.ownBlock≠some k→w1.heap[k]?=w.heap[k]?)→wpList Tryz.prog ops Q rest (a.put op.dst v') w1):wpList Tryz.prog ops Q (op :: rest) a (w.alloc (.cells cs T)):=by
 subst hT;subst hcs
 obtain ⟨S,hO,hS⟩:=ht
 obtain ⟨Sy,hY,zy⟩:=hy
 have hal:∀ k,k < w.heap.size→(w.alloc (.cells (iQ y vk vi vr).toArray 30)).heap[k]?=w.heap[k]?:=fun k hk => (aB (w:=w) rfl).block k hk
 have hG:Has (w.alloc (.cells (iQ y vk vi vr).toArray 30)) w.heap.size 30 (iQ y vk vi vr).toArray:=Has.made _ _ _
 have hO1:gQ (w.alloc (.cells (iQ y vk vi vr).toArray 30)) L S v xs:=hO.keep (fun k hk _ => hal k hk) (by simp)
 have hY1:jT (w.alloc (.cells (iQ y vk vi vr).toArray 30)) Sy y (iQ y vk vi vr).toArray.toList:=hY.rd.keep (fun p hp => World.cell?_of_block (hal p.block (Nat.lt_of_lt_of_le (zy _ hp).2.1 hBp))) (fun _ h => h)
 rw [wpList]
 have hw:Region.wanted op (yielded ops a.tmps)=true:=by simp [Region.wanted,hgd]
 rw [if_pos hw]
 left
 suffices hh:(if Region.wanted op (yielded ops a.tmps)=true then Oper.wp Tryz.prog op a (w.alloc (.cells (iQ y vk vi vr).toArray 30)) (wpList Tryz.prog ops Q rest) Q else True) by rwa [if_pos hw] at hh
 refine xY (ops:=ops) hgd s x ho hO1 hs hG hx hY1 (fun k hk => ⟨by have:=(zy k hk).2.1;simp;omega,fun e => by have:=hyo k e;have:=(zy k hk).1;omega⟩) hn (by simp;omega) ?_
 intro v' w1 h1 _ h3 h4
 refine h v' w1 ⟨_,h1,fun k hk => ?_⟩ ((aB (w:=w) rfl).mono hB |>.trans h3) (fun k hk hne => (h4 k (by simp;omega) hne).trans (hal k hk))
 have hkw:k < w.heap.size∧v.ownBlock≠some k∧L≤k∧iy w k:=hk.elim (fun hs => ⟨(hO.sep k hs).1,(hO.sep k hs).2,(hS k hs).1,(hS k hs).2⟩) (fun hs => ⟨by have:=(zy k hs).2.1;omega,fun e => by have:=hyo k e;have:=(zy k hs).1;omega,by have:=(zy k hs).1;omega,(zy k hs).2.2⟩)
 exact ⟨hkw.2.2.1,iy.to ((h4 k (by simp;omega) hkw.2.1).trans (hal k hkw.1)) hkw.2.2.2⟩
section
variable {w W W':World} {gr L B:Nat} {P:World→Prop} {tv fp:Value} {fn:Int} {path:List Int} {row:Option Nat}
theorem rG {q:Option (List Int)} (R:Hid (jF W gr tv fp fn path q)) (hk:∀ k,k < W.heap.size→row≠some k→W'.heap[k]?=W.heap[k]?) (hn:∀ k,row=some k→gr < k∧iy W k):Hid (jF W' gr tv fp fn path q):=by
 have ho:∀ (b:Nat) (v:Value) (n:Nat) (xs:List Value),W.ownsRow (gr+1) 3 1 v n xs→v.ownBlock=some b→row≠some b:=fun b v n xs h hb e => by
  rcases h.2 with ⟨rfl,_⟩ | ⟨g,cap,cur,rfl,_,hh,_⟩
  · simp [Value.ownBlock] at hb
  simp only [Value.ownBlock,Option.some.injEq] at hb
  subst hb;exact (hn _ e).2 _ _ hh
 obtain ⟨⟨pv,h1,h2⟩,h3⟩:=R.out
 exact ⟨⟨pv,(hk gr h1.here (fun e => by have:=(hn _ e).1;omega)).trans h1,kP h2 fun k hb => hk k (h2.lt k hb).2 (ho k _ _ _ h2 hb)⟩,fun p hp => kP (h3 p hp) fun k hb => hk k ((h3 p hp).lt k hb).2 (ho k _ _ _ (h3 p hp) hb)⟩
theorem nG (h:Hid (jd P W L B)) (hk:∀ k,k < W.heap.size→row≠some k→W'.heap[k]?=W.heap[k]?) (hn:∀ k,row=some k→B≤k) (hs:W.heap.size≤W'.heap.size):Hid (jd P W' L B) :=
 h.out.move (fun k _ h2 _ => hk k (Nat.lt_of_lt_of_le h2 h.out.le) (fun e => by have:=hn k e;omega)) hs
end
structure NQ (wx:World) (gr:Nat) (tv:Value) (path:List Int) (r:fO) (lo:Nat) (s1 s2:Value):Prop where
 ex:∃ (gI:Nat) (fp:Value) (fn:Int) (c0 c1 c2 c3 c4 c5 c6 c7:Value) (bb:Bool) (L B:Nat),s1 = .pointer (some ⟨gI,0,none⟩)∧s2 = .bool bb∧(∀ u ∈ [c0,c1,c2,c3,c4,c5,c6,c7],u.oneCell'=true)∧Has wx gI 30 #[c0,c1,c2,c3,c4,c5,c6,c7] ∧
  jF wx gr tv fp fn path (ahP r)∧jd (af0 L B r fn [c0,c1,c2,c3,c4,c5,c6,c7] bb) wx L B∧lo < L∧lo < gI∧(gI < L∨B≤gI)
end Go.Proofs.YthkfapcadhnaeaaGreatDoor
namespace Go.Proofs.YthkfapcadhnaeaaGreatDoor
open Go.ChangeShapes Go.WideShapes Go.ChangeAt Go.RowKit
set_option maxRecDepth 100000 in
theorem aa9 (gr:Nat) (tv fp:Value) (fn:Int) (path:List Int) (s t:Int) (p:List UInt8) (r:fO) (w:World) (hp:path.length≤1000) (hR:jf w gr tv fp fn path)
  (Vl:∀ (W:World) (fp':Value) (fn':Int),aP w gr W→jf W gr tv fp' fn' (path ++ [s])→Calls Tryz.prog 69 #[.pointer (some ⟨gr,0,none⟩),.int .i64 t,.string ⟨p.toArray⟩] W (cO gr tv (path ++ [s]) W r)) :
  Calls Tryz.prog 94 #[.pointer (some ⟨gr,0,none⟩),.int .i64 s,.int .i64 t,.string ⟨p.toArray⟩] w (cO gr tv path w r):=by
 obtain ⟨pv,hrow,hown⟩:=hR.row
 have hgr:=hrow.here
 have HO:=Lib.hid hown
 have HP:=Lib.hid Vl
 clear hR hown Vl
 replace hrow:=Lib.hid hrow
 go_enter Tryz.func94,Tryz.ntmps94
 go_upto_region 1 with fail
 generalize dJ:w.alloc _=wd2
 have ⟨hb1,Z⟩:=bH dJ
 clear dJ
 replace hrow:=b1 hrow hb1
 have hw4:=hb1
 clear hb1
 have Ku:=hrow.out.e0
 have nO:=hrow.out.e1
 have hown1:=own_below HO.out hw4
 have hs1:=(hw4).size
 have hlt:=HO.out.lt
 go_upto_region 2 with (at_builtin;refine gW rfl _ _ _ rfl (gr+1) 3 _ 1 8 Tryz.underlying36 jP rfl (by decide) pv path.length (path.map iZ) rfl hown1 [_] _ 1 _ rfl rfl rfl (by simp [Value.oneCell']) (by omega) (by omega) (by omega) ?_;intro g2 cap2 w3 hown3 hg3 Gz hb3;have R3:Hid (Has w3 gr 131 #[tv,pv,fp,.int .i64 fn]):=Lib.hid ((hb3.block gr (by omega)).trans hrow.out);have r3:w3.cell? ⟨gr,1,none⟩=some pv:=R3.out.cell 1;have r4:=R3.out.free 1;clear Ku nO)
 have hzw:wd2.heap[w.heap.size]?=some (.cells #[.int .i64 0,.bool false,.int .i64 0,.string ⟨#[]⟩,.int .i64 0,.slice none 0 0,.slice none 0 0,.slice none 0 0] 30 (0,0)):=Z.out
 have hz2:=Z.out.here
 have Ka:aP wd2 gr (wd2.alloc (.cells #[.int .i64 s] 3)):=aP.of_below ((Below.refl _ _).alloc (Nat.le_refl _) _) (by omega)
 have K3:aP w gr w3:=(aP.of_below hw4 (Nat.le_of_lt hgr)).trans (Ka.trans (aP.grown hg3 (hown1.alloc _) (Nat.lt_succ_self gr) (by simp;omega)))
 have Z3:Hid (Has w3 w.heap.size 30 #[.int .i64 0,.bool false,.int .i64 0,.string ⟨#[]⟩,.int .i64 0,.slice none 0 0,.slice none 0 0,.slice none 0 0]) :=
  Lib.hid ((hg3.block w.heap.size (by simp;omega) (fun e => by have:=hlt _ e.symm;omega)).trans ((Z.out.alloc _)))
 obtain ⟨w4,hE⟩ : ∃ ww,ww=w3.setCell ⟨gr,1,none⟩ (.slice (some ⟨g2,0,none⟩) (path.length+1) cap2):=⟨_,rfl⟩
 rw [← hE]
 have K4:aP w gr w4:=hE ▸ K3.trans (aP.setCell _ _ _ _)
 have O4:=oQ hown3 (Nat.lt_succ_self gr) 1 (.slice (some ⟨g2,0,none⟩) (path.length+1) cap2)
 rw [← hE] at O4
 have Z4:=dF Z3 hE (show w.heap.size≠gr by omega)
 have R4:Has w4 gr 131 #[tv,.slice (some ⟨g2,0,none⟩) (path.length+1) cap2,fp,.int .i64 fn]:=by simpa using dS R3 hE
 have HC:=Lib.hid (HP.out w4 fp fn K4 ⟨_,R4,by simpa [iZ] using O4⟩)
 clear hE Z3 R3 r3 r4 K3 Ka hg3 hb3 hown3 hown1 hzw Z hrow
 go_wp2_with fail
 refine HC.out.mono ?_
 intro e w5 h5
 obtain ⟨c0,c1,c2,c3,c4,c5,c6,c7,bb,h1,rfl⟩:=h5.form
 obtain ⟨fp',fn',⟨pv5,QE,QF⟩,K5,h5'⟩:=h5
 have H5:=Lib.hid h5'
 clear h5' HC
 have M5:=Has.made w5 30 #[.int .i64 0,.bool false,.int .i64 0,.string ⟨#[]⟩,.int .i64 0,.slice none 0 0,.slice none 0 0,.slice none 0 0]
 have h1':(#[c0,c1,c2,c3,c4,c5,c6,c7] : Array Value).all (·.oneCell')=true:=by simpa using h1
 go_upto_region 3 with (refine wpList_store_row rfl 30 _ _ rfl w5.heap.size _ rfl rfl 30 _ M5 (by kernel_rfl) rfl h1' ?_)
 obtain ⟨w6,oV⟩ : ∃ ww,ww=(w5.alloc (.cells #[.int .i64 0,.bool false,.int .i64 0,.string ⟨#[]⟩,.int .i64 0,.slice none 0 0,.slice none 0 0,.slice none 0 0] 30)).setRow w5.heap.size #[c0,c1,c2,c3,c4,c5,c6,c7]:=⟨_,rfl⟩
 rw [← oV]
 have hs5:=K5.size
 have hs4:=K4.size
 have B6:Below w5.heap.size w5 w6:=oV ▸ below_setRow ((Below.refl w5.heap.size w5).alloc (Nat.le_refl _) _) (Nat.le_refl _) _
 have M6:=dO (Lib.hid M5) oV
 have R6:Has w6 gr _ _:=(B6.block gr (by omega)).trans QE
 have O6:=own_below QF B6
 rw [List.length_append,List.map_append] at O6
 obtain ⟨g6,cap6,rfl,hcap,QG⟩:=PZ O6 (by simp)
 have r1:w6.cell? ⟨gr,1,none⟩=some (.slice (some ⟨g6,0,none⟩) (path.length+1) cap6):=R6.cell 1
 have r2:=R6.free 1
 clear oV M5
 have i1:wrap64 (((path.length+1:Nat):Int) - 1)=(path.length:Int):=by unfold wrap64;omega
 have i2:((path.length:Int)).toNat=path.length:=by omega
 have i3:¬ ((path.length:Int) < 0):=by omega
 have i4:path.length≤cap6:=by omega
 clear O6 hcap
 go_region
 obtain ⟨w7,iT⟩ : ∃ ww,ww=(w6.setCell ⟨gr,1,none⟩ (.slice (some ⟨g6,0,none⟩) path.length cap6)).drew:=⟨_,rfl⟩
 rw [← iT]
 have hz4:=Z4.out.here
 have Z6:Hid (Has w6 w.heap.size _ _):=Lib.hid ((B6.block w.heap.size (by omega)).trans ((K5.block w.heap.size hgr (by omega) (fun c f e => by rw [Z4.out] at e;injection e with e1;injection e1 with _ e2;exact absurd e2 (by decide))).trans Z4.out))
 have M7:Has w7 w5.heap.size 30 #[c0,c1,c2,c3,c4,c5,c6,c7]:=by rw [iT];exact (dF M6 rfl (show w5.heap.size≠gr by omega)).out
 have Z7:Has w7 w.heap.size 30 #[.int .i64 0,.bool false,.int .i64 0,.string ⟨#[]⟩,.int .i64 0,.slice none 0 0,.slice none 0 0,.slice none 0 0]:=by rw [iT];exact (dF Z6 rfl (show w.heap.size≠gr by omega)).out
 have gB6:gr < w5.heap.size:=by omega
 have K6:aP w gr w6:=K4.trans (K5.trans (aP.of_below B6 (by omega)))
 have K7:aP w gr w7:=by rw [iT];exact (K6.trans (aP.setCell _ _ _ _)).drew
 have K57:aP w5 gr w7:=by rw [iT];exact ((aP.of_below B6 (Nat.le_of_lt gB6)).trans (aP.setCell _ _ _ _)).drew
 have R7:Has w7 gr 131 #[tv,.slice (some ⟨g6,0,none⟩) path.length cap6,fp',.int .i64 fn']:=by rw [iT];exact (dS (Lib.hid R6) (i:=1) (v:=.slice (some ⟨g6,0,none⟩) path.length cap6) rfl).drew
 have O7:w7.ownsRow (gr+1) 3 1 (.slice (some ⟨g6,0,none⟩) path.length cap6) path.length (path.map iZ):=by rw [iT];exact oQ QG (Nat.lt_succ_self gr) 1 _
 have F7:∀ n ys,w5.ownsRow (gr+1) 3 1 fp' n ys→w7.ownsRow (gr+1) 3 1 fp' n ys:=fun n ys hy => by rw [iT];exact oQ (own_below hy B6) (Nat.lt_succ_self gr) 1 _
 obtain ⟨m0,m1,m2,m3,m4,m5,m6,m7⟩:=M7.c8
 have HR8:Hid (∀ cs',jf (w7.setRow w.heap.size cs') gr tv fp' fn' path):=Lib.hid fun cs' => (FV (jF.of ⟨_,R7,O7⟩) Z7 (by decide) (by omega) fun k hk => setRow_other _ _ _ _ hk).at_
 have HF8:Hid (∀ n ys cs',w5.ownsRow (gr+1) 3 1 fp' n ys→(w7.setRow w.heap.size cs').ownsRow (gr+1) 3 1 fp' n ys):=Lib.hid fun n ys cs' hy => kP (F7 n ys hy) fun k hb => setRow_other _ _ _ _ (fun e => qp (F7 n ys hy) Z7 (by decide) (e ▸ hb))
 have HN8:Hid (∀ cs' b,lV w4 w5 b→(w7.setRow w.heap.size cs').heap[b]?=w5.heap[b]?∧lV w (w7.setRow w.heap.size cs') b):=Lib.hid fun cs' b hb => by
  have h1:=hb.1
  obtain ⟨e1,n1⟩:=hb.keep (by omega) K57
  have e2:(w7.setRow w.heap.size cs').heap[b]?=w7.heap[b]?:=setRow_other _ _ _ _ (by omega)
  exact ⟨e2.trans e1,by omega,by rw [setRow_size];exact n1.2.1,fun c f e => n1.2.2 c f (e2.symm.trans e)⟩
 have QH:=Lib.hid Z7
 have HK7:=Lib.hid K7
 clear iT R7 O7 F7 r1 r2 i1 i2 i3 i4 M6 Z6 R6 B6 Z4 R4 QE QF QG O4 K6 Z7 M7 K57 K7 K4 K5
 go_upto_region 4 with fail
 go_wp2_with (refine wpList_store_row rfl 30 _ _ rfl w.heap.size _ rfl rfl 30 _ QH.out (by kernel_rfl) rfl h1' ?_)
 obtain ⟨z0,z1,z2,z3,z4,z5,z6,z7⟩:=(iU QH.out #[c0,c1,c2,c3,c4,c5,c6,c7]).c8
 refine bodyPost_ret (v:=.tuple #[.agg #[c0,c1,c2,c3,c4,c5,c6,c7],.bool bb]) (by simp [results,Tryz.results94,go_sem,z0,z1,z2,z3,z4,z5,z6,z7]) rfl ?_
 refine ⟨fp',fn',HR8.out _,oZ HK7.out hgr rfl (Nat.le_refl _),?_⟩
 have H5:=H5.out
 cases r with
 | ok v =>
  obtain ⟨vk,vi,vr,he,hv⟩:=H5
  exact ⟨vk,vi,vr,he,hv.keep (fun p hp => World.cell?_of_block (HN8.out _ p.block hp).1) (fun b hb => (HN8.out _ b hb).2)⟩
 | error q =>
  obtain ⟨p,n⟩:=q
  obtain ⟨h1,h2,h3⟩:=H5
  exact ⟨h1,HF8.out _ _ _ h2,h3⟩
end Go.Proofs.YthkfapcadhnaeaaGreatDoor
