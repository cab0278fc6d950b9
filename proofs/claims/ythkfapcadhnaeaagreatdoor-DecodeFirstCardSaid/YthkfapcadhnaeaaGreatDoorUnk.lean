/- unknown. No condition. -/
import Derived.Test.YthkfapcadhnaeaaGreatDoorHAD
import Derived.Test.YthkfapcadhnaeaaGreatDoorDecG
set_option maxHeartbeats 1600000
namespace Go.Proofs.YthkfapcadhnaeaaGreatDoor
open Go.ChangeShapes Go.WideShapes Go.ChangeAt Go.RowKit
theorem aeC (a b c:Int):wrap64 (IntKind.i64.wrap (a+wrap64 b)+c)=wrap64 (a+(b+c)):=by rw [IntKind.wrap_i64];unfold wrap64;omega
theorem aiI (a:Int):IntKind.i64.wrap a=wrap64 (IntKind.i64.wrap a):=by rw [IntKind.wrap_i64];unfold wrap64;omega
def akN (ts:List aC) (tv:Value) (l:List Val):Prop := ∀ y ∈ l,∀ (t:Int) (yk yi yr:Value) (W:World),zh ts false y t=true→ValAt W W.heap.size y yk yi yr→bG W W.heap.size tv ts →
 Calls Tryz.prog 47 #[.agg #[tv],.int .i64 t,iC y yk yi yr] W fun e w' => e = .returned (.int .i64 (wrap64 (ny ts y t)))∧Below W.heap.size W w'
set_option maxRecDepth 100000 in
theorem aeD
 (ts:List aC) (A:Option Addr) (c n:Nat) (v:Val) (A1 A2 A3:Option Addr) (n1 n2 n3:Nat) (w:World) (hn:n < ts.length) (hk:ts[n].kind=2) (hkv:v.kind=2)
 (ht:bG w w.heap.size (.slice A ts.length c) ts) (hv:ValAt w w.heap.size v (.slice A1 v.keys.length n1) (.slice A2 v.items.length n2) (.slice A3 v.rest.length n3)) :
 Calls Tryz.prog 47 #[.agg #[.slice A ts.length c],.int .i64 n,iC v (.slice A1 v.keys.length n1) (.slice A2 v.items.length n2) (.slice A3 v.rest.length n3)] w fun e w' => e = .returned (.int .i64 (wrap64 (ny ts v n)))∧Below w.heap.size w w':=by
 obtain ⟨b,o,rfl,hbb,hel⟩:=ht.elem (by omega)
 obtain ⟨vs,vm,hcells,hx⟩:=hel n hn
 clear hel
 have hxt:fB ts n=some ts[n]:=by unfold fB;rw [if_pos (by omega)];simp [hn]
 have HE:=Lib.hid (Jt ts v n ts[n] hxt)
 skip
 generalize ts[n]=x at *
 obtain ⟨C1,l1,C2,l2,rfl,rfl,-,-⟩:=hx.forms
 have hlt:(n:Int) < ts.length:=by omega
 have hd0:decide ((n:Int) < 0)=false:=by simp
 have hd1:decide (ts.length≤n)=false:=by simpa using hn
 have HX:=Lib.hid hx
 have HT:=Lib.hid ht
 have HV:=Lib.hid hv
 have HC:=Lib.hid hcells
 have iq:=Lib.hid hk
 have hxs:=hx.lens
 have hvl:=hv.lens
 simp only [iC,hkv]
 clear hx ht hcells hn hv hxt hkv
 go_enter Tryz.func47,Tryz.ntmps47
 go_upto_region 1 with fail
 generalize qB:w.alloc _=lD
 generalize xQ:lD.alloc _=rE
 have ⟨o7,S,I⟩:=dN qB xQ
 clear qB xQ
 have WO:=o7
 clear o7
 obtain ⟨c0,c1,c2,c3,c4,c5,c6,c7,c8,c9⟩:=HC.out.below (WO) (by omega)
 rw [hk] at c0
 have ay:=S.out.e0
 obtain ⟨iI,iJ,iK,iL,iM,iO,iw,iP⟩:=I.out.c8
 go_upto_region 2 with fail
 clear c0 c1 c2 c3 c4 c5 c6 c7 c8 c9 hd0 hd1
 clear ay iI iJ iK iL iM iO iw iP
 generalize qF:rE.alloc _=qj
 have ⟨jw,X⟩:=bH qF
 clear qF
 have Gf:=S.out.here
 have PW:=I.out.here
 have Vb:=WO.size
 obtain ⟨S,I⟩:=b2 S I jw
 replace WO:=dT WO jw
 clear jw
 generalize rE.heap.size=g23 at *
 obtain ⟨gX,rfl⟩ : ∃ g,g=g23:=⟨_,rfl⟩
 have Rj:w.heap.size+1 < gX:=by omega
 obtain ⟨iI,iJ,iK,iL,iM,iO,iw,iP⟩:=I.out.c8
 obtain ⟨aI,bI,bQ,bT,bW,dD,bK,bJ,bZ,bM⟩:=X.out.c10
 have HR:Hid (wrap64 (ny ts v n)=(v.rest.length:Int)):=by show _=_;rw [HE.out];simp [OH,iq.out];unfold wrap64;omega
 go_wp2_with fail
 go_ret
 exact ⟨aV (by rw [HR.out]),WO⟩
set_option maxRecDepth 100000 in
theorem aeE
 (ts:List aC) (A:Option Addr) (c n:Nat) (v:Val) (A1 A2 A3:Option Addr) (n1 n2 n3:Nat) (w:World) (hn:n < ts.length) (hk:ts[n].kind=3) (hkv:v.kind=3)
 (ht:bG w w.heap.size (.slice A ts.length c) ts) (hv:ValAt w w.heap.size v (.slice A1 v.keys.length n1) (.slice A2 v.items.length n2) (.slice A3 v.rest.length n3)) :
 Calls Tryz.prog 47 #[.agg #[.slice A ts.length c],.int .i64 n,iC v (.slice A1 v.keys.length n1) (.slice A2 v.items.length n2) (.slice A3 v.rest.length n3)] w fun e w' => e = .returned (.int .i64 (wrap64 (ny ts v n)))∧Below w.heap.size w w':=by
 obtain ⟨b,o,rfl,hbb,hel⟩:=ht.elem (by omega)
 obtain ⟨vs,vm,hcells,hx⟩:=hel n hn
 clear hel
 have hxt:fB ts n=some ts[n]:=by unfold fB;rw [if_pos (by omega)];simp [hn]
 have HE:=Lib.hid (Jt ts v n ts[n] hxt)
 skip
 generalize ts[n]=x at *
 obtain ⟨C1,l1,C2,l2,rfl,rfl,-,-⟩:=hx.forms
 have hlt:(n:Int) < ts.length:=by omega
 have hd0:decide ((n:Int) < 0)=false:=by simp
 have hd1:decide (ts.length≤n)=false:=by simpa using hn
 have HX:=Lib.hid hx
 have HT:=Lib.hid ht
 have HV:=Lib.hid hv
 have HC:=Lib.hid hcells
 have iq:=Lib.hid hk
 have hxs:=hx.lens
 have hvl:=hv.lens
 simp only [iC,hkv]
 clear hx ht hcells hn hv hxt hkv
 go_enter Tryz.func47,Tryz.ntmps47
 go_upto_region 1 with fail
 generalize uU:w.alloc _=zQ
 generalize mO:zQ.alloc _=nX
 have ⟨oK,S,I⟩:=dN uU mO
 clear uU mO
 have hw32:=oK
 clear oK
 obtain ⟨c0,c1,c2,c3,c4,c5,c6,c7,c8,c9⟩:=HC.out.below (hw32) (by omega)
 rw [hk] at c0
 have ay:=S.out.e0
 obtain ⟨iI,iJ,iK,iL,iM,iO,iw,iP⟩:=I.out.c8
 go_upto_region 2 with fail
 clear c0 c1 c2 c3 c4 c5 c6 c7 c8 c9 hd0 hd1
 clear ay iI iJ iK iL iM iO iw iP
 generalize wR:nX.alloc _=tV
 have ⟨qK,X⟩:=bH wR
 clear wR
 have adg:=S.out.here
 have aiu:=I.out.here
 have acB:=hw32.size
 obtain ⟨S,I⟩:=b2 S I qK
 replace hw32:=dT hw32 qK
 clear qK
 generalize nX.heap.size=g36 at *
 obtain ⟨gX,rfl⟩ : ∃ g,g=g36:=⟨_,rfl⟩
 have Rj:w.heap.size+1 < gX:=by omega
 obtain ⟨iI,iJ,iK,iL,iM,iO,iw,iP⟩:=I.out.c8
 obtain ⟨aI,bI,bQ,bT,bW,dD,bK,bJ,bZ,bM⟩:=X.out.c10
 have HR:Hid (wrap64 (ny ts v n)=(v.rest.length:Int)):=by show _=_;rw [HE.out];simp [OH,iq.out];unfold wrap64;omega
 go_wp2_with fail
 go_ret
 exact ⟨aV (by rw [HR.out]),hw32⟩
set_option maxRecDepth 100000 in
theorem adT
 (ts:List aC) (A:Option Addr) (c n:Nat) (v:Val) (A1 A2 A3:Option Addr) (n1 n2 n3:Nat) (w:World) (hn:n < ts.length) (hk:ts[n].kind=5) (hkv:v.kind=5)
 (ht:bG w w.heap.size (.slice A ts.length c) ts) (hv:ValAt w w.heap.size v (.slice A1 v.keys.length n1) (.slice A2 v.items.length n2) (.slice A3 v.rest.length n3)) (hf:zh ts false v n=true) (hU:akN ts (.slice A ts.length c) (v.keys ++ v.items)) :
 Calls Tryz.prog 47 #[.agg #[.slice A ts.length c],.int .i64 n,iC v (.slice A1 v.keys.length n1) (.slice A2 v.items.length n2) (.slice A3 v.rest.length n3)] w fun e w' => e = .returned (.int .i64 (wrap64 (ny ts v n)))∧Below w.heap.size w w':=by
 obtain ⟨b,o,rfl,hbb,hel⟩:=ht.elem (by omega)
 obtain ⟨vs,vm,hcells,hx⟩:=hel n hn
 clear hel
 have hxt:fB ts n=some ts[n]:=by unfold fB;rw [if_pos (by omega)];simp [hn]
 have HE:=Lib.hid (Jt ts v n ts[n] hxt)
 have hfit:=ame hxt hf hk;have HF:= Lib.hid hfit.2;have hil:=Lib.hid hfit.1;have HUn:=Lib.hid hU;clear hf hU hfit
 generalize ts[n]=x at *
 obtain ⟨C1,l1,C2,l2,rfl,rfl,-,-⟩:=hx.forms
 have hlt:(n:Int) < ts.length:=by omega
 have hd0:decide ((n:Int) < 0)=false:=by simp
 have hd1:decide (ts.length≤n)=false:=by simpa using hn
 have HX:=Lib.hid hx
 have HT:=Lib.hid ht
 have HV:=Lib.hid hv
 have HC:=Lib.hid hcells
 have iq:=Lib.hid hk
 have hxs:=hx.lens
 have hvl:=hv.lens
 simp only [iC,hkv]
 clear hx ht hcells hn hv hxt hkv
 go_enter Tryz.func47,Tryz.ntmps47
 go_upto_region 1 with fail
 generalize tK:w.alloc _=Bq
 generalize kH:Bq.alloc _=oL
 have ⟨IG,S,I⟩:=dN tK kH
 clear tK kH
 have jc:=IG
 clear IG
 obtain ⟨c0,c1,c2,c3,c4,c5,c6,c7,c8,c9⟩:=HC.out.below (jc) (by omega)
 rw [hk] at c0
 have ay:=S.out.e0
 obtain ⟨iI,iJ,iK,iL,iM,iO,iw,iP⟩:=I.out.c8
 go_upto_region 2 with fail
 clear c0 c1 c2 c3 c4 c5 c6 c7 c8 c9 hd0 hd1
 clear ay iI iJ iK iL iM iO iw iP
 generalize nV:oL.alloc _=wG
 have ⟨pF,X⟩:=bH nV
 clear nV
 have IW:=S.out.here
 have Gt:=I.out.here
 have L9:=jc.size
 obtain ⟨S,I⟩:=b2 S I pF
 replace jc:=dT jc pF
 clear pF
 generalize oL.heap.size=g64 at *
 obtain ⟨gX,rfl⟩ : ∃ g,g=g64:=⟨_,rfl⟩
 have Rj:w.heap.size+1 < gX:=by omega
 obtain ⟨iI,iJ,iK,iL,iM,iO,iw,iP⟩:=I.out.c8
 obtain ⟨aI,bI,bQ,bT,bW,dD,bK,bJ,bZ,bM⟩:=X.out.c10
 have HR:Hid (wrap64 (ny ts v n)=wrap64 ((v.rest.length:Int)+wY ts v.items x.aj)):=by show _=_;rw [HE.out];simp [OH,iq.out]
 have hl0:Hid (Has wG w.heap.size _ _∧Has wG (w.heap.size+1) _ _∧Has wG gX _ _∧Below w.heap.size w wG):=Lib.hid ⟨S.out,I.out,X.out,jc⟩
 go_upto_region 10 with fail
 clear S I X
 go_loopw [47,8] (fun i s wr => ∃ (k:Nat) (a:Int),i = .int .i64 (k:Int)∧s = .int .i64 a∧k≤v.items.length∧wrap64 a=a∧wrap64 (a+wY ts (v.items.drop k) (x.aj.drop k))=wrap64 (ny ts v n)∧Has wr w.heap.size 24 #[.slice (some ⟨b,o,none⟩) ts.length c]∧Has wr (w.heap.size+1) 30 #[.int .i64 5,.bool v.bool,.int .i64 v.num,.string ⟨v.str.toArray⟩,.int .i64 v.id,.slice A1 v.keys.length n1,.slice A2 v.items.length n2,.slice A3 v.rest.length n3]∧Has wr gX 69 #[.int .i64 5,.string ⟨x.name.toArray⟩,.int .i64 x.low,.int .i64 x.high,.int .i64 x.max,.slice C1 x.syms.length l1,.slice C2 x.aj.length l2,.int .i64 x.key,.int .i64 x.elem,.bool x.opn]∧Below w.heap.size w wr) (fun i _ _ => v.items.length - (intOf i).toNat)
 case atStart => exact ⟨0,_,rfl,rfl,by omega,by unfold wrap64;omega,HR.out.symm,hl0.out⟩
 case round =>
  clear hl0
  obtain ⟨k,a,rfl,rfl,hk1,ha,hp,S,I,X,hbr⟩:=hrel
  replace S:=Lib.hid S
  replace I:=Lib.hid I
  replace X:=Lib.hid X
  by_cases hlt:k < v.items.length
  ·
   have hlt2:k < x.aj.length:=by have:=hil.out;omega
   have hfk:=HF.out k hlt hlt2
   have hmem:v.items[k] ∈ v.keys ++ v.items:=List.mem_append.2 (.inr (List.getElem_mem hlt))
   obtain ⟨b1,o1,rfl,anP,aiJ⟩:=HV.out.items.elem (by omega)
   obtain ⟨yk,yi,yr,hc1,hya⟩:=aiJ k hlt
   obtain ⟨b2,o2,rfl,LW,aiK⟩:=HX.out.aj.elem (by omega)
   obtain ⟨mk,mi,mr,hc2,hma⟩:=aiK k hlt2
   rw [abG ts v.items x.aj k hlt hlt2] at hp
   have HU1:=Lib.hid (fun W yk yi yr h1 h2 => HUn.out _ hmem x.aj[k].ty yk yi yr W hfk h1 h2)
   have hm2:w.cell? ⟨b2,o2+k*13+2,none⟩=some (.int .i64 x.aj[k].ty):=hc2.2.2.1
   generalize v.items[k]=y at *
   generalize x.aj[k].ty=mt at *
   have HYA:=Lib.hid hya
   have Hp:=Lib.hid hp
   have yK:(k:Int) < v.items.length:=by omega
   have aqz:(k:Int) < x.aj.length:=by omega
   have hd0:decide ((k:Int) < 0)=false:=by simp
   have hd1:decide (x.aj.length≤k)=false:=by simpa using hlt2
   obtain ⟨E1,k1,E2,k2,E3,k3,rfl,rfl,rfl,-,-,-⟩:=hya.forms
   obtain ⟨y0,y1,y2,y3,y4,y5,y6,y7⟩:=hc1.below hbr anP
   clear aiJ aiK hma hya hc1 hc2 hp hfk hmem
   have iw:=I.out.e6
   go_upto_region 12 with fail
   clear y0 y1 y2 y3 y4 y5 y6 y7
   clear iw
   generalize tX:wr.alloc _=DU
   have ⟨aeF,Y⟩:=bH tX
   clear tX
   have PO:=S.out.here
   have LG:=I.out.here
   have UD:=X.out.here
   have Py:=hbr.size
   obtain ⟨S,I,X⟩:=b3 S I X aeF
   replace hbr:=dT hbr aeF
   clear aeF
   generalize wr.heap.size=RI at *
   have ay:=S.out.e0
   have bK:=X.out.e6
   obtain ⟨kY,kZ,lg,lq,lu,nZ,mM,oh⟩:=Y.out.c8
   refine wp_region_held_drew (S:=(fun w' => w'.cell? ⟨w.heap.size,0,none⟩=some (.slice (some ⟨b,o,none⟩) ts.length c)∧w'.cell? ⟨gX,6,none⟩=some (.slice (some ⟨b2,o2,none⟩) x.aj.length l2)∧w'.cell? ⟨RI,0,none⟩=some (.int .i64 y.kind)∧w'.cell? ⟨RI,1,none⟩=some (.bool y.bool)∧w'.cell? ⟨RI,2,none⟩=some (.int .i64 y.num)∧w'.cell? ⟨RI,3,none⟩=some (.string ⟨y.str.toArray⟩)∧w'.cell? ⟨RI,4,none⟩=some (.int .i64 y.id)∧w'.cell? ⟨RI,5,none⟩=some (.slice E1 y.keys.length k1)∧w'.cell? ⟨RI,6,none⟩=some (.slice E2 y.items.length k2)∧w'.cell? ⟨RI,7,none⟩=some (.slice E3 y.rest.length k3)∧(w'.cell? ⟨b2,o2+k*13+2,none⟩=some (.int .i64 mt)))) (by kernel_rfl) ⟨ay,bK,kY,kZ,lg,lq,lu,nZ,mM,oh,(((hbr).cell (p:=⟨b2,o2+k*13+2,none⟩) (show b2 < w.heap.size by omega)).trans hm2)⟩ (fun hHeld => ?_)
   clear ay bK kY kZ lg lq lu nZ mM oh
   have qG:Below DU.heap.size DU (DU.drew):=(Below.refl _ _).drew
   obtain ⟨S,I,X,Y⟩:=b4 S I X Y qG
   replace hbr:=dT hbr qG
   clear qG
   generalize DU.drew=Jc at *
   refine tk (i:=0) (v := ?k78) ?_
   simp only [ah]
   refine tk (i:=1) (v := ?k79) ?_
   simp only [ah]
   refine tk (i:=2) (v := ?k80) ?_
   simp only [ah]
   refine tk (i:=3) (v := ?k81) ?_
   simp only [ah]
   refine tk (i:=4) (v := ?k82) ?_
   simp only [ah]
   refine tk (i:=5) (v := ?k83) ?_
   simp only [ah]
   refine tk (i:=6) (v := ?k84) ?_
   simp only [ah]
   refine tk (i:=7) (v := ?k85) ?_
   simp only [ah]
   refine tk (i:=8) (v := ?k86) ?_
   simp only [ah]
   refine fH (i:=9) (fun K hK => ?_)
   go_simp
   ((with_reducible refine (HU1.out _ _ _ _ (HYA.out.on hbr) (HT.out.on hbr)).mono ?_);rintro e DJ ⟨rfl,Ed⟩)
   obtain ⟨S,I,X,Y⟩:=b4 S I X Y Ed
   replace hbr:=dT hbr Ed
   clear Ed
   try clear hHeld
   refine hK.out _ _ (⟨S.out.cell 0,⟨X.out.cell 6,d8 Y ((((hbr).cell (p:=⟨b2,o2+k*13+2,none⟩) (show b2 < w.heap.size by omega)).trans hm2))⟩⟩) (fun hHeld => ?_)
   clear hK K
   refine tk (i:=10) (v := ?k89) ?_
   simp only [ah]
   refine tk (i:=11) (v := ?k90) ?_
   simp only [ah]
   refine wpAnyH_done (by kernel_rfl) ?_ _
   try clear hHeld
   go_wp2_with fail
   go_roundw
   case rel => exact ⟨k+1,_,by go_num,rfl,by omega,(aiI _).symm,by rw [aeC];exact Hp.out,S.out,I.out,X.out,hbr⟩
   case measure => simp [intOf];omega
  rw [Zh _ _ _ _ (by omega),Int.add_zero,ha] at hp
  have hn1:¬ (k:Int) < v.items.length:=by omega
  have Hp:=Lib.hid hp
  clear hp
  have iw:=I.out.e6
  go_wp2_with fail
  go_ret
  exact ⟨aV Hp.out,hbr⟩
/- a loop over keys or items -/
theorem aiL {ts:List aC} {v:Val} {t:Int} (hf:zh ts false v t=true):∃ n:Nat,t=n∧∃ hn:n < ts.length,v.kind=ts[n].kind:=by
 have h:=hf
 rw [Xo] at h
 cases hq:fB ts t with
 | none => rw [hq] at h;cases h
 | some x =>
  rw [hq] at h
  simp only [Bool.and_eq_true,decide_eq_true_eq] at h
  unfold fB at hq
  by_cases h0:0≤t
  ·
   rw [if_pos h0] at hq
   obtain ⟨h1,h2⟩:=List.getElem?_eq_some_iff.1 hq
   exact ⟨t.toNat,by omega,h1,by rw [h2];exact h.1⟩
  rw [if_neg h0] at hq;cases hq
theorem adU (ts:List aC) (A:Option Addr) (c:Nat) (v:Val) (hk:v.kind=2∨v.kind=3) (t:Int) (vk vi vr:Value) (w:World) (hf:zh ts false v t=true) (hv:ValAt w w.heap.size v vk vi vr) (hT:bG w w.heap.size (.slice A ts.length c) ts) :
  Calls Tryz.prog 47 #[.agg #[.slice A ts.length c],.int .i64 t,iC v vk vi vr] w fun e w' => e = .returned (.int .i64 (wrap64 (ny ts v t)))∧Below w.heap.size w w':=by
 obtain ⟨n,rfl,hn,hkv⟩:=aiL hf
 obtain ⟨A1,n1,A2,n2,A3,n3,rfl,rfl,rfl,-,-,-⟩:=hv.forms
 rcases hk with h | h
 · exact aeD ts A c n v A1 A2 A3 n1 n2 n3 w hn (hkv.symm.trans h) h hT hv
 exact aeE ts A c n v A1 A2 A3 n1 n2 n3 w hn (hkv.symm.trans h) h hT hv
end Go.Proofs.YthkfapcadhnaeaaGreatDoor
