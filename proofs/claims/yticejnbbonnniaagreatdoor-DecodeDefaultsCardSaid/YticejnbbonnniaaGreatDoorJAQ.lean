/- Plain: a record whose fields are all present decodes to itself. Decode, Explain, Accepts. the two results behind the call of read, laid in blocks of their own What is kept of a builder in front of String. Unknown. No condition. -/
import Derived.Test.YticejnbbonnniaaGreatDoorJAO
import Derived.Test.YticejnbbonnniaaGreatDoorJAF
import Derived.Test.YticejnbbonnniaaGreatDoorUnk
set_option maxHeartbeats 1600000
set_option maxRecDepth 100000
namespace Go.Proofs.YticejnbbonnniaaGreatDoor
open Go.ChangeShapes Go.WideShapes Go.ChangeAt Go.RowKit
def jl (ts:List ay):List Mem→List Val→List kP
 | m :: ms,y :: r => ⟨m.id.toNat,m.gy,fE ts y m.ty⟩ :: jl ts ms r
 | _,_ => []
theorem Uu (ts:List ay):∀ (ms:List Mem) (vs:List Val) (last:Nat),(∀ m ∈ ms,(last:Int) < m.id∧m.id≤1000)→(ms.map Mem.id).Pairwise (· < ·)→(∀ f ∈ jl ts ms vs,oV f.data.length)→Ii last (jl ts ms vs)
 | [],vs,last,_,_,_ => by simp [jl,Ii]
 | m :: ms,[],last,_,_,_ => by simp [jl,Ii]
 | m :: ms,y :: r,last,h,hp,hu => by
  have hm:=h m (by simp);rw [List.map_cons,List.pairwise_cons] at hp;rw [jl];refine ⟨by show last < m.id.toNat;omega,by show m.id.toNat≤1000;omega,hu _ (by rw [jl];simp),Uu ts ms r m.id.toNat (fun q hq => ?_) hp.2 (fun f hf => hu f (by rw [jl];simp [hf]))⟩;have h1:=hp.1 q.id (List.mem_map.2 ⟨q,hq,rfl⟩);have h2:=h q (by simp [hq]);omega
theorem Xl (ts:List ay):∀ (ms:List Mem) (vs:List Val) (j:Nat) (h:j < ms.length) (h2:j < vs.length),(∀ m ∈ ms,1≤m.id)→(ms.map Mem.id).Pairwise (· < ·)→wY (jl ts ms vs) ms[j].id=some ⟨ms[j].id.toNat,ms[j].gy,fE ts vs[j] ms[j].ty⟩
 | [],_,j,h,_,_,_ => by simp at h
 | _ :: _,[],j,_,h2,_,_ => by simp at h2
 | m :: ms,y :: r,0,_,_,hi,_ => by
  have:=hi m (by simp);rw [jl];unfold wY;rw [List.find?_cons];have he:(((m.id.toNat:Nat):Int) == m.id)=true:=by rw [beq_iff_eq];omega
  simp only [List.getElem_cons_zero,he]
 | m :: ms,y :: r,j+1,h,h2,hi,hp => by
  have h0:=hi m (by simp);rw [List.map_cons,List.pairwise_cons] at hp;have hj:j < ms.length:=by simpa using h
  have h1:=hp.1 ms[j].id (List.mem_map.2 ⟨_,List.getElem_mem hj,rfl⟩);rw [jl];simp only [List.getElem_cons_succ];unfold wY;rw [List.find?_cons];have he:(((m.id.toNat:Nat):Int) == ms[j].id)=false:=by rw [beq_eq_false_iff_ne];omega
  simp only [he];exact Xl ts ms r j hj (by simpa using h2) (fun q hq => hi q (by simp [hq])) hp.2
theorem Ru (x:ay) (path:List Int):∀ (l:List kP) (acc:List Raw),(∀ f ∈ l,(dN x (f.id:Int)).isSome=true)→qQ x path l acc = .ok acc
 | [],acc,_ => by rw [qQ]
 | f :: r,acc,h => by rw [qQ,if_pos (h f (by simp)),Ru x path r acc (fun g hg => h g (by simp [hg]))]
theorem Uw (ts:List ay):∀ (ms:List Mem) (vs:List Val) (f:kP),f ∈ jl ts ms vs→∃ m ∈ ms,f.id=m.id.toNat
 | [],vs,f,h => by simp [jl] at h
 | m :: ms,[],f,h => by simp [jl] at h
 | m :: ms,y :: r,f,h => by
  rw [jl] at h;rcases List.mem_cons.1 h with rfl | h
  · exact ⟨m,by simp,rfl⟩
  obtain ⟨q,hq,he⟩:=Uw ts ms r f h;exact ⟨q,by simp [hq],he⟩
theorem OU (ts:List ay):∀ (ms:List Mem) (vs:List Val) (j:Nat) (h:j < ms.length) (h2:j < vs.length),(⟨ms[j].id.toNat,ms[j].gy,fE ts vs[j] ms[j].ty⟩ : kP) ∈ jl ts ms vs
 | [],_,j,h,_ => by simp at h
 | _ :: _,[],j,_,h2 => by simp at h2
 | m :: ms,y :: r,0,_,_ => by rw [jl];simp
 | m :: ms,y :: r,j+1,h,h2 => by
  rw [jl];simp only [List.getElem_cons_succ];exact List.mem_cons_of_mem _ (OU ts ms r j (by simpa using h) (by simpa using h2))
theorem abw {ts:List ay} (hv:fF ts=0) (hI:∀ x ∈ ts,I64 x.low∧I64 x.high) {v:Val} {t:Int} {x:ay} (hx:bM ts t=some x) (hk:x.kind=5) (hf:cO ts false v t=true) (hr:v.rest = [])
  (hlv:∀ j (h:j < v.items.length) (h2:j < x.ah.length),jV ts v.items[j] x.ah[j].ty≤199) (hz:((jl ts x.ah v.items).flatMap gW).length≤140737488355328):decP ts 200 t ((jl ts x.ah v.items).flatMap gW) [] = .ok v:=by
 have hxm:=Mc hx;obtain ⟨h1,h2,h3⟩:=pI hx hf;obtain ⟨hlen,hfit⟩:=RZ hx hf hk;obtain ⟨hm1,hm2⟩:=Dy hv hxm (.inl hk);have hfz:∀ f ∈ jl ts x.ah v.items,f.data.length≤140737488355328:=fun f hfm => by have:=Jf hfm;omega
 have hasc:Ii 0 (jl ts x.ah v.items):=Uu ts x.ah v.items 0 (fun m hm => by have:=hm1 m hm;omega) hm2 (fun f hfm => by have:=hfz f hfm;unfold oV;omega);rw [decP,hx];simp only;unfold fH;rw [if_neg (by omega),if_neg (by omega),if_neg (by omega),if_neg (by omega),if_pos hk,Ov _ hasc];simp only;rw [← hlen,DK v.items 0 [] (fun j hj => by
  have hj2:j < x.ah.length:=by omega
  unfold E8;rw [Nat.zero_add,List.getElem?_eq_getElem hj2];simp only;rw [Xl ts x.ah v.items j hj2 hj (fun m hm => (hm1 m hm).1) hm2];simp only;have hpz:=hfz _ (OU ts x.ah v.items j hj2 hj);exact Yv ts hv hI (nodes v.items[j]) v.items[j] x.ah[j].ty 199 _ (Nat.le_refl _) (hfit j hj hj2) (hlv j hj hj2) hpz)]
 simp only [List.nil_append];rw [Ru x [] _ [] (fun f hfm => by
  obtain ⟨m,hm,he⟩:=Uw ts x.ah v.items f hfm;obtain ⟨j,hj,rfl⟩:=List.mem_iff_getElem.1 hm;have:=hm1 _ hm;rw [he,show ((x.ah[j].id.toNat:Nat):Int)=x.ah[j].id by omega,JD hm2 j hj];rfl)]
 unfold aA at h2;rw [h1] at h2;simp [hk] at h2;obtain ⟨e1,e2,e3,e4,e5⟩:=h2;exact congrArg _ (mk_eq (h1.trans hk) e1 e2 e3 e4 e5 rfl hr).symm
def aaA (w:World) (r:Except Int mX) (e:Ending) (w':World):Prop:=Below w.heap.size w w'∧match r with
 | .error er => e = .returned (.tuple #[Ba,.int .i64 er])
 | .ok (.ok v) => ∃ vk vi vr,e = .returned (.tuple #[aS v vk vi vr,.int .i64 0])∧jq w' (Kz w w') v vk vi vr
 | .ok (.error _) => e = .returned (.tuple #[Ba,.int .i64 12])
def afa (w:World) (r:Except Int mX) (e:Ending) (w':World):Prop:=Below w.heap.size w w'∧match r with
 | .error er => e = .returned (.tuple #[.agg #[.slice none 0 0,.int .i64 0],.int .i64 er])
 | .ok (.ok _) => e = .returned (.tuple #[.agg #[.slice none 0 0,.int .i64 0],.int .i64 15])
 | .ok (.error (p,n)) => ∃ fp,e = .returned (.tuple #[.agg #[fp,.int .i64 n],.int .i64 0])∧w'.ownsRow w.heap.size 3 1 fp p.length (p.map zq)
def Xo (L B:Nat) (v:Val) (vk vi vr:Value) (W:World):Prop := ∃ S:Nat→Prop,jq W S v vk vi vr∧∀ k,S k→L≤k∧k < B
theorem Kept.OY {w0 W:World} {v:Val} {vk vi vr:Value} {L B:Nat} (h:jq W (Kz w0 W) v vk vi vr) (hL:L=w0.heap.size) (hB:B=W.heap.size):Kept (Xo L B v vk vi vr) W L B:=by
 subst hL;subst hB;exact ⟨⟨_,h,fun k h => h⟩,fun _ hk => ⟨_,h.keep (fun p hp => World.cell?_of_block (hk p.block hp.1 hp.2)) (fun _ h => h),fun k h => h⟩,Nat.le_refl _⟩
theorem Xo.afb {w W:World} {v:Val} {vk vi vr:Value} {L B:Nat} (h:Xo L B v vk vi vr W) (hL:w.heap.size≤L) (hB:B≤W.heap.size):jq W (Kz w W) v vk vi vr:=by
 obtain ⟨S,h1,h2⟩:=h;exact h1.keep (fun _ _ => rfl) fun k hk => ⟨Nat.le_trans hL (h2 k hk).1,Nat.lt_of_lt_of_le (h2 k hk).2 hB⟩
def okR:Except Int mX→Bool
 | .ok (.ok _) => true
 | _ => false
theorem zIz {p:Prop} (h:p:=by
 obtain ⟨_,⟨A1,n1,h1,_⟩,_⟩:=hv.keys;obtain ⟨_,⟨A2,n2,h2,_⟩,_⟩:=hv.items;obtain ⟨_,A3,n3,h3,_⟩:=hv.rest;exact ⟨A1,n1,A2,n2,A3,n3,h1,h2,h3⟩):p:=h
theorem decode_any (ts:List ay) (A:Option Addr) (c:Nat) (t:Int) (m:List UInt8) (w:World) (hs:Sizes ts) (hT:aU w w.heap.size (.slice A ts.length c) ts) :
  Calls Tryz.prog 10 #[.agg #[.slice A ts.length c],.int .i64 t,.string ⟨m.toArray⟩] w (aaA w (nX ts t m)):=by
 have HT:=hiQ hT;have FV:=hiQ (fun W h => JC ts A c t m W hs h);generalize nX ts t m=r at *;clear hT hs;go_enter Tryz.func10,Tryz.ntmps10
 go_upto_region 1 with fail;refine jg (fun wd2 hb1 S Z => ?_);have hw3:=hb1;clear hb1;have aH:=S.out.e0;rcases r with er | ⟨⟨p,n⟩ | v⟩
 ·
  go_wp2_with fail;clear aH;((with_reducible refine (FV.out _ (HT.out.on hw3)).mono ?_);rintro e wd4 ⟨hb5,rfl⟩);obtain ⟨S,Z⟩:=b2 S Z hb5;replace hw3:=dT hw3 hb5;clear hb5;simp only [Ba];have MV:Has ((wd4.alloc (.cells #[.int .i64 0,.bool false,.int .i64 0,.string ⟨#[]⟩,.int .i64 0,.slice none 0 0,.slice none 0 0,.slice none 0 0] 34)).alloc (.cells #[.slice none 0 0,.int .i64 0] 76)) wd4.heap.size 34 #[.int .i64 0,.bool false,.int .i64 0,.string ⟨#[]⟩,.int .i64 0,.slice none 0 0,.slice none 0 0,.slice none 0 0]:=(Has.made _ _ _).alloc _;have MF:Has (((wd4.alloc (.cells #[.int .i64 0,.bool false,.int .i64 0,.string ⟨#[]⟩,.int .i64 0,.slice none 0 0,.slice none 0 0,.slice none 0 0] 34)).alloc (.cells #[.slice none 0 0,.int .i64 0] 76)).setRow wd4.heap.size #[.int .i64 0,.bool false,.int .i64 0,.string ⟨#[]⟩,.int .i64 0,.slice none 0 0,.slice none 0 0,.slice none 0 0]) (wd4.heap.size+1) 76 #[.slice none 0 0,.int .i64 0]:=oO (by
   have h:=Has.made (wd4.alloc (.cells #[.int .i64 0,.bool false,.int .i64 0,.string ⟨#[]⟩,.int .i64 0,.slice none 0 0,.slice none 0 0,.slice none 0 0] 34)) 76 #[.slice none 0 0,.int .i64 0];rwa [tH] at h) (by omega)
  go_upto_region 2 with (first | (refine wpList_store_row rfl 34 _ _ rfl wd4.heap.size _ rfl rfl 34 _ MV (by kernel_rfl) rfl (by simp [Value.oneCell']) ?_) | (refine wpList_store_row rfl 76 _ _ rfl (wd4.heap.size+1) _ rfl rfl 76 _ MF (by kernel_rfl) rfl (by simp [Value.oneCell']) ?_))
  clear MV MF;generalize hE8:wd4.alloc _=jC;generalize jE:jC.alloc _=nM;have ⟨hb6,V,F⟩:=an2 hE8 jE;clear hE8 jE;have hl12:=S.out.here;have tq:=Z.out.here;have uj:=hw3.size;obtain ⟨S,Z⟩:=b2 S Z hb6;replace hw3:=dT hw3 hb6;clear hb6;generalize wd4.heap.size=g11 at *;generalize bV:nM.setRow _ _=jA;obtain ⟨S,Z,F⟩:=f3 S Z F (eR bV);replace V:=dV V bV;replace hw3:=tr hw3 bV;clear bV;generalize fQ:jA.setRow _ _=ji;obtain ⟨S,Z,V⟩:=f3 S Z V (eR fQ);replace F:=dV F fQ;replace hw3:=tr hw3 fQ;clear fQ;obtain ⟨bK,dh,dn,dI,bG,aQ,aP,dJ⟩:=V.out.c8;go_wp2_with (refine sR Z.out ?_)
  clear bK dh dn dI bG aQ aP dJ;generalize hE20:ji.setRow _ _=fZ;obtain ⟨S,V,F⟩:=f3 S V F (eR hE20);replace Z:=dV Z hE20;replace hw3:=tr hw3 hE20;clear hE20;exact bodyPost_ret (v:=.tuple #[.agg #[.int .i64 0,.bool false,.int .i64 0,.string ⟨#[]⟩,.int .i64 0,.slice none 0 0,.slice none 0 0,.slice none 0 0],.int .i64 er]) (by simp [results,Tryz.results10,go_sem,Z.out.c8]) rfl (⟨hw3,rfl⟩)
 ·
  go_wp2_with fail;clear aH;((with_reducible refine (FV.out _ (HT.out.on hw3)).mono ?_);rintro e wd4 ⟨hb5,fp,rfl,hown⟩);obtain ⟨S,Z⟩:=b2 S Z hb5;replace hw3:=dT hw3 hb5;clear hb5;obtain ⟨Af,cf,rfl⟩:=jF hown;clear hown;simp only [Ba];have MV:Has ((wd4.alloc (.cells #[.int .i64 0,.bool false,.int .i64 0,.string ⟨#[]⟩,.int .i64 0,.slice none 0 0,.slice none 0 0,.slice none 0 0] 34)).alloc (.cells #[.slice none 0 0,.int .i64 0] 76)) wd4.heap.size 34 #[.int .i64 0,.bool false,.int .i64 0,.string ⟨#[]⟩,.int .i64 0,.slice none 0 0,.slice none 0 0,.slice none 0 0]:=(Has.made _ _ _).alloc _;have MF:Has (((wd4.alloc (.cells #[.int .i64 0,.bool false,.int .i64 0,.string ⟨#[]⟩,.int .i64 0,.slice none 0 0,.slice none 0 0,.slice none 0 0] 34)).alloc (.cells #[.slice none 0 0,.int .i64 0] 76)).setRow wd4.heap.size #[.int .i64 0,.bool false,.int .i64 0,.string ⟨#[]⟩,.int .i64 0,.slice none 0 0,.slice none 0 0,.slice none 0 0]) (wd4.heap.size+1) 76 #[.slice none 0 0,.int .i64 0]:=oO (by
   have h:=Has.made (wd4.alloc (.cells #[.int .i64 0,.bool false,.int .i64 0,.string ⟨#[]⟩,.int .i64 0,.slice none 0 0,.slice none 0 0,.slice none 0 0] 34)) 76 #[.slice none 0 0,.int .i64 0];rwa [tH] at h) (by omega)
  go_upto_region 2 with (first | (refine wpList_store_row rfl 34 _ _ rfl wd4.heap.size _ rfl rfl 34 _ MV (by kernel_rfl) rfl (by simp [Value.oneCell']) ?_) | (refine wpList_store_row rfl 76 _ _ rfl (wd4.heap.size+1) _ rfl rfl 76 _ MF (by kernel_rfl) rfl (by simp [Value.oneCell']) ?_))
  clear MV MF;generalize hE8:wd4.alloc _=jC;generalize jE:jC.alloc _=nM;have ⟨hb6,V,F⟩:=an2 hE8 jE;clear hE8 jE;have hl12:=S.out.here;have tq:=Z.out.here;have uj:=hw3.size;obtain ⟨S,Z⟩:=b2 S Z hb6;replace hw3:=dT hw3 hb6;clear hb6;generalize wd4.heap.size=g11 at *;generalize bV:nM.setRow _ _=jA;obtain ⟨S,Z,F⟩:=f3 S Z F (eR bV);replace V:=dV V bV;replace hw3:=tr hw3 bV;clear bV;generalize fQ:jA.setRow _ _=ji;obtain ⟨S,Z,V⟩:=f3 S Z V (eR fQ);replace F:=dV F fQ;replace hw3:=tr hw3 fQ;clear fQ;obtain ⟨bK,dh,dn,dI,bG,aQ,aP,dJ⟩:=V.out.c8;go_wp2_with (refine sR Z.out ?_)
  clear bK dh dn dI bG aQ aP dJ;generalize hE20:ji.setRow _ _=fZ;obtain ⟨S,V,F⟩:=f3 S V F (eR hE20);replace Z:=dV Z hE20;replace hw3:=tr hw3 hE20;clear hE20;exact bodyPost_ret (v:=.tuple #[.agg #[.int .i64 0,.bool false,.int .i64 0,.string ⟨#[]⟩,.int .i64 0,.slice none 0 0,.slice none 0 0,.slice none 0 0],.int .i64 12]) (by simp [results,Tryz.results10,go_sem,Z.out.c8]) rfl (⟨hw3,rfl⟩)
 obtain ⟨LX,zA⟩ : ∃ n,n=(wd2).heap.size:=⟨_,rfl⟩
 have hzl:=Z.out.here;rw [← zA] at hzl;go_wp2_with fail;clear aH;((with_reducible refine (FV.out _ (HT.out.on hw3)).mono ?_);rintro e wd4 ⟨hb5,vk,vi,vr,rfl,hv⟩);obtain ⟨S,Z⟩:=b2 S Z hb5;replace hw3:=dT hw3 hb5;clear hb5;obtain ⟨A1,n1,A2,n2,A3,n3,rfl,rfl,rfl⟩ : ∃ A1 n1 A2 n2 A3 n3,vk = .slice A1 v.keys.length n1∧vi = .slice A2 v.items.length n2∧vr = .slice A3 v.rest.length n3:=by
  exact zIz
 obtain ⟨BX,Fq⟩ : ∃ n,n=(wd4).heap.size:=⟨_,rfl⟩
 have N:=hiQ (Kept.OY hv zA Fq);clear hv zA Fq;simp only [aS];have MV:Has ((wd4.alloc (.cells #[.int .i64 0,.bool false,.int .i64 0,.string ⟨#[]⟩,.int .i64 0,.slice none 0 0,.slice none 0 0,.slice none 0 0] 34)).alloc (.cells #[.slice none 0 0,.int .i64 0] 76)) wd4.heap.size 34 #[.int .i64 0,.bool false,.int .i64 0,.string ⟨#[]⟩,.int .i64 0,.slice none 0 0,.slice none 0 0,.slice none 0 0]:=(Has.made _ _ _).alloc _;have MF:Has (((wd4.alloc (.cells #[.int .i64 0,.bool false,.int .i64 0,.string ⟨#[]⟩,.int .i64 0,.slice none 0 0,.slice none 0 0,.slice none 0 0] 34)).alloc (.cells #[.slice none 0 0,.int .i64 0] 76)).setRow wd4.heap.size #[.int .i64 v.kind,.bool v.bool,.int .i64 v.num,.string ⟨v.str.toArray⟩,.int .i64 v.id,.slice A1 v.keys.length n1,.slice A2 v.items.length n2,.slice A3 v.rest.length n3]) (wd4.heap.size+1) 76 #[.slice none 0 0,.int .i64 0]:=oO (by
  have h:=Has.made (wd4.alloc (.cells #[.int .i64 0,.bool false,.int .i64 0,.string ⟨#[]⟩,.int .i64 0,.slice none 0 0,.slice none 0 0,.slice none 0 0] 34)) 76 #[.slice none 0 0,.int .i64 0];rwa [tH] at h) (by omega)
 go_upto_region 2 with (first | (refine wpList_store_row rfl 34 _ _ rfl wd4.heap.size _ rfl rfl 34 _ MV (by kernel_rfl) rfl (by simp [Value.oneCell']) ?_) | (refine wpList_store_row rfl 76 _ _ rfl (wd4.heap.size+1) _ rfl rfl 76 _ MF (by kernel_rfl) rfl (by simp [Value.oneCell']) ?_))
 clear MV MF;generalize hE8:wd4.alloc _=jC;generalize jE:jC.alloc _=nM;have ⟨hb6,V,F⟩:=an2 hE8 jE;clear hE8 jE;have hl12:=S.out.here;have tq:=Z.out.here;have uj:=N.out.le;have qA:=hw3.size;obtain ⟨S,Z,N⟩:=b3 S Z N hb6;replace hw3:=dT hw3 hb6;clear hb6;generalize wd4.heap.size=g11 at *;generalize pK:nM.setRow _ _=yN;obtain ⟨S,Z,F,N⟩:=f4 S Z F N (eR pK);replace V:=dV V pK;replace hw3:=tr hw3 pK;clear pK;generalize Bl:yN.setRow _ _=yx;obtain ⟨S,Z,V,N⟩:=f4 S Z V N (eR Bl);replace F:=dV F Bl;replace hw3:=tr hw3 Bl;clear Bl;obtain ⟨bK,dh,dn,dI,bG,aQ,aP,dJ⟩:=V.out.c8;go_wp2_with (refine sR Z.out ?_)
 clear bK dh dn dI bG aQ aP dJ;generalize WJ:yx.setRow _ _=yO;obtain ⟨S,V,F,N⟩:=f4 S V F N (eR WJ);replace Z:=dV Z WJ;replace hw3:=tr hw3 WJ;clear WJ;have hle:=N.out.le;exact bodyPost_ret (v:=.tuple #[.agg #[.int .i64 v.kind,.bool v.bool,.int .i64 v.num,.string ⟨v.str.toArray⟩,.int .i64 v.id,.slice A1 v.keys.length n1,.slice A2 v.items.length n2,.slice A3 v.rest.length n3],.int .i64 0]) (by simp [results,Tryz.results10,go_sem,Z.out.c8]) rfl (⟨hw3,_,_,_,rfl,N.out.now.afb (by omega) hle⟩)
theorem OC (ts:List ay):∀ (l:List ay) (S:List (List UInt8)),lU ts l S=0∨lU ts l S=1∨lU ts l S=4
 | [],_ => .inl rfl
 | x :: r,S => by
  rw [lU];split
  · exact .inr (.inl rfl)
  split
  · exact .inr (.inr rfl)
  split
  · exact .inr (.inl rfl)
  exact OC ts r _
theorem MJ {ts:List ay} {t:Int} {m:List UInt8} {er:Int} (h:nX ts t m = .error er):er=1∨er=3∨er=4:=by
 unfold nX at h;split at h
 ·
  rename_i hv;injection h with h;subst h;unfold fF at hv ⊢;split
  · exact .inr (.inl rfl)
  rename_i h32;rw [if_neg h32] at hv;rcases OC ts ts [] with h | h | h
  · exact absurd h hv
  · exact .inl h
  exact .inr (.inr h)
 split at h
 · injection h with h;subst h;exact .inr (.inr rfl)
 split at h <;> cases h
theorem Yb (ts:List ay) (A:Option Addr) (c:Nat) (t:Int) (m:List UInt8) (w:World) (hs:Sizes ts) (hT:aU w w.heap.size (.slice A ts.length c) ts) :
  Calls Tryz.prog 26 #[.agg #[.slice A ts.length c],.int .i64 t,.string ⟨m.toArray⟩] w (afa w (nX ts t m)):=by
 have hre:=fun er h => MJ (ts:=ts) (t:=t) (m:=m) (er:=er) h;have HT:=hiQ hT;have FV:=hiQ (fun W h => JC ts A c t m W hs h);generalize nX ts t m=r at *;clear hT hs;go_enter Tryz.func26,Tryz.ntmps26
 go_upto_region 1 with fail;refine jg (fun wd2 hb1 S Z => ?_);have hw3:=hb1;clear hb1;have aH:=S.out.e0;rcases r with er | ⟨⟨p,n⟩ | v⟩
 ·
  have her:=hre er rfl;have he1:¬ er=0:=by omega
  have he2:¬ er=12:=by omega
  clear hre her;go_wp2_with fail;clear aH;((with_reducible refine (FV.out _ (HT.out.on hw3)).mono ?_);rintro e wd4 ⟨hb5,rfl⟩);obtain ⟨S,Z⟩:=b2 S Z hb5;replace hw3:=dT hw3 hb5;clear hb5;simp only [Ba];have MV:Has ((wd4.alloc (.cells #[.int .i64 0,.bool false,.int .i64 0,.string ⟨#[]⟩,.int .i64 0,.slice none 0 0,.slice none 0 0,.slice none 0 0] 34)).alloc (.cells #[.slice none 0 0,.int .i64 0] 76)) wd4.heap.size 34 #[.int .i64 0,.bool false,.int .i64 0,.string ⟨#[]⟩,.int .i64 0,.slice none 0 0,.slice none 0 0,.slice none 0 0]:=(Has.made _ _ _).alloc _;have MF:Has (((wd4.alloc (.cells #[.int .i64 0,.bool false,.int .i64 0,.string ⟨#[]⟩,.int .i64 0,.slice none 0 0,.slice none 0 0,.slice none 0 0] 34)).alloc (.cells #[.slice none 0 0,.int .i64 0] 76)).setRow wd4.heap.size #[.int .i64 0,.bool false,.int .i64 0,.string ⟨#[]⟩,.int .i64 0,.slice none 0 0,.slice none 0 0,.slice none 0 0]) (wd4.heap.size+1) 76 #[.slice none 0 0,.int .i64 0]:=oO (by
   have h:=Has.made (wd4.alloc (.cells #[.int .i64 0,.bool false,.int .i64 0,.string ⟨#[]⟩,.int .i64 0,.slice none 0 0,.slice none 0 0,.slice none 0 0] 34)) 76 #[.slice none 0 0,.int .i64 0];rwa [tH] at h) (by omega)
  go_upto_region 2 with (first | (refine wpList_store_row rfl 34 _ _ rfl wd4.heap.size _ rfl rfl 34 _ MV (by kernel_rfl) rfl (by simp [Value.oneCell']) ?_) | (refine wpList_store_row rfl 76 _ _ rfl (wd4.heap.size+1) _ rfl rfl 76 _ MF (by kernel_rfl) rfl (by simp [Value.oneCell']) ?_))
  clear MV MF;generalize hE8:wd4.alloc _=jC;generalize jE:jC.alloc _=nM;have ⟨hb6,V,F⟩:=an2 hE8 jE;clear hE8 jE;have hl12:=S.out.here;have tq:=Z.out.here;have uj:=hw3.size;obtain ⟨S,Z⟩:=b2 S Z hb6;replace hw3:=dT hw3 hb6;clear hb6;generalize wd4.heap.size=g11 at *;generalize bV:nM.setRow _ _=jA;obtain ⟨S,Z,F⟩:=f3 S Z F (eR bV);replace V:=dV V bV;replace hw3:=tr hw3 bV;clear bV;generalize fQ:jA.setRow _ _=ji;obtain ⟨S,Z,V⟩:=f3 S Z V (eR fQ);replace F:=dV F fQ;replace hw3:=tr hw3 fQ;clear fQ;go_upto_region 7 with fail;go_wp2_with (refine sR Z.out ?_)
  generalize hE20:ji.setRow _ _=fZ;obtain ⟨S,V,F⟩:=f3 S V F (eR hE20);replace Z:=dV Z hE20;replace hw3:=tr hw3 hE20;clear hE20;exact bodyPost_ret (v:=.tuple #[.agg #[.slice none 0 0,.int .i64 0],.int .i64 er]) (by simp [results,Tryz.results26,go_sem,Z.out.c2]) rfl (⟨hw3,rfl⟩)
 ·
  clear hre;obtain ⟨LX,zA⟩ : ∃ n,n=(wd2).heap.size:=⟨_,rfl⟩
  have hzl:=Z.out.here;rw [← zA] at hzl;go_wp2_with fail;clear aH;((with_reducible refine (FV.out _ (HT.out.on hw3)).mono ?_);rintro e wd4 ⟨hb5,fp,rfl,hown⟩);obtain ⟨S,Z⟩:=b2 S Z hb5;replace hw3:=dT hw3 hb5;clear hb5;obtain ⟨Af,cf,rfl⟩:=jF hown;rw [← zA] at hown;clear zA;have FP:=hiQ (Kept.own hown);clear hown;simp only [Ba];have MV:Has ((wd4.alloc (.cells #[.int .i64 0,.bool false,.int .i64 0,.string ⟨#[]⟩,.int .i64 0,.slice none 0 0,.slice none 0 0,.slice none 0 0] 34)).alloc (.cells #[.slice none 0 0,.int .i64 0] 76)) wd4.heap.size 34 #[.int .i64 0,.bool false,.int .i64 0,.string ⟨#[]⟩,.int .i64 0,.slice none 0 0,.slice none 0 0,.slice none 0 0]:=(Has.made _ _ _).alloc _;have MF:Has (((wd4.alloc (.cells #[.int .i64 0,.bool false,.int .i64 0,.string ⟨#[]⟩,.int .i64 0,.slice none 0 0,.slice none 0 0,.slice none 0 0] 34)).alloc (.cells #[.slice none 0 0,.int .i64 0] 76)).setRow wd4.heap.size #[.int .i64 0,.bool false,.int .i64 0,.string ⟨#[]⟩,.int .i64 0,.slice none 0 0,.slice none 0 0,.slice none 0 0]) (wd4.heap.size+1) 76 #[.slice none 0 0,.int .i64 0]:=oO (by
   have h:=Has.made (wd4.alloc (.cells #[.int .i64 0,.bool false,.int .i64 0,.string ⟨#[]⟩,.int .i64 0,.slice none 0 0,.slice none 0 0,.slice none 0 0] 34)) 76 #[.slice none 0 0,.int .i64 0];rwa [tH] at h) (by omega)
  go_upto_region 2 with (first | (refine wpList_store_row rfl 34 _ _ rfl wd4.heap.size _ rfl rfl 34 _ MV (by kernel_rfl) rfl (by simp [Value.oneCell']) ?_) | (refine wpList_store_row rfl 76 _ _ rfl (wd4.heap.size+1) _ rfl rfl 76 _ MF (by kernel_rfl) rfl (by simp [Value.oneCell']) ?_))
  clear MV MF;generalize hE8:wd4.alloc _=jC;generalize jE:jC.alloc _=nM;have ⟨hb6,V,F⟩:=an2 hE8 jE;clear hE8 jE;have hl12:=S.out.here;have tq:=Z.out.here;have uj:=FP.out.le;have qA:=hw3.size;obtain ⟨S,Z,FP⟩:=b3 S Z FP hb6;replace hw3:=dT hw3 hb6;clear hb6;generalize wd4.heap.size=g11 at *;generalize pK:nM.setRow _ _=yN;obtain ⟨S,Z,F,FP⟩:=f4 S Z F FP (eR pK);replace V:=dV V pK;replace hw3:=tr hw3 pK;clear pK;generalize Bl:yN.setRow _ _=yx;obtain ⟨S,Z,V,FP⟩:=f4 S Z V FP (eR Bl);replace F:=dV F Bl;replace hw3:=tr hw3 Bl;clear Bl;obtain ⟨Fg,Bf⟩:=F.out.c2;go_upto_region 6 with fail;go_wp2_with (refine sR Z.out ?_)
  clear Fg Bf;generalize WJ:yx.setRow _ _=yO;obtain ⟨S,V,F,FP⟩:=f4 S V F FP (eR WJ);replace Z:=dV Z WJ;replace hw3:=tr hw3 WJ;clear WJ;exact bodyPost_ret (v:=.tuple #[.agg #[.slice Af p.length cf,.int .i64 n],.int .i64 0]) (by simp [results,Tryz.results26,go_sem,Z.out.c2]) rfl (⟨hw3,_,rfl,sF FP.out.now (by omega)⟩)
 clear hre;go_wp2_with fail;clear aH;((with_reducible refine (FV.out _ (HT.out.on hw3)).mono ?_);rintro e wd4 ⟨hb5,vk,vi,vr,rfl,hv⟩);obtain ⟨S,Z⟩:=b2 S Z hb5;replace hw3:=dT hw3 hb5;clear hb5;obtain ⟨A1,n1,A2,n2,A3,n3,rfl,rfl,rfl⟩ : ∃ A1 n1 A2 n2 A3 n3,vk = .slice A1 v.keys.length n1∧vi = .slice A2 v.items.length n2∧vr = .slice A3 v.rest.length n3:=by
  exact zIz
 clear hv;simp only [aS];have MV:Has ((wd4.alloc (.cells #[.int .i64 0,.bool false,.int .i64 0,.string ⟨#[]⟩,.int .i64 0,.slice none 0 0,.slice none 0 0,.slice none 0 0] 34)).alloc (.cells #[.slice none 0 0,.int .i64 0] 76)) wd4.heap.size 34 #[.int .i64 0,.bool false,.int .i64 0,.string ⟨#[]⟩,.int .i64 0,.slice none 0 0,.slice none 0 0,.slice none 0 0]:=(Has.made _ _ _).alloc _;have MF:Has (((wd4.alloc (.cells #[.int .i64 0,.bool false,.int .i64 0,.string ⟨#[]⟩,.int .i64 0,.slice none 0 0,.slice none 0 0,.slice none 0 0] 34)).alloc (.cells #[.slice none 0 0,.int .i64 0] 76)).setRow wd4.heap.size #[.int .i64 v.kind,.bool v.bool,.int .i64 v.num,.string ⟨v.str.toArray⟩,.int .i64 v.id,.slice A1 v.keys.length n1,.slice A2 v.items.length n2,.slice A3 v.rest.length n3]) (wd4.heap.size+1) 76 #[.slice none 0 0,.int .i64 0]:=oO (by
  have h:=Has.made (wd4.alloc (.cells #[.int .i64 0,.bool false,.int .i64 0,.string ⟨#[]⟩,.int .i64 0,.slice none 0 0,.slice none 0 0,.slice none 0 0] 34)) 76 #[.slice none 0 0,.int .i64 0];rwa [tH] at h) (by omega)
 go_upto_region 2 with (first | (refine wpList_store_row rfl 34 _ _ rfl wd4.heap.size _ rfl rfl 34 _ MV (by kernel_rfl) rfl (by simp [Value.oneCell']) ?_) | (refine wpList_store_row rfl 76 _ _ rfl (wd4.heap.size+1) _ rfl rfl 76 _ MF (by kernel_rfl) rfl (by simp [Value.oneCell']) ?_))
 clear MV MF;generalize hE8:wd4.alloc _=jC;generalize jE:jC.alloc _=nM;have ⟨hb6,V,F⟩:=an2 hE8 jE;clear hE8 jE;have hl12:=S.out.here;have tq:=Z.out.here;have uj:=hw3.size;obtain ⟨S,Z⟩:=b2 S Z hb6;replace hw3:=dT hw3 hb6;clear hb6;generalize wd4.heap.size=g11 at *;generalize bV:nM.setRow _ _=jA;obtain ⟨S,Z,F⟩:=f3 S Z F (eR bV);replace V:=dV V bV;replace hw3:=tr hw3 bV;clear bV;generalize fQ:jA.setRow _ _=ji;obtain ⟨S,Z,V⟩:=f3 S Z V (eR fQ);replace F:=dV F fQ;replace hw3:=tr hw3 fQ;clear fQ;go_upto_region 4 with fail;go_wp2_with (refine sR Z.out ?_)
 generalize hE20:ji.setRow _ _=fZ;obtain ⟨S,V,F⟩:=f3 S V F (eR hE20);replace Z:=dV Z hE20;replace hw3:=tr hw3 hE20;clear hE20;exact bodyPost_ret (v:=.tuple #[.agg #[.slice none 0 0,.int .i64 0],.int .i64 15]) (by simp [results,Tryz.results26,go_sem,Z.out.c2]) rfl (⟨hw3,rfl⟩)
theorem zIl {p:Prop} (h:p:=by
 simp only [Ba];have MV:Has ((wd4.alloc (.cells #[.int .i64 0,.bool false,.int .i64 0,.string ⟨#[]⟩,.int .i64 0,.slice none 0 0,.slice none 0 0,.slice none 0 0] 34)).alloc (.cells #[.slice none 0 0,.int .i64 0] 76)) wd4.heap.size 34 #[.int .i64 0,.bool false,.int .i64 0,.string ⟨#[]⟩,.int .i64 0,.slice none 0 0,.slice none 0 0,.slice none 0 0]:=(Has.made _ _ _).alloc _;have MF:Has (((wd4.alloc (.cells #[.int .i64 0,.bool false,.int .i64 0,.string ⟨#[]⟩,.int .i64 0,.slice none 0 0,.slice none 0 0,.slice none 0 0] 34)).alloc (.cells #[.slice none 0 0,.int .i64 0] 76)).setRow wd4.heap.size #[.int .i64 0,.bool false,.int .i64 0,.string ⟨#[]⟩,.int .i64 0,.slice none 0 0,.slice none 0 0,.slice none 0 0]) (wd4.heap.size+1) 76 #[.slice none 0 0,.int .i64 0]:=oO (by
  have h:=Has.made (wd4.alloc (.cells #[.int .i64 0,.bool false,.int .i64 0,.string ⟨#[]⟩,.int .i64 0,.slice none 0 0,.slice none 0 0,.slice none 0 0] 34)) 76 #[.slice none 0 0,.int .i64 0];rwa [tH] at h) (by omega)
 go_upto_region 2 with (first | (refine wpList_store_row rfl 34 _ _ rfl wd4.heap.size _ rfl rfl 34 _ MV (by kernel_rfl) rfl (by simp [Value.oneCell']) ?_) | (refine wpList_store_row rfl 76 _ _ rfl (wd4.heap.size+1) _ rfl rfl 76 _ MF (by kernel_rfl) rfl (by simp [Value.oneCell']) ?_))
 clear MV MF;generalize hE8:wd4.alloc _=jC;generalize jE:jC.alloc _=nM;have ⟨hb6,V,F⟩:=an2 hE8 jE;clear hE8 jE;have hl12:=S.out.here;have tq:=hw3.size;replace S:=b1 S hb6;replace hw3:=dT hw3 hb6;clear hb6;generalize wd4.heap.size=g11 at *;generalize lW:nM.setRow _ _=oZ;obtain ⟨S,F⟩:=f2 S F (eR lW);replace V:=dV V lW;replace hw3:=tr hw3 lW;clear lW;generalize pK:oZ.setRow _ _=yN;obtain ⟨S,V⟩:=f2 S V (eR pK);replace F:=dV F pK;replace hw3:=tr hw3 pK;clear pK;go_wp2_with fail;go_ret;exact ⟨rfl,hw3⟩):p:=h
theorem Yc (ts:List ay) (A:Option Addr) (c:Nat) (t:Int) (m:List UInt8) (w:World) (hs:Sizes ts) (hT:aU w w.heap.size (.slice A ts.length c) ts) :
  Calls Tryz.prog 28 #[.agg #[.slice A ts.length c],.int .i64 t,.string ⟨m.toArray⟩] w (RT w (.bool (okR (nX ts t m)))):=by
 have hre:=fun er h => MJ (ts:=ts) (t:=t) (m:=m) (er:=er) h;have HT:=hiQ hT;have FV:=hiQ (fun W h => JC ts A c t m W hs h);generalize nX ts t m=r at *;clear hT hs;go_enter Tryz.func28,Tryz.ntmps28
 go_upto_region 1 with fail;refine aO (fun wd2 hb1 S => ?_);have hw3:=hb1;clear hb1;have aH:=S.out.e0;rcases r with er | ⟨⟨p,n⟩ | v⟩
 ·
  have her:=hre er rfl;have he1:(er == 0)=false:=by rw [beq_eq_false_iff_ne];omega
  clear hre her;go_wp2_with fail;clear aH;((with_reducible refine (FV.out _ (HT.out.on hw3)).mono ?_);rintro e wd4 ⟨hb5,rfl⟩);replace S:=b1 S hb5;replace hw3:=dT hw3 hb5;clear hb5;exact zIl
 ·
  clear hre;go_wp2_with fail;clear aH;((with_reducible refine (FV.out _ (HT.out.on hw3)).mono ?_);rintro e wd4 ⟨hb5,fp,rfl,hown⟩);replace S:=b1 S hb5;replace hw3:=dT hw3 hb5;clear hb5;obtain ⟨Af,cf,rfl⟩:=jF hown;clear hown;exact zIl
 clear hre;go_wp2_with fail;clear aH;((with_reducible refine (FV.out _ (HT.out.on hw3)).mono ?_);rintro e wd4 ⟨hb5,vk,vi,vr,rfl,hv⟩);replace S:=b1 S hb5;replace hw3:=dT hw3 hb5;clear hb5;obtain ⟨A1,n1,A2,n2,A3,n3,rfl,rfl,rfl⟩ : ∃ A1 n1 A2 n2 A3 n3,vk = .slice A1 v.keys.length n1∧vi = .slice A2 v.items.length n2∧vr = .slice A3 v.rest.length n3:=by
  exact zIz
 clear hv;simp only [aS];have MV:Has ((wd4.alloc (.cells #[.int .i64 0,.bool false,.int .i64 0,.string ⟨#[]⟩,.int .i64 0,.slice none 0 0,.slice none 0 0,.slice none 0 0] 34)).alloc (.cells #[.slice none 0 0,.int .i64 0] 76)) wd4.heap.size 34 #[.int .i64 0,.bool false,.int .i64 0,.string ⟨#[]⟩,.int .i64 0,.slice none 0 0,.slice none 0 0,.slice none 0 0]:=(Has.made _ _ _).alloc _;have MF:Has (((wd4.alloc (.cells #[.int .i64 0,.bool false,.int .i64 0,.string ⟨#[]⟩,.int .i64 0,.slice none 0 0,.slice none 0 0,.slice none 0 0] 34)).alloc (.cells #[.slice none 0 0,.int .i64 0] 76)).setRow wd4.heap.size #[.int .i64 v.kind,.bool v.bool,.int .i64 v.num,.string ⟨v.str.toArray⟩,.int .i64 v.id,.slice A1 v.keys.length n1,.slice A2 v.items.length n2,.slice A3 v.rest.length n3]) (wd4.heap.size+1) 76 #[.slice none 0 0,.int .i64 0]:=oO (by
  have h:=Has.made (wd4.alloc (.cells #[.int .i64 0,.bool false,.int .i64 0,.string ⟨#[]⟩,.int .i64 0,.slice none 0 0,.slice none 0 0,.slice none 0 0] 34)) 76 #[.slice none 0 0,.int .i64 0];rwa [tH] at h) (by omega)
 go_upto_region 2 with (first | (refine wpList_store_row rfl 34 _ _ rfl wd4.heap.size _ rfl rfl 34 _ MV (by kernel_rfl) rfl (by simp [Value.oneCell']) ?_) | (refine wpList_store_row rfl 76 _ _ rfl (wd4.heap.size+1) _ rfl rfl 76 _ MF (by kernel_rfl) rfl (by simp [Value.oneCell']) ?_))
 clear MV MF;generalize hE8:wd4.alloc _=jC;generalize jE:jC.alloc _=nM;have ⟨hb6,V,F⟩:=an2 hE8 jE;clear hE8 jE;have hl12:=S.out.here;have tq:=hw3.size;replace S:=b1 S hb6;replace hw3:=dT hw3 hb6;clear hb6;generalize wd4.heap.size=g11 at *;generalize lW:nM.setRow _ _=oZ;obtain ⟨S,F⟩:=f2 S F (eR lW);replace V:=dV V lW;replace hw3:=tr hw3 lW;clear lW;generalize pK:oZ.setRow _ _=yN;obtain ⟨S,V⟩:=f2 S V (eR pK);replace F:=dV F pK;replace hw3:=tr hw3 pK;clear pK;go_wp2_with fail;go_ret;exact ⟨rfl,hw3⟩
theorem zJt {p:Prop} (h:p:=by
 rcases Nat.lt_or_ge b w.heap.size with h' | h'
 · exact h'
 simp [Array.getElem?_eq_none h'] at h2):p:=h
theorem Kept.bd {w:World} {B b:Nat} {bs:List Value} (h:Lib.IsBuilder 61 5 B b bs w):Kept (fun w => Lib.IsBuilder 61 5 B b bs w) w B w.heap.size:=by
 have hst:∀ w',(∀ k:Nat,B≤k→k < w.heap.size→w'.heap[k]?=w.heap[k]?)→Lib.IsBuilder 61 5 B b bs w':=by
  intro w' hk;have one:∀ p,Lib.BuilderAt 61 5 B b p bs w→Lib.BuilderAt 61 5 B b p bs w':=by
   rintro p ⟨h1,v,h2,h3,h4⟩;have hlt:b < w.heap.size:=by
    exact zJt
   exact ⟨h1,v,(hk b h1 hlt).trans h2,DI h3 hk,h4⟩
  exact h.elim (fun h => .inl (one _ h)) (fun h => .inr (one _ h))
 exact ⟨h,hst,Nat.le_refl _⟩
theorem ahY {w:World} {b:Nat} (h:Has w b 61 #[.pointer none,.slice none 0 0]):Lib.IsBuilder 61 5 b b [] w :=
 .inl ⟨Nat.le_refl _,_,h,World.ownsRow_nil _ _ _ _,by simp [Value.ownBlock]⟩
theorem Zt {w:World} {B b:Nat} {bs:List Value} (h:Lib.IsBuilder 61 5 B b bs w):b < w.heap.size:=by
 have one:∀ p,Lib.BuilderAt 61 5 B b p bs w→b < w.heap.size:=by
  rintro p ⟨h1,v,h2,h3,h4⟩;exact zJt
 exact h.elim (one _) (one _)
theorem anc {w:World} {B b:Nat} {l:List UInt8} (h:Lib.IsBuilder 61 5 B b (Lib.byteCells l) w) (h0:l≠[]):∃ g cap,w.cell? ⟨b,1,none⟩=some (.slice (some ⟨g,0,none⟩) l.length cap)∧B≤g∧g < w.heap.size:=by
 obtain ⟨p,hB,v,hbk,hown,hne⟩ : ∃ p,Lib.BuilderAt 61 5 B b p (Lib.byteCells l) w:=by
  rcases h with h | h
  · exact ⟨_,h⟩
  exact ⟨_,h⟩
 have hl0:l.length≠0:=by simpa using h0
 rw [Lib.byteCells_length] at hown;rcases hown.2 with ⟨_,hz⟩ | ⟨g,cap,cur,rfl,h1,h2,_⟩
 · exact absurd hz hl0
 refine ⟨g,cap,by rw [Lib.cell_of_heap hbk];rfl,h1,?_⟩;rcases Nat.lt_or_ge g w.heap.size with h' | h'
 · exact h'
 simp [Array.getElem?_eq_none h'] at h2
def BD2 (b L:Nat) (l:List UInt8) (w:World):Prop:=(l = []∧Has w b 61 #[.pointer none,.slice none 0 0])∨(l≠[]∧Lib.IsBuilder 61 5 b b (Lib.byteCells l) w∧∃ g cap,w.cell? ⟨b,1,none⟩=some (.slice (some ⟨g,0,none⟩) l.length cap)∧b≤g∧g < L)
theorem BD2.kept {w:World} {b L:Nat} {l:List UInt8} (h:Lib.IsBuilder 61 5 b b (Lib.byteCells l) w) (hf:l = []→Has w b 61 #[.pointer none,.slice none 0 0]) (hL:L=w.heap.size):Kept (BD2 b L l) w b L:=by
 subst hL;have hlt:=Zt h;by_cases h0:l = []
 · exact ⟨.inl ⟨h0,hf h0⟩,fun w' hk => .inl ⟨h0,(hk b (Nat.le_refl _) hlt).trans (hf h0)⟩,Nat.le_refl _⟩
 obtain ⟨g,cap,h1,h2,h3⟩:=anc h h0;exact ⟨.inr ⟨h0,h,g,cap,h1,h2,h3⟩,fun w' hk => .inr ⟨h0,(Kept.bd h).st w' hk,g,cap,(World.cell?_of_block (a:=⟨b,1,none⟩) (hk b (Nat.le_refl _) hlt)).trans h1,h2,h3⟩,Nat.le_refl _⟩
theorem Vt (b L:Nat) (l:List UInt8) (w:World) (h:BD2 b L l w) (hL:L≤w.heap.size) (hb:b < L) :
  Calls Tryz.prog 22 #[.pointer (some ⟨b,0,none⟩)] w fun e w' => e = .returned (.string ⟨l.toArray⟩)∧(∀ k,L≤k→k < w.heap.size→w'.heap[k]?=w.heap[k]?)∧Below b w w':=by
 rcases h with ⟨rfl,h⟩ | ⟨h0,h,g,cap,h1,h2,h3⟩
 ·
  refine (ae9 b w h).mono ?_;rintro e w' ⟨rfl,hB⟩;exact ⟨rfl,fun k _ hk => hB.block k hk,hB.mono (by omega)⟩
 refine (ae8 b b l w h h0).mono ?_;rintro e w' ⟨rfl,g',cap',h4,h5,h6,hB⟩;rw [h1] at h5;have he:g=g':=by
  injection h5 with h5;injection h5 with h5;injection h5 with h5;injection h5
 subst he;exact ⟨rfl,fun k hk _ => h6 k (by omega),hB⟩
theorem Xo.at_ {w:World} {v:Val} {vk vi vr:Value} {L B:Nat} (h:Xo L B v vk vi vr w) (hB:B≤w.heap.size):ValAt w w.heap.size v vk vi vr:=by
 obtain ⟨S,h1,h2⟩:=h;exact h1.at_ fun k hk => Nat.lt_of_lt_of_le (h2 k hk).2 hB
def afh (ts:List ay) (t:Int):Except Int mX→Int × Int
 | .error er => (0,er)
 | .ok (.error _) => (0,12)
 | .ok (.ok v) => (wrap64 (uz ts v t),0)
theorem zIk {p:Prop} (h:p:=by
 simp only [Ba];have MV:Has ((wd4.alloc (.cells #[.int .i64 0,.bool false,.int .i64 0,.string ⟨#[]⟩,.int .i64 0,.slice none 0 0,.slice none 0 0,.slice none 0 0] 34)).alloc (.cells #[.slice none 0 0,.int .i64 0] 76)) wd4.heap.size 34 #[.int .i64 0,.bool false,.int .i64 0,.string ⟨#[]⟩,.int .i64 0,.slice none 0 0,.slice none 0 0,.slice none 0 0]:=(Has.made _ _ _).alloc _;have MF:Has (((wd4.alloc (.cells #[.int .i64 0,.bool false,.int .i64 0,.string ⟨#[]⟩,.int .i64 0,.slice none 0 0,.slice none 0 0,.slice none 0 0] 34)).alloc (.cells #[.slice none 0 0,.int .i64 0] 76)).setRow wd4.heap.size #[.int .i64 0,.bool false,.int .i64 0,.string ⟨#[]⟩,.int .i64 0,.slice none 0 0,.slice none 0 0,.slice none 0 0]) (wd4.heap.size+1) 76 #[.slice none 0 0,.int .i64 0]:=oO (by
  have h:=Has.made (wd4.alloc (.cells #[.int .i64 0,.bool false,.int .i64 0,.string ⟨#[]⟩,.int .i64 0,.slice none 0 0,.slice none 0 0,.slice none 0 0] 34)) 76 #[.slice none 0 0,.int .i64 0];rwa [tH] at h) (by omega)
 go_upto_region 2 with (first | (refine wpList_store_row rfl 34 _ _ rfl wd4.heap.size _ rfl rfl 34 _ MV (by kernel_rfl) rfl (by simp [Value.oneCell']) ?_) | (refine wpList_store_row rfl 76 _ _ rfl (wd4.heap.size+1) _ rfl rfl 76 _ MF (by kernel_rfl) rfl (by simp [Value.oneCell']) ?_))
 clear MV MF;generalize hE8:wd4.alloc _=jC;generalize jE:jC.alloc _=nM;have ⟨hb6,V,F⟩:=an2 hE8 jE;clear hE8 jE;have hl12:=S.out.here;have tq:=hw3.size;replace S:=b1 S hb6;replace hw3:=dT hw3 hb6;clear hb6;generalize wd4.heap.size=g11 at *;generalize lW:nM.setRow _ _=oZ;obtain ⟨S,F⟩:=f2 S F (eR lW);replace V:=dV V lW;replace hw3:=tr hw3 lW;clear lW;generalize pK:oZ.setRow _ _=yN;obtain ⟨S,V⟩:=f2 S V (eR pK);replace F:=dV F pK;replace hw3:=tr hw3 pK;clear pK;go_wp2_with fail;go_ret2;exact ⟨rfl,hw3⟩):p:=h
theorem Yd (ts:List ay) (A:Option Addr) (c:Nat) (t:Int) (m:List UInt8) (w:World) (hs:Sizes ts) (hf:∀ v,nX ts t m = .ok (.ok v)→∀ (W:World) (vk vi vr:Value),ValAt W W.heap.size v vk vi vr→aU W W.heap.size (.slice A ts.length c) ts→Calls Tryz.prog 33 #[.agg #[.slice A ts.length c],.int .i64 t,aS v vk vi vr] W fun e w' => e = .returned (.int .i64 (wrap64 (uz ts v t)))∧Below W.heap.size W w') (hT:aU w w.heap.size (.slice A ts.length c) ts) :
  Calls Tryz.prog 11 #[.agg #[.slice A ts.length c],.int .i64 t,.string ⟨m.toArray⟩] w (RT w (.tuple #[.int .i64 (afh ts t (nX ts t m)).1,.int .i64 (afh ts t (nX ts t m)).2])):=by
 have hre:=fun er h => MJ (ts:=ts) (t:=t) (m:=m) (er:=er) h;have HT:=hiQ hT;have FV:=hiQ (fun W h => JC ts A c t m W hs h);generalize nX ts t m=r at *;clear hT hs;go_enter Tryz.func11,Tryz.ntmps11
 go_upto_region 1 with fail;refine aO (fun wd2 hb1 S => ?_);have hw3:=hb1;clear hb1;have aH:=S.out.e0;rcases r with er | ⟨⟨p,n⟩ | v⟩
 ·
  have her:=hre er rfl;have he1:(er != 0)=true:=by rw [bne_iff_ne];omega
  clear hre her hf;go_wp2_with fail;clear aH;((with_reducible refine (FV.out _ (HT.out.on hw3)).mono ?_);rintro e wd4 ⟨hb5,rfl⟩);replace S:=b1 S hb5;replace hw3:=dT hw3 hb5;clear hb5;exact zIk
 ·
  clear hre hf;go_wp2_with fail;clear aH;((with_reducible refine (FV.out _ (HT.out.on hw3)).mono ?_);rintro e wd4 ⟨hb5,fp,rfl,hown⟩);replace S:=b1 S hb5;replace hw3:=dT hw3 hb5;clear hb5;obtain ⟨Af,cf,rfl⟩:=jF hown;clear hown;exact zIk
 have HF:=hiQ (hf v rfl);clear hre hf;obtain ⟨LX,zA⟩ : ∃ n,n=(wd2).heap.size:=⟨_,rfl⟩
 have hzl:=S.out.here;rw [← zA] at hzl;go_wp2_with fail;clear aH;((with_reducible refine (FV.out _ (HT.out.on hw3)).mono ?_);rintro e wd4 ⟨hb5,vk,vi,vr,rfl,hv⟩);replace S:=b1 S hb5;replace hw3:=dT hw3 hb5;clear hb5;obtain ⟨A1,n1,A2,n2,A3,n3,rfl,rfl,rfl⟩ : ∃ A1 n1 A2 n2 A3 n3,vk = .slice A1 v.keys.length n1∧vi = .slice A2 v.items.length n2∧vr = .slice A3 v.rest.length n3:=by
  exact zIz
 obtain ⟨BX,Fq⟩ : ∃ n,n=(wd4).heap.size:=⟨_,rfl⟩
 have N:=hiQ (Kept.OY hv zA Fq);clear hv zA Fq;simp only [aS];have MV:Has ((wd4.alloc (.cells #[.int .i64 0,.bool false,.int .i64 0,.string ⟨#[]⟩,.int .i64 0,.slice none 0 0,.slice none 0 0,.slice none 0 0] 34)).alloc (.cells #[.slice none 0 0,.int .i64 0] 76)) wd4.heap.size 34 #[.int .i64 0,.bool false,.int .i64 0,.string ⟨#[]⟩,.int .i64 0,.slice none 0 0,.slice none 0 0,.slice none 0 0]:=(Has.made _ _ _).alloc _;have MF:Has (((wd4.alloc (.cells #[.int .i64 0,.bool false,.int .i64 0,.string ⟨#[]⟩,.int .i64 0,.slice none 0 0,.slice none 0 0,.slice none 0 0] 34)).alloc (.cells #[.slice none 0 0,.int .i64 0] 76)).setRow wd4.heap.size #[.int .i64 v.kind,.bool v.bool,.int .i64 v.num,.string ⟨v.str.toArray⟩,.int .i64 v.id,.slice A1 v.keys.length n1,.slice A2 v.items.length n2,.slice A3 v.rest.length n3]) (wd4.heap.size+1) 76 #[.slice none 0 0,.int .i64 0]:=oO (by
  have h:=Has.made (wd4.alloc (.cells #[.int .i64 0,.bool false,.int .i64 0,.string ⟨#[]⟩,.int .i64 0,.slice none 0 0,.slice none 0 0,.slice none 0 0] 34)) 76 #[.slice none 0 0,.int .i64 0];rwa [tH] at h) (by omega)
 go_upto_region 2 with (first | (refine wpList_store_row rfl 34 _ _ rfl wd4.heap.size _ rfl rfl 34 _ MV (by kernel_rfl) rfl (by simp [Value.oneCell']) ?_) | (refine wpList_store_row rfl 76 _ _ rfl (wd4.heap.size+1) _ rfl rfl 76 _ MF (by kernel_rfl) rfl (by simp [Value.oneCell']) ?_))
 clear MV MF;generalize hE8:wd4.alloc _=jC;generalize jE:jC.alloc _=nM;have ⟨hb6,V,F⟩:=an2 hE8 jE;clear hE8 jE;have hl12:=S.out.here;have tq:=N.out.le;have uj:=hw3.size;obtain ⟨S,N⟩:=b2 S N hb6;replace hw3:=dT hw3 hb6;clear hb6;generalize wd4.heap.size=g11 at *;generalize bV:nM.setRow _ _=jA;obtain ⟨S,F,N⟩:=f3 S F N (eR bV);replace V:=dV V bV;replace hw3:=tr hw3 bV;clear bV;generalize fQ:jA.setRow _ _=ji;obtain ⟨S,V,N⟩:=f3 S V N (eR fQ);replace F:=dV F fQ;replace hw3:=tr hw3 fQ;clear fQ;have hle:=N.out.le;obtain ⟨bK,dh,dn,dI,bG,aQ,aP,dJ⟩:=V.out.c8;have aH:=S.out.e0;go_wp2_with fail;clear bK dh dn dI bG aQ aP dJ aH;((with_reducible refine (HF.out _ _ _ _ ((N.out.now.afb (w:=w) (by omega) hle).at_ (fun b hb => by unfold Kz at hb;omega)) (HT.out.on hw3)).mono ?_);rintro e fZ ⟨rfl,iO⟩);obtain ⟨S,V,F,N⟩:=b4 S V F N iO;replace hw3:=dT hw3 iO;clear iO;go_wp2_with fail;go_ret2;exact ⟨rfl,hw3⟩
end Go.Proofs.YticejnbbonnniaaGreatDoor
