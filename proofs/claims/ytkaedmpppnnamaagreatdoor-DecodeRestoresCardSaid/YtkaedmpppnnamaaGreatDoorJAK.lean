/- Types whose lists are slices of the call's own, and what else is used with it. No condition. -/
import Derived.Test.YtkaedmpppnnamaaGreatDoorJAJ
set_option maxRecDepth 100000
namespace Go.Proofs.YtkaedmpppnnamaaGreatDoor
open ChangeShapes WideShapes ChangeAt RowKit
def KD (v:Value) (r:Option Nat):Prop:=v.ownBlock=none\/v.ownBlock≠r
def JO (m:Mem):Prop:=I64 m.id/\I64 m.ty/\m.name.length<=140737488351232/\I64 m.dflt.kind/\I64 m.dflt.num/\I64 m.dflt.id/\m.dflt.str.length<=140737488351232/\m.dflt.keys = []/\m.dflt.items = []/\m.dflt.rest = []
structure qJ (t:ay):Prop where
 ints:I64 t.kind/\I64 t.low/\I64 t.high/\I64 t.max/\I64 t.key/\I64 t.elem
 GI:t.name.length<=140737488351232
 lens:t.syms.length<=140737488351232/\t.ah.length<=140737488351232
 QL:∀ r ∈ t.syms,yR r
 adr:∀ m ∈ t.ah,JO m
structure XE (w:World) (base:Nat) (t:ay) (vs vm:Value):Prop where
 sy:w.ownsRow base 86 2 vs t.syms.length (jO t.syms)
 me:w.ownsRow base 76 13 vm t.ah.length (t.ah.flatMap Qc)
inductive jP (w:World) (base:Nat) (r:Option Nat):List ay->List Value->Prop
 | nil:jP w base r [] []
 | snoc (ts:List ay) (cs:List Value) (t:ay) (vs vm:Value) (h:jP w base r ts cs) (ho:XE w base t vs vm) (h1:KD vs r) (h2:KD vm r) (hp:qJ t):jP w base r (ts ++ [t]) (cs ++ Pq t vs vm)
theorem jP.heap {w w':World} {base:Nat} {r:Option Nat} {ts:List ay} {cs:List Value} (h:jP w base r ts cs) (hk:∀ k:Nat,base<=k->k < w.heap.size->w'.heap[k]?=w.heap[k]?):jP w' base r ts cs:=by
 induction h with
 | nil => exact .nil
 | snoc ts cs t vs vm _ ho h1 h2 hp ih => exact .snoc ts cs t vs vm ih ⟨DI ho.sy hk,DI ho.me hk⟩ h1 h2 hp
theorem Kept.typs {w:World} {base:Nat} {r:Option Nat} {ts:List ay} {cs:List Value} (h:jP w base r ts cs):Kept (fun w => jP w base r ts cs) w base w.heap.size:=⟨h,fun _ hk => h.heap hk,b_ _⟩
theorem UK {w:World} {base:Nat} {e:TypeId} {size n:Nat} {v:Value} {xs:List Value} (ho:w.ownsRow base e size v n xs) {r r':Option Nat} (h1:KD v r) {H:Nat} (hH:w.heap.size<=H) (hr:r'=r\/r'=some H):KD v r':=by
 rcases hr with rfl | rfl
 . exact h1
 rcases h1 with h1 | h1
 . exact .inl h1
 cases hv:v.ownBlock with
 | none => exact .inl hv
 | some k =>
  right
  rw [hv];intro he;injection he with he;have:=(ho.lt k hv).2;omega
theorem jP.grown {W w':World} {base:Nat} {r r':Option Nat} {ts:List ay} {cs:List Value} {o:Obj} (h:jP W base r ts cs) (hg:(W.alloc o).grownBy w' r) {H:Nat} (hH:W.heap.size<=H) (hr:r'=r\/r'=some H):jP w' base r' ts cs:=by
 induction h with
 | nil => exact .nil
 | snoc ts cs t vs vm _ ho h1 h2 hp ih => exact .snoc ts cs t vs vm ih ⟨TV ho.sy hg h1,TV ho.me hg h2⟩ (UK ho.sy h1 hH hr) (UK ho.me h2 hH hr) hp
theorem jP.len {w:World} {base:Nat} {r:Option Nat} {ts:List ay} {cs:List Value} (h:jP w base r ts cs):cs.length=ts.length*10:=by
 induction h with
 | nil => rfl
 | snoc ts cs t vs vm _ _ _ _ _ ih => rw [h_,h_,ih,Nat.add_mul];rfl
theorem ahC {w:World} {base:Nat} {vm:Value} {ms:List Mem} (h:w.ownsRow base 76 13 vm ms.length (ms.flatMap Qc)) (hp:∀ m ∈ ms,JO m):rW w w.heap.size vm ms:=by
 have hr:=Rd.uX h;obtain ⟨hl,A,c,hv,hc,h2⟩:=hr;refine ⟨fun i => match ms[i]? with | some m => Qc m | none => [],⟨A,c,hv,hc,?_⟩,fun i hi => ?_⟩
 .
  rcases h2 with h2 | ⟨b,o,hA,hb,hcell⟩
  . exact .inl h2
  refine .inr ⟨b,o,hA,hb,fun i hi j u hu => ?_⟩;simp only [m_ hi] at hu;have hj:j < 13:=by
   have:=(C_.1 hu).1;simpa [ayA] using this
  rw [Us];exact hcell _ _ (by rw [flat_get ayA ms i j hi hj];exact hu)
 obtain ⟨a1,a2,a3,a4,a5,a6,a7,a8,a9,a10⟩:=hp ms[i] (jl hi);refine ⟨.slice none 0 0,.slice none 0 0,.slice none 0 0,?_,⟨a1,a2⟩,a3,⟨⟨a4,a5,a6⟩,a7,by rw [a8,a9,a10];simp,by rw [a10];simp,?_,?_,?_⟩⟩
 . simp only [m_ hi];rfl
 . rw [a8];exact ⟨fun _ => [],⟨none,0,rfl,b_ _,.inl rfl⟩,fun i hi => by simp at hi⟩
 . rw [a9];exact ⟨fun _ => [],⟨none,0,rfl,b_ _,.inl rfl⟩,fun i hi => by simp at hi⟩
 rw [a10];exact Rd.nil_ _ _ _
theorem XE.at_ {w:World} {base:Nat} {t:ay} {vs vm:Value} (h:XE w base t vs vm) (hp:qJ t):jc w w.heap.size t vs vm :=
 ⟨hp.ints,hp.GI,hp.lens,hp.QL,Rd.uX h.sy,ahC h.me hp.adr⟩
theorem jP.cell {w:World} {base:Nat} {r:Option Nat} {ts:List ay} {cs:List Value} (h:jP w base r ts cs):∀ (i:Nat) (hi:i < ts.length),∃ vs vm,(cs.drop (i*10)).take 10=Pq ts[i] vs vm/\jc w w.heap.size ts[i] vs vm:=by
 induction h with
 | nil => intro i hi;simp at hi
 | snoc ts cs t vs vm h0 ho h1 h2 hp ih =>
  intro i hi;have hl:=h0.len;by_cases hlt:i < ts.length
  .
   obtain ⟨a,b,h3,h4⟩:=ih i hlt;refine ⟨a,b,?_,?_⟩
   . rw [List.drop_append_of_le_length (by omega),List.take_append_of_le_length (by rw [Qx];omega),h3,V6 hlt]
   rw [V6 hlt];exact h4
  obtain rfl:i=ts.length:=by simp at hi;omega
  refine ⟨vs,vm,?_,?_⟩
  .
   rw [<- hl,List.drop_left,Vt (b_ _)];simp
   rfl
  rw [Vt (b_ _)];simpa using ho.at_ hp
theorem Yw {w:World} {base:Nat} {r:Option Nat} {v:Value} {ts:List ay} {cs:List Value} (ho:w.ownsRow base 72 10 v ts.length cs) (h:jP w base r ts cs):aU w w.heap.size v ts:=by
 have hr:=Rd.uX ho;obtain ⟨hl,A,c,hv,hc,h2⟩:=hr;refine ⟨fun i => (cs.drop (i*10)).take 10,⟨A,c,hv,hc,?_⟩,h.cell⟩;rcases h2 with h2 | ⟨b,o,hA,hb,hcell⟩
 . exact .inl h2
 refine .inr ⟨b,o,hA,hb,fun i hi j u hu => ?_⟩;have hj:j < 10:=by
  have:=(C_.1 hu).1;rw [L_] at this;omega
 rw [Uw hj,List.getElem?_drop] at hu;rw [Us];exact hcell _ _ hu
theorem Tm (xs:List fJ) (t code:Nat):I64 (aT xs t code).1.kind/\I64 (aT xs t code).1.num/\I64 (aT xs t code).1.id/\(aT xs t code).1.str.length<=140737488351232/\(aT xs t code).1.keys = []/\(aT xs t code).1.items = []/\(aT xs t code).1.rest = []:=by
 unfold aT;cases xs[t]? with
 | none => simp [jm,Val.kind,Val.num,Val.id,Val.str,Val.keys,Val.items,Val.rest,I64]
 | some x =>
  simp only;generalize hk:(if ai5 x=8/\vw xs 0=none then 7 else ai5 x)=k;have hk9:1<=k/\k<=9:=by have:=vX x;rw [<- hk];split <;> omega
  by_cases h56:k=5\/k=6
  . rw [o_ h56];simp [jm,Val.kind,Val.num,Val.id,Val.str,Val.keys,Val.items,Val.rest,I64]
  rw [gB h56];have hlo:=I7 x;have hhi:tX x - vY x+1=(x.b:Int) % 6+1:=by unfold tX;omega
  refine ⟨by simp only [Val.kind,I64];omega,?_,?_,?_,rfl,rfl,rfl⟩
  .
   simp only [Val.num,I64];split
   .
    rw [hhi];have h1:=Int.emod_nonneg (code:Int) (show (x.b:Int) % 6+1≠0 by omega);have h2:=Int.emod_lt_of_pos (code:Int) (show 0 < (x.b:Int) % 6+1 by omega);omega
   omega
  .
   simp only [Val.id,I64];split
   .
    have hm:code % (qK x).length < (qK x).length:=Qo _ (by have:=zC x;omega);rw [Oa,m_ hm];have:=Fv x _ (jl hm);simp only [V8];omega
   omega
  simp only [Val.str];split <;> simp
theorem XF (xs:List fJ) (i:Nat) (rc:Bool) (id:Nat) (hid:id<=12) (h5:xs.length<=5) (hi:i < xs.length) (p:Aw) (m:Mem) (h:partOf xs i rc id p=some m):JO m:=by
 unfold partOf at h;cases ht:uN xs i p.2.1 with
 | none => rw [ht] at h;cases h
 | some t =>
  rw [ht] at h;have htl:=RG xs i p.2.1 hi t ht;simp only at h;split at h
  .
   injection h with h;subst h;have hd:∀ b:Bool,I64 (if b then aT xs t (p.2.2 / 4) else (jm,false)).1.kind/\I64 (if b then aT xs t (p.2.2 / 4) else (jm,false)).1.num/\I64 (if b then aT xs t (p.2.2 / 4) else (jm,false)).1.id/\(if b then aT xs t (p.2.2 / 4) else (jm,false)).1.str.length<=140737488351232/\(if b then aT xs t (p.2.2 / 4) else (jm,false)).1.keys = []/\(if b then aT xs t (p.2.2 / 4) else (jm,false)).1.items = []/\(if b then aT xs t (p.2.2 / 4) else (jm,false)).1.rest = []:=by
    intro b;cases b with
    | true => exact Tm xs t _
    | false => simp [jm,Val.kind,Val.num,Val.id,Val.str,Val.keys,Val.items,Val.rest,I64]
   obtain ⟨d1,d2,d3,d4,d5,d6,d7⟩:=hd (rc && decide (2<=p.2.2 % 4));exact ⟨by simp only [I64];omega,by simp only [I64];omega,by simp [tN],d1,d2,d3,d4,d5,d6,d7⟩
  cases h
theorem XG (xs:List fJ) (i:Nat) (rc:Bool) (ps:List Aw) (h5:xs.length<=5) (hi:i < xs.length) (k:Nat) (hk:k<=12):∀ m ∈ lH xs i rc ps k,JO m:=by
 induction k with
 | zero => simp [lH]
 | succ k ih =>
  intro m hm;rw [lH] at hm;rcases Dp.1 hm with h | h
  . exact ih (by omega) m h
  unfold tK at h;cases hf:ps.findSome? (partOf xs i rc (k+1)) with
  | none => rw [hf] at h;simp at h
  | some m2 =>
   rw [hf] at h;have:m=m2:=by simpa using h
   subst this;obtain ⟨p,_,hp⟩:=List.exists_of_findSome?_eq_some hf;exact XF xs i rc (k+1) hk h5 hi p m hp
theorem alm (xs:List fJ) (i:Nat) (x:fJ) (h5:xs.length<=5) (hi:i < xs.length):qJ (iL xs i x):=by
 have hk:=vX x;have hlo:=I7 x;have hhi:tX x<=8 /\ -3<=tX x:=by unfold tX;omega
 have hmp:=fun rc => XG xs i rc x.parts h5 hi 12 (b_ _);have hml:=fun rc => CV xs i rc x.parts 12;have hnl:(if ql (ai5 x) then lN i else []).length<=140737488351232:=by split <;> simp [lN]
 have hc:x.c % xs.length < 5:=by have:=Qo x.c (show 0 < xs.length by omega);omega
 have ha:x.a % 4 < 4:=Qo _ (by omega);unfold iL;simp only;have hb:∀ t:ay,t.syms = []->t.ah = []->(I64 t.kind/\I64 t.low/\I64 t.high/\I64 t.max/\I64 t.key/\I64 t.elem)->t.name.length<=140737488351232->qJ t:=by
  intro t h1 h2 h3 h4;exact ⟨h3,h4,by rw [h1,h2];simp,by rw [h1];simp,by rw [h2];simp⟩
 split
 . exact hb _ rfl rfl (by simp only [iM,I64];omega) (by simp [iM])
 split
 . exact hb _ rfl rfl (by simp only [iM,I64];omega) (by simp [iM])
 split
 .
  refine ⟨by simp only [iM,I64];omega,hnl,by have:=zC x;simp [iM];omega,?_,by simp [iM]⟩;intro r hr;obtain ⟨a,ha2,rfl⟩:=Pe.1 hr;have:=Fv x a ha2;exact ⟨by simp only [I64];omega,by simp [tN]⟩
 split
 . exact ⟨by simp only [iM,I64];omega,hnl,by have:=hml true;simp [iM,oH];omega,by simp [iM],hmp true⟩
 split
 .
  split
  . exact hb _ rfl rfl (by simp only [iM,I64];omega) hnl
  exact ⟨by simp only [iM,I64];omega,hnl,by have:=hml false;simp [iM,oH];omega,by simp [iM],hmp false⟩
 split
 . exact hb _ rfl rfl (by simp only [iM,I64];omega) (by simp [iM])
 split
 .
  cases hkn:vw xs x.b with
  | none => exact hb _ rfl rfl (by simp only [iM,I64];omega) (by simp [iM])
  | some j =>
   have:=(Td xs x.b j hkn).1;exact hb _ rfl rfl (by simp only [iM,I64];omega) (by simp [iM])
 split
 . exact hb _ rfl rfl (by simp only [iM,I64];omega) (by simp [iM])
 exact hb _ rfl rfl (by simp only [iM,I64];omega) (by simp [iM])
theorem EW (xs:List fJ):(jw xs).length=xs.length:=by unfold jw;simp
theorem ahD (xs:List fJ) (k:Nat) (h:k < xs.length):(jw xs)[k]'(by rw [EW];exact h)=iL xs k xs[k]:=by unfold jw;simp
theorem adS (xs:List fJ) (k:Nat) (h:k < xs.length):(jw xs).take (k+1)=(jw xs).take k ++ [iL xs k xs[k]]:=by
 rw [vK (by rw [EW];exact h),ahD]
theorem ads (xs:List fJ) (i:Nat) (x:fJ):1<=(iL xs i x).kind/\(iL xs i x).kind<=9:=by
 have hk:=vX x;unfold iL;simp only;split
 . simp only [];omega
 split
 . simp only [];omega
 split
 . simp only [];omega
 split
 . simp only [];omega
 split
 .
  split
  . simp only [];omega
  simp only [];omega
 split
 . simp only [];omega
 split
 .
  cases vw xs x.b with
  | none => simp only [];omega
  | some j => simp only [];omega
 split
 . simp only [];omega
 simp only [];omega
end Go.Proofs.YtkaedmpppnnamaaGreatDoor
namespace Go.Proofs.YtkaedmpppnnamaaGreatDoor
open ChangeShapes WideShapes ChangeAt RowKit Joins
def U5 (b:UInt8):List Value:=[B8 b]
theorem adt (b:UInt8):(U5 b).length=1:=rfl
theorem aaX (l:List UInt8):l.flatMap U5=l.map B8:=by
 induction l with
 | nil => rfl
 | cons a r ih => rw [B_,Qv,ih];rfl
section
variable {H:Type} {enc:TypeId × Value->H} {w:World} {base:Nat} {spare:Nat->Bool} {held:Bool}
theorem byte_of (N:Nat) (cs:List Value) (D:DataW H) (Q:List MemPlace) (hl:cs.length=1)
  (h:DataW.trod enc Tryz.prog w base spare held N 5 cs=some (D,Q)):∃ x:UInt8,cs=U5 x/\True:=by
 obtain ⟨c0,rfl⟩ : ∃ a,cs = [a]:=by
  match cs,hl with
  | [a],_ => exact ⟨a,rfl⟩
 obtain ⟨n0,e0,_,w0⟩:=DataW.trod_int Tryz.underlying5 h;obtain ⟨m0,rfl,b0⟩:=CS w0;refine ⟨UInt8.ofNat m0,?_,trivial⟩;simp only [List.cons.injEq,and_true] at e0;subst e0;unfold U5 B8;rw [UInt8.toNat_ofNat_of_lt' b0]
theorem adu (N:Nat) (cs:List Value) (D:DataW H) (Q:List MemPlace) (hl:cs.length=1)
  (h:DataW.trod enc Tryz.prog w base spare held N 24 cs=some (D,Q)) (hs:Sz 24 D):∃ (xs:List fJ) (vn:Value),cs = [vn]/\xs.length<=4398046510976/\jR w w.heap.size vn xs:=by
 obtain ⟨xs,n,rfl,hx,_,hxl,hg⟩:=DataW.trod_struct Tryz.underlying24 h
 match xs,hxl with
 | [y0],_ =>
  injection hx with hx1 hx2;have h0:DataW.trod enc Tryz.prog w base spare held n 22 ((cs.drop 0).take (Tryz.prog.cellsOf 22))=some y0:=hg 0 _ rfl;have k0:Tryz.prog.cellsOf 22=1:=by kernel_rfl
  subst hx1;have sz0:=Sz.field hs Tryz.underlying24 (i:=0) rfl rfl;obtain ⟨vn,ns,e,l,r⟩:=ahi h0 sz0;refine ⟨ns,vn,?_,l,r⟩;rw [k0,WM,yJ (by omega)] at e;exact e
end
theorem Ym {H:Type} {enc:TypeId × Value->H} {W:World} {base0:Nat} {v:Value} {d:DataW H} {p:List MemPlace} (hv:Value.okWide Tryz.prog W .any base0 27 v) (h:DataW.Trod enc Tryz.prog W 0 (fun _ => true) true 27 v d p) (hs:Sz 27 d) :
  ∃ (xs:List fJ) (vn:Value) (t:Nat) (l:List UInt8) (vl:Value),v = .agg #[vn,.int .u8 t,vl]/\t < 256/\l.length<=140737488351232/\xs.length<=4398046510976/\jR W W.heap.size vn xs/\Rd W W.heap.size 1 vl l.length (l.map B8):=by
 obtain ⟨cs,rfl,hsz⟩:=okWide_struct Tryz.underlying27 hv;obtain ⟨fuel,hf⟩:=h;have hC:Tryz.prog.cellsOf 27=3:=by kernel_rfl
 have hl:cs.toList.length=3:=by simpa [hC] using hsz
 obtain ⟨xs,n,rfl,hx,_,hxl,hg⟩:=DataW.trod_struct Tryz.underlying27 hf;have hce:(Value.agg cs).cells.toList=cs.toList:=rfl;rw [hce] at hg;obtain ⟨c0,c1,c2,hcs⟩ : ∃ a b c,cs.toList = [a,b,c]:=by
  match hcl:cs.toList,hl with
  | [a,b,c],_ => exact ⟨a,b,c,rfl⟩
 rw [hcs] at hg
 match xs,hxl with
 | [y0,y1,y2],_ =>
  injection hx with hx1 hx2;have k0:Tryz.prog.cellsOf 24=1:=by kernel_rfl
  have k1:Tryz.prog.cellsOf 5=1:=by kernel_rfl
  have k2:Tryz.prog.cellsOf 25=1:=by kernel_rfl
  have h0:DataW.trod enc Tryz.prog W 0 (fun _ => true) true n 24 (([c0,c1,c2].drop 0).take (Tryz.prog.cellsOf 24))=some y0:=hg 0 _ rfl;have h1:DataW.trod enc Tryz.prog W 0 (fun _ => true) true n 5 (([c0,c1,c2].drop 1).take (Tryz.prog.cellsOf 5))=some y1:=hg 1 _ rfl;have h2:DataW.trod enc Tryz.prog W 0 (fun _ => true) true n 25 (([c0,c1,c2].drop 2).take (Tryz.prog.cellsOf 25))=some y2:=hg 2 _ rfl;rw [k0] at h0;rw [k1] at h1;rw [k2] at h2;subst hx1;have sz0:=Sz.field hs Tryz.underlying27 (i:=0) rfl rfl;have sz2:=Sz.field hs Tryz.underlying27 (i:=2) rfl rfl;obtain ⟨ns,vn,e0,l0,r0⟩:=adu n _ y0.1 y0.2 (by simp) h0 sz0;obtain ⟨n1,e1,_,w1⟩:=DataW.trod_int Tryz.underlying5 h1;obtain ⟨m1,rfl,Zc⟩:=CS w1;obtain ⟨vl,l,el,ll,gl,rl⟩:=open_list Tryz.underlying25 (size:=1) (by kernel_rfl) (by decide) adt h2 sz2 (good:=fun _ => True) (fun N cs' D Q hl ht _ => byte_of N cs' D Q hl ht);have hbb:Tryz.prog.bytesOf 5=1:=by kernel_rfl
  rw [hbb] at ll;rw [aaX] at rl;simp only [List.drop,List.take,List.cons.injEq,and_true] at e0 e1 el;subst e0 e1 el;refine ⟨ns,_,m1,l,_,?_,Zc,by omega,l0,r0,rl⟩
  congr 1
  apply Array.toList_inj.1
  exact hcs
