/- What schema.uses computes, and what else is used with it. No condition. -/
import Derived.Deep.MidRow
import Derived.Laws.CopyOwn
import Derived.Deep.RegionLaw
import Derived.Deep.Cut
import Derived.Test.YtkaedmpppnnamaaGreatDoorForm
set_option maxHeartbeats 4000000
set_option maxRecDepth 100000
namespace Go.Proofs.YtkaedmpppnnamaaGreatDoor
open ChangeShapes WideShapes ChangeAt RowKit
def FK (m:Mem):Value:=.int .i64 m.ty
def lg (x:ay):List Int:=x.ah.map Mem.ty ++ ((if x.kind=8 then [x.key] else []) ++ (if 7<=x.kind then [x.elem] else []))
def V9 (l:List Int) (w:World) (e:Ending) (w':World):Prop := ∃ v,e = .returned v/\Rd w' w'.heap.size 1 v l.length (l.map (Value.int .i64))/\Below w.heap.size w w'
theorem zO {w:World} {B n:Nat} {v:Value} {xs:List Value} {l:List Int} (h:w.ownsRow B 3 1 v n xs) (hl:xs=l.map (Value.int .i64)) (hn:n=l.length):Rd w w.heap.size 1 v l.length (l.map (Value.int .i64)):=by
 subst hl;subst hn;exact Rd.uX h
theorem zCo {p:Prop} (h:p:=by
 clear hg3 hgat hbase aC aV O;replace T:=hiQ (T.out.below hb3 (show w.heap.size < w.heap.size+1 by omega));replace hb:=hb.trans (hb3.mono (show w.heap.size<=w.heap.size+1 by omega));have O:=hiQ (Kept.own hown3);clear hown3;go_wp2_with fail;go_ret;exact ⟨_,rfl,zO O.out.now (by rw [CG.out];simp [FK]) (by rw [CG.out];simp),hb⟩):p:=h
theorem zDi {p:Prop} (h:p:=by
 go_wp2_with fail;go_ret;exact ⟨_,rfl,zO O.out.now (by rw [CG.out];simp [FK]) (by rw [CG.out];simp),hb⟩):p:=h
theorem zFz {p:Prop} (h:p:=by
 go_wp2_with fail;go_roundw
 case rel => exact ⟨k+1,by omega,by go_num,by rw [wO.out];exact O.out.now,T.out,hb⟩
 case measure => simp [intOf];omega):p:=h
theorem Wh (x:ay) (vs vm:Value) (w:World) (hl:x.ah.length<=6000000000000) (ht:jc w w.heap.size x vs vm) :
  Calls Tryz.prog 75 #[dA x vs vm] w (V9 (lg x) w):=by
 obtain ⟨C1,m1,C2,m2,rfl,rfl,-,-⟩:=ht.forms;have HT:=hiQ ht;clear ht;go_enter Tryz.func75,Tryz.ntmps75
 go_upto_region 1 with fail;refine aO (fun wd2 hb1 T => ?_);have hw3:=hb1;clear hb1;have bf:=T.out.e6;have HT0:=hiQ T.out;have hB0:=hw3;go_wp2_with fail;go_loopw [3,9] (fun s3 i wr => ∃ k:Nat,k<=x.ah.length/\i = .int .i64 k/\wr.ownsRow (w.heap.size+1) 3 1 s3 k ((x.ah.take k).map FK)/\Has wr w.heap.size 72 #[.int .i64 x.kind,.string ⟨x.name.toArray⟩,.int .i64 x.low,.int .i64 x.high,.int .i64 x.max,.slice C1 x.syms.length m1,.slice C2 x.ah.length m2,.int .i64 x.key,.int .i64 x.elem,.bool x.opn]/\Below w.heap.size w wr) (fun _ i _ => x.ah.length - (intOf i).toNat)
 case atStart => exact ⟨0,by omega,rfl,K_ _ _ _ _,HT0.out,hB0⟩
 case round =>
  clear T hB0 HT0;obtain ⟨k,hk,rfl,hown,T,hb⟩:=hrel;obtain ⟨A0,c0,rfl⟩:=jF hown;replace T:=hiQ T;have O:=hiQ (Kept.own hown);clear hown;by_cases hlt:k < x.ah.length
  .
   obtain ⟨b,o,hC2,hb1,hel⟩:=HT.out.ah.elem (by omega);obtain ⟨dk,di,dr,hcells,hma⟩:=hel k hlt;have wO:Hid ((x.ah.take (k+1)).map FK=(x.ah.take k).map FK ++ [.int .i64 x.ah[k].ty]):=Bj FK x.ah k hlt;generalize x.ah[k]=m at *;obtain ⟨D1,d1,D2,d2,D3,d3,rfl,rfl,rfl,-,-,-⟩:=hma.dflt.forms;obtain ⟨y0,y1,y2,y3,y4,y5,y6,y7,y8,y9,GN,GR,GU⟩:=hcells;have x0:=(hb.cell (p:=⟨b,_,none⟩) hb1).trans y0;have x1:=(hb.cell (p:=⟨b,_,none⟩) hb1).trans y1;have x2:=(hb.cell (p:=⟨b,_,none⟩) hb1).trans y2;have x3:=(hb.cell (p:=⟨b,_,none⟩) hb1).trans y3;have x4:=(hb.cell (p:=⟨b,_,none⟩) hb1).trans y4;have x5:=(hb.cell (p:=⟨b,_,none⟩) hb1).trans y5;have x6:=(hb.cell (p:=⟨b,_,none⟩) hb1).trans y6;have x7:=(hb.cell (p:=⟨b,_,none⟩) hb1).trans y7;have x8:=(hb.cell (p:=⟨b,_,none⟩) hb1).trans y8;have x9:=(hb.cell (p:=⟨b,_,none⟩) hb1).trans y9;have x10:=(hb.cell (p:=⟨b,_,none⟩) hb1).trans GN;have x11:=(hb.cell (p:=⟨b,_,none⟩) hb1).trans GR;have x12:=(hb.cell (p:=⟨b,_,none⟩) hb1).trans GU;clear y0 y1 y2 y3 y4 y5 y6 y7 y8 y9 GN GR GU;have hi1:(k:Int) < x.ah.length:=by omega
   clear hel hma;go_upto_region 5 with fail;refine aO (fun fG hb4 M => ?_);have nI:=T.out.here;have mO:=O.out.le;have kH:=hb.size;obtain ⟨T,O⟩:=b2 T O hb4;replace hb:=dT hb hb4;clear hb4;generalize wr.heap.size=g6 at *;clear x0 x1 x2 x3 x4 x5 x6 x7 x8 x9 x10 x11 x12 hC2;have je:=M.out.e2;have hbase:w.heap.size+1<=fG.heap.size:=T.out.here;go_upto_region 6 with (at_builtin;refine fA rfl _ _ _ rfl (w.heap.size+1) 3 _ 1 8 Tryz.underlying57 oP rfl (by decide) _ (k) _ rfl O.out.now [.int .i64 m.ty] _ 1 _ rfl rfl rfl (by simp [Value.oneCell']) (by omega) (by omega) hbase ?_;intro g cap w3 hown3 hg3 hgat hb3)
   clear hg3 hgat hbase je O M;replace T:=hiQ (T.out.below hb3 (show w.heap.size < w.heap.size+1 by omega));replace hb:=hb.trans (hb3.mono (show w.heap.size<=w.heap.size+1 by omega));have O:=hiQ (Kept.own hown3);clear hown3;exact zFz
  obtain rfl:k=x.ah.length:=by omega
  rw [yJ (b_ _)] at O;by_cases h8:x.kind=8
  .
   have t8:(x.kind == 8)=true:=by simp [h8]
   have t7:(7:Int)<=x.kind:=by omega
   have CG:Hid (lg x=x.ah.map Mem.ty ++ [x.key,x.elem]):=by show _=_;unfold lg;rw [o_ h8,o_ t7];rfl
   clear h8;have aC:=T.out.e0;have bF:=T.out.e7;have hbase:w.heap.size+1<=wr.heap.size:=T.out.here;go_upto_region 9 with (at_builtin;refine fA rfl _ _ _ rfl (w.heap.size+1) 3 _ 1 8 Tryz.underlying57 oP rfl (by decide) _ (x.ah.length) _ rfl O.out.now [.int .i64 x.key] _ 1 _ rfl rfl rfl (by simp [Value.oneCell']) (by omega) (by omega) hbase ?_;intro g cap w3 hown3 hg3 hgat hb3)
   clear hg3 hgat hbase aC bF O;replace T:=hiQ (T.out.below hb3 (show w.heap.size < w.heap.size+1 by omega));replace hb:=hb.trans (hb3.mono (show w.heap.size<=w.heap.size+1 by omega));have O:=hiQ (Kept.own hown3);clear hown3;have aC:=T.out.e0;have aV:=T.out.e8;have hbase:w.heap.size+1<=w3.heap.size:=T.out.here;go_upto_region 11 with (at_builtin;refine fA rfl _ _ _ rfl (w.heap.size+1) 3 _ 1 8 Tryz.underlying57 oP rfl (by decide) _ (x.ah.length+1) _ rfl O.out.now [.int .i64 x.elem] _ 1 _ rfl rfl rfl (by simp [Value.oneCell']) (by omega) (by omega) hbase ?_;intro g cap w3 hown3 hg3 hgat hb3)
   exact zCo
  have t8:(x.kind == 8)=false:=by simpa using h8
  by_cases h7:7<=x.kind
  .
   have CG:Hid (lg x=x.ah.map Mem.ty ++ [x.elem]):=by show _=_;unfold lg;rw [gB h8,o_ h7];rfl
   clear h8;have aC:=T.out.e0;have aV:=T.out.e8;have hbase:w.heap.size+1<=wr.heap.size:=T.out.here;go_upto_region 11 with (at_builtin;refine fA rfl _ _ _ rfl (w.heap.size+1) 3 _ 1 8 Tryz.underlying57 oP rfl (by decide) _ (x.ah.length) _ rfl O.out.now [.int .i64 x.elem] _ 1 _ rfl rfl rfl (by simp [Value.oneCell']) (by omega) (by omega) hbase ?_;intro g cap w3 hown3 hg3 hgat hb3)
   exact zCo
  have CG:Hid (lg x=x.ah.map Mem.ty):=by show _=_;unfold lg;rw [gB h8,gB h7];simp
  clear h8;have aC:=T.out.e0;exact zDi
theorem wB (v:Val) (h:aA v=true) (hk:v.kind < 5):v.items = []:=by
 simp only [aA,j_,QF,w_] at h;have h1:=h.2.2.2.2.2.1;rcases h1 with h1 | h1
 . omega
 exact yS h1
def aiZ (w:World) (r:Except Int (Val × Int)) (e:Ending) (w':World):Prop :=
 match r with
 | .ok q => (∃ vk vi vr,e = .returned (.tuple #[aS q.1 vk vi vr,.int .i64 q.2,.int .i64 0])/\ValAt w' w'.heap.size q.1 vk vi vr)/\Below w.heap.size w w'
 | .error n => e = .returned (.tuple #[.agg #[.int .i64 0,.bool false,.int .i64 0,.string ⟨#[]⟩,.int .i64 0,.slice none 0 0,.slice none 0 0,.slice none 0 0],.int .i64 0,.int .i64 n])/\Below w.heap.size w w'
def Js (xs:List Value):Nat->List Value->List Value
 | _,[] => xs
 | o,v :: r => Js (xs.set o v) (o+1) r
theorem Wi:∀ (vs xs:List Value) (o:Nat),(Js xs o vs).length=xs.length
 | [],_,_ => rfl
 | v :: r,xs,o => by rw [Js,Wi r];simp
theorem Pz:∀ (vs xs:List Value) (o q:Nat),(q < o\/o+vs.length<=q)->(Js xs o vs)[q]?=xs[q]?
 | [],_,_,_,_ => rfl
 | v :: r,xs,o,q,h => by
  simp only [z_] at h;rw [Js,Pz r _ _ _ (by omega),List.getElem?_set_ne (by omega)]
theorem YL:∀ (vs xs:List Value) (o j:Nat),j < vs.length->o+vs.length<=xs.length->(Js xs o vs)[o+j]?=vs[j]?
 | [],_,_,_,h,_ => by simp at h
 | v :: r,xs,o,j,h,hl => by
  simp only [z_] at h hl;rw [Js];cases j with
  | zero =>
   rw [Pz r _ _ _ (by omega),QB,List.getElem?_set_self (by omega)]
   rfl
  | succ j =>
   rw [show o+(j+1)=o+1+j by omega,YL r _ _ j (by omega) (by simp;omega)]
   rfl
theorem FM {base n size cap g:Nat} {e:TypeId} : ∀ (vs xs:List Value) (o:Nat) (w:World),w.ownsRow base e size (.slice (some ⟨g,0,none⟩) n cap) n xs ->
  (w.setCells g o vs).ownsRow base e size (.slice (some ⟨g,0,none⟩) n cap) n (Js xs o vs)
 | [],_,_,_,h => h
 | v :: r,_,o,_,h => FM r _ (o+1) _ (h.stored o v).1
theorem below_setCells {B g:Nat} {w0:World} (hg:B<=g):∀ (vs:List Value) (o:Nat) (w:World),Below B w0 w->Below B w0 (w.setCells g o vs)
 | [],_,_,h => h
 | v :: r,o,_,h => below_setCells hg r (o+1) _ (h.setCell hg v)
theorem Ue {w:World} {base n size cap g:Nat} {e:TypeId} {xs:List Value} (h:w.ownsRow base e size (.slice (some ⟨g,0,none⟩) n cap) n xs) (o m:Nat) (hm:o+m<=n*size):w.there g o m:=by
 intro j hj;refine ⟨?_,h.frozenAt (o+j)⟩;rw [h.cellAt (o+j) (by omega),m_ (by rw [h.1];omega)]
 rfl
def EM (size n:Nat) (xs:List Value) (c:Nat->List Value):Prop:=xs.length=n*size/\(∀ i,i < n->(c i).length=size)/\∀ i,i < n->∀ j u,(c i)[j]?=some u->xs[i*size+j]?=some u
theorem EM.YM (c:Nat->List Value) (size n:Nat) (h:∀ i,i < n->(c i).length=size):EM size n (nN c n) c :=
 ⟨arY c size n h,h,fun i hi j u hu => by
  have hj:j < size:=by rw [<- h i hi];exact (C_.1 hu).1
  rw [zN c size n h i j hi hj];exact hu⟩
theorem IC {k n size:Nat} (h:k < n):k*size+size<=n*size:=by
 have:=P_ size h;rw [Nat.succ_mul] at this;exact this
theorem EM.set {size n:Nat} {xs:List Value} {c:Nat->List Value} (h:EM size n xs c) (k:Nat) (cs:List Value) (hk:k < n) (hl:cs.length=size):EM size n (Js xs (k*size) cs) (fun i => if i=k then cs else c i):=by
 obtain ⟨h1,h2,h3⟩:=h;have hkn:=IC (size:=size) hk;refine ⟨by rw [Wi,h1],fun i hi => ?_,fun i hi j u hu => ?_⟩
 .
  show (if i=k then cs else c i).length=size;split
  . exact hl
  exact h2 i hi
 replace hu:(if i=k then cs else c i)[j]?=some u:=hu;by_cases e:i=k
 .
  subst e;rw [o_ rfl] at hu;rw [YL cs xs (i*size) j (C_.1 hu).1 (by omega)];exact hu
 rw [gB e] at hu;have hj:j < size:=by rw [<- h2 i hi];exact (C_.1 hu).1
 have:i*size+j < k*size\/k*size+cs.length<=i*size+j:=by
  rcases Nat.lt_or_gt_of_ne e with h | h
  . left;have:=IC (size:=size) h;omega
  right;have:=IC (size:=size) h;omega
 rw [Pz cs xs (k*size) _ this];exact h3 i hi j u hu
theorem Bh.aek {w:World} {base n size:Nat} {e:TypeId} {v:Value} {xs:List Value} {c:Nat->List Value} (h:w.ownsRow base e size v n xs) (hc:EM size n xs c):Bh w (fun b => v.ownBlock=some b) size v n c:=by
 have h0:=h;obtain ⟨hl,h2⟩:=h;rcases h2 with ⟨rfl,rfl⟩ | ⟨g,cap,cur,rfl,hb,hh,hn,hm,hsz,ht⟩
 . exact ⟨none,0,rfl,b_ _,.inl rfl⟩
 refine ⟨_,cap,rfl,hn,.inr ⟨g,0,rfl,rfl,fun i hi j u hu => ?_⟩⟩;have:=h0.cells (g:=g) rfl (i*size+j) u (hc.2.2 i hi j u hu);have e:(⟨g,0,none⟩ : Addr).add (i*size+j)=⟨g,0+i*size+j,none⟩:=by unfold Addr.add;split <;> simp_all
 rwa [e] at this
theorem ael (x:Val) (vk vi vr:Value) (h1:vk.oneCell'=true) (h2:vi.oneCell'=true) (h3:vr.oneCell'=true):∀ u ∈ oD x vk vi vr,u.oneCell'=true:=by
 intro u hu;simp only [oD,N_,List.not_mem_nil,or_false] at hu;rcases hu with rfl | rfl | rfl | rfl | rfl | rfl | rfl | rfl <;> first | assumption | rfl
theorem Rd.flat {w:World} {B size n cap:Nat} {A:Option Addr} {xs:List Value} (h:Rd w B size (.slice A n cap) n xs) (hB:B<=w.heap.size) :
  (A=none->n=0)/\(∀ a,A=some a->∀ j u,xs[j]?=some u->w.cell? (a.add j)=some u)/\(∀ a,A=some a->0 < n->a.block < w.heap.size):=by
 obtain ⟨hl,A',c',hv,_,h2⟩:=h;injection hv with h3 h4 h5;subst h3;rcases h2 with rfl | ⟨b,o,rfl,hb,hc⟩
 .
  refine ⟨fun _ => rfl,fun a _ j u hu => ?_,fun _ _ h => by omega⟩;have:xs = []:=by simpa using hl
  subst this;simp at hu
 refine ⟨fun h => (by cases h),fun a ha j u hu => ?_,fun a ha _ => ?_⟩
 .
  injection ha with ha;subst ha;rw [Addr.add_mid];exact hc j u hu
 injection ha with ha;subst ha;show b < w.heap.size;omega
theorem Row.flat' {w:World} {B size n cap:Nat} {A:Option Addr} {c:Nat->List Value} (h:Row w B size (.slice A n cap) n c) (hB:B<=w.heap.size) (hs:0 < size) (hc:∀ i,i < n->(c i).length=size) :
  (A=none->n=0)/\(∀ a,A=some a->∀ j u,(nN c n)[j]?=some u->w.cell? (a.add j)=some u)/\(∀ a,A=some a->0 < n->a.block < w.heap.size):=by
 have h0:=h;obtain ⟨A',c',hv,_,h2⟩:=h;injection hv with h3 h4 h5;subst h3;refine ⟨fun e => ?_,fun a ha => h0.flat hs hc a ha,fun a ha hp => ?_⟩
 .
  rcases h2 with h | ⟨b,o,h,_⟩
  . exact h
  rw [e] at h;cases h
 rcases h2 with h | ⟨b,o,h,hb,_⟩
 . omega
 rw [ha] at h;injection h with h;subst h;show b < w.heap.size;omega
theorem aem (rs:List Raw):∀ u ∈ jO rs,u.oneCell'=true:=by
 intro u hu;simp only [jO,List.mem_flatMap,Kw,N_,List.not_mem_nil,or_false] at hu;obtain ⟨r,_,rfl | rfl⟩:=hu <;> rfl
theorem aen (rs:List Raw):(jO rs).length=rs.length*2:=by
 induction rs with
 | nil => rfl
 | cons r rs ih => rw [jO,B_,h_,<- jO,ih];simp [Kw];omega
theorem IE {P:Program} {ops:Array Oper} {op:Oper} {a:Act} {w:World} {K:Act->World->Prop} {Q:Exit->Act->World->Prop} {E:Prop} (hgd:op.guard=none) (ty:TypeId) (x y:Operand) (ho:op.op = .store ty x y)
  (b o:Nat) (cells:Array Value) (hx:a.eval x = .pointer (some ⟨b,o,none⟩)) (hy:a.eval y = .agg cells)
  (ht:w.there b o cells.size) (hi:(P.info? ty).map (·.size)=some cells.size) (h1:cells.all (·.oneCell')=true)
  (h:K (a.put op.dst undef) (w.setCells b o cells.toList)):if Region.wanted op (yielded ops a.tmps)=true then Oper.wp P op a w K Q else E:=by
 have hw:Region.wanted op (yielded ops a.tmps)=true:=by simp [Region.wanted,hgd]
 rw [o_ hw];exact wp_store_mid ty x y ho b o cells hx hy ht hi h1 h
theorem ValAt.mono {w:World} {B B':Nat} {x:Val} {vk vi vr:Value} (h:ValAt w B x vk vi vr) (hB:B<=B'):ValAt w B' x vk vi vr:=h.keep (fun _ _ => rfl) hB
theorem ints_at {w:World} {b o:Nat} {zs:List Int} (h:∀ j u,(zs.map (Value.int .i64))[j]?=some u->w.cell? ⟨b,o+j,none⟩=some u) (k:Nat) (hk:k < zs.length):w.cell? ⟨b,o+k,none⟩=some (.int .i64 zs[k]) :=
 h k _ (by simp [hk])
def YN (w:World) (r:Except Int (Val × Int)) (e:Ending) (w':World):Prop :=
 match r with
 | .ok q => (∃ vk vi vr,e = .returned (.tuple #[aS q.1 vk vi vr,.int .i64 q.2,.int .i64 0])/\jq w' (fun b => w.heap.size<=b/\b < w'.heap.size) q.1 vk vi vr)/\Below w.heap.size w w'
 | .error n => e = .returned (.tuple #[.agg #[.int .i64 0,.bool false,.int .i64 0,.string ⟨#[]⟩,.int .i64 0,.slice none 0 0,.slice none 0 0,.slice none 0 0],.int .i64 0,.int .i64 n])/\Below w.heap.size w w'
theorem YN.post {w w':World} {r:Except Int (Val × Int)} {e:Ending} (h:YN w r e w'):aiZ w r e w':=by
 cases r with
 | ok q =>
  obtain ⟨⟨vk,vi,vr,he,hv⟩,hb⟩:=h;exact ⟨⟨vk,vi,vr,he,hv.at_ (fun _ h => h.2)⟩,hb⟩
 | error n => exact h
def inB (n:Nat) (u:Int):Bool:=decide (0<=u) && decide (u < n)
def akK (ts:List ay) (x:ay):Bool:=match bM ts x.key with | some y => decide (1<=y.kind) && decide (y.kind<=4) | none => false
def lU (ts:List ay):List ay->List (List UInt8)->Int
 | [],_ => 0
 | x :: r,S => if dY x=false\/(x.name≠[]/\S.contains x.name=true) then 1
  else if (lg x).all (inB ts.length)=false then 4
  else if x.kind=8/\akK ts x=false then 1
  else lU ts r (S ++ [x.name])
def fF (ts:List ay):Int:=if 32 < ts.length then 3 else lU ts ts []
def Sizes (ts:List ay):Prop := ∀ x ∈ ts,x.syms.length<=6000000000000/\x.ah.length<=6000000000000
theorem qh.kept {w:World} {b n:Nat} {S:List (List UInt8)} (h:qh w b n S):Kept (fun w => qh w b n S) w b (b+1) :=
 ⟨h,fun _ hk => h.keep (hk b (b_ _) (MX _)),h.here⟩
theorem Oq (l:List ay) (k:Nat) (h:k < l.length):(l.take k).map ay.name ++ [l[k].name]=(l.take (k+1)).map ay.name:=(Bj ay.name l k h).symm
theorem JW (ts r:List ay) (x:ay) (S:List (List UInt8)) (h:dY x=false\/(x.name≠[]/\S.contains x.name=true)):lU ts (x :: r) S=1:=by rw [lU,o_ h]
theorem YO (ts r:List ay) (x:ay) (S:List (List UInt8)) (h:¬ (dY x=false\/(x.name≠[]/\S.contains x.name=true))) (h2:(lg x).all (inB ts.length)=false):lU ts (x :: r) S=4:=by rw [lU,gB h,o_ h2]
theorem Lh (ts r:List ay) (x:ay) (S:List (List UInt8)) (h:¬ (dY x=false\/(x.name≠[]/\S.contains x.name=true))) (h2:(lg x).all (inB ts.length)=true) (h3:x.kind=8/\akK ts x=false):lU ts (x :: r) S=1:=by rw [lU,gB h,h2,gB (by simp),o_ h3]
theorem Lj (ts r:List ay) (x:ay) (S:List (List UInt8)) (h:¬ (dY x=false\/(x.name≠[]/\S.contains x.name=true))) (h2:(lg x).all (inB ts.length)=true) (h3:¬ (x.kind=8/\akK ts x=false)):lU ts (x :: r) S=lU ts r (S ++ [x.name]):=by rw [lU,gB h,h2,gB (by simp),gB h3]
theorem NJ (l:List Int) (n:Nat) (u:Int) (h:u ∈ l) (hb:inB n u=false):l.all (inB n)=false:=by
 rw [List.all_eq_false];exact ⟨u,h,by simp [hb]⟩
theorem Jt (x:ay) (h:x.ah.length<=6000000000000):(lg x).length<=6000000000002:=by
 unfold lg;simp only [h_,Qs];split <;> split <;> simp <;> omega
theorem Ll (x:ay) (h8:x.kind=8):x.key ∈ lg x:=by
 unfold lg;rw [o_ h8];simp
theorem Ad {n:Nat} {u:Int} (h:inB n u=true):∃ k:Nat,u=k/\k < n:=by
 unfold inB at h;simp only [j_,w_] at h;exact ⟨u.toNat,by omega,by omega⟩
theorem Ju (ts:List ay) (x:ay) (kn:Nat) (hk:kn < ts.length) (h:x.key=kn):akK ts x=(decide (1<=ts[kn].kind) && decide (ts[kn].kind<=4)):=by
 unfold akK bM;rw [h];simp [hk]
theorem zIs {p:Prop} (h:p:=by
 go_wp2_with fail;go_ret;exact ⟨bC Hr.out.symm,hw⟩):p:=h
theorem zJd {p:Prop} (h:p:=by
 rcases QC un ts.length with h | h
 . exfalso;unfold inB at hin;simp at hin;omega
 exact h):p:=h
theorem zBo {p:Prop} (h:p:=by
 have hgW:=M.out.le;go_upto_region 10 with (at_mapUpdate;refine aqP rfl _ _ _ rfl gm k _ rfl M.out.now (by unfold maxLen;omega) x.name rfl rfl (by unfold maxLen;omega) ?_;intro w3 CB hg3)
 have hbm:=Ef hg3 (Qy hgW) (fun j hj => by cases hj;exact b_ _);have hkk:∀ q,q < kL.heap.size->some gm≠some q->w3.heap[q]?=kL.heap[q]?:=fun q hq hne => hg3.block q hq (fun e => hne e.symm);have hvv:∀ q,some gm=some q->q=gm:=fun q h => by injection h with h;exact h.symm
 clear M bJ;replace S:=dG S hkk (fun hh => by have:=hvv _ hh;omega);replace X:=dG X hkk (fun hh => by have:=hvv _ hh;omega);replace hw:=hw.trans (hbm.mono (show w.heap.size<=gm by omega));have M:=hiQ (qh.kept CB);clear CB hg3 hkk hvv hbm hgW;obtain ⟨aK,bJ,bY,bZ,dL,eX,bU,dD,dM,dU⟩:=X.out.c10;go_wp2_with fail;clear aK bJ bY bZ dL eX bU dD dM dU;((with_reducible refine (Wh x _ _ _ hsz.2 (Wj.out.on hw)).mono ?_);rintro e lZ ⟨vu,rfl,gQ,kR⟩);obtain ⟨S,X,M⟩:=b3 S X M kR;replace hw:=dT hw kR;clear kR;have Wn:=Jt x hsz.2;have FI:=hiQ (Ll x);obtain ⟨l,hlq⟩ : ∃ l,lg x=l:=⟨_,rfl⟩
 rw [hlq] at gQ Wn FI;have Lm:=hiQ hlq;obtain ⟨Au,cu,rfl,_⟩:=gQ.form;clear hlq;have U:=hiQ (Kept.rd (P:=fun w B => Rd w B 1 (.slice Au l.length cu) l.length (l.map (Value.int .i64))) gQ (b_ _) (fun _ hk => gQ.keep hk));clear gQ;have aH:=S.out.e0;have aK:=X.out.e0;have dD:=X.out.e7;go_wp2_with fail;go_loop [40] (fun j => ∃ q:Nat,q<=l.length/\j = .int .i64 q/\(l.take q).all (inB ts.length)=true) (fun j => l.length - (intOf j).toNat)
 case atStart => exact ⟨0,by omega,rfl,rfl⟩
 case round =>
  obtain ⟨q,hq,rfl,hall⟩:=hrel;by_cases tV:q < l.length
  .
   obtain ⟨bu,ou,rfl,hbu,Lr⟩:=U.out.now.at_ (by omega);have cu0:=ints_at Lr q tV;have hmem:=jl tV;have htk:(l.take (q+1)).all (inB ts.length)=((l.take q).all (inB ts.length) && inB ts.length l[q]):=by rw [vK tV,List.all_append];simp
   have hq1:(q:Int) < l.length:=by omega
   generalize l[q]=u at *;clear Lr;cases hin:inB ts.length u with
   | true =>
    obtain ⟨un,rfl,hun⟩:=Ad hin;have yP:Hid ((l.take (q+1)).all (inB ts.length)=true):=by show _=_;rw [htk,hall,hin];rfl
    have hu0:decide ((un:Int) < 0)=false:=f_ (by omega);have hu1:decide (ts.length<=un)=false:=f_ (by omega);clear hall htk hin hmem;go_wp2_with fail;go_round
    case rel => exact ⟨q+1,by omega,by go_num,yP.out⟩
    case measure => simp [intOf];omega
   | false =>
    have Hr:Hid (fF ts=4):=by show _=_;rw [Hv.out,zQ.out,YO ts _ x _ AU.out (by rw [Lm.out];exact NJ l _ u hmem hin)]
    by_cases hu0:u < 0
    .
     have hu1:decide (u < 0)=true:=n_ hu0;clear hall htk hin hmem;exact zIs
    obtain ⟨un,rfl⟩ : ∃ un:Nat,u=un:=⟨u.toNat,by omega⟩
    have hu2:ts.length<=un:=by
     exact zJd
    have hu1:decide ((un:Int) < 0)=false:=f_ (by omega);have hu3:decide (ts.length<=un)=true:=n_ hu2;clear hall htk hin hmem hu0;exact zIs
  obtain rfl:q=l.length:=by omega
  rw [yJ (b_ _)] at hall;have arP:Hid ((lg x).all (inB ts.length)=true):=by show _=_;rw [Lm.out];exact hall
  by_cases h8:x.kind=8
  .
   have t8:(x.kind == 8)=true:=by simp [h8]
   obtain ⟨kn,hkn,hkl⟩:=Ad (QD.1 hall x.key (FI.out h8));have hko:=Ju ts x kn hkl hkn;obtain ⟨ys,ym,GX,-⟩:=Ez.out kn hkl;have d0:=((hw).cell (p:=⟨b,_,none⟩) hbb).trans GX.1;have aeo:(kn:Int) < ts.length:=by omega
   have H8:=hiQ h8;have cX7:=X.out.cell 7;simp only [qI] at cX7;rw [hkn] at dD cX7;generalize ts[kn].kind=yk at *;clear hall h8 GX hkn;by_cases hy1:yk < 1
   .
    have ty:decide (yk < 1)=true:=n_ hy1;have Hr:Hid (fF ts=1):=by show _=_;rw [Hv.out,zQ.out,Lh ts _ x _ AU.out arP.out ⟨H8.out,by rw [hko,f_ (by omega)];rfl⟩]
    clear hko;exact zIs
   have ty:decide (yk < 1)=false:=f_ hy1;by_cases hy4:4 < yk
   .
    have ty4:decide (4 < yk)=true:=n_ hy4;have Hr:Hid (fF ts=1):=by show _=_;rw [Hv.out,zQ.out,Lh ts _ x _ AU.out arP.out ⟨H8.out,by rw [hko,f_ (show ¬ yk<=4 by omega)];simp⟩]
    clear hko;exact zIs
   have ty4:decide (4 < yk)=false:=f_ hy4;have FN:Hid (¬ (x.kind=8/\akK ts x=false)):=fun h => by
    have h2:=h.2;rw [hko,n_ (show 1<=yk by omega),n_ (show yk<=4 by omega)] at h2;cases h2
   clear hko;go_wp2_with fail;clear aH aK dD;go_wp2_with fail;go_roundw
   case rel => exact ⟨k+1,by omega,by go_num,by have h:=M.out.now;rw [GV.out] at h;exact h,S.out,by rw [zQ.out,Lj ts _ x _ AU.out arP.out FN.out,GV.out],hw⟩
   case measure => simp [intOf];omega
  have t8:(x.kind == 8)=false:=by simpa using h8
  have FN:Hid (¬ (x.kind=8/\akK ts x=false)):=fun h => h8 h.1;clear hall h8;go_wp2_with fail;clear aH aK dD;go_wp2_with fail;go_roundw
  case rel => exact ⟨k+1,by omega,by go_num,by have h:=M.out.now;rw [GV.out] at h;exact h,S.out,by rw [zQ.out,Lj ts _ x _ AU.out arP.out FN.out,GV.out],hw⟩
  case measure => simp [intOf];omega):p:=h
theorem zDv {p:Prop} (h:p:=by
 go_wp2_with fail;go_ret;exact ⟨bC Hr.out.symm,hw⟩):p:=h
theorem ab6 (ts:List ay) (A:Option Addr) (c:Nat) (w:World) (hs:Sizes ts) (ht:aU w w.heap.size (.slice A ts.length c) ts) :
  Calls Tryz.prog 49 #[.agg #[.slice A ts.length c]] w (RT w (.int .i64 (fF ts))):=by
 have HT:=hiQ ht;have HS:=hiQ hs;by_cases h32:32 < ts.length
 .
  have Hv:Hid (fF ts=3):=by show _=_;unfold fF;rw [o_ h32]
  have hd:(32:Int) < ts.length:=by omega
  have hd2:decide ((32:Int) < ts.length)=true:=n_ hd;clear ht hs;go_enter Tryz.func49,Tryz.ntmps49
  go_upto_region 1 with fail;refine aO (fun wd2 hb1 S => ?_);have hw3:=hb1;clear hb1;have aH:=S.out.e0;go_wp2_with fail;go_ret;exact ⟨bC Hv.out.symm,hw3⟩
 have Hv:Hid (fF ts=lU ts ts []):=by show _=_;unfold fF;rw [gB h32]
 have hd:(ts.length:Int)<=32:=by omega
 have hd2:decide ((32:Int) < ts.length)=false:=f_ (by omega);have hmm:=@run_makeMap Tryz.prog;clear hs;by_cases hz:ts.length=0
 .
  have Uf:Hid (fF ts=0):=by show _=_;rw [Hv.out,yS hz,lU]
  rw [hz];clear ht h32 hd hd2;go_enter Tryz.func49,Tryz.ntmps49
  go_upto_region 1 with fail;refine aO (fun wd2 hb1 S => ?_);have hw3:=hb1;clear hb1;have hS0:=S.out.alloc (.map #[] 0);have cS:=hS0.cell 0;simp only [qI] at cS;have aH:=S.out.e0;go_wp2_with fail;refine wp_loop_rounds 1 ?_;rw [rounds_succ];go_wp2_with fail;go_ret;exact ⟨bC Uf.out.symm,jY hw3 (b_ _) _⟩
 obtain ⟨b,o,rfl,hbb,hel⟩:=ht.elem (by omega);have Ez:=hiQ hel;clear ht hel;go_enter Tryz.func49,Tryz.ntmps49
 go_upto_region 1 with fail;refine aO (fun wd2 hb1 S => ?_);have hw3:=hb1;clear hb1;have aga:=qh.made wd2;have hS0:=S.out.alloc (.map #[] 0);have hlt0:=S.out.here;have hb0:=jY hw3 (b_ _) (.map #[] 0);have cS:=hS0.cell 0;simp only [qI] at cS;have aH:=S.out.e0;go_upto_region 4 with fail;clear aH;generalize wd2.alloc (.map #[] 0)=wm at *;generalize wd2.heap.size=gm at *;have agb:=hiQ aga;have Eh:=hiQ hS0;clear hmm aga hS0 S;go_wp2_with fail;clear cS;go_loopw [16] (fun i wr => ∃ k:Nat,k<=ts.length/\i = .int .i64 k/\qh wr gm k ((ts.take k).map ay.name)/\Has wr w.heap.size 30 #[.slice (some ⟨b,o,none⟩) ts.length c]/\lU ts ts []=lU ts (ts.drop k) ((ts.take k).map ay.name)/\Below w.heap.size w wr) (fun i _ => ts.length - (intOf i).toNat)
 case atStart => exact ⟨0,by omega,rfl,agb.out,Eh.out,rfl,hb0⟩
 case round =>
  clear hb0 agb Eh;obtain ⟨k,hk,rfl,hset,S,hvk,hw⟩:=hrel;by_cases hlt:k < ts.length
  .
   obtain ⟨vs,vm,hcells,hxa⟩:=Ez.out k hlt;have hsz:=HS.out _ (jl hlt);have GV:=hiQ (Oq ts k hlt);rw [A_ hlt] at hvk;generalize ts[k]=x at *;obtain ⟨C1,m1,C2,m2,rfl,rfl,-,-⟩:=hxa.forms;obtain ⟨y0,y1,y2,y3,y4,y5,y6,y7,y8,y9⟩:=hcells;have c0:=(hw.cell (p:=⟨b,_,none⟩) hbb).trans y0;have c1:=(hw.cell (p:=⟨b,_,none⟩) hbb).trans y1;have c2:=(hw.cell (p:=⟨b,_,none⟩) hbb).trans y2;have c3:=(hw.cell (p:=⟨b,_,none⟩) hbb).trans y3;have c4:=(hw.cell (p:=⟨b,_,none⟩) hbb).trans y4;have c5:=(hw.cell (p:=⟨b,_,none⟩) hbb).trans y5;have c6:=(hw.cell (p:=⟨b,_,none⟩) hbb).trans y6;have c7:=(hw.cell (p:=⟨b,_,none⟩) hbb).trans y7;have c8:=(hw.cell (p:=⟨b,_,none⟩) hbb).trans y8;have c9:=(hw.cell (p:=⟨b,_,none⟩) hbb).trans y9;clear y0 y1 y2 y3 y4 y5 y6 y7 y8 y9;have Wj:=hiQ hxa;have zQ:=hiQ hvk;have hi1:(k:Int) < ts.length:=by omega
   have hnl:=hxa.GI;clear hxa hvk;replace S:=hiQ S;have M:=hiQ (qh.kept hset);clear hset;go_upto_region 7 with fail;refine aO (fun fG hb4 X => ?_);have nI:=S.out.here;have mO:=M.out.le;have kH:=hw.size;obtain ⟨S,M⟩:=b2 S M hb4;replace hw:=dT hw hb4;clear hb4;generalize wr.heap.size=g6 at *;clear c0 c1 c2 c3 c4 c5 c6 c7 c8 c9;obtain ⟨aK,bJ,bY,bZ,dL,eX,bU,dD,dM,dU⟩:=X.out.c10;go_wp2_with fail;clear aK bJ bY bZ dL eX bU dD dM dU;((with_reducible refine (ad2 x _ _ _ hsz (Wj.out.on hw)).mono ?_);rintro e kL ⟨rfl,iR⟩);obtain ⟨S,X,M⟩:=b3 S X M iR;replace hw:=dT hw iR;clear iR;have hlook:=M.out.now.look x.name (by unfold maxLen;omega);cases hf:dY x with
   | false =>
    have Hr:Hid (fF ts=1):=by show _=_;rw [Hv.out,zQ.out,JW ts _ x _ (.inl hf)]
    clear hf hlook;have bJ:=X.out.e1;exact zDv
   | true =>
    by_cases hn:x.name = []
    .
     have hie:x.name.isEmpty=true:=by rw [hn];rfl
     have AU:Hid (¬ (dY x=false\/(x.name≠[]/\((ts.take k).map ay.name).contains x.name=true))):=fun h => by
      rcases h with h | h
      . rw [hf] at h;cases h
      exact h.1 hn
     clear hf hlook hn;have bJ:=X.out.e1;go_upto_region 9 with fail;exact zBo
    have hie:x.name.isEmpty=false:=by cases hq:x.name with | nil => exact absurd hq hn | cons _ _ => rfl
    cases hc:((ts.take k).map ay.name).contains x.name with
    | true =>
     have Hr:Hid (fF ts=1):=by show _=_;rw [Hv.out,zQ.out,JW ts _ x _ (.inr ⟨hn,hc⟩)]
     rw [hc] at hlook;clear hf hc;have bJ:=X.out.e1;exact zDv
    | false =>
     have AU:Hid (¬ (dY x=false\/(x.name≠[]/\((ts.take k).map ay.name).contains x.name=true))):=fun h => by
      rcases h with h | h
      . rw [hf] at h;cases h
      rw [hc] at h;cases h.2
     rw [hc] at hlook;clear hf hc;have bJ:=X.out.e1;go_upto_region 9 with fail;clear hlook;exact zBo
  obtain rfl:k=ts.length:=by omega
  have Hr:Hid (fF ts=0):=by show _=_;rw [Hv.out,hvk,G_ (b_ _),lU]
  clear hvk;exact zDv
structure kP where
 id:Nat
 akb:Bool
 data:List UInt8
abbrev mX:=Except (List Int × Int) Val
def xM (l:List UInt8):Option (Nat × List UInt8):=if (ru 0 0 l).2.2=0 then some ((ru 0 0 l).1,l.drop (ru 0 0 l).2.1) else none
def CJ (l:List UInt8):Option (List UInt8 × List UInt8):=match xM l with
 | none => none
 | some (n,r) => if n<=r.length then some (r.take n,r.drop n) else none
def zf:Nat->List UInt8->List (List UInt8)->Option (List (List UInt8))
 | 0,l,acc => if l = [] then some acc else none
 | f+1,l,acc => if l = [] then some acc else match CJ l with
  | none => none
  | some (p,r) => zf f r (acc ++ [p])
def BM (l:List UInt8):Option (List (List UInt8)):=zf l.length l []
def xQ:Nat->List UInt8->Nat->List kP->Option (List kP)
 | 0,l,_,acc => if l = [] then some acc else none
 | f+1,l,last,acc => if l = [] then some acc else match xM l with
  | none => none
  | some (h,r) => if h / 2<=last\/1000 < h / 2 then none else match CJ r with
   | none => none
   | some (p,r') => xQ f r' (h / 2) (acc ++ [⟨h / 2,decide (h % 2=1),p⟩])
def Dx (l:List UInt8):Option (List kP):=xQ l.length l 0 []
def Jv (l:List UInt8):Option (Nat × List UInt8):=match xM l with
 | none => none
 | some (n,r) => if n < 1\/1000 < n then none else some (n,r)
theorem ab8:∀ (l:List UInt8) (i n:Nat),i<=9->(ru i n l).2.2=0->i < (ru i n l).2.1/\(ru i n l).2.1<=i+l.length:=by
 intro l
 induction l with
 | nil => intro i n _ h;simp [ru] at h
 | cons b r ih =>
  intro i n hi h;by_cases h1:i=9/\1 < b.toNat
  . rw [Jm i n b r h1.1 h1.2] at h;simp at h
  by_cases h2:128<=b.toNat
  .
   rw [Gx i n b r h1 h2] at h ⊢;have hi8:i+1<=9:=by
    rcases QC i 9 with h3 | h3
    . omega
    exact absurd ⟨by omega,by omega⟩ h1
   have:=ih (i+1) _ hi8 h;simp only [z_];omega
  by_cases h3:b.toNat=0/\0 < i
  . rw [Ig i n b r h1 h3.1 h3.2] at h;simp at h
  rw [Ed i n b r h1 (by omega) h3];simp only [z_];omega
theorem aep:∀ (l:List UInt8) (i n:Nat),i<=9->n < 128 ^ i->oV (ru i n l).1:=by
 intro l
 induction l with
 | nil => intro i n _ _;simp [ru,oV]
 | cons b r ih =>
  intro i n hi hn;by_cases h1:i=9/\1 < b.toNat
  . rw [Jm i n b r h1.1 h1.2];simp [oV]
  by_cases h2:128<=b.toNat
  .
   rw [Gx i n b r h1 h2];have hi8:i+1<=9:=by
    rcases QC i 9 with h3 | h3
    . omega
    exact absurd ⟨by omega,by omega⟩ h1
   refine ih _ _ hi8 ?_;have hb:b.toNat % 128<=127:=by omega
   have:=P_ (128 ^ i) hb;rw [T_];omega
  by_cases h3:b.toNat=0/\0 < i
  . rw [Ig i n b r h1 h3.1 h3.2];simp [oV]
  rw [Ed i n b r h1 (by omega) h3];show n+b.toNat*128 ^ i < 18446744073709551616;by_cases h9:i=9
  .
   subst h9;have hb:b.toNat<=1:=by
    rcases QC 1 b.toNat with h4 | h4
    . exact absurd ⟨rfl,h4⟩ h1
    exact h4
   have e:(128:Nat) ^ 9=9223372036854775808:=by decide
   have:=P_ (128 ^ 9) hb;rw [e] at *;omega
  have hb:b.toNat<=127:=by omega
  have:=P_ (128 ^ i) hb;have h8:128 ^ i<=128 ^ 8:=Nat.pow_le_pow_right (by omega) (by omega);have e:(128:Nat) ^ 8=72057594037927936:=by decide
  omega
theorem EN {l:List UInt8} {n:Nat} {r:List UInt8} (h:xM l=some (n,r)):∃ k,1<=k/\k<=l.length/\r=l.drop k/\oV n/\(ru 0 0 l)=(n,k,0):=by
 unfold xM at h;by_cases h0:(ru 0 0 l).2.2=0
 .
  rw [o_ h0] at h;simp only [R_,Prod.mk.injEq] at h;obtain ⟨rfl,rfl⟩:=h;have:=ab8 l 0 0 (by omega) h0;refine ⟨_,by omega,by omega,rfl,aep l 0 0 (by omega) (by decide),Prod.ext rfl (Prod.ext rfl h0)⟩
 rw [gB h0] at h;cases h
theorem ZT {l:List UInt8} (h:xM l=none):(ru 0 0 l).2.2≠0:=by
 intro h0;unfold xM at h;rw [o_ h0] at h;cases h
theorem EH {l p r:List UInt8} (h:CJ l=some (p,r)):p.length+r.length < l.length:=by
 unfold CJ at h;split at h
 . cases h
 rename_i n q hq;obtain ⟨k,h1,h2,h3,_,_⟩:=EN hq;by_cases hn:n<=q.length
 .
  rw [o_ hn] at h;simp only [R_,Prod.mk.injEq] at h;obtain ⟨rfl,rfl⟩:=h;have:q.length=l.length - k:=by rw [h3];simp
  simp only [L_,Qx];omega
 rw [gB hn] at h;cases h
def nR (f:Nat->mX):Nat->Nat->List Val->Except (List Int × Int) (List Val)
 | 0,_,acc => .ok acc
 | n+1,i,acc => match f i with
  | .error e => .error e
  | .ok v => nR f n (i+1) (acc ++ [v])
def wY (l:List kP) (id:Int):Option kP:=l.find? (fun f => (f.id:Int) == id)
def qQ (x:ay) (path:List Int):List kP->List Raw->Except (List Int × Int) (List Raw)
 | [],acc => .ok acc
 | f :: r,acc => if (dN x f.id).isSome then qQ x path r acc else if f.akb then .error (path ++ [(f.id:Int)],6) else qQ x path r (acc ++ [((f.id:Int),f.data)])
def E8 (rec:Int->List UInt8->List Int->mX) (x:ay) (l:List kP) (path:List Int) (i:Nat):mX:=match x.ah[i]? with
 | none => .error ([],0)
 | some m => match wY l m.id with
  | some f => rec m.ty f.data (path ++ [m.id])
  | none => if m.eG then .ok m.dflt else .error (path ++ [m.id],7)
def agc (k:Int):Val:=.mk k false 0 [] 0 [] [] []
def fH (rec:Int->List UInt8->List Int->mX) (x:ay) (p:List UInt8) (path:List Int):mX :=
 if x.kind=1 then (if p = [] then .ok (.mk 1 false 0 [] 0 [] [] []) else if p = [1] then .ok (.mk 1 true 0 [] 0 [] [] []) else .error (path,1))
 else if x.kind=2 then (if (jX p).2≠0 then .error (path,1) else if yU (jX p).1 < x.low\/x.high < yU (jX p).1 then .error (path,2) else .ok (.mk 2 false (yU (jX p).1) [] 0 [] [] []))
 else if x.kind=3 then (if x.max < p.length then .error (path,3) else .ok (.mk 3 false 0 p 0 [] [] []))
 else if x.kind=4 then (if (jX p).2≠0\/(jX p).1 < 1\/1000 < (jX p).1 then .error (path,1) else if (qm x (jX p).1).isSome=false/\x.opn=false then .error (path,4) else .ok (.mk 4 false 0 [] (jX p).1 [] [] []))
 else if x.kind=5 then (match Dx p with
  | none => .error (path,1)
  | some l => match nR (E8 rec x l path) x.ah.length 0 [] with
   | .error e => .error e
   | .ok is => match qQ x path l [] with
    | .error e => .error e
    | .ok rs => .ok (.mk 5 false 0 [] 0 [] is rs))
 else if x.kind=6 then (match Jv p with
  | none => .error (path,1)
  | some (id,r) => match dN x id with
   | none => if x.opn then .ok (.mk 6 false 0 [] id [] [] [((id:Int),r)]) else .error (path,5)
   | some i => match rec ((x.ah[i]?.map Mem.ty).getD 0) r (path ++ [(id:Int)]) with
    | .error e => .error e
    | .ok v => .ok (.mk 6 false 0 [] id [] [v] []))
 else if x.kind=7 then (match BM p with
  | none => .error (path,1)
  | some l => if x.max < l.length then .error (path,3) else match nR (fun i => rec x.elem (l.getD i []) (path ++ [(i:Int)])) l.length 0 [] with
   | .error e => .error e
   | .ok is => .ok (.mk 7 false 0 [] 0 [] is []))
 else if x.kind=8 then (match BM p with
  | none => .error (path,1)
  | some l => if l.length % 2=1 then .error (path,1) else if x.max < l.length / 2 then .error (path,3) else match nR (fun i => rec x.key (l.getD (2*i) []) (path ++ [(i:Int)])) (l.length / 2) 0 [] with
   | .error e => .error e
   | .ok ks => if ati ks=false then .error (path,1) else match nR (fun i => rec x.elem (l.getD (2*i+1) []) (path ++ [(i:Int)])) (l.length / 2) 0 [] with
    | .error e => .error e
    | .ok is => .ok (.mk 8 false 0 [] 0 ks is []))
 else (match p with
  | [] => .ok (agc 9)
  | b :: r => if b.toNat≠1 then .error (path,1) else match rec x.elem r (path ++ [0]) with
   | .error e => .error e
   | .ok v => .ok (.mk 9 false 0 [] 0 [] [v] []))
def decP (ts:List ay):Nat->Int->List UInt8->List Int->mX
 | 0,_,_,path => .error (path,8)
 | n+1,t,p,path => match bM ts t with
  | none => .error ([],0)
  | some x => fH (decP ts n) x p path
def nX (ts:List ay) (t:Int) (m:List UInt8):Except Int mX :=
 if fF ts≠0 then .error (fF ts)
 else if (bM ts t).isNone then .error 4
 else if 4096 < m.length then .ok (.error ([],3))
 else .ok (decP ts 200 t m [])
def QV (x:ay) (id:Int) (K I:Int->Int) (Z:List Mem->Int) (H:Int->Int):Int :=
 if x.kind=4 then (if (qm x id).isSome then 0 else 1)
 else if x.kind=5 then Z x.ah
 else if x.kind=6 then (match dN x id with
  | some i => (match x.ah[i]? with | some m => H m.ty | none => 0)
  | none => 0)
 else if x.kind=7\/x.kind=8\/x.kind=9 then K x.key+I x.elem
 else 0
mutual
def uz (ts:List ay):Val->Int->Int
 | .mk _ _ _ _ id ks is rs,t => match bM ts t with
  | none => 0
  | some x => (rs.length:Int)+QV x id (fun t => Ls ts ks t) (fun t => Ls ts is t) (fun ms => AX ts is ms) (fun t => ab9 ts is t)
def Ls (ts:List ay):List Val->Int->Int
 | [],_ => 0
 | y :: r,t => uz ts y t+Ls ts r t
def AX (ts:List ay):List Val->List Mem->Int
 | y :: r,m :: ms => uz ts y m.ty+AX ts r ms
 | [],_ => 0
 | _ :: _,[] => 0
def ab9 (ts:List ay):List Val->Int->Int
 | [],_ => 0
 | y :: _,t => uz ts y t
end
theorem Lu (ts:List ay) (v:Val) (t:Int) (x:ay) (h:bM ts t=some x):uz ts v t=(v.rest.length:Int)+QV x v.id (fun t => Ls ts v.keys t) (fun t => Ls ts v.items t) (fun ms => AX ts v.items ms) (fun t => ab9 ts v.items t):=by
 cases v;rw [uz,h];rfl
theorem pz (ts:List ay) (l:List Val) (t:Int) (k:Nat) (h:k < l.length):Ls ts (l.drop k) t=uz ts l[k] t+Ls ts (l.drop (k+1)) t:=by
 rw [A_ h,Ls]
theorem nV (ts:List ay) (l:List Val) (t:Int) (k:Nat) (h:l.length<=k):Ls ts (l.drop k) t=0:=by rw [G_ h,Ls]
theorem acd (ts:List ay) (l:List Val) (ms:List Mem) (k:Nat) (h:k < l.length) (h2:k < ms.length):AX ts (l.drop k) (ms.drop k)=uz ts l[k] ms[k].ty+AX ts (l.drop (k+1)) (ms.drop (k+1)):=by
 rw [A_ h,A_ h2,AX]
theorem ZU (ts:List ay) (l:List Val) (ms:List Mem) (k:Nat) (h:l.length<=k):AX ts (l.drop k) ms=0:=by rw [G_ h,AX]
theorem ayG (ts:List ay) (l:List Val) (t:Int) (h:0 < l.length):ab9 ts l t=uz ts l[0] t:=by
 cases l with
 | nil => simp at h
 | cons y r => rw [ab9];rfl
theorem PD (ts:List ay) (pl:Bool):∀ (vs:List Val) (ms:List Mem),qL ts pl vs ms=true->∀ k (h1:k < vs.length) (h2:k < ms.length),cO ts pl vs[k] ms[k].ty=true
 | [],_,_,k,h1,_ => by simp at h1
 | _ :: _,[],_,k,_,h2 => by simp at h2
 | y :: r,m :: ms,h,k,h1,h2 => by
  rw [qL,j_] at h;cases k with
  | zero => exact h.1
  | succ k => exact PD ts pl r ms h.2 k (by simpa using h1) (by simpa using h2)
theorem yw {ts:List ay} {pl:Bool} {l:List Val} {t:Int} (h:rC ts pl l t=true):∀ y ∈ l,cO ts pl y t=true:=by
 rw [uT,QD] at h;exact h
theorem pI {ts:List ay} {pl:Bool} {v:Val} {t:Int} {x:ay} (hx:bM ts t=some x) (h:cO ts pl v t=true):v.kind=x.kind/\aA v=true/\jT ts pl x v=true:=by
 rw [kG,hx] at h;simp only [j_,w_] at h;exact h
theorem RZ {ts:List ay} {pl:Bool} {v:Val} {t:Int} {x:ay} (hx:bM ts t=some x) (h:cO ts pl v t=true) (hk:x.kind=5):v.items.length=x.ah.length/\∀ k (h1:k < v.items.length) (h2:k < x.ah.length),cO ts pl v.items[k] x.ah[k].ty=true:=by
 have h3:=(pI hx h).2.2;unfold jT ig at h3;simp [hk] at h3;exact ⟨h3.1,PD ts pl _ _ h3.2.2.2⟩
theorem aer (ts:List ay) (pl:Bool):∀ (l:List Val) (t:Int),zM ts pl l t=true->∀ h:0 < l.length,cO ts pl l[0] t=true
 | [],_,_,h => by simp at h
 | y :: r,t,h,_ => by rw [zM] at h;exact h
theorem CO {x:ay} {v:Val} (h1:v.kind=x.kind) (h2:aA v=true) (hk:x.kind≠8):v.keys = []:=by
 unfold aA at h2;simp only [j_,QF,w_] at h2;have h3:=h2.2.2.2.2.1;exact yS (h3.elim (fun h => absurd (h1.symm.trans h) hk) id)
theorem avG {ts:List ay} {pl:Bool} {v:Val} {t:Int} {x:ay} {i:Nat} (hx:bM ts t=some x) (h:cO ts pl v t=true) (hk:x.kind=6) (hi:dN x v.id=some i):∃ (h1:0 < v.items.length) (h2:i < x.ah.length),cO ts pl v.items[0] x.ah[i].ty=true:=by
 have h3:=(pI hx h).2.2;have hlt:=zG x v.id i hi;unfold jT ig at h3;simp [hk,hi,List.getElem?_eq_getElem hlt] at h3;obtain ⟨h4,_,h5⟩:=h3;exact ⟨by omega,hlt,aer _ _ _ _ h5 (by omega)⟩
theorem zGy {p:Prop} (h:p:=by
 simp [hk] at h3;refine ⟨fun y hy => ?_,yw h3.2⟩;rw [CO h1 h2 (by omega)] at hy;simp at hy):p:=h
theorem Ei {ts:List ay} {pl:Bool} {v:Val} {t:Int} {x:ay} (hx:bM ts t=some x) (h:cO ts pl v t=true) (hk:x.kind=7\/x.kind=8\/x.kind=9):(∀ y ∈ v.keys,cO ts pl y x.key=true)/\∀ y ∈ v.items,cO ts pl y x.elem=true:=by
 obtain ⟨h1,h2,h3⟩:=pI hx h;unfold jT ig at h3;rcases hk with hk | hk | hk
 . exact zGy
 .
  simp [hk] at h3;exact ⟨yw h3.2.2.1,yw h3.2.2.2.2⟩
 exact zGy
def iq:Nat->Nat->List UInt8->List UInt8
 | 0,_,acc => acc
 | f+1,n,acc => if n=0 then acc else iq f (n / 256) (UInt8.ofNat (n % 256) :: acc)
theorem Ug (f n:Nat) (l:List UInt8) (h:¬ 0 < n):iq f n l=l:=by
 obtain rfl:n=0:=by omega
 cases f <;> rfl
theorem ace:∀ (f n:Nat) (acc:List UInt8),n < 256 ^ f->Ci (iq f n acc) 0=Ci acc n:=by
 intro f
 induction f with
 | zero =>
  intro n acc h;obtain rfl:n=0:=by simpa using h
  rfl
 | succ f ih =>
  intro n acc h;rw [iq];split
  . next h0 => rw [h0]
  rw [ih _ _ (by rw [T_] at h;omega),Ci]
  congr 1
  simp;omega
theorem acf:∀ (f n:Nat) (acc:List UInt8),n≠0->n < 256 ^ f->(iq f n acc).head?≠some 0/\iq f n acc≠[]:=by
 intro f
 induction f with
 | zero => intro n acc h0 h;simp at h;omega
 | succ f ih =>
  intro n acc h0 h;rw [iq,gB h0];by_cases h1:n / 256=0
  .
   rw [h1,Ug _ _ _ (by omega)];refine ⟨fun h2 => ?_,by simp⟩;have h3:UInt8.ofNat (n % 256)=0:=by simpa using h2
   have:=congrArg UInt8.toNat h3;simp at this;omega
  exact ih _ _ h1 (by rw [T_] at h;omega)
theorem PE:∀ (f n:Nat) (acc:List UInt8),(iq f n acc).length<=f+acc.length:=by
 intro f
 induction f with
 | zero => intro n acc;simp [iq]
 | succ f ih =>
  intro n acc;rw [iq];split
  . omega
  have:=ih (n / 256) (UInt8.ofNat (n % 256) :: acc);simp at this;omega
theorem YP (n:Nat) (h:oV n):n < 256 ^ 8:=by
 have e:(256:Nat) ^ 8=18446744073709551616:=by decide
 rw [e];exact h
theorem aes (n:Nat) (h:oV n):(iq 8 n []).head?≠some 0:=by
 by_cases h0:n=0
 . subst h0;simp [iq]
 exact (acf 8 n [] h0 (YP n h)).1
theorem Ot (n:Nat) (h:oV n):jX (iq 8 n [])=(n,0):=by
 have hl:=PE 8 n [];rw [jX,gB (aes n h),gB (by simp at hl;omega),ace 8 n [] (YP n h)]
 rfl
def pJ:Nat->Nat->List UInt8
 | 0,n => [UInt8.ofNat n]
 | f+1,n => if n < 128 then [UInt8.ofNat n] else UInt8.ofNat (n % 128+128) :: pJ f (n / 128)
theorem ag1 (f m:Nat) (h:m < 128):pJ f m = [UInt8.ofNat m]:=by cases f <;> simp [pJ,h]
theorem ag2 (k m:Nat) (h:¬ m < 128) (hk:k < 9):pJ (9 - k) m=UInt8.ofNat (m % 128+128) :: pJ (9 - (k+1)) (m / 128):=by
 have:9 - k=(9 - (k+1))+1:=by omega
 rw [this,pJ,gB h]
theorem SN:(Tryz.prog.info? 5).map (fun i => (i.zero,i.size,i.bytes))=some (some (.int .u8 0),1,1):=by kernel_rfl
theorem Wp (m k:Nat) (h:m*128 ^ k < 18446744073709551616):m / 128*128 ^ (k+1) < 18446744073709551616:=by
 have h2:m / 128*128<=m:=Nat.div_mul_le_self _ _
 calc m / 128*128 ^ (k+1)=(m / 128*128)*128^k:=by rw [T_,QH (128^k),Nat.mul_assoc]
  _<=m*128 ^ k:=P_ _ h2
  _ < _:=h
theorem acg (m k:Nat) (h:m*128 ^ k < 18446744073709551616):IntKind.u64.wrap ((m:Int) / 128)=(m:Int) / 128:=by
 have:m<=m*128 ^ k:=Nat.le_mul_of_pos_right _ (Nat.pow_pos (by omega));rw [H_];omega
theorem Jw (n:Nat) (hn:oV n) (w:World) :
  Calls Tryz.prog 46 #[.int .u64 n] w (RT w (.string ⟨(pJ 9 n).toArray⟩)):=by
 go_enter Tryz.func46,Tryz.ntmps46
 go_wp2
 go_loopw [0,3] (fun a v wr => ∃ k m:Nat,∃ l:List UInt8,k<=9/\l.length=k/\a = .int .u64 m/\pJ 9 n=l ++ pJ (9-k) m/\Hid (m*128 ^ k < 18446744073709551616)/\wr.ownsRow w.heap.size 5 1 v k (l.map B8)/\Below w.heap.size w wr)
  (fun a _ _ => (intOf a).toNat)
 case atStart => exact ⟨0,n,[],by omega,rfl,rfl,rfl,by rw [Nat.pow_zero,Nat.mul_one];exact hn,K_ _ _ _ _,g_ _ _⟩
 case round =>
  obtain ⟨k,m,l,hk,hl,rfl,hp,hm,hown,hbl⟩:=hrel;have Hl:=hiQ hl;have Hp:=hiQ hp;clear hl hp;by_cases hlt:m < 128
  .
   go_wp2_with (at_builtin;refine su rfl _ _ _ rfl w.heap.size 5 _ 1 1 Tryz.underlying25 SN rfl (by decide) _ k (l.map B8) rfl hown [_] _ 1 rfl rfl (by simp [Value.oneCell']) (by omega) (by omega) hbl.size ?_;intro v' w1 hown1 hb1)
   have hown2:w1.ownsRow w.heap.size 5 1 v' (k+1) ((l ++ [UInt8.ofNat m]).map B8):=by
    rw [ZC m (by omega) (by omega)] at hown1;simpa using hown1
   rw [ZE 25 9 5 Tryz.underlying25 Tryz.underlying5 Tryz.underlying9 hown2];clear hown1 hown2 hown;go_wp2
   go_ret;refine ⟨?_,hbl.trans hb1⟩;rw [Hp.out,ag1 _ _ hlt];rfl
  have hk9:k < 9:=by
   rcases QC k 9 with h | h
   . exact h
   obtain rfl:k=9:=by omega
   have:=hm.out;omega
  have hq:IntKind.u64.wrap ((m:Int) / 128)=(m:Int) / 128:=acg m k hm.out;go_wp2_with (at_builtin;refine su rfl _ _ _ rfl w.heap.size 5 _ 1 1 Tryz.underlying25 SN rfl (by decide) _ k (l.map B8) rfl hown [_] _ 1 rfl rfl (by simp [Value.oneCell']) (by omega) (by omega) hbl.size ?_;intro v' w1 hown1 hb1)
  go_roundw
  case rel =>
   refine ⟨k+1,m/128,l ++ [UInt8.ofNat (m % 128+128)],by omega,by simp [Hl.out],by go_num,?_,?_,?_,hbl.trans hb1⟩
   . rw [Hp.out,ag2 _ _ hlt hk9];simp
   . exact Wp m k hm.out
   rw [ZC _ (by omega) (by omega)] at hown1;have e:((m:Int) % 128+128).toNat=m % 128+128:=by omega
   rw [e] at hown1;simpa using hown1
  case measure => simp [intOf];omega
