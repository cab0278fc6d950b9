/- What schema.uses computes. The part at a path: a plain function; that each part fits its type. Storing a row of cells into a row that the call owns. What copied computes: a value that reads the same, all of whose parts are new. What At of the program computes. No condition. -/
import Derived.Test.YtlamhkffnlgofaaGreatDoorHAX
import Derived.Test.YtlamhkffnlgofaaGreatDoorHAH
import Derived.Deep.MidRow
import Derived.Laws.CopyOwn
import Derived.Deep.RegionLaw
import Derived.Deep.Cut
set_option maxHeartbeats 1600000
set_option maxRecDepth 100000
namespace Go.Proofs.YtlamhkffnlgofaaGreatDoor
open Go.ChangeShapes Go.WideShapes Go.ChangeAt Go.RowKit
def FK (m:Mem):Value:=.int .i64 m.ty
def lg (x:ay):List Int:=x.ah.map Mem.ty ++ ((if x.kind=8 then [x.key] else []) ++ (if 7≤x.kind then [x.elem] else []))
def V9 (l:List Int) (w:World) (e:Ending) (w':World):Prop := ∃ v,e = .returned v∧Rd w' w'.heap.size 1 v l.length (l.map (Value.int .i64))∧Below w.heap.size w w'
theorem zO {w:World} {B n:Nat} {v:Value} {xs:List Value} {l:List Int} (h:w.ownsRow B 3 1 v n xs) (hl:xs=l.map (Value.int .i64)) (hn:n=l.length):Rd w w.heap.size 1 v l.length (l.map (Value.int .i64)):=by
 subst hl;subst hn;exact Rd.uX h
theorem zCa {p:Prop} (h:p:=by
 clear hg3 hgat hbase aC aV O;replace T:=hiQ (T.out.below hb3 (show w.heap.size < w.heap.size+1 by omega));replace hb:=hb.trans (hb3.mono (show w.heap.size≤w.heap.size+1 by omega));have O:=hiQ (Kept.own hown3);clear hown3;go_wp2_with fail;go_ret;exact ⟨_,rfl,zO O.out.now (by rw [CG.out];simp [FK]) (by rw [CG.out];simp),hb⟩):p:=h
theorem zDa {p:Prop} (h:p:=by
 go_wp2_with fail;go_ret;exact ⟨_,rfl,zO O.out.now (by rw [CG.out];simp [FK]) (by rw [CG.out];simp),hb⟩):p:=h
theorem zDp {p:Prop} (h:p:=by
 go_wp2_with fail;go_roundw
 case rel => exact ⟨k+1,by omega,by go_num,by rw [wO.out];exact O.out.now,T.out,hb⟩
 case measure => simp [intOf];omega):p:=h
theorem zIe {p:Prop} (h:p:=by
 replace T:=hiQ (T.out.below hb3 (show w.heap.size < w.heap.size+1 by omega));replace hb:=hb.trans (hb3.mono (show w.heap.size≤w.heap.size+1 by omega));have O:=hiQ (Kept.own hown3);clear hown3;exact zDp):p:=h
theorem Wh (x:ay) (vs vm:Value) (w:World) (hl:x.ah.length≤6000000000000) (ht:jc w w.heap.size x vs vm) :
  Calls Tryz.prog 97 #[dA x vs vm] w (V9 (lg x) w):=by
 obtain ⟨C1,m1,C2,m2,rfl,rfl,-,-⟩:=ht.forms;have HT:=hiQ ht;clear ht;go_enter Tryz.func97,Tryz.ntmps97
 go_upto_region 1 with fail;refine aO (fun wd2 hb1 T => ?_);have hw3:=hb1;clear hb1;have bf:=T.out.e6;have HT0:=hiQ T.out;have hB0:=hw3;go_wp2_with fail;go_loopw [3,9] (fun s3 i wr => ∃ k:Nat,k≤x.ah.length∧i = .int .i64 k∧wr.ownsRow (w.heap.size+1) 3 1 s3 k ((x.ah.take k).map FK)∧Has wr w.heap.size 71 #[.int .i64 x.kind,.string ⟨x.name.toArray⟩,.int .i64 x.low,.int .i64 x.high,.int .i64 x.max,.slice C1 x.syms.length m1,.slice C2 x.ah.length m2,.int .i64 x.key,.int .i64 x.elem,.bool x.opn]∧Below w.heap.size w wr) (fun _ i _ => x.ah.length - (intOf i).toNat)
 case atStart => exact ⟨0,by omega,rfl,World.ownsRow_nil _ _ _ _,HT0.out,hB0⟩
 case round =>
  clear T hB0 HT0;obtain ⟨k,hk,rfl,hown,T,hb⟩:=hrel;obtain ⟨A0,c0,rfl⟩:=jF hown;replace T:=hiQ T;have O:=hiQ (Kept.own hown);clear hown;by_cases hlt:k < x.ah.length
  ·
   obtain ⟨b,o,hC2,hb1,hel⟩:=HT.out.ah.elem (by omega);obtain ⟨dk,di,dr,hcells,hma⟩:=hel k hlt;have wO:Hid ((x.ah.take (k+1)).map FK=(x.ah.take k).map FK ++ [.int .i64 x.ah[k].ty]):=Bj FK x.ah k hlt;generalize x.ah[k]=m at *;obtain ⟨D1,d1,D2,d2,D3,d3,rfl,rfl,rfl,-,-,-⟩:=hma.dflt.forms;obtain ⟨y0,y1,y2,y3,y4,y5,y6,y7,y8,y9,GN,GR,GU⟩:=hcells;have x0:=(hb.cell (p:=⟨b,_,none⟩) hb1).trans y0;have x1:=(hb.cell (p:=⟨b,_,none⟩) hb1).trans y1;have x2:=(hb.cell (p:=⟨b,_,none⟩) hb1).trans y2;have x3:=(hb.cell (p:=⟨b,_,none⟩) hb1).trans y3;have x4:=(hb.cell (p:=⟨b,_,none⟩) hb1).trans y4;have x5:=(hb.cell (p:=⟨b,_,none⟩) hb1).trans y5;have x6:=(hb.cell (p:=⟨b,_,none⟩) hb1).trans y6;have x7:=(hb.cell (p:=⟨b,_,none⟩) hb1).trans y7;have x8:=(hb.cell (p:=⟨b,_,none⟩) hb1).trans y8;have x9:=(hb.cell (p:=⟨b,_,none⟩) hb1).trans y9;have x10:=(hb.cell (p:=⟨b,_,none⟩) hb1).trans GN;have x11:=(hb.cell (p:=⟨b,_,none⟩) hb1).trans GR;have x12:=(hb.cell (p:=⟨b,_,none⟩) hb1).trans GU;clear y0 y1 y2 y3 y4 y5 y6 y7 y8 y9 GN GR GU;have hi1:(k:Int) < x.ah.length:=by omega
   clear hel hma;go_upto_region 5 with fail;refine aO (fun fG hb4 M => ?_);have nI:=T.out.here;have mO:=O.out.le;have kH:=hb.size;obtain ⟨T,O⟩:=b2 T O hb4;replace hb:=dT hb hb4;clear hb4;generalize wr.heap.size=g6 at *;clear x0 x1 x2 x3 x4 x5 x6 x7 x8 x9 x10 x11 x12 hC2;have je:=M.out.e2;have hbase:w.heap.size+1≤fG.heap.size:=T.out.here;go_upto_region 6 with (at_builtin;refine fA rfl _ _ _ rfl (w.heap.size+1) 3 _ 1 8 Tryz.underlying39 oP rfl (by decide) _ (k) _ rfl O.out.now [.int .i64 m.ty] _ 1 _ rfl rfl rfl (by simp [Value.oneCell']) (by omega) (by omega) hbase ?_;intro g cap w3 hown3 hg3 hgat hb3)
   clear hg3 hgat hbase je O M;exact zIe
  obtain rfl:k=x.ah.length:=by omega
  rw [List.take_of_length_le (Nat.le_refl _)] at O;by_cases h8:x.kind=8
  ·
   have t8:(x.kind == 8)=true:=by simp [h8]
   have t7:(7:Int)≤x.kind:=by omega
   have CG:Hid (lg x=x.ah.map Mem.ty ++ [x.key,x.elem]):=by show _=_;unfold lg;rw [if_pos h8,if_pos t7];rfl
   clear h8;have aC:=T.out.e0;have bF:=T.out.e7;have hbase:w.heap.size+1≤wr.heap.size:=T.out.here;go_upto_region 9 with (at_builtin;refine fA rfl _ _ _ rfl (w.heap.size+1) 3 _ 1 8 Tryz.underlying39 oP rfl (by decide) _ (x.ah.length) _ rfl O.out.now [.int .i64 x.key] _ 1 _ rfl rfl rfl (by simp [Value.oneCell']) (by omega) (by omega) hbase ?_;intro g cap w3 hown3 hg3 hgat hb3)
   clear hg3 hgat hbase aC bF O;replace T:=hiQ (T.out.below hb3 (show w.heap.size < w.heap.size+1 by omega));replace hb:=hb.trans (hb3.mono (show w.heap.size≤w.heap.size+1 by omega));have O:=hiQ (Kept.own hown3);clear hown3;have aC:=T.out.e0;have aV:=T.out.e8;have hbase:w.heap.size+1≤w3.heap.size:=T.out.here;go_upto_region 11 with (at_builtin;refine fA rfl _ _ _ rfl (w.heap.size+1) 3 _ 1 8 Tryz.underlying39 oP rfl (by decide) _ (x.ah.length+1) _ rfl O.out.now [.int .i64 x.elem] _ 1 _ rfl rfl rfl (by simp [Value.oneCell']) (by omega) (by omega) hbase ?_;intro g cap w3 hown3 hg3 hgat hb3)
   exact zCa
  have t8:(x.kind == 8)=false:=by simpa using h8
  by_cases h7:7≤x.kind
  ·
   have CG:Hid (lg x=x.ah.map Mem.ty ++ [x.elem]):=by show _=_;unfold lg;rw [if_neg h8,if_pos h7];rfl
   clear h8;have aC:=T.out.e0;have aV:=T.out.e8;have hbase:w.heap.size+1≤wr.heap.size:=T.out.here;go_upto_region 11 with (at_builtin;refine fA rfl _ _ _ rfl (w.heap.size+1) 3 _ 1 8 Tryz.underlying39 oP rfl (by decide) _ (x.ah.length) _ rfl O.out.now [.int .i64 x.elem] _ 1 _ rfl rfl rfl (by simp [Value.oneCell']) (by omega) (by omega) hbase ?_;intro g cap w3 hown3 hg3 hgat hb3)
   exact zCa
  have CG:Hid (lg x=x.ah.map Mem.ty):=by show _=_;unfold lg;rw [if_neg h8,if_neg h7];simp
  clear h8;have aC:=T.out.e0;exact zDa
def aiZ (w:World) (r:Except Int (Val × Int)) (e:Ending) (w':World):Prop :=
 match r with
 | .ok q => (∃ vk vi vr,e = .returned (.tuple #[aS q.1 vk vi vr,.int .i64 q.2,.int .i64 0])∧ValAt w' w'.heap.size q.1 vk vi vr)∧Below w.heap.size w w'
 | .error n => e = .returned (.tuple #[.agg #[.int .i64 0,.bool false,.int .i64 0,.string ⟨#[]⟩,.int .i64 0,.slice none 0 0,.slice none 0 0,.slice none 0 0],.int .i64 0,.int .i64 n])∧Below w.heap.size w w'
def Js (xs:List Value):Nat→List Value→List Value
 | _,[] => xs
 | o,v :: r => Js (xs.set o v) (o+1) r
theorem Wi:∀ (vs xs:List Value) (o:Nat),(Js xs o vs).length=xs.length
 | [],_,_ => rfl
 | v :: r,xs,o => by rw [Js,Wi r];simp
theorem Pz:∀ (vs xs:List Value) (o q:Nat),(q < o∨o+vs.length≤q)→(Js xs o vs)[q]?=xs[q]?
 | [],_,_,_,_ => rfl
 | v :: r,xs,o,q,h => by
  simp only [List.length_cons] at h;rw [Js,Pz r _ _ _ (by omega),List.getElem?_set_ne (by omega)]
theorem YL:∀ (vs xs:List Value) (o j:Nat),j < vs.length→o+vs.length≤xs.length→(Js xs o vs)[o+j]?=vs[j]?
 | [],_,_,_,h,_ => by simp at h
 | v :: r,xs,o,j,h,hl => by
  simp only [List.length_cons] at h hl;rw [Js];cases j with
  | zero =>
   rw [Pz r _ _ _ (by omega),Nat.add_zero,List.getElem?_set_self (by omega)]
   rfl
  | succ j =>
   rw [show o+(j+1)=o+1+j by omega,YL r _ _ j (by omega) (by simp;omega)]
   rfl
theorem FM {base n size cap g:Nat} {e:TypeId} : ∀ (vs xs:List Value) (o:Nat) (w:World),w.ownsRow base e size (.slice (some ⟨g,0,none⟩) n cap) n xs →
  (w.setCells g o vs).ownsRow base e size (.slice (some ⟨g,0,none⟩) n cap) n (Js xs o vs)
 | [],_,_,_,h => h
 | v :: r,_,o,_,h => FM r _ (o+1) _ (h.stored o v).1
theorem below_setCells {B g:Nat} {w0:World} (hg:B≤g):∀ (vs:List Value) (o:Nat) (w:World),Below B w0 w→Below B w0 (w.setCells g o vs)
 | [],_,_,h => h
 | v :: r,o,_,h => below_setCells hg r (o+1) _ (h.setCell hg v)
theorem Ue {w:World} {base n size cap g:Nat} {e:TypeId} {xs:List Value} (h:w.ownsRow base e size (.slice (some ⟨g,0,none⟩) n cap) n xs) (o m:Nat) (hm:o+m≤n*size):w.there g o m:=by
 intro j hj;refine ⟨?_,h.frozenAt (o+j)⟩;rw [h.cellAt (o+j) (by omega),List.getElem?_eq_getElem (by rw [h.1];omega)]
 rfl
def EM (size n:Nat) (xs:List Value) (c:Nat→List Value):Prop:=xs.length=n*size∧(∀ i,i < n→(c i).length=size)∧∀ i,i < n→∀ j u,(c i)[j]?=some u→xs[i*size+j]?=some u
theorem EM.YM (c:Nat→List Value) (size n:Nat) (h:∀ i,i < n→(c i).length=size):EM size n (nN c n) c :=
 ⟨arY c size n h,h,fun i hi j u hu => by
  have hj:j < size:=by rw [← h i hi];exact (List.getElem?_eq_some_iff.1 hu).1
  rw [zN c size n h i j hi hj];exact hu⟩
theorem IC {k n size:Nat} (h:k < n):k*size+size≤n*size:=by
 have:=Nat.mul_le_mul_right size h;rw [Nat.succ_mul] at this;exact this
theorem EM.set {size n:Nat} {xs:List Value} {c:Nat→List Value} (h:EM size n xs c) (k:Nat) (cs:List Value) (hk:k < n) (hl:cs.length=size):EM size n (Js xs (k*size) cs) (fun i => if i=k then cs else c i):=by
 obtain ⟨h1,h2,h3⟩:=h;have hkn:=IC (size:=size) hk;refine ⟨by rw [Wi,h1],fun i hi => ?_,fun i hi j u hu => ?_⟩
 ·
  show (if i=k then cs else c i).length=size;split
  · exact hl
  exact h2 i hi
 replace hu:(if i=k then cs else c i)[j]?=some u:=hu;by_cases e:i=k
 ·
  subst e;rw [if_pos rfl] at hu;rw [YL cs xs (i*size) j (List.getElem?_eq_some_iff.1 hu).1 (by omega)];exact hu
 rw [if_neg e] at hu;have hj:j < size:=by rw [← h2 i hi];exact (List.getElem?_eq_some_iff.1 hu).1
 have:i*size+j < k*size∨k*size+cs.length≤i*size+j:=by
  rcases Nat.lt_or_gt_of_ne e with h | h
  · left;have:=IC (size:=size) h;omega
  right;have:=IC (size:=size) h;omega
 rw [Pz cs xs (k*size) _ this];exact h3 i hi j u hu
theorem Bh.aek {w:World} {base n size:Nat} {e:TypeId} {v:Value} {xs:List Value} {c:Nat→List Value} (h:w.ownsRow base e size v n xs) (hc:EM size n xs c):Bh w (fun b => v.ownBlock=some b) size v n c:=by
 have h0:=h;obtain ⟨hl,h2⟩:=h;rcases h2 with ⟨rfl,rfl⟩ | ⟨g,cap,cur,rfl,hb,hh,hn,hm,hsz,ht⟩
 · exact ⟨none,0,rfl,Nat.le_refl _,.inl rfl⟩
 refine ⟨_,cap,rfl,hn,.inr ⟨g,0,rfl,rfl,fun i hi j u hu => ?_⟩⟩;have:=h0.cells (g:=g) rfl (i*size+j) u (hc.2.2 i hi j u hu);have e:(⟨g,0,none⟩ : Addr).add (i*size+j)=⟨g,0+i*size+j,none⟩:=by unfold Addr.add;split <;> simp_all
 rwa [e] at this
theorem ael (x:Val) (vk vi vr:Value) (h1:vk.oneCell'=true) (h2:vi.oneCell'=true) (h3:vr.oneCell'=true):∀ u ∈ oD x vk vi vr,u.oneCell'=true:=by
 intro u hu;simp only [oD,List.mem_cons,List.not_mem_nil,or_false] at hu;rcases hu with rfl | rfl | rfl | rfl | rfl | rfl | rfl | rfl <;> first | assumption | rfl
theorem Rd.flat {w:World} {B size n cap:Nat} {A:Option Addr} {xs:List Value} (h:Rd w B size (.slice A n cap) n xs) (hB:B≤w.heap.size) :
  (A=none→n=0)∧(∀ a,A=some a→∀ j u,xs[j]?=some u→w.cell? (a.add j)=some u)∧(∀ a,A=some a→0 < n→a.block < w.heap.size):=by
 obtain ⟨hl,A',c',hv,_,h2⟩:=h;injection hv with h3 h4 h5;subst h3;rcases h2 with rfl | ⟨b,o,rfl,hb,hc⟩
 ·
  refine ⟨fun _ => rfl,fun a _ j u hu => ?_,fun _ _ h => by omega⟩;have:xs = []:=by simpa using hl
  subst this;simp at hu
 refine ⟨fun h => (by cases h),fun a ha j u hu => ?_,fun a ha _ => ?_⟩
 ·
  injection ha with ha;subst ha;rw [Addr.add_mid];exact hc j u hu
 injection ha with ha;subst ha;show b < w.heap.size;omega
theorem Row.flat' {w:World} {B size n cap:Nat} {A:Option Addr} {c:Nat→List Value} (h:Row w B size (.slice A n cap) n c) (hB:B≤w.heap.size) (hs:0 < size) (hc:∀ i,i < n→(c i).length=size) :
  (A=none→n=0)∧(∀ a,A=some a→∀ j u,(nN c n)[j]?=some u→w.cell? (a.add j)=some u)∧(∀ a,A=some a→0 < n→a.block < w.heap.size):=by
 have h0:=h;obtain ⟨A',c',hv,_,h2⟩:=h;injection hv with h3 h4 h5;subst h3;refine ⟨fun e => ?_,fun a ha => h0.flat hs hc a ha,fun a ha hp => ?_⟩
 ·
  rcases h2 with h | ⟨b,o,h,_⟩
  · exact h
  rw [e] at h;cases h
 rcases h2 with h | ⟨b,o,h,hb,_⟩
 · omega
 rw [ha] at h;injection h with h;subst h;show b < w.heap.size;omega
theorem aem (rs:List Raw):∀ u ∈ jO rs,u.oneCell'=true:=by
 intro u hu;simp only [jO,List.mem_flatMap,Kw,List.mem_cons,List.not_mem_nil,or_false] at hu;obtain ⟨r,_,rfl | rfl⟩:=hu <;> rfl
theorem aen (rs:List Raw):(jO rs).length=rs.length*2:=by
 induction rs with
 | nil => rfl
 | cons r rs ih => rw [jO,List.flatMap_cons,List.length_append,← jO,ih];simp [Kw];omega
theorem IE {P:Program} {ops:Array Oper} {op:Oper} {a:Act} {w:World} {K:Act→World→Prop} {Q:Exit→Act→World→Prop} {E:Prop} (hgd:op.guard=none) (ty:TypeId) (x y:Operand) (ho:op.op = .store ty x y)
  (b o:Nat) (cells:Array Value) (hx:a.eval x = .pointer (some ⟨b,o,none⟩)) (hy:a.eval y = .agg cells)
  (ht:w.there b o cells.size) (hi:(P.info? ty).map (·.size)=some cells.size) (h1:cells.all (·.oneCell')=true)
  (h:K (a.put op.dst undef) (w.setCells b o cells.toList)):if Region.wanted op (yielded ops a.tmps)=true then Oper.wp P op a w K Q else E:=by
 have hw:Region.wanted op (yielded ops a.tmps)=true:=by simp [Region.wanted,hgd]
 rw [if_pos hw];exact wp_store_mid ty x y ho b o cells hx hy ht hi h1 h
theorem ValAt.mono {w:World} {B B':Nat} {x:Val} {vk vi vr:Value} (h:ValAt w B x vk vi vr) (hB:B≤B'):ValAt w B' x vk vi vr:=h.keep (fun _ _ => rfl) hB
theorem ints_at {w:World} {b o:Nat} {zs:List Int} (h:∀ j u,(zs.map (Value.int .i64))[j]?=some u→w.cell? ⟨b,o+j,none⟩=some u) (k:Nat) (hk:k < zs.length):w.cell? ⟨b,o+k,none⟩=some (.int .i64 zs[k]) :=
 h k _ (by simp [hk])
def YN (w:World) (r:Except Int (Val × Int)) (e:Ending) (w':World):Prop :=
 match r with
 | .ok q => (∃ vk vi vr,e = .returned (.tuple #[aS q.1 vk vi vr,.int .i64 q.2,.int .i64 0])∧jq w' (fun b => w.heap.size≤b∧b < w'.heap.size) q.1 vk vi vr)∧Below w.heap.size w w'
 | .error n => e = .returned (.tuple #[.agg #[.int .i64 0,.bool false,.int .i64 0,.string ⟨#[]⟩,.int .i64 0,.slice none 0 0,.slice none 0 0,.slice none 0 0],.int .i64 0,.int .i64 n])∧Below w.heap.size w w'
theorem YN.post {w w':World} {r:Except Int (Val × Int)} {e:Ending} (h:YN w r e w'):aiZ w r e w':=by
 cases r with
 | ok q =>
  obtain ⟨⟨vk,vi,vr,he,hv⟩,hb⟩:=h;exact ⟨⟨vk,vi,vr,he,hv.at_ (fun _ h => h.2)⟩,hb⟩
 | error n => exact h
end Go.Proofs.YtlamhkffnlgofaaGreatDoor
