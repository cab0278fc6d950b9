/- What canon.uses and Uses of sheaveref18 compute. No condition. -/
import Derived.Test.YtlamhkffnlgofaaGreatDoorHAL
set_option maxHeartbeats 3200000
set_option maxRecDepth 100000
namespace Go.Proofs.YtlamhkffnlgofaaGreatDoor
open Go.ChangeShapes Go.WideShapes Go.ChangeAt Go.RowKit
def arl (u:Int × Int):List Value:=[.int .i64 u.1,.int .i64 u.2]
def LY (l:List (Int × Int)):List Value:=l.flatMap arl
theorem ark (u:Int × Int):(arl u).length=2:=rfl
def aus (T:TypeId) (l:List (Int × Int)) (w:World) (e:Ending) (w':World):Prop := ∃ v,e = .returned v∧w'.ownsRow w.heap.size T 2 v l.length (LY l)∧Below w.heap.size w w'
def arW (m:Mem):Int × Int:=(m.id,m.ty)
theorem asr {x:ay} (h:x.kind=8):bn x=x.ah.map arW ++ [(0,x.key),(-1,x.elem)]:=by unfold bn;rw [if_pos h,if_pos (.inr (.inl h))];rfl
theorem asX {x:ay} (h:x.kind=7∨x.kind=9):bn x=x.ah.map arW ++ [(-1,x.elem)]:=by unfold bn;rw [if_neg (by omega),if_pos (by omega)];rfl
theorem awU {x:ay} (h:¬ (x.kind=7∨x.kind=8∨x.kind=9)):bn x=x.ah.map arW:=by unfold bn;rw [if_neg (by omega),if_neg h];simp;exact fun _ _ => rfl
theorem alB (a b:List (Int × Int)):LY (a ++ b)=LY a ++ LY b:=List.flatMap_append
theorem aut (l:List Mem) (k:Nat) (h:k < l.length):LY ((l.take (k+1)).map arW)=LY ((l.take k).map arW) ++ [.int .i64 l[k].id,.int .i64 l[k].ty]:=by
 rw [List.take_add_one,List.map_append,alB,List.getElem?_eq_getElem h];rfl
theorem KP {P:Program} {ops:Array Oper} {rest:List Oper} {o:Oper} {a:Act} {Q:Exit→Act→World→Prop} (hgd:o.guard=none) (s x:Operand) (t:TypeId)
  (ho:o.op = .call { callee:=.builtin .append,args:=#[s,x],argTypes:=#[t,t] })
  (base:Nat) (e:TypeId) (z:Value) (size bytes:Nat) (ht:P.underlying t=some (.slice e)) (hinfo:(P.info? e).map (fun i => (i.zero,i.size,i.bytes))=some (some z,size,bytes)) (hzs:z.cells.size=size) (hsz:0 < size)
  (v:Value) (n:Nat) (xs:List Value) (hs:a.eval s=v) {W:World} (hown:W.ownsRow base e size v n xs) (news:List Value) (m:Nat) (te:TypeId) (c g0:Nat)
  (hx:a.eval x = .slice (some ⟨g0,0,none⟩) m c) (hg:g0=W.heap.size) (hm:0 < m) (hl:news.length=m*size) (h1:∀ u ∈ news,u.oneCell'=true) (hsmall:n+m≤8000000000000) (hby:(n+m)*bytes≤140737488355328) (hbase:base≤W.heap.size)
  (h:∀ g cap w',w'.ownsRow base e size (.slice (some ⟨g,0,none⟩) (n+m) cap) (n+m) (xs ++ news)→(W.alloc (.cells news.toArray te)).grownBy w' v.ownBlock→(v.ownBlock=some g∨g=W.heap.size+1)→Below base W w'→wpList P ops Q rest (a.put o.dst (.slice (some ⟨g,0,none⟩) (n+m) cap)) w'):wpList P ops Q (o :: rest) a (W.alloc (.cells news.toArray te)):=by
 subst hg;obtain ⟨i0,hi,hz0,hz1,hz2⟩:=info_parts hinfo;refine wpList_append_lies _ hgd s x t ho base e i0 z size bytes ht hi hz0 hz1 hz2 hzs hsz v n xs hs (hown.alloc _) ⟨W.heap.size,0,none⟩ m c news hx (by omega) ?_ h1 (by omega) (by simp only [maxLen];omega) ?_ (by simp;omega) (W.heap.size+1) (by simp) ?_
 · exact zDx
 · omega
 intro g cap w' h2 h3 h4 _;exact h g cap w' h2 h3 h4 (grown_below hown hbase h3)
theorem aqW:(Tryz.prog.info? 134).map (fun i => (i.zero,i.size,i.bytes))=some (some (.agg #[.int .i64 0,.int .i64 0]),2,16):=by kernel_rfl
theorem aov:(Tryz.prog.info? 123).map (fun i => (i.zero,i.size,i.bytes))=some (some (.agg #[.int .i64 0,.int .i64 0]),2,16):=by kernel_rfl
theorem zBy {p:Prop} (h:p:=by
 replace T:=hiQ (T.out.below hb3 (show w.heap.size < w.heap.size+1 by omega));replace hb:=hb.trans (hb3.mono (show w.heap.size≤w.heap.size+1 by omega));have O:=hiQ (Kept.own hown3);clear hown3;go_wp2_with fail;go_ret;exact ⟨_,rfl,by rw [CG.out,alB];exact own_base (by simpa [LY,arl,List.append_assoc] using O.out.now) (by omega),hb⟩):p:=h
theorem zGk {p:Prop} (h:p:=by
 go_wp2_with fail;go_ret;exact ⟨_,rfl,by rw [CG.out];exact own_base (by simpa using O.out.now) (by omega),hb⟩):p:=h
theorem zHk {p:Prop} (h:p:=by
 clear h8 h7;have aC:=T.out.e0;have aV:=T.out.e8;have hbase:w.heap.size+1≤wr.heap.size:=T.out.here;go_upto_region 13 with (at_builtin;refine KP rfl _ _ _ rfl (w.heap.size+1) 134 _ 2 16 Tryz.underlying131 aqW rfl (by decide) _ (x.ah.length) _ rfl O.out.now [.int .i64 (-1),.int .i64 x.elem] 1 _ 1 _ rfl rfl (by decide) rfl (by simp [Value.oneCell']) (by omega) (by omega) hbase ?_;intro g cap w3 hown3 hg3 hgat hb3)
 clear hg3 hgat hbase aC aV O;exact zBy):p:=h
theorem arV (x:ay) (vs vm:Value) (w:World) (hl:x.ah.length≤6000000000000) (ht:jc w w.heap.size x vs vm) :
  Calls Tryz.prog 75 #[dA x vs vm] w (aus 134 (bn x) w):=by
 obtain ⟨C1,m1,C2,m2,rfl,rfl,-,-⟩:=ht.forms;have HT:=hiQ ht;clear ht;go_enter Tryz.func75,Tryz.ntmps75
 go_upto_region 1 with fail;refine aO (fun wd2 hb1 T => ?_);have hw3:=hb1;clear hb1;have bf:=T.out.e6;have HT0:=hiQ T.out;have hB0:=hw3;go_wp2_with fail;go_loopw [3,9] (fun s3 i wr => ∃ k:Nat,k≤x.ah.length∧i = .int .i64 k∧wr.ownsRow (w.heap.size+1) 134 2 s3 k (LY ((x.ah.take k).map arW))∧Has wr w.heap.size 71 #[.int .i64 x.kind,.string ⟨x.name.toArray⟩,.int .i64 x.low,.int .i64 x.high,.int .i64 x.max,.slice C1 x.syms.length m1,.slice C2 x.ah.length m2,.int .i64 x.key,.int .i64 x.elem,.bool x.opn]∧Below w.heap.size w wr) (fun _ i _ => x.ah.length - (intOf i).toNat)
 case atStart => exact ⟨0,by omega,rfl,World.ownsRow_nil _ _ _ _,HT0.out,hB0⟩
 case round =>
  clear T hB0 HT0;obtain ⟨k,hk,rfl,hown,T,hb⟩:=hrel;obtain ⟨A0,c0,rfl⟩:=jF hown;replace T:=hiQ T;have O:=hiQ (Kept.own hown);clear hown;by_cases hlt:k < x.ah.length
  ·
   skip
   obtain ⟨b,o,hC2,hb1,hel⟩:=HT.out.ah.elem (by omega);obtain ⟨dk,di,dr,hcells,hma⟩:=hel k hlt;have wO:=hiQ (aut x.ah k hlt);generalize x.ah[k]=m at *;obtain ⟨D1,d1,D2,d2,D3,d3,rfl,rfl,rfl,-,-,-⟩:=hma.dflt.forms;obtain ⟨y0,y1,y2,y3,y4,y5,y6,y7,y8,y9,GN,GR,GU⟩:=hcells;have x0:=(hb.cell (p:=⟨b,_,none⟩) hb1).trans y0;have x1:=(hb.cell (p:=⟨b,_,none⟩) hb1).trans y1;have x2:=(hb.cell (p:=⟨b,_,none⟩) hb1).trans y2;have x3:=(hb.cell (p:=⟨b,_,none⟩) hb1).trans y3;have x4:=(hb.cell (p:=⟨b,_,none⟩) hb1).trans y4;have x5:=(hb.cell (p:=⟨b,_,none⟩) hb1).trans y5;have x6:=(hb.cell (p:=⟨b,_,none⟩) hb1).trans y6;have x7:=(hb.cell (p:=⟨b,_,none⟩) hb1).trans y7;have x8:=(hb.cell (p:=⟨b,_,none⟩) hb1).trans y8;have x9:=(hb.cell (p:=⟨b,_,none⟩) hb1).trans y9;have x10:=(hb.cell (p:=⟨b,_,none⟩) hb1).trans GN;have x11:=(hb.cell (p:=⟨b,_,none⟩) hb1).trans GR;have x12:=(hb.cell (p:=⟨b,_,none⟩) hb1).trans GU;clear y0 y1 y2 y3 y4 y5 y6 y7 y8 y9 GN GR GU;have hi1:(k:Int) < x.ah.length:=by omega
   clear hel hma;go_upto_region 5 with fail;refine aO (fun fG hb4 M => ?_);have nI:=T.out.here;have mO:=O.out.le;have kH:=hb.size;obtain ⟨T,O⟩:=b2 T O hb4;replace hb:=dT hb hb4;clear hb4;generalize wr.heap.size=g6 at *;clear x0 x1 x2 x3 x4 x5 x6 x7 x8 x9 x10 x11 x12 hC2;have iU:=M.out.e0;have je:=M.out.e2;have hbase:w.heap.size+1≤fG.heap.size:=T.out.here;go_upto_region 6 with (at_builtin;refine KP rfl _ _ _ rfl (w.heap.size+1) 134 _ 2 16 Tryz.underlying131 aqW rfl (by decide) _ (k) _ rfl O.out.now [.int .i64 m.id,.int .i64 m.ty] 1 _ 1 _ rfl rfl (by decide) rfl (by simp [Value.oneCell']) (by omega) (by omega) hbase ?_;intro g cap w3 hown3 hg3 hgat hb3)
   clear hg3 hgat hbase iU je O M;exact zIe
  obtain rfl:k=x.ah.length:=by omega
  rw [List.take_of_length_le (Nat.le_refl _)] at O;by_cases h8:x.kind=8
  ·
   have CG:=hiQ (asr h8);have t8:(x.kind == 8)=true:=by simp [h8]
   clear h8;obtain ⟨aC,-,-,-,-,-,-,bF,aV,-⟩:=T.out.c10;have hbase:w.heap.size+1≤wr.heap.size:=T.out.here;go_upto_region 13 with (at_builtin;refine KP rfl _ _ _ rfl (w.heap.size+1) 134 _ 2 16 Tryz.underlying131 aqW rfl (by decide) _ (x.ah.length) _ rfl O.out.now [.int .i64 0,.int .i64 x.key,.int .i64 (-1),.int .i64 x.elem] 2 _ 2 _ rfl rfl (by decide) rfl (by simp [Value.oneCell']) (by omega) (by omega) hbase ?_;intro g cap w3 hown3 hg3 hgat hb3)
   clear hg3 hgat hbase aC bF aV O;exact zBy
  by_cases Ur:x.kind=7∨x.kind=9
  ·
   have CG:=hiQ (asX Ur);have t8:(x.kind == 8)=false:=by simpa using h8
   rcases Ur with h7 | h7
   ·
    have t7:(x.kind == 7)=true:=by simp [h7]
    exact zHk
   have t7:(x.kind == 7)=false:=by simp [h7]
   have t9:(x.kind == 9)=true:=by simp [h7]
   exact zHk
  have CG:=hiQ (awU (by omega:¬ (x.kind=7∨x.kind=8∨x.kind=9)));have t8:(x.kind == 8)=false:=by simpa using h8
  have t7:(x.kind == 7)=false:=by simpa using fun h => Ur (.inl h)
  have t9:(x.kind == 9)=false:=by simpa using fun h => Ur (.inr h)
  clear h8 Ur;have aC:=T.out.e0;exact zGk
theorem zAc {p:Prop} (h:p:=by exact ⟨T.out.cell 6,⟨(HY.out.now.1),(HY.out.now.2)⟩⟩):p:=h
theorem zHj {p:Prop} (h:p:=by
 clear h8 h7;obtain ⟨aC,-,-,-,-,-,bf,-,aV,-⟩:=T.out.c10;have hbase:w.heap.size+1≤wr.heap.size:=T.out.here;go_upto_region 10 with (at_builtin;refine KP rfl _ _ _ rfl (w.heap.size+1) 123 _ 2 16 Tryz.underlying119 aov rfl (by decide) _ (x.ah.length) _ rfl O.out.now [.int .i64 (-1),.int .i64 x.elem] 1 _ 1 _ rfl rfl (by decide) rfl (by simp [Value.oneCell']) (by omega) (by omega) hbase ?_;intro g cap w3 hown3 hg3 hgat hb3)
 clear hg3 hgat hbase aC bf aV O;exact zBy):p:=h
theorem asF (x:ay) (vs vm:Value) (w:World) (hl:x.ah.length≤6000000000000) (ht:jc w w.heap.size x vs vm) :
  Calls Tryz.prog 67 #[dA x vs vm] w (aus 123 (bn x) w):=by
 obtain ⟨C1,m1,C2,m2,rfl,rfl,-,-⟩:=ht.forms;have HT:=hiQ ht;clear ht;go_enter Tryz.func67,Tryz.ntmps67
 go_upto_region 1 with fail;refine aO (fun wd2 hb1 T => ?_);have hw3:=hb1;clear hb1;have bf:=T.out.e6;have HT0:=hiQ T.out;have hB0:=hw3;go_wp2_with fail;go_loopw [3,4] (fun s3 i wr => ∃ k:Nat,k≤x.ah.length∧i = .int .i64 k∧wr.ownsRow (w.heap.size+1) 123 2 s3 k (LY ((x.ah.take k).map arW))∧Has wr w.heap.size 71 #[.int .i64 x.kind,.string ⟨x.name.toArray⟩,.int .i64 x.low,.int .i64 x.high,.int .i64 x.max,.slice C1 x.syms.length m1,.slice C2 x.ah.length m2,.int .i64 x.key,.int .i64 x.elem,.bool x.opn]∧Below w.heap.size w wr) (fun _ i _ => x.ah.length - (intOf i).toNat)
 case atStart => exact ⟨0,by omega,rfl,World.ownsRow_nil _ _ _ _,HT0.out,hB0⟩
 case round =>
  clear T hB0 HT0;obtain ⟨k,hk,rfl,hown,T,hb⟩:=hrel;obtain ⟨A0,c0,rfl⟩:=jF hown;replace T:=hiQ T;have O:=hiQ (Kept.own hown);clear hown;by_cases hlt:k < x.ah.length
  ·
   skip
   obtain ⟨b,o,hC2,hb1,hel⟩:=HT.out.ah.elem (by omega);obtain ⟨dk,di,dr,hcells,hma⟩:=hel k hlt;have wO:=hiQ (aut x.ah k hlt);generalize x.ah[k]=m at *;obtain ⟨D1,d1,D2,d2,D3,d3,rfl,rfl,rfl,-,-,-⟩:=hma.dflt.forms;obtain ⟨y0,y1,y2,y3,y4,y5,y6,y7,y8,y9,GN,GR,GU⟩:=hcells;have hi1:(k:Int) < x.ah.length:=by omega
   have hd0:decide ((k:Int) < 0)=false:=by simp
   have hd1:decide (x.ah.length≤k)=false:=by simpa using hlt
   have HY:=hiQ (Kept.rd (P:=fun w B => w.cell? ⟨b,o+k*13,none⟩=some (.int .i64 m.id)∧w.cell? ⟨b,o+k*13+2,none⟩=some (.int .i64 m.ty)) ⟨(hb.cell (p:=⟨b,_,none⟩) hb1).trans y0,(hb.cell (p:=⟨b,_,none⟩) hb1).trans y2⟩ hb.size (fun _ hk => ⟨(hk ⟨b,_,none⟩ hb1).trans ((hb.cell (p:=⟨b,_,none⟩) hb1).trans y0),(hk ⟨b,_,none⟩ hb1).trans ((hb.cell (p:=⟨b,_,none⟩) hb1).trans y2)⟩));clear hel hma y0 y1 y2 y3 y4 y5 y6 y7 y8 y9 GN GR GU;subst hC2;have bf:=T.out.e6;go_upto_region 5 with fail;clear bf;have bf:=T.out.e6;refine wp_region_held_drew (S:=(fun w' => w'.cell? ⟨w.heap.size,6,none⟩=some (.slice (some ⟨b,o,none⟩) x.ah.length m2)∧(w'.cell? ⟨b,o+k*13,none⟩=some (.int .i64 m.id))∧(w'.cell? ⟨b,o+k*13+2,none⟩=some (.int .i64 m.ty)))) (by kernel_rfl) ⟨bf,(HY.out.now.1),(HY.out.now.2)⟩ (fun hHeld => ?_);clear bf;have hb4:Below wr.heap.size wr (wr.drew):=(Below.refl _ _).drew;obtain ⟨T,O,HY⟩:=b3 T O HY hb4;replace hb:=dT hb hb4;clear hb4;generalize wr.drew=fG at *;refine tk 0 ?_;refine tk 1 ?_;refine tk 2 ?_;refine tk 3 ?_;refine tk 4 ?_;refine tk 5 ?_;refine tk 6 ?_;refine tk 7 ?_;refine tk 8 ?_;refine tk 9 ?_;refine tk 10 ?_;refine tk 11 ?_;refine tk 12 ?_;refine tk 13 ?_;refine iE 14 fun K hK => ?_;go_simp;refine aO (fun jC hb6 N => ?_);have kH:=T.out.here;have oC:=O.out.le;have sH:=HY.out.le;have hl12:=hb.size;obtain ⟨T,O,HY⟩:=b3 T O HY hb6;replace hb:=dT hb hb6;clear hb6;generalize fG.heap.size=g8 at *;(try clear hHeld);refine hK.out _ _ zAc (fun hHeld => ?_);clear hK K;refine iE 15 fun K hK => ?_
   have hTh:=T.out.here;have hOn:=O.out.now;have hNh:=N.out.here;obtain ⟨i0,hi,hz0,hz1,hz2⟩:=info_parts aov;refine step_append_lies (P:=Tryz.prog) jC (by rfl) _ _ _ (by rfl) (w.heap.size+1) 123 i0 _ 2 16 Tryz.underlying119 hi hz0 hz1 hz2 rfl (by decide) (.slice A0 k c0) k _ rfl hOn ⟨g8,0,none⟩ 1 1 [.int .i64 m.id,.int .i64 m.ty] rfl rfl (World.news_of_block N.out) (by simp [Value.oneCell']) (by omega) (by simp only [maxLen];omega) (by omega) (by omega) jC.heap.size rfl ?_;intro g cap w1 hown1 hgr hat _;have hb4:Below (w.heap.size+1) jC w1:=(Below.refl _ jC).grown hgr (by omega) (fun q hq => (hOn.lt q hq).1);have hk4:∀ q,q < jC.heap.size→(Value.slice A0 k c0).ownBlock≠some q→w1.heap[q]?=jC.heap[q]?:=fun q h1 h2 => hgr.block q h1 (fun e => h2 e.symm);clear hOn O N;replace T:=hiQ (T.out.below hb4 (show w.heap.size < w.heap.size+1 by omega));replace HY:=hiQ (HY.out.iJ hb4 (show w.heap.size≤w.heap.size+1 by omega));replace hb:=hb.trans (hb4.mono (show w.heap.size≤w.heap.size+1 by omega));have O:=hiQ (Kept.own hown1);clear hown1 hgr hat hb4 hk4;(try clear hHeld);refine hK.out _ _ zAc (fun hHeld => ?_);clear hK K;refine iE 16 fun K hK => ?_;go_simp;(try clear hHeld);refine hK.out _ _ zAc (fun hHeld => ?_);clear hK K;refine wpAnyH_done (by kernel_rfl) ?_ _;(try clear hHeld);clear HY;exact zDp
  obtain rfl:k=x.ah.length:=by omega
  rw [List.take_of_length_le (Nat.le_refl _)] at O;by_cases h8:x.kind=8
  ·
   have CG:=hiQ (asr h8);have t8:(x.kind == 8)=true:=by simp [h8]
   clear h8;obtain ⟨aC,-,-,-,-,-,bf,bF,-,-⟩:=T.out.c10;have hbase:w.heap.size+1≤wr.heap.size:=T.out.here;go_upto_region 8 with (at_builtin;refine KP rfl _ _ _ rfl (w.heap.size+1) 123 _ 2 16 Tryz.underlying119 aov rfl (by decide) _ (x.ah.length) _ rfl O.out.now [.int .i64 0,.int .i64 x.key] 1 _ 1 _ rfl rfl (by decide) rfl (by simp [Value.oneCell']) (by omega) (by omega) hbase ?_;intro g cap w3 hown3 hg3 hgat hb3)
   clear hg3 hgat hbase aC bf bF O;replace T:=hiQ (T.out.below hb3 (show w.heap.size < w.heap.size+1 by omega));replace hb:=hb.trans (hb3.mono (show w.heap.size≤w.heap.size+1 by omega));have O:=hiQ (Kept.own hown3);clear hown3;have aC:=T.out.e0;have aV:=T.out.e8;have hbase:w.heap.size+1≤w3.heap.size:=T.out.here;go_upto_region 10 with (at_builtin;refine KP rfl _ _ _ rfl (w.heap.size+1) 123 _ 2 16 Tryz.underlying119 aov rfl (by decide) _ (x.ah.length+1) _ rfl O.out.now [.int .i64 (-1),.int .i64 x.elem] 1 _ 1 _ rfl rfl (by decide) rfl (by simp [Value.oneCell']) (by omega) (by omega) hbase ?_;intro g cap w3 hown3 hg3 hgat hb3)
   clear hg3 hgat hbase aC aV O;exact zBy
  by_cases Ur:x.kind=7∨x.kind=9
  ·
   have CG:=hiQ (asX Ur);have t8:(x.kind == 8)=false:=by simpa using h8
   rcases Ur with h7 | h7
   ·
    have t7:(x.kind == 7)=true:=by simp [h7]
    exact zHj
   have t7:(x.kind == 7)=false:=by simp [h7]
   have t9:(x.kind == 9)=true:=by simp [h7]
   exact zHj
  have CG:=hiQ (awU (by omega:¬ (x.kind=7∨x.kind=8∨x.kind=9)));have t8:(x.kind == 8)=false:=by simpa using h8
  have t7:(x.kind == 7)=false:=by simpa using fun h => Ur (.inl h)
  have t9:(x.kind == 9)=false:=by simpa using fun h => Ur (.inr h)
  clear h8 Ur;have aC:=T.out.e0;have bf:=T.out.e6;exact zGk
end Go.Proofs.YtlamhkffnlgofaaGreatDoor
