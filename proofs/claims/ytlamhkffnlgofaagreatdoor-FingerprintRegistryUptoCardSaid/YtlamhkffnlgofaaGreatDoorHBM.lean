/- Schemas that come in, of a bounded bulk: their defaults are small. What Bytes and its reference compute of any root whose defaults are small. Lists of roots that come in, of a bounded bulk. No condition. -/
import Derived.Test.YtlamhkffnlgofaaGreatDoorHBJ
import Derived.Test.YtlamhkffnlgofaaGreatDoorHAR
import Derived.Test.YtlamhkffnlgofaaGreatDoorRows
import Derived.Test.YtlamhkffnlgofaaGreatDoorHBK
import Derived.Test.YtlamhkffnlgofaaGreatDoorRCan
set_option maxHeartbeats 400000
set_option maxRecDepth 100000
namespace Go.Proofs.YtlamhkffnlgofaaGreatDoor
open Go.ChangeShapes Go.WideShapes Go.ChangeAt Go.RowKit Go.Joins
mutual
def aqH:Val→Nat
 | .mk _ _ _ s _ ks is _ => ave ks+ave is+(s.length+1)
def ave:List Val→Nat
 | [] => 0
 | x :: r => aqH x+ave r
end
theorem aEF:∀ (a b:List (List UInt8)),(asc a b).length≤a.flatten.length+b.flatten.length
 | [],_ => by simp [asc]
 | _ :: _,[] => by simp [asc]
 | a :: r,b :: s => by
  have:=aEF r s;rw [asc,List.flatten_cons,List.flatten_cons];simp only [List.length_append];omega
mutual
theorem aAQ (ts:List ay):∀ (v:Val) (t:Int),(gI ts v t).length≤10*aqH v
 | .mk k b n s id ks is rs,t => by
  have h1:=aB7 ts ks;have h2:=aB7 ts is;have h3:=aEq ts is;have h4:=aGd ts is;rw [gI,aqH];cases bM ts t with
  | none => simp
  | some x =>
   have b1:=awq b;have b2:=aul n;have b3:=agu s.length;have b4:=agu id.toNat;have b5:=agu is.length;have b6:=h3 x.ah;have b7:=aEF (Y0 ts ks x.key) (Y0 ts is x.elem);have b8:=h1 x.key;have b9:=h2 x.elem;show (atT x (.mk k b n s id ks is rs) (fun t => Y0 ts ks t) (fun t => Y0 ts is t) (fun ms => ajD ts is ms) (fun t => anV ts is t)).length≤_;unfold atT;simp only [Val.bool,Val.num,Val.str,Val.id,Val.items]
   repeat' split
   all_goals try simp only [List.length_append,List.length_nil]
   all_goals try omega
   all_goals (have b10:=h4 (Mem.ty (by assumption));omega)
theorem aB7 (ts:List ay):∀ (l:List Val) (t:Int),((Y0 ts l t).flatten).length≤10*ave l
 | [],t => by rw [Y0];simp
 | y :: r,t => by
  have h1:=aAQ ts y t;have h2:=aB7 ts r t;rw [Y0,ave,List.flatten_cons,List.length_append];omega
theorem aEq (ts:List ay):∀ (l:List Val) (ms:List Mem),(ajD ts l ms).length≤10*ave l
 | y :: r,m :: ms => by
  have h1:=aAQ ts y m.ty;have h2:=aEq ts r ms;rw [ajD,ave,List.length_append];omega
 | [],ms => by rw [ajD];simp
 | _ :: _,[] => by rw [ajD];simp
theorem aGd (ts:List ay):∀ (l:List Val) (t:Int),(anV ts l t).length≤10*ave l
 | [],t => by rw [anV];simp
 | y :: r,t => by
  have h1:=aAQ ts y t;rw [anV,ave];omega
end
theorem aFh {H:Type} {l:List (DataW H)} {d:DataW H} (h:d ∈ l):Rows.uptoBulk d≤Rows.uptoBulkAll l:=by
 induction l with
 | nil => cases h
 | cons x r ih =>
  simp only [Rows.uptoBulkAll];cases List.mem_cons.1 h with
  | inl e => subst e;omega
  | inr e => have:=ih e;omega
theorem aH0 {H:Type} (d:DataW H):1≤Rows.uptoBulk d:=by
 cases d with
 | lit l => cases l <;> simp [Rows.uptoBulk]
 | nil => simp [Rows.uptoBulk]
 | ptr d => simp [Rows.uptoBulk]
 | slice elems spare => simp [Rows.uptoBulk]
 | agg parts => simp [Rows.uptoBulk]
 | iface t d => simp [Rows.uptoBulk]
 | map entries => simp [Rows.uptoBulk]
 | held h => simp [Rows.uptoBulk]
theorem aw9 {H:Type} {parts:List (DataW H × List MemPlace)} {y:DataW H × List MemPlace} (h:y ∈ parts):Rows.uptoBulk y.1 < Rows.uptoBulk (DataW.agg (parts.map (·.1))):=by
 have h1:y.1 ∈ parts.map (·.1):=List.mem_map.2 ⟨y,h,rfl⟩;have h2:=aFh h1;simp only [Rows.uptoBulk];omega
theorem aGp {H:Type} {es sp:List (DataW H)} {y:DataW H} (h:y ∈ es):Rows.uptoBulk y < Rows.uptoBulk (DataW.slice es sp):=by
 have h2:=aFh h;simp only [Rows.uptoBulk];omega
theorem aFi {α H:Type} (f:α→Val) (g:α→DataW H):∀ l:List α,(∀ a ∈ l,aqH (f a)≤Rows.uptoBulk (g a))→ave (l.map f)≤Rows.uptoBulkAll (l.map g)
 | [],_ => by simp [ave]
 | a :: r,h => by
  have h1:=h a (by simp);have h2:=aFi f g r fun b hb => h b (by simp [hb]);simp only [List.map_cons,ave,Rows.uptoBulkAll];omega
section
variable {H:Type} {enc:TypeId × Value→H} {w:World} {base:Nat} {spare:Nat→Bool} {held:Bool}
theorem aB8 {t e:TypeId} {size fuel:Nat} {cs:List Value} {x:DataW H × List MemPlace} (ht:Tryz.prog.underlying t=some (.slice e)) (hC:Tryz.prog.cellsOf e=size) (hpos:0 < size)
  (h:DataW.trod enc Tryz.prog w base spare held fuel t cs=some x) (hs:Sz t x.1) :
  ∃ (A:Option Addr) (len cap:Nat),cs = [.slice A len cap]∧len≤cap∧len*Tryz.prog.bytesOf e≤140737488351232 ∧
   (len=0∨∃ b o,A=some ⟨b,o,none⟩∧b < w.heap.size∧∃ (N:Nat) (D:Nat→DataW H) (Pl:Nat→List MemPlace),Rows.uptoBulkAll ((List.range len).map D)+1≤Rows.uptoBulk x.1∧∀ i,i < len→∃ cs',cs'.length=size ∧
    (∀ j u,cs'[j]?=some u→w.cell? ⟨b,o+i*size+j,none⟩=some u)∧DataW.trod enc Tryz.prog w base spare held N e cs'=some (D i,Pl i)∧Sz e (D i)∧Rows.uptoBulk (D i) < Rows.uptoBulk x.1):=by
 rcases Go.Deep.open_slice ht h with ⟨rfl,_⟩ | ⟨a,len,cap,m,n,D,Pl,rfl,hb,hl,hm,hmm,rfl,hel⟩
 · exact ⟨none,0,0,rfl,Nat.le_refl _,by simp,.inl rfl⟩
 have hlm:len≤m:=by rw [hmm];split <;> omega
 refine ⟨some a,len,cap,rfl,hl,?_,?_⟩
 ·
  have:=hs.len ht;simp only [List.length_map,List.length_range] at this;exact Nat.le_trans (Nat.mul_le_mul_right _ (by omega)) this
 by_cases h0:len=0
 · exact .inl h0
 right
 have hcell:∀ i,i < len→∃ cs',cs'.length=size∧(∀ j,j < size→w.cell? ((a.add (i*size)).add j)=cs'[j]?)∧DataW.trod enc Tryz.prog w base spare held n e cs'=some (D i,Pl i):=fun i hi => by
  exact zGi
 have h00:∃ u,w.cell? a=some u:=by
  exact zEy
 obtain ⟨u,hu⟩:=h00;have hsp:a.spot=none:=by
  exact zGo
 obtain ⟨b,o,sp⟩:=a;simp only at hsp;subst hsp;refine ⟨b,o,rfl,World.block_lt_of_cell? _ _ hu,n,D,Pl,(by simp only [Rows.uptoBulk];omega),fun i hi => ?_⟩;obtain ⟨cs',h1,h2,h3⟩:=hcell i hi;have hmem:D i ∈ (List.range len).map D:=List.mem_map.2 ⟨i,by simpa using hi,rfl⟩;refine ⟨cs',h1,fun j v hv => ?_,h3,hs.elem ht hmem,aGp hmem⟩;exact zEv
theorem aFj {fuel:Nat} {cs:List Value} {x:DataW H × List MemPlace} (h:DataW.trod enc Tryz.prog w base spare held fuel 78 cs=some x) (hs:Sz 78 x.1)
  (ih:∀ (N:Nat) (cs:List Value) (D:DataW H) (Q:List MemPlace),Rows.uptoBulk D < Rows.uptoBulk x.1→cs.length=8→DataW.trod enc Tryz.prog w base spare held N 81 cs=some (D,Q)→Sz 81 D→∃ y:Val,wJ w w.heap.size y cs∧aqH y≤Rows.uptoBulk D) :
  ∃ (v:Value) (xs:List Val),cs = [v]∧xs.length≤1172812402926∧qF w w.heap.size v xs∧ave xs+1≤Rows.uptoBulk x.1:=by
 obtain ⟨A,len,cap,rfl,hl,hb,hrow⟩:=aB8 Tryz.underlying78 (size:=8) (by kernel_rfl) (by decide) h hs;have hbb:Tryz.prog.bytesOf 81=120:=by kernel_rfl
 rw [hbb] at hb;rcases hrow with rfl | ⟨b,o,rfl,hlt,N,D,Pl,hall,hi⟩
 · exact ⟨_,[],rfl,by simp,⟨fun _ => [],⟨A,cap,rfl,hl,.inl rfl⟩,fun i h => by simp at h⟩,by rw [ave];exact aH0 x.1⟩
 have hex:∀ i:Nat,∃ p:Val × List Value,i < len→(∀ j u,p.2[j]?=some u→w.cell? ⟨b,o+i*8+j,none⟩=some u)∧wJ w w.heap.size p.1 p.2∧aqH p.1≤Rows.uptoBulk (D i):=by
  intro i;by_cases h0:i < len
  ·
   obtain ⟨cs',h1,h2,h3,h4,h5⟩:=hi i h0;obtain ⟨y,hy⟩:=ih N cs' (D i) (Pl i) h5 h1 h3 h4;exact ⟨(y,cs'),fun _ => ⟨h2,hy⟩⟩
  exact ⟨(jm,[]),fun h => absurd h h0⟩
 obtain ⟨F,hF⟩:=Classical.axiomOfChoice hex;refine ⟨_,(List.range len).map (fun i => (F i).1),rfl,by simp;omega,⟨fun i => (F i).2,⟨_,cap,by simp,by simpa using hl,.inr ⟨b,o,rfl,hlt,fun i h0 => (hF i (by simpa using h0)).1⟩⟩,fun i h0 => ?_⟩,?_⟩
 ·
  have h1:i < len:=by simpa using h0
  simpa using (hF i h1).2.1
 have:=aFi (fun i => (F i).1) D (List.range len) fun i h0 => (hF i (by simpa using h0)).2.2;omega
theorem aIw:∀ (S N:Nat) (cs:List Value) (D:DataW H) (Q:List MemPlace),Rows.uptoBulk D < S→cs.length=8→DataW.trod enc Tryz.prog w base spare held N 81 cs=some (D,Q)→Sz 81 D→∃ y:Val,wJ w w.heap.size y cs∧aqH y≤Rows.uptoBulk D:=by
 intro S
 induction S with
 | zero => intro N cs D Q h;omega
 | succ S ih =>
  intro N cs D Q hS hl h hs;obtain ⟨xs,n,rfl,hx,_,hxl,hg⟩:=DataW.trod_struct Tryz.underlying81 h;obtain ⟨c0,c1,c2,c3,c4,c5,c6,c7,rfl⟩ : ∃ a b c d e f g h,cs = [a,b,c,d,e,f,g,h]:=by
   match cs,hl with
   | [a,b,c,d,e,f,g,h],_ => exact ⟨a,b,c,d,e,f,g,h,rfl⟩
  match xs,hxl with
  | [y0,y1,y2,y3,y4,y5,y6,y7],_ =>
   injection hx with hx1 hx2;have k0:Tryz.prog.cellsOf 3=1:=by kernel_rfl
   have k1:Tryz.prog.cellsOf 4=1:=by kernel_rfl
   have k2:Tryz.prog.cellsOf 2=1:=by kernel_rfl
   have k3:Tryz.prog.cellsOf 9=1:=by kernel_rfl
   have k5:Tryz.prog.cellsOf 78=1:=by kernel_rfl
   have k7:Tryz.prog.cellsOf 79=1:=by kernel_rfl
   have h0:DataW.trod enc Tryz.prog w base spare held n 3 (([c0,c1,c2,c3,c4,c5,c6,c7].drop 0).take (Tryz.prog.cellsOf 3))=some y0:=hg 0 _ rfl;have h1:DataW.trod enc Tryz.prog w base spare held n 4 (([c0,c1,c2,c3,c4,c5,c6,c7].drop 1).take (Tryz.prog.cellsOf 4))=some y1:=hg 1 _ rfl;have h2:DataW.trod enc Tryz.prog w base spare held n 2 (([c0,c1,c2,c3,c4,c5,c6,c7].drop 2).take (Tryz.prog.cellsOf 2))=some y2:=hg 2 _ rfl;have h3:DataW.trod enc Tryz.prog w base spare held n 9 (([c0,c1,c2,c3,c4,c5,c6,c7].drop 3).take (Tryz.prog.cellsOf 9))=some y3:=hg 3 _ rfl;have h4:DataW.trod enc Tryz.prog w base spare held n 3 (([c0,c1,c2,c3,c4,c5,c6,c7].drop 4).take (Tryz.prog.cellsOf 3))=some y4:=hg 4 _ rfl;have h5:DataW.trod enc Tryz.prog w base spare held n 78 (([c0,c1,c2,c3,c4,c5,c6,c7].drop 5).take (Tryz.prog.cellsOf 78))=some y5:=hg 5 _ rfl;have h6:DataW.trod enc Tryz.prog w base spare held n 78 (([c0,c1,c2,c3,c4,c5,c6,c7].drop 6).take (Tryz.prog.cellsOf 78))=some y6:=hg 6 _ rfl;have h7:DataW.trod enc Tryz.prog w base spare held n 79 (([c0,c1,c2,c3,c4,c5,c6,c7].drop 7).take (Tryz.prog.cellsOf 79))=some y7:=hg 7 _ rfl;rw [k0] at h0 h4;rw [k1] at h1;rw [k2] at h2;rw [k3] at h3;rw [k5] at h5 h6;rw [k7] at h7;obtain ⟨n0,e0,_,w0⟩:=DataW.trod_int Tryz.underlying3 h0;obtain ⟨b1,e1,_⟩:=DataW.trod_bool Tryz.underlying4 h1;obtain ⟨n2,e2,_,w2⟩:=DataW.trod_int Tryz.underlying2 h2;obtain ⟨s,e3,e3',_⟩:=DataW.trod_string Tryz.underlying9 h3;obtain ⟨n4,e4,_,w4⟩:=DataW.trod_int Tryz.underlying3 h4;subst hx1
   have sz3:=Sz.field hs Tryz.underlying81 (i:=3) rfl rfl;have sz5:=Sz.field hs Tryz.underlying81 (i:=5) rfl rfl;have sz6:=Sz.field hs Tryz.underlying81 (i:=6) rfl rfl;have sz7:=Sz.field hs Tryz.underlying81 (i:=7) rfl rfl;have z5:=aw9 (H:=H) (parts:=[y0,y1,y2,y3,y4,y5,y6,y7]) (y:=y5) (by simp);have z6:=aw9 (H:=H) (parts:=[y0,y1,y2,y3,y4,y5,y6,y7]) (y:=y6) (by simp);obtain ⟨vk,ks,ek,lk,rk,qk⟩:=aFj h5 sz5 (fun N cs D Q hD hl ht hz => ih N cs D Q (by omega) hl ht hz);obtain ⟨vi,is,ei,li,ri,qi⟩:=aFj h6 sz6 (fun N cs D Q hD hl ht hz => ih N cs D Q (by omega) hl ht hz);obtain ⟨vr,rs,er,lr,gr,rr⟩:=open_list Tryz.underlying79 (size:=2) (by kernel_rfl) (by decide) Jl h7 sz7 (good:=yR) (fun N cs' D Q hl ht hsz => aIH N cs' D Q hl ht hsz);simp only [List.drop,List.take,List.cons.injEq,and_true] at e0 e1 e2 e3 e4 ek ei er;subst e0 e1 e2 e3 e4 ek ei er;obtain ⟨l,rfl,hll⟩:=azu s;have hbb:Tryz.prog.bytesOf 129=24:=by kernel_rfl
   rw [hbb] at lr;have hsl:l.length≤140737488351232:=by
    rw [e3'] at sz3;simpa using sz3.str
   have q3:Rows.uptoBulk y3.1=l.length+1:=by rw [e3'];simp [Rows.uptoBulk]
   have qa:Rows.uptoBulk y3.1+Rows.uptoBulk y5.1+Rows.uptoBulk y6.1≤Rows.uptoBulk (DataW.agg ([y0,y1,y2,y3,y4,y5,y6,y7].map (·.1))):=by simp only [List.map_cons,List.map_nil,Rows.uptoBulk,Rows.uptoBulkAll];omega
   exact ⟨.mk n0 b1 n2 l n4 ks is rs,(ValAt.rd (x:=.mk n0 b1 n2 l n4 ks is rs) ⟨⟨wf_i64 w0,wf_i64 w2,wf_i64 w4⟩,hsl,⟨lk,li,by show rs.length≤_;omega⟩,gr,rk,ri,rr⟩),by rw [aqH];omega⟩
theorem aIx (N:Nat) (cs:List Value) (D:DataW H) (Q:List MemPlace) (hl:cs.length=13)
  (h:DataW.trod enc Tryz.prog w base spare held N 83 cs=some (D,Q)) (hs:Sz 83 D):∃ m:Mem,UU w w.heap.size m cs∧aqH m.dflt≤Rows.uptoBulk D:=by
 obtain ⟨xs,n,rfl,hx,_,hxl,hg⟩:=DataW.trod_struct Tryz.underlying83 h;obtain ⟨c0,c1,c2,c3,c4,c5,c6,c7,c8,c9,c10,c11,c12,rfl⟩ : ∃ c0 c1 c2 c3 c4 c5 c6 c7 c8 c9 c10 c11 c12,cs = [c0,c1,c2,c3,c4,c5,c6,c7,c8,c9,c10,c11,c12]:=by
  match cs,hl with
  | [c0,c1,c2,c3,c4,c5,c6,c7,c8,c9,c10,c11,c12],_ => exact ⟨c0,c1,c2,c3,c4,c5,c6,c7,c8,c9,c10,c11,c12,rfl⟩
 match xs,hxl with
 | [y0,y1,y2,y3,y4,y5],_ =>
  injection hx with hx1 hx2;have k0:Tryz.prog.cellsOf 3=1:=by kernel_rfl
  have h0:DataW.trod enc Tryz.prog w base spare held n 3 (([c0,c1,c2,c3,c4,c5,c6,c7,c8,c9,c10,c11,c12].drop 0).take (Tryz.prog.cellsOf 3))=some y0:=hg 0 _ rfl;rw [k0] at h0;have k1:Tryz.prog.cellsOf 9=1:=by kernel_rfl
  have h1:DataW.trod enc Tryz.prog w base spare held n 9 (([c0,c1,c2,c3,c4,c5,c6,c7,c8,c9,c10,c11,c12].drop 1).take (Tryz.prog.cellsOf 9))=some y1:=hg 1 _ rfl;rw [k1] at h1;have k2:Tryz.prog.cellsOf 3=1:=by kernel_rfl
  have h2:DataW.trod enc Tryz.prog w base spare held n 3 (([c0,c1,c2,c3,c4,c5,c6,c7,c8,c9,c10,c11,c12].drop 2).take (Tryz.prog.cellsOf 3))=some y2:=hg 2 _ rfl;rw [k2] at h2;have k3:Tryz.prog.cellsOf 4=1:=by kernel_rfl
  have h3:DataW.trod enc Tryz.prog w base spare held n 4 (([c0,c1,c2,c3,c4,c5,c6,c7,c8,c9,c10,c11,c12].drop 3).take (Tryz.prog.cellsOf 4))=some y3:=hg 3 _ rfl;rw [k3] at h3;have k4:Tryz.prog.cellsOf 4=1:=by kernel_rfl
  have h4:DataW.trod enc Tryz.prog w base spare held n 4 (([c0,c1,c2,c3,c4,c5,c6,c7,c8,c9,c10,c11,c12].drop 4).take (Tryz.prog.cellsOf 4))=some y4:=hg 4 _ rfl;rw [k4] at h4;have k5:Tryz.prog.cellsOf 81=8:=by kernel_rfl
  have h5:DataW.trod enc Tryz.prog w base spare held n 81 (([c0,c1,c2,c3,c4,c5,c6,c7,c8,c9,c10,c11,c12].drop 5).take (Tryz.prog.cellsOf 81))=some y5:=hg 5 _ rfl;rw [k5] at h5;obtain ⟨n0,e0,_,w0⟩:=DataW.trod_int Tryz.underlying3 h0;obtain ⟨s1,e1,e1',_⟩:=DataW.trod_string Tryz.underlying9 h1;obtain ⟨n2,e2,_,w2⟩:=DataW.trod_int Tryz.underlying3 h2;obtain ⟨n3,e3,_⟩:=DataW.trod_bool Tryz.underlying4 h3;obtain ⟨n4,e4,_⟩:=DataW.trod_bool Tryz.underlying4 h4;subst hx1;have sz1:=Sz.field hs Tryz.underlying83 (i:=1) rfl rfl;have sz5:=Sz.field hs Tryz.underlying83 (i:=5) rfl rfl;obtain ⟨y,hy,hyb⟩:=aIw _ n _ y5.1 y5.2 (Nat.lt_succ_self _) rfl h5 sz5;obtain ⟨vk,vi,vr,hcs,hva⟩:=hy.inv;have hcs2 : [c5,c6,c7,c8,c9,c10,c11,c12]=oD y vk vi vr:=hcs;simp only [List.drop,List.take,List.cons.injEq,and_true] at e0 e1 e2 e3 e4;subst e0 e1 e2 e3 e4;obtain ⟨l1,rfl,aII⟩:=azu s1;have hsl1:l1.length≤140737488351232:=by
   rw [e1'] at sz1;simpa using sz1.str
  have z5:=aw9 (H:=H) (parts:=[y0,y1,y2,y3,y4,y5]) (y:=y5) (by simp);refine ⟨⟨n0,l1,n2,n3,n4,y⟩,⟨vk,vi,vr,?_,⟨wf_i64 w0,wf_i64 w2⟩,hsl1,hva⟩,by show aqH y≤_;omega⟩;unfold ZK;rw [← hcs2]
  rfl
theorem aH1 {fuel:Nat} {cs:List Value} {x:DataW H × List MemPlace} (h:DataW.trod enc Tryz.prog w base spare held fuel 69 cs=some x) (hs:Sz 69 x.1) :
  ∃ (v:Value) (xs:List Mem),cs = [v]∧xs.length≤6000000000000∧rW w w.heap.size v xs∧∀ m ∈ xs,aqH m.dflt≤Rows.uptoBulk x.1:=by
 obtain ⟨A,len,cap,rfl,hl,hb,hrow⟩:=aB8 Tryz.underlying69 (size:=13) (by kernel_rfl) (by decide) h hs;have hbb:Tryz.prog.bytesOf 83=160:=by kernel_rfl
 rw [hbb] at hb;rcases hrow with rfl | ⟨b,o,rfl,hlt,N,D,Pl,hall,hi⟩
 · exact ⟨_,[],rfl,by simp,⟨fun _ => [],⟨A,cap,rfl,hl,.inl rfl⟩,fun i h => by simp at h⟩,fun m h => by simp at h⟩
 have hex:∀ i:Nat,∃ p:Mem × List Value,i < len→(∀ j u,p.2[j]?=some u→w.cell? ⟨b,o+i*13+j,none⟩=some u)∧UU w w.heap.size p.1 p.2∧aqH p.1.dflt≤Rows.uptoBulk x.1:=by
  intro i;by_cases h0:i < len
  ·
   obtain ⟨cs',h1,h2,h3,h4,h5⟩:=hi i h0;obtain ⟨y,hy,hyb⟩:=aIx N cs' (D i) (Pl i) h1 h3 h4;exact ⟨(y,cs'),fun _ => ⟨h2,hy,by show aqH y.dflt≤_;omega⟩⟩
  exact ⟨(⟨0,[],0,false,false,jm⟩,[]),fun h => absurd h h0⟩
 obtain ⟨F,hF⟩:=Classical.axiomOfChoice hex;refine ⟨_,(List.range len).map (fun i => (F i).1),rfl,by simp;omega,⟨fun i => (F i).2,⟨_,cap,by simp,by simpa using hl,.inr ⟨b,o,rfl,hlt,fun i h0 => (hF i (by simpa using h0)).1⟩⟩,fun i h0 => ?_⟩,fun m hm => ?_⟩
 ·
  have h1:i < len:=by simpa using h0
  simpa using (hF i h1).2.1
 obtain ⟨i,hi2,rfl⟩:=List.mem_map.1 hm;exact (hF i (by simpa using hi2)).2.2
theorem aIy (N:Nat) (cs:List Value) (D:DataW H) (Q:List MemPlace) (hl:cs.length=10)
  (h:DataW.trod enc Tryz.prog w base spare held N 71 cs=some (D,Q)) (hs:Sz 71 D):∃ (x:ay) (vs vm:Value),cs=Pq x vs vm∧jc w w.heap.size x vs vm∧x.syms.length≤6000000000000∧x.ah.length≤6000000000000∧∀ m ∈ x.ah,aqH m.dflt≤Rows.uptoBulk D:=by
 obtain ⟨xs,n,rfl,hx,_,hxl,hg⟩:=DataW.trod_struct Tryz.underlying71 h;obtain ⟨c0,c1,c2,c3,c4,c5,c6,c7,c8,c9,rfl⟩ : ∃ c0 c1 c2 c3 c4 c5 c6 c7 c8 c9,cs = [c0,c1,c2,c3,c4,c5,c6,c7,c8,c9]:=by
  match cs,hl with
  | [c0,c1,c2,c3,c4,c5,c6,c7,c8,c9],_ => exact ⟨c0,c1,c2,c3,c4,c5,c6,c7,c8,c9,rfl⟩
 match xs,hxl with
 | [y0,y1,y2,y3,y4,y5,y6,y7,y8,y9],_ =>
  injection hx with hx1 hx2;have k0:Tryz.prog.cellsOf 3=1:=by kernel_rfl
  have h0:DataW.trod enc Tryz.prog w base spare held n 3 (([c0,c1,c2,c3,c4,c5,c6,c7,c8,c9].drop 0).take (Tryz.prog.cellsOf 3))=some y0:=hg 0 _ rfl;rw [k0] at h0;have k1:Tryz.prog.cellsOf 9=1:=by kernel_rfl
  have h1:DataW.trod enc Tryz.prog w base spare held n 9 (([c0,c1,c2,c3,c4,c5,c6,c7,c8,c9].drop 1).take (Tryz.prog.cellsOf 9))=some y1:=hg 1 _ rfl;rw [k1] at h1;have k2:Tryz.prog.cellsOf 2=1:=by kernel_rfl
  have h2:DataW.trod enc Tryz.prog w base spare held n 2 (([c0,c1,c2,c3,c4,c5,c6,c7,c8,c9].drop 2).take (Tryz.prog.cellsOf 2))=some y2:=hg 2 _ rfl;rw [k2] at h2;have k3:Tryz.prog.cellsOf 2=1:=by kernel_rfl
  have h3:DataW.trod enc Tryz.prog w base spare held n 2 (([c0,c1,c2,c3,c4,c5,c6,c7,c8,c9].drop 3).take (Tryz.prog.cellsOf 2))=some y3:=hg 3 _ rfl;rw [k3] at h3;have k4:Tryz.prog.cellsOf 3=1:=by kernel_rfl
  have h4:DataW.trod enc Tryz.prog w base spare held n 3 (([c0,c1,c2,c3,c4,c5,c6,c7,c8,c9].drop 4).take (Tryz.prog.cellsOf 3))=some y4:=hg 4 _ rfl;rw [k4] at h4;have k5:Tryz.prog.cellsOf 68=1:=by kernel_rfl
  have h5:DataW.trod enc Tryz.prog w base spare held n 68 (([c0,c1,c2,c3,c4,c5,c6,c7,c8,c9].drop 5).take (Tryz.prog.cellsOf 68))=some y5:=hg 5 _ rfl;rw [k5] at h5;have k6:Tryz.prog.cellsOf 69=1:=by kernel_rfl
  have h6:DataW.trod enc Tryz.prog w base spare held n 69 (([c0,c1,c2,c3,c4,c5,c6,c7,c8,c9].drop 6).take (Tryz.prog.cellsOf 69))=some y6:=hg 6 _ rfl;rw [k6] at h6;have k7:Tryz.prog.cellsOf 3=1:=by kernel_rfl
  have h7:DataW.trod enc Tryz.prog w base spare held n 3 (([c0,c1,c2,c3,c4,c5,c6,c7,c8,c9].drop 7).take (Tryz.prog.cellsOf 3))=some y7:=hg 7 _ rfl;rw [k7] at h7;have k8:Tryz.prog.cellsOf 3=1:=by kernel_rfl
  have h8:DataW.trod enc Tryz.prog w base spare held n 3 (([c0,c1,c2,c3,c4,c5,c6,c7,c8,c9].drop 8).take (Tryz.prog.cellsOf 3))=some y8:=hg 8 _ rfl;rw [k8] at h8;have k9:Tryz.prog.cellsOf 4=1:=by kernel_rfl
  have h9:DataW.trod enc Tryz.prog w base spare held n 4 (([c0,c1,c2,c3,c4,c5,c6,c7,c8,c9].drop 9).take (Tryz.prog.cellsOf 4))=some y9:=hg 9 _ rfl;rw [k9] at h9;obtain ⟨n0,e0,_,w0⟩:=DataW.trod_int Tryz.underlying3 h0;obtain ⟨s1,e1,e1',_⟩:=DataW.trod_string Tryz.underlying9 h1;obtain ⟨n2,e2,_,w2⟩:=DataW.trod_int Tryz.underlying2 h2;obtain ⟨n3,e3,_,w3⟩:=DataW.trod_int Tryz.underlying2 h3;obtain ⟨n4,e4,_,w4⟩:=DataW.trod_int Tryz.underlying3 h4;obtain ⟨n7,e7,_,w7⟩:=DataW.trod_int Tryz.underlying3 h7;obtain ⟨n8,e8,_,w8⟩:=DataW.trod_int Tryz.underlying3 h8;obtain ⟨n9,e9,_⟩:=DataW.trod_bool Tryz.underlying4 h9;subst hx1;have sz1:=Sz.field hs Tryz.underlying71 (i:=1) rfl rfl;have sz5:=Sz.field hs Tryz.underlying71 (i:=5) rfl rfl;have sz6:=Sz.field hs Tryz.underlying71 (i:=6) rfl rfl;obtain ⟨vs,ss,es,ls,gs,rs⟩:=open_list Tryz.underlying68 (size:=2) (by kernel_rfl) (by decide) Jl h5 sz5 (good:=yR) (fun N cs' D Q hl ht hsz => aIJ N cs' D Q hl ht hsz);have hbb:Tryz.prog.bytesOf 105=24:=by kernel_rfl
  rw [hbb] at ls;obtain ⟨vm,ms,em,lm,rm,hqm⟩:=aH1 h6 sz6;have z6:=aw9 (H:=H) (parts:=[y0,y1,y2,y3,y4,y5,y6,y7,y8,y9]) (y:=y6) (by simp);simp only [List.drop,List.take,List.cons.injEq,and_true] at e0 e1 e2 e3 e4 e7 e8 e9 es em;subst e0 e1 e2 e3 e4 e7 e8 e9 es em;obtain ⟨l1,rfl,aII⟩:=azu s1;have hsl1:l1.length≤140737488351232:=by
   rw [e1'] at sz1;simpa using sz1.str
  exact ⟨⟨n0,l1,n2,n3,n4,ss,ms,n7,n8,n9⟩,_,_,rfl,⟨⟨wf_i64 w0,wf_i64 w2,wf_i64 w3,wf_i64 w4,wf_i64 w7,wf_i64 w8⟩,hsl1,⟨by show ss.length≤_;omega,by show ms.length≤_;omega⟩,gs,rs,rm⟩,by show ss.length≤_;omega,lm,fun m hm => by have:=hqm m hm;omega⟩
theorem aH2 {fuel:Nat} {cs:List Value} {x:DataW H × List MemPlace} (h:DataW.trod enc Tryz.prog w base spare held fuel 23 cs=some x) (hs:Sz 23 x.1) :
  ∃ (v:Value) (xs:List ay),cs = [v]∧xs.length≤140737488351232∧aU w w.heap.size v xs∧Sizes xs∧∀ y ∈ xs,∀ m ∈ y.ah,aqH m.dflt≤Rows.uptoBulk x.1:=by
 obtain ⟨A,len,cap,rfl,hl,hb,hrow⟩:=aB8 Tryz.underlying23 (size:=10) (by kernel_rfl) (by decide) h hs;have hbb:0 < Tryz.prog.bytesOf 71:=by
  rw [show Tryz.prog.bytesOf 71=120 by kernel_rfl];omega
 have hlen:len≤140737488351232:=Nat.le_trans (Nat.le_mul_of_pos_right _ hbb) hb;rcases hrow with rfl | ⟨b,o,rfl,hlt,N,D,Pl,hall,hi⟩
 · exact ⟨_,[],rfl,by simp,⟨fun _ => [],⟨A,cap,rfl,hl,.inl rfl⟩,fun i h => by simp at h⟩,fun x hx => by simp at hx,fun x hx => by simp at hx⟩
 have hex:∀ i:Nat,∃ p:ay × List Value,i < len→(∀ j u,p.2[j]?=some u→w.cell? ⟨b,o+i*10+j,none⟩=some u)∧∃ vs vm,p.2=Pq p.1 vs vm∧jc w w.heap.size p.1 vs vm∧p.1.syms.length≤6000000000000∧p.1.ah.length≤6000000000000∧∀ m ∈ p.1.ah,aqH m.dflt≤Rows.uptoBulk x.1:=by
  intro i;by_cases h0:i < len
  ·
   obtain ⟨cs',h1,h2,h3,h4,h5⟩:=hi i h0;obtain ⟨y,vs,vm,hy,hn,hs1,hm1,hq1⟩:=aIy N cs' (D i) (Pl i) h1 h3 h4;exact ⟨(y,cs'),fun _ => ⟨h2,vs,vm,hy,hn,hs1,hm1,fun m hm => by have:=hq1 m hm;omega⟩⟩
  exact ⟨(iC,[]),fun h => absurd h h0⟩
 obtain ⟨F,hF⟩:=Classical.axiomOfChoice hex;refine ⟨_,(List.range len).map (fun i => (F i).1),rfl,by simpa using hlen,⟨fun i => (F i).2,⟨_,cap,by simp,by simpa using hl,.inr ⟨b,o,rfl,hlt,fun i h0 => (hF i (by simpa using h0)).1⟩⟩,fun i h0 => ?_⟩,fun x hx => ?_,fun x hx m hm => ?_⟩
 ·
  have h1:i < len:=by simpa using h0
  obtain ⟨vs,vm,h2,h3,_⟩:=(hF i h1).2;exact ⟨vs,vm,by simpa using h2,by simpa using h3⟩
 ·
  obtain ⟨i,hi2,rfl⟩:=List.mem_map.1 hx;obtain ⟨vs,vm,h2,h3,h4⟩:=(hF i (by simpa using hi2)).2;exact ⟨h4.1,h4.2.1⟩
 obtain ⟨i,hi2,rfl⟩:=List.mem_map.1 hx;obtain ⟨vs,vm,h2,h3,h4,h5,h6⟩:=(hF i (by simpa using hi2)).2;exact h6 m hm
end
section
variable {H:Type} {enc:TypeId × Value→H} {w:World} {base:Nat} {spare:Nat→Bool} {held:Bool}
theorem aH5 (N:Nat) (cs:List Value) (D:DataW H) (Q:List MemPlace) (hl:cs.length=2)
  (h:DataW.trod enc Tryz.prog w base spare held N 27 cs=some (D,Q)) (hs:Sz 27 D) :
  ∃ (ts:List ay) (A:Option Addr) (c:Nat) (t:Int),cs = [.slice A ts.length c,.int .i64 t]∧Sizes ts∧I64 t∧(∀ y ∈ ts,∀ m ∈ y.ah,aqH m.dflt≤Rows.uptoBulk D)∧aU w w.heap.size (.slice A ts.length c) ts:=by
 obtain ⟨xs,n,rfl,hx,_,hxl,hg⟩:=DataW.trod_struct Tryz.underlying27 h;obtain ⟨c0,c1,rfl⟩ : ∃ c0 c1,cs = [c0,c1]:=by
  match cs,hl with
  | [c0,c1],_ => exact ⟨c0,c1,rfl⟩
 match xs,hxl with
 | [y0,y1],_ =>
  injection hx with hx1 hx2;have k0:Tryz.prog.cellsOf 25=1:=by kernel_rfl
  have k1:Tryz.prog.cellsOf 3=1:=by kernel_rfl
  have h0:DataW.trod enc Tryz.prog w base spare held n 25 (([c0,c1].drop 0).take (Tryz.prog.cellsOf 25))=some y0:=hg 0 _ rfl;have h1:DataW.trod enc Tryz.prog w base spare held n 3 (([c0,c1].drop 1).take (Tryz.prog.cellsOf 3))=some y1:=hg 1 _ rfl;rw [k0] at h0;rw [k1] at h1;subst hx1;have sz0:=Sz.field hs Tryz.underlying27 (i:=0) rfl rfl;have q0:=aw9 (H:=H) (parts:=[y0,y1]) (y:=y0) (by simp);obtain ⟨n1,e1,_,w1⟩:=DataW.trod_int Tryz.underlying3 h1;obtain ⟨zs,n',rfl,hz,_,hzl,hg2⟩:=DataW.trod_struct Tryz.underlying25 h0
  match zs,hzl with
  | [z0],_ =>
   have hz1:y0.1=DataW.agg ([z0].map (·.1)):=by rw [hz]
   have k2:Tryz.prog.cellsOf 23=1:=by kernel_rfl
   have h2:DataW.trod enc Tryz.prog w base spare held n' 23 (((([c0,c1].drop 0).take 1).drop 0).take (Tryz.prog.cellsOf 23))=some z0:=hg2 0 _ rfl;rw [k2] at h2;have sz1:Sz 25 (DataW.agg ([z0].map (·.1))):=by rw [← hz1];exact sz0
   have sz2:=Sz.field sz1 Tryz.underlying25 (i:=0) rfl rfl;have q1:=aw9 (H:=H) (parts:=[z0]) (y:=z0) (by simp);rw [← hz1] at q1;obtain ⟨vn,ts,e,_,r,hz2,hq2⟩:=aH2 h2 sz2;obtain ⟨A,c,rfl,_⟩:=r.form;simp only [List.drop,List.take,List.cons.injEq,and_true] at e e1;subst e e1;exact ⟨ts,A,c,n1,rfl,hz2,wf_i64 w1,fun y hy m hm => by have:=hq2 y hy m hm;omega,r⟩
end
theorem aGr {H:Type} {enc:TypeId × Value→H} {W:World} {base0:Nat} {v:Value} {d:DataW H} {p:List MemPlace} (hv:Value.okWide Tryz.prog W .any base0 27 v) (h:DataW.Trod enc Tryz.prog W 0 (fun _ => true) true 27 v d p) (hs:Sz 27 d) :
  ∃ (ts:List ay) (A:Option Addr) (c:Nat) (t:Int),v = .agg #[.slice A ts.length c,.int .i64 t]∧Sizes ts∧I64 t∧(∀ y ∈ ts,∀ m ∈ y.ah,aqH m.dflt≤Rows.uptoBulk d)∧aU W W.heap.size (.slice A ts.length c) ts:=by
 obtain ⟨cs,rfl,hsz⟩:=okWide_struct Tryz.underlying27 hv;obtain ⟨fuel,hf⟩:=h;have hC:Tryz.prog.cellsOf 27=2:=by kernel_rfl
 have hl:cs.toList.length=2:=by simpa [hC] using hsz
 obtain ⟨ts,A,c,t,e,h1,h2,h3,h4⟩:=aH5 fuel _ d p hl hf hs;refine ⟨ts,A,c,t,?_,h1,h2,h3,h4⟩
 congr 1
 apply Array.toList_inj.1
 exact e
theorem aH3 {ts:List ay} (hv:fF ts=0) {t:Nat} (ht:t < ts.length) {K:Nat} (h:∀ x ∈ ts,∀ m ∈ x.ah,aqH m.dflt≤K):∀ y ∈ jk ts t,∀ m ∈ y.ah,aqH m.dflt≤K:=by
 intro y hy m hm;obtain ⟨n,hn⟩:=List.mem_iff_getElem?.1 hy;obtain ⟨a,x,_,hx,rfl⟩:=aqN hv ht hn;obtain ⟨q,hq,rfl⟩:=List.mem_map.1 (show m ∈ x.ah.map (aoc _) from hm);exact h x (List.mem_of_getElem? hx) q hq
theorem aGe {ts:List ay} (hv:fF ts=0) (hb:∀ x ∈ ts,∀ m ∈ x.ah,aqH m.dflt≤1048576):(Lp ts).length≤1000000000000:=by
 have hg:=akN hv;have h1:(ts.flatMap dF).length≤31000*ts.length:=aor _ _ _ fun x hx => aAB (avm ((ni hv).2 x hx).1) (hg.ah x hx);have h2:(ts.flatMap (BX ts)).length≤10485760000*ts.length:=aor _ _ _ fun x hx => by
  have h3:(BX ts x).length≤10485760*x.ah.length:=aor _ _ _ fun m hm => by
   unfold Ap;split
   ·
    have h4:=aAQ ts m.dflt m.ty;have:=hb x hx m hm;omega
   simp
  have:=hg.ah x hx;omega
 have h3:=agu ts.length;have h4:=(ni hv).1;unfold Lp;rw [List.length_append,List.length_append];omega
def aDS (ts:List ay):Prop := ∀ x ∈ ts,∀ m ∈ x.ah,aqH m.dflt≤1048576
theorem aB9 {ts:List ay} {t:Int} (h:aDS ts) (hr:gV ts t=0):(Lp (jk ts t.toNat)).length≤1000000000000:=by
 obtain ⟨hv,h0,hl⟩:=aro hr;have ht:t.toNat < ts.length:=by omega
 exact aGe (akP hv ht) (aH3 hv ht h)
theorem aGf {ts:List ay} {t:Int} (h:aDS ts):(aj2 ts t).1.length≤1000000000000:=by
 unfold aj2;by_cases hr:gV ts t=0
 ·
  rw [if_neg (by simpa using hr)];split
  · simp
  exact aB9 h hr
 rw [if_pos hr];simp
end Go.Proofs.YtlamhkffnlgofaaGreatDoor
namespace Go.Proofs.YtlamhkffnlgofaaGreatDoor
open Go.ChangeShapes Go.WideShapes Go.ChangeAt Go.RowKit
theorem aH4 {w:World} {B:Nat} {v:Value} {ts:List ay} (h:aU w B v ts):akg ts:=by
 intro x hx;obtain ⟨k,hk,rfl⟩:=List.getElem_of_mem hx;obtain ⟨A,c,rfl,_⟩:=h.form;obtain ⟨b,o,_,_,hel⟩:=h.elem (by omega);obtain ⟨vs,vm,_,hat⟩:=hel k hk;exact ⟨hat.ints.2.1,hat.ints.2.2.1⟩
theorem aJ3 {ts:List ay} {t:Int} (hs:Sizes ts) (hI:akg ts) (hsm:aDS ts) {w:World} (hp:aj0 w) {A:Option Addr} {c:Nat} (ht:aU w w.heap.size (.slice A ts.length c) ts) :
  Calls Tryz.prog 22 #[.agg #[.slice A ts.length c,.int .i64 t]] w fun e w' => e = .returned (.tuple #[.string ⟨(aj2 ts t).1.toArray⟩,.int .i64 (aj2 ts t).2])∧Below w.heap.size w w' :=
 ayD ts A c t w hs ht hp hI (fun hr _ => aB9 hsm hr) (fun hr hD => by
  obtain ⟨hv,h0,hl⟩:=aro hr;have hl2:t.toNat < ts.length:=by omega
  exact aGi (akP hv hl2) (ari hv hl2 hI) hD)
theorem aFY (ts:List ay) (A:Option Addr) (c:Nat) (t:Int) (w:World) (hs:Sizes ts) (hr:gV ts t≠0) (ht:aU w w.heap.size (.slice A ts.length c) ts) :
  Calls Tryz.prog 29 #[.agg #[.slice A ts.length c,.int .i64 t]] w (at7 ts t w):=by
 have HT:=hiQ ht;have H1:=hiQ (fun W h => atY ts A c t W hs h);have hpost:∀ w',Below w.heap.size w w'→at7 ts t w (.returned (.tuple #[.agg #[.slice none 0 0,.int .i64 0],.int .i64 (gV ts t)])) w':=fun w' h => ⟨h,.inl ⟨hr,rfl⟩⟩
 have Xb:=hiQ hpost;have t1:(gV ts t == 0)=false:=by simpa using hr
 clear ht hs hr hpost;generalize gV ts t=re at *;go_enter Tryz.func29,Tryz.ntmps29
 go_upto_region 1 with fail;refine jg (fun wd2 hb1 R Z => ?_);have hw3:=hb1;clear hb1;obtain ⟨iV,iW⟩:=R.out.c2;go_wp2_with fail;clear iV iW;((with_reducible refine (H1.out _ (HT.out.on hw3)).mono ?_);rintro e wd4 ⟨rfl,hb5⟩);obtain ⟨R,Z⟩:=b2 R Z hb5;replace hw3:=dT hw3 hb5;clear hb5;go_wp2_with (refine sR Z.out ?_)
 generalize mP:wd4.setRow _ _=wL;replace R:=f1 R (eR mP);replace Z:=dV Z mP;replace hw3:=tr hw3 mP;clear mP;exact bodyPost_ret (v:=.tuple #[.agg #[.slice none 0 0,.int .i64 0],.int .i64 re]) (by simp [results,Tryz.results29,go_sem,Z.out.c2]) rfl (Xb.out _ hw3)
theorem aIF (ts:List ay) (A:Option Addr) (c:Nat) (t:Int) (w:World) (hs:Sizes ts) (ht:aU w w.heap.size (.slice A ts.length c) ts) (hp:aj0 w) :
  Calls Tryz.prog 29 #[.agg #[.slice A ts.length c,.int .i64 t]] w (at7 ts t w):=by
 by_cases hr:gV ts t=0
 ·
  obtain ⟨hv,h0,hl⟩:=aro hr;obtain ⟨i,rfl⟩ : ∃ i:Nat,t=(i:Int):=⟨t.toNat,by omega⟩
  exact aFW ts A c i w hs hv (by omega) ht hp
 exact aFY ts A c t w hs hr ht
theorem aIK {ts:List ay} {t:Int} (hs:Sizes ts) (hI:akg ts) (hsm:aDS ts) {w:World} (hp:aj0 w) {A:Option Addr} {c:Nat} (ht:aU w w.heap.size (.slice A ts.length c) ts) :
  Calls Tryz.prog 23 #[.agg #[.slice A ts.length c,.int .i64 t]] w fun e w' => e = .returned (.tuple #[.string ⟨(aj2 ts t).1.toArray⟩,.int .i64 (aj2 ts t).2])∧Below w.heap.size w w' :=
 aGj ts A c t w hI (fun W2 h => aIF ts A c t W2 hs (ht.on h) (hp.on h)) (fun hr => aB9 hsm hr)
end Go.Proofs.YtlamhkffnlgofaaGreatDoor
namespace Go.Proofs.YtlamhkffnlgofaaGreatDoor
open Go.ChangeShapes Go.WideShapes Go.ChangeAt Go.RowKit Go.Joins
theorem aI6 {H:Type} {enc:TypeId × Value→H} {w:World} {base:Nat} {spare:Nat→Bool} {held:Bool} {α:Type} {good:α→Prop} {f:α→List Value}
  {t e:TypeId} {size fuel:Nat} {cs:List Value} {x:DataW H × List MemPlace} (ht:Tryz.prog.underlying t=some (.slice e)) (hC:Tryz.prog.cellsOf e=size) (hpos:0 < size) (hf:∀ a,(f a).length=size)
  (h:DataW.trod enc Tryz.prog w base spare held fuel t cs=some x) (hs:Sz t x.1)
  (hel:∀ (N:Nat) (cs':List Value) (D:DataW H) (Q:List MemPlace),cs'.length=size→DataW.trod enc Tryz.prog w base spare held N e cs'=some (D,Q)→Sz e D→Rows.uptoBulk D < Rows.uptoBulk x.1→∃ a,cs'=f a∧good a) :
  ∃ (v:Value) (xs:List α),cs = [v]∧xs.length*Tryz.prog.bytesOf e≤140737488351232∧(∀ a ∈ xs,good a)∧Rd w w.heap.size size v xs.length (xs.flatMap f):=by
 obtain ⟨A,len,cap,rfl,hl,hb,hrow⟩:=aB8 ht hC hpos h hs;rcases hrow with rfl | ⟨b,o,rfl,hlt,N,D,Pl,hbk,hi⟩
 · exact ⟨_,[],rfl,by simp,by simp,by simp,A,cap,rfl,hl,.inl rfl⟩
 have hex:∀ i,i < len→∃ a,good a∧∀ j u,(f a)[j]?=some u→w.cell? ⟨b,o+i*size+j,none⟩=some u:=fun i h0 => by
  obtain ⟨cs',h1,h2,h3,h4,h5⟩:=hi i h0;obtain ⟨a,rfl,hg⟩:=hel N cs' (D i) (Pl i) h1 h3 h4 h5;exact ⟨a,hg,h2⟩
 exact zCd
structure RtC where
 ts:List ay
 A:Option Addr
 c:Nat
 t:Int
def rtV (x:RtC):List Value:=[.slice x.A x.ts.length x.c,.int .i64 x.t]
def RtC.rt (x:RtC):OB:=(x.ts,x.t)
theorem aHj {H:Type} {enc:TypeId × Value→H} {W:World} {base0:Nat} {v:Value} {d:DataW H} {p:List MemPlace} (hv:Value.okWide Tryz.prog W .any base0 22 v) (h:DataW.Trod enc Tryz.prog W 0 (fun _ => true) true 22 v d p) (hs:Sz 22 d) :
  ∃ (rs:List OB) (cs:List Value),rs.length≤140737488351232∧(∀ x ∈ rs,Sizes x.1)∧(∀ x ∈ rs,∀ y ∈ x.1,∀ m ∈ y.ah,aqH m.dflt≤Rows.uptoBulk d)∧Rd W W.heap.size 2 v rs.length cs∧AV W W.heap.size cs rs:=by
 obtain ⟨fuel,hf⟩:=h;obtain ⟨A,n,c,rfl⟩:=okWide_slice Tryz.underlying22 hv;obtain ⟨v',xs,e,hlen,hg,hr⟩:=aI6 Tryz.underlying22 (size:=2) (f:=rtV) (good:=fun x => Sizes x.ts∧(∀ y ∈ x.ts,∀ m ∈ y.ah,aqH m.dflt≤Rows.uptoBulk d)∧aU W W.heap.size (.slice x.A x.ts.length x.c) x.ts) (by kernel_rfl) (by decide) (fun _ => rfl) hf hs (fun N cs' D Q hl ht hsz hb => by
  obtain ⟨ts,A,c,t,e,h1,_,h3,h4⟩:=aH5 N cs' D Q hl ht hsz;exact ⟨⟨ts,A,c,t⟩,e,h1,fun y hy m hm => by have:=h3 y hy m hm;have hb':Rows.uptoBulk D < Rows.uptoBulk d:=hb;omega,h4⟩)
 have hbb:0 < Tryz.prog.bytesOf 27:=by
  rw [show Tryz.prog.bytesOf 27=32 by kernel_rfl];omega
 have hlen2:xs.length≤140737488351232:=Nat.le_trans (Nat.le_mul_of_pos_right _ hbb) hlen;obtain rfl:(Value.slice A n c)=v':=by simpa [Value.cells] using e
 refine ⟨xs.map RtC.rt,xs.flatMap rtV,by rw [List.length_map];exact hlen2,fun x hx => ?_,fun x hx => ?_,by rw [List.length_map];exact hr,?_,fun k hk => ?_⟩
 ·
  obtain ⟨y,hy,rfl⟩:=List.mem_map.1 hx;exact (hg y hy).1
 ·
  obtain ⟨y,hy,rfl⟩:=List.mem_map.1 hx;exact (hg y hy).2.1
 · rw [List.length_map];exact VN (size:=2) (fun _ => rfl) xs
 have hk2:k < xs.length:=by simpa using hk
 have e1:=flat_get (f:=rtV) (size:=2) (fun _ => rfl) xs k 0 hk2 (by decide);have e2:=flat_get (f:=rtV) (size:=2) (fun _ => rfl) xs k 1 hk2 (by decide);have e3:=(hg _ (List.getElem_mem hk2)).2.2;simp only [List.getElem_map];exact ⟨xs[k].A,xs[k].c,e1,e2,e3⟩
end Go.Proofs.YtlamhkffnlgofaaGreatDoor
