/-
 A part of the proof. No condition.
-/
import Derived.Shelf.Strings.Builder1
import Derived.Test.YtbigdcimbhgjbaaGreatDoorSc
import Derived.Test.YtbigdcimbhgjbaaGreatDoorKa
namespace Go.Proofs.YtbigdcimbhgjbaaGreatDoor
open Go.Proofs Go.Shelf Go.RowKit
set_option maxRecDepth 100000
theorem MJ{P:Program}{w:World}{t u ty e:TypeId}{i:TypeInfo}(ht:P.underlying t=some (.slice e))(hu:P.underlying u=some .string)(hi:P.info? e=some i)(hz:i.zero=some (.int .u8 0))(hsize:i.size=1)(hby:i.bytes=1)
  {v:Value} {n:Nat} {xs:List Value} (hown:w.ownsRow 0 e 1 v n xs) (s:ByteArray) (h63:n+s.size<=maxLen) (hbytes:n+s.size<=140737488355328) :
  ∃ v' w',(Builtin.append_ #[t,u] ty #[v,.string s]).run P w= .ok v' w'/\w'.ownsRow 0 e 1 v' (n+s.size) (xs++Lib.strCells s)/\w.grownBy w' v.ownBlock/\w.drawn<=w'.drawn/\ ∀ k,v'.ownBlock=some k->v.ownBlock=some k\/w.heap.size<=k:=by
 obtain⟨v',w',hr,h1,h2,h3⟩:=Lib.run_append_own_string (P:=P) w 0 t u ty e i ht hu hi hz hsize hby v n xs hown s h63 hbytes (Nat.zero_le _)
 refine⟨v',w',hr,h1,h2,?_⟩
 have hsmall:n+s.size<=9223372036854775807:=by simp only[maxLen] at h63; omega
 have hxl:xs.length=n:=by simpa using hown.1
 rcases hown.2 with ⟨rfl,rfl⟩|⟨g,cap,cur,rfl,hbg,hg,hnc,hcm,hcs,htake⟩
 ·by_cases hm:s.size=0
  ·rw[h3.2 ⟨rfl,hm⟩] at hr ⊢
   refine⟨?_,fun k hk=>by cases hk⟩
   have hf:=Lib.run_firstCells_string (P:=P) w 1 s
   rw[hm] at hf
   simp[Builtin.append_,run_underlying ht,run_underlying hu,sizeOf,typeInfo,hi,hsize,Builtin.lenOf,hm,hf] at hr
   rw[hr]; exact Nat.le_refl _
  ·have hr2:=run_append_nil_string (P:=P) w t u ty e i (.int .u8 0) ht hu hi hz s (by omega) (by omega) (by rw[hby]; omega)
   rw[hr2] at hr
   simp only[Result.ok.injEq] at hr
   obtain⟨rfl,rfl⟩:=hr
   exact⟨Nat.le_succ _,fun k hk=>.inr (by simp[Value.ownBlock] at hk; omega)⟩
 ·by_cases hroom:n+s.size<=cap
  ·have hcs':cur.size=cap:=by simpa using hcs
   have hr2:=Lib.run_append_room_string (P:=P) w t u ty e i ht hu hi hsize g n cap cur hg s hroom (by omega)
   rw[hr2] at hr
   simp only[Result.ok.injEq] at hr
   obtain⟨rfl,rfl⟩:=hr
   exact⟨Nat.le_refl _,fun k hk=>.inl hk⟩
  ·have holds: ∀ j u,xs[j]? =some u->w.cell? ((⟨g,0,none⟩:Addr).add j)=some u:=hown.cells (g:=g) rfl
   have hr2:=Lib.run_append_grow_string (P:=P) w t u ty e i (.int .u8 0) ht hu hi hz ⟨g,0,none⟩ n cap xs (by rw[hsize]; simpa using hxl) holds s (by omega) (by omega) (by rw[hby]; exact growslice_fits (by omega) (by omega))
   rw[hr2] at hr
   simp only[Result.ok.injEq] at hr
   obtain⟨rfl,rfl⟩:=hr
   exact⟨Nat.le_succ _,fun k hk=>.inr (by simp[Value.ownBlock] at hk; omega)⟩
def uy(w:World)(e:TypeId)(v:Value)(xs:List Value):Prop :=
 (∃ a,v= .slice a 0 0/\xs=[])\/ ∃ g c cur,v= .slice (some ⟨g,0,none⟩) xs.length (c+1)/\xs.length<=c+1/\c+1<=maxLen/\w.heap[g]? =some (.cells cur e (0,0))/\cur.size=c+1/\cur.toList.take xs.length=xs
def uz:Value->Option Nat
 | .slice (some a) _ (_+1)=>some a.block
 |_=>none
theorem MK{v:Value}{k:Nat}(h:uz v=some k):v.ownBlock=some k:=by
 unfold uz at h
 split at h
 ·cases h; rfl
 ·cases h
theorem uy.own{w:World}{e:TypeId}{v:Value}{xs:List Value}(h:uy w e v xs)(h0: ∀ a,v≠ .slice (some a) 0 0):w.ownsRow 0 e 1 v xs.length xs:=by
 refine⟨(Nat.mul_one _).symm,?_⟩
 rcases h with ⟨a,rfl,rfl⟩|⟨g,c,cur,rfl,h1,h2,h3,h4,h5⟩
 ·cases a with
  |none=>exact .inl ⟨rfl,rfl⟩
  |some a=>exact absurd rfl (h0 a)
 ·exact .inr ⟨g,c+1,cur,rfl,Nat.zero_le _,h3,h1,h2,by rw[h4,Nat.mul_one],by rw[Nat.mul_one]; exact h5⟩
theorem uy.of{w:World}{e:TypeId}{v:Value}{xs:List Value}(h:w.ownsRow 0 e 1 v xs.length xs):uy w e v xs:=by
 rcases h.2 with ⟨rfl,h1⟩|⟨g,cap,cur,rfl,_,h1,h2,h3,h4,h5⟩
 ·exact .inl ⟨none,rfl,List.eq_nil_of_length_eq_zero h1⟩
 ·cases cap with
  |zero =>
   have hx:xs=[]:=List.eq_nil_of_length_eq_zero (by omega)
   subst hx
   exact .inl ⟨_,rfl,rfl⟩
  |succ c=>exact .inr ⟨g,c,cur,rfl,h2,h3,h1,by rw[h4,Nat.mul_one],by rw[<- Nat.mul_one xs.length]; exact h5⟩
theorem uy.kept{w w':World}{e:TypeId}{v:Value}{xs:List Value}(h:uy w e v xs)(hk: ∀ g,uz v=some g->w'.heap[g]? =w.heap[g]?):uy w' e v xs:=by
 rcases h with h|⟨g,c,cur,rfl,h1,h2,h3,h4,h5⟩
 ·exact .inl h
 ·exact .inr ⟨g,c,cur,rfl,h1,h2,by rw[hk g rfl]; exact h3,h4,h5⟩
theorem uy.ne{w:World}{e T:TypeId}{v:Value}{xs:List Value}{b:Nat}{cs:Array Value}{fr:Nat×Nat}(h:uy w e v xs)(hb:w.heap[b]? =some (.cells cs T fr))(hne:T≠e):uz v≠some b:=by
 rcases h with ⟨a,rfl,rfl⟩|⟨g,c,cur,rfl,h1,h2,h3,h4,h5⟩
 ·cases a<;>exact fun h=>by cases h
 ·intro hq; cases hq; rw[h3] at hb; cases hb; exact hne rfl
theorem ML{P:Program}{w:World}{t u ty e:TypeId}{i:TypeInfo}(ht:P.underlying t=some (.slice e))(hu:P.underlying u=some .string)(hi:P.info? e=some i)(hz:i.zero=some (.int .u8 0))(hsize:i.size=1)(hby:i.bytes=1)
  {v:Value} {xs:List Value} (hown:uy w e v xs) (s:ByteArray) (hbytes:xs.length+s.size<=140737488355328) :
  ∃ v' w',(Builtin.append_ #[t,u] ty #[v,.string s]).run P w= .ok v' w'/\uy w' e v' (xs++Lib.strCells s)/\w.grownBy w' (uz v)/\w.drawn<=w'.drawn/\ ∀ k,uz v'=some k->uz v=some k\/w.heap.size<=k:=by
 have h63:xs.length+s.size<=maxLen:=by unfold maxLen; omega
 have hlen:(xs++Lib.strCells s).length=xs.length+s.size:=by rw[List.length_append,Lib.strCells_length]
 by_cases h0: ∃ a,v= .slice (some a) 0 0
 ·obtain⟨a,rfl⟩:=h0
  have hx:xs=[]:=by
   rcases hown with ⟨_,_,h⟩|⟨g,c,cur,h,_⟩
   ·exact h
   ·simp at h
  subst hx
  by_cases hm:s.size=0
  ·have hn:Lib.strCells s=[]:=List.eq_nil_of_length_eq_zero (by rw[Lib.strCells_length]; exact hm)
   refine⟨.slice (some a) 0 0,w,?_,by rw[hn]; exact .inl ⟨_,rfl,rfl⟩,⟨rfl,rfl,rfl,Nat.le_refl _,fun _ _ _=>rfl⟩,Nat.le_refl _,fun k hk=>by cases hk⟩
   have hf:=Lib.run_firstCells_string (P:=P) w 1 s
   rw[hm] at hf
   simp[Builtin.append_,run_underlying ht,run_underlying hu,sizeOf,typeInfo,hi,hsize,Builtin.lenOf,hm,hf,hn,storeCells]
  ·have hr:=Lib.run_append_grow_string (P:=P) w t u ty e i (.int .u8 0) ht hu hi hz a 0 0 [] (by simp) (fun j u h=>by simp at h) s (by omega) (by simp only[maxLen] at h63; simp at h63 ⊢; omega) (by rw[hby]; exact growslice_fits (by simp at hbytes; omega) (by omega))
   have hge:=grownCap_ge w (0+s.size) 0 e
   have hcm:=grownCap_le_maxLen w (0+s.size) 0 e (by simpa using h63)
   refine⟨_,_,hr,?_,⟨rfl,rfl,rfl,by simp,fun k hk _=>Lib.alloc_old w.drew _ k hk⟩,Nat.le_succ _,fun k hk=>.inr ?_⟩
   ·rw[List.nil_append]
    refine uy.of ⟨(Nat.mul_one _).symm,.inr ⟨w.heap.size,_,_,?_,Nat.zero_le _,heap_alloc_new w.drew _,?_,hcm,?_,?_⟩⟩
    ·rw[Lib.strCells_length,Nat.zero_add]
    ·rw[Lib.strCells_length]; omega
    ·have hz1:(Value.int IntKind.u8 0).cells.size=1:=rfl
     simp only[Array.size_append,List.size_toArray,size_zeroCells,hz1,Lib.strCells_length,List.length_nil]
     omega
    ·simp only[Array.toList_append,Nat.mul_one,List.nil_append]
     exact List.take_left
   ·have:=MK hk; simp[Value.ownBlock] at this; omega
 ·have hno: ∀ a,v≠ .slice (some a) 0 0:=fun a h=>h0 ⟨a,h⟩
  have hR:v.ownBlock=uz v:=by
   rcases hown with ⟨a,rfl,_⟩|⟨g,c,cur,rfl,_⟩
   ·cases a with
    |none=>rfl
    |some a=>exact absurd rfl (hno a)
   ·rfl
  obtain⟨v',w',hr,h1,h2,h3,h4⟩:=MJ (P:=P) (ty:=ty) ht hu hi hz hsize hby (hown.own hno) s h63 hbytes
  refine⟨v',w',hr,uy.of (by rw[hlen]; exact h1),by rw[<- hR]; exact h2,h3,fun k hk=>?_⟩
  rw[<- hR]; exact h4 k (MK hk)
theorem Gh{P:Program}{w:World}{ops:Array Oper}{rest:List Oper}{o:Oper}{a:Act}{Q:Exit->Act->World->Prop}(hgd:o.guard=none)(sl x:Operand)(t u:TypeId)
  (ho:o.op= .call {callee:=.builtin .append,args:= #[sl,x],argTypes:= #[t,u]}) (e:TypeId) (i:TypeInfo) (ht:P.underlying t=some (.slice e)) (hu:P.underlying u=some .string) (hi:P.info? e=some i) (hz:i.zero=some (.int .u8 0)) (hsize:i.size=1) (hby:i.bytes=1)
  (v:Value) (xs:List Value) (hs:a.eval sl=v) (hown:uy w e v xs) (s:ByteArray) (hx:a.eval x= .string s) (hbytes:xs.length+s.size<=140737488355328)
  (h: ∀ v' w',uy w' e v' (xs++Lib.strCells s)->w.grownBy w' (uz v)->w.drawn<=w'.drawn->(∀ k,uz v'=some k->uz v=some k\/w.heap.size<=k)->wpList P ops Q rest (a.put o.dst v') w'):wpList P ops Q (o::rest) a w:=by
 refine wpList_plain hgd fun K hK=>?_
 obtain⟨v',w',hr,h2,h3,h4,h5⟩:=ML (P:=P) (ty:=o.type) ht hu hi hz hsize hby hown s hbytes
 unfold Oper.wp execOp
 simp only[ho,resolve,invoke,builtin,Sem.run_bind,Sem.run_pure,Result.andThen_ok,List.map_toArray,List.map_cons,List.map_nil,hs,hx,hr]
 exact hK _ _ (h v' w' h2 h3 h4 h5)
structure Kept(b:Nat)(row:Option Nat)(w w':World):Prop where
 os:w'.os=w.os
 tape:w'.tape=w.tape
 output:w'.output=w.output
 dr:w.drawn<=w'.drawn
 size:w.heap.size<=w'.heap.size
 block: ∀ k,k<w.heap.size->k≠b->some k≠row->w'.heap[k]? =w.heap[k]?
theorem Kept.refl(b:Nat)(row:Option Nat)(w:World):Kept b row w w:=⟨rfl,rfl,rfl,Nat.le_refl _,Nat.le_refl _,fun _ _ _ _=>rfl⟩
theorem Kept.trans{b:Nat}{row:Option Nat}{w w1 w2:World}(h:Kept b row w w1)(k:Kept b row w1 w2):Kept b row w w2 :=
 ⟨k.os.trans h.os,k.tape.trans h.tape,k.output.trans h.output,Nat.le_trans h.dr k.dr,Nat.le_trans h.size k.size,fun i hi h1 h2=>(k.block i (Nat.lt_of_lt_of_le hi h.size) h1 h2).trans (h.block i hi h1 h2)⟩
theorem Kept.weak{b:Nat}{row:Option Nat}{w w':World}(h:Kept b none w w'):Kept b row w w':=⟨h.os,h.tape,h.output,h.dr,h.size,fun k h1 h2 _=>h.block k h1 h2 (by simp)⟩
theorem Kept.setCell(b:Nat)(j:Nat)(row:Option Nat)(w:World)(v:Value):Kept b row w (w.setCell ⟨b,j,none⟩ v) :=
 ⟨rfl,rfl,rfl,Nat.le_refl _,by simp[World.setCell],fun k _ hk _=>Below.heap_setCell _ _ _ _ (fun e=>hk (by simp[e]))⟩
theorem Kept.grown{b:Nat}{row:Option Nat}{w w':World}(h:w.grownBy w' row)(hd:w.drawn<=w'.drawn):Kept b row w w' :=
 ⟨h.os,h.tape,h.output,hd,h.size,fun k hk _ h2=>h.block k hk h2⟩
def lg(w:World)(b n:Nat)(T:TypeId)(p v:Value):Prop:= ∃ cur,w.heap[b]? =some (.cells cur T (0,0))/\cur.size=(n+1)*2/\cur[0]? =some p/\cur[1]? =some v
theorem lg.cell0{w:World}{b n:Nat}{T:TypeId}{p v:Value}(h:lg w b n T p v):w.cell? ⟨b,0,none⟩=some p:=by
 obtain⟨cur,h1,_,h2,_⟩:=h; rw[Lib.cell_of_heap h1,h2]
theorem lg.cell1{w:World}{b n:Nat}{T:TypeId}{p v:Value}(h:lg w b n T p v):w.cell? ⟨b,1,none⟩=some v:=by
 obtain⟨cur,h1,_,_,h2⟩:=h; rw[Lib.cell_of_heap h1,h2]
theorem lg.Rj{w:World}{b n j:Nat}{T:TypeId}{p v:Value}(h:lg w b n T p v):w.frozen? ⟨b,j,none⟩=false:=by
 obtain⟨cur,h1,_⟩:=h; exact Lib.frozen_of_heap h1 j
theorem lg.shape{w:World}{b n:Nat}{T:TypeId}{p v:Value}(h:lg w b n T p v):w.shape? b=some (T,(n+1)*2):=by
 obtain⟨cur,h1,h2,_⟩:=h; simp[World.shape?,h1,h2]
theorem lg.lt{w:World}{b n:Nat}{T:TypeId}{p v:Value}(h:lg w b n T p v):b<w.heap.size:=by
 obtain⟨cur,h1,_⟩:=h
 rcases Nat.lt_or_ge b w.heap.size with h'|h'
 ·exact h'
 ·simp[Array.getElem?_eq_none h'] at h1
theorem lg.set0{w:World}{b n:Nat}{T:TypeId}{p v:Value}(h:lg w b n T p v)(q:Value):lg (w.setCell ⟨b,0,none⟩ q) b n T q v:=by
 obtain⟨cur,h1,h2,h3,h4⟩:=h
 refine⟨cur.setIfInBounds 0 q,by simp[World.setCell,Array.getElem?_modify,h1],by simpa using h2,?_,?_⟩
 ·rw[Array.getElem?_setIfInBounds,if_pos rfl,if_pos (by omega)]
 ·rw[Array.getElem?_setIfInBounds,if_neg (by decide)]; exact h4
theorem lg.set1{w:World}{b n:Nat}{T:TypeId}{p v:Value}(h:lg w b n T p v)(q:Value):lg (w.setCell ⟨b,1,none⟩ q) b n T p q:=by
 obtain⟨cur,h1,h2,h3,h4⟩:=h
 refine⟨cur.setIfInBounds 1 q,by simp[World.setCell,Array.getElem?_modify,h1],by simpa using h2,?_,?_⟩
 ·rw[Array.getElem?_setIfInBounds,if_neg (by decide)]; exact h3
 ·rw[Array.getElem?_setIfInBounds,if_pos rfl,if_pos (by omega)]
theorem Vx{P:Program}{e:TypeId}(hc:P.cellsOf e=2)(count:Nat)(hn:1<=count):liesAt P P.depth e count 0 e 1=true:=by
 have hd:P.depth=(2*(P.types.size+Made.depth)+1)+1:=rfl
 rw[hd]
 simp only[liesAt,Bool.or_eq_true]
 left
 rw[hd]
 simp[rowAt,hc,sameLayout]
 omega
theorem Ti{P:Program}{ρ:Ren}(L:Lays.n240 P ρ)(X:Builder.X72 P ρ)(hc:P.cellsOf (ρ.t 72)=2)(b n:Nat)(v:Value)(w:World)(hb:lg w b n (ρ.t 72) (.pointer none) v) :
  Calls P (ρ.f 240) #[.pointer (some ⟨b,0,none⟩)] w fun e w'=>e= .returned (.tuple #[])/\w'=w.setCell ⟨b,0,none⟩ (.pointer (some ⟨b,0,none⟩)):=by
 obtain⟨j,hj,hjs⟩:=Option.map_eq_some_iff.1 X.sizeBuilder
 have mixed:=L.mixed
 have t72:=L.t72; have a72:=L.a72; have z72:=L.z72; have v72:=L.v72; have u72:=run_underlying L.t72
 have t70:=L.t70; have a70:=L.a70; have z70:=L.z70; have v70:=L.v70; have u70:=run_underlying L.t70
 have t9:=L.t9; have a9:=L.a9; have z9:=L.z9; have v9:=L.v9; have u9:=run_underlying L.t9
 have t4:=L.t4; have a4:=L.a4; have z4:=L.z4; have v4:=L.v4; have u4:=run_underlying L.t4
 have t164:=L.t164; have a164:=L.a164; have z164:=L.z164; have v164:=L.v164; have u164:=run_underlying L.t164
 have h0:=hb.cell0
 have hsh:=hb.shape
 have hfz:=hb.Rj (j:=0)
 go_enter L.f240,Body.n240_ntmps ρ
 go_wp2
 rw[Lib.run_to_unsafe w ⟨b,0,none⟩ L.t70 L.t164 hj (by rw[hjs]; decide) hsh (show 0<(n+1)*2 by omega)]
 simp only[Result.andThen]
 rw[Oper.upon_value]
 go_wp2
 rw[run_callFunc_extern L.f276 (by kernel_rfl) (by kernel_rfl) (by kernel_rfl) (e:=Extern.AbiNoEscape.same) (by kernel_rfl)]
 rw[Lib.run_noEscape]
 simp only[Result.andThen]
 rw[Oper.upon_value]
 go_wp2
 rw[Lib.run_from_unsafe w ⟨b,0,none⟩ L.t164 L.t70 hj hsh (Vx hc _ (by rw[hc]; omega))]
 simp only[Result.andThen]
 rw[Oper.upon_value]
 go_wp2
 go_end0
 exact⟨rfl,rfl⟩
theorem Tj{P:Program}{ρ:Ren}(L:Lays.n240 P ρ)(X:Builder.X72 P ρ)(hc:P.cellsOf (ρ.t 72)=2)(b n:Nat)(p v:Value)(w:World)(hb:lg w b n (ρ.t 72) p v)(hp:p= .pointer none\/p= .pointer (some ⟨b,0,none⟩)) :
  Calls P (ρ.f 240) #[.pointer (some ⟨b,0,none⟩)] w fun e w'=>e= .returned (.tuple #[])/\(lg w' b n (ρ.t 72) (.pointer (some ⟨b,0,none⟩)) v/\Kept b none w w'/\w'.heap.size=w.heap.size):=by
 rcases hp with rfl|rfl
 ·refine(Ti L X hc b n v w hb).mono ?_
  rintro e w' ⟨rfl,rfl⟩
  exact⟨rfl,hb.set0 _,Kept.setCell _ _ _ _ _,by simp[World.setCell]⟩
 ·refine(Any.Builder_copyCheck_used L X b w hb.cell0).mono ?_
  rintro e w' ⟨rfl,rfl⟩
  exact⟨rfl,hb,Kept.refl _ _ _,rfl⟩
set_option maxHeartbeats 2000000 in
theorem Tm{P:Program}{ρ:Ren}(L:Lays.n166 P ρ)(X:Builder.Extra P ρ)(hc:P.cellsOf (ρ.t 72)=2)(b n:Nat)(p v:Value)(bs:List Value)(s:ByteArray)(w:World)(hb:lg w b n (ρ.t 72) p v)(hp:p= .pointer none\/p= .pointer (some ⟨b,0,none⟩))(hown:uy w (ρ.t 5) v bs)
  (hlen:bs.length+s.size<=140737488355328) :
  Calls P (ρ.f 166) #[.pointer (some ⟨b,0,none⟩),.string s] w fun e w'=>e= .returned (.tuple #[.int .i64 s.size,.nilIface])/\ ∃ v',lg w' b n (ρ.t 72) (.pointer (some ⟨b,0,none⟩)) v'/\uy w' (ρ.t 5) v' (bs++Lib.strCells s) /\
   Kept b (uz v) w w'/\ ∀ k,uz v'=some k->uz v=some k\/w.heap.size<=k:=by
 obtain⟨i0,hi,hz0,hz1,hz2⟩:=info_parts X.infoByte
 have mixed:=L.mixed
 have t72:=L.t72; have a72:=L.a72; have z72:=L.z72; have v72:=L.v72; have u72:=run_underlying L.t72
 have t70:=L.t70; have a70:=L.a70; have z70:=L.z70; have v70:=L.v70; have u70:=run_underlying L.t70
 have t37:=L.t37; have a37:=L.a37; have z37:=L.z37; have v37:=L.v37; have u37:=run_underlying L.t37
 have t3:=L.t3; have a3:=L.a3; have z3:=L.z3; have v3:=L.v3; have u3:=run_underlying L.t3
 have t9:=L.t9; have a9:=L.a9; have z9:=L.z9; have v9:=L.v9; have u9:=run_underlying L.t9
 have t4:=L.t4; have a4:=L.a4; have z4:=L.z4; have v4:=L.v4; have u4:=run_underlying L.t4
 have t164:=L.t164; have a164:=L.a164; have z164:=L.z164; have v164:=L.v164; have u164:=run_underlying L.t164
 have t5:=X.t5; have a5:=X.a5; have z5:=X.z5; have v5:=X.v5; have u5:=run_underlying X.t5
 have e240: ∀ args w,(callFunc (ρ.f 240) args).run P w= .ok (.enter (ρ.f 240) args) w:=enters_of L.f240 (by kernel_rfl) rfl
 have hne:=X.neB5
 go_enter L.f166,Body.n166_ntmps ρ
 go_wp2_with (go_at_fn (ρ.f 240); refine(Tj {L with} X.toX72 hc b n p v _ hb hp).mono ?_)
 rintro e w1 ⟨rfl,hb1,hk1,hsz⟩
 have hn0:uz v≠some b:=by obtain⟨cur,h1,_⟩:=hb; exact hown.ne h1 hne
 have hown1:uy w1 (ρ.t 5) v bs:=hown.kept fun g hg=>by
  rcases Nat.lt_or_ge g w.heap.size with h'|h'
  ·exact hk1.block g h' (fun e=>hn0 (by rw[hg,e])) (by simp)
  ·rw[Array.getElem?_eq_none h',Array.getElem?_eq_none (by omega)]
 have hn:uz v≠some b:=hn0
 have c0:=hb1.cell0
 have c1:=hb1.cell1
 go_wp2_with (at_builtin; refine Gh rfl _ _ (ρ.t 37) (ρ.t 9) rfl (ρ.t 5) i0 L.t37 L.t9 hi hz0 hz1 hz2 _ _ rfl hown1 s rfl ?c4 ?_)
 case c4=>omega
 intro v' w2 hown' hgrow hdr hfr
 have hb2:lg w2 b n (ρ.t 72) (.pointer (some ⟨b,0,none⟩)) v:=by
  have hlt:=hb1.lt
  obtain⟨cur,h1,h2⟩:=hb1
  exact⟨cur,by rw[hgrow.block b hlt (fun e=>hn e.symm)]; exact h1,h2⟩
 have d0:=hb2.cell0
 have d1:=hb2.cell1
 have f1:=hb2.Rj (j:=1)
 have hn2:uz v'≠some b:=by obtain⟨cur,h1,_⟩:=hb2; exact hown'.ne h1 hne
 obtain⟨ao,n',cap,rfl⟩: ∃ ao n' cap,v'= .slice ao n' cap:=by
  rcases hown' with ⟨a,hv,_⟩|⟨g,cap,cur,hv,_⟩
  ·exact⟨_,_,_,hv⟩
  ·exact⟨_,_,_,hv⟩
 go_wp2
 go_ret2
 refine⟨rfl,.slice ao n' cap,?_,?_,(hk1.weak.trans (Kept.grown hgrow hdr)).trans (Kept.setCell _ _ _ _ _),fun k hk=>?_⟩
 ·exact hb2.set1 _
 ·exact hown'.kept fun g hg=>Below.heap_setCell _ _ _ _ (fun e=>hn2 (by rw[hg]; simpa using e))
 ·exact hfr k hk
theorem MN(b g n:Nat)(w:World):Kept b (some g) w (w.drew.freeze ⟨g,0,none⟩ n):=by
 have hd:w.drew.drawn=w.drawn+1:=rfl
 unfold World.freeze
 split
 ·exact⟨rfl,rfl,rfl,Nat.le_succ _,Nat.le_refl _,fun _ _ _ _=>rfl⟩
 ·refine⟨rfl,rfl,rfl,Nat.le_succ _,by simp,fun k _ _ hk=>?_⟩
  show(w.drew.heap.modify g _)[k]? =_
  rw[Array.getElem?_modify,if_neg (fun e=>hk (by rw[e]))]
  rfl
set_option maxHeartbeats 1000000 in
theorem Px{P:Program}{ρ:Ren}(L:Lays.n169 P ρ)(X:Builder.Extra P ρ)(b n g cap:Nat)(p:Value)(l:List UInt8)(w:World)(hb:lg w b n (ρ.t 72) p (.slice (some ⟨g,0,none⟩) l.length cap))(hbuf:uy w (ρ.t 5) (.slice (some ⟨g,0,none⟩) l.length cap) (Lib.byteCells l))(h0:l≠[]) :
  Calls P (ρ.f 169) #[.pointer (some ⟨b,0,none⟩)] w fun e w'=>e= .returned (.string ⟨l.toArray⟩)/\Kept b (some g) w w':=by
 have hl0:l.length≠0:=by simpa using h0
 have hown:=hbuf.own fun a h=>hl0 (by injection h)
 rw[Lib.byteCells_length] at hown
 obtain⟨cur,hg,hnc,hcm,hcs⟩: ∃ cur,w.heap[g]? =some (.cells cur (ρ.t 5) (0,0))/\l.length<=cap/\cap<=maxLen/\cur.size=cap*1:=by
  rcases hown.2 with ⟨_,hz⟩|⟨g',cap',cur,hv,_,r1,r2,r3,r4,_⟩
  ·exact absurd hz hl0
  ·cases hv; exact⟨cur,r1,r2,r3,r4⟩
 have c1:w.drew.cell? ⟨b,1,none⟩=some (.slice (some ⟨g,0,none⟩) l.length cap):=hb.cell1
 have hSD:(Builtin.unsafeSliceData_ #[(ρ.t 37)] (ρ.t 127) #[.slice (some ⟨g,0,none⟩) l.length cap]).run P w.drew= .ok (.pointer (some ⟨g,0,none⟩)) w.drew :=
  Lib.run_unsafeSliceData_row _ _ _ _ _ _ (by omega)
 have hUS:(Builtin.unsafeString_ #[(ρ.t 127),(ρ.t 3)] (ρ.t 9) #[.pointer (some ⟨g,0,none⟩),.int .i64 l.length]).run P w.drew= .ok (.string ⟨l.toArray⟩) (w.drew.freeze ⟨g,0,none⟩ l.length):=by
  refine Lib.run_unsafeString_row w.drew (ρ.t 127) (ρ.t 3) (ρ.t 9) (ρ.t 5) L.t127 X.cellsByte g cur.size (by have hg':w.drew.heap[g]? =some (.cells cur (ρ.t 5) (0,0)):=hg; simp[World.shape?,hg']) l h0 (by omega) (by unfold maxLen at hcm; omega) ?_
  intro j x hx
  have:=hown.cells (g:=g) rfl j (.int .u8 x.toNat) (by simp[Lib.byteCells,hx])
  exact this
 have mixed:=L.mixed
 have t72:=L.t72; have a72:=L.a72; have z72:=L.z72; have v72:=L.v72; have u72:=run_underlying L.t72
 have t70:=L.t70; have a70:=L.a70; have z70:=L.z70; have v70:=L.v70; have u70:=run_underlying L.t70
 have t37:=L.t37; have a37:=L.a37; have z37:=L.z37; have v37:=L.v37; have u37:=run_underlying L.t37
 have t127:=L.t127; have a127:=L.a127; have z127:=L.z127; have v127:=L.v127; have u127:=run_underlying L.t127
 have t3:=L.t3; have a3:=L.a3; have z3:=L.z3; have v3:=L.v3; have u3:=run_underlying L.t3
 have t9:=L.t9; have a9:=L.a9; have z9:=L.z9; have v9:=L.v9; have u9:=run_underlying L.t9
 have t5:=X.t5; have a5:=X.a5; have z5:=X.z5; have v5:=X.v5; have u5:=run_underlying X.t5
 go_enter L.f169,Body.n169_ntmps ρ
 go_wp2
 go_region_o
 all_goals (go_wp2; go_ret; exact⟨rfl,MN b g l.length w⟩)
end Go.Proofs.YtbigdcimbhgjbaaGreatDoor
namespace Go.Proofs.YtbigdcimbhgjbaaGreatDoor
open Go.Proofs Go.Shelf Go.RowKit
set_option maxRecDepth 100000
def lays166_ren:Go.Shelf.Ren:=⟨fun|166=>11|240=>29|276=>46|n=>n,fun|0=>0|3=>3|4=>4|5=>5|9=>9|20=>20|37=>41|70=>40|72=>43|75=>45|80=>49|164=>100|n=>n,fun n=>n⟩
theorem lays166:Lays.n166 Tryz.prog lays166_ren:= {
 mixed:=by kernel_rfl
 f166:=Tryz.func11.trans (congrArg some (by kernel_rfl))
 f240:=Tryz.func29.trans (congrArg some (by kernel_rfl))
 f276:=Tryz.func46.trans (congrArg some (by kernel_rfl))
 t0:=Tryz.underlying0
 a0:=Tryz.isAgg0
 z0:=Tryz.sizeOf0
 v0:=Tryz.zeroValue0
 t3:=Tryz.underlying3
 a3:=Tryz.isAgg3
 z3:=Tryz.sizeOf3
 v3:=Tryz.zeroValue3
 t4:=Tryz.underlying4
 a4:=Tryz.isAgg4
 z4:=Tryz.sizeOf4
 v4:=Tryz.zeroValue4
 t9:=Tryz.underlying9
 a9:=Tryz.isAgg9
 z9:=Tryz.sizeOf9
 v9:=Tryz.zeroValue9
 t20:=Tryz.underlying20
 a20:=Tryz.isAgg20
 z20:=Tryz.sizeOf20
 v20:=Tryz.zeroValue20
 t37:=Tryz.underlying41
 a37:=Tryz.isAgg41
 z37:=Tryz.sizeOf41
 v37:=Tryz.zeroValue41
 t70:=Tryz.underlying40
 a70:=Tryz.isAgg40
 z70:=Tryz.sizeOf40
 v70:=Tryz.zeroValue40
 t72:=Tryz.underlying43
 a72:=Tryz.isAgg43
 z72:=Tryz.sizeOf43
 v72:=Tryz.zeroValue43
 t75:=Tryz.underlying45
 a75:=Tryz.isAgg45
 z75:=Tryz.sizeOf45
 v75:=Tryz.zeroValue45
 t164:=Tryz.underlying100
 a164:=Tryz.isAgg100
 z164:=Tryz.sizeOf100
 v164:=Tryz.zeroValue100
 }
theorem aaF:Builder.Extra Tryz.prog lays166_ren:= {
 sizeBuilder:=by kernel_rfl
 liesBuilder:=by kernel_rfl
 t5:=Tryz.underlying5
 a5:=Tryz.isAgg5
 z5:=Tryz.sizeOf5
 v5:=Tryz.zeroValue5
 infoByte:=by kernel_rfl
 cellsByte:=by kernel_rfl
 sizeByte:=by kernel_rfl
 neB5:=by decide}
def lays169_ren:Go.Shelf.Ren:=⟨fun|169=>13|n=>n,fun|70=>40|9=>9|0=>0|72=>43|37=>41|127=>73|3=>3|5=>5|n=>n,fun n=>n⟩
theorem lays169:Lays.n169 Tryz.prog lays169_ren:= {
 mixed:=by kernel_rfl
 f169:=Tryz.func13.trans (congrArg some (by kernel_rfl))
 t0:=Tryz.underlying0
 a0:=Tryz.isAgg0
 z0:=Tryz.sizeOf0
 v0:=Tryz.zeroValue0
 t3:=Tryz.underlying3
 a3:=Tryz.isAgg3
 z3:=Tryz.sizeOf3
 v3:=Tryz.zeroValue3
 t9:=Tryz.underlying9
 a9:=Tryz.isAgg9
 z9:=Tryz.sizeOf9
 v9:=Tryz.zeroValue9
 t37:=Tryz.underlying41
 a37:=Tryz.isAgg41
 z37:=Tryz.sizeOf41
 v37:=Tryz.zeroValue41
 t70:=Tryz.underlying40
 a70:=Tryz.isAgg40
 z70:=Tryz.sizeOf40
 v70:=Tryz.zeroValue40
 t72:=Tryz.underlying43
 a72:=Tryz.isAgg43
 z72:=Tryz.sizeOf43
 v72:=Tryz.zeroValue43
 t127:=Tryz.underlying73
 a127:=Tryz.isAgg73
 z127:=Tryz.sizeOf73
 v127:=Tryz.zeroValue73}
theorem aaG:Builder.Extra Tryz.prog lays169_ren:= {
 sizeBuilder:=by kernel_rfl
 liesBuilder:=by kernel_rfl
 t5:=Tryz.underlying5
 a5:=Tryz.isAgg5
 z5:=Tryz.sizeOf5
 v5:=Tryz.zeroValue5
 infoByte:=by kernel_rfl
 cellsByte:=by kernel_rfl
 sizeByte:=by kernel_rfl
 neB5:=by decide}
end Go.Proofs.YtbigdcimbhgjbaaGreatDoor
