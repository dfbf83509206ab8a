import Derived.Test.YtpjcdbjablijkaaGreatDoorTat
import Derived.Test.YtpjcdbjablijkaaGreatDoorTaw
import Derived.Test.YtpjcdbjablijkaaGreatDoorTaa
set_option linter.unusedSimpArgs false
set_option maxRecDepth 1000000
set_option maxHeartbeats 40000000
namespace Go.Lx
open Go.Hb Go.Rb Go.Bg Go.Pf
theorem byte_byt (s:ByteArray) (k:Nat):(byt s k).toNat=byte s k:=by unfold byt byte;exact Int.toNat_natCast _
theorem byte_ext {s:ByteArray} {f t k:Nat}(hk:f+k<t) (ht:t≤s.size):byte (s.extract f t) k=byte s (f+k):=by
 unfold byte
 have h1:k<(s.extract f t).size:=by rw[ByteArray.size_extract];omega
 rw[List.getD_eq_getElem?_getD,List.getD_eq_getElem?_getD,Lib.extract_data,List.getElem?_take,if_pos (by omega),List.getElem?_drop]
theorem byte_in {s:ByteArray} {k:Nat}(h:k<s.size):byte s k=s[k].toNat:=byte_get h
theorem byte_app {a b:ByteArray} {k:Nat} :byte (a++b) k=if k<a.size then byte a k else byte b (k-a.size):=by
 have hsz:a.data.toList.length=a.size:=by simp
 unfold byte
 rw[ByteArray.data_append,Array.toList_append,List.getD_eq_getElem?_getD,List.getD_eq_getElem?_getD,List.getD_eq_getElem?_getD,List.getElem?_append,hsz]
 split<;>rfl
theorem fltD_size {s:ByteArray} {a p:Nat}(hap:a≤p) (hp:p<s.size):(fltD s a p).size=(p-a)+(rowE digB s (p+1)-(p+1)):=by
 have h1:=rowE_le digB s (p+1) hp
 have h2:=rowE_ge digB s (p+1)
 unfold fltD
 rw[ByteArray.size_append,ByteArray.size_extract,ByteArray.size_extract]
 omega
theorem fltF_err {s:ByteArray} {a p t:Nat} {x:Int}(h:400<rowE digB s (p+1)-a-1):fltF s a p x t= .err a 34:=by unfold fltF;rw[if_pos h]
theorem fltF_dec {s:ByteArray} {a p t b:Nat} {x:Int}(h:¬400<rowE digB s (p+1)-a-1) (hb:b=fltB (vN 10 (fltD s a p) (fltD s a p).size) (x-((rowE digB s (p+1):Int)-p-1))):
 (b<infB→fltF s a p x t= .ok 5 ⟨#[]⟩ ⟨#[]⟩ b a t)∧(¬b<infB→fltF s a p x t= .err a 34):=by
 unfold fltF
 rw[if_neg h,←hb]
 exact⟨fun h=>if_pos h,fun h=>if_neg h⟩
end Go.Lx
